/- Lemmas. -/
import Derived.Test.YthgeclodflmiaaaGreatD13
import Derived.Test.YthgeclodflmiaaaGreatD18
import Derived.Test.YthgeclodflmiaaaGreatProg
import Derived.KernelRfl
import Derived.WalkKit
set_option linter.unusedVariables false
set_option linter.unusedSimpArgs false
set_option maxRecDepth 100000
set_option maxHeartbeats 4000000
namespace Go.Civ
open Go.Proofs
theorem ZqE {G : GH} {w : World} (hG : G.In w) (x : Span) (cx : List Value) (hcx : SpanE.rep G x cx) : CL Tryz.prog (nat_lit 187) #[.agg cx.toArray] [] w G fun _ _ r=>r = .bool (!XD x):=by
 refine Zh ft [] Tryz.func187 U U ?_
 have hS:=St.start (X:=[]) hG
 obtain ⟨rfl,B1,B2⟩:=ZI hcx
 refine Zw [S x.a,S x.b] _ hS U U U (fun p1 w1 G1 L1 M1 C1 S1=>?_)
 refine Zb S1 C1 [S x.a,S x.b] Z2 U U U U U ?_
 refine Zr S1 ZlW U U U (ZdO S1.imm x _ (Z1 x B1 B2)) (fun w2 G2 S2 L2=>?_)
 exact RB S2 U (by rfl)
theorem ZqF {G : GH} {w : World} (hG : G.In w) (l : List Span) (pf : Span → Bool) (vl : Value) (hvl : Sl SpanE 16 G vl l) (fid : Nat) (fcap : Array Value) (hf : FnB Tryz.prog (Is SpanE) fid fcap G (fun x=>x ∈ l) pf) : CL Tryz.prog (nat_lit 226) #[vl, .func (.func fid) #[] fcap] [] w G fun _ _ r=>r = S (Qi pf l):=by
 refine Zh ft [] Tryz.func226 U U ?_
 have hS:=St.start (X:=[]) hG
 have V1:=hvl.bound
 refine Zl hvl Xe U U ?_
 refine LP.go ft [] (fun m ρ1 w1=>∃ (k1 : Nat),∃ (G1 : GH),m = l.length - k1 ∧ G.le G1 ∧ St w [] G G1 [] w1 ∧ FR ρ1 [(0,vl),(1, .func (.func fid) #[] fcap),(7,S (l.length : Int)),(8,S (k1 : Int))] ∧ k1 ≤ l.length ∧ ∀ j,j < k1 → ∀ x,l[j]? = some x → pf x = false) _ ⟨0,G,U,(G.le_refl),hS,(Zq U),(by omega),(by intro j hj; omega)⟩ ?_
 rintro m ρ1 w1 ⟨k1,G1,rfl,L1,S1,F9,f1,f2⟩
 refine F9.set ?_
 clear F9
 refine Zp (k1 : Int) (l.length : Int) U U U (fun h1=>?_) (fun h1=>?_)
 ·refine WL.indexAddr (hvl.mono L1) k1 (by omega) Xe Z2 U U U U (fun p1 x1 U1 E1=>?_)
  obtain ⟨D1,C1,R1⟩:=E1
  obtain ⟨rfl,B1,B2⟩:=ZI R1
  refine Zb S1 C1 [S x1.a,S x1.b] Z2 U U U U U ?_
  refine Zr S1 hf.body U U U (hf.call _ _ (.agg #[S x1.a,S x1.b]) x1 L1 S1.imm (List.mem_of_getElem? U1) ⟨_,U,(Z1 x1 B1 B2)⟩) (fun w2 G2 S2 L2=>?_)
  refine WL.split (fun (h2 : (pf x1) = true)=>?_) (fun (h2 : (pf x1) = false)=>?_)
  ·exact RI S2 U (by exact (QO _ ‹_› ‹_› ‹_›).symm)
  refine Zj k1 (by have:=Zc; omega) U U U ?_
  exact BK.mk' _ ⟨k1 + 1,G2,U,(L1.trans L2),S2,(Zq U),(by omega),(by exact ZW ‹_› ‹_› ‹_›)⟩ (show l.length - (k1 + 1) < l.length - k1 by omega)
 exact RI S1 U (by exact (Q2 ‹_› (by omega)).symm)
theorem Zmu {G : GH} {w : World} (hG : G.In w) (l : List Span) (pf : Span → Bool) (vl : Value) (hvl : Sl SpanE 16 G vl l) (fid : Nat) (fcap : Array Value) (hf : FnB Tryz.prog (Is SpanE) fid fcap G (fun x=>x ∈ l) pf) : CL Tryz.prog (nat_lit 186) #[vl, .func (.func fid) #[] fcap] [] w G fun _ _ r=>r = .bool (l.any pf):=by
 refine Zh ft [] Tryz.func186 U U ?_
 have hS:=St.start (X:=[]) hG
 refine Zr hS Zzm U U U (ZqF hS.imm l pf _ hvl fid fcap (hf.up (G.le_refl))) (fun w1 G1 S1 L1=>?_)
 refine Yf .geq U .i64 (Qi pf l) 0 U U U ?_
 exact RB S1 U (by exact ZcH _ _)
theorem ZeA {G : GH} {w : World} (hG : G.In w) (l : List Span) (vl : Value) (hvl : Sl SpanE 16 G vl l) (hC : Can l) (hV : ∀ s ∈ l,XD s = true) (hl : l.length ≤ 2000) : CL Tryz.prog (nat_lit 39) #[vl] [] w G fun _ _ r=>r = .bool true:=by
 refine Zh ft [] Tryz.func39 U U ?_
 have hS:=St.start (X:=[]) hG
 have V1:=hvl.bound
 refine Zl hvl Xe U U ?_
 refine Xd (l.length : Int) 2000 U U U (fun h1=>?_) (fun h1=>?_)
 ·exact RB hS U (by (exfalso; omega))
 have V2:=hvl.bound
 refine Zl hvl Xe U U ?_
 refine LP.go ft [] (fun m ρ1 w1=>∃ (k1 : Nat),∃ (G1 : GH),m = l.length - k1 ∧ G.le G1 ∧ St w [] G G1 [] w1 ∧ FR ρ1 [(0,vl),(8,vl),(9,S (l.length : Int)),(10,S (k1 : Int))] ∧ k1 ≤ l.length) _ ⟨0,G,U,(G.le_refl),hS,(Zq U),(by omega)⟩ ?_
 rintro m ρ1 w1 ⟨k1,G1,rfl,L1,S1,F9,f1⟩
 refine F9.set ?_
 clear F9
 refine Zp (k1 : Int) (l.length : Int) U U U (fun h2=>?_) (fun h2=>?_)
 ·refine WL.indexAddr (hvl.mono L1) k1 (by omega) Xe Z2 U U U U (fun p1 x1 U1 E1=>?_)
  obtain ⟨D1,C1,R1⟩:=E1
  obtain ⟨rfl,B1,B2⟩:=ZI R1
  refine Zb S1 C1 [S x1.a,S x1.b] Z2 U U U U U ?_
  refine WL.alloc S1 Z2 U U (fun b1 w2 N1 S2=>?_)
  refine Zi S2 0 [S x1.a,S x1.b] U U Z2 U U U U U U (fun w3 S3=>?_)
  obtain ⟨G2,L2,C2,S4⟩:=S3.shutB N1
  rcases Bool.eq_false_or_eq_true (XD x1) with h3 | h3
  ·rcases Cmp.dec .gtr (k1 : Int) 0 with ⟨B3,q1⟩ | ⟨B3,q1⟩
   ·have h4 : 0 < (k1 : Int):=q1
    clear q1
    obtain ⟨p2,x2,U2,E2,W1⟩:=Sl.at (hvl.mono (L1.trans L2)) (k1 - 1) (by omega)
    obtain ⟨D2,C3,R2⟩:=E2
    obtain ⟨rfl,B4,B5⟩:=ZI R2
    rcases Cmp.dec .geq x2.b x1.a with ⟨B6,q2⟩ | ⟨B6,q2⟩
    ·have h5 : x1.a ≤ x2.b:=q2
     clear q2
     refine dr [] [(15, .agg #[S x1.a,S x1.b]),(16, .bool true),(20, .bool true),(24,S ((k1 - 1 : Nat) : Int)),(25,Zs p2),(27,S x2.b),(29,S x1.a),(30, .bool true)] S4 ⟨fun _ hSw=>Zb hSw C2 [S x1.a,S x1.b] Z2 U U U U U <| nu U U,fun _ hSw=>Z3 hSw ZlW U U U (ZdO hSw.imm x1 _ (Z1 x1 B1 B2)) (congrArg Value.bool h3.symm),fun _=>WL.cmpV .gtr U .i64 (k1 : Int) 0 _ B3 U U U <| nu U U,fun _=>QR k1 (by omega) (by have:=Zc; omega) U U U <| nu U U,fun _=>Zg (k1 - 1) W1 Xe Z2 U U U U <| nu U U,fun _ hSw=>Z hSw (XC.drop 1 C3) Zt U U U <| nu U U,fun _ hSw=>Z hSw (XC.drop 0 C2) Zt U U U <| nu U U,fun _=>WL.cmpV .geq U .i64 x2.b x1.a _ B6 U U U <| nu U U,trivial⟩ (fun w4 S5=>?_)
     exact RB S5 U (by exact (ZvJ hC ‹_› ‹_› (by omega) ‹_›).elim)
    have h5 : x2.b < x1.a:=q2
    clear q2
    refine dr [] [(15, .agg #[S x1.a,S x1.b]),(16, .bool true),(20, .bool true),(24,S ((k1 - 1 : Nat) : Int)),(25,Zs p2),(27,S x2.b),(29,S x1.a),(30, .bool false)] S4 ⟨fun _ hSw=>Zb hSw C2 [S x1.a,S x1.b] Z2 U U U U U <| nu U U,fun _ hSw=>Z3 hSw ZlW U U U (ZdO hSw.imm x1 _ (Z1 x1 B1 B2)) (congrArg Value.bool h3.symm),fun _=>WL.cmpV .gtr U .i64 (k1 : Int) 0 _ B3 U U U <| nu U U,fun _=>QR k1 (by omega) (by have:=Zc; omega) U U U <| nu U U,fun _=>Zg (k1 - 1) W1 Xe Z2 U U U U <| nu U U,fun _ hSw=>Z hSw (XC.drop 1 C3) Zt U U U <| nu U U,fun _ hSw=>Z hSw (XC.drop 0 C2) Zt U U U <| nu U U,fun _=>WL.cmpV .geq U .i64 x2.b x1.a _ B6 U U U <| nu U U,trivial⟩ (fun w5 S6=>?_)
    refine Zj k1 (by have:=Zc; omega) U U U ?_
    exact BK.mk' _ ⟨k1 + 1,G2,U,(L1.trans L2),S6,(Zq U),(by omega)⟩ (show l.length - (k1 + 1) < l.length - k1 by omega)
   have h4 : (k1 : Int) ≤ 0:=q1
   clear q1
   refine dr [] [(15, .agg #[S x1.a,S x1.b]),(16, .bool true),(20, .bool false)] S4 ⟨fun _ hSw=>Zb hSw C2 [S x1.a,S x1.b] Z2 U U U U U <| nu U U,fun _ hSw=>Z3 hSw ZlW U U U (ZdO hSw.imm x1 _ (Z1 x1 B1 B2)) (congrArg Value.bool h3.symm),fun _=>WL.cmpV .gtr U .i64 (k1 : Int) 0 _ B3 U U U <| nu U U,trivial⟩ (fun w6 S7=>?_)
   refine Zj k1 (by have:=Zc; omega) U U U ?_
   exact BK.mk' _ ⟨k1 + 1,G2,U,(L1.trans L2),S7,(Zq U),(by omega)⟩ (show l.length - (k1 + 1) < l.length - k1 by omega)
  refine dr [] [(15, .agg #[S x1.a,S x1.b]),(16, .bool false)] S4 ⟨fun _ hSw=>Zb hSw C2 [S x1.a,S x1.b] Z2 U U U U U <| nu U U,fun _ hSw=>Z3 hSw ZlW U U U (ZdO hSw.imm x1 _ (Z1 x1 B1 B2)) (congrArg Value.bool h3.symm),trivial⟩ (fun w7 S8=>?_)
  exact RB S8 U (by exact absurd (hV _ (List.mem_of_getElem? ‹_›)) (Bool.eq_false_iff.1 ‹_›))
 exact RB S1 U (by rfl)
theorem ZiF {G : GH} {w : World} (hG : G.In w) (l : List Span) (vl : Value) (hvl : Sl SpanE 16 G vl l) (hl : l.length ≤ 2000) : CL Tryz.prog (nat_lit 181) #[vl] [] w G fun G' _ r=>∃ r0 r1,r = .tuple #[r0,r1] ∧ Sl SpanE 16 G' r0 l ∧ r1 = S 0:=by
 refine Zh ft [] Tryz.func181 U U ?_
 have hS:=St.start (X:=[]) hG
 have V1:=hvl.bound
 refine Zl hvl Xe U U ?_
 refine Xd (l.length : Int) 2000 U U U (fun h1=>?_) (fun h1=>?_)
 ·exact RT hS U ⟨_,_,U,(Sl.cast (Sl.nil SpanE 16 G) (by (exfalso; omega))),(congrArg (Value.int .i64) (by (exfalso; omega)))⟩
 exact RT hS U ⟨_,_,U,(Sl.cast hvl (by rfl)),(congrArg (Value.int .i64) (by rfl))⟩
theorem ZaW {G : GH} {w : World} (hG : G.In w) (l : List Span) (n : Nat) (vl : Value) (hvl : Sl SpanE 16 G vl l) (hn : n ≤ 2 * l.length) (hl : l.length ≤ 2000) : CL Tryz.prog (nat_lit 180) #[vl,S (n : Int)] [] w G fun _ _ r=>r = S (Zd l n):=by
 refine Zh ft [] Tryz.func180 U U ?_
 have hS:=St.start (X:=[]) hG
 have V1:=hvl.bound
 refine Zl hvl Xe U U ?_
 refine ZgF 2 l.length (by have:=Zc; omega) U U U ?_
 refine ZC (n : Int) ((2 * l.length : Nat) : Int) U U U (fun h1=>?_) (fun h1=>?_)
 ·exact RI hS U (by exact (Zep (by omega)).symm)
 refine Qd n 2 (by omega) (by have:=Zc; omega) U U U ?_
 refine ZC ((n % 2 : Nat) : Int) 0 U U U (fun h2=>?_) (fun h2=>?_)
 ·refine ZnM n 2 (by omega) (by have:=Zc; omega) U U U ?_
  refine WL.indexAddr hvl (n / 2) (by omega) Xe Z2 U U U U (fun p1 x1 U1 E1=>?_)
  obtain ⟨D1,C1,R1⟩:=E1
  obtain ⟨rfl,B1,B2⟩:=ZI R1
  refine Z hS (XC.drop 0 C1) Zt U U U ?_
  exact RI hS U (by exact (ZvK (by omega) ‹_› (by omega)).symm)
 refine ZnM n 2 (by omega) (by have:=Zc; omega) U U U ?_
 refine WL.indexAddr hvl (n / 2) (by omega) Xe Z2 U U U U (fun p2 x2 U2 E2=>?_)
 obtain ⟨D2,C2,R2⟩:=E2
 obtain ⟨rfl,B3,B4⟩:=ZI R2
 refine Z hS (XC.drop 1 C2) Zt U U U ?_
 exact RI hS U (by exact (ZvL (by omega) ‹_› (by omega)).symm)
theorem Zbr {G : GH} {w : World} (hG : G.In w) (a b : Bool) : CL Tryz.prog (nat_lit 131) #[.bool a, .bool b] [] w G fun _ _ r=>r = .bool (a && !b):=by
 refine Zh ft [] Tryz.func131 U U ?_
 have hS:=St.start (X:=[]) hG
 refine Qn (d:=0) U (fun (h1 : a = true)=>?_) (fun (h1 : a = false)=>?_)
 ·exact RB hS U (by simp_all)
 exact RB hS U (by simp_all)
theorem ZqG {G : GH} {w : World} (hG : G.In w) (a b : List Span) (va : Value) (hva : Sl SpanE 16 G va a) (vb : Value) (hvb : Sl SpanE 16 G vb b) (hCa : Can a) (hCb : Can b) (hVa : ∀ s ∈ a,XD s = true) (hVb : ∀ s ∈ b,XD s = true) (hla : a.length ≤ 1000) (hlb : b.length ≤ 1000) : CL Tryz.prog (nat_lit 130) #[va,vb, .func (.func 131) #[] #[]] [] w G fun G' _ r=>∃ r0 r1,r = .tuple #[r0,r1] ∧ Sl SpanE 16 G' r0 (Yh 3 a b) ∧ r1 = S 0:=by
 refine Zh ft [] Tryz.func130 U U ?_
 have hS:=St.start (X:=[]) hG
 refine Zr hS ZlU U U U (ZeA hS.imm a _ hva ‹_› ‹_› (by omega)) (fun w1 G1 S1 L1=>?_)
 refine Zr S1 ZlU U U U (ZeA S1.imm b _ (hvb.mono L1) ‹_› ‹_› (by omega)) (fun w2 G2 S2 L2=>?_)
 have S4:=S2.pad
 refine LP.go ft [] (fun m ρ1 w1=>∃ (i : Nat),∃ (n : Nat),∃ (ins : Bool),∃ (fr : Int),∃ (out9 : List Span),∃ (T : Int),∃ (v1 : Value) (o1 : OB),∃ (G3 : GH),m = (2 * a.length + 2 * b.length - i - n) ∧ G2.le G3 ∧ St w [] G G3 [o1] w1 ∧ ZS SpanE 16 33 G3 v1 out9 o1 ∧ FR ρ1 [(0,va),(1,vb),(2, .func (.func 131) #[] #[]),(8,v1),(9,S (i : Int)),(10,S (n : Int)),(11, .func (.func 180) #[] #[]),(12, .bool ins),(13,S fr)] ∧ Sweep a b i n ins fr out9 T) _ ⟨0,0,false,0,[],(-8796093022208),(Ze),none,G2,U,(G2.le_refl),S4,(ZS.nil SpanE 16 33 G2),(Zq U),(Sweep.start hVa hVb)⟩ ?_
 rintro m ρ1 w3 ⟨i,n,ins,fr,out9,T,v1,o1,G3,rfl,L3,S3,R1,F9,f1⟩
 refine F9.set ?_
 clear F9
 have hba9:=(by assumption : Sweep a b i n ins fr out9 T).ba.le
 have hbb9:=(by assumption : Sweep a b i n ins fr out9 T).bb.le
 have hbd9:=(by assumption : Sweep a b i n ins fr out9 T).bds
 have hfr9 : Z0 fr:=⟨by omega,by omega⟩
 have V1:=hva.bound
 have j1:=((L1.trans L2).trans L3)
 refine Zl (hva.mono j1) Xe U U ?_
 refine ZgF 2 a.length (by have:=Zc; omega) U U U ?_
 refine Zp (i : Int) ((2 * a.length : Nat) : Int) U U U (fun h1=>?_) (fun h1=>?_)
 ·refine Zr S3 Zda U U U (ZaW S3.imm a i _ (hva.mono j1) (by omega) (by omega)) (fun w4 G4 S5 L4=>?_)
  have j2:=(j1.trans L4)
  refine Zr S5 Zda U U U (ZaW S5.imm b n _ (hvb.mono j2) (by omega) (by omega)) (fun w5 G5 S6 L5=>?_)
  refine Zjh (Zd a i) (Zd b n) U U U ?_
  have j3:=(j2.trans L5)
  refine Zr S6 Zda U U U (ZaW S6.imm a i _ (hva.mono j3) (by omega) (by omega)) (fun w6 G6 S7 L6=>?_)
  refine ZC (Zd a i) (min (Zd a i) (Zd b n)) U U U (fun h2=>?_) (fun h2=>?_)
  ·refine Zj i (by have:=Zc; omega) U U U ?_
   refine Zr S7 Zda U U U (ZaW S7.imm b n _ (hvb.mono (j3.trans L6)) (by omega) (by omega)) (fun w7 G7 S8 L7=>?_)
   refine ZC (Zd b n) (min (Zd a i) (Zd b n)) U U U (fun h3=>?_) (fun h3=>?_)
   ·refine Zj n (by have:=Zc; omega) U U U ?_
    have hnx:=Sweep.next (i':=i + 1) (k':=n + 1) (by assumption : Sweep a b i n ins fr out9 T) hCa hCb hVa hVb U (by exact .inl (by omega)) (by exact Adv.yes ‹_›) (by exact Adv.yes ‹_›)
    have N1:=hnx.lt; have N2:=hnx.tb; have N3:=hnx.adv; have N4:=hnx.ba.le; have N5:=hnx.bb.le
    have hat9 : Z0 (min (Zd a i) (Zd b n)):=⟨by omega,by omega⟩
    refine Qd (i + 1) 2 (by omega) (by have:=Zc; omega) U U U ?_
    refine Yf .eql U .i64 (((i + 1) % 2 : Nat) : Int) 1 U U U ?_
    refine Qd (n + 1) 2 (by omega) (by have:=Zc; omega) U U U ?_
    refine Yf .eql U .i64 (((n + 1) % 2 : Nat) : Int) 1 U U U ?_
    refine Zr S8 Zee U U U (Zbr S8.imm (Cmp.b .eql (((i + 1) % 2 : Nat) : Int) 1) (Cmp.b .eql (((n + 1) % 2 : Nat) : Int) 1)) (fun w9 G9 S9 L9=>?_)
    refine WL.split (fun (h4 : ((Cmp.b .eql (((i + 1) % 2 : Nat) : Int) 1) && !(Cmp.b .eql (((n + 1) % 2 : Nat) : Int) 1)) = true)=>?_) (fun (h4 : ((Cmp.b .eql (((i + 1) % 2 : Nat) : Int) 1) && !(Cmp.b .eql (((n + 1) % 2 : Nat) : Int) 1)) = false)=>?_)
    ·refine X9 true ins ul4 U U U ?_
     refine WL.split (fun (h5 : (true == ins) = true)=>?_) (fun (h5 : (true == ins) = false)=>?_)
     ·exact BK.mk' _ ⟨i + 1,n + 1,ins,fr,out9,(min (Zd a i) (Zd b n)),v1,o1,G9,U,(L3.trans ((((L4.trans L5).trans L6).trans L7).trans L9)),S9,(R1.mono ((((L4.trans L5).trans L6).trans L7).trans L9)),(Zq U),(by exact Sweep.keep ‹_› hnx ‹_› ‹_›)⟩ (show (2 * a.length + 2 * b.length - (i + 1) - (n + 1)) < (2 * a.length + 2 * b.length - i - n) by omega)
     refine Qn (d:=12) U (fun (h6 : ins = true)=>?_) (fun (h6 : ins = false)=>?_)
     ·refine WL.build _ [(0,[S fr]),(1,[S (min (Zd a i) (Zd b n))])] [S fr,S (min (Zd a i) (Zd b n))] Z2 U XB U U U U ?_
      refine WL.buildSlice _ [(0,[S fr,S (min (Zd a i) (Zd b n))])] [S fr,S (min (Zd a i) (Zd b n))] S9 YR U U U U (fun z hz=>by match z,hz with | [z0,z1],_=>rfl) (fun b1 w10 N1 S10=>?_)
      refine WL.push (m:=([(Span.mk fr (min (Zd a i) (Zd b n)))] : List Span)) YR U U U (R1.mono ((((L4.trans L5).trans L6).trans L7).trans L9)) S10 1 U 0 _ _ _ _ _ U ⟨[S fr,S (min (Zd a i) (Zd b n))],_,U,(Z1 (Span.mk fr (min (Zd a i) (Zd b n))) hfr9 hat9),U⟩ U (by have:=Zc; have hlen9:=(by assumption : Sweep a b i n ins fr out9 T).len; simp only [Zx]; omega) (by have:=Zc; have hlen9:=(by assumption : Sweep a b i n ins fr out9 T).len; simp only [Zx]; omega) U U U (fun v2 o2 w11 R2 S11=>?_)
      have S12:=S11.tail
      exact BK.mk' _ ⟨i + 1,n + 1,true,(min (Zd a i) (Zd b n)),(out9 ++ [(Span.mk fr (min (Zd a i) (Zd b n)))]),(min (Zd a i) (Zd b n)),v2,o2,G9,U,(L3.trans ((((L4.trans L5).trans L6).trans L7).trans L9)),S12,R2,(Zq U),(by exact Sweep.flip ‹_› hnx ‹_› ‹_› ‹_›)⟩ (show (2 * a.length + 2 * b.length - (i + 1) - (n + 1)) < (2 * a.length + 2 * b.length - i - n) by omega)
     exact BK.mk' _ ⟨i + 1,n + 1,true,(min (Zd a i) (Zd b n)),out9,(min (Zd a i) (Zd b n)),v1,o1,G9,U,(L3.trans ((((L4.trans L5).trans L6).trans L7).trans L9)),S9,(R1.mono ((((L4.trans L5).trans L6).trans L7).trans L9)),(Zq U),(by exact Sweep.flop ‹_› hnx ‹_› ‹_› ‹_›)⟩ (show (2 * a.length + 2 * b.length - (i + 1) - (n + 1)) < (2 * a.length + 2 * b.length - i - n) by omega)
    refine X9 false ins ul4 U U U ?_
    refine WL.split (fun (h7 : (false == ins) = true)=>?_) (fun (h7 : (false == ins) = false)=>?_)
    ·exact BK.mk' _ ⟨i + 1,n + 1,ins,fr,out9,(min (Zd a i) (Zd b n)),v1,o1,G9,U,(L3.trans ((((L4.trans L5).trans L6).trans L7).trans L9)),S9,(R1.mono ((((L4.trans L5).trans L6).trans L7).trans L9)),(Zq U),(by exact Sweep.keep ‹_› hnx ‹_› ‹_›)⟩ (show (2 * a.length + 2 * b.length - (i + 1) - (n + 1)) < (2 * a.length + 2 * b.length - i - n) by omega)
    refine Qn (d:=12) U (fun (h8 : ins = true)=>?_) (fun (h8 : ins = false)=>?_)
    ·refine WL.build _ [(0,[S fr]),(1,[S (min (Zd a i) (Zd b n))])] [S fr,S (min (Zd a i) (Zd b n))] Z2 U XB U U U U ?_
     refine WL.buildSlice _ [(0,[S fr,S (min (Zd a i) (Zd b n))])] [S fr,S (min (Zd a i) (Zd b n))] S9 YR U U U U (fun z hz=>by match z,hz with | [z0,z1],_=>rfl) (fun b2 w12 N2 S13=>?_)
     refine WL.push (m:=([(Span.mk fr (min (Zd a i) (Zd b n)))] : List Span)) YR U U U (R1.mono ((((L4.trans L5).trans L6).trans L7).trans L9)) S13 1 U 0 _ _ _ _ _ U ⟨[S fr,S (min (Zd a i) (Zd b n))],_,U,(Z1 (Span.mk fr (min (Zd a i) (Zd b n))) hfr9 hat9),U⟩ U (by have:=Zc; have hlen9:=(by assumption : Sweep a b i n ins fr out9 T).len; simp only [Zx]; omega) (by have:=Zc; have hlen9:=(by assumption : Sweep a b i n ins fr out9 T).len; simp only [Zx]; omega) U U U (fun v3 o3 w13 R3 S14=>?_)
     have S15:=S14.tail
     exact BK.mk' _ ⟨i + 1,n + 1,false,(min (Zd a i) (Zd b n)),(out9 ++ [(Span.mk fr (min (Zd a i) (Zd b n)))]),(min (Zd a i) (Zd b n)),v3,o3,G9,U,(L3.trans ((((L4.trans L5).trans L6).trans L7).trans L9)),S15,R3,(Zq U),(by exact Sweep.flip ‹_› hnx ‹_› ‹_› ‹_›)⟩ (show (2 * a.length + 2 * b.length - (i + 1) - (n + 1)) < (2 * a.length + 2 * b.length - i - n) by omega)
    exact BK.mk' _ ⟨i + 1,n + 1,false,(min (Zd a i) (Zd b n)),out9,(min (Zd a i) (Zd b n)),v1,o1,G9,U,(L3.trans ((((L4.trans L5).trans L6).trans L7).trans L9)),S9,(R1.mono ((((L4.trans L5).trans L6).trans L7).trans L9)),(Zq U),(by exact Sweep.flop ‹_› hnx ‹_› ‹_› ‹_›)⟩ (show (2 * a.length + 2 * b.length - (i + 1) - (n + 1)) < (2 * a.length + 2 * b.length - i - n) by omega)
   have hnx:=Sweep.next (i':=i + 1) (k':=n) (by assumption : Sweep a b i n ins fr out9 T) hCa hCb hVa hVb U (by exact .inl (by omega)) (by exact Adv.yes ‹_›) (by exact Adv.no ‹_›)
   have N1:=hnx.lt; have N2:=hnx.tb; have N3:=hnx.adv; have N4:=hnx.ba.le; have N5:=hnx.bb.le
   have hat9 : Z0 (min (Zd a i) (Zd b n)):=⟨by omega,by omega⟩
   refine Qd (i + 1) 2 (by omega) (by have:=Zc; omega) U U U ?_
   refine Yf .eql U .i64 (((i + 1) % 2 : Nat) : Int) 1 U U U ?_
   refine Qd n 2 (by omega) (by have:=Zc; omega) U U U ?_
   refine Yf .eql U .i64 ((n % 2 : Nat) : Int) 1 U U U ?_
   refine Zr S8 Zee U U U (Zbr S8.imm (Cmp.b .eql (((i + 1) % 2 : Nat) : Int) 1) (Cmp.b .eql ((n % 2 : Nat) : Int) 1)) (fun w14 G10 S16 L10=>?_)
   refine WL.split (fun (h9 : ((Cmp.b .eql (((i + 1) % 2 : Nat) : Int) 1) && !(Cmp.b .eql ((n % 2 : Nat) : Int) 1)) = true)=>?_) (fun (h9 : ((Cmp.b .eql (((i + 1) % 2 : Nat) : Int) 1) && !(Cmp.b .eql ((n % 2 : Nat) : Int) 1)) = false)=>?_)
   ·refine X9 true ins ul4 U U U ?_
    refine WL.split (fun (h10 : (true == ins) = true)=>?_) (fun (h10 : (true == ins) = false)=>?_)
    ·have j4:=((((L4.trans L5).trans L6).trans L7).trans L10)
     exact BK.mk' _ ⟨i + 1,n,ins,fr,out9,(min (Zd a i) (Zd b n)),v1,o1,G10,U,(L3.trans j4),S16,(R1.mono j4),(Zq U),(by exact Sweep.keep ‹_› hnx ‹_› ‹_›)⟩ (show (2 * a.length + 2 * b.length - (i + 1) - n) < (2 * a.length + 2 * b.length - i - n) by omega)
    refine Qn (d:=12) U (fun (h11 : ins = true)=>?_) (fun (h11 : ins = false)=>?_)
    ·refine WL.build _ [(0,[S fr]),(1,[S (min (Zd a i) (Zd b n))])] [S fr,S (min (Zd a i) (Zd b n))] Z2 U XB U U U U ?_
     refine WL.buildSlice _ [(0,[S fr,S (min (Zd a i) (Zd b n))])] [S fr,S (min (Zd a i) (Zd b n))] S16 YR U U U U (fun z hz=>by match z,hz with | [z0,z1],_=>rfl) (fun b3 w15 N3 S17=>?_)
     have j5:=((((L4.trans L5).trans L6).trans L7).trans L10)
     refine WL.push (m:=([(Span.mk fr (min (Zd a i) (Zd b n)))] : List Span)) YR U U U (R1.mono j5) S17 1 U 0 _ _ _ _ _ U ⟨[S fr,S (min (Zd a i) (Zd b n))],_,U,(Z1 (Span.mk fr (min (Zd a i) (Zd b n))) hfr9 hat9),U⟩ U (by have:=Zc; have hlen9:=(by assumption : Sweep a b i n ins fr out9 T).len; simp only [Zx]; omega) (by have:=Zc; have hlen9:=(by assumption : Sweep a b i n ins fr out9 T).len; simp only [Zx]; omega) U U U (fun v4 o4 w16 R4 S18=>?_)
     have S19:=S18.tail
     exact BK.mk' _ ⟨i + 1,n,true,(min (Zd a i) (Zd b n)),(out9 ++ [(Span.mk fr (min (Zd a i) (Zd b n)))]),(min (Zd a i) (Zd b n)),v4,o4,G10,U,(L3.trans j5),S19,R4,(Zq U),(by exact Sweep.flip ‹_› hnx ‹_› ‹_› ‹_›)⟩ (show (2 * a.length + 2 * b.length - (i + 1) - n) < (2 * a.length + 2 * b.length - i - n) by omega)
    have j6:=((((L4.trans L5).trans L6).trans L7).trans L10)
    exact BK.mk' _ ⟨i + 1,n,true,(min (Zd a i) (Zd b n)),out9,(min (Zd a i) (Zd b n)),v1,o1,G10,U,(L3.trans j6),S16,(R1.mono j6),(Zq U),(by exact Sweep.flop ‹_› hnx ‹_› ‹_› ‹_›)⟩ (show (2 * a.length + 2 * b.length - (i + 1) - n) < (2 * a.length + 2 * b.length - i - n) by omega)
   refine X9 false ins ul4 U U U ?_
   refine WL.split (fun (h12 : (false == ins) = true)=>?_) (fun (h12 : (false == ins) = false)=>?_)
   ·have j7:=((((L4.trans L5).trans L6).trans L7).trans L10)
    exact BK.mk' _ ⟨i + 1,n,ins,fr,out9,(min (Zd a i) (Zd b n)),v1,o1,G10,U,(L3.trans j7),S16,(R1.mono j7),(Zq U),(by exact Sweep.keep ‹_› hnx ‹_› ‹_›)⟩ (show (2 * a.length + 2 * b.length - (i + 1) - n) < (2 * a.length + 2 * b.length - i - n) by omega)
   refine Qn (d:=12) U (fun (h13 : ins = true)=>?_) (fun (h13 : ins = false)=>?_)
   ·refine WL.build _ [(0,[S fr]),(1,[S (min (Zd a i) (Zd b n))])] [S fr,S (min (Zd a i) (Zd b n))] Z2 U XB U U U U ?_
    refine WL.buildSlice _ [(0,[S fr,S (min (Zd a i) (Zd b n))])] [S fr,S (min (Zd a i) (Zd b n))] S16 YR U U U U (fun z hz=>by match z,hz with | [z0,z1],_=>rfl) (fun b4 w17 N4 S20=>?_)
    have j8:=((((L4.trans L5).trans L6).trans L7).trans L10)
    refine WL.push (m:=([(Span.mk fr (min (Zd a i) (Zd b n)))] : List Span)) YR U U U (R1.mono j8) S20 1 U 0 _ _ _ _ _ U ⟨[S fr,S (min (Zd a i) (Zd b n))],_,U,(Z1 (Span.mk fr (min (Zd a i) (Zd b n))) hfr9 hat9),U⟩ U (by have:=Zc; have hlen9:=(by assumption : Sweep a b i n ins fr out9 T).len; simp only [Zx]; omega) (by have:=Zc; have hlen9:=(by assumption : Sweep a b i n ins fr out9 T).len; simp only [Zx]; omega) U U U (fun v5 o5 w18 R5 S21=>?_)
    have S22:=S21.tail
    exact BK.mk' _ ⟨i + 1,n,false,(min (Zd a i) (Zd b n)),(out9 ++ [(Span.mk fr (min (Zd a i) (Zd b n)))]),(min (Zd a i) (Zd b n)),v5,o5,G10,U,(L3.trans j8),S22,R5,(Zq U),(by exact Sweep.flip ‹_› hnx ‹_› ‹_› ‹_›)⟩ (show (2 * a.length + 2 * b.length - (i + 1) - n) < (2 * a.length + 2 * b.length - i - n) by omega)
   have j9:=((((L4.trans L5).trans L6).trans L7).trans L10)
   exact BK.mk' _ ⟨i + 1,n,false,(min (Zd a i) (Zd b n)),out9,(min (Zd a i) (Zd b n)),v1,o1,G10,U,(L3.trans j9),S16,(R1.mono j9),(Zq U),(by exact Sweep.flop ‹_› hnx ‹_› ‹_› ‹_›)⟩ (show (2 * a.length + 2 * b.length - (i + 1) - n) < (2 * a.length + 2 * b.length - i - n) by omega)
  refine Zr S7 Zda U U U (ZaW S7.imm b n _ (hvb.mono (j3.trans L6)) (by omega) (by omega)) (fun w19 G11 S23 L11=>?_)
  refine ZC (Zd b n) (min (Zd a i) (Zd b n)) U U U (fun h14=>?_) (fun h14=>?_)
  ·refine Zj n (by have:=Zc; omega) U U U ?_
   have hnx:=Sweep.next (i':=i) (k':=n + 1) (by assumption : Sweep a b i n ins fr out9 T) hCa hCb hVa hVb U (by exact .inl (by omega)) (by exact Adv.no ‹_›) (by exact Adv.yes ‹_›)
   have N1:=hnx.lt; have N2:=hnx.tb; have N3:=hnx.adv; have N4:=hnx.ba.le; have N5:=hnx.bb.le
   have hat9 : Z0 (min (Zd a i) (Zd b n)):=⟨by omega,by omega⟩
   refine Qd i 2 (by omega) (by have:=Zc; omega) U U U ?_
   refine Yf .eql U .i64 ((i % 2 : Nat) : Int) 1 U U U ?_
   refine Qd (n + 1) 2 (by omega) (by have:=Zc; omega) U U U ?_
   refine Yf .eql U .i64 (((n + 1) % 2 : Nat) : Int) 1 U U U ?_
   refine Zr S23 Zee U U U (Zbr S23.imm (Cmp.b .eql ((i % 2 : Nat) : Int) 1) (Cmp.b .eql (((n + 1) % 2 : Nat) : Int) 1)) (fun w20 G12 S24 L12=>?_)
   refine WL.split (fun (h15 : ((Cmp.b .eql ((i % 2 : Nat) : Int) 1) && !(Cmp.b .eql (((n + 1) % 2 : Nat) : Int) 1)) = true)=>?_) (fun (h15 : ((Cmp.b .eql ((i % 2 : Nat) : Int) 1) && !(Cmp.b .eql (((n + 1) % 2 : Nat) : Int) 1)) = false)=>?_)
   ·refine X9 true ins ul4 U U U ?_
    refine WL.split (fun (h16 : (true == ins) = true)=>?_) (fun (h16 : (true == ins) = false)=>?_)
    ·have j10:=((((L4.trans L5).trans L6).trans L11).trans L12)
     exact BK.mk' _ ⟨i,n + 1,ins,fr,out9,(min (Zd a i) (Zd b n)),v1,o1,G12,U,(L3.trans j10),S24,(R1.mono j10),(Zq U),(by exact Sweep.keep ‹_› hnx ‹_› ‹_›)⟩ (show (2 * a.length + 2 * b.length - i - (n + 1)) < (2 * a.length + 2 * b.length - i - n) by omega)
    refine Qn (d:=12) U (fun (h17 : ins = true)=>?_) (fun (h17 : ins = false)=>?_)
    ·refine WL.build _ [(0,[S fr]),(1,[S (min (Zd a i) (Zd b n))])] [S fr,S (min (Zd a i) (Zd b n))] Z2 U XB U U U U ?_
     refine WL.buildSlice _ [(0,[S fr,S (min (Zd a i) (Zd b n))])] [S fr,S (min (Zd a i) (Zd b n))] S24 YR U U U U (fun z hz=>by match z,hz with | [z0,z1],_=>rfl) (fun b5 w21 N5 S25=>?_)
     have j11:=((((L4.trans L5).trans L6).trans L11).trans L12)
     refine WL.push (m:=([(Span.mk fr (min (Zd a i) (Zd b n)))] : List Span)) YR U U U (R1.mono j11) S25 1 U 0 _ _ _ _ _ U ⟨[S fr,S (min (Zd a i) (Zd b n))],_,U,(Z1 (Span.mk fr (min (Zd a i) (Zd b n))) hfr9 hat9),U⟩ U (by have:=Zc; have hlen9:=(by assumption : Sweep a b i n ins fr out9 T).len; simp only [Zx]; omega) (by have:=Zc; have hlen9:=(by assumption : Sweep a b i n ins fr out9 T).len; simp only [Zx]; omega) U U U (fun v6 o6 w22 R6 S26=>?_)
     have S27:=S26.tail
     exact BK.mk' _ ⟨i,n + 1,true,(min (Zd a i) (Zd b n)),(out9 ++ [(Span.mk fr (min (Zd a i) (Zd b n)))]),(min (Zd a i) (Zd b n)),v6,o6,G12,U,(L3.trans j11),S27,R6,(Zq U),(by exact Sweep.flip ‹_› hnx ‹_› ‹_› ‹_›)⟩ (show (2 * a.length + 2 * b.length - i - (n + 1)) < (2 * a.length + 2 * b.length - i - n) by omega)
    have j12:=((((L4.trans L5).trans L6).trans L11).trans L12)
    exact BK.mk' _ ⟨i,n + 1,true,(min (Zd a i) (Zd b n)),out9,(min (Zd a i) (Zd b n)),v1,o1,G12,U,(L3.trans j12),S24,(R1.mono j12),(Zq U),(by exact Sweep.flop ‹_› hnx ‹_› ‹_› ‹_›)⟩ (show (2 * a.length + 2 * b.length - i - (n + 1)) < (2 * a.length + 2 * b.length - i - n) by omega)
   refine X9 false ins ul4 U U U ?_
   refine WL.split (fun (h18 : (false == ins) = true)=>?_) (fun (h18 : (false == ins) = false)=>?_)
   ·have j13:=((((L4.trans L5).trans L6).trans L11).trans L12)
    exact BK.mk' _ ⟨i,n + 1,ins,fr,out9,(min (Zd a i) (Zd b n)),v1,o1,G12,U,(L3.trans j13),S24,(R1.mono j13),(Zq U),(by exact Sweep.keep ‹_› hnx ‹_› ‹_›)⟩ (show (2 * a.length + 2 * b.length - i - (n + 1)) < (2 * a.length + 2 * b.length - i - n) by omega)
   refine Qn (d:=12) U (fun (h19 : ins = true)=>?_) (fun (h19 : ins = false)=>?_)
   ·refine WL.build _ [(0,[S fr]),(1,[S (min (Zd a i) (Zd b n))])] [S fr,S (min (Zd a i) (Zd b n))] Z2 U XB U U U U ?_
    refine WL.buildSlice _ [(0,[S fr,S (min (Zd a i) (Zd b n))])] [S fr,S (min (Zd a i) (Zd b n))] S24 YR U U U U (fun z hz=>by match z,hz with | [z0,z1],_=>rfl) (fun b6 w23 N6 S28=>?_)
    have j14:=((((L4.trans L5).trans L6).trans L11).trans L12)
    refine WL.push (m:=([(Span.mk fr (min (Zd a i) (Zd b n)))] : List Span)) YR U U U (R1.mono j14) S28 1 U 0 _ _ _ _ _ U ⟨[S fr,S (min (Zd a i) (Zd b n))],_,U,(Z1 (Span.mk fr (min (Zd a i) (Zd b n))) hfr9 hat9),U⟩ U (by have:=Zc; have hlen9:=(by assumption : Sweep a b i n ins fr out9 T).len; simp only [Zx]; omega) (by have:=Zc; have hlen9:=(by assumption : Sweep a b i n ins fr out9 T).len; simp only [Zx]; omega) U U U (fun v7 o7 w24 R7 S29=>?_)
    have S30:=S29.tail
    exact BK.mk' _ ⟨i,n + 1,false,(min (Zd a i) (Zd b n)),(out9 ++ [(Span.mk fr (min (Zd a i) (Zd b n)))]),(min (Zd a i) (Zd b n)),v7,o7,G12,U,(L3.trans j14),S30,R7,(Zq U),(by exact Sweep.flip ‹_› hnx ‹_› ‹_› ‹_›)⟩ (show (2 * a.length + 2 * b.length - i - (n + 1)) < (2 * a.length + 2 * b.length - i - n) by omega)
   have j15:=((((L4.trans L5).trans L6).trans L11).trans L12)
   exact BK.mk' _ ⟨i,n + 1,false,(min (Zd a i) (Zd b n)),out9,(min (Zd a i) (Zd b n)),v1,o1,G12,U,(L3.trans j15),S24,(R1.mono j15),(Zq U),(by exact Sweep.flop ‹_› hnx ‹_› ‹_› ‹_›)⟩ (show (2 * a.length + 2 * b.length - i - (n + 1)) < (2 * a.length + 2 * b.length - i - n) by omega)
  have hnx:=Sweep.next (i':=i) (k':=n) (by assumption : Sweep a b i n ins fr out9 T) hCa hCb hVa hVb U (by exact .inl (by omega)) (by exact Adv.no ‹_›) (by exact Adv.no ‹_›)
  have N1:=hnx.lt; have N2:=hnx.tb; have N3:=hnx.adv; have N4:=hnx.ba.le; have N5:=hnx.bb.le
  have hat9 : Z0 (min (Zd a i) (Zd b n)):=⟨by omega,by omega⟩
  refine Qd i 2 (by omega) (by have:=Zc; omega) U U U ?_
  refine Yf .eql U .i64 ((i % 2 : Nat) : Int) 1 U U U ?_
  refine Qd n 2 (by omega) (by have:=Zc; omega) U U U ?_
  refine Yf .eql U .i64 ((n % 2 : Nat) : Int) 1 U U U ?_
  refine Zr S23 Zee U U U (Zbr S23.imm (Cmp.b .eql ((i % 2 : Nat) : Int) 1) (Cmp.b .eql ((n % 2 : Nat) : Int) 1)) (fun w25 G13 S31 L13=>?_)
  refine WL.split (fun (h20 : ((Cmp.b .eql ((i % 2 : Nat) : Int) 1) && !(Cmp.b .eql ((n % 2 : Nat) : Int) 1)) = true)=>?_) (fun (h20 : ((Cmp.b .eql ((i % 2 : Nat) : Int) 1) && !(Cmp.b .eql ((n % 2 : Nat) : Int) 1)) = false)=>?_)
  ·refine X9 true ins ul4 U U U ?_
   refine WL.split (fun (h21 : (true == ins) = true)=>?_) (fun (h21 : (true == ins) = false)=>?_)
   ·have j16:=((((L4.trans L5).trans L6).trans L11).trans L13)
    exact BK.mk' _ ⟨i,n,ins,fr,out9,(min (Zd a i) (Zd b n)),v1,o1,G13,U,(L3.trans j16),S31,(R1.mono j16),(Zq U),(by exact Sweep.keep ‹_› hnx ‹_› ‹_›)⟩ (show (2 * a.length + 2 * b.length - i - n) < (2 * a.length + 2 * b.length - i - n) by omega)
   refine Qn (d:=12) U (fun (h22 : ins = true)=>?_) (fun (h22 : ins = false)=>?_)
   ·refine WL.build _ [(0,[S fr]),(1,[S (min (Zd a i) (Zd b n))])] [S fr,S (min (Zd a i) (Zd b n))] Z2 U XB U U U U ?_
    refine WL.buildSlice _ [(0,[S fr,S (min (Zd a i) (Zd b n))])] [S fr,S (min (Zd a i) (Zd b n))] S31 YR U U U U (fun z hz=>by match z,hz with | [z0,z1],_=>rfl) (fun b7 w26 N7 S32=>?_)
    have j17:=((((L4.trans L5).trans L6).trans L11).trans L13)
    refine WL.push (m:=([(Span.mk fr (min (Zd a i) (Zd b n)))] : List Span)) YR U U U (R1.mono j17) S32 1 U 0 _ _ _ _ _ U ⟨[S fr,S (min (Zd a i) (Zd b n))],_,U,(Z1 (Span.mk fr (min (Zd a i) (Zd b n))) hfr9 hat9),U⟩ U (by have:=Zc; have hlen9:=(by assumption : Sweep a b i n ins fr out9 T).len; simp only [Zx]; omega) (by have:=Zc; have hlen9:=(by assumption : Sweep a b i n ins fr out9 T).len; simp only [Zx]; omega) U U U (fun v9 o8 w27 R8 S33=>?_)
    have S34:=S33.tail
    exact BK.mk' _ ⟨i,n,true,(min (Zd a i) (Zd b n)),(out9 ++ [(Span.mk fr (min (Zd a i) (Zd b n)))]),(min (Zd a i) (Zd b n)),v9,o8,G13,U,(L3.trans j17),S34,R8,(Zq U),(by exact Sweep.flip ‹_› hnx ‹_› ‹_› ‹_›)⟩ (show (2 * a.length + 2 * b.length - i - n) < (2 * a.length + 2 * b.length - i - n) by omega)
   have j18:=((((L4.trans L5).trans L6).trans L11).trans L13)
   exact BK.mk' _ ⟨i,n,true,(min (Zd a i) (Zd b n)),out9,(min (Zd a i) (Zd b n)),v1,o1,G13,U,(L3.trans j18),S31,(R1.mono j18),(Zq U),(by exact Sweep.flop ‹_› hnx ‹_› ‹_› ‹_›)⟩ (show (2 * a.length + 2 * b.length - i - n) < (2 * a.length + 2 * b.length - i - n) by omega)
  refine X9 false ins ul4 U U U ?_
  refine WL.split (fun (h23 : (false == ins) = true)=>?_) (fun (h23 : (false == ins) = false)=>?_)
  ·have j19:=((((L4.trans L5).trans L6).trans L11).trans L13)
   exact BK.mk' _ ⟨i,n,ins,fr,out9,(min (Zd a i) (Zd b n)),v1,o1,G13,U,(L3.trans j19),S31,(R1.mono j19),(Zq U),(by exact Sweep.keep ‹_› hnx ‹_› ‹_›)⟩ (show (2 * a.length + 2 * b.length - i - n) < (2 * a.length + 2 * b.length - i - n) by omega)
  refine Qn (d:=12) U (fun (h24 : ins = true)=>?_) (fun (h24 : ins = false)=>?_)
  ·refine WL.build _ [(0,[S fr]),(1,[S (min (Zd a i) (Zd b n))])] [S fr,S (min (Zd a i) (Zd b n))] Z2 U XB U U U U ?_
   refine WL.buildSlice _ [(0,[S fr,S (min (Zd a i) (Zd b n))])] [S fr,S (min (Zd a i) (Zd b n))] S31 YR U U U U (fun z hz=>by match z,hz with | [z0,z1],_=>rfl) (fun b8 w28 N8 S35=>?_)
   have j20:=((((L4.trans L5).trans L6).trans L11).trans L13)
   refine WL.push (m:=([(Span.mk fr (min (Zd a i) (Zd b n)))] : List Span)) YR U U U (R1.mono j20) S35 1 U 0 _ _ _ _ _ U ⟨[S fr,S (min (Zd a i) (Zd b n))],_,U,(Z1 (Span.mk fr (min (Zd a i) (Zd b n))) hfr9 hat9),U⟩ U (by have:=Zc; have hlen9:=(by assumption : Sweep a b i n ins fr out9 T).len; simp only [Zx]; omega) (by have:=Zc; have hlen9:=(by assumption : Sweep a b i n ins fr out9 T).len; simp only [Zx]; omega) U U U (fun v10 o9 w29 R9 S36=>?_)
   have S37:=S36.tail
   exact BK.mk' _ ⟨i,n,false,(min (Zd a i) (Zd b n)),(out9 ++ [(Span.mk fr (min (Zd a i) (Zd b n)))]),(min (Zd a i) (Zd b n)),v10,o9,G13,U,(L3.trans j20),S37,R9,(Zq U),(by exact Sweep.flip ‹_› hnx ‹_› ‹_› ‹_›)⟩ (show (2 * a.length + 2 * b.length - i - n) < (2 * a.length + 2 * b.length - i - n) by omega)
  have j21:=((((L4.trans L5).trans L6).trans L11).trans L13)
  exact BK.mk' _ ⟨i,n,false,(min (Zd a i) (Zd b n)),out9,(min (Zd a i) (Zd b n)),v1,o1,G13,U,(L3.trans j21),S31,(R1.mono j21),(Zq U),(by exact Sweep.flop ‹_› hnx ‹_› ‹_› ‹_›)⟩ (show (2 * a.length + 2 * b.length - i - n) < (2 * a.length + 2 * b.length - i - n) by omega)
 have V2:=hvb.bound
 refine Zl (hvb.mono j1) Xe U U ?_
 refine ZgF 2 b.length (by have:=Zc; omega) U U U ?_
 refine Zp (n : Int) ((2 * b.length : Nat) : Int) U U U (fun h25=>?_) (fun h25=>?_)
 ·refine Zr S3 Zda U U U (ZaW S3.imm a i _ (hva.mono j1) (by omega) (by omega)) (fun w30 G14 S38 L14=>?_)
  have j22:=(j1.trans L14)
  refine Zr S38 Zda U U U (ZaW S38.imm b n _ (hvb.mono j22) (by omega) (by omega)) (fun w31 G15 S39 L15=>?_)
  refine Zjh (Zd a i) (Zd b n) U U U ?_
  have j23:=(j22.trans L15)
  refine Zr S39 Zda U U U (ZaW S39.imm a i _ (hva.mono j23) (by omega) (by omega)) (fun w32 G16 S40 L16=>?_)
  refine ZC (Zd a i) (min (Zd a i) (Zd b n)) U U U (fun h26=>?_) (fun h26=>?_)
  ·refine Zj i (by have:=Zc; omega) U U U ?_
   refine Zr S40 Zda U U U (ZaW S40.imm b n _ (hvb.mono (j23.trans L16)) (by omega) (by omega)) (fun w33 G17 S41 L17=>?_)
   refine ZC (Zd b n) (min (Zd a i) (Zd b n)) U U U (fun h27=>?_) (fun h27=>?_)
   ·refine Zj n (by have:=Zc; omega) U U U ?_
    have hnx:=Sweep.next (i':=i + 1) (k':=n + 1) (by assumption : Sweep a b i n ins fr out9 T) hCa hCb hVa hVb U (by exact .inr (by omega)) (by exact Adv.yes ‹_›) (by exact Adv.yes ‹_›)
    have N1:=hnx.lt; have N2:=hnx.tb; have N3:=hnx.adv; have N4:=hnx.ba.le; have N5:=hnx.bb.le
    have hat9 : Z0 (min (Zd a i) (Zd b n)):=⟨by omega,by omega⟩
    refine Qd (i + 1) 2 (by omega) (by have:=Zc; omega) U U U ?_
    refine Yf .eql U .i64 (((i + 1) % 2 : Nat) : Int) 1 U U U ?_
    refine Qd (n + 1) 2 (by omega) (by have:=Zc; omega) U U U ?_
    refine Yf .eql U .i64 (((n + 1) % 2 : Nat) : Int) 1 U U U ?_
    refine Zr S41 Zee U U U (Zbr S41.imm (Cmp.b .eql (((i + 1) % 2 : Nat) : Int) 1) (Cmp.b .eql (((n + 1) % 2 : Nat) : Int) 1)) (fun w34 G18 S42 L18=>?_)
    refine WL.split (fun (h28 : ((Cmp.b .eql (((i + 1) % 2 : Nat) : Int) 1) && !(Cmp.b .eql (((n + 1) % 2 : Nat) : Int) 1)) = true)=>?_) (fun (h28 : ((Cmp.b .eql (((i + 1) % 2 : Nat) : Int) 1) && !(Cmp.b .eql (((n + 1) % 2 : Nat) : Int) 1)) = false)=>?_)
    ·refine X9 true ins ul4 U U U ?_
     refine WL.split (fun (h29 : (true == ins) = true)=>?_) (fun (h29 : (true == ins) = false)=>?_)
     ·have j24:=((((L14.trans L15).trans L16).trans L17).trans L18)
      exact BK.mk' _ ⟨i + 1,n + 1,ins,fr,out9,(min (Zd a i) (Zd b n)),v1,o1,G18,U,(L3.trans j24),S42,(R1.mono j24),(Zq U),(by exact Sweep.keep ‹_› hnx ‹_› ‹_›)⟩ (show (2 * a.length + 2 * b.length - (i + 1) - (n + 1)) < (2 * a.length + 2 * b.length - i - n) by omega)
     refine Qn (d:=12) U (fun (h30 : ins = true)=>?_) (fun (h30 : ins = false)=>?_)
     ·refine WL.build _ [(0,[S fr]),(1,[S (min (Zd a i) (Zd b n))])] [S fr,S (min (Zd a i) (Zd b n))] Z2 U XB U U U U ?_
      refine WL.buildSlice _ [(0,[S fr,S (min (Zd a i) (Zd b n))])] [S fr,S (min (Zd a i) (Zd b n))] S42 YR U U U U (fun z hz=>by match z,hz with | [z0,z1],_=>rfl) (fun b9 w35 N9 S43=>?_)
      have j25:=((((L14.trans L15).trans L16).trans L17).trans L18)
      refine WL.push (m:=([(Span.mk fr (min (Zd a i) (Zd b n)))] : List Span)) YR U U U (R1.mono j25) S43 1 U 0 _ _ _ _ _ U ⟨[S fr,S (min (Zd a i) (Zd b n))],_,U,(Z1 (Span.mk fr (min (Zd a i) (Zd b n))) hfr9 hat9),U⟩ U (by have:=Zc; have hlen9:=(by assumption : Sweep a b i n ins fr out9 T).len; simp only [Zx]; omega) (by have:=Zc; have hlen9:=(by assumption : Sweep a b i n ins fr out9 T).len; simp only [Zx]; omega) U U U (fun v11 o10 w36 R10 S44=>?_)
      have S45:=S44.tail
      exact BK.mk' _ ⟨i + 1,n + 1,true,(min (Zd a i) (Zd b n)),(out9 ++ [(Span.mk fr (min (Zd a i) (Zd b n)))]),(min (Zd a i) (Zd b n)),v11,o10,G18,U,(L3.trans j25),S45,R10,(Zq U),(by exact Sweep.flip ‹_› hnx ‹_› ‹_› ‹_›)⟩ (show (2 * a.length + 2 * b.length - (i + 1) - (n + 1)) < (2 * a.length + 2 * b.length - i - n) by omega)
     have j26:=((((L14.trans L15).trans L16).trans L17).trans L18)
     exact BK.mk' _ ⟨i + 1,n + 1,true,(min (Zd a i) (Zd b n)),out9,(min (Zd a i) (Zd b n)),v1,o1,G18,U,(L3.trans j26),S42,(R1.mono j26),(Zq U),(by exact Sweep.flop ‹_› hnx ‹_› ‹_› ‹_›)⟩ (show (2 * a.length + 2 * b.length - (i + 1) - (n + 1)) < (2 * a.length + 2 * b.length - i - n) by omega)
    refine X9 false ins ul4 U U U ?_
    refine WL.split (fun (h31 : (false == ins) = true)=>?_) (fun (h31 : (false == ins) = false)=>?_)
    ·have j27:=((((L14.trans L15).trans L16).trans L17).trans L18)
     exact BK.mk' _ ⟨i + 1,n + 1,ins,fr,out9,(min (Zd a i) (Zd b n)),v1,o1,G18,U,(L3.trans j27),S42,(R1.mono j27),(Zq U),(by exact Sweep.keep ‹_› hnx ‹_› ‹_›)⟩ (show (2 * a.length + 2 * b.length - (i + 1) - (n + 1)) < (2 * a.length + 2 * b.length - i - n) by omega)
    refine Qn (d:=12) U (fun (h32 : ins = true)=>?_) (fun (h32 : ins = false)=>?_)
    ·refine WL.build _ [(0,[S fr]),(1,[S (min (Zd a i) (Zd b n))])] [S fr,S (min (Zd a i) (Zd b n))] Z2 U XB U U U U ?_
     refine WL.buildSlice _ [(0,[S fr,S (min (Zd a i) (Zd b n))])] [S fr,S (min (Zd a i) (Zd b n))] S42 YR U U U U (fun z hz=>by match z,hz with | [z0,z1],_=>rfl) (fun b10 w37 N10 S46=>?_)
     have j28:=((((L14.trans L15).trans L16).trans L17).trans L18)
     refine WL.push (m:=([(Span.mk fr (min (Zd a i) (Zd b n)))] : List Span)) YR U U U (R1.mono j28) S46 1 U 0 _ _ _ _ _ U ⟨[S fr,S (min (Zd a i) (Zd b n))],_,U,(Z1 (Span.mk fr (min (Zd a i) (Zd b n))) hfr9 hat9),U⟩ U (by have:=Zc; have hlen9:=(by assumption : Sweep a b i n ins fr out9 T).len; simp only [Zx]; omega) (by have:=Zc; have hlen9:=(by assumption : Sweep a b i n ins fr out9 T).len; simp only [Zx]; omega) U U U (fun v12 o11 w38 R11 S47=>?_)
     have S48:=S47.tail
     exact BK.mk' _ ⟨i + 1,n + 1,false,(min (Zd a i) (Zd b n)),(out9 ++ [(Span.mk fr (min (Zd a i) (Zd b n)))]),(min (Zd a i) (Zd b n)),v12,o11,G18,U,(L3.trans j28),S48,R11,(Zq U),(by exact Sweep.flip ‹_› hnx ‹_› ‹_› ‹_›)⟩ (show (2 * a.length + 2 * b.length - (i + 1) - (n + 1)) < (2 * a.length + 2 * b.length - i - n) by omega)
    have j29:=((((L14.trans L15).trans L16).trans L17).trans L18)
    exact BK.mk' _ ⟨i + 1,n + 1,false,(min (Zd a i) (Zd b n)),out9,(min (Zd a i) (Zd b n)),v1,o1,G18,U,(L3.trans j29),S42,(R1.mono j29),(Zq U),(by exact Sweep.flop ‹_› hnx ‹_› ‹_› ‹_›)⟩ (show (2 * a.length + 2 * b.length - (i + 1) - (n + 1)) < (2 * a.length + 2 * b.length - i - n) by omega)
   have hnx:=Sweep.next (i':=i + 1) (k':=n) (by assumption : Sweep a b i n ins fr out9 T) hCa hCb hVa hVb U (by exact .inr (by omega)) (by exact Adv.yes ‹_›) (by exact Adv.no ‹_›)
   have N1:=hnx.lt; have N2:=hnx.tb; have N3:=hnx.adv; have N4:=hnx.ba.le; have N5:=hnx.bb.le
   have hat9 : Z0 (min (Zd a i) (Zd b n)):=⟨by omega,by omega⟩
   refine Qd (i + 1) 2 (by omega) (by have:=Zc; omega) U U U ?_
   refine Yf .eql U .i64 (((i + 1) % 2 : Nat) : Int) 1 U U U ?_
   refine Qd n 2 (by omega) (by have:=Zc; omega) U U U ?_
   refine Yf .eql U .i64 ((n % 2 : Nat) : Int) 1 U U U ?_
   refine Zr S41 Zee U U U (Zbr S41.imm (Cmp.b .eql (((i + 1) % 2 : Nat) : Int) 1) (Cmp.b .eql ((n % 2 : Nat) : Int) 1)) (fun w39 G19 S49 L19=>?_)
   refine WL.split (fun (h33 : ((Cmp.b .eql (((i + 1) % 2 : Nat) : Int) 1) && !(Cmp.b .eql ((n % 2 : Nat) : Int) 1)) = true)=>?_) (fun (h33 : ((Cmp.b .eql (((i + 1) % 2 : Nat) : Int) 1) && !(Cmp.b .eql ((n % 2 : Nat) : Int) 1)) = false)=>?_)
   ·refine X9 true ins ul4 U U U ?_
    refine WL.split (fun (h34 : (true == ins) = true)=>?_) (fun (h34 : (true == ins) = false)=>?_)
    ·have j30:=((((L14.trans L15).trans L16).trans L17).trans L19)
     exact BK.mk' _ ⟨i + 1,n,ins,fr,out9,(min (Zd a i) (Zd b n)),v1,o1,G19,U,(L3.trans j30),S49,(R1.mono j30),(Zq U),(by exact Sweep.keep ‹_› hnx ‹_› ‹_›)⟩ (show (2 * a.length + 2 * b.length - (i + 1) - n) < (2 * a.length + 2 * b.length - i - n) by omega)
    refine Qn (d:=12) U (fun (h35 : ins = true)=>?_) (fun (h35 : ins = false)=>?_)
    ·refine WL.build _ [(0,[S fr]),(1,[S (min (Zd a i) (Zd b n))])] [S fr,S (min (Zd a i) (Zd b n))] Z2 U XB U U U U ?_
     refine WL.buildSlice _ [(0,[S fr,S (min (Zd a i) (Zd b n))])] [S fr,S (min (Zd a i) (Zd b n))] S49 YR U U U U (fun z hz=>by match z,hz with | [z0,z1],_=>rfl) (fun b11 w40 N11 S50=>?_)
     have j31:=((((L14.trans L15).trans L16).trans L17).trans L19)
     refine WL.push (m:=([(Span.mk fr (min (Zd a i) (Zd b n)))] : List Span)) YR U U U (R1.mono j31) S50 1 U 0 _ _ _ _ _ U ⟨[S fr,S (min (Zd a i) (Zd b n))],_,U,(Z1 (Span.mk fr (min (Zd a i) (Zd b n))) hfr9 hat9),U⟩ U (by have:=Zc; have hlen9:=(by assumption : Sweep a b i n ins fr out9 T).len; simp only [Zx]; omega) (by have:=Zc; have hlen9:=(by assumption : Sweep a b i n ins fr out9 T).len; simp only [Zx]; omega) U U U (fun v13 o12 w41 R12 S51=>?_)
     have S52:=S51.tail
     exact BK.mk' _ ⟨i + 1,n,true,(min (Zd a i) (Zd b n)),(out9 ++ [(Span.mk fr (min (Zd a i) (Zd b n)))]),(min (Zd a i) (Zd b n)),v13,o12,G19,U,(L3.trans j31),S52,R12,(Zq U),(by exact Sweep.flip ‹_› hnx ‹_› ‹_› ‹_›)⟩ (show (2 * a.length + 2 * b.length - (i + 1) - n) < (2 * a.length + 2 * b.length - i - n) by omega)
    have j32:=((((L14.trans L15).trans L16).trans L17).trans L19)
    exact BK.mk' _ ⟨i + 1,n,true,(min (Zd a i) (Zd b n)),out9,(min (Zd a i) (Zd b n)),v1,o1,G19,U,(L3.trans j32),S49,(R1.mono j32),(Zq U),(by exact Sweep.flop ‹_› hnx ‹_› ‹_› ‹_›)⟩ (show (2 * a.length + 2 * b.length - (i + 1) - n) < (2 * a.length + 2 * b.length - i - n) by omega)
   refine X9 false ins ul4 U U U ?_
   refine WL.split (fun (h36 : (false == ins) = true)=>?_) (fun (h36 : (false == ins) = false)=>?_)
   ·have j33:=((((L14.trans L15).trans L16).trans L17).trans L19)
    exact BK.mk' _ ⟨i + 1,n,ins,fr,out9,(min (Zd a i) (Zd b n)),v1,o1,G19,U,(L3.trans j33),S49,(R1.mono j33),(Zq U),(by exact Sweep.keep ‹_› hnx ‹_› ‹_›)⟩ (show (2 * a.length + 2 * b.length - (i + 1) - n) < (2 * a.length + 2 * b.length - i - n) by omega)
   refine Qn (d:=12) U (fun (h37 : ins = true)=>?_) (fun (h37 : ins = false)=>?_)
   ·refine WL.build _ [(0,[S fr]),(1,[S (min (Zd a i) (Zd b n))])] [S fr,S (min (Zd a i) (Zd b n))] Z2 U XB U U U U ?_
    refine WL.buildSlice _ [(0,[S fr,S (min (Zd a i) (Zd b n))])] [S fr,S (min (Zd a i) (Zd b n))] S49 YR U U U U (fun z hz=>by match z,hz with | [z0,z1],_=>rfl) (fun b12 w42 N12 S53=>?_)
    have j34:=((((L14.trans L15).trans L16).trans L17).trans L19)
    refine WL.push (m:=([(Span.mk fr (min (Zd a i) (Zd b n)))] : List Span)) YR U U U (R1.mono j34) S53 1 U 0 _ _ _ _ _ U ⟨[S fr,S (min (Zd a i) (Zd b n))],_,U,(Z1 (Span.mk fr (min (Zd a i) (Zd b n))) hfr9 hat9),U⟩ U (by have:=Zc; have hlen9:=(by assumption : Sweep a b i n ins fr out9 T).len; simp only [Zx]; omega) (by have:=Zc; have hlen9:=(by assumption : Sweep a b i n ins fr out9 T).len; simp only [Zx]; omega) U U U (fun v14 o13 w43 R13 S54=>?_)
    have S55:=S54.tail
    exact BK.mk' _ ⟨i + 1,n,false,(min (Zd a i) (Zd b n)),(out9 ++ [(Span.mk fr (min (Zd a i) (Zd b n)))]),(min (Zd a i) (Zd b n)),v14,o13,G19,U,(L3.trans j34),S55,R13,(Zq U),(by exact Sweep.flip ‹_› hnx ‹_› ‹_› ‹_›)⟩ (show (2 * a.length + 2 * b.length - (i + 1) - n) < (2 * a.length + 2 * b.length - i - n) by omega)
   have j35:=((((L14.trans L15).trans L16).trans L17).trans L19)
   exact BK.mk' _ ⟨i + 1,n,false,(min (Zd a i) (Zd b n)),out9,(min (Zd a i) (Zd b n)),v1,o1,G19,U,(L3.trans j35),S49,(R1.mono j35),(Zq U),(by exact Sweep.flop ‹_› hnx ‹_› ‹_› ‹_›)⟩ (show (2 * a.length + 2 * b.length - (i + 1) - n) < (2 * a.length + 2 * b.length - i - n) by omega)
  refine Zr S40 Zda U U U (ZaW S40.imm b n _ (hvb.mono (j23.trans L16)) (by omega) (by omega)) (fun w44 G20 S56 L20=>?_)
  refine ZC (Zd b n) (min (Zd a i) (Zd b n)) U U U (fun h38=>?_) (fun h38=>?_)
  ·refine Zj n (by have:=Zc; omega) U U U ?_
   have hnx:=Sweep.next (i':=i) (k':=n + 1) (by assumption : Sweep a b i n ins fr out9 T) hCa hCb hVa hVb U (by exact .inr (by omega)) (by exact Adv.no ‹_›) (by exact Adv.yes ‹_›)
   have N1:=hnx.lt; have N2:=hnx.tb; have N3:=hnx.adv; have N4:=hnx.ba.le; have N5:=hnx.bb.le
   have hat9 : Z0 (min (Zd a i) (Zd b n)):=⟨by omega,by omega⟩
   refine Qd i 2 (by omega) (by have:=Zc; omega) U U U ?_
   refine Yf .eql U .i64 ((i % 2 : Nat) : Int) 1 U U U ?_
   refine Qd (n + 1) 2 (by omega) (by have:=Zc; omega) U U U ?_
   refine Yf .eql U .i64 (((n + 1) % 2 : Nat) : Int) 1 U U U ?_
   refine Zr S56 Zee U U U (Zbr S56.imm (Cmp.b .eql ((i % 2 : Nat) : Int) 1) (Cmp.b .eql (((n + 1) % 2 : Nat) : Int) 1)) (fun w45 G21 S57 L21=>?_)
   refine WL.split (fun (h39 : ((Cmp.b .eql ((i % 2 : Nat) : Int) 1) && !(Cmp.b .eql (((n + 1) % 2 : Nat) : Int) 1)) = true)=>?_) (fun (h39 : ((Cmp.b .eql ((i % 2 : Nat) : Int) 1) && !(Cmp.b .eql (((n + 1) % 2 : Nat) : Int) 1)) = false)=>?_)
   ·refine X9 true ins ul4 U U U ?_
    refine WL.split (fun (h40 : (true == ins) = true)=>?_) (fun (h40 : (true == ins) = false)=>?_)
    ·have j36:=((((L14.trans L15).trans L16).trans L20).trans L21)
     exact BK.mk' _ ⟨i,n + 1,ins,fr,out9,(min (Zd a i) (Zd b n)),v1,o1,G21,U,(L3.trans j36),S57,(R1.mono j36),(Zq U),(by exact Sweep.keep ‹_› hnx ‹_› ‹_›)⟩ (show (2 * a.length + 2 * b.length - i - (n + 1)) < (2 * a.length + 2 * b.length - i - n) by omega)
    refine Qn (d:=12) U (fun (h41 : ins = true)=>?_) (fun (h41 : ins = false)=>?_)
    ·refine WL.build _ [(0,[S fr]),(1,[S (min (Zd a i) (Zd b n))])] [S fr,S (min (Zd a i) (Zd b n))] Z2 U XB U U U U ?_
     refine WL.buildSlice _ [(0,[S fr,S (min (Zd a i) (Zd b n))])] [S fr,S (min (Zd a i) (Zd b n))] S57 YR U U U U (fun z hz=>by match z,hz with | [z0,z1],_=>rfl) (fun b13 w46 N13 S58=>?_)
     have j37:=((((L14.trans L15).trans L16).trans L20).trans L21)
     refine WL.push (m:=([(Span.mk fr (min (Zd a i) (Zd b n)))] : List Span)) YR U U U (R1.mono j37) S58 1 U 0 _ _ _ _ _ U ⟨[S fr,S (min (Zd a i) (Zd b n))],_,U,(Z1 (Span.mk fr (min (Zd a i) (Zd b n))) hfr9 hat9),U⟩ U (by have:=Zc; have hlen9:=(by assumption : Sweep a b i n ins fr out9 T).len; simp only [Zx]; omega) (by have:=Zc; have hlen9:=(by assumption : Sweep a b i n ins fr out9 T).len; simp only [Zx]; omega) U U U (fun v15 o14 w47 R14 S59=>?_)
     have S60:=S59.tail
     exact BK.mk' _ ⟨i,n + 1,true,(min (Zd a i) (Zd b n)),(out9 ++ [(Span.mk fr (min (Zd a i) (Zd b n)))]),(min (Zd a i) (Zd b n)),v15,o14,G21,U,(L3.trans j37),S60,R14,(Zq U),(by exact Sweep.flip ‹_› hnx ‹_› ‹_› ‹_›)⟩ (show (2 * a.length + 2 * b.length - i - (n + 1)) < (2 * a.length + 2 * b.length - i - n) by omega)
    have j38:=((((L14.trans L15).trans L16).trans L20).trans L21)
    exact BK.mk' _ ⟨i,n + 1,true,(min (Zd a i) (Zd b n)),out9,(min (Zd a i) (Zd b n)),v1,o1,G21,U,(L3.trans j38),S57,(R1.mono j38),(Zq U),(by exact Sweep.flop ‹_› hnx ‹_› ‹_› ‹_›)⟩ (show (2 * a.length + 2 * b.length - i - (n + 1)) < (2 * a.length + 2 * b.length - i - n) by omega)
   refine X9 false ins ul4 U U U ?_
   refine WL.split (fun (h42 : (false == ins) = true)=>?_) (fun (h42 : (false == ins) = false)=>?_)
   ·have j39:=((((L14.trans L15).trans L16).trans L20).trans L21)
    exact BK.mk' _ ⟨i,n + 1,ins,fr,out9,(min (Zd a i) (Zd b n)),v1,o1,G21,U,(L3.trans j39),S57,(R1.mono j39),(Zq U),(by exact Sweep.keep ‹_› hnx ‹_› ‹_›)⟩ (show (2 * a.length + 2 * b.length - i - (n + 1)) < (2 * a.length + 2 * b.length - i - n) by omega)
   refine Qn (d:=12) U (fun (h43 : ins = true)=>?_) (fun (h43 : ins = false)=>?_)
   ·refine WL.build _ [(0,[S fr]),(1,[S (min (Zd a i) (Zd b n))])] [S fr,S (min (Zd a i) (Zd b n))] Z2 U XB U U U U ?_
    refine WL.buildSlice _ [(0,[S fr,S (min (Zd a i) (Zd b n))])] [S fr,S (min (Zd a i) (Zd b n))] S57 YR U U U U (fun z hz=>by match z,hz with | [z0,z1],_=>rfl) (fun b14 w48 N14 S61=>?_)
    have j40:=((((L14.trans L15).trans L16).trans L20).trans L21)
    refine WL.push (m:=([(Span.mk fr (min (Zd a i) (Zd b n)))] : List Span)) YR U U U (R1.mono j40) S61 1 U 0 _ _ _ _ _ U ⟨[S fr,S (min (Zd a i) (Zd b n))],_,U,(Z1 (Span.mk fr (min (Zd a i) (Zd b n))) hfr9 hat9),U⟩ U (by have:=Zc; have hlen9:=(by assumption : Sweep a b i n ins fr out9 T).len; simp only [Zx]; omega) (by have:=Zc; have hlen9:=(by assumption : Sweep a b i n ins fr out9 T).len; simp only [Zx]; omega) U U U (fun v16 o15 w49 R15 S62=>?_)
    have S63:=S62.tail
    exact BK.mk' _ ⟨i,n + 1,false,(min (Zd a i) (Zd b n)),(out9 ++ [(Span.mk fr (min (Zd a i) (Zd b n)))]),(min (Zd a i) (Zd b n)),v16,o15,G21,U,(L3.trans j40),S63,R15,(Zq U),(by exact Sweep.flip ‹_› hnx ‹_› ‹_› ‹_›)⟩ (show (2 * a.length + 2 * b.length - i - (n + 1)) < (2 * a.length + 2 * b.length - i - n) by omega)
   have j41:=((((L14.trans L15).trans L16).trans L20).trans L21)
   exact BK.mk' _ ⟨i,n + 1,false,(min (Zd a i) (Zd b n)),out9,(min (Zd a i) (Zd b n)),v1,o1,G21,U,(L3.trans j41),S57,(R1.mono j41),(Zq U),(by exact Sweep.flop ‹_› hnx ‹_› ‹_› ‹_›)⟩ (show (2 * a.length + 2 * b.length - i - (n + 1)) < (2 * a.length + 2 * b.length - i - n) by omega)
  have hnx:=Sweep.next (i':=i) (k':=n) (by assumption : Sweep a b i n ins fr out9 T) hCa hCb hVa hVb U (by exact .inl (by omega)) (by exact Adv.no ‹_›) (by exact Adv.no ‹_›)
  have N1:=hnx.lt; have N2:=hnx.tb; have N3:=hnx.adv; have N4:=hnx.ba.le; have N5:=hnx.bb.le
  have hat9 : Z0 (min (Zd a i) (Zd b n)):=⟨by omega,by omega⟩
  refine Qd i 2 (by omega) (by have:=Zc; omega) U U U ?_
  refine Yf .eql U .i64 ((i % 2 : Nat) : Int) 1 U U U ?_
  refine Qd n 2 (by omega) (by have:=Zc; omega) U U U ?_
  refine Yf .eql U .i64 ((n % 2 : Nat) : Int) 1 U U U ?_
  refine Zr S56 Zee U U U (Zbr S56.imm (Cmp.b .eql ((i % 2 : Nat) : Int) 1) (Cmp.b .eql ((n % 2 : Nat) : Int) 1)) (fun w50 G22 S64 L22=>?_)
  refine WL.split (fun (h44 : ((Cmp.b .eql ((i % 2 : Nat) : Int) 1) && !(Cmp.b .eql ((n % 2 : Nat) : Int) 1)) = true)=>?_) (fun (h44 : ((Cmp.b .eql ((i % 2 : Nat) : Int) 1) && !(Cmp.b .eql ((n % 2 : Nat) : Int) 1)) = false)=>?_)
  ·refine X9 true ins ul4 U U U ?_
   refine WL.split (fun (h45 : (true == ins) = true)=>?_) (fun (h45 : (true == ins) = false)=>?_)
   ·have j42:=((((L14.trans L15).trans L16).trans L20).trans L22)
    exact BK.mk' _ ⟨i,n,ins,fr,out9,(min (Zd a i) (Zd b n)),v1,o1,G22,U,(L3.trans j42),S64,(R1.mono j42),(Zq U),(by exact Sweep.keep ‹_› hnx ‹_› ‹_›)⟩ (show (2 * a.length + 2 * b.length - i - n) < (2 * a.length + 2 * b.length - i - n) by omega)
   refine Qn (d:=12) U (fun (h46 : ins = true)=>?_) (fun (h46 : ins = false)=>?_)
   ·refine WL.build _ [(0,[S fr]),(1,[S (min (Zd a i) (Zd b n))])] [S fr,S (min (Zd a i) (Zd b n))] Z2 U XB U U U U ?_
    refine WL.buildSlice _ [(0,[S fr,S (min (Zd a i) (Zd b n))])] [S fr,S (min (Zd a i) (Zd b n))] S64 YR U U U U (fun z hz=>by match z,hz with | [z0,z1],_=>rfl) (fun b15 w51 N15 S65=>?_)
    have j43:=((((L14.trans L15).trans L16).trans L20).trans L22)
    refine WL.push (m:=([(Span.mk fr (min (Zd a i) (Zd b n)))] : List Span)) YR U U U (R1.mono j43) S65 1 U 0 _ _ _ _ _ U ⟨[S fr,S (min (Zd a i) (Zd b n))],_,U,(Z1 (Span.mk fr (min (Zd a i) (Zd b n))) hfr9 hat9),U⟩ U (by have:=Zc; have hlen9:=(by assumption : Sweep a b i n ins fr out9 T).len; simp only [Zx]; omega) (by have:=Zc; have hlen9:=(by assumption : Sweep a b i n ins fr out9 T).len; simp only [Zx]; omega) U U U (fun v17 o16 w52 R16 S66=>?_)
    have S67:=S66.tail
    exact BK.mk' _ ⟨i,n,true,(min (Zd a i) (Zd b n)),(out9 ++ [(Span.mk fr (min (Zd a i) (Zd b n)))]),(min (Zd a i) (Zd b n)),v17,o16,G22,U,(L3.trans j43),S67,R16,(Zq U),(by exact Sweep.flip ‹_› hnx ‹_› ‹_› ‹_›)⟩ (show (2 * a.length + 2 * b.length - i - n) < (2 * a.length + 2 * b.length - i - n) by omega)
   have j44:=((((L14.trans L15).trans L16).trans L20).trans L22)
   exact BK.mk' _ ⟨i,n,true,(min (Zd a i) (Zd b n)),out9,(min (Zd a i) (Zd b n)),v1,o1,G22,U,(L3.trans j44),S64,(R1.mono j44),(Zq U),(by exact Sweep.flop ‹_› hnx ‹_› ‹_› ‹_›)⟩ (show (2 * a.length + 2 * b.length - i - n) < (2 * a.length + 2 * b.length - i - n) by omega)
  refine X9 false ins ul4 U U U ?_
  refine WL.split (fun (h47 : (false == ins) = true)=>?_) (fun (h47 : (false == ins) = false)=>?_)
  ·have j45:=((((L14.trans L15).trans L16).trans L20).trans L22)
   exact BK.mk' _ ⟨i,n,ins,fr,out9,(min (Zd a i) (Zd b n)),v1,o1,G22,U,(L3.trans j45),S64,(R1.mono j45),(Zq U),(by exact Sweep.keep ‹_› hnx ‹_› ‹_›)⟩ (show (2 * a.length + 2 * b.length - i - n) < (2 * a.length + 2 * b.length - i - n) by omega)
  refine Qn (d:=12) U (fun (h48 : ins = true)=>?_) (fun (h48 : ins = false)=>?_)
  ·refine WL.build _ [(0,[S fr]),(1,[S (min (Zd a i) (Zd b n))])] [S fr,S (min (Zd a i) (Zd b n))] Z2 U XB U U U U ?_
   refine WL.buildSlice _ [(0,[S fr,S (min (Zd a i) (Zd b n))])] [S fr,S (min (Zd a i) (Zd b n))] S64 YR U U U U (fun z hz=>by match z,hz with | [z0,z1],_=>rfl) (fun b16 w53 N16 S68=>?_)
   have j46:=((((L14.trans L15).trans L16).trans L20).trans L22)
   refine WL.push (m:=([(Span.mk fr (min (Zd a i) (Zd b n)))] : List Span)) YR U U U (R1.mono j46) S68 1 U 0 _ _ _ _ _ U ⟨[S fr,S (min (Zd a i) (Zd b n))],_,U,(Z1 (Span.mk fr (min (Zd a i) (Zd b n))) hfr9 hat9),U⟩ U (by have:=Zc; have hlen9:=(by assumption : Sweep a b i n ins fr out9 T).len; simp only [Zx]; omega) (by have:=Zc; have hlen9:=(by assumption : Sweep a b i n ins fr out9 T).len; simp only [Zx]; omega) U U U (fun v18 o17 w54 R17 S69=>?_)
   have S70:=S69.tail
   exact BK.mk' _ ⟨i,n,false,(min (Zd a i) (Zd b n)),(out9 ++ [(Span.mk fr (min (Zd a i) (Zd b n)))]),(min (Zd a i) (Zd b n)),v18,o17,G22,U,(L3.trans j46),S70,R17,(Zq U),(by exact Sweep.flip ‹_› hnx ‹_› ‹_› ‹_›)⟩ (show (2 * a.length + 2 * b.length - i - n) < (2 * a.length + 2 * b.length - i - n) by omega)
  have j47:=((((L14.trans L15).trans L16).trans L20).trans L22)
  exact BK.mk' _ ⟨i,n,false,(min (Zd a i) (Zd b n)),out9,(min (Zd a i) (Zd b n)),v1,o1,G22,U,(L3.trans j47),S64,(R1.mono j47),(Zq U),(by exact Sweep.flop ‹_› hnx ‹_› ‹_› ‹_›)⟩ (show (2 * a.length + 2 * b.length - i - n) < (2 * a.length + 2 * b.length - i - n) by omega)
 obtain ⟨G23,L23,A1,S71⟩:=ZS.freeze R1 S3 0 U
 refine Z9 S71 ZuE U U U (ZiF S71.imm out9 _ A1 (by have h9:=(Sweep.done (by assumption : Sweep a b i n ins fr out9 T) hCa hCb (by omega) (by omega)).2; omega)) ?_
 rintro w55 G24 _ ⟨r2,_,rfl,A2,rfl⟩ S72 L24
 exact RT S72 U ⟨_,_,U,(Sl.cast A2 (by exact (Sweep.done (by assumption : Sweep a b i n ins fr out9 T) hCa hCb (by omega) (by omega)).1)),(congrArg (Value.int .i64) (by rfl))⟩
theorem Zjy {G : GH} {w : World} (hG : G.In w) (a b : List Span) (va : Value) (hva : Sl SpanE 16 G va a) (vb : Value) (hvb : Sl SpanE 16 G vb b) (hCa : Can a) (hCb : Can b) (hVa : ∀ s ∈ a,XD s = true) (hVb : ∀ s ∈ b,XD s = true) (hla : a.length ≤ 1000) (hlb : b.length ≤ 1000) : CL Tryz.prog (nat_lit 74) #[va,vb] [] w G fun G' _ r=>∃ r0 r1,r = .tuple #[r0,r1] ∧ Sl SpanE 16 G' r0 (Yh 3 a b) ∧ r1 = S 0:=by
 refine Zh ft [] Tryz.func74 U U ?_
 have hS:=St.start (X:=[]) hG
 refine Z9 hS ZyI U U U (ZqG hS.imm a b _ hva _ hvb hCa hCb hVa hVb hla hlb) ?_
 rintro w1 G1 _ ⟨r2,_,rfl,A1,rfl⟩ S1 L1
 exact RT S1 U ⟨_,_,U,(Sl.cast A1 (by rfl)),(congrArg (Value.int .i64) (by rfl))⟩
theorem Zkl {G : GH} {w : World} (hG : G.In w) (s : Span) (x : Int) (cs : List Value) (hcs : SpanE.rep G s cs) : CL Tryz.prog (nat_lit 155) #[.agg cs.toArray,S x] [] w G fun _ _ r=>r = S (if s.b ≤ x then -1 else 1):=by
 refine Zh ft [] Tryz.func155 U U ?_
 have hS:=St.start (X:=[]) hG
 obtain ⟨rfl,B1,B2⟩:=ZI hcs
 refine Zw [S s.a,S s.b] _ hS U U U (fun p1 w1 G1 L1 M1 C1 S1=>?_)
 refine Z S1 (XC.drop 1 C1) Zt U U U ?_
 refine QS s.b x U U U (fun h1=>?_) (fun h1=>?_)
 ·exact RI S1 U (by exact (if_pos ‹_›).symm)
 exact RI S1 U (by exact (if_neg (by omega)).symm)
theorem ZxB {G : GH} {w : World} (hG : G.In w) (l : List Span) (x : Int) (vl : Value) (hvl : Sl SpanE 16 G vl l) (hC : Can l) (hl : l.length ≤ 1000000) : CL Tryz.prog (nat_lit 154) #[vl,S x, .func (.func 155) #[] #[]] [] w G fun _ _ r=>∃ r0 r1,r = .tuple #[r0,r1] ∧ r0 = S ((Zc4 l x : Nat) : Int) ∧ r1 = .bool false:=by
 refine Zh ft [] Tryz.func154 U U ?_
 have hS:=St.start (X:=[]) hG
 have V1:=hvl.bound
 refine Zl hvl Xe U U ?_
 refine LP.go ft [] (fun m ρ1 w1=>∃ (i : Nat),∃ (j : Nat),∃ (G1 : GH),m = (j - i) ∧ G.le G1 ∧ St w [] G G1 [] w1 ∧ FR ρ1 [(0,vl),(1,S x),(2, .func (.func 155) #[] #[]),(8,S (l.length : Int)),(9,S (i : Int)),(10,S (j : Int))] ∧ i ≤ j ∧ j ≤ l.length ∧ Zms l x i ∧ ZiE l x j) _ ⟨0,l.length,G,U,(G.le_refl),hS,(Zq U),(by omega),(by omega),(Zms.zero),(ZiE.all)⟩ ?_
 rintro m ρ1 w1 ⟨i,j,G1,rfl,L1,S1,F9,f1,f2,f3,f4⟩
 refine F9.set ?_
 clear F9
 refine Zp (i : Int) (j : Int) U U U (fun h1=>?_) (fun h1=>?_)
 ·refine WL.addN i j (by have:=Zc; omega) U U U ?_
  refine Zxs (i + j) Qb Zut (by have:=Zc; omega) U U ?_
  refine Zv4 (i + j) U U U ?_
  refine Zxt ((i + j) / 2) Zut Qb (by have:=Zc; omega) U U ?_
  refine WL.indexAddr (hvl.mono L1) ((i + j) / 2) (by omega) Xe Z2 U U U U (fun p1 x1 U1 E1=>?_)
  obtain ⟨D1,C1,R1⟩:=E1
  obtain ⟨rfl,B1,B2⟩:=ZI R1
  refine Zb S1 C1 [S x1.a,S x1.b] Z2 U U U U U ?_
  refine Zr S1 Zu9 U U U (Zkl S1.imm x1 x _ (Z1 x1 B1 B2)) (fun w2 G2 S2 L2=>?_)
  refine Zp (if x1.b ≤ x then -1 else 1) 0 U U U (fun h2=>?_) (fun h2=>?_)
  ·refine Zj ((i + j) / 2) (by have:=Zc; omega) U U U ?_
   exact BK.mk' _ ⟨(i + j) / 2 + 1,j,G2,U,(L1.trans L2),S2,(Zq U),(by omega),(by omega),(by exact Zms.step hC ‹_› (ZvN ‹_›)),‹_›⟩ (show (j - ((i + j) / 2 + 1)) < (j - i) by omega)
  exact BK.mk' _ ⟨i,(i + j) / 2,G2,U,(L1.trans L2),S2,(Zq U),(by omega),(by omega),‹_›,(by exact ZiE.step hC ‹_› (Ztl ‹_›))⟩ (show (((i + j) / 2) - i) < (j - i) by omega)
 have hp9:=ZvO (by assumption : Zms l x i) (by assumption : ZiE l x j) (by omega) (by omega)
 refine Zp (i : Int) (l.length : Int) U U U (fun h3=>?_) (fun h3=>?_)
 ·refine WL.indexAddr (hvl.mono L1) i (by omega) Xe Z2 U U U U (fun p2 x2 U2 E2=>?_)
  obtain ⟨D2,C2,R2⟩:=E2
  obtain ⟨rfl,B3,B4⟩:=ZI R2
  refine Zb S1 C2 [S x2.a,S x2.b] Z2 U U U U U ?_
  refine Zr S1 Zu9 U U U (Zkl S1.imm x2 x _ (Z1 x2 B3 B4)) (fun w3 G3 S3 L3=>?_)
  refine Yf .eql U .i64 (if x2.b ≤ x then -1 else 1) 0 U U U ?_
  exact RT S3 U ⟨_,_,U,(congrArg (Value.int .i64) (by (rw [hp9]; done))),(congrArg Value.bool (by exact ZqC))⟩
 exact RT S1 U ⟨_,_,U,(congrArg (Value.int .i64) (by (rw [hp9]; done))),(congrArg Value.bool (by rfl))⟩
theorem Zmv {G : GH} {w : World} (hG : G.In w) (l : List Span) (x : Int) (vl : Value) (hvl : Sl SpanE 16 G vl l) (hC : Can l) (hl : l.length ≤ 1000000) : CL Tryz.prog (nat_lit 100) #[vl,S x] [] w G fun _ _ r=>r = S ((Zc4 l x : Nat) : Int):=by
 refine Zh ft [] Tryz.func100 U U ?_
 have hS:=St.start (X:=[]) hG
 refine Z9 hS ZyQ U U U (ZxB hS.imm l x _ hvl ‹_› ‹_›) ?_
 rintro w1 G1 _ ⟨_,_,rfl,rfl,rfl⟩ S1 L1
 exact RI S1 U (by rfl)
theorem ZqH {G : GH} {w : World} (hG : G.In w) (l : List Span) (x : Int) (vl : Value) (hvl : Sl SpanE 16 G vl l) (hC : Can l) (hV : ∀ s ∈ l,XD s = true) (hl : l.length ≤ 2000) : CL Tryz.prog (nat_lit 40) #[vl,S x] [] w G fun _ _ r=>r = .bool (Xx l x):=by
 refine Zh ft [] Tryz.func40 U U ?_
 have hS:=St.start (X:=[]) hG
 refine Zr hS ZlU U U U (ZeA hS.imm l _ hvl hC hV hl) (fun w1 G1 S1 L1=>?_)
 refine Zr S1 Zy3 U U U (Zmv S1.imm l x _ (hvl.mono L1) hC (by omega)) (fun w2 G2 S2 L2=>?_)
 have V1:=hvl.bound
 have j1:=(L1.trans L2)
 refine Zl (hvl.mono j1) Xe U U ?_
 refine Zp (((Zc4 l x) : Nat) : Int) (l.length : Int) U U U (fun h1=>?_) (fun h1=>?_)
 ·refine WL.indexAddr (hvl.mono j1) (Zc4 l x) (by omega) Xe Z2 U U U U (fun p1 x1 U1 E1=>?_)
  obtain ⟨D1,C1,R1⟩:=E1
  obtain ⟨rfl,B1,B2⟩:=ZI R1
  refine Z S2 (XC.drop 0 C1) Zt U U U <| Yf .leq U .i64 x1.a x U U U ?_
  exact RB S2 U (by exact ZxA hC ‹_›)
 exact RB S2 U (by exact (ZqD hC fun s hs=>by have:=(List.getElem?_eq_some_iff.1 hs).1; omega).symm)
end Go.Civ
