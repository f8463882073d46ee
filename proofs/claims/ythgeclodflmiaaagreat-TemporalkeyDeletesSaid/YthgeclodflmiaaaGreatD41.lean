/- Lemmas. -/
import Derived.Test.YthgeclodflmiaaaGreatD30
import Derived.Test.YthgeclodflmiaaaGreatD35
import Derived.Test.YthgeclodflmiaaaGreatD40
import Derived.Test.YthgeclodflmiaaaGreatProg
import Derived.KernelRfl
import Derived.WalkKit
set_option linter.unusedVariables false
set_option linter.unusedSimpArgs false
set_option maxRecDepth 100000
set_option maxHeartbeats 4000000
namespace Go.Civ
open Go.Proofs
theorem ZdZ {G : GH} {w : World} (hG : G.In w) (nm : List UInt8) (hnm : nm.length ≤ reach) : CL Tryz.prog (nat_lit 56) #[Za nm] [] w G fun G' _ r=>Sl ValE 32 G' r (Zn nm):=by
 refine Zh ft [] Tryz.func56 U U ?_
 have hS:=St.start (X:=[]) hG
 refine WL.build _ [(0,[S 1]),(1,[S 1])] [S 1,S 1,Za []] Z6 U Zs1 U U U U <| WL.build _ [(0,[S 2]),(2,[Za nm])] [S 2,S 0,Za nm] Z6 U Zs1 U U U U ?_
 refine WL.buildSlice _ [(0,[S 1,S 1,Za []]),(1,[S 2,S 0,Za nm])] [S 1,S 1,Za [],S 2,S 0,Za nm] hS ZlT U U U U (fun z hz=>by match z,hz with | [z0,z1,z2,z3,z4,z5],_=>rfl) (fun b1 w1 N1 S1=>?_)
 obtain ⟨G1,L1,A1,S2⟩:=St.sealSl (E:=ValE) (by_:=32) (l:=([(Val.mk 1 1 []),(Val.mk 2 0 nm)] : List Val)) S1 N1 ⟨[S 1,S 1,Za []],_,U,(YP (Val.mk 1 1 []) (show Z0 1 from by constructor <;> decide) (show Z0 1 from by constructor <;> decide) (by simp [reach])),⟨[S 2,S 0,Za nm],_,U,(YP (Val.mk 2 0 nm) (show Z0 2 from by constructor <;> decide) ZP hnm),U⟩⟩ U (by simp [reach]) (by simp [reach])
 exact RT S2 U (Sl.cast A1 (by rfl))
theorem ZtP {G : GH} {w : World} (hG : G.In w) : CL Tryz.prog (nat_lit 55) #[] [] w G fun G' _ r=>∃ r0 r1,r = .tuple #[r0,r1] ∧ Is TableE G' r0 ZE ∧ r1 = .bool true:=by
 refine Y2 ft [] Tryz.func55 U U ?_
 have hS:=St.start (X:=[]) hG
 refine WL.alloc hS Zm U U (fun b1 w1 N1 S1=>?_)
 refine WL.build _ [(0,[Za [105,100]]),(1,[S 1])] [Za [105,100],S 1] YX U ZoC U U U U <| WL.build _ [(0,[Za [110,97,109,101]]),(1,[S 2])] [Za [110,97,109,101],S 2] YX U ZoC U U U U ?_
 refine WL.buildSlice _ [(0,[Za [105,100],S 1]),(1,[Za [110,97,109,101],S 2])] [Za [105,100],S 1,Za [110,97,109,101],S 2] S1 Zs2 U U U U (fun z hz=>by match z,hz with | [z0,z1,z2,z3],_=>rfl) (fun b2 w2 N2 S2=>?_)
 obtain ⟨G1,L1,A1,S3⟩:=St.sealSl (E:=ColE) (by_:=24) (l:=([(Col.mk [105,100] 1),(Col.mk [110,97,109,101] 2)] : List Col)) S2 N2 ⟨[Za [105,100],S 1],_,U,(ZeJ (Col.mk [105,100] 1) (by simp [reach]) (show Z0 1 from by constructor <;> decide)),⟨[Za [110,97,109,101],S 2],_,U,(ZeJ (Col.mk [110,97,109,101] 2) (by simp [reach]) (show Z0 2 from by constructor <;> decide)),U⟩⟩ U (by simp [reach]) (by simp [reach])
 refine WL.build _ [(0,[Za [112,101,111,112,108,101]]),(1,[.slice (some ⟨b2,0,none⟩) 2 2]),(2,[S 1])] [Za [112,101,111,112,108,101], .slice (some ⟨b2,0,none⟩) 2 2,S 1,Ze] Qo U ZzO U U U U ?_
 refine Z9 S3 ZyA U U U (ZxM S3.imm (Schema.mk [112,101,111,112,108,101] [(Col.mk [105,100] 1),(Col.mk [110,97,109,101] 2)] 1 []) _ (Yo (Schema.mk [112,101,111,112,108,101] [(Col.mk [105,100] 1),(Col.mk [110,97,109,101] 2)] 1 []) (by simp [reach]) A1 (show Z0 1 from by constructor <;> decide) (Sl.nil ForeignE 40 G1))) ?_
 rintro w3 G2 _ ⟨r2,_,rfl,A2,rfl⟩ S4 L2
 obtain ⟨D1,rfl,R1⟩:=A2
 obtain ⟨v1,v2,v3,rfl,B1,A3,B2,A4,A5,B3⟩:=Zy R1
 refine WL.alloc S4 Zm U U (fun b3 w4 N3 S5=>?_)
 refine Zi S5 0 [Za ((ZO (Schema.mk [112,101,111,112,108,101] [(Col.mk [105,100] 1),(Col.mk [110,97,109,101] 2)] 1 [])).s.name),v1,S ((ZO (Schema.mk [112,101,111,112,108,101] [(Col.mk [105,100] 1),(Col.mk [110,97,109,101] 2)] 1 [])).s.key),v2,v3,S ((ZO (Schema.mk [112,101,111,112,108,101] [(Col.mk [105,100] 1),(Col.mk [110,97,109,101] 2)] 1 [])).last)] U U Zm U U (by simp only [ZA,A3.oneC,A4.oneC,A5.oneC] <;> rfl) U U U (fun w5 S6=>?_)
 refine drT [1,3,4,5,6,7,8] [(14, .agg #[Za ((ZO (Schema.mk [112,101,111,112,108,101] [(Col.mk [105,100] 1),(Col.mk [110,97,109,101] 2)] 1 [])).s.name),v1,S ((ZO (Schema.mk [112,101,111,112,108,101] [(Col.mk [105,100] 1),(Col.mk [110,97,109,101] 2)] 1 [])).s.key),v2,v3,S ((ZO (Schema.mk [112,101,111,112,108,101] [(Col.mk [105,100] 1),(Col.mk [110,97,109,101] 2)] 1 [])).last)]),(16, .agg #[S 0,S 10])] S6 ⟨fun _ hSw=>Yg hSw 0 _ _ _ 0 [Za ((ZO (Schema.mk [112,101,111,112,108,101] [(Col.mk [105,100] 1),(Col.mk [110,97,109,101] 2)] 1 [])).s.name),v1,S ((ZO (Schema.mk [112,101,111,112,108,101] [(Col.mk [105,100] 1),(Col.mk [110,97,109,101] 2)] 1 [])).s.key),v2,v3,S ((ZO (Schema.mk [112,101,111,112,108,101] [(Col.mk [105,100] 1),(Col.mk [110,97,109,101] 2)] 1 [])).last)] U U U Zm U U U <| nu U U,fun _=>WL.build _ [(0,[S 0]),(1,[S 10])] [S 0,S 10] Z2 U XB U U U U <| nu U U,trivial⟩ (fun w6 S7=>?_)
 refine TG.fork 6 [1,3,4,5,6,7,8] [1] U U (by decide) (by decide) (TA.cons U ?_ TA.nil)
 refine Z9 S7 Zjo U U U (ZdZ S7.imm [97] (by simp [reach])) (fun w7 G3 r4 P2 S8 L3=>?_)
 refine ⟨fun _=>S8.down S7.le L3,?_⟩
 refine TG.fork 5 [3,4,5,6,7,8] [3] U U (by decide) (by decide) (TA.cons U ?_ TA.nil)
 refine Z9 S8 Zjn U U U (Zex S8.imm (ZO (Schema.mk [112,101,111,112,108,101] [(Col.mk [105,100] 1),(Col.mk [110,97,109,101] 2)] 1 [])) 5 (Zn [97]) (Span.mk 0 10) _ (Zo (ZO (Schema.mk [112,101,111,112,108,101] [(Col.mk [105,100] 1),(Col.mk [110,97,109,101] 2)] 1 [])) B1 (A3.mono L3) B2 (A4.mono L3) (A5.mono L3) B3) _ P2 _ (Z1 (Span.mk 0 10) (show Z0 0 from by constructor <;> decide) (show Z0 10 from by constructor <;> decide)) (show Z0 5 from by constructor <;> decide)) ?_
 rintro w9 G4 _ ⟨r6,_,rfl,A6,rfl⟩ S9 L4
 obtain ⟨D2,rfl,R2⟩:=A6
 obtain ⟨v4,v5,v6,rfl,B4,A7,B5,A8,A9,B6⟩:=Zy R2
 refine ⟨fun h=>absurd h (by decide),?_⟩
 refine TG.quiet 4 [4,5,6,7,8] 4 U U U U U (by decide) (fun w9 K9 k9=>WL.move U k9) ?_
 refine TG.quiet 3 [5,6,7,8] 5 U U U U U (by decide) (fun w9 K9 k9=>WL.extract _ _ U U U k9) ?_
 refine TG.quiet 2 [6,7,8] 6 U U U U U (by decide) (fun w9 K9 k9=>WL.extract _ _ U U U k9) ?_
 refine TG.fork 1 [7,8] [7] U U (by decide) (by decide) (TA.cons U ?_ TA.nil)
 refine Zi S9 0 [Za ((ZG (ZO (Schema.mk [112,101,111,112,108,101] [(Col.mk [105,100] 1),(Col.mk [110,97,109,101] 2)] 1 [])) 5 (Zn [97]) (Span.mk 0 10)).s.name),v4,S ((ZG (ZO (Schema.mk [112,101,111,112,108,101] [(Col.mk [105,100] 1),(Col.mk [110,97,109,101] 2)] 1 [])) 5 (Zn [97]) (Span.mk 0 10)).s.key),v5,v6,S ((ZG (ZO (Schema.mk [112,101,111,112,108,101] [(Col.mk [105,100] 1),(Col.mk [110,97,109,101] 2)] 1 [])) 5 (Zn [97]) (Span.mk 0 10)).last)] U U Zm U U (by simp only [ZA,A7.oneC,A8.oneC,A9.oneC] <;> rfl) U U U (fun w10 S10=>?_)
 refine ⟨fun h=>absurd h (by decide),?_⟩
 refine TG.quiet 0 [8] 8 U U U U U (by decide) (fun w9 K9 k9=>WL.assign U k9) ?_
 refine TG.fin U ?_
 rcases Cmp.dec .eql (ZcQ (Schema.mk [112,101,111,112,108,101] [(Col.mk [105,100] 1),(Col.mk [110,97,109,101] 2)] 1 [])) 0 with ⟨B7,q1⟩ | ⟨B7,q1⟩
 ·have h1 : (ZcQ (Schema.mk [112,101,111,112,108,101] [(Col.mk [105,100] 1),(Col.mk [110,97,109,101] 2)] 1 [])) = 0:=q1
  clear q1
  rcases Cmp.dec .eql (ZaT (ZO (Schema.mk [112,101,111,112,108,101] [(Col.mk [105,100] 1),(Col.mk [110,97,109,101] 2)] 1 [])) 5 (Zn [97]) (Span.mk 0 10)) 0 with ⟨B8,q2⟩ | ⟨B8,q2⟩
  ·have h2 : (ZaT (ZO (Schema.mk [112,101,111,112,108,101] [(Col.mk [105,100] 1),(Col.mk [110,97,109,101] 2)] 1 [])) 5 (Zn [97]) (Span.mk 0 10)) = 0:=q2
   clear q2
   have V1:=A9.bound
   refine drD (C:=fun w9=>∃ H1 H2 H3 H4 H5 H6,St w [] G G4 [some (b3,28,[Za ((ZG (ZO (Schema.mk [112,101,111,112,108,101] [(Col.mk [105,100] 1),(Col.mk [110,97,109,101] 2)] 1 [])) 5 (Zn [97]) (Span.mk 0 10)).s.name),v4,S ((ZG (ZO (Schema.mk [112,101,111,112,108,101] [(Col.mk [105,100] 1),(Col.mk [110,97,109,101] 2)] 1 [])) 5 (Zn [97]) (Span.mk 0 10)).s.key),v5,v6,S ((ZG (ZO (Schema.mk [112,101,111,112,108,101] [(Col.mk [105,100] 1),(Col.mk [110,97,109,101] 2)] 1 [])) 5 (Zn [97]) (Span.mk 0 10)).last)]),some (b1,28,[H1,H2,H3,H4,H5,H6])] w9) (fun _ h9=>by obtain ⟨H1,H2,H3,H4,H5,H6,h9⟩:=h9; exact ⟨H1,H2,H3,H4,H5,H6,h9.draw⟩) [(13,true),(14,false)] [(20, .agg #[Za ((ZG (ZO (Schema.mk [112,101,111,112,108,101] [(Col.mk [105,100] 1),(Col.mk [110,97,109,101] 2)] 1 [])) 5 (Zn [97]) (Span.mk 0 10)).s.name),v4,S ((ZG (ZO (Schema.mk [112,101,111,112,108,101] [(Col.mk [105,100] 1),(Col.mk [110,97,109,101] 2)] 1 [])) 5 (Zn [97]) (Span.mk 0 10)).s.key),v5,v6,S ((ZG (ZO (Schema.mk [112,101,111,112,108,101] [(Col.mk [105,100] 1),(Col.mk [110,97,109,101] 2)] 1 [])) 5 (Zn [97]) (Span.mk 0 10)).last)]),(22, .bool true),(25, .bool true),(29,v6),(30,S ((((ZG (ZO (Schema.mk [112,101,111,112,108,101] [(Col.mk [105,100] 1),(Col.mk [110,97,109,101] 2)] 1 [])) 5 (Zn [97]) (Span.mk 0 10)).rows).length : Nat) : Int)),(31, .bool (Cmp.b .eql ((((ZG (ZO (Schema.mk [112,101,111,112,108,101] [(Col.mk [105,100] 1),(Col.mk [110,97,109,101] 2)] 1 [])) 5 (Zn [97]) (Span.mk 0 10)).rows).length : Nat) : Int) 1))] ⟨_,_,_,_,_,_,S10⟩ ⟨fun _ h9=>by obtain ⟨H1,H2,H3,H4,H5,H6,hSw⟩:=h9; exact Yg hSw 0 _ _ _ 0 [Za ((ZG (ZO (Schema.mk [112,101,111,112,108,101] [(Col.mk [105,100] 1),(Col.mk [110,97,109,101] 2)] 1 [])) 5 (Zn [97]) (Span.mk 0 10)).s.name),v4,S ((ZG (ZO (Schema.mk [112,101,111,112,108,101] [(Col.mk [105,100] 1),(Col.mk [110,97,109,101] 2)] 1 [])) 5 (Zn [97]) (Span.mk 0 10)).s.key),v5,v6,S ((ZG (ZO (Schema.mk [112,101,111,112,108,101] [(Col.mk [105,100] 1),(Col.mk [110,97,109,101] 2)] 1 [])) 5 (Zn [97]) (Span.mk 0 10)).last)] U U U Zm U U U <| nu U U,fun _=>WL.cmpV .eql U .i64 (ZcQ (Schema.mk [112,101,111,112,108,101] [(Col.mk [105,100] 1),(Col.mk [110,97,109,101] 2)] 1 [])) 0 _ B7 U U U <| nu U U,fun _=>WL.cmpV .eql U .i64 (ZaT (ZO (Schema.mk [112,101,111,112,108,101] [(Col.mk [105,100] 1),(Col.mk [110,97,109,101] 2)] 1 [])) 5 (Zn [97]) (Span.mk 0 10)) 0 _ B8 U U U <| nu U U,fun _ h9=>by obtain ⟨H1,H2,H3,H4,H5,H6,hSw⟩:=h9; exact Ya hSw 0 _ _ _ 4 _ U U YK U U U <| nu U U,fun _=>Zl A9 Yn U U <| nu U U,fun _=>Yf .eql U .i64 ((((ZG (ZO (Schema.mk [112,101,111,112,108,101] [(Col.mk [105,100] 1),(Col.mk [110,97,109,101] 2)] 1 [])) 5 (Zn [97]) (Span.mk 0 10)).rows).length : Nat) : Int) 1 U U U <| nu U U,trivial⟩ ?_
   rintro w11 ⟨H1,H2,H3,H4,H5,H6,S11⟩
   refine Zi S11 1 [Za ((ZG (ZO (Schema.mk [112,101,111,112,108,101] [(Col.mk [105,100] 1),(Col.mk [110,97,109,101] 2)] 1 [])) 5 (Zn [97]) (Span.mk 0 10)).s.name),v4,S ((ZG (ZO (Schema.mk [112,101,111,112,108,101] [(Col.mk [105,100] 1),(Col.mk [110,97,109,101] 2)] 1 [])) 5 (Zn [97]) (Span.mk 0 10)).s.key),v5,v6,S ((ZG (ZO (Schema.mk [112,101,111,112,108,101] [(Col.mk [105,100] 1),(Col.mk [110,97,109,101] 2)] 1 [])) 5 (Zn [97]) (Span.mk 0 10)).last)] U U Zm U U (by simp only [ZA,A7.oneC,A8.oneC,A9.oneC] <;> rfl) U U U (fun w12 S12=>?_)
   refine ⟨⟨_,_,_,_,_,_,S12.down S11.le (G4.le_refl)⟩,?_⟩
   exact Xr [.agg #[Za ((ZG (ZO (Schema.mk [112,101,111,112,108,101] [(Col.mk [105,100] 1),(Col.mk [110,97,109,101] 2)] 1 [])) 5 (Zn [97]) (Span.mk 0 10)).s.name),v4,S ((ZG (ZO (Schema.mk [112,101,111,112,108,101] [(Col.mk [105,100] 1),(Col.mk [110,97,109,101] 2)] 1 [])) 5 (Zn [97]) (Span.mk 0 10)).s.key),v5,v6,S ((ZG (ZO (Schema.mk [112,101,111,112,108,101] [(Col.mk [105,100] 1),(Col.mk [110,97,109,101] 2)] 1 [])) 5 (Zn [97]) (Span.mk 0 10)).last)], .bool (Cmp.b .eql ((((ZG (ZO (Schema.mk [112,101,111,112,108,101] [(Col.mk [105,100] 1),(Col.mk [110,97,109,101] 2)] 1 [])) 5 (Zn [97]) (Span.mk 0 10)).rows).length : Nat) : Int) 1)] S12 ⟨_,_,_,U,U,S12.loadA 1 _ _ _ 0 [Za ((ZG (ZO (Schema.mk [112,101,111,112,108,101] [(Col.mk [105,100] 1),(Col.mk [110,97,109,101] 2)] 1 [])) 5 (Zn [97]) (Span.mk 0 10)).s.name),v4,S ((ZG (ZO (Schema.mk [112,101,111,112,108,101] [(Col.mk [105,100] 1),(Col.mk [110,97,109,101] 2)] 1 [])) 5 (Zn [97]) (Span.mk 0 10)).s.key),v5,v6,S ((ZG (ZO (Schema.mk [112,101,111,112,108,101] [(Col.mk [105,100] 1),(Col.mk [110,97,109,101] 2)] 1 [])) 5 (Zn [97]) (Span.mk 0 10)).last)] U U U Zm U,⟨_,U,U⟩⟩ ⟨_,_,U,(Is.cast ⟨_,U,(Zo (ZG (ZO (Schema.mk [112,101,111,112,108,101] [(Col.mk [105,100] 1),(Col.mk [110,97,109,101] 2)] 1 [])) 5 (Zn [97]) (Span.mk 0 10)) B4 A7 B5 A8 A9 B6)⟩ (by with_reducible exact Zg9.1)),(congrArg Value.bool (by with_reducible exact Zwr))⟩
  have h2 : (ZaT (ZO (Schema.mk [112,101,111,112,108,101] [(Col.mk [105,100] 1),(Col.mk [110,97,109,101] 2)] 1 [])) 5 (Zn [97]) (Span.mk 0 10)) ≠ 0:=q2
  clear q2
  refine drD (C:=fun w9=>∃ H7 H8 H9 H10 H11 H12,St w [] G G4 [some (b3,28,[Za ((ZG (ZO (Schema.mk [112,101,111,112,108,101] [(Col.mk [105,100] 1),(Col.mk [110,97,109,101] 2)] 1 [])) 5 (Zn [97]) (Span.mk 0 10)).s.name),v4,S ((ZG (ZO (Schema.mk [112,101,111,112,108,101] [(Col.mk [105,100] 1),(Col.mk [110,97,109,101] 2)] 1 [])) 5 (Zn [97]) (Span.mk 0 10)).s.key),v5,v6,S ((ZG (ZO (Schema.mk [112,101,111,112,108,101] [(Col.mk [105,100] 1),(Col.mk [110,97,109,101] 2)] 1 [])) 5 (Zn [97]) (Span.mk 0 10)).last)]),some (b1,28,[H7,H8,H9,H10,H11,H12])] w9) (fun _ h9=>by obtain ⟨H7,H8,H9,H10,H11,H12,h9⟩:=h9; exact ⟨H7,H8,H9,H10,H11,H12,h9.draw⟩) [(13,true),(14,false)] [(20, .agg #[Za ((ZG (ZO (Schema.mk [112,101,111,112,108,101] [(Col.mk [105,100] 1),(Col.mk [110,97,109,101] 2)] 1 [])) 5 (Zn [97]) (Span.mk 0 10)).s.name),v4,S ((ZG (ZO (Schema.mk [112,101,111,112,108,101] [(Col.mk [105,100] 1),(Col.mk [110,97,109,101] 2)] 1 [])) 5 (Zn [97]) (Span.mk 0 10)).s.key),v5,v6,S ((ZG (ZO (Schema.mk [112,101,111,112,108,101] [(Col.mk [105,100] 1),(Col.mk [110,97,109,101] 2)] 1 [])) 5 (Zn [97]) (Span.mk 0 10)).last)]),(22, .bool true),(25, .bool false)] ⟨_,_,_,_,_,_,S10⟩ ⟨fun _ h9=>by obtain ⟨H7,H8,H9,H10,H11,H12,hSw⟩:=h9; exact Yg hSw 0 _ _ _ 0 [Za ((ZG (ZO (Schema.mk [112,101,111,112,108,101] [(Col.mk [105,100] 1),(Col.mk [110,97,109,101] 2)] 1 [])) 5 (Zn [97]) (Span.mk 0 10)).s.name),v4,S ((ZG (ZO (Schema.mk [112,101,111,112,108,101] [(Col.mk [105,100] 1),(Col.mk [110,97,109,101] 2)] 1 [])) 5 (Zn [97]) (Span.mk 0 10)).s.key),v5,v6,S ((ZG (ZO (Schema.mk [112,101,111,112,108,101] [(Col.mk [105,100] 1),(Col.mk [110,97,109,101] 2)] 1 [])) 5 (Zn [97]) (Span.mk 0 10)).last)] U U U Zm U U U <| nu U U,fun _=>WL.cmpV .eql U .i64 (ZcQ (Schema.mk [112,101,111,112,108,101] [(Col.mk [105,100] 1),(Col.mk [110,97,109,101] 2)] 1 [])) 0 _ B7 U U U <| nu U U,fun _=>WL.cmpV .eql U .i64 (ZaT (ZO (Schema.mk [112,101,111,112,108,101] [(Col.mk [105,100] 1),(Col.mk [110,97,109,101] 2)] 1 [])) 5 (Zn [97]) (Span.mk 0 10)) 0 _ B8 U U U <| nu U U,trivial⟩ ?_
  rintro w13 ⟨H7,H8,H9,H10,H11,H12,S13⟩
  refine Zi S13 1 [Za ((ZG (ZO (Schema.mk [112,101,111,112,108,101] [(Col.mk [105,100] 1),(Col.mk [110,97,109,101] 2)] 1 [])) 5 (Zn [97]) (Span.mk 0 10)).s.name),v4,S ((ZG (ZO (Schema.mk [112,101,111,112,108,101] [(Col.mk [105,100] 1),(Col.mk [110,97,109,101] 2)] 1 [])) 5 (Zn [97]) (Span.mk 0 10)).s.key),v5,v6,S ((ZG (ZO (Schema.mk [112,101,111,112,108,101] [(Col.mk [105,100] 1),(Col.mk [110,97,109,101] 2)] 1 [])) 5 (Zn [97]) (Span.mk 0 10)).last)] U U Zm U U (by simp only [ZA,A7.oneC,A8.oneC,A9.oneC] <;> rfl) U U U (fun w14 S14=>?_)
  refine ⟨⟨_,_,_,_,_,_,S14.down S13.le (G4.le_refl)⟩,?_⟩
  exact Xr [.agg #[Za ((ZG (ZO (Schema.mk [112,101,111,112,108,101] [(Col.mk [105,100] 1),(Col.mk [110,97,109,101] 2)] 1 [])) 5 (Zn [97]) (Span.mk 0 10)).s.name),v4,S ((ZG (ZO (Schema.mk [112,101,111,112,108,101] [(Col.mk [105,100] 1),(Col.mk [110,97,109,101] 2)] 1 [])) 5 (Zn [97]) (Span.mk 0 10)).s.key),v5,v6,S ((ZG (ZO (Schema.mk [112,101,111,112,108,101] [(Col.mk [105,100] 1),(Col.mk [110,97,109,101] 2)] 1 [])) 5 (Zn [97]) (Span.mk 0 10)).last)], .bool false] S14 ⟨_,_,_,U,U,S14.loadA 1 _ _ _ 0 [Za ((ZG (ZO (Schema.mk [112,101,111,112,108,101] [(Col.mk [105,100] 1),(Col.mk [110,97,109,101] 2)] 1 [])) 5 (Zn [97]) (Span.mk 0 10)).s.name),v4,S ((ZG (ZO (Schema.mk [112,101,111,112,108,101] [(Col.mk [105,100] 1),(Col.mk [110,97,109,101] 2)] 1 [])) 5 (Zn [97]) (Span.mk 0 10)).s.key),v5,v6,S ((ZG (ZO (Schema.mk [112,101,111,112,108,101] [(Col.mk [105,100] 1),(Col.mk [110,97,109,101] 2)] 1 [])) 5 (Zn [97]) (Span.mk 0 10)).last)] U U U Zm U,⟨_,U,U⟩⟩ ⟨_,_,U,(Is.cast ⟨_,U,(Zo (ZG (ZO (Schema.mk [112,101,111,112,108,101] [(Col.mk [105,100] 1),(Col.mk [110,97,109,101] 2)] 1 [])) 5 (Zn [97]) (Span.mk 0 10)) B4 A7 B5 A8 A9 B6)⟩ (by with_reducible exact Zg9.1)),(congrArg Value.bool (by with_reducible exact absurd Zg9.2 ‹_›))⟩
 have h1 : (ZcQ (Schema.mk [112,101,111,112,108,101] [(Col.mk [105,100] 1),(Col.mk [110,97,109,101] 2)] 1 [])) ≠ 0:=q1
 clear q1
 refine drD (C:=fun w9=>∃ H13 H14 H15 H16 H17 H18,St w [] G G4 [some (b3,28,[Za ((ZG (ZO (Schema.mk [112,101,111,112,108,101] [(Col.mk [105,100] 1),(Col.mk [110,97,109,101] 2)] 1 [])) 5 (Zn [97]) (Span.mk 0 10)).s.name),v4,S ((ZG (ZO (Schema.mk [112,101,111,112,108,101] [(Col.mk [105,100] 1),(Col.mk [110,97,109,101] 2)] 1 [])) 5 (Zn [97]) (Span.mk 0 10)).s.key),v5,v6,S ((ZG (ZO (Schema.mk [112,101,111,112,108,101] [(Col.mk [105,100] 1),(Col.mk [110,97,109,101] 2)] 1 [])) 5 (Zn [97]) (Span.mk 0 10)).last)]),some (b1,28,[H13,H14,H15,H16,H17,H18])] w9) (fun _ h9=>by obtain ⟨H13,H14,H15,H16,H17,H18,h9⟩:=h9; exact ⟨H13,H14,H15,H16,H17,H18,h9.draw⟩) [(13,true),(14,false)] [(20, .agg #[Za ((ZG (ZO (Schema.mk [112,101,111,112,108,101] [(Col.mk [105,100] 1),(Col.mk [110,97,109,101] 2)] 1 [])) 5 (Zn [97]) (Span.mk 0 10)).s.name),v4,S ((ZG (ZO (Schema.mk [112,101,111,112,108,101] [(Col.mk [105,100] 1),(Col.mk [110,97,109,101] 2)] 1 [])) 5 (Zn [97]) (Span.mk 0 10)).s.key),v5,v6,S ((ZG (ZO (Schema.mk [112,101,111,112,108,101] [(Col.mk [105,100] 1),(Col.mk [110,97,109,101] 2)] 1 [])) 5 (Zn [97]) (Span.mk 0 10)).last)]),(22, .bool false)] ⟨_,_,_,_,_,_,S10⟩ ⟨fun _ h9=>by obtain ⟨H13,H14,H15,H16,H17,H18,hSw⟩:=h9; exact Yg hSw 0 _ _ _ 0 [Za ((ZG (ZO (Schema.mk [112,101,111,112,108,101] [(Col.mk [105,100] 1),(Col.mk [110,97,109,101] 2)] 1 [])) 5 (Zn [97]) (Span.mk 0 10)).s.name),v4,S ((ZG (ZO (Schema.mk [112,101,111,112,108,101] [(Col.mk [105,100] 1),(Col.mk [110,97,109,101] 2)] 1 [])) 5 (Zn [97]) (Span.mk 0 10)).s.key),v5,v6,S ((ZG (ZO (Schema.mk [112,101,111,112,108,101] [(Col.mk [105,100] 1),(Col.mk [110,97,109,101] 2)] 1 [])) 5 (Zn [97]) (Span.mk 0 10)).last)] U U U Zm U U U <| nu U U,fun _=>WL.cmpV .eql U .i64 (ZcQ (Schema.mk [112,101,111,112,108,101] [(Col.mk [105,100] 1),(Col.mk [110,97,109,101] 2)] 1 [])) 0 _ B7 U U U <| nu U U,trivial⟩ ?_
 rintro w15 ⟨H13,H14,H15,H16,H17,H18,S15⟩
 refine Zi S15 1 [Za ((ZG (ZO (Schema.mk [112,101,111,112,108,101] [(Col.mk [105,100] 1),(Col.mk [110,97,109,101] 2)] 1 [])) 5 (Zn [97]) (Span.mk 0 10)).s.name),v4,S ((ZG (ZO (Schema.mk [112,101,111,112,108,101] [(Col.mk [105,100] 1),(Col.mk [110,97,109,101] 2)] 1 [])) 5 (Zn [97]) (Span.mk 0 10)).s.key),v5,v6,S ((ZG (ZO (Schema.mk [112,101,111,112,108,101] [(Col.mk [105,100] 1),(Col.mk [110,97,109,101] 2)] 1 [])) 5 (Zn [97]) (Span.mk 0 10)).last)] U U Zm U U (by simp only [ZA,A7.oneC,A8.oneC,A9.oneC] <;> rfl) U U U (fun w16 S16=>?_)
 refine ⟨⟨_,_,_,_,_,_,S16.down S15.le (G4.le_refl)⟩,?_⟩
 exact Xr [.agg #[Za ((ZG (ZO (Schema.mk [112,101,111,112,108,101] [(Col.mk [105,100] 1),(Col.mk [110,97,109,101] 2)] 1 [])) 5 (Zn [97]) (Span.mk 0 10)).s.name),v4,S ((ZG (ZO (Schema.mk [112,101,111,112,108,101] [(Col.mk [105,100] 1),(Col.mk [110,97,109,101] 2)] 1 [])) 5 (Zn [97]) (Span.mk 0 10)).s.key),v5,v6,S ((ZG (ZO (Schema.mk [112,101,111,112,108,101] [(Col.mk [105,100] 1),(Col.mk [110,97,109,101] 2)] 1 [])) 5 (Zn [97]) (Span.mk 0 10)).last)], .bool false] S16 ⟨_,_,_,U,U,S16.loadA 1 _ _ _ 0 [Za ((ZG (ZO (Schema.mk [112,101,111,112,108,101] [(Col.mk [105,100] 1),(Col.mk [110,97,109,101] 2)] 1 [])) 5 (Zn [97]) (Span.mk 0 10)).s.name),v4,S ((ZG (ZO (Schema.mk [112,101,111,112,108,101] [(Col.mk [105,100] 1),(Col.mk [110,97,109,101] 2)] 1 [])) 5 (Zn [97]) (Span.mk 0 10)).s.key),v5,v6,S ((ZG (ZO (Schema.mk [112,101,111,112,108,101] [(Col.mk [105,100] 1),(Col.mk [110,97,109,101] 2)] 1 [])) 5 (Zn [97]) (Span.mk 0 10)).last)] U U U Zm U,⟨_,U,U⟩⟩ ⟨_,_,U,(Is.cast ⟨_,U,(Zo (ZG (ZO (Schema.mk [112,101,111,112,108,101] [(Col.mk [105,100] 1),(Col.mk [110,97,109,101] 2)] 1 [])) 5 (Zn [97]) (Span.mk 0 10)) B4 A7 B5 A8 A9 B6)⟩ (by with_reducible exact Zg9.1)),(congrArg Value.bool (by with_reducible exact absurd Zj7.2 ‹_›))⟩
theorem ZdF {G : GH} {w : World} (hG : G.In w) : CL Tryz.prog (nat_lit 11) #[] [] w G fun _ _ r=>r = .bool true:=by
 refine Zh ft [3,4] Tryz.func11 U U ?_
 have hS:=St.start (X:=[]) hG
 refine Z9 hS ZwX U U U (ZtP hS.imm) ?_
 rintro w1 G1 _ ⟨r2,_,rfl,A1,rfl⟩ S1 L1
 obtain ⟨D1,rfl,R1⟩:=A1
 obtain ⟨v1,v2,v3,rfl,B1,A2,B2,A3,A4,B3⟩:=Zy R1
 refine WL.alloc S1 Zm U U (fun b1 w2 N1 S2=>?_)
 refine Zi S2 0 [Za ZE.s.name,v1,S ZE.s.key,v2,v3,S ZE.last] U U Zm U U (by simp only [ZA,A2.oneC,A3.oneC,A4.oneC] <;> rfl) U U U (fun w3 S3=>?_)
 obtain ⟨G2,L2,C1,S4⟩:=S3.shutB N1
 refine JN.go ft [3,4] (fun ρ1 w1=>∃ (G3 : GH),G2.le G3 ∧ St w [] G G3 [] w1 ∧ FR ρ1 [(1, .pointer (some (⟨b1,0,none⟩ : Addr))),(2, .bool true),(4,S (ZaT ZE 6 (Zn [98]) (Span.mk 5 20)))]) ?_ ?_
 ·refine drT [1,3,4,5,6,7,8,9] [(13, .agg #[Za ZE.s.name,v1,S ZE.s.key,v2,v3,S ZE.last]),(15, .agg #[S 5,S 20])] S4 ⟨fun _ hSw=>Zb hSw C1 [Za ZE.s.name,v1,S ZE.s.key,v2,v3,S ZE.last] Zm U U U U U <| nu U U,fun _=>WL.build _ [(0,[S 5]),(1,[S 20])] [S 5,S 20] Z2 U XB U U U U <| nu U U,trivial⟩ (fun w5 S6=>?_)
  refine TG.fork 7 [1,3,4,5,6,7,8,9] [1,7] U U (by decide) (by decide) (TA.cons U ?_ (TA.cons U ?_ TA.nil))
  ·refine Z9 S6 Zjo U U U (ZdZ S6.imm [98] (by simp [reach])) (fun w6 G4 r4 P2 S7 L4=>?_)
   refine ⟨fun _=>S7.down S6.le L4,?_⟩
   refine TG.fork 6 [3,4,5,6,7,8,9] [3,7] U U (by decide) (by decide) (TA.cons U ?_ (TA.cons U ?_ TA.nil))
   ·have j1:=(L2.trans L4)
    refine Z9 S7 Zjn U U U (Zex S7.imm ZE 6 (Zn [98]) (Span.mk 5 20) _ (Zo ZE B1 (A2.mono j1) B2 (A3.mono j1) (A4.mono j1) B3) _ P2 _ (Z1 (Span.mk 5 20) (show Z0 5 from by constructor <;> decide) (show Z0 20 from by constructor <;> decide)) (show Z0 6 from by constructor <;> decide)) ?_
    rintro w7 G5 _ ⟨r6,_,rfl,A5,rfl⟩ S8 L5
    obtain ⟨D2,rfl,R2⟩:=A5
    obtain ⟨v4,v5,v6,rfl,B4,A6,B5,A7,A8,B6⟩:=Zy R2
    refine ⟨fun h=>absurd h (by decide),?_⟩
    refine TG.quiet 5 [4,5,6,7,8,9] 4 U U U U U (by decide) (fun w9 K9 k9=>WL.move U k9) ?_
    refine TG.quiet 4 [5,6,7,8,9] 5 U U U U U (by decide) (fun w9 K9 k9=>WL.extract _ _ U U U k9) ?_
    refine TG.quiet 3 [6,7,8,9] 6 U U U U U (by decide) (fun w9 K9 k9=>WL.extract _ _ U U U k9) ?_
    refine TG.fork 2 [7,8,9] [7] U U (by decide) (by decide) (TA.cons U ?_ TA.nil)
    refine WL.alloc S8 Zm U U (fun b2 w9 N2 S9=>?_)
    refine ⟨fun _=>S9.tail.down S6.le (L4.trans L5),?_⟩
    refine TG.fork 1 [8,9] [8] U U (by decide) (by decide) (TA.cons U ?_ TA.nil)
    refine Zi S9 0 [Za ((ZG ZE 6 (Zn [98]) (Span.mk 5 20)).s.name),v4,S ((ZG ZE 6 (Zn [98]) (Span.mk 5 20)).s.key),v5,v6,S ((ZG ZE 6 (Zn [98]) (Span.mk 5 20)).last)] U U Zm U U (by simp only [ZA,A6.oneC,A7.oneC,A8.oneC] <;> rfl) U U U (fun w10 S10=>?_)
    obtain ⟨G6,L6,C2,S11⟩:=S10.shutB N2
    refine ⟨fun h=>absurd h (by decide),?_⟩
    refine TG.quiet 0 [9] 9 U U U U U (by decide) (fun w9 K9 k9=>WL.assign U k9) ?_
    refine TG.fin U ?_
    exact ⟨G6,((L4.trans L5).trans L6),S11,⟨U,U,U,trivial⟩⟩
   refine WL.alloc S7 Zm U U (fun b3 w11 N3 S12=>?_)
   refine ⟨fun _=>S12.tail.down S6.le L4,?_⟩
   refine TG.fork 5 [3,4,5,6,8,9] [3] U U (by decide) (by decide) (TA.cons U ?_ TA.nil)
   have j2:=(L2.trans L4)
   refine Z9 S12 Zjn U U U (Zex S12.imm ZE 6 (Zn [98]) (Span.mk 5 20) _ (Zo ZE B1 (A2.mono j2) B2 (A3.mono j2) (A4.mono j2) B3) _ P2 _ (Z1 (Span.mk 5 20) (show Z0 5 from by constructor <;> decide) (show Z0 20 from by constructor <;> decide)) (show Z0 6 from by constructor <;> decide)) ?_
   rintro w12 G7 _ ⟨r9,_,rfl,A9,rfl⟩ S13 L7
   obtain ⟨D3,rfl,R3⟩:=A9
   obtain ⟨v7,v9,v10,rfl,B7,A10,B8,A11,A12,B9⟩:=Zy R3
   refine ⟨fun h=>absurd h (by decide),?_⟩
   refine TG.quiet 4 [4,5,6,8,9] 4 U U U U U (by decide) (fun w9 K9 k9=>WL.move U k9) ?_
   refine TG.quiet 3 [5,6,8,9] 5 U U U U U (by decide) (fun w9 K9 k9=>WL.extract _ _ U U U k9) ?_
   refine TG.quiet 2 [6,8,9] 6 U U U U U (by decide) (fun w9 K9 k9=>WL.extract _ _ U U U k9) ?_
   refine TG.fork 1 [8,9] [8] U U (by decide) (by decide) (TA.cons U ?_ TA.nil)
   refine Zi S13 0 [Za ((ZG ZE 6 (Zn [98]) (Span.mk 5 20)).s.name),v7,S ((ZG ZE 6 (Zn [98]) (Span.mk 5 20)).s.key),v9,v10,S ((ZG ZE 6 (Zn [98]) (Span.mk 5 20)).last)] U U Zm U U (by simp only [ZA,A10.oneC,A11.oneC,A12.oneC] <;> rfl) U U U (fun w13 S14=>?_)
   obtain ⟨G9,L9,C3,S15⟩:=S14.shutB N3
   refine ⟨fun h=>absurd h (by decide),?_⟩
   refine TG.quiet 0 [9] 9 U U U U U (by decide) (fun w9 K9 k9=>WL.assign U k9) ?_
   refine TG.fin U ?_
   exact ⟨G9,((L4.trans L7).trans L9),S15,⟨U,U,U,trivial⟩⟩
  refine WL.alloc S6 Zm U U (fun b4 w14 N4 S16=>?_)
  refine ⟨fun _=>S16.tail.down S6.le (G2.le_refl),?_⟩
  refine TG.fork 6 [1,3,4,5,6,8,9] [1] U U (by decide) (by decide) (TA.cons U ?_ TA.nil)
  refine Z9 S16 Zjo U U U (ZdZ S16.imm [98] (by simp [reach])) (fun w15 G10 r11 P5 S17 L10=>?_)
  refine ⟨fun _=>S17.tail.down S6.le L10,?_⟩
  refine TG.fork 5 [3,4,5,6,8,9] [3] U U (by decide) (by decide) (TA.cons U ?_ TA.nil)
  have j3:=(L2.trans L10)
  refine Z9 S17 Zjn U U U (Zex S17.imm ZE 6 (Zn [98]) (Span.mk 5 20) _ (Zo ZE B1 (A2.mono j3) B2 (A3.mono j3) (A4.mono j3) B3) _ P5 _ (Z1 (Span.mk 5 20) (show Z0 5 from by constructor <;> decide) (show Z0 20 from by constructor <;> decide)) (show Z0 6 from by constructor <;> decide)) ?_
  rintro w16 G11 _ ⟨r13,_,rfl,A13,rfl⟩ S18 L11
  obtain ⟨D4,rfl,R4⟩:=A13
  obtain ⟨v11,v12,v13,rfl,B10,A14,Y6,A15,A16,YU⟩:=Zy R4
  refine ⟨fun h=>absurd h (by decide),?_⟩
  refine TG.quiet 4 [4,5,6,8,9] 4 U U U U U (by decide) (fun w9 K9 k9=>WL.move U k9) ?_
  refine TG.quiet 3 [5,6,8,9] 5 U U U U U (by decide) (fun w9 K9 k9=>WL.extract _ _ U U U k9) ?_
  refine TG.quiet 2 [6,8,9] 6 U U U U U (by decide) (fun w9 K9 k9=>WL.extract _ _ U U U k9) ?_
  refine TG.fork 1 [8,9] [8] U U (by decide) (by decide) (TA.cons U ?_ TA.nil)
  refine Zi S18 0 [Za ((ZG ZE 6 (Zn [98]) (Span.mk 5 20)).s.name),v11,S ((ZG ZE 6 (Zn [98]) (Span.mk 5 20)).s.key),v12,v13,S ((ZG ZE 6 (Zn [98]) (Span.mk 5 20)).last)] U U Zm U U (by simp only [ZA,A14.oneC,A15.oneC,A16.oneC] <;> rfl) U U U (fun w17 S19=>?_)
  obtain ⟨G12,L12,C4,S20⟩:=S19.shutB N4
  refine ⟨fun h=>absurd h (by decide),?_⟩
  refine TG.quiet 0 [9] 9 U U U U U (by decide) (fun w9 K9 k9=>WL.assign U k9) ?_
  refine TG.fin U ?_
  exact ⟨G12,((L10.trans L11).trans L12),S20,⟨U,U,U,trivial⟩⟩
 rintro ρ1 w4 ⟨G3,L3,S5,F9⟩
 refine F9.set ?_
 refine JN.go ft [3,4] (fun ρ1 w1=>∃ (q5 : Addr),∃ (u1 : Value),∃ (u2 : Value),∃ (u3 : Value),∃ (G13 : GH),G3.le G13 ∧ St w [] G G13 [] w1 ∧ FR ρ1 [(2, .bool true),(4,S (ZaT ZE 6 (Zn [98]) (Span.mk 5 20))),(5,Zs q5),(6,S (Zdt ZE 6 (Zn [98]) (Span.mk 5 20)))] ∧ XC G13 q5 [Za (Xs ZE 6 (Zn [98]) (Span.mk 5 20)).s.name,u1,S (Xs ZE 6 (Zn [98]) (Span.mk 5 20)).s.key,u2,u3,S (Xs ZE 6 (Zn [98]) (Span.mk 5 20)).last] ∧ Sl ColE 24 G13 u1 (Xs ZE 6 (Zn [98]) (Span.mk 5 20)).s.cols ∧ Sl ForeignE 40 G13 u2 (Xs ZE 6 (Zn [98]) (Span.mk 5 20)).s.fks ∧ Sl HRowE 56 G13 u3 (Xs ZE 6 (Zn [98]) (Span.mk 5 20)).rows ∧ (Xs ZE 6 (Zn [98]) (Span.mk 5 20)).s.name.length ≤ reach ∧ Z0 (Xs ZE 6 (Zn [98]) (Span.mk 5 20)).s.key ∧ Z0 (Xs ZE 6 (Zn [98]) (Span.mk 5 20)).last) ?_ ?_
 ·refine drT [1,3,4,5,6,7,8,9] [(20, .agg #[Za ZE.s.name,v1,S ZE.s.key,v2,v3,S ZE.last]),(22, .agg #[S 5,S 20])] S5 ⟨fun _ hSw=>Zb hSw (C1.mono L3) [Za ZE.s.name,v1,S ZE.s.key,v2,v3,S ZE.last] Zm U U U U U <| nu U U,fun _=>WL.build _ [(0,[S 5]),(1,[S 20])] [S 5,S 20] Z2 U XB U U U U <| nu U U,trivial⟩ (fun w19 S22=>?_)
  refine TG.fork 7 [1,3,4,5,6,7,8,9] [1,7] U U (by decide) (by decide) (TA.cons U ?_ (TA.cons U ?_ TA.nil))
  ·refine Z9 S22 Zjo U U U (ZdZ S22.imm [98] (by simp [reach])) (fun w20 G14 r15 P7 S23 L14=>?_)
   refine ⟨fun _=>S23.down S22.le L14,?_⟩
   refine TG.fork 6 [3,4,5,6,7,8,9] [3,7] U U (by decide) (by decide) (TA.cons U ?_ (TA.cons U ?_ TA.nil))
   ·have j4:=((L2.trans L3).trans L14)
    refine Z9 S23 XY U U U (Zj9 S23.imm ZE 6 (Zn [98]) (Span.mk 5 20) _ (Zo ZE B1 (A2.mono j4) B2 (A3.mono j4) (A4.mono j4) B3) _ P7 _ (Z1 (Span.mk 5 20) (show Z0 5 from by constructor <;> decide) (show Z0 20 from by constructor <;> decide)) (show Z0 6 from by constructor <;> decide)) ?_
    rintro w21 G15 _ ⟨r17,_,rfl,A17,rfl⟩ S24 L15
    obtain ⟨D5,rfl,R5⟩:=A17
    obtain ⟨v14,v15,v16,rfl,Xa,A18,XF,A19,A20,Xz⟩:=Zy R5
    refine ⟨fun h=>absurd h (by decide),?_⟩
    refine TG.quiet 5 [4,5,6,7,8,9] 4 U U U U U (by decide) (fun w9 K9 k9=>WL.move U k9) ?_
    refine TG.quiet 4 [5,6,7,8,9] 5 U U U U U (by decide) (fun w9 K9 k9=>WL.extract _ _ U U U k9) ?_
    refine TG.quiet 3 [6,7,8,9] 6 U U U U U (by decide) (fun w9 K9 k9=>WL.extract _ _ U U U k9) ?_
    refine TG.fork 2 [7,8,9] [7] U U (by decide) (by decide) (TA.cons U ?_ TA.nil)
    refine WL.alloc S24 Zm U U (fun b5 w22 N5 S25=>?_)
    refine ⟨fun _=>S25.tail.down S22.le (L14.trans L15),?_⟩
    refine TG.fork 1 [8,9] [8] U U (by decide) (by decide) (TA.cons U ?_ TA.nil)
    refine Zi S25 0 [Za ((Xs ZE 6 (Zn [98]) (Span.mk 5 20)).s.name),v14,S ((Xs ZE 6 (Zn [98]) (Span.mk 5 20)).s.key),v15,v16,S ((Xs ZE 6 (Zn [98]) (Span.mk 5 20)).last)] U U Zm U U (by simp only [ZA,A18.oneC,A19.oneC,A20.oneC] <;> rfl) U U U (fun w23 S26=>?_)
    obtain ⟨G16,L16,C5,S27⟩:=S26.shutB N5
    refine ⟨fun h=>absurd h (by decide),?_⟩
    refine TG.quiet 0 [9] 9 U U U U U (by decide) (fun w9 K9 k9=>WL.assign U k9) ?_
    refine TG.fin U ?_
    exact ⟨(⟨b5,0,none⟩ : Addr),v14,v15,v16,G16,((L14.trans L15).trans L16),S27,(Zq U),(C5),((A18.mono L16)),((A19.mono L16)),((A20.mono L16)),(Xa),(XF),(Xz)⟩
   refine WL.alloc S23 Zm U U (fun b6 w24 N6 S28=>?_)
   refine ⟨fun _=>S28.tail.down S22.le L14,?_⟩
   refine TG.fork 5 [3,4,5,6,8,9] [3] U U (by decide) (by decide) (TA.cons U ?_ TA.nil)
   have j5:=((L2.trans L3).trans L14)
   refine Z9 S28 XY U U U (Zj9 S28.imm ZE 6 (Zn [98]) (Span.mk 5 20) _ (Zo ZE B1 (A2.mono j5) B2 (A3.mono j5) (A4.mono j5) B3) _ P7 _ (Z1 (Span.mk 5 20) (show Z0 5 from by constructor <;> decide) (show Z0 20 from by constructor <;> decide)) (show Z0 6 from by constructor <;> decide)) ?_
   rintro w25 G17 _ ⟨r20,_,rfl,A21,rfl⟩ S29 L17
   obtain ⟨D6,rfl,R6⟩:=A21
   obtain ⟨v17,v18,v19,rfl,QK,A22,XG,A23,A24,Q8⟩:=Zy R6
   refine ⟨fun h=>absurd h (by decide),?_⟩
   refine TG.quiet 4 [4,5,6,8,9] 4 U U U U U (by decide) (fun w9 K9 k9=>WL.move U k9) ?_
   refine TG.quiet 3 [5,6,8,9] 5 U U U U U (by decide) (fun w9 K9 k9=>WL.extract _ _ U U U k9) ?_
   refine TG.quiet 2 [6,8,9] 6 U U U U U (by decide) (fun w9 K9 k9=>WL.extract _ _ U U U k9) ?_
   refine TG.fork 1 [8,9] [8] U U (by decide) (by decide) (TA.cons U ?_ TA.nil)
   refine Zi S29 0 [Za ((Xs ZE 6 (Zn [98]) (Span.mk 5 20)).s.name),v17,S ((Xs ZE 6 (Zn [98]) (Span.mk 5 20)).s.key),v18,v19,S ((Xs ZE 6 (Zn [98]) (Span.mk 5 20)).last)] U U Zm U U (by simp only [ZA,A22.oneC,A23.oneC,A24.oneC] <;> rfl) U U U (fun w26 S30=>?_)
   obtain ⟨G18,L18,C6,S31⟩:=S30.shutB N6
   refine ⟨fun h=>absurd h (by decide),?_⟩
   refine TG.quiet 0 [9] 9 U U U U U (by decide) (fun w9 K9 k9=>WL.assign U k9) ?_
   refine TG.fin U ?_
   exact ⟨(⟨b6,0,none⟩ : Addr),v17,v18,v19,G18,((L14.trans L17).trans L18),S31,(Zq U),(C6),((A22.mono L18)),((A23.mono L18)),((A24.mono L18)),(QK),(XG),(Q8)⟩
  refine WL.alloc S22 Zm U U (fun b7 w27 N7 S32=>?_)
  refine ⟨fun _=>S32.tail.down S22.le (G3.le_refl),?_⟩
  refine TG.fork 6 [1,3,4,5,6,8,9] [1] U U (by decide) (by decide) (TA.cons U ?_ TA.nil)
  refine Z9 S32 Zjo U U U (ZdZ S32.imm [98] (by simp [reach])) (fun w28 G19 r22 P10 S33 L19=>?_)
  refine ⟨fun _=>S33.tail.down S22.le L19,?_⟩
  refine TG.fork 5 [3,4,5,6,8,9] [3] U U (by decide) (by decide) (TA.cons U ?_ TA.nil)
  have j6:=((L2.trans L3).trans L19)
  refine Z9 S33 XY U U U (Zj9 S33.imm ZE 6 (Zn [98]) (Span.mk 5 20) _ (Zo ZE B1 (A2.mono j6) B2 (A3.mono j6) (A4.mono j6) B3) _ P10 _ (Z1 (Span.mk 5 20) (show Z0 5 from by constructor <;> decide) (show Z0 20 from by constructor <;> decide)) (show Z0 6 from by constructor <;> decide)) ?_
  rintro w29 G20 _ ⟨r24,_,rfl,A25,rfl⟩ S34 L20
  obtain ⟨D7,rfl,R7⟩:=A25
  obtain ⟨v20,v21,v22,rfl,ZaI,A26,ZaJ,A27,A28,Zcv⟩:=Zy R7
  refine ⟨fun h=>absurd h (by decide),?_⟩
  refine TG.quiet 4 [4,5,6,8,9] 4 U U U U U (by decide) (fun w9 K9 k9=>WL.move U k9) ?_
  refine TG.quiet 3 [5,6,8,9] 5 U U U U U (by decide) (fun w9 K9 k9=>WL.extract _ _ U U U k9) ?_
  refine TG.quiet 2 [6,8,9] 6 U U U U U (by decide) (fun w9 K9 k9=>WL.extract _ _ U U U k9) ?_
  refine TG.fork 1 [8,9] [8] U U (by decide) (by decide) (TA.cons U ?_ TA.nil)
  refine Zi S34 0 [Za ((Xs ZE 6 (Zn [98]) (Span.mk 5 20)).s.name),v20,S ((Xs ZE 6 (Zn [98]) (Span.mk 5 20)).s.key),v21,v22,S ((Xs ZE 6 (Zn [98]) (Span.mk 5 20)).last)] U U Zm U U (by simp only [ZA,A26.oneC,A27.oneC,A28.oneC] <;> rfl) U U U (fun w30 S35=>?_)
  obtain ⟨G21,L21,C7,S36⟩:=S35.shutB N7
  refine ⟨fun h=>absurd h (by decide),?_⟩
  refine TG.quiet 0 [9] 9 U U U U U (by decide) (fun w9 K9 k9=>WL.assign U k9) ?_
  refine TG.fin U ?_
  exact ⟨(⟨b7,0,none⟩ : Addr),v20,v21,v22,G21,((L19.trans L20).trans L21),S36,(Zq U),(C7),((A26.mono L21)),((A27.mono L21)),((A28.mono L21)),(ZaI),(ZaJ),(Zcv)⟩
 rintro ρ1 w18 ⟨q5,u1,u2,u3,G13,L13,S21,F9,f1,f2,f3,f4,f5,f6,f7⟩
 refine F9.set ?_
 refine Zb S21 f1 [Za ((Xs ZE 6 (Zn [98]) (Span.mk 5 20)).s.name),u1,S ((Xs ZE 6 (Zn [98]) (Span.mk 5 20)).s.key),u2,u3,S ((Xs ZE 6 (Zn [98]) (Span.mk 5 20)).last)] Zm U U U U U ?_
 refine Z9 S21 ZwY U U U (Zzv S21.imm (Xs ZE 6 (Zn [98]) (Span.mk 5 20)) 6 _ (Zo (Xs ZE 6 (Zn [98]) (Span.mk 5 20)) f5 f2 f6 f3 f4 f7)) (fun w31 G22 r26 P12 S37 L22=>?_)
 refine ZC (ZaT ZE 6 (Zn [98]) (Span.mk 5 20)) 14 U U U (fun h1=>?_) (fun h1=>?_)
 ·refine ZC (Zdt ZE 6 (Zn [98]) (Span.mk 5 20)) 0 U U U (fun h2=>?_) (fun h2=>?_)
  ·have V1:=P12.bound
   refine Zl P12 ZoD U U ?_
   refine ZC (((atH (Xs ZE 6 (Zn [98]) (Span.mk 5 20)) 6).length : Nat) : Int) 2 U U U (fun h3=>?_) (fun h3=>?_)
   ·refine WL.indexAddr P12 0 (by omega) ZoD ZoB U U U U (fun p1 x1 U1 E1=>?_)
    obtain ⟨D8,C8,R8⟩:=E1
    obtain ⟨v23,rfl,A29,ZbZ,Zaq⟩:=Zij R8
    refine Zb S37 (XC.drop 1 C8) [S x1.t.a,S x1.t.b] Z2 U U U U U <| WL.build _ [(0,[S 0]),(1,[S 5])] [S 0,S 5] Z2 U XB U U U U <| Zh6 (Zfn x1.t (Span.mk 0 5)) Zlb U U U ?_
    refine WL.split (fun (h4 : (decide (x1.t = (Span.mk 0 5))) = true)=>?_) (fun (h4 : (decide (x1.t = (Span.mk 0 5))) = false)=>?_)
    ·refine WL.indexAddr P12 1 (by omega) ZoD ZoB U U U U (fun p2 x2 U2 E2=>?_)
     obtain ⟨D9,C9,R9⟩:=E2
     obtain ⟨v24,rfl,A30,Zcw,ZbG⟩:=Zij R9
     refine Zb S37 (XC.drop 1 C9) [S x2.t.a,S x2.t.b] Z2 U U U U U <| WL.build _ [(0,[S 5]),(1,[S 20])] [S 5,S 20] Z2 U XB U U U U <| Zh6 (Zfn x2.t (Span.mk 5 20)) Zlb U U U ?_
     exact RB S37 U (by with_reducible exact decide_eq_true (Zzx ‹_›))
    exact RB S37 U (by with_reducible exact absurd (Zzw ‹_›) (of_decide_eq_false ‹_›))
   exact RB S37 U (by with_reducible exact absurd Zwp ‹_›)
  exact RB S37 U (by with_reducible exact absurd Zp7.e ‹_›)
 exact RB S37 U (by with_reducible exact absurd ZxS ‹_›)
end Go.Civ
