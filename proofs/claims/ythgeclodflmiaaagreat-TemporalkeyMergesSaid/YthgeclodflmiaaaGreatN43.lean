/- Lemmas. -/
import Derived.Test.YthgeclodflmiaaaGreatN30
import Derived.Test.YthgeclodflmiaaaGreatN39
import Derived.Test.YthgeclodflmiaaaGreatN42
import Derived.Test.YthgeclodflmiaaaGreatProg
import Derived.KernelRfl
import Derived.WalkKit
set_option linter.unusedVariables false
set_option linter.unusedSimpArgs false
set_option maxRecDepth 100000
set_option maxHeartbeats 4000000
namespace Go.Civ
open Go.Proofs
theorem Zda {G : GH} {w : World} (hG : G.In w) (nm : List UInt8) (hnm : nm.length ≤ reach) : CL Tryz.prog (nat_lit 56) #[Zb nm] [] w G fun G' _ r=>Sl ValE 32 G' r (Zg nm):=by
 refine Zf ft [] Tryz.func56 rfl rfl ?_
 have hS:=St.start (X:=[]) hG
 refine WL.build _ [(0,[.int .i64 1]),(1,[.int .i64 1])] [.int .i64 1, .int .i64 1,Zb []] ZG rfl Zql rfl rfl rfl rfl <| WL.build _ [(0,[.int .i64 2]),(2,[Zb nm])] [.int .i64 2, .int .i64 0,Zb nm] ZG rfl Zql rfl rfl rfl rfl ?_
 refine WL.buildSlice _ [(0,[.int .i64 1, .int .i64 1,Zb []]),(1,[.int .i64 2, .int .i64 0,Zb nm])] [.int .i64 1, .int .i64 1,Zb [], .int .i64 2, .int .i64 0,Zb nm] hS Zgt rfl rfl rfl rfl (fun z hz=>by match z,hz with | [z0,z1,z2,z3,z4,z5],_=>rfl) (fun b1 w1 hn1 hS1=>?_)
 obtain ⟨G1,hle1,hs1,hS2⟩:=St.sealSl (E:=ValE) (by_:=32) (l:=([(Val.mk 1 1 []),(Val.mk 2 0 nm)] : List Val)) hS1 hn1 ⟨[.int .i64 1, .int .i64 1,Zb []],_,rfl,(YK (Val.mk 1 1 []) (show Zv 1 from by constructor <;> decide) (show Zv 1 from by constructor <;> decide) (by simp [reach])),⟨[.int .i64 2, .int .i64 0,Zb nm],_,rfl,(YK (Val.mk 2 0 nm) (show Zv 2 from by constructor <;> decide) Y5 hnm),rfl⟩⟩ rfl (by simp [reach]) (by simp [reach])
 exact RT hS2 rfl (Sl.cast hs1 (by rfl))
theorem Zr9 {G : GH} {w : World} (hG : G.In w) : CL Tryz.prog (nat_lit 55) #[] [] w G fun G' _ r=>∃ r0 r1,r = .tuple #[r0,r1] ∧ Is TableE G' r0 Zz ∧ r1 = .bool true:=by
 refine YY ft [] Tryz.func55 rfl rfl ?_
 have hS:=St.start (X:=[]) hG
 refine WL.alloc hS Zw rfl rfl (fun b1 w1 hn1 hS1=>?_)
 refine WL.build _ [(0,[Zb [105,100]]),(1,[.int .i64 1])] [Zb [105,100], .int .i64 1] X0 rfl ZmH rfl rfl rfl rfl <| WL.build _ [(0,[Zb [110,97,109,101]]),(1,[.int .i64 2])] [Zb [110,97,109,101], .int .i64 2] X0 rfl ZmH rfl rfl rfl rfl ?_
 refine WL.buildSlice _ [(0,[Zb [105,100], .int .i64 1]),(1,[Zb [110,97,109,101], .int .i64 2])] [Zb [105,100], .int .i64 1,Zb [110,97,109,101], .int .i64 2] hS1 Zqn rfl rfl rfl rfl (fun z hz=>by match z,hz with | [z0,z1,z2,z3],_=>rfl) (fun b2 w2 hn2 hS2=>?_)
 obtain ⟨G1,hle1,hs1,hS3⟩:=St.sealSl (E:=ColE) (by_:=24) (l:=([(Col.mk [105,100] 1),(Col.mk [110,97,109,101] 2)] : List Col)) hS2 hn2 ⟨[Zb [105,100], .int .i64 1],_,rfl,(ZfC (Col.mk [105,100] 1) (by simp [reach]) (show Zv 1 from by constructor <;> decide)),⟨[Zb [110,97,109,101], .int .i64 2],_,rfl,(ZfC (Col.mk [110,97,109,101] 2) (by simp [reach]) (show Zv 2 from by constructor <;> decide)),rfl⟩⟩ rfl (by simp [reach]) (by simp [reach])
 refine WL.build _ [(0,[Zb [112,101,111,112,108,101]]),(1,[.slice (some ⟨b2,0,none⟩) 2 2]),(2,[.int .i64 1])] [Zb [112,101,111,112,108,101], .slice (some ⟨b2,0,none⟩) 2 2, .int .i64 1, .slice none 0 0] Zb2 rfl Zwj rfl rfl rfl rfl ?_
 refine Z6 hS3 Zve rfl rfl rfl (ZuE hS3.imm (Schema.mk [112,101,111,112,108,101] [(Col.mk [105,100] 1),(Col.mk [110,97,109,101] 2)] 1 []) _ (Xt (Schema.mk [112,101,111,112,108,101] [(Col.mk [105,100] 1),(Col.mk [110,97,109,101] 2)] 1 []) (by simp [reach]) hs1 (show Zv 1 from by constructor <;> decide) (Sl.nil ForeignE 40 G1))) ?_
 rintro w3 G2 _ ⟨r2,_,rfl,hs2,rfl⟩ hS4 hle2
 obtain ⟨cs1,rfl,hr1⟩:=hs2
 obtain ⟨v1,v2,v3,rfl,hb1,hs3,hb2,hs4,hs5,hb3⟩:=ZF hr1
 refine WL.alloc hS4 Zw rfl rfl (fun b3 w4 hn3 hS5=>?_)
 refine WL.store hS5 0 _ _ _ 0 _ [Zb ((Z9 (Schema.mk [112,101,111,112,108,101] [(Col.mk [105,100] 1),(Col.mk [110,97,109,101] 2)] 1 [])).s.name),v1, .int .i64 ((Z9 (Schema.mk [112,101,111,112,108,101] [(Col.mk [105,100] 1),(Col.mk [110,97,109,101] 2)] 1 [])).s.key),v2,v3, .int .i64 ((Z9 (Schema.mk [112,101,111,112,108,101] [(Col.mk [105,100] 1),(Col.mk [110,97,109,101] 2)] 1 [])).last)] [Zb ((Z9 (Schema.mk [112,101,111,112,108,101] [(Col.mk [105,100] 1),(Col.mk [110,97,109,101] 2)] 1 [])).s.name),v1, .int .i64 ((Z9 (Schema.mk [112,101,111,112,108,101] [(Col.mk [105,100] 1),(Col.mk [110,97,109,101] 2)] 1 [])).s.key),v2,v3, .int .i64 ((Z9 (Schema.mk [112,101,111,112,108,101] [(Col.mk [105,100] 1),(Col.mk [110,97,109,101] 2)] 1 [])).last)] _ rfl rfl Zw rfl (Nat.le_of_ble_eq_true rfl) (by simp only [List.all_cons,List.all_nil,hs3.oneC,hs4.oneC,hs5.oneC,Bool.true_and] <;> rfl) rfl rfl rfl rfl rfl (fun w5 hS6=>?_)
 refine drT [1,3,4,5,6,7,8] [(14, .agg #[Zb ((Z9 (Schema.mk [112,101,111,112,108,101] [(Col.mk [105,100] 1),(Col.mk [110,97,109,101] 2)] 1 [])).s.name),v1, .int .i64 ((Z9 (Schema.mk [112,101,111,112,108,101] [(Col.mk [105,100] 1),(Col.mk [110,97,109,101] 2)] 1 [])).s.key),v2,v3, .int .i64 ((Z9 (Schema.mk [112,101,111,112,108,101] [(Col.mk [105,100] 1),(Col.mk [110,97,109,101] 2)] 1 [])).last)]),(16, .agg #[.int .i64 0, .int .i64 10])] hS6 ⟨fun _ hSw=>ZZ hSw 0 _ _ _ 0 [Zb ((Z9 (Schema.mk [112,101,111,112,108,101] [(Col.mk [105,100] 1),(Col.mk [110,97,109,101] 2)] 1 [])).s.name),v1, .int .i64 ((Z9 (Schema.mk [112,101,111,112,108,101] [(Col.mk [105,100] 1),(Col.mk [110,97,109,101] 2)] 1 [])).s.key),v2,v3, .int .i64 ((Z9 (Schema.mk [112,101,111,112,108,101] [(Col.mk [105,100] 1),(Col.mk [110,97,109,101] 2)] 1 [])).last)] rfl rfl rfl Zw rfl rfl rfl <| nu rfl rfl,fun _=>WL.build _ [(0,[.int .i64 0]),(1,[.int .i64 10])] [.int .i64 0, .int .i64 10] Zm rfl Xg rfl rfl rfl rfl <| nu rfl rfl,trivial⟩ (fun w6 hS7=>?_)
 refine TG.fork 6 [1,3,4,5,6,7,8] [1] rfl rfl (by decide) (by decide) (TA.cons rfl ?_ TA.nil)
 refine Z6 hS7 Zkl rfl rfl rfl (Zda hS7.imm [97] (by simp [reach])) (fun w7 G3 r4 hpost2 hS8 hle3=>?_)
 refine ⟨fun _=>hS8.down hS7.le hle3,?_⟩
 refine TG.fork 5 [3,4,5,6,7,8] [3] rfl rfl (by decide) (by decide) (TA.cons rfl ?_ TA.nil)
 refine Z6 hS8 Zkk rfl rfl rfl (ZdB hS8.imm (Z9 (Schema.mk [112,101,111,112,108,101] [(Col.mk [105,100] 1),(Col.mk [110,97,109,101] 2)] 1 [])) 5 (Zg [97]) (Span.mk 0 10) _ (Zu (Z9 (Schema.mk [112,101,111,112,108,101] [(Col.mk [105,100] 1),(Col.mk [110,97,109,101] 2)] 1 [])) hb1 (hs3.mono hle3) hb2 (hs4.mono hle3) (hs5.mono hle3) hb3) _ hpost2 _ (Zq (Span.mk 0 10) (show Zv 0 from by constructor <;> decide) (show Zv 10 from by constructor <;> decide)) (show Zv 5 from by constructor <;> decide)) ?_
 rintro w9 G4 _ ⟨r6,_,rfl,hs6,rfl⟩ hS9 hle4
 obtain ⟨cs2,rfl,hr2⟩:=hs6
 obtain ⟨v4,v5,v6,rfl,hb4,hs7,hb5,hs8,hs9,hb6⟩:=ZF hr2
 refine ⟨fun h=>absurd h (by decide),?_⟩
 refine TG.quiet 4 [4,5,6,7,8] 4 rfl rfl rfl rfl rfl (by decide) (fun w9 K9 k9=>WL.move rfl k9) ?_
 refine TG.quiet 3 [5,6,7,8] 5 rfl rfl rfl rfl rfl (by decide) (fun w9 K9 k9=>WL.extract _ _ rfl rfl rfl k9) ?_
 refine TG.quiet 2 [6,7,8] 6 rfl rfl rfl rfl rfl (by decide) (fun w9 K9 k9=>WL.extract _ _ rfl rfl rfl k9) ?_
 refine TG.fork 1 [7,8] [7] rfl rfl (by decide) (by decide) (TA.cons rfl ?_ TA.nil)
 refine WL.store hS9 0 _ _ _ 0 _ [Zb ((Z0 (Z9 (Schema.mk [112,101,111,112,108,101] [(Col.mk [105,100] 1),(Col.mk [110,97,109,101] 2)] 1 [])) 5 (Zg [97]) (Span.mk 0 10)).s.name),v4, .int .i64 ((Z0 (Z9 (Schema.mk [112,101,111,112,108,101] [(Col.mk [105,100] 1),(Col.mk [110,97,109,101] 2)] 1 [])) 5 (Zg [97]) (Span.mk 0 10)).s.key),v5,v6, .int .i64 ((Z0 (Z9 (Schema.mk [112,101,111,112,108,101] [(Col.mk [105,100] 1),(Col.mk [110,97,109,101] 2)] 1 [])) 5 (Zg [97]) (Span.mk 0 10)).last)] [Zb ((Z0 (Z9 (Schema.mk [112,101,111,112,108,101] [(Col.mk [105,100] 1),(Col.mk [110,97,109,101] 2)] 1 [])) 5 (Zg [97]) (Span.mk 0 10)).s.name),v4, .int .i64 ((Z0 (Z9 (Schema.mk [112,101,111,112,108,101] [(Col.mk [105,100] 1),(Col.mk [110,97,109,101] 2)] 1 [])) 5 (Zg [97]) (Span.mk 0 10)).s.key),v5,v6, .int .i64 ((Z0 (Z9 (Schema.mk [112,101,111,112,108,101] [(Col.mk [105,100] 1),(Col.mk [110,97,109,101] 2)] 1 [])) 5 (Zg [97]) (Span.mk 0 10)).last)] _ rfl rfl Zw rfl (Nat.le_of_ble_eq_true rfl) (by simp only [List.all_cons,List.all_nil,hs7.oneC,hs8.oneC,hs9.oneC,Bool.true_and] <;> rfl) rfl rfl rfl rfl rfl (fun w10 hS10=>?_)
 refine ⟨fun h=>absurd h (by decide),?_⟩
 refine TG.quiet 0 [8] 8 rfl rfl rfl rfl rfl (by decide) (fun w9 K9 k9=>WL.assign rfl k9) ?_
 refine TG.fin rfl ?_
 rcases Cmp.dec .eql (ZbV (Schema.mk [112,101,111,112,108,101] [(Col.mk [105,100] 1),(Col.mk [110,97,109,101] 2)] 1 [])) 0 with ⟨hb7,q1⟩ | ⟨hb7,q1⟩
 ·have h1 : (ZbV (Schema.mk [112,101,111,112,108,101] [(Col.mk [105,100] 1),(Col.mk [110,97,109,101] 2)] 1 [])) = 0:=q1
  clear q1
  rcases Cmp.dec .eql (Zae (Z9 (Schema.mk [112,101,111,112,108,101] [(Col.mk [105,100] 1),(Col.mk [110,97,109,101] 2)] 1 [])) 5 (Zg [97]) (Span.mk 0 10)) 0 with ⟨hb8,q2⟩ | ⟨hb8,q2⟩
  ·have h2 : (Zae (Z9 (Schema.mk [112,101,111,112,108,101] [(Col.mk [105,100] 1),(Col.mk [110,97,109,101] 2)] 1 [])) 5 (Zg [97]) (Span.mk 0 10)) = 0:=q2
   clear q2
   have bd1:=hs9.bound
   refine drD (C:=fun w9=>∃ ce1 ce2 ce3 ce4 ce5 ce6,St w [] G G4 [some (b3,28,[Zb ((Z0 (Z9 (Schema.mk [112,101,111,112,108,101] [(Col.mk [105,100] 1),(Col.mk [110,97,109,101] 2)] 1 [])) 5 (Zg [97]) (Span.mk 0 10)).s.name),v4, .int .i64 ((Z0 (Z9 (Schema.mk [112,101,111,112,108,101] [(Col.mk [105,100] 1),(Col.mk [110,97,109,101] 2)] 1 [])) 5 (Zg [97]) (Span.mk 0 10)).s.key),v5,v6, .int .i64 ((Z0 (Z9 (Schema.mk [112,101,111,112,108,101] [(Col.mk [105,100] 1),(Col.mk [110,97,109,101] 2)] 1 [])) 5 (Zg [97]) (Span.mk 0 10)).last)]),some (b1,28,[ce1,ce2,ce3,ce4,ce5,ce6])] w9) (fun _ h9=>by obtain ⟨ce1,ce2,ce3,ce4,ce5,ce6,h9⟩:=h9; exact ⟨ce1,ce2,ce3,ce4,ce5,ce6,h9.draw⟩) [(13,true),(14,false)] [(20, .agg #[Zb ((Z0 (Z9 (Schema.mk [112,101,111,112,108,101] [(Col.mk [105,100] 1),(Col.mk [110,97,109,101] 2)] 1 [])) 5 (Zg [97]) (Span.mk 0 10)).s.name),v4, .int .i64 ((Z0 (Z9 (Schema.mk [112,101,111,112,108,101] [(Col.mk [105,100] 1),(Col.mk [110,97,109,101] 2)] 1 [])) 5 (Zg [97]) (Span.mk 0 10)).s.key),v5,v6, .int .i64 ((Z0 (Z9 (Schema.mk [112,101,111,112,108,101] [(Col.mk [105,100] 1),(Col.mk [110,97,109,101] 2)] 1 [])) 5 (Zg [97]) (Span.mk 0 10)).last)]),(22, .bool true),(25, .bool true),(29,v6),(30, .int .i64 ((((Z0 (Z9 (Schema.mk [112,101,111,112,108,101] [(Col.mk [105,100] 1),(Col.mk [110,97,109,101] 2)] 1 [])) 5 (Zg [97]) (Span.mk 0 10)).rows).length : Nat) : Int)),(31, .bool (Cmp.b .eql ((((Z0 (Z9 (Schema.mk [112,101,111,112,108,101] [(Col.mk [105,100] 1),(Col.mk [110,97,109,101] 2)] 1 [])) 5 (Zg [97]) (Span.mk 0 10)).rows).length : Nat) : Int) 1))] ⟨_,_,_,_,_,_,hS10⟩ ⟨fun _ h9=>by obtain ⟨ce1,ce2,ce3,ce4,ce5,ce6,hSw⟩:=h9; exact ZZ hSw 0 _ _ _ 0 [Zb ((Z0 (Z9 (Schema.mk [112,101,111,112,108,101] [(Col.mk [105,100] 1),(Col.mk [110,97,109,101] 2)] 1 [])) 5 (Zg [97]) (Span.mk 0 10)).s.name),v4, .int .i64 ((Z0 (Z9 (Schema.mk [112,101,111,112,108,101] [(Col.mk [105,100] 1),(Col.mk [110,97,109,101] 2)] 1 [])) 5 (Zg [97]) (Span.mk 0 10)).s.key),v5,v6, .int .i64 ((Z0 (Z9 (Schema.mk [112,101,111,112,108,101] [(Col.mk [105,100] 1),(Col.mk [110,97,109,101] 2)] 1 [])) 5 (Zg [97]) (Span.mk 0 10)).last)] rfl rfl rfl Zw rfl rfl rfl <| nu rfl rfl,fun _=>WL.cmpV .eql rfl .i64 (ZbV (Schema.mk [112,101,111,112,108,101] [(Col.mk [105,100] 1),(Col.mk [110,97,109,101] 2)] 1 [])) 0 _ hb7 rfl rfl rfl <| nu rfl rfl,fun _=>WL.cmpV .eql rfl .i64 (Zae (Z9 (Schema.mk [112,101,111,112,108,101] [(Col.mk [105,100] 1),(Col.mk [110,97,109,101] 2)] 1 [])) 5 (Zg [97]) (Span.mk 0 10)) 0 _ hb8 rfl rfl rfl <| nu rfl rfl,fun _ h9=>by obtain ⟨ce1,ce2,ce3,ce4,ce5,ce6,hSw⟩:=h9; exact ZM hSw 0 _ _ _ 4 _ rfl rfl YX rfl rfl rfl <| nu rfl rfl,fun _=>Zj hs9 Yl rfl rfl <| nu rfl rfl,fun _=>ZO .eql rfl .i64 ((((Z0 (Z9 (Schema.mk [112,101,111,112,108,101] [(Col.mk [105,100] 1),(Col.mk [110,97,109,101] 2)] 1 [])) 5 (Zg [97]) (Span.mk 0 10)).rows).length : Nat) : Int) 1 rfl rfl rfl <| nu rfl rfl,trivial⟩ ?_
   rintro w11 ⟨ce1,ce2,ce3,ce4,ce5,ce6,hS11⟩
   refine WL.store hS11 1 _ _ _ 0 _ [Zb ((Z0 (Z9 (Schema.mk [112,101,111,112,108,101] [(Col.mk [105,100] 1),(Col.mk [110,97,109,101] 2)] 1 [])) 5 (Zg [97]) (Span.mk 0 10)).s.name),v4, .int .i64 ((Z0 (Z9 (Schema.mk [112,101,111,112,108,101] [(Col.mk [105,100] 1),(Col.mk [110,97,109,101] 2)] 1 [])) 5 (Zg [97]) (Span.mk 0 10)).s.key),v5,v6, .int .i64 ((Z0 (Z9 (Schema.mk [112,101,111,112,108,101] [(Col.mk [105,100] 1),(Col.mk [110,97,109,101] 2)] 1 [])) 5 (Zg [97]) (Span.mk 0 10)).last)] [Zb ((Z0 (Z9 (Schema.mk [112,101,111,112,108,101] [(Col.mk [105,100] 1),(Col.mk [110,97,109,101] 2)] 1 [])) 5 (Zg [97]) (Span.mk 0 10)).s.name),v4, .int .i64 ((Z0 (Z9 (Schema.mk [112,101,111,112,108,101] [(Col.mk [105,100] 1),(Col.mk [110,97,109,101] 2)] 1 [])) 5 (Zg [97]) (Span.mk 0 10)).s.key),v5,v6, .int .i64 ((Z0 (Z9 (Schema.mk [112,101,111,112,108,101] [(Col.mk [105,100] 1),(Col.mk [110,97,109,101] 2)] 1 [])) 5 (Zg [97]) (Span.mk 0 10)).last)] _ rfl rfl Zw rfl (Nat.le_of_ble_eq_true rfl) (by simp only [List.all_cons,List.all_nil,hs7.oneC,hs8.oneC,hs9.oneC,Bool.true_and] <;> rfl) rfl rfl rfl rfl rfl (fun w12 hS12=>?_)
   refine ⟨⟨_,_,_,_,_,_,hS12.down hS11.le (G4.le_refl)⟩,?_⟩
   exact XH [.agg #[Zb ((Z0 (Z9 (Schema.mk [112,101,111,112,108,101] [(Col.mk [105,100] 1),(Col.mk [110,97,109,101] 2)] 1 [])) 5 (Zg [97]) (Span.mk 0 10)).s.name),v4, .int .i64 ((Z0 (Z9 (Schema.mk [112,101,111,112,108,101] [(Col.mk [105,100] 1),(Col.mk [110,97,109,101] 2)] 1 [])) 5 (Zg [97]) (Span.mk 0 10)).s.key),v5,v6, .int .i64 ((Z0 (Z9 (Schema.mk [112,101,111,112,108,101] [(Col.mk [105,100] 1),(Col.mk [110,97,109,101] 2)] 1 [])) 5 (Zg [97]) (Span.mk 0 10)).last)], .bool (Cmp.b .eql ((((Z0 (Z9 (Schema.mk [112,101,111,112,108,101] [(Col.mk [105,100] 1),(Col.mk [110,97,109,101] 2)] 1 [])) 5 (Zg [97]) (Span.mk 0 10)).rows).length : Nat) : Int) 1)] hS12 ⟨_,_,_,rfl,rfl,hS12.loadA 1 _ _ _ 0 [Zb ((Z0 (Z9 (Schema.mk [112,101,111,112,108,101] [(Col.mk [105,100] 1),(Col.mk [110,97,109,101] 2)] 1 [])) 5 (Zg [97]) (Span.mk 0 10)).s.name),v4, .int .i64 ((Z0 (Z9 (Schema.mk [112,101,111,112,108,101] [(Col.mk [105,100] 1),(Col.mk [110,97,109,101] 2)] 1 [])) 5 (Zg [97]) (Span.mk 0 10)).s.key),v5,v6, .int .i64 ((Z0 (Z9 (Schema.mk [112,101,111,112,108,101] [(Col.mk [105,100] 1),(Col.mk [110,97,109,101] 2)] 1 [])) 5 (Zg [97]) (Span.mk 0 10)).last)] rfl rfl rfl Zw rfl,⟨_,rfl,rfl⟩⟩ ⟨_,_,rfl,(Is.cast ⟨_,rfl,(Zu (Z0 (Z9 (Schema.mk [112,101,111,112,108,101] [(Col.mk [105,100] 1),(Col.mk [110,97,109,101] 2)] 1 [])) 5 (Zg [97]) (Span.mk 0 10)) hb4 hs7 hb5 hs8 hs9 hb6)⟩ (by with_reducible exact ZfB.1)),(congrArg Value.bool (by with_reducible exact Zt8))⟩
  have h2 : (Zae (Z9 (Schema.mk [112,101,111,112,108,101] [(Col.mk [105,100] 1),(Col.mk [110,97,109,101] 2)] 1 [])) 5 (Zg [97]) (Span.mk 0 10)) ≠ 0:=q2
  clear q2
  refine drD (C:=fun w9=>∃ ce7 ce8 ce9 ce10 ce11 ce12,St w [] G G4 [some (b3,28,[Zb ((Z0 (Z9 (Schema.mk [112,101,111,112,108,101] [(Col.mk [105,100] 1),(Col.mk [110,97,109,101] 2)] 1 [])) 5 (Zg [97]) (Span.mk 0 10)).s.name),v4, .int .i64 ((Z0 (Z9 (Schema.mk [112,101,111,112,108,101] [(Col.mk [105,100] 1),(Col.mk [110,97,109,101] 2)] 1 [])) 5 (Zg [97]) (Span.mk 0 10)).s.key),v5,v6, .int .i64 ((Z0 (Z9 (Schema.mk [112,101,111,112,108,101] [(Col.mk [105,100] 1),(Col.mk [110,97,109,101] 2)] 1 [])) 5 (Zg [97]) (Span.mk 0 10)).last)]),some (b1,28,[ce7,ce8,ce9,ce10,ce11,ce12])] w9) (fun _ h9=>by obtain ⟨ce7,ce8,ce9,ce10,ce11,ce12,h9⟩:=h9; exact ⟨ce7,ce8,ce9,ce10,ce11,ce12,h9.draw⟩) [(13,true),(14,false)] [(20, .agg #[Zb ((Z0 (Z9 (Schema.mk [112,101,111,112,108,101] [(Col.mk [105,100] 1),(Col.mk [110,97,109,101] 2)] 1 [])) 5 (Zg [97]) (Span.mk 0 10)).s.name),v4, .int .i64 ((Z0 (Z9 (Schema.mk [112,101,111,112,108,101] [(Col.mk [105,100] 1),(Col.mk [110,97,109,101] 2)] 1 [])) 5 (Zg [97]) (Span.mk 0 10)).s.key),v5,v6, .int .i64 ((Z0 (Z9 (Schema.mk [112,101,111,112,108,101] [(Col.mk [105,100] 1),(Col.mk [110,97,109,101] 2)] 1 [])) 5 (Zg [97]) (Span.mk 0 10)).last)]),(22, .bool true),(25, .bool false)] ⟨_,_,_,_,_,_,hS10⟩ ⟨fun _ h9=>by obtain ⟨ce7,ce8,ce9,ce10,ce11,ce12,hSw⟩:=h9; exact ZZ hSw 0 _ _ _ 0 [Zb ((Z0 (Z9 (Schema.mk [112,101,111,112,108,101] [(Col.mk [105,100] 1),(Col.mk [110,97,109,101] 2)] 1 [])) 5 (Zg [97]) (Span.mk 0 10)).s.name),v4, .int .i64 ((Z0 (Z9 (Schema.mk [112,101,111,112,108,101] [(Col.mk [105,100] 1),(Col.mk [110,97,109,101] 2)] 1 [])) 5 (Zg [97]) (Span.mk 0 10)).s.key),v5,v6, .int .i64 ((Z0 (Z9 (Schema.mk [112,101,111,112,108,101] [(Col.mk [105,100] 1),(Col.mk [110,97,109,101] 2)] 1 [])) 5 (Zg [97]) (Span.mk 0 10)).last)] rfl rfl rfl Zw rfl rfl rfl <| nu rfl rfl,fun _=>WL.cmpV .eql rfl .i64 (ZbV (Schema.mk [112,101,111,112,108,101] [(Col.mk [105,100] 1),(Col.mk [110,97,109,101] 2)] 1 [])) 0 _ hb7 rfl rfl rfl <| nu rfl rfl,fun _=>WL.cmpV .eql rfl .i64 (Zae (Z9 (Schema.mk [112,101,111,112,108,101] [(Col.mk [105,100] 1),(Col.mk [110,97,109,101] 2)] 1 [])) 5 (Zg [97]) (Span.mk 0 10)) 0 _ hb8 rfl rfl rfl <| nu rfl rfl,trivial⟩ ?_
  rintro w13 ⟨ce7,ce8,ce9,ce10,ce11,ce12,hS13⟩
  refine WL.store hS13 1 _ _ _ 0 _ [Zb ((Z0 (Z9 (Schema.mk [112,101,111,112,108,101] [(Col.mk [105,100] 1),(Col.mk [110,97,109,101] 2)] 1 [])) 5 (Zg [97]) (Span.mk 0 10)).s.name),v4, .int .i64 ((Z0 (Z9 (Schema.mk [112,101,111,112,108,101] [(Col.mk [105,100] 1),(Col.mk [110,97,109,101] 2)] 1 [])) 5 (Zg [97]) (Span.mk 0 10)).s.key),v5,v6, .int .i64 ((Z0 (Z9 (Schema.mk [112,101,111,112,108,101] [(Col.mk [105,100] 1),(Col.mk [110,97,109,101] 2)] 1 [])) 5 (Zg [97]) (Span.mk 0 10)).last)] [Zb ((Z0 (Z9 (Schema.mk [112,101,111,112,108,101] [(Col.mk [105,100] 1),(Col.mk [110,97,109,101] 2)] 1 [])) 5 (Zg [97]) (Span.mk 0 10)).s.name),v4, .int .i64 ((Z0 (Z9 (Schema.mk [112,101,111,112,108,101] [(Col.mk [105,100] 1),(Col.mk [110,97,109,101] 2)] 1 [])) 5 (Zg [97]) (Span.mk 0 10)).s.key),v5,v6, .int .i64 ((Z0 (Z9 (Schema.mk [112,101,111,112,108,101] [(Col.mk [105,100] 1),(Col.mk [110,97,109,101] 2)] 1 [])) 5 (Zg [97]) (Span.mk 0 10)).last)] _ rfl rfl Zw rfl (Nat.le_of_ble_eq_true rfl) (by simp only [List.all_cons,List.all_nil,hs7.oneC,hs8.oneC,hs9.oneC,Bool.true_and] <;> rfl) rfl rfl rfl rfl rfl (fun w14 hS14=>?_)
  refine ⟨⟨_,_,_,_,_,_,hS14.down hS13.le (G4.le_refl)⟩,?_⟩
  exact XH [.agg #[Zb ((Z0 (Z9 (Schema.mk [112,101,111,112,108,101] [(Col.mk [105,100] 1),(Col.mk [110,97,109,101] 2)] 1 [])) 5 (Zg [97]) (Span.mk 0 10)).s.name),v4, .int .i64 ((Z0 (Z9 (Schema.mk [112,101,111,112,108,101] [(Col.mk [105,100] 1),(Col.mk [110,97,109,101] 2)] 1 [])) 5 (Zg [97]) (Span.mk 0 10)).s.key),v5,v6, .int .i64 ((Z0 (Z9 (Schema.mk [112,101,111,112,108,101] [(Col.mk [105,100] 1),(Col.mk [110,97,109,101] 2)] 1 [])) 5 (Zg [97]) (Span.mk 0 10)).last)], .bool false] hS14 ⟨_,_,_,rfl,rfl,hS14.loadA 1 _ _ _ 0 [Zb ((Z0 (Z9 (Schema.mk [112,101,111,112,108,101] [(Col.mk [105,100] 1),(Col.mk [110,97,109,101] 2)] 1 [])) 5 (Zg [97]) (Span.mk 0 10)).s.name),v4, .int .i64 ((Z0 (Z9 (Schema.mk [112,101,111,112,108,101] [(Col.mk [105,100] 1),(Col.mk [110,97,109,101] 2)] 1 [])) 5 (Zg [97]) (Span.mk 0 10)).s.key),v5,v6, .int .i64 ((Z0 (Z9 (Schema.mk [112,101,111,112,108,101] [(Col.mk [105,100] 1),(Col.mk [110,97,109,101] 2)] 1 [])) 5 (Zg [97]) (Span.mk 0 10)).last)] rfl rfl rfl Zw rfl,⟨_,rfl,rfl⟩⟩ ⟨_,_,rfl,(Is.cast ⟨_,rfl,(Zu (Z0 (Z9 (Schema.mk [112,101,111,112,108,101] [(Col.mk [105,100] 1),(Col.mk [110,97,109,101] 2)] 1 [])) 5 (Zg [97]) (Span.mk 0 10)) hb4 hs7 hb5 hs8 hs9 hb6)⟩ (by with_reducible exact ZfB.1)),(congrArg Value.bool (by with_reducible exact absurd ZfB.2 ‹_›))⟩
 have h1 : (ZbV (Schema.mk [112,101,111,112,108,101] [(Col.mk [105,100] 1),(Col.mk [110,97,109,101] 2)] 1 [])) ≠ 0:=q1
 clear q1
 refine drD (C:=fun w9=>∃ ce13 ce14 ce15 ce16 ce17 ce18,St w [] G G4 [some (b3,28,[Zb ((Z0 (Z9 (Schema.mk [112,101,111,112,108,101] [(Col.mk [105,100] 1),(Col.mk [110,97,109,101] 2)] 1 [])) 5 (Zg [97]) (Span.mk 0 10)).s.name),v4, .int .i64 ((Z0 (Z9 (Schema.mk [112,101,111,112,108,101] [(Col.mk [105,100] 1),(Col.mk [110,97,109,101] 2)] 1 [])) 5 (Zg [97]) (Span.mk 0 10)).s.key),v5,v6, .int .i64 ((Z0 (Z9 (Schema.mk [112,101,111,112,108,101] [(Col.mk [105,100] 1),(Col.mk [110,97,109,101] 2)] 1 [])) 5 (Zg [97]) (Span.mk 0 10)).last)]),some (b1,28,[ce13,ce14,ce15,ce16,ce17,ce18])] w9) (fun _ h9=>by obtain ⟨ce13,ce14,ce15,ce16,ce17,ce18,h9⟩:=h9; exact ⟨ce13,ce14,ce15,ce16,ce17,ce18,h9.draw⟩) [(13,true),(14,false)] [(20, .agg #[Zb ((Z0 (Z9 (Schema.mk [112,101,111,112,108,101] [(Col.mk [105,100] 1),(Col.mk [110,97,109,101] 2)] 1 [])) 5 (Zg [97]) (Span.mk 0 10)).s.name),v4, .int .i64 ((Z0 (Z9 (Schema.mk [112,101,111,112,108,101] [(Col.mk [105,100] 1),(Col.mk [110,97,109,101] 2)] 1 [])) 5 (Zg [97]) (Span.mk 0 10)).s.key),v5,v6, .int .i64 ((Z0 (Z9 (Schema.mk [112,101,111,112,108,101] [(Col.mk [105,100] 1),(Col.mk [110,97,109,101] 2)] 1 [])) 5 (Zg [97]) (Span.mk 0 10)).last)]),(22, .bool false)] ⟨_,_,_,_,_,_,hS10⟩ ⟨fun _ h9=>by obtain ⟨ce13,ce14,ce15,ce16,ce17,ce18,hSw⟩:=h9; exact ZZ hSw 0 _ _ _ 0 [Zb ((Z0 (Z9 (Schema.mk [112,101,111,112,108,101] [(Col.mk [105,100] 1),(Col.mk [110,97,109,101] 2)] 1 [])) 5 (Zg [97]) (Span.mk 0 10)).s.name),v4, .int .i64 ((Z0 (Z9 (Schema.mk [112,101,111,112,108,101] [(Col.mk [105,100] 1),(Col.mk [110,97,109,101] 2)] 1 [])) 5 (Zg [97]) (Span.mk 0 10)).s.key),v5,v6, .int .i64 ((Z0 (Z9 (Schema.mk [112,101,111,112,108,101] [(Col.mk [105,100] 1),(Col.mk [110,97,109,101] 2)] 1 [])) 5 (Zg [97]) (Span.mk 0 10)).last)] rfl rfl rfl Zw rfl rfl rfl <| nu rfl rfl,fun _=>WL.cmpV .eql rfl .i64 (ZbV (Schema.mk [112,101,111,112,108,101] [(Col.mk [105,100] 1),(Col.mk [110,97,109,101] 2)] 1 [])) 0 _ hb7 rfl rfl rfl <| nu rfl rfl,trivial⟩ ?_
 rintro w15 ⟨ce13,ce14,ce15,ce16,ce17,ce18,hS15⟩
 refine WL.store hS15 1 _ _ _ 0 _ [Zb ((Z0 (Z9 (Schema.mk [112,101,111,112,108,101] [(Col.mk [105,100] 1),(Col.mk [110,97,109,101] 2)] 1 [])) 5 (Zg [97]) (Span.mk 0 10)).s.name),v4, .int .i64 ((Z0 (Z9 (Schema.mk [112,101,111,112,108,101] [(Col.mk [105,100] 1),(Col.mk [110,97,109,101] 2)] 1 [])) 5 (Zg [97]) (Span.mk 0 10)).s.key),v5,v6, .int .i64 ((Z0 (Z9 (Schema.mk [112,101,111,112,108,101] [(Col.mk [105,100] 1),(Col.mk [110,97,109,101] 2)] 1 [])) 5 (Zg [97]) (Span.mk 0 10)).last)] [Zb ((Z0 (Z9 (Schema.mk [112,101,111,112,108,101] [(Col.mk [105,100] 1),(Col.mk [110,97,109,101] 2)] 1 [])) 5 (Zg [97]) (Span.mk 0 10)).s.name),v4, .int .i64 ((Z0 (Z9 (Schema.mk [112,101,111,112,108,101] [(Col.mk [105,100] 1),(Col.mk [110,97,109,101] 2)] 1 [])) 5 (Zg [97]) (Span.mk 0 10)).s.key),v5,v6, .int .i64 ((Z0 (Z9 (Schema.mk [112,101,111,112,108,101] [(Col.mk [105,100] 1),(Col.mk [110,97,109,101] 2)] 1 [])) 5 (Zg [97]) (Span.mk 0 10)).last)] _ rfl rfl Zw rfl (Nat.le_of_ble_eq_true rfl) (by simp only [List.all_cons,List.all_nil,hs7.oneC,hs8.oneC,hs9.oneC,Bool.true_and] <;> rfl) rfl rfl rfl rfl rfl (fun w16 hS16=>?_)
 refine ⟨⟨_,_,_,_,_,_,hS16.down hS15.le (G4.le_refl)⟩,?_⟩
 exact XH [.agg #[Zb ((Z0 (Z9 (Schema.mk [112,101,111,112,108,101] [(Col.mk [105,100] 1),(Col.mk [110,97,109,101] 2)] 1 [])) 5 (Zg [97]) (Span.mk 0 10)).s.name),v4, .int .i64 ((Z0 (Z9 (Schema.mk [112,101,111,112,108,101] [(Col.mk [105,100] 1),(Col.mk [110,97,109,101] 2)] 1 [])) 5 (Zg [97]) (Span.mk 0 10)).s.key),v5,v6, .int .i64 ((Z0 (Z9 (Schema.mk [112,101,111,112,108,101] [(Col.mk [105,100] 1),(Col.mk [110,97,109,101] 2)] 1 [])) 5 (Zg [97]) (Span.mk 0 10)).last)], .bool false] hS16 ⟨_,_,_,rfl,rfl,hS16.loadA 1 _ _ _ 0 [Zb ((Z0 (Z9 (Schema.mk [112,101,111,112,108,101] [(Col.mk [105,100] 1),(Col.mk [110,97,109,101] 2)] 1 [])) 5 (Zg [97]) (Span.mk 0 10)).s.name),v4, .int .i64 ((Z0 (Z9 (Schema.mk [112,101,111,112,108,101] [(Col.mk [105,100] 1),(Col.mk [110,97,109,101] 2)] 1 [])) 5 (Zg [97]) (Span.mk 0 10)).s.key),v5,v6, .int .i64 ((Z0 (Z9 (Schema.mk [112,101,111,112,108,101] [(Col.mk [105,100] 1),(Col.mk [110,97,109,101] 2)] 1 [])) 5 (Zg [97]) (Span.mk 0 10)).last)] rfl rfl rfl Zw rfl,⟨_,rfl,rfl⟩⟩ ⟨_,_,rfl,(Is.cast ⟨_,rfl,(Zu (Z0 (Z9 (Schema.mk [112,101,111,112,108,101] [(Col.mk [105,100] 1),(Col.mk [110,97,109,101] 2)] 1 [])) 5 (Zg [97]) (Span.mk 0 10)) hb4 hs7 hb5 hs8 hs9 hb6)⟩ (by with_reducible exact ZfB.1)),(congrArg Value.bool (by with_reducible exact absurd Zip.2 ‹_›))⟩
theorem ZfW {G : GH} {w : World} (hG : G.In w) : CL Tryz.prog (nat_lit 11) #[] [] w G fun _ _ r=>r = .bool true:=by
 refine Zf ft [3,4] Tryz.func11 rfl rfl ?_
 have hS:=St.start (X:=[]) hG
 refine Z6 hS Zwq rfl rfl rfl (Zr9 hS.imm) ?_
 rintro w1 G1 _ ⟨r2,_,rfl,hs1,rfl⟩ hS1 hle1
 obtain ⟨cs1,rfl,hr1⟩:=hs1
 obtain ⟨v1,v2,v3,rfl,hb1,hs2,hb2,hs3,hs4,hb3⟩:=ZF hr1
 refine WL.alloc hS1 Zw rfl rfl (fun b1 w2 hn1 hS2=>?_)
 refine WL.store hS2 0 _ _ _ 0 _ [Zb Zz.s.name,v1, .int .i64 Zz.s.key,v2,v3, .int .i64 Zz.last] [Zb Zz.s.name,v1, .int .i64 Zz.s.key,v2,v3, .int .i64 Zz.last] _ rfl rfl Zw rfl (Nat.le_of_ble_eq_true rfl) (by simp only [List.all_cons,List.all_nil,hs2.oneC,hs3.oneC,hs4.oneC,Bool.true_and] <;> rfl) rfl rfl rfl rfl rfl (fun w3 hS3=>?_)
 obtain ⟨G2,hle2,hc1,hS4⟩:=hS3.shutB hn1
 refine JN.go ft [3,4] (fun ρ1 w1=>∃ (G3 : GH),G2.le G3 ∧ St w [] G G3 [] w1 ∧ FR ρ1 [(1, .pointer (some (⟨b1,0,none⟩ : Addr))),(2, .bool true),(4, .int .i64 (Zae Zz 6 (Zg [98]) (Span.mk 5 20)))]) ?_ ?_
 ·refine drT [1,3,4,5,6,7,8,9] [(13, .agg #[Zb Zz.s.name,v1, .int .i64 Zz.s.key,v2,v3, .int .i64 Zz.last]),(15, .agg #[.int .i64 5, .int .i64 20])] hS4 ⟨fun _ hSw=>Zd hSw hc1 [Zb Zz.s.name,v1, .int .i64 Zz.s.key,v2,v3, .int .i64 Zz.last] Zw rfl rfl rfl rfl rfl <| nu rfl rfl,fun _=>WL.build _ [(0,[.int .i64 5]),(1,[.int .i64 20])] [.int .i64 5, .int .i64 20] Zm rfl Xg rfl rfl rfl rfl <| nu rfl rfl,trivial⟩ (fun w5 hS6=>?_)
  refine TG.fork 7 [1,3,4,5,6,7,8,9] [1,7] rfl rfl (by decide) (by decide) (TA.cons rfl ?_ (TA.cons rfl ?_ TA.nil))
  ·refine Z6 hS6 Zkl rfl rfl rfl (Zda hS6.imm [98] (by simp [reach])) (fun w6 G4 r4 hpost2 hS7 hle4=>?_)
   refine ⟨fun _=>hS7.down hS6.le hle4,?_⟩
   refine TG.fork 6 [3,4,5,6,7,8,9] [3,7] rfl rfl (by decide) (by decide) (TA.cons rfl ?_ (TA.cons rfl ?_ TA.nil))
   ·refine Z6 hS7 Zkk rfl rfl rfl (ZdB hS7.imm Zz 6 (Zg [98]) (Span.mk 5 20) _ (Zu Zz hb1 (hs2.mono (hle2.trans hle4)) hb2 (hs3.mono (hle2.trans hle4)) (hs4.mono (hle2.trans hle4)) hb3) _ hpost2 _ (Zq (Span.mk 5 20) (show Zv 5 from by constructor <;> decide) (show Zv 20 from by constructor <;> decide)) (show Zv 6 from by constructor <;> decide)) ?_
    rintro w7 G5 _ ⟨r6,_,rfl,hs5,rfl⟩ hS8 hle5
    obtain ⟨cs2,rfl,hr2⟩:=hs5
    obtain ⟨v4,v5,v6,rfl,hb4,hs6,hb5,hs7,hs8,hb6⟩:=ZF hr2
    refine ⟨fun h=>absurd h (by decide),?_⟩
    refine TG.quiet 5 [4,5,6,7,8,9] 4 rfl rfl rfl rfl rfl (by decide) (fun w9 K9 k9=>WL.move rfl k9) ?_
    refine TG.quiet 4 [5,6,7,8,9] 5 rfl rfl rfl rfl rfl (by decide) (fun w9 K9 k9=>WL.extract _ _ rfl rfl rfl k9) ?_
    refine TG.quiet 3 [6,7,8,9] 6 rfl rfl rfl rfl rfl (by decide) (fun w9 K9 k9=>WL.extract _ _ rfl rfl rfl k9) ?_
    refine TG.fork 2 [7,8,9] [7] rfl rfl (by decide) (by decide) (TA.cons rfl ?_ TA.nil)
    refine WL.alloc hS8 Zw rfl rfl (fun b2 w9 hn2 hS9=>?_)
    refine ⟨fun _=>hS9.tail.down hS6.le (hle4.trans hle5),?_⟩
    refine TG.fork 1 [8,9] [8] rfl rfl (by decide) (by decide) (TA.cons rfl ?_ TA.nil)
    refine WL.store hS9 0 _ _ _ 0 _ [Zb ((Z0 Zz 6 (Zg [98]) (Span.mk 5 20)).s.name),v4, .int .i64 ((Z0 Zz 6 (Zg [98]) (Span.mk 5 20)).s.key),v5,v6, .int .i64 ((Z0 Zz 6 (Zg [98]) (Span.mk 5 20)).last)] [Zb ((Z0 Zz 6 (Zg [98]) (Span.mk 5 20)).s.name),v4, .int .i64 ((Z0 Zz 6 (Zg [98]) (Span.mk 5 20)).s.key),v5,v6, .int .i64 ((Z0 Zz 6 (Zg [98]) (Span.mk 5 20)).last)] _ rfl rfl Zw rfl (Nat.le_of_ble_eq_true rfl) (by simp only [List.all_cons,List.all_nil,hs6.oneC,hs7.oneC,hs8.oneC,Bool.true_and] <;> rfl) rfl rfl rfl rfl rfl (fun w10 hS10=>?_)
    obtain ⟨G6,hle6,hc2,hS11⟩:=hS10.shutB hn2
    refine ⟨fun h=>absurd h (by decide),?_⟩
    refine TG.quiet 0 [9] 9 rfl rfl rfl rfl rfl (by decide) (fun w9 K9 k9=>WL.assign rfl k9) ?_
    refine TG.fin rfl ?_
    exact ⟨G6,((hle4.trans hle5).trans hle6),hS11,⟨rfl,rfl,rfl,trivial⟩⟩
   refine WL.alloc hS7 Zw rfl rfl (fun b3 w11 hn3 hS12=>?_)
   refine ⟨fun _=>hS12.tail.down hS6.le hle4,?_⟩
   refine TG.fork 5 [3,4,5,6,8,9] [3] rfl rfl (by decide) (by decide) (TA.cons rfl ?_ TA.nil)
   refine Z6 hS12 Zkk rfl rfl rfl (ZdB hS12.imm Zz 6 (Zg [98]) (Span.mk 5 20) _ (Zu Zz hb1 (hs2.mono (hle2.trans hle4)) hb2 (hs3.mono (hle2.trans hle4)) (hs4.mono (hle2.trans hle4)) hb3) _ hpost2 _ (Zq (Span.mk 5 20) (show Zv 5 from by constructor <;> decide) (show Zv 20 from by constructor <;> decide)) (show Zv 6 from by constructor <;> decide)) ?_
   rintro w12 G7 _ ⟨r9,_,rfl,hs9,rfl⟩ hS13 hle7
   obtain ⟨cs3,rfl,hr3⟩:=hs9
   obtain ⟨v7,v9,v10,rfl,hb7,hs10,hb8,hs11,hs12,hb9⟩:=ZF hr3
   refine ⟨fun h=>absurd h (by decide),?_⟩
   refine TG.quiet 4 [4,5,6,8,9] 4 rfl rfl rfl rfl rfl (by decide) (fun w9 K9 k9=>WL.move rfl k9) ?_
   refine TG.quiet 3 [5,6,8,9] 5 rfl rfl rfl rfl rfl (by decide) (fun w9 K9 k9=>WL.extract _ _ rfl rfl rfl k9) ?_
   refine TG.quiet 2 [6,8,9] 6 rfl rfl rfl rfl rfl (by decide) (fun w9 K9 k9=>WL.extract _ _ rfl rfl rfl k9) ?_
   refine TG.fork 1 [8,9] [8] rfl rfl (by decide) (by decide) (TA.cons rfl ?_ TA.nil)
   refine WL.store hS13 0 _ _ _ 0 _ [Zb ((Z0 Zz 6 (Zg [98]) (Span.mk 5 20)).s.name),v7, .int .i64 ((Z0 Zz 6 (Zg [98]) (Span.mk 5 20)).s.key),v9,v10, .int .i64 ((Z0 Zz 6 (Zg [98]) (Span.mk 5 20)).last)] [Zb ((Z0 Zz 6 (Zg [98]) (Span.mk 5 20)).s.name),v7, .int .i64 ((Z0 Zz 6 (Zg [98]) (Span.mk 5 20)).s.key),v9,v10, .int .i64 ((Z0 Zz 6 (Zg [98]) (Span.mk 5 20)).last)] _ rfl rfl Zw rfl (Nat.le_of_ble_eq_true rfl) (by simp only [List.all_cons,List.all_nil,hs10.oneC,hs11.oneC,hs12.oneC,Bool.true_and] <;> rfl) rfl rfl rfl rfl rfl (fun w13 hS14=>?_)
   obtain ⟨G9,hle9,hc3,hS15⟩:=hS14.shutB hn3
   refine ⟨fun h=>absurd h (by decide),?_⟩
   refine TG.quiet 0 [9] 9 rfl rfl rfl rfl rfl (by decide) (fun w9 K9 k9=>WL.assign rfl k9) ?_
   refine TG.fin rfl ?_
   exact ⟨G9,((hle4.trans hle7).trans hle9),hS15,⟨rfl,rfl,rfl,trivial⟩⟩
  refine WL.alloc hS6 Zw rfl rfl (fun b4 w14 hn4 hS16=>?_)
  refine ⟨fun _=>hS16.tail.down hS6.le (G2.le_refl),?_⟩
  refine TG.fork 6 [1,3,4,5,6,8,9] [1] rfl rfl (by decide) (by decide) (TA.cons rfl ?_ TA.nil)
  refine Z6 hS16 Zkl rfl rfl rfl (Zda hS16.imm [98] (by simp [reach])) (fun w15 G10 r11 hpost5 hS17 hle10=>?_)
  refine ⟨fun _=>hS17.tail.down hS6.le hle10,?_⟩
  refine TG.fork 5 [3,4,5,6,8,9] [3] rfl rfl (by decide) (by decide) (TA.cons rfl ?_ TA.nil)
  refine Z6 hS17 Zkk rfl rfl rfl (ZdB hS17.imm Zz 6 (Zg [98]) (Span.mk 5 20) _ (Zu Zz hb1 (hs2.mono (hle2.trans hle10)) hb2 (hs3.mono (hle2.trans hle10)) (hs4.mono (hle2.trans hle10)) hb3) _ hpost5 _ (Zq (Span.mk 5 20) (show Zv 5 from by constructor <;> decide) (show Zv 20 from by constructor <;> decide)) (show Zv 6 from by constructor <;> decide)) ?_
  rintro w16 G11 _ ⟨r13,_,rfl,hs13,rfl⟩ hS18 hle11
  obtain ⟨cs4,rfl,hr4⟩:=hs13
  obtain ⟨v11,v12,v13,rfl,hb10,hs14,YV,hs15,hs16,Xu⟩:=ZF hr4
  refine ⟨fun h=>absurd h (by decide),?_⟩
  refine TG.quiet 4 [4,5,6,8,9] 4 rfl rfl rfl rfl rfl (by decide) (fun w9 K9 k9=>WL.move rfl k9) ?_
  refine TG.quiet 3 [5,6,8,9] 5 rfl rfl rfl rfl rfl (by decide) (fun w9 K9 k9=>WL.extract _ _ rfl rfl rfl k9) ?_
  refine TG.quiet 2 [6,8,9] 6 rfl rfl rfl rfl rfl (by decide) (fun w9 K9 k9=>WL.extract _ _ rfl rfl rfl k9) ?_
  refine TG.fork 1 [8,9] [8] rfl rfl (by decide) (by decide) (TA.cons rfl ?_ TA.nil)
  refine WL.store hS18 0 _ _ _ 0 _ [Zb ((Z0 Zz 6 (Zg [98]) (Span.mk 5 20)).s.name),v11, .int .i64 ((Z0 Zz 6 (Zg [98]) (Span.mk 5 20)).s.key),v12,v13, .int .i64 ((Z0 Zz 6 (Zg [98]) (Span.mk 5 20)).last)] [Zb ((Z0 Zz 6 (Zg [98]) (Span.mk 5 20)).s.name),v11, .int .i64 ((Z0 Zz 6 (Zg [98]) (Span.mk 5 20)).s.key),v12,v13, .int .i64 ((Z0 Zz 6 (Zg [98]) (Span.mk 5 20)).last)] _ rfl rfl Zw rfl (Nat.le_of_ble_eq_true rfl) (by simp only [List.all_cons,List.all_nil,hs14.oneC,hs15.oneC,hs16.oneC,Bool.true_and] <;> rfl) rfl rfl rfl rfl rfl (fun w17 hS19=>?_)
  obtain ⟨G12,hle12,hc4,hS20⟩:=hS19.shutB hn4
  refine ⟨fun h=>absurd h (by decide),?_⟩
  refine TG.quiet 0 [9] 9 rfl rfl rfl rfl rfl (by decide) (fun w9 K9 k9=>WL.assign rfl k9) ?_
  refine TG.fin rfl ?_
  exact ⟨G12,((hle10.trans hle11).trans hle12),hS20,⟨rfl,rfl,rfl,trivial⟩⟩
 rintro ρ1 w4 ⟨G3,hle3,hS5,hF9⟩
 refine hF9.set ?_
 refine JN.go ft [3,4] (fun ρ1 w1=>∃ (q5 : Addr),∃ (u1 : Value),∃ (u2 : Value),∃ (u3 : Value),∃ (G13 : GH),G3.le G13 ∧ St w [] G G13 [] w1 ∧ FR ρ1 [(2, .bool true),(4, .int .i64 (Zae Zz 6 (Zg [98]) (Span.mk 5 20))),(5, .pointer (some q5)),(6, .int .i64 (Xz Zz 6 (Zg [98]) (Span.mk 5 20)))] ∧ XZ G13 q5 [Zb (Zr Zz 6 (Zg [98]) (Span.mk 5 20)).s.name,u1, .int .i64 (Zr Zz 6 (Zg [98]) (Span.mk 5 20)).s.key,u2,u3, .int .i64 (Zr Zz 6 (Zg [98]) (Span.mk 5 20)).last] ∧ Sl ColE 24 G13 u1 (Zr Zz 6 (Zg [98]) (Span.mk 5 20)).s.cols ∧ Sl ForeignE 40 G13 u2 (Zr Zz 6 (Zg [98]) (Span.mk 5 20)).s.fks ∧ Sl HRowE 56 G13 u3 (Zr Zz 6 (Zg [98]) (Span.mk 5 20)).rows ∧ (Zr Zz 6 (Zg [98]) (Span.mk 5 20)).s.name.length ≤ reach ∧ Zv (Zr Zz 6 (Zg [98]) (Span.mk 5 20)).s.key ∧ Zv (Zr Zz 6 (Zg [98]) (Span.mk 5 20)).last) ?_ ?_
 ·refine drT [1,3,4,5,6,7,8,9] [(20, .agg #[Zb Zz.s.name,v1, .int .i64 Zz.s.key,v2,v3, .int .i64 Zz.last]),(22, .agg #[.int .i64 5, .int .i64 20])] hS5 ⟨fun _ hSw=>Zd hSw (hc1.mono hle3) [Zb Zz.s.name,v1, .int .i64 Zz.s.key,v2,v3, .int .i64 Zz.last] Zw rfl rfl rfl rfl rfl <| nu rfl rfl,fun _=>WL.build _ [(0,[.int .i64 5]),(1,[.int .i64 20])] [.int .i64 5, .int .i64 20] Zm rfl Xg rfl rfl rfl rfl <| nu rfl rfl,trivial⟩ (fun w19 hS22=>?_)
  refine TG.fork 7 [1,3,4,5,6,7,8,9] [1,7] rfl rfl (by decide) (by decide) (TA.cons rfl ?_ (TA.cons rfl ?_ TA.nil))
  ·refine Z6 hS22 Zkl rfl rfl rfl (Zda hS22.imm [98] (by simp [reach])) (fun w20 G14 r15 hpost7 hS23 hle14=>?_)
   refine ⟨fun _=>hS23.down hS22.le hle14,?_⟩
   refine TG.fork 6 [3,4,5,6,7,8,9] [3,7] rfl rfl (by decide) (by decide) (TA.cons rfl ?_ (TA.cons rfl ?_ TA.nil))
   ·refine Z6 hS23 Zb3 rfl rfl rfl (Zec hS23.imm Zz 6 (Zg [98]) (Span.mk 5 20) _ (Zu Zz hb1 (hs2.mono ((hle2.trans hle3).trans hle14)) hb2 (hs3.mono ((hle2.trans hle3).trans hle14)) (hs4.mono ((hle2.trans hle3).trans hle14)) hb3) _ hpost7 _ (Zq (Span.mk 5 20) (show Zv 5 from by constructor <;> decide) (show Zv 20 from by constructor <;> decide)) (show Zv 6 from by constructor <;> decide)) ?_
    rintro w21 G15 _ ⟨r17,_,rfl,hs17,rfl⟩ hS24 hle15
    obtain ⟨cs5,rfl,hr5⟩:=hs17
    obtain ⟨v14,v15,v16,rfl,XQ,hs18,Qm,hs19,hs20,QH⟩:=ZF hr5
    refine ⟨fun h=>absurd h (by decide),?_⟩
    refine TG.quiet 5 [4,5,6,7,8,9] 4 rfl rfl rfl rfl rfl (by decide) (fun w9 K9 k9=>WL.move rfl k9) ?_
    refine TG.quiet 4 [5,6,7,8,9] 5 rfl rfl rfl rfl rfl (by decide) (fun w9 K9 k9=>WL.extract _ _ rfl rfl rfl k9) ?_
    refine TG.quiet 3 [6,7,8,9] 6 rfl rfl rfl rfl rfl (by decide) (fun w9 K9 k9=>WL.extract _ _ rfl rfl rfl k9) ?_
    refine TG.fork 2 [7,8,9] [7] rfl rfl (by decide) (by decide) (TA.cons rfl ?_ TA.nil)
    refine WL.alloc hS24 Zw rfl rfl (fun b5 w22 hn5 hS25=>?_)
    refine ⟨fun _=>hS25.tail.down hS22.le (hle14.trans hle15),?_⟩
    refine TG.fork 1 [8,9] [8] rfl rfl (by decide) (by decide) (TA.cons rfl ?_ TA.nil)
    refine WL.store hS25 0 _ _ _ 0 _ [Zb ((Zr Zz 6 (Zg [98]) (Span.mk 5 20)).s.name),v14, .int .i64 ((Zr Zz 6 (Zg [98]) (Span.mk 5 20)).s.key),v15,v16, .int .i64 ((Zr Zz 6 (Zg [98]) (Span.mk 5 20)).last)] [Zb ((Zr Zz 6 (Zg [98]) (Span.mk 5 20)).s.name),v14, .int .i64 ((Zr Zz 6 (Zg [98]) (Span.mk 5 20)).s.key),v15,v16, .int .i64 ((Zr Zz 6 (Zg [98]) (Span.mk 5 20)).last)] _ rfl rfl Zw rfl (Nat.le_of_ble_eq_true rfl) (by simp only [List.all_cons,List.all_nil,hs18.oneC,hs19.oneC,hs20.oneC,Bool.true_and] <;> rfl) rfl rfl rfl rfl rfl (fun w23 hS26=>?_)
    obtain ⟨G16,hle16,hc5,hS27⟩:=hS26.shutB hn5
    refine ⟨fun h=>absurd h (by decide),?_⟩
    refine TG.quiet 0 [9] 9 rfl rfl rfl rfl rfl (by decide) (fun w9 K9 k9=>WL.assign rfl k9) ?_
    refine TG.fin rfl ?_
    exact ⟨(⟨b5,0,none⟩ : Addr),v14,v15,v16,G16,((hle14.trans hle15).trans hle16),hS27,⟨rfl,rfl,rfl,rfl,trivial⟩,(hc5),((hs18.mono hle16)),((hs19.mono hle16)),((hs20.mono hle16)),(XQ),(Qm),(QH)⟩
   refine WL.alloc hS23 Zw rfl rfl (fun b6 w24 hn6 hS28=>?_)
   refine ⟨fun _=>hS28.tail.down hS22.le hle14,?_⟩
   refine TG.fork 5 [3,4,5,6,8,9] [3] rfl rfl (by decide) (by decide) (TA.cons rfl ?_ TA.nil)
   refine Z6 hS28 Zb3 rfl rfl rfl (Zec hS28.imm Zz 6 (Zg [98]) (Span.mk 5 20) _ (Zu Zz hb1 (hs2.mono ((hle2.trans hle3).trans hle14)) hb2 (hs3.mono ((hle2.trans hle3).trans hle14)) (hs4.mono ((hle2.trans hle3).trans hle14)) hb3) _ hpost7 _ (Zq (Span.mk 5 20) (show Zv 5 from by constructor <;> decide) (show Zv 20 from by constructor <;> decide)) (show Zv 6 from by constructor <;> decide)) ?_
   rintro w25 G17 _ ⟨r20,_,rfl,hs21,rfl⟩ hS29 hle17
   obtain ⟨cs6,rfl,hr6⟩:=hs21
   obtain ⟨v17,v18,v19,rfl,Qr,hs22,ZbO,hs23,hs24,Zcu⟩:=ZF hr6
   refine ⟨fun h=>absurd h (by decide),?_⟩
   refine TG.quiet 4 [4,5,6,8,9] 4 rfl rfl rfl rfl rfl (by decide) (fun w9 K9 k9=>WL.move rfl k9) ?_
   refine TG.quiet 3 [5,6,8,9] 5 rfl rfl rfl rfl rfl (by decide) (fun w9 K9 k9=>WL.extract _ _ rfl rfl rfl k9) ?_
   refine TG.quiet 2 [6,8,9] 6 rfl rfl rfl rfl rfl (by decide) (fun w9 K9 k9=>WL.extract _ _ rfl rfl rfl k9) ?_
   refine TG.fork 1 [8,9] [8] rfl rfl (by decide) (by decide) (TA.cons rfl ?_ TA.nil)
   refine WL.store hS29 0 _ _ _ 0 _ [Zb ((Zr Zz 6 (Zg [98]) (Span.mk 5 20)).s.name),v17, .int .i64 ((Zr Zz 6 (Zg [98]) (Span.mk 5 20)).s.key),v18,v19, .int .i64 ((Zr Zz 6 (Zg [98]) (Span.mk 5 20)).last)] [Zb ((Zr Zz 6 (Zg [98]) (Span.mk 5 20)).s.name),v17, .int .i64 ((Zr Zz 6 (Zg [98]) (Span.mk 5 20)).s.key),v18,v19, .int .i64 ((Zr Zz 6 (Zg [98]) (Span.mk 5 20)).last)] _ rfl rfl Zw rfl (Nat.le_of_ble_eq_true rfl) (by simp only [List.all_cons,List.all_nil,hs22.oneC,hs23.oneC,hs24.oneC,Bool.true_and] <;> rfl) rfl rfl rfl rfl rfl (fun w26 hS30=>?_)
   obtain ⟨G18,hle18,hc6,hS31⟩:=hS30.shutB hn6
   refine ⟨fun h=>absurd h (by decide),?_⟩
   refine TG.quiet 0 [9] 9 rfl rfl rfl rfl rfl (by decide) (fun w9 K9 k9=>WL.assign rfl k9) ?_
   refine TG.fin rfl ?_
   exact ⟨(⟨b6,0,none⟩ : Addr),v17,v18,v19,G18,((hle14.trans hle17).trans hle18),hS31,⟨rfl,rfl,rfl,rfl,trivial⟩,(hc6),((hs22.mono hle18)),((hs23.mono hle18)),((hs24.mono hle18)),(Qr),(ZbO),(Zcu)⟩
  refine WL.alloc hS22 Zw rfl rfl (fun b7 w27 hn7 hS32=>?_)
  refine ⟨fun _=>hS32.tail.down hS22.le (G3.le_refl),?_⟩
  refine TG.fork 6 [1,3,4,5,6,8,9] [1] rfl rfl (by decide) (by decide) (TA.cons rfl ?_ TA.nil)
  refine Z6 hS32 Zkl rfl rfl rfl (Zda hS32.imm [98] (by simp [reach])) (fun w28 G19 r22 hpost10 hS33 hle19=>?_)
  refine ⟨fun _=>hS33.tail.down hS22.le hle19,?_⟩
  refine TG.fork 5 [3,4,5,6,8,9] [3] rfl rfl (by decide) (by decide) (TA.cons rfl ?_ TA.nil)
  refine Z6 hS33 Zb3 rfl rfl rfl (Zec hS33.imm Zz 6 (Zg [98]) (Span.mk 5 20) _ (Zu Zz hb1 (hs2.mono ((hle2.trans hle3).trans hle19)) hb2 (hs3.mono ((hle2.trans hle3).trans hle19)) (hs4.mono ((hle2.trans hle3).trans hle19)) hb3) _ hpost10 _ (Zq (Span.mk 5 20) (show Zv 5 from by constructor <;> decide) (show Zv 20 from by constructor <;> decide)) (show Zv 6 from by constructor <;> decide)) ?_
  rintro w29 G20 _ ⟨r24,_,rfl,hs25,rfl⟩ hS34 hle20
  obtain ⟨cs7,rfl,hr7⟩:=hs25
  obtain ⟨v20,v21,v22,rfl,Zes,hs26,ZbP,hs27,hs28,Zfg⟩:=ZF hr7
  refine ⟨fun h=>absurd h (by decide),?_⟩
  refine TG.quiet 4 [4,5,6,8,9] 4 rfl rfl rfl rfl rfl (by decide) (fun w9 K9 k9=>WL.move rfl k9) ?_
  refine TG.quiet 3 [5,6,8,9] 5 rfl rfl rfl rfl rfl (by decide) (fun w9 K9 k9=>WL.extract _ _ rfl rfl rfl k9) ?_
  refine TG.quiet 2 [6,8,9] 6 rfl rfl rfl rfl rfl (by decide) (fun w9 K9 k9=>WL.extract _ _ rfl rfl rfl k9) ?_
  refine TG.fork 1 [8,9] [8] rfl rfl (by decide) (by decide) (TA.cons rfl ?_ TA.nil)
  refine WL.store hS34 0 _ _ _ 0 _ [Zb ((Zr Zz 6 (Zg [98]) (Span.mk 5 20)).s.name),v20, .int .i64 ((Zr Zz 6 (Zg [98]) (Span.mk 5 20)).s.key),v21,v22, .int .i64 ((Zr Zz 6 (Zg [98]) (Span.mk 5 20)).last)] [Zb ((Zr Zz 6 (Zg [98]) (Span.mk 5 20)).s.name),v20, .int .i64 ((Zr Zz 6 (Zg [98]) (Span.mk 5 20)).s.key),v21,v22, .int .i64 ((Zr Zz 6 (Zg [98]) (Span.mk 5 20)).last)] _ rfl rfl Zw rfl (Nat.le_of_ble_eq_true rfl) (by simp only [List.all_cons,List.all_nil,hs26.oneC,hs27.oneC,hs28.oneC,Bool.true_and] <;> rfl) rfl rfl rfl rfl rfl (fun w30 hS35=>?_)
  obtain ⟨G21,hle21,hc7,hS36⟩:=hS35.shutB hn7
  refine ⟨fun h=>absurd h (by decide),?_⟩
  refine TG.quiet 0 [9] 9 rfl rfl rfl rfl rfl (by decide) (fun w9 K9 k9=>WL.assign rfl k9) ?_
  refine TG.fin rfl ?_
  exact ⟨(⟨b7,0,none⟩ : Addr),v20,v21,v22,G21,((hle19.trans hle20).trans hle21),hS36,⟨rfl,rfl,rfl,rfl,trivial⟩,(hc7),((hs26.mono hle21)),((hs27.mono hle21)),((hs28.mono hle21)),(Zes),(ZbP),(Zfg)⟩
 rintro ρ1 w18 ⟨q5,u1,u2,u3,G13,hle13,hS21,hF9,f1,f2,f3,f4,f5,f6,f7⟩
 refine hF9.set ?_
 refine Zd hS21 f1 [Zb ((Zr Zz 6 (Zg [98]) (Span.mk 5 20)).s.name),u1, .int .i64 ((Zr Zz 6 (Zg [98]) (Span.mk 5 20)).s.key),u2,u3, .int .i64 ((Zr Zz 6 (Zg [98]) (Span.mk 5 20)).last)] Zw rfl rfl rfl rfl rfl ?_
 refine Z6 hS21 Zwr rfl rfl rfl (ZvR hS21.imm (Zr Zz 6 (Zg [98]) (Span.mk 5 20)) 6 _ (Zu (Zr Zz 6 (Zg [98]) (Span.mk 5 20)) f5 f2 f6 f3 f4 f7)) (fun w31 G22 r26 hpost12 hS37 hle22=>?_)
 refine Zx (Zae Zz 6 (Zg [98]) (Span.mk 5 20)) 14 rfl rfl rfl (fun h1=>?_) (fun h1=>?_)
 ·refine Zx (Xz Zz 6 (Zg [98]) (Span.mk 5 20)) 0 rfl rfl rfl (fun h2=>?_) (fun h2=>?_)
  ·have bd1:=hpost12.bound
   refine Zj hpost12 ZmJ rfl rfl ?_
   refine Zx (((atH (Zr Zz 6 (Zg [98]) (Span.mk 5 20)) 6).length : Nat) : Int) 2 rfl rfl rfl (fun h3=>?_) (fun h3=>?_)
   ·refine WL.indexAddr hpost12 0 (by omega) ZmJ ZmG rfl rfl rfl rfl (fun p1 x1 hx1 he1=>?_)
    obtain ⟨cs8,hc8,hr8⟩:=he1
    obtain ⟨v23,rfl,hs29,Zet,ZbQ⟩:=ZgQ hr8
    refine Zd hS37 (XZ.drop 1 hc8) [.int .i64 x1.t.a, .int .i64 x1.t.b] Zm rfl rfl rfl rfl rfl <| WL.build _ [(0,[.int .i64 0]),(1,[.int .i64 5])] [.int .i64 0, .int .i64 5] Zm rfl Xg rfl rfl rfl rfl <| Zem (Zex x1.t (Span.mk 0 5)) Zjz rfl rfl rfl ?_
    refine WL.split (fun (h4 : (decide (x1.t = (Span.mk 0 5))) = true)=>?_) (fun (h4 : (decide (x1.t = (Span.mk 0 5))) = false)=>?_)
    ·refine WL.indexAddr hpost12 1 (by omega) ZmJ ZmG rfl rfl rfl rfl (fun p2 x2 hx2 he2=>?_)
     obtain ⟨cs9,hc9,hr9⟩:=he2
     obtain ⟨v24,rfl,hs30,ZhP,Zeu⟩:=ZgQ hr9
     refine Zd hS37 (XZ.drop 1 hc9) [.int .i64 x2.t.a, .int .i64 x2.t.b] Zm rfl rfl rfl rfl rfl <| WL.build _ [(0,[.int .i64 5]),(1,[.int .i64 20])] [.int .i64 5, .int .i64 20] Zm rfl Xg rfl rfl rfl rfl <| Zem (Zex x2.t (Span.mk 5 20)) Zjz rfl rfl rfl ?_
     exact RB hS37 rfl (by with_reducible exact decide_eq_true (ZvU ‹_›))
    exact RB hS37 rfl (by with_reducible exact absurd (ZvT ‹_›) (of_decide_eq_false ‹_›))
   exact RB hS37 rfl (by with_reducible exact absurd Zt6 ‹_›)
  exact RB hS37 rfl (by with_reducible exact absurd ZnH.e ‹_›)
 exact RB hS37 rfl (by with_reducible exact absurd ZuM ‹_›)
end Go.Civ
