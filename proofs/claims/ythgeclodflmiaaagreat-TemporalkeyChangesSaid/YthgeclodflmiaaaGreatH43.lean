/- Lemmas. -/
import Derived.Test.YthgeclodflmiaaaGreatH32
import Derived.Test.YthgeclodflmiaaaGreatH34
import Derived.Test.YthgeclodflmiaaaGreatH42
import Derived.Test.YthgeclodflmiaaaGreatProg
import Derived.KernelRfl
import Derived.WalkKit
set_option linter.unusedVariables false
set_option linter.unusedSimpArgs false
set_option maxRecDepth 100000
set_option maxHeartbeats 4000000
namespace Go.Civ
open Go.Proofs
theorem Zdu {G : GH} {w : World} (hG : G.In w) (nm : List UInt8) (hnm : nm.length ≤ reach) : CL Tryz.prog (nat_lit 56) #[Zb nm] [] w G fun G' _ r=>Sl ValE 32 G' r (Zf nm):=by
 refine Zg ft [] Tryz.func56 rfl rfl ?_
 have hS:=St.start (X:=[]) hG
 refine WL.build _ [(0,[.int .i64 1]),(1,[.int .i64 1])] [.int .i64 1, .int .i64 1,Zb []] Z3 rfl Zql rfl rfl rfl rfl <| WL.build _ [(0,[.int .i64 2]),(2,[Zb nm])] [.int .i64 2, .int .i64 0,Zb nm] Z3 rfl Zql rfl rfl rfl rfl ?_
 refine WL.buildSlice _ [(0,[.int .i64 1, .int .i64 1,Zb []]),(1,[.int .i64 2, .int .i64 0,Zb nm])] [.int .i64 1, .int .i64 1,Zb [], .int .i64 2, .int .i64 0,Zb nm] hS Zk4 rfl rfl rfl rfl (fun z hz=>by match z,hz with | [z0,z1,z2,z3,z4,z5],_=>rfl) (fun b1 w1 hn1 hS1=>?_)
 obtain ⟨G1,hle1,hs1,hS2⟩:=St.sealSl (E:=ValE) (by_:=32) (l:=([(Val.mk 1 1 []),(Val.mk 2 0 nm)] : List Val)) hS1 hn1 ⟨[.int .i64 1, .int .i64 1,Zb []],_,rfl,(Y3 (Val.mk 1 1 []) (show Zw 1 from by constructor <;> decide) (show Zw 1 from by constructor <;> decide) (by simp [reach])),⟨[.int .i64 2, .int .i64 0,Zb nm],_,rfl,(Y3 (Val.mk 2 0 nm) (show Zw 2 from by constructor <;> decide) ZM hnm),rfl⟩⟩ rfl (by simp [reach]) (by simp [reach])
 exact RT hS2 rfl (Sl.cast hs1 (by rfl))
theorem ZrH {G : GH} {w : World} (hG : G.In w) : CL Tryz.prog (nat_lit 55) #[] [] w G fun G' _ r=>∃ r0 r1,r = .tuple #[r0,r1] ∧ Is TableE G' r0 Z0 ∧ r1 = .bool true:=by
 refine YB ft [] Tryz.func55 rfl rfl ?_
 have hS:=St.start (X:=[]) hG
 refine WL.alloc hS Zm rfl rfl (fun b1 w1 hn1 hS1=>?_)
 refine WL.build _ [(0,[Zb [105,100]]),(1,[.int .i64 1])] [Zb [105,100], .int .i64 1] Xi rfl ZmS rfl rfl rfl rfl <| WL.build _ [(0,[Zb [110,97,109,101]]),(1,[.int .i64 2])] [Zb [110,97,109,101], .int .i64 2] Xi rfl ZmS rfl rfl rfl rfl ?_
 refine WL.buildSlice _ [(0,[Zb [105,100], .int .i64 1]),(1,[Zb [110,97,109,101], .int .i64 2])] [Zb [105,100], .int .i64 1,Zb [110,97,109,101], .int .i64 2] hS1 Zqm rfl rfl rfl rfl (fun z hz=>by match z,hz with | [z0,z1,z2,z3],_=>rfl) (fun b2 w2 hn2 hS2=>?_)
 obtain ⟨G1,hle1,hs1,hS3⟩:=St.sealSl (E:=ColE) (by_:=24) (l:=([(Col.mk [105,100] 1),(Col.mk [110,97,109,101] 2)] : List Col)) hS2 hn2 ⟨[Zb [105,100], .int .i64 1],_,rfl,(Zeb (Col.mk [105,100] 1) (by simp [reach]) (show Zw 1 from by constructor <;> decide)),⟨[Zb [110,97,109,101], .int .i64 2],_,rfl,(Zeb (Col.mk [110,97,109,101] 2) (by simp [reach]) (show Zw 2 from by constructor <;> decide)),rfl⟩⟩ rfl (by simp [reach]) (by simp [reach])
 refine WL.build _ [(0,[Zb [112,101,111,112,108,101]]),(1,[.slice (some ⟨b2,0,none⟩) 2 2]),(2,[.int .i64 1])] [Zb [112,101,111,112,108,101], .slice (some ⟨b2,0,none⟩) 2 2, .int .i64 1, .slice none 0 0] ZbX rfl Zw7 rfl rfl rfl rfl ?_
 refine Z6 hS3 Zv6 rfl rfl rfl (Zvf hS3.imm (Schema.mk [112,101,111,112,108,101] [(Col.mk [105,100] 1),(Col.mk [110,97,109,101] 2)] 1 []) _ (XB (Schema.mk [112,101,111,112,108,101] [(Col.mk [105,100] 1),(Col.mk [110,97,109,101] 2)] 1 []) (by simp [reach]) hs1 (show Zw 1 from by constructor <;> decide) (Sl.nil ForeignE 40 G1))) ?_
 rintro w3 G2 _ ⟨r2,_,rfl,hs2,rfl⟩ hS4 hle2
 obtain ⟨cs1,rfl,hr1⟩:=hs2
 obtain ⟨v1,v2,v3,rfl,hb1,hs3,hb2,hs4,hs5,hb3⟩:=Zy hr1
 refine WL.alloc hS4 Zm rfl rfl (fun b3 w4 hn3 hS5=>?_)
 refine WL.store hS5 0 _ _ _ 0 _ [Zb ((Z7 (Schema.mk [112,101,111,112,108,101] [(Col.mk [105,100] 1),(Col.mk [110,97,109,101] 2)] 1 [])).s.name),v1, .int .i64 ((Z7 (Schema.mk [112,101,111,112,108,101] [(Col.mk [105,100] 1),(Col.mk [110,97,109,101] 2)] 1 [])).s.key),v2,v3, .int .i64 ((Z7 (Schema.mk [112,101,111,112,108,101] [(Col.mk [105,100] 1),(Col.mk [110,97,109,101] 2)] 1 [])).last)] [Zb ((Z7 (Schema.mk [112,101,111,112,108,101] [(Col.mk [105,100] 1),(Col.mk [110,97,109,101] 2)] 1 [])).s.name),v1, .int .i64 ((Z7 (Schema.mk [112,101,111,112,108,101] [(Col.mk [105,100] 1),(Col.mk [110,97,109,101] 2)] 1 [])).s.key),v2,v3, .int .i64 ((Z7 (Schema.mk [112,101,111,112,108,101] [(Col.mk [105,100] 1),(Col.mk [110,97,109,101] 2)] 1 [])).last)] _ rfl rfl Zm rfl (Nat.le_of_ble_eq_true rfl) (by simp only [List.all_cons,List.all_nil,hs3.oneC,hs4.oneC,hs5.oneC,Bool.true_and] <;> rfl) rfl rfl rfl rfl rfl (fun w5 hS6=>?_)
 refine drT [1,3,4,5,6,7,8] [(14, .agg #[Zb ((Z7 (Schema.mk [112,101,111,112,108,101] [(Col.mk [105,100] 1),(Col.mk [110,97,109,101] 2)] 1 [])).s.name),v1, .int .i64 ((Z7 (Schema.mk [112,101,111,112,108,101] [(Col.mk [105,100] 1),(Col.mk [110,97,109,101] 2)] 1 [])).s.key),v2,v3, .int .i64 ((Z7 (Schema.mk [112,101,111,112,108,101] [(Col.mk [105,100] 1),(Col.mk [110,97,109,101] 2)] 1 [])).last)]),(16, .agg #[.int .i64 0, .int .i64 10])] hS6 ⟨fun _ hSw=>ZD hSw 0 _ _ _ 0 [Zb ((Z7 (Schema.mk [112,101,111,112,108,101] [(Col.mk [105,100] 1),(Col.mk [110,97,109,101] 2)] 1 [])).s.name),v1, .int .i64 ((Z7 (Schema.mk [112,101,111,112,108,101] [(Col.mk [105,100] 1),(Col.mk [110,97,109,101] 2)] 1 [])).s.key),v2,v3, .int .i64 ((Z7 (Schema.mk [112,101,111,112,108,101] [(Col.mk [105,100] 1),(Col.mk [110,97,109,101] 2)] 1 [])).last)] rfl rfl rfl Zm rfl rfl rfl <| nu rfl rfl,fun _=>WL.build _ [(0,[.int .i64 0]),(1,[.int .i64 10])] [.int .i64 0, .int .i64 10] Zu rfl X6 rfl rfl rfl rfl <| nu rfl rfl,trivial⟩ (fun w6 hS7=>?_)
 refine TG.fork 6 [1,3,4,5,6,7,8] [1] rfl rfl (by decide) (by decide) (TA.cons rfl ?_ TA.nil)
 refine Z6 hS7 Zie rfl rfl rfl (Zdu hS7.imm [97] (by simp [reach])) (fun w7 G3 r4 hpost2 hS8 hle3=>?_)
 refine ⟨fun _=>hS8.down hS7.le hle3,?_⟩
 refine TG.fork 5 [3,4,5,6,7,8] [3] rfl rfl (by decide) (by decide) (TA.cons rfl ?_ TA.nil)
 refine Z6 hS8 Zid rfl rfl rfl (Zcy hS8.imm (Z7 (Schema.mk [112,101,111,112,108,101] [(Col.mk [105,100] 1),(Col.mk [110,97,109,101] 2)] 1 [])) 5 (Zf [97]) (Span.mk 0 10) _ (Zi (Z7 (Schema.mk [112,101,111,112,108,101] [(Col.mk [105,100] 1),(Col.mk [110,97,109,101] 2)] 1 [])) hb1 (hs3.mono hle3) hb2 (hs4.mono hle3) (hs5.mono hle3) hb3) _ hpost2 _ (Zs (Span.mk 0 10) (show Zw 0 from by constructor <;> decide) (show Zw 10 from by constructor <;> decide)) (show Zw 5 from by constructor <;> decide)) ?_
 rintro w9 G4 _ ⟨r6,_,rfl,hs6,rfl⟩ hS9 hle4
 obtain ⟨cs2,rfl,hr2⟩:=hs6
 obtain ⟨v4,v5,v6,rfl,hb4,hs7,hb5,hs8,hs9,hb6⟩:=Zy hr2
 refine ⟨fun h=>absurd h (by decide),?_⟩
 refine TG.quiet 4 [4,5,6,7,8] 4 rfl rfl rfl rfl rfl (by decide) (fun w9 K9 k9=>WL.move rfl k9) ?_
 refine TG.quiet 3 [5,6,7,8] 5 rfl rfl rfl rfl rfl (by decide) (fun w9 K9 k9=>WL.extract _ _ rfl rfl rfl k9) ?_
 refine TG.quiet 2 [6,7,8] 6 rfl rfl rfl rfl rfl (by decide) (fun w9 K9 k9=>WL.extract _ _ rfl rfl rfl k9) ?_
 refine TG.fork 1 [7,8] [7] rfl rfl (by decide) (by decide) (TA.cons rfl ?_ TA.nil)
 refine WL.store hS9 0 _ _ _ 0 _ [Zb ((Zo (Z7 (Schema.mk [112,101,111,112,108,101] [(Col.mk [105,100] 1),(Col.mk [110,97,109,101] 2)] 1 [])) 5 (Zf [97]) (Span.mk 0 10)).s.name),v4, .int .i64 ((Zo (Z7 (Schema.mk [112,101,111,112,108,101] [(Col.mk [105,100] 1),(Col.mk [110,97,109,101] 2)] 1 [])) 5 (Zf [97]) (Span.mk 0 10)).s.key),v5,v6, .int .i64 ((Zo (Z7 (Schema.mk [112,101,111,112,108,101] [(Col.mk [105,100] 1),(Col.mk [110,97,109,101] 2)] 1 [])) 5 (Zf [97]) (Span.mk 0 10)).last)] [Zb ((Zo (Z7 (Schema.mk [112,101,111,112,108,101] [(Col.mk [105,100] 1),(Col.mk [110,97,109,101] 2)] 1 [])) 5 (Zf [97]) (Span.mk 0 10)).s.name),v4, .int .i64 ((Zo (Z7 (Schema.mk [112,101,111,112,108,101] [(Col.mk [105,100] 1),(Col.mk [110,97,109,101] 2)] 1 [])) 5 (Zf [97]) (Span.mk 0 10)).s.key),v5,v6, .int .i64 ((Zo (Z7 (Schema.mk [112,101,111,112,108,101] [(Col.mk [105,100] 1),(Col.mk [110,97,109,101] 2)] 1 [])) 5 (Zf [97]) (Span.mk 0 10)).last)] _ rfl rfl Zm rfl (Nat.le_of_ble_eq_true rfl) (by simp only [List.all_cons,List.all_nil,hs7.oneC,hs8.oneC,hs9.oneC,Bool.true_and] <;> rfl) rfl rfl rfl rfl rfl (fun w10 hS10=>?_)
 refine ⟨fun h=>absurd h (by decide),?_⟩
 refine TG.quiet 0 [8] 8 rfl rfl rfl rfl rfl (by decide) (fun w9 K9 k9=>WL.assign rfl k9) ?_
 refine TG.fin rfl ?_
 rcases Cmp.dec .eql (Zcd (Schema.mk [112,101,111,112,108,101] [(Col.mk [105,100] 1),(Col.mk [110,97,109,101] 2)] 1 [])) 0 with ⟨hb7,q1⟩ | ⟨hb7,q1⟩
 ·have h1 : (Zcd (Schema.mk [112,101,111,112,108,101] [(Col.mk [105,100] 1),(Col.mk [110,97,109,101] 2)] 1 [])) = 0:=q1
  clear q1
  rcases Cmp.dec .eql (Qb (Z7 (Schema.mk [112,101,111,112,108,101] [(Col.mk [105,100] 1),(Col.mk [110,97,109,101] 2)] 1 [])) 5 (Zf [97]) (Span.mk 0 10)) 0 with ⟨hb8,q2⟩ | ⟨hb8,q2⟩
  ·have h2 : (Qb (Z7 (Schema.mk [112,101,111,112,108,101] [(Col.mk [105,100] 1),(Col.mk [110,97,109,101] 2)] 1 [])) 5 (Zf [97]) (Span.mk 0 10)) = 0:=q2
   clear q2
   have bd1:=hs9.bound
   refine drD (C:=fun w9=>∃ ce1 ce2 ce3 ce4 ce5 ce6,St w [] G G4 [some (b3,28,[Zb ((Zo (Z7 (Schema.mk [112,101,111,112,108,101] [(Col.mk [105,100] 1),(Col.mk [110,97,109,101] 2)] 1 [])) 5 (Zf [97]) (Span.mk 0 10)).s.name),v4, .int .i64 ((Zo (Z7 (Schema.mk [112,101,111,112,108,101] [(Col.mk [105,100] 1),(Col.mk [110,97,109,101] 2)] 1 [])) 5 (Zf [97]) (Span.mk 0 10)).s.key),v5,v6, .int .i64 ((Zo (Z7 (Schema.mk [112,101,111,112,108,101] [(Col.mk [105,100] 1),(Col.mk [110,97,109,101] 2)] 1 [])) 5 (Zf [97]) (Span.mk 0 10)).last)]),some (b1,28,[ce1,ce2,ce3,ce4,ce5,ce6])] w9) (fun _ h9=>by obtain ⟨ce1,ce2,ce3,ce4,ce5,ce6,h9⟩:=h9; exact ⟨ce1,ce2,ce3,ce4,ce5,ce6,h9.draw⟩) [(13,true),(14,false)] [(20, .agg #[Zb ((Zo (Z7 (Schema.mk [112,101,111,112,108,101] [(Col.mk [105,100] 1),(Col.mk [110,97,109,101] 2)] 1 [])) 5 (Zf [97]) (Span.mk 0 10)).s.name),v4, .int .i64 ((Zo (Z7 (Schema.mk [112,101,111,112,108,101] [(Col.mk [105,100] 1),(Col.mk [110,97,109,101] 2)] 1 [])) 5 (Zf [97]) (Span.mk 0 10)).s.key),v5,v6, .int .i64 ((Zo (Z7 (Schema.mk [112,101,111,112,108,101] [(Col.mk [105,100] 1),(Col.mk [110,97,109,101] 2)] 1 [])) 5 (Zf [97]) (Span.mk 0 10)).last)]),(22, .bool true),(25, .bool true),(29,v6),(30, .int .i64 ((((Zo (Z7 (Schema.mk [112,101,111,112,108,101] [(Col.mk [105,100] 1),(Col.mk [110,97,109,101] 2)] 1 [])) 5 (Zf [97]) (Span.mk 0 10)).rows).length : Nat) : Int)),(31, .bool (Cmp.b .eql ((((Zo (Z7 (Schema.mk [112,101,111,112,108,101] [(Col.mk [105,100] 1),(Col.mk [110,97,109,101] 2)] 1 [])) 5 (Zf [97]) (Span.mk 0 10)).rows).length : Nat) : Int) 1))] ⟨_,_,_,_,_,_,hS10⟩ ⟨fun _ h9=>by obtain ⟨ce1,ce2,ce3,ce4,ce5,ce6,hSw⟩:=h9; exact ZD hSw 0 _ _ _ 0 [Zb ((Zo (Z7 (Schema.mk [112,101,111,112,108,101] [(Col.mk [105,100] 1),(Col.mk [110,97,109,101] 2)] 1 [])) 5 (Zf [97]) (Span.mk 0 10)).s.name),v4, .int .i64 ((Zo (Z7 (Schema.mk [112,101,111,112,108,101] [(Col.mk [105,100] 1),(Col.mk [110,97,109,101] 2)] 1 [])) 5 (Zf [97]) (Span.mk 0 10)).s.key),v5,v6, .int .i64 ((Zo (Z7 (Schema.mk [112,101,111,112,108,101] [(Col.mk [105,100] 1),(Col.mk [110,97,109,101] 2)] 1 [])) 5 (Zf [97]) (Span.mk 0 10)).last)] rfl rfl rfl Zm rfl rfl rfl <| nu rfl rfl,fun _=>WL.cmpV .eql rfl .i64 (Zcd (Schema.mk [112,101,111,112,108,101] [(Col.mk [105,100] 1),(Col.mk [110,97,109,101] 2)] 1 [])) 0 _ hb7 rfl rfl rfl <| nu rfl rfl,fun _=>WL.cmpV .eql rfl .i64 (Qb (Z7 (Schema.mk [112,101,111,112,108,101] [(Col.mk [105,100] 1),(Col.mk [110,97,109,101] 2)] 1 [])) 5 (Zf [97]) (Span.mk 0 10)) 0 _ hb8 rfl rfl rfl <| nu rfl rfl,fun _ h9=>by obtain ⟨ce1,ce2,ce3,ce4,ce5,ce6,hSw⟩:=h9; exact ZU hSw 0 _ _ _ 4 _ rfl rfl Xg rfl rfl rfl <| nu rfl rfl,fun _=>Zj hs9 Yq rfl rfl <| nu rfl rfl,fun _=>ZZ .eql rfl .i64 ((((Zo (Z7 (Schema.mk [112,101,111,112,108,101] [(Col.mk [105,100] 1),(Col.mk [110,97,109,101] 2)] 1 [])) 5 (Zf [97]) (Span.mk 0 10)).rows).length : Nat) : Int) 1 rfl rfl rfl <| nu rfl rfl,trivial⟩ ?_
   rintro w11 ⟨ce1,ce2,ce3,ce4,ce5,ce6,hS11⟩
   refine WL.store hS11 1 _ _ _ 0 _ [Zb ((Zo (Z7 (Schema.mk [112,101,111,112,108,101] [(Col.mk [105,100] 1),(Col.mk [110,97,109,101] 2)] 1 [])) 5 (Zf [97]) (Span.mk 0 10)).s.name),v4, .int .i64 ((Zo (Z7 (Schema.mk [112,101,111,112,108,101] [(Col.mk [105,100] 1),(Col.mk [110,97,109,101] 2)] 1 [])) 5 (Zf [97]) (Span.mk 0 10)).s.key),v5,v6, .int .i64 ((Zo (Z7 (Schema.mk [112,101,111,112,108,101] [(Col.mk [105,100] 1),(Col.mk [110,97,109,101] 2)] 1 [])) 5 (Zf [97]) (Span.mk 0 10)).last)] [Zb ((Zo (Z7 (Schema.mk [112,101,111,112,108,101] [(Col.mk [105,100] 1),(Col.mk [110,97,109,101] 2)] 1 [])) 5 (Zf [97]) (Span.mk 0 10)).s.name),v4, .int .i64 ((Zo (Z7 (Schema.mk [112,101,111,112,108,101] [(Col.mk [105,100] 1),(Col.mk [110,97,109,101] 2)] 1 [])) 5 (Zf [97]) (Span.mk 0 10)).s.key),v5,v6, .int .i64 ((Zo (Z7 (Schema.mk [112,101,111,112,108,101] [(Col.mk [105,100] 1),(Col.mk [110,97,109,101] 2)] 1 [])) 5 (Zf [97]) (Span.mk 0 10)).last)] _ rfl rfl Zm rfl (Nat.le_of_ble_eq_true rfl) (by simp only [List.all_cons,List.all_nil,hs7.oneC,hs8.oneC,hs9.oneC,Bool.true_and] <;> rfl) rfl rfl rfl rfl rfl (fun w12 hS12=>?_)
   refine ⟨⟨_,_,_,_,_,_,hS12.down hS11.le (G4.le_refl)⟩,?_⟩
   exact Xe [.agg #[Zb ((Zo (Z7 (Schema.mk [112,101,111,112,108,101] [(Col.mk [105,100] 1),(Col.mk [110,97,109,101] 2)] 1 [])) 5 (Zf [97]) (Span.mk 0 10)).s.name),v4, .int .i64 ((Zo (Z7 (Schema.mk [112,101,111,112,108,101] [(Col.mk [105,100] 1),(Col.mk [110,97,109,101] 2)] 1 [])) 5 (Zf [97]) (Span.mk 0 10)).s.key),v5,v6, .int .i64 ((Zo (Z7 (Schema.mk [112,101,111,112,108,101] [(Col.mk [105,100] 1),(Col.mk [110,97,109,101] 2)] 1 [])) 5 (Zf [97]) (Span.mk 0 10)).last)], .bool (Cmp.b .eql ((((Zo (Z7 (Schema.mk [112,101,111,112,108,101] [(Col.mk [105,100] 1),(Col.mk [110,97,109,101] 2)] 1 [])) 5 (Zf [97]) (Span.mk 0 10)).rows).length : Nat) : Int) 1)] hS12 ⟨_,_,_,rfl,rfl,hS12.loadA 1 _ _ _ 0 [Zb ((Zo (Z7 (Schema.mk [112,101,111,112,108,101] [(Col.mk [105,100] 1),(Col.mk [110,97,109,101] 2)] 1 [])) 5 (Zf [97]) (Span.mk 0 10)).s.name),v4, .int .i64 ((Zo (Z7 (Schema.mk [112,101,111,112,108,101] [(Col.mk [105,100] 1),(Col.mk [110,97,109,101] 2)] 1 [])) 5 (Zf [97]) (Span.mk 0 10)).s.key),v5,v6, .int .i64 ((Zo (Z7 (Schema.mk [112,101,111,112,108,101] [(Col.mk [105,100] 1),(Col.mk [110,97,109,101] 2)] 1 [])) 5 (Zf [97]) (Span.mk 0 10)).last)] rfl rfl rfl Zm rfl,⟨_,rfl,rfl⟩⟩ ⟨_,_,rfl,(Is.cast ⟨_,rfl,(Zi (Zo (Z7 (Schema.mk [112,101,111,112,108,101] [(Col.mk [105,100] 1),(Col.mk [110,97,109,101] 2)] 1 [])) 5 (Zf [97]) (Span.mk 0 10)) hb4 hs7 hb5 hs8 hs9 hb6)⟩ (by with_reducible exact ZfQ.1)),(congrArg Value.bool (by with_reducible exact ZtH))⟩
  have h2 : (Qb (Z7 (Schema.mk [112,101,111,112,108,101] [(Col.mk [105,100] 1),(Col.mk [110,97,109,101] 2)] 1 [])) 5 (Zf [97]) (Span.mk 0 10)) ≠ 0:=q2
  clear q2
  refine drD (C:=fun w9=>∃ ce7 ce8 ce9 ce10 ce11 ce12,St w [] G G4 [some (b3,28,[Zb ((Zo (Z7 (Schema.mk [112,101,111,112,108,101] [(Col.mk [105,100] 1),(Col.mk [110,97,109,101] 2)] 1 [])) 5 (Zf [97]) (Span.mk 0 10)).s.name),v4, .int .i64 ((Zo (Z7 (Schema.mk [112,101,111,112,108,101] [(Col.mk [105,100] 1),(Col.mk [110,97,109,101] 2)] 1 [])) 5 (Zf [97]) (Span.mk 0 10)).s.key),v5,v6, .int .i64 ((Zo (Z7 (Schema.mk [112,101,111,112,108,101] [(Col.mk [105,100] 1),(Col.mk [110,97,109,101] 2)] 1 [])) 5 (Zf [97]) (Span.mk 0 10)).last)]),some (b1,28,[ce7,ce8,ce9,ce10,ce11,ce12])] w9) (fun _ h9=>by obtain ⟨ce7,ce8,ce9,ce10,ce11,ce12,h9⟩:=h9; exact ⟨ce7,ce8,ce9,ce10,ce11,ce12,h9.draw⟩) [(13,true),(14,false)] [(20, .agg #[Zb ((Zo (Z7 (Schema.mk [112,101,111,112,108,101] [(Col.mk [105,100] 1),(Col.mk [110,97,109,101] 2)] 1 [])) 5 (Zf [97]) (Span.mk 0 10)).s.name),v4, .int .i64 ((Zo (Z7 (Schema.mk [112,101,111,112,108,101] [(Col.mk [105,100] 1),(Col.mk [110,97,109,101] 2)] 1 [])) 5 (Zf [97]) (Span.mk 0 10)).s.key),v5,v6, .int .i64 ((Zo (Z7 (Schema.mk [112,101,111,112,108,101] [(Col.mk [105,100] 1),(Col.mk [110,97,109,101] 2)] 1 [])) 5 (Zf [97]) (Span.mk 0 10)).last)]),(22, .bool true),(25, .bool false)] ⟨_,_,_,_,_,_,hS10⟩ ⟨fun _ h9=>by obtain ⟨ce7,ce8,ce9,ce10,ce11,ce12,hSw⟩:=h9; exact ZD hSw 0 _ _ _ 0 [Zb ((Zo (Z7 (Schema.mk [112,101,111,112,108,101] [(Col.mk [105,100] 1),(Col.mk [110,97,109,101] 2)] 1 [])) 5 (Zf [97]) (Span.mk 0 10)).s.name),v4, .int .i64 ((Zo (Z7 (Schema.mk [112,101,111,112,108,101] [(Col.mk [105,100] 1),(Col.mk [110,97,109,101] 2)] 1 [])) 5 (Zf [97]) (Span.mk 0 10)).s.key),v5,v6, .int .i64 ((Zo (Z7 (Schema.mk [112,101,111,112,108,101] [(Col.mk [105,100] 1),(Col.mk [110,97,109,101] 2)] 1 [])) 5 (Zf [97]) (Span.mk 0 10)).last)] rfl rfl rfl Zm rfl rfl rfl <| nu rfl rfl,fun _=>WL.cmpV .eql rfl .i64 (Zcd (Schema.mk [112,101,111,112,108,101] [(Col.mk [105,100] 1),(Col.mk [110,97,109,101] 2)] 1 [])) 0 _ hb7 rfl rfl rfl <| nu rfl rfl,fun _=>WL.cmpV .eql rfl .i64 (Qb (Z7 (Schema.mk [112,101,111,112,108,101] [(Col.mk [105,100] 1),(Col.mk [110,97,109,101] 2)] 1 [])) 5 (Zf [97]) (Span.mk 0 10)) 0 _ hb8 rfl rfl rfl <| nu rfl rfl,trivial⟩ ?_
  rintro w13 ⟨ce7,ce8,ce9,ce10,ce11,ce12,hS13⟩
  refine WL.store hS13 1 _ _ _ 0 _ [Zb ((Zo (Z7 (Schema.mk [112,101,111,112,108,101] [(Col.mk [105,100] 1),(Col.mk [110,97,109,101] 2)] 1 [])) 5 (Zf [97]) (Span.mk 0 10)).s.name),v4, .int .i64 ((Zo (Z7 (Schema.mk [112,101,111,112,108,101] [(Col.mk [105,100] 1),(Col.mk [110,97,109,101] 2)] 1 [])) 5 (Zf [97]) (Span.mk 0 10)).s.key),v5,v6, .int .i64 ((Zo (Z7 (Schema.mk [112,101,111,112,108,101] [(Col.mk [105,100] 1),(Col.mk [110,97,109,101] 2)] 1 [])) 5 (Zf [97]) (Span.mk 0 10)).last)] [Zb ((Zo (Z7 (Schema.mk [112,101,111,112,108,101] [(Col.mk [105,100] 1),(Col.mk [110,97,109,101] 2)] 1 [])) 5 (Zf [97]) (Span.mk 0 10)).s.name),v4, .int .i64 ((Zo (Z7 (Schema.mk [112,101,111,112,108,101] [(Col.mk [105,100] 1),(Col.mk [110,97,109,101] 2)] 1 [])) 5 (Zf [97]) (Span.mk 0 10)).s.key),v5,v6, .int .i64 ((Zo (Z7 (Schema.mk [112,101,111,112,108,101] [(Col.mk [105,100] 1),(Col.mk [110,97,109,101] 2)] 1 [])) 5 (Zf [97]) (Span.mk 0 10)).last)] _ rfl rfl Zm rfl (Nat.le_of_ble_eq_true rfl) (by simp only [List.all_cons,List.all_nil,hs7.oneC,hs8.oneC,hs9.oneC,Bool.true_and] <;> rfl) rfl rfl rfl rfl rfl (fun w14 hS14=>?_)
  refine ⟨⟨_,_,_,_,_,_,hS14.down hS13.le (G4.le_refl)⟩,?_⟩
  exact Xe [.agg #[Zb ((Zo (Z7 (Schema.mk [112,101,111,112,108,101] [(Col.mk [105,100] 1),(Col.mk [110,97,109,101] 2)] 1 [])) 5 (Zf [97]) (Span.mk 0 10)).s.name),v4, .int .i64 ((Zo (Z7 (Schema.mk [112,101,111,112,108,101] [(Col.mk [105,100] 1),(Col.mk [110,97,109,101] 2)] 1 [])) 5 (Zf [97]) (Span.mk 0 10)).s.key),v5,v6, .int .i64 ((Zo (Z7 (Schema.mk [112,101,111,112,108,101] [(Col.mk [105,100] 1),(Col.mk [110,97,109,101] 2)] 1 [])) 5 (Zf [97]) (Span.mk 0 10)).last)], .bool false] hS14 ⟨_,_,_,rfl,rfl,hS14.loadA 1 _ _ _ 0 [Zb ((Zo (Z7 (Schema.mk [112,101,111,112,108,101] [(Col.mk [105,100] 1),(Col.mk [110,97,109,101] 2)] 1 [])) 5 (Zf [97]) (Span.mk 0 10)).s.name),v4, .int .i64 ((Zo (Z7 (Schema.mk [112,101,111,112,108,101] [(Col.mk [105,100] 1),(Col.mk [110,97,109,101] 2)] 1 [])) 5 (Zf [97]) (Span.mk 0 10)).s.key),v5,v6, .int .i64 ((Zo (Z7 (Schema.mk [112,101,111,112,108,101] [(Col.mk [105,100] 1),(Col.mk [110,97,109,101] 2)] 1 [])) 5 (Zf [97]) (Span.mk 0 10)).last)] rfl rfl rfl Zm rfl,⟨_,rfl,rfl⟩⟩ ⟨_,_,rfl,(Is.cast ⟨_,rfl,(Zi (Zo (Z7 (Schema.mk [112,101,111,112,108,101] [(Col.mk [105,100] 1),(Col.mk [110,97,109,101] 2)] 1 [])) 5 (Zf [97]) (Span.mk 0 10)) hb4 hs7 hb5 hs8 hs9 hb6)⟩ (by with_reducible exact ZfQ.1)),(congrArg Value.bool (by with_reducible exact absurd ZfQ.2 ‹_›))⟩
 have h1 : (Zcd (Schema.mk [112,101,111,112,108,101] [(Col.mk [105,100] 1),(Col.mk [110,97,109,101] 2)] 1 [])) ≠ 0:=q1
 clear q1
 refine drD (C:=fun w9=>∃ ce13 ce14 ce15 ce16 ce17 ce18,St w [] G G4 [some (b3,28,[Zb ((Zo (Z7 (Schema.mk [112,101,111,112,108,101] [(Col.mk [105,100] 1),(Col.mk [110,97,109,101] 2)] 1 [])) 5 (Zf [97]) (Span.mk 0 10)).s.name),v4, .int .i64 ((Zo (Z7 (Schema.mk [112,101,111,112,108,101] [(Col.mk [105,100] 1),(Col.mk [110,97,109,101] 2)] 1 [])) 5 (Zf [97]) (Span.mk 0 10)).s.key),v5,v6, .int .i64 ((Zo (Z7 (Schema.mk [112,101,111,112,108,101] [(Col.mk [105,100] 1),(Col.mk [110,97,109,101] 2)] 1 [])) 5 (Zf [97]) (Span.mk 0 10)).last)]),some (b1,28,[ce13,ce14,ce15,ce16,ce17,ce18])] w9) (fun _ h9=>by obtain ⟨ce13,ce14,ce15,ce16,ce17,ce18,h9⟩:=h9; exact ⟨ce13,ce14,ce15,ce16,ce17,ce18,h9.draw⟩) [(13,true),(14,false)] [(20, .agg #[Zb ((Zo (Z7 (Schema.mk [112,101,111,112,108,101] [(Col.mk [105,100] 1),(Col.mk [110,97,109,101] 2)] 1 [])) 5 (Zf [97]) (Span.mk 0 10)).s.name),v4, .int .i64 ((Zo (Z7 (Schema.mk [112,101,111,112,108,101] [(Col.mk [105,100] 1),(Col.mk [110,97,109,101] 2)] 1 [])) 5 (Zf [97]) (Span.mk 0 10)).s.key),v5,v6, .int .i64 ((Zo (Z7 (Schema.mk [112,101,111,112,108,101] [(Col.mk [105,100] 1),(Col.mk [110,97,109,101] 2)] 1 [])) 5 (Zf [97]) (Span.mk 0 10)).last)]),(22, .bool false)] ⟨_,_,_,_,_,_,hS10⟩ ⟨fun _ h9=>by obtain ⟨ce13,ce14,ce15,ce16,ce17,ce18,hSw⟩:=h9; exact ZD hSw 0 _ _ _ 0 [Zb ((Zo (Z7 (Schema.mk [112,101,111,112,108,101] [(Col.mk [105,100] 1),(Col.mk [110,97,109,101] 2)] 1 [])) 5 (Zf [97]) (Span.mk 0 10)).s.name),v4, .int .i64 ((Zo (Z7 (Schema.mk [112,101,111,112,108,101] [(Col.mk [105,100] 1),(Col.mk [110,97,109,101] 2)] 1 [])) 5 (Zf [97]) (Span.mk 0 10)).s.key),v5,v6, .int .i64 ((Zo (Z7 (Schema.mk [112,101,111,112,108,101] [(Col.mk [105,100] 1),(Col.mk [110,97,109,101] 2)] 1 [])) 5 (Zf [97]) (Span.mk 0 10)).last)] rfl rfl rfl Zm rfl rfl rfl <| nu rfl rfl,fun _=>WL.cmpV .eql rfl .i64 (Zcd (Schema.mk [112,101,111,112,108,101] [(Col.mk [105,100] 1),(Col.mk [110,97,109,101] 2)] 1 [])) 0 _ hb7 rfl rfl rfl <| nu rfl rfl,trivial⟩ ?_
 rintro w15 ⟨ce13,ce14,ce15,ce16,ce17,ce18,hS15⟩
 refine WL.store hS15 1 _ _ _ 0 _ [Zb ((Zo (Z7 (Schema.mk [112,101,111,112,108,101] [(Col.mk [105,100] 1),(Col.mk [110,97,109,101] 2)] 1 [])) 5 (Zf [97]) (Span.mk 0 10)).s.name),v4, .int .i64 ((Zo (Z7 (Schema.mk [112,101,111,112,108,101] [(Col.mk [105,100] 1),(Col.mk [110,97,109,101] 2)] 1 [])) 5 (Zf [97]) (Span.mk 0 10)).s.key),v5,v6, .int .i64 ((Zo (Z7 (Schema.mk [112,101,111,112,108,101] [(Col.mk [105,100] 1),(Col.mk [110,97,109,101] 2)] 1 [])) 5 (Zf [97]) (Span.mk 0 10)).last)] [Zb ((Zo (Z7 (Schema.mk [112,101,111,112,108,101] [(Col.mk [105,100] 1),(Col.mk [110,97,109,101] 2)] 1 [])) 5 (Zf [97]) (Span.mk 0 10)).s.name),v4, .int .i64 ((Zo (Z7 (Schema.mk [112,101,111,112,108,101] [(Col.mk [105,100] 1),(Col.mk [110,97,109,101] 2)] 1 [])) 5 (Zf [97]) (Span.mk 0 10)).s.key),v5,v6, .int .i64 ((Zo (Z7 (Schema.mk [112,101,111,112,108,101] [(Col.mk [105,100] 1),(Col.mk [110,97,109,101] 2)] 1 [])) 5 (Zf [97]) (Span.mk 0 10)).last)] _ rfl rfl Zm rfl (Nat.le_of_ble_eq_true rfl) (by simp only [List.all_cons,List.all_nil,hs7.oneC,hs8.oneC,hs9.oneC,Bool.true_and] <;> rfl) rfl rfl rfl rfl rfl (fun w16 hS16=>?_)
 refine ⟨⟨_,_,_,_,_,_,hS16.down hS15.le (G4.le_refl)⟩,?_⟩
 exact Xe [.agg #[Zb ((Zo (Z7 (Schema.mk [112,101,111,112,108,101] [(Col.mk [105,100] 1),(Col.mk [110,97,109,101] 2)] 1 [])) 5 (Zf [97]) (Span.mk 0 10)).s.name),v4, .int .i64 ((Zo (Z7 (Schema.mk [112,101,111,112,108,101] [(Col.mk [105,100] 1),(Col.mk [110,97,109,101] 2)] 1 [])) 5 (Zf [97]) (Span.mk 0 10)).s.key),v5,v6, .int .i64 ((Zo (Z7 (Schema.mk [112,101,111,112,108,101] [(Col.mk [105,100] 1),(Col.mk [110,97,109,101] 2)] 1 [])) 5 (Zf [97]) (Span.mk 0 10)).last)], .bool false] hS16 ⟨_,_,_,rfl,rfl,hS16.loadA 1 _ _ _ 0 [Zb ((Zo (Z7 (Schema.mk [112,101,111,112,108,101] [(Col.mk [105,100] 1),(Col.mk [110,97,109,101] 2)] 1 [])) 5 (Zf [97]) (Span.mk 0 10)).s.name),v4, .int .i64 ((Zo (Z7 (Schema.mk [112,101,111,112,108,101] [(Col.mk [105,100] 1),(Col.mk [110,97,109,101] 2)] 1 [])) 5 (Zf [97]) (Span.mk 0 10)).s.key),v5,v6, .int .i64 ((Zo (Z7 (Schema.mk [112,101,111,112,108,101] [(Col.mk [105,100] 1),(Col.mk [110,97,109,101] 2)] 1 [])) 5 (Zf [97]) (Span.mk 0 10)).last)] rfl rfl rfl Zm rfl,⟨_,rfl,rfl⟩⟩ ⟨_,_,rfl,(Is.cast ⟨_,rfl,(Zi (Zo (Z7 (Schema.mk [112,101,111,112,108,101] [(Col.mk [105,100] 1),(Col.mk [110,97,109,101] 2)] 1 [])) 5 (Zf [97]) (Span.mk 0 10)) hb4 hs7 hb5 hs8 hs9 hb6)⟩ (by with_reducible exact ZfQ.1)),(congrArg Value.bool (by with_reducible exact absurd Ziw.2 ‹_›))⟩
theorem ZcT {G : GH} {w : World} (hG : G.In w) : CL Tryz.prog (nat_lit 11) #[] [] w G fun _ _ r=>r = .bool true:=by
 refine Zg ft [3,4] Tryz.func11 rfl rfl ?_
 have hS:=St.start (X:=[]) hG
 refine Z6 hS Zuq rfl rfl rfl (ZrH hS.imm) ?_
 rintro w1 G1 _ ⟨r2,_,rfl,hs1,rfl⟩ hS1 hle1
 obtain ⟨cs1,rfl,hr1⟩:=hs1
 obtain ⟨v1,v2,v3,rfl,hb1,hs2,hb2,hs3,hs4,hb3⟩:=Zy hr1
 refine WL.alloc hS1 Zm rfl rfl (fun b1 w2 hn1 hS2=>?_)
 refine WL.store hS2 0 _ _ _ 0 _ [Zb Z0.s.name,v1, .int .i64 Z0.s.key,v2,v3, .int .i64 Z0.last] [Zb Z0.s.name,v1, .int .i64 Z0.s.key,v2,v3, .int .i64 Z0.last] _ rfl rfl Zm rfl (Nat.le_of_ble_eq_true rfl) (by simp only [List.all_cons,List.all_nil,hs2.oneC,hs3.oneC,hs4.oneC,Bool.true_and] <;> rfl) rfl rfl rfl rfl rfl (fun w3 hS3=>?_)
 obtain ⟨G2,hle2,hc1,hS4⟩:=hS3.shutB hn1
 refine JN.go ft [3,4] (fun ρ1 w1=>∃ (G3 : GH),G2.le G3 ∧ St w [] G G3 [] w1 ∧ FR ρ1 [(1, .pointer (some (⟨b1,0,none⟩ : Addr))),(2, .bool true),(4, .int .i64 (Qb Z0 6 (Zf [98]) (Span.mk 5 20)))]) ?_ ?_
 ·refine drT [1,3,4,5,6,7,8,9] [(13, .agg #[Zb Z0.s.name,v1, .int .i64 Z0.s.key,v2,v3, .int .i64 Z0.last]),(15, .agg #[.int .i64 5, .int .i64 20])] hS4 ⟨fun _ hSw=>Zc hSw hc1 [Zb Z0.s.name,v1, .int .i64 Z0.s.key,v2,v3, .int .i64 Z0.last] Zm rfl rfl rfl rfl rfl <| nu rfl rfl,fun _=>WL.build _ [(0,[.int .i64 5]),(1,[.int .i64 20])] [.int .i64 5, .int .i64 20] Zu rfl X6 rfl rfl rfl rfl <| nu rfl rfl,trivial⟩ (fun w5 hS6=>?_)
  refine TG.fork 7 [1,3,4,5,6,7,8,9] [1,7] rfl rfl (by decide) (by decide) (TA.cons rfl ?_ (TA.cons rfl ?_ TA.nil))
  ·refine Z6 hS6 Zie rfl rfl rfl (Zdu hS6.imm [98] (by simp [reach])) (fun w6 G4 r4 hpost2 hS7 hle4=>?_)
   refine ⟨fun _=>hS7.down hS6.le hle4,?_⟩
   refine TG.fork 6 [3,4,5,6,7,8,9] [3,7] rfl rfl (by decide) (by decide) (TA.cons rfl ?_ (TA.cons rfl ?_ TA.nil))
   ·refine Z6 hS7 Zid rfl rfl rfl (Zcy hS7.imm Z0 6 (Zf [98]) (Span.mk 5 20) _ (Zi Z0 hb1 (hs2.mono (hle2.trans hle4)) hb2 (hs3.mono (hle2.trans hle4)) (hs4.mono (hle2.trans hle4)) hb3) _ hpost2 _ (Zs (Span.mk 5 20) (show Zw 5 from by constructor <;> decide) (show Zw 20 from by constructor <;> decide)) (show Zw 6 from by constructor <;> decide)) ?_
    rintro w7 G5 _ ⟨r6,_,rfl,hs5,rfl⟩ hS8 hle5
    obtain ⟨cs2,rfl,hr2⟩:=hs5
    obtain ⟨v4,v5,v6,rfl,hb4,hs6,hb5,hs7,hs8,hb6⟩:=Zy hr2
    refine ⟨fun h=>absurd h (by decide),?_⟩
    refine TG.quiet 5 [4,5,6,7,8,9] 4 rfl rfl rfl rfl rfl (by decide) (fun w9 K9 k9=>WL.move rfl k9) ?_
    refine TG.quiet 4 [5,6,7,8,9] 5 rfl rfl rfl rfl rfl (by decide) (fun w9 K9 k9=>WL.extract _ _ rfl rfl rfl k9) ?_
    refine TG.quiet 3 [6,7,8,9] 6 rfl rfl rfl rfl rfl (by decide) (fun w9 K9 k9=>WL.extract _ _ rfl rfl rfl k9) ?_
    refine TG.fork 2 [7,8,9] [7] rfl rfl (by decide) (by decide) (TA.cons rfl ?_ TA.nil)
    refine WL.alloc hS8 Zm rfl rfl (fun b2 w9 hn2 hS9=>?_)
    refine ⟨fun _=>hS9.tail.down hS6.le (hle4.trans hle5),?_⟩
    refine TG.fork 1 [8,9] [8] rfl rfl (by decide) (by decide) (TA.cons rfl ?_ TA.nil)
    refine WL.store hS9 0 _ _ _ 0 _ [Zb ((Zo Z0 6 (Zf [98]) (Span.mk 5 20)).s.name),v4, .int .i64 ((Zo Z0 6 (Zf [98]) (Span.mk 5 20)).s.key),v5,v6, .int .i64 ((Zo Z0 6 (Zf [98]) (Span.mk 5 20)).last)] [Zb ((Zo Z0 6 (Zf [98]) (Span.mk 5 20)).s.name),v4, .int .i64 ((Zo Z0 6 (Zf [98]) (Span.mk 5 20)).s.key),v5,v6, .int .i64 ((Zo Z0 6 (Zf [98]) (Span.mk 5 20)).last)] _ rfl rfl Zm rfl (Nat.le_of_ble_eq_true rfl) (by simp only [List.all_cons,List.all_nil,hs6.oneC,hs7.oneC,hs8.oneC,Bool.true_and] <;> rfl) rfl rfl rfl rfl rfl (fun w10 hS10=>?_)
    obtain ⟨G6,hle6,hc2,hS11⟩:=hS10.shutB hn2
    refine ⟨fun h=>absurd h (by decide),?_⟩
    refine TG.quiet 0 [9] 9 rfl rfl rfl rfl rfl (by decide) (fun w9 K9 k9=>WL.assign rfl k9) ?_
    refine TG.fin rfl ?_
    exact ⟨G6,((hle4.trans hle5).trans hle6),hS11,⟨rfl,rfl,rfl,trivial⟩⟩
   refine WL.alloc hS7 Zm rfl rfl (fun b3 w11 hn3 hS12=>?_)
   refine ⟨fun _=>hS12.tail.down hS6.le hle4,?_⟩
   refine TG.fork 5 [3,4,5,6,8,9] [3] rfl rfl (by decide) (by decide) (TA.cons rfl ?_ TA.nil)
   refine Z6 hS12 Zid rfl rfl rfl (Zcy hS12.imm Z0 6 (Zf [98]) (Span.mk 5 20) _ (Zi Z0 hb1 (hs2.mono (hle2.trans hle4)) hb2 (hs3.mono (hle2.trans hle4)) (hs4.mono (hle2.trans hle4)) hb3) _ hpost2 _ (Zs (Span.mk 5 20) (show Zw 5 from by constructor <;> decide) (show Zw 20 from by constructor <;> decide)) (show Zw 6 from by constructor <;> decide)) ?_
   rintro w12 G7 _ ⟨r9,_,rfl,hs9,rfl⟩ hS13 hle7
   obtain ⟨cs3,rfl,hr3⟩:=hs9
   obtain ⟨v7,v9,v10,rfl,hb7,hs10,hb8,hs11,hs12,hb9⟩:=Zy hr3
   refine ⟨fun h=>absurd h (by decide),?_⟩
   refine TG.quiet 4 [4,5,6,8,9] 4 rfl rfl rfl rfl rfl (by decide) (fun w9 K9 k9=>WL.move rfl k9) ?_
   refine TG.quiet 3 [5,6,8,9] 5 rfl rfl rfl rfl rfl (by decide) (fun w9 K9 k9=>WL.extract _ _ rfl rfl rfl k9) ?_
   refine TG.quiet 2 [6,8,9] 6 rfl rfl rfl rfl rfl (by decide) (fun w9 K9 k9=>WL.extract _ _ rfl rfl rfl k9) ?_
   refine TG.fork 1 [8,9] [8] rfl rfl (by decide) (by decide) (TA.cons rfl ?_ TA.nil)
   refine WL.store hS13 0 _ _ _ 0 _ [Zb ((Zo Z0 6 (Zf [98]) (Span.mk 5 20)).s.name),v7, .int .i64 ((Zo Z0 6 (Zf [98]) (Span.mk 5 20)).s.key),v9,v10, .int .i64 ((Zo Z0 6 (Zf [98]) (Span.mk 5 20)).last)] [Zb ((Zo Z0 6 (Zf [98]) (Span.mk 5 20)).s.name),v7, .int .i64 ((Zo Z0 6 (Zf [98]) (Span.mk 5 20)).s.key),v9,v10, .int .i64 ((Zo Z0 6 (Zf [98]) (Span.mk 5 20)).last)] _ rfl rfl Zm rfl (Nat.le_of_ble_eq_true rfl) (by simp only [List.all_cons,List.all_nil,hs10.oneC,hs11.oneC,hs12.oneC,Bool.true_and] <;> rfl) rfl rfl rfl rfl rfl (fun w13 hS14=>?_)
   obtain ⟨G9,hle9,hc3,hS15⟩:=hS14.shutB hn3
   refine ⟨fun h=>absurd h (by decide),?_⟩
   refine TG.quiet 0 [9] 9 rfl rfl rfl rfl rfl (by decide) (fun w9 K9 k9=>WL.assign rfl k9) ?_
   refine TG.fin rfl ?_
   exact ⟨G9,((hle4.trans hle7).trans hle9),hS15,⟨rfl,rfl,rfl,trivial⟩⟩
  refine WL.alloc hS6 Zm rfl rfl (fun b4 w14 hn4 hS16=>?_)
  refine ⟨fun _=>hS16.tail.down hS6.le (G2.le_refl),?_⟩
  refine TG.fork 6 [1,3,4,5,6,8,9] [1] rfl rfl (by decide) (by decide) (TA.cons rfl ?_ TA.nil)
  refine Z6 hS16 Zie rfl rfl rfl (Zdu hS16.imm [98] (by simp [reach])) (fun w15 G10 r11 hpost5 hS17 hle10=>?_)
  refine ⟨fun _=>hS17.tail.down hS6.le hle10,?_⟩
  refine TG.fork 5 [3,4,5,6,8,9] [3] rfl rfl (by decide) (by decide) (TA.cons rfl ?_ TA.nil)
  refine Z6 hS17 Zid rfl rfl rfl (Zcy hS17.imm Z0 6 (Zf [98]) (Span.mk 5 20) _ (Zi Z0 hb1 (hs2.mono (hle2.trans hle10)) hb2 (hs3.mono (hle2.trans hle10)) (hs4.mono (hle2.trans hle10)) hb3) _ hpost5 _ (Zs (Span.mk 5 20) (show Zw 5 from by constructor <;> decide) (show Zw 20 from by constructor <;> decide)) (show Zw 6 from by constructor <;> decide)) ?_
  rintro w16 G11 _ ⟨r13,_,rfl,hs13,rfl⟩ hS18 hle11
  obtain ⟨cs4,rfl,hr4⟩:=hs13
  obtain ⟨v11,v12,v13,rfl,hb10,hs14,YD,hs15,hs16,YW⟩:=Zy hr4
  refine ⟨fun h=>absurd h (by decide),?_⟩
  refine TG.quiet 4 [4,5,6,8,9] 4 rfl rfl rfl rfl rfl (by decide) (fun w9 K9 k9=>WL.move rfl k9) ?_
  refine TG.quiet 3 [5,6,8,9] 5 rfl rfl rfl rfl rfl (by decide) (fun w9 K9 k9=>WL.extract _ _ rfl rfl rfl k9) ?_
  refine TG.quiet 2 [6,8,9] 6 rfl rfl rfl rfl rfl (by decide) (fun w9 K9 k9=>WL.extract _ _ rfl rfl rfl k9) ?_
  refine TG.fork 1 [8,9] [8] rfl rfl (by decide) (by decide) (TA.cons rfl ?_ TA.nil)
  refine WL.store hS18 0 _ _ _ 0 _ [Zb ((Zo Z0 6 (Zf [98]) (Span.mk 5 20)).s.name),v11, .int .i64 ((Zo Z0 6 (Zf [98]) (Span.mk 5 20)).s.key),v12,v13, .int .i64 ((Zo Z0 6 (Zf [98]) (Span.mk 5 20)).last)] [Zb ((Zo Z0 6 (Zf [98]) (Span.mk 5 20)).s.name),v11, .int .i64 ((Zo Z0 6 (Zf [98]) (Span.mk 5 20)).s.key),v12,v13, .int .i64 ((Zo Z0 6 (Zf [98]) (Span.mk 5 20)).last)] _ rfl rfl Zm rfl (Nat.le_of_ble_eq_true rfl) (by simp only [List.all_cons,List.all_nil,hs14.oneC,hs15.oneC,hs16.oneC,Bool.true_and] <;> rfl) rfl rfl rfl rfl rfl (fun w17 hS19=>?_)
  obtain ⟨G12,hle12,hc4,hS20⟩:=hS19.shutB hn4
  refine ⟨fun h=>absurd h (by decide),?_⟩
  refine TG.quiet 0 [9] 9 rfl rfl rfl rfl rfl (by decide) (fun w9 K9 k9=>WL.assign rfl k9) ?_
  refine TG.fin rfl ?_
  exact ⟨G12,((hle10.trans hle11).trans hle12),hS20,⟨rfl,rfl,rfl,trivial⟩⟩
 rintro ρ1 w4 ⟨G3,hle3,hS5,hF9⟩
 refine hF9.set ?_
 refine JN.go ft [3,4] (fun ρ1 w1=>∃ (q5 : Addr),∃ (u1 : Value),∃ (u2 : Value),∃ (u3 : Value),∃ (G13 : GH),G3.le G13 ∧ St w [] G G13 [] w1 ∧ FR ρ1 [(2, .bool true),(4, .int .i64 (Qb Z0 6 (Zf [98]) (Span.mk 5 20))),(5, .pointer (some q5)),(6, .int .i64 (Zc6 Z0 6 (Zf [98]) (Span.mk 5 20)))] ∧ Xw G13 q5 [Zb (YI Z0 6 (Zf [98]) (Span.mk 5 20)).s.name,u1, .int .i64 (YI Z0 6 (Zf [98]) (Span.mk 5 20)).s.key,u2,u3, .int .i64 (YI Z0 6 (Zf [98]) (Span.mk 5 20)).last] ∧ Sl ColE 24 G13 u1 (YI Z0 6 (Zf [98]) (Span.mk 5 20)).s.cols ∧ Sl ForeignE 40 G13 u2 (YI Z0 6 (Zf [98]) (Span.mk 5 20)).s.fks ∧ Sl HRowE 56 G13 u3 (YI Z0 6 (Zf [98]) (Span.mk 5 20)).rows ∧ (YI Z0 6 (Zf [98]) (Span.mk 5 20)).s.name.length ≤ reach ∧ Zw (YI Z0 6 (Zf [98]) (Span.mk 5 20)).s.key ∧ Zw (YI Z0 6 (Zf [98]) (Span.mk 5 20)).last) ?_ ?_
 ·refine drT [1,3,4,5,6,7,8,9] [(20, .agg #[Zb Z0.s.name,v1, .int .i64 Z0.s.key,v2,v3, .int .i64 Z0.last]),(22, .agg #[.int .i64 5, .int .i64 20])] hS5 ⟨fun _ hSw=>Zc hSw (hc1.mono hle3) [Zb Z0.s.name,v1, .int .i64 Z0.s.key,v2,v3, .int .i64 Z0.last] Zm rfl rfl rfl rfl rfl <| nu rfl rfl,fun _=>WL.build _ [(0,[.int .i64 5]),(1,[.int .i64 20])] [.int .i64 5, .int .i64 20] Zu rfl X6 rfl rfl rfl rfl <| nu rfl rfl,trivial⟩ (fun w19 hS22=>?_)
  refine TG.fork 7 [1,3,4,5,6,7,8,9] [1,7] rfl rfl (by decide) (by decide) (TA.cons rfl ?_ (TA.cons rfl ?_ TA.nil))
  ·refine Z6 hS22 Zie rfl rfl rfl (Zdu hS22.imm [98] (by simp [reach])) (fun w20 G14 r15 hpost7 hS23 hle14=>?_)
   refine ⟨fun _=>hS23.down hS22.le hle14,?_⟩
   refine TG.fork 6 [3,4,5,6,7,8,9] [3,7] rfl rfl (by decide) (by decide) (TA.cons rfl ?_ (TA.cons rfl ?_ TA.nil))
   ·refine Z6 hS23 Qn rfl rfl rfl (Ziy hS23.imm Z0 6 (Zf [98]) (Span.mk 5 20) _ (Zi Z0 hb1 (hs2.mono ((hle2.trans hle3).trans hle14)) hb2 (hs3.mono ((hle2.trans hle3).trans hle14)) (hs4.mono ((hle2.trans hle3).trans hle14)) hb3) _ hpost7 _ (Zs (Span.mk 5 20) (show Zw 5 from by constructor <;> decide) (show Zw 20 from by constructor <;> decide)) (show Zw 6 from by constructor <;> decide)) ?_
    rintro w21 G15 _ ⟨r17,_,rfl,hs17,rfl⟩ hS24 hle15
    obtain ⟨cs5,rfl,hr5⟩:=hs17
    obtain ⟨v14,v15,v16,rfl,Xj,hs18,XD,hs19,hs20,X7⟩:=Zy hr5
    refine ⟨fun h=>absurd h (by decide),?_⟩
    refine TG.quiet 5 [4,5,6,7,8,9] 4 rfl rfl rfl rfl rfl (by decide) (fun w9 K9 k9=>WL.move rfl k9) ?_
    refine TG.quiet 4 [5,6,7,8,9] 5 rfl rfl rfl rfl rfl (by decide) (fun w9 K9 k9=>WL.extract _ _ rfl rfl rfl k9) ?_
    refine TG.quiet 3 [6,7,8,9] 6 rfl rfl rfl rfl rfl (by decide) (fun w9 K9 k9=>WL.extract _ _ rfl rfl rfl k9) ?_
    refine TG.fork 2 [7,8,9] [7] rfl rfl (by decide) (by decide) (TA.cons rfl ?_ TA.nil)
    refine WL.alloc hS24 Zm rfl rfl (fun b5 w22 hn5 hS25=>?_)
    refine ⟨fun _=>hS25.tail.down hS22.le (hle14.trans hle15),?_⟩
    refine TG.fork 1 [8,9] [8] rfl rfl (by decide) (by decide) (TA.cons rfl ?_ TA.nil)
    refine WL.store hS25 0 _ _ _ 0 _ [Zb ((YI Z0 6 (Zf [98]) (Span.mk 5 20)).s.name),v14, .int .i64 ((YI Z0 6 (Zf [98]) (Span.mk 5 20)).s.key),v15,v16, .int .i64 ((YI Z0 6 (Zf [98]) (Span.mk 5 20)).last)] [Zb ((YI Z0 6 (Zf [98]) (Span.mk 5 20)).s.name),v14, .int .i64 ((YI Z0 6 (Zf [98]) (Span.mk 5 20)).s.key),v15,v16, .int .i64 ((YI Z0 6 (Zf [98]) (Span.mk 5 20)).last)] _ rfl rfl Zm rfl (Nat.le_of_ble_eq_true rfl) (by simp only [List.all_cons,List.all_nil,hs18.oneC,hs19.oneC,hs20.oneC,Bool.true_and] <;> rfl) rfl rfl rfl rfl rfl (fun w23 hS26=>?_)
    obtain ⟨G16,hle16,hc5,hS27⟩:=hS26.shutB hn5
    refine ⟨fun h=>absurd h (by decide),?_⟩
    refine TG.quiet 0 [9] 9 rfl rfl rfl rfl rfl (by decide) (fun w9 K9 k9=>WL.assign rfl k9) ?_
    refine TG.fin rfl ?_
    exact ⟨(⟨b5,0,none⟩ : Addr),v14,v15,v16,G16,((hle14.trans hle15).trans hle16),hS27,⟨rfl,rfl,rfl,rfl,trivial⟩,(hc5),((hs18.mono hle16)),((hs19.mono hle16)),((hs20.mono hle16)),(Xj),(XD),(X7)⟩
   refine WL.alloc hS23 Zm rfl rfl (fun b6 w24 hn6 hS28=>?_)
   refine ⟨fun _=>hS28.tail.down hS22.le hle14,?_⟩
   refine TG.fork 5 [3,4,5,6,8,9] [3] rfl rfl (by decide) (by decide) (TA.cons rfl ?_ TA.nil)
   refine Z6 hS28 Qn rfl rfl rfl (Ziy hS28.imm Z0 6 (Zf [98]) (Span.mk 5 20) _ (Zi Z0 hb1 (hs2.mono ((hle2.trans hle3).trans hle14)) hb2 (hs3.mono ((hle2.trans hle3).trans hle14)) (hs4.mono ((hle2.trans hle3).trans hle14)) hb3) _ hpost7 _ (Zs (Span.mk 5 20) (show Zw 5 from by constructor <;> decide) (show Zw 20 from by constructor <;> decide)) (show Zw 6 from by constructor <;> decide)) ?_
   rintro w25 G17 _ ⟨r20,_,rfl,hs21,rfl⟩ hS29 hle17
   obtain ⟨cs6,rfl,hr6⟩:=hs21
   obtain ⟨v17,v18,v19,rfl,Qi,hs22,Qd,hs23,hs24,Q6⟩:=Zy hr6
   refine ⟨fun h=>absurd h (by decide),?_⟩
   refine TG.quiet 4 [4,5,6,8,9] 4 rfl rfl rfl rfl rfl (by decide) (fun w9 K9 k9=>WL.move rfl k9) ?_
   refine TG.quiet 3 [5,6,8,9] 5 rfl rfl rfl rfl rfl (by decide) (fun w9 K9 k9=>WL.extract _ _ rfl rfl rfl k9) ?_
   refine TG.quiet 2 [6,8,9] 6 rfl rfl rfl rfl rfl (by decide) (fun w9 K9 k9=>WL.extract _ _ rfl rfl rfl k9) ?_
   refine TG.fork 1 [8,9] [8] rfl rfl (by decide) (by decide) (TA.cons rfl ?_ TA.nil)
   refine WL.store hS29 0 _ _ _ 0 _ [Zb ((YI Z0 6 (Zf [98]) (Span.mk 5 20)).s.name),v17, .int .i64 ((YI Z0 6 (Zf [98]) (Span.mk 5 20)).s.key),v18,v19, .int .i64 ((YI Z0 6 (Zf [98]) (Span.mk 5 20)).last)] [Zb ((YI Z0 6 (Zf [98]) (Span.mk 5 20)).s.name),v17, .int .i64 ((YI Z0 6 (Zf [98]) (Span.mk 5 20)).s.key),v18,v19, .int .i64 ((YI Z0 6 (Zf [98]) (Span.mk 5 20)).last)] _ rfl rfl Zm rfl (Nat.le_of_ble_eq_true rfl) (by simp only [List.all_cons,List.all_nil,hs22.oneC,hs23.oneC,hs24.oneC,Bool.true_and] <;> rfl) rfl rfl rfl rfl rfl (fun w26 hS30=>?_)
   obtain ⟨G18,hle18,hc6,hS31⟩:=hS30.shutB hn6
   refine ⟨fun h=>absurd h (by decide),?_⟩
   refine TG.quiet 0 [9] 9 rfl rfl rfl rfl rfl (by decide) (fun w9 K9 k9=>WL.assign rfl k9) ?_
   refine TG.fin rfl ?_
   exact ⟨(⟨b6,0,none⟩ : Addr),v17,v18,v19,G18,((hle14.trans hle17).trans hle18),hS31,⟨rfl,rfl,rfl,rfl,trivial⟩,(hc6),((hs22.mono hle18)),((hs23.mono hle18)),((hs24.mono hle18)),(Qi),(Qd),(Q6)⟩
  refine WL.alloc hS22 Zm rfl rfl (fun b7 w27 hn7 hS32=>?_)
  refine ⟨fun _=>hS32.tail.down hS22.le (G3.le_refl),?_⟩
  refine TG.fork 6 [1,3,4,5,6,8,9] [1] rfl rfl (by decide) (by decide) (TA.cons rfl ?_ TA.nil)
  refine Z6 hS32 Zie rfl rfl rfl (Zdu hS32.imm [98] (by simp [reach])) (fun w28 G19 r22 hpost10 hS33 hle19=>?_)
  refine ⟨fun _=>hS33.tail.down hS22.le hle19,?_⟩
  refine TG.fork 5 [3,4,5,6,8,9] [3] rfl rfl (by decide) (by decide) (TA.cons rfl ?_ TA.nil)
  refine Z6 hS33 Qn rfl rfl rfl (Ziy hS33.imm Z0 6 (Zf [98]) (Span.mk 5 20) _ (Zi Z0 hb1 (hs2.mono ((hle2.trans hle3).trans hle19)) hb2 (hs3.mono ((hle2.trans hle3).trans hle19)) (hs4.mono ((hle2.trans hle3).trans hle19)) hb3) _ hpost10 _ (Zs (Span.mk 5 20) (show Zw 5 from by constructor <;> decide) (show Zw 20 from by constructor <;> decide)) (show Zw 6 from by constructor <;> decide)) ?_
  rintro w29 G20 _ ⟨r24,_,rfl,hs25,rfl⟩ hS34 hle20
  obtain ⟨cs7,rfl,hr7⟩:=hs25
  obtain ⟨v20,v21,v22,rfl,Zag,hs26,Zah,hs27,hs28,ZdM⟩:=Zy hr7
  refine ⟨fun h=>absurd h (by decide),?_⟩
  refine TG.quiet 4 [4,5,6,8,9] 4 rfl rfl rfl rfl rfl (by decide) (fun w9 K9 k9=>WL.move rfl k9) ?_
  refine TG.quiet 3 [5,6,8,9] 5 rfl rfl rfl rfl rfl (by decide) (fun w9 K9 k9=>WL.extract _ _ rfl rfl rfl k9) ?_
  refine TG.quiet 2 [6,8,9] 6 rfl rfl rfl rfl rfl (by decide) (fun w9 K9 k9=>WL.extract _ _ rfl rfl rfl k9) ?_
  refine TG.fork 1 [8,9] [8] rfl rfl (by decide) (by decide) (TA.cons rfl ?_ TA.nil)
  refine WL.store hS34 0 _ _ _ 0 _ [Zb ((YI Z0 6 (Zf [98]) (Span.mk 5 20)).s.name),v20, .int .i64 ((YI Z0 6 (Zf [98]) (Span.mk 5 20)).s.key),v21,v22, .int .i64 ((YI Z0 6 (Zf [98]) (Span.mk 5 20)).last)] [Zb ((YI Z0 6 (Zf [98]) (Span.mk 5 20)).s.name),v20, .int .i64 ((YI Z0 6 (Zf [98]) (Span.mk 5 20)).s.key),v21,v22, .int .i64 ((YI Z0 6 (Zf [98]) (Span.mk 5 20)).last)] _ rfl rfl Zm rfl (Nat.le_of_ble_eq_true rfl) (by simp only [List.all_cons,List.all_nil,hs26.oneC,hs27.oneC,hs28.oneC,Bool.true_and] <;> rfl) rfl rfl rfl rfl rfl (fun w30 hS35=>?_)
  obtain ⟨G21,hle21,hc7,hS36⟩:=hS35.shutB hn7
  refine ⟨fun h=>absurd h (by decide),?_⟩
  refine TG.quiet 0 [9] 9 rfl rfl rfl rfl rfl (by decide) (fun w9 K9 k9=>WL.assign rfl k9) ?_
  refine TG.fin rfl ?_
  exact ⟨(⟨b7,0,none⟩ : Addr),v20,v21,v22,G21,((hle19.trans hle20).trans hle21),hS36,⟨rfl,rfl,rfl,rfl,trivial⟩,(hc7),((hs26.mono hle21)),((hs27.mono hle21)),((hs28.mono hle21)),(Zag),(Zah),(ZdM)⟩
 rintro ρ1 w18 ⟨q5,u1,u2,u3,G13,hle13,hS21,hF9,f1,f2,f3,f4,f5,f6,f7⟩
 refine hF9.set ?_
 refine Zc hS21 f1 [Zb ((YI Z0 6 (Zf [98]) (Span.mk 5 20)).s.name),u1, .int .i64 ((YI Z0 6 (Zf [98]) (Span.mk 5 20)).s.key),u2,u3, .int .i64 ((YI Z0 6 (Zf [98]) (Span.mk 5 20)).last)] Zm rfl rfl rfl rfl rfl ?_
 refine Z6 hS21 Zur rfl rfl rfl (Zws hS21.imm (YI Z0 6 (Zf [98]) (Span.mk 5 20)) 6 _ (Zi (YI Z0 6 (Zf [98]) (Span.mk 5 20)) f5 f2 f6 f3 f4 f7)) (fun w31 G22 r26 hpost12 hS37 hle22=>?_)
 refine ZC (Qb Z0 6 (Zf [98]) (Span.mk 5 20)) 14 rfl rfl rfl (fun h1=>?_) (fun h1=>?_)
 ·refine ZC (Zc6 Z0 6 (Zf [98]) (Span.mk 5 20)) 0 rfl rfl rfl (fun h2=>?_) (fun h2=>?_)
  ·have bd1:=hpost12.bound
   refine Zj hpost12 ZmU rfl rfl ?_
   refine ZC (((atH (YI Z0 6 (Zf [98]) (Span.mk 5 20)) 6).length : Nat) : Int) 2 rfl rfl rfl (fun h3=>?_) (fun h3=>?_)
   ·refine WL.indexAddr hpost12 0 (by omega) ZmU ZmQ rfl rfl rfl rfl (fun p1 x1 hx1 he1=>?_)
    obtain ⟨cs8,hc8,hr8⟩:=he1
    obtain ⟨v23,rfl,hs29,Zdd,Zbs⟩:=Zhf hr8
    refine Zc hS37 (Xw.drop 1 hc8) [.int .i64 x1.t.a, .int .i64 x1.t.b] Zu rfl rfl rfl rfl rfl <| WL.build _ [(0,[.int .i64 0]),(1,[.int .i64 5])] [.int .i64 0, .int .i64 5] Zu rfl X6 rfl rfl rfl rfl <| Zg5 (Ze7 x1.t (Span.mk 0 5)) ZjD rfl rfl rfl ?_
    refine WL.split (fun (h4 : (decide (x1.t = (Span.mk 0 5))) = true)=>?_) (fun (h4 : (decide (x1.t = (Span.mk 0 5))) = false)=>?_)
    ·refine WL.indexAddr hpost12 1 (by omega) ZmU ZmQ rfl rfl rfl rfl (fun p2 x2 hx2 he2=>?_)
     obtain ⟨cs9,hc9,hr9⟩:=he2
     obtain ⟨v24,rfl,hs30,Zfq,Zde⟩:=Zhf hr9
     refine Zc hS37 (Xw.drop 1 hc9) [.int .i64 x2.t.a, .int .i64 x2.t.b] Zu rfl rfl rfl rfl rfl <| WL.build _ [(0,[.int .i64 5]),(1,[.int .i64 20])] [.int .i64 5, .int .i64 20] Zu rfl X6 rfl rfl rfl rfl <| Zg5 (Ze7 x2.t (Span.mk 5 20)) ZjD rfl rfl rfl ?_
     exact RB hS37 rfl (by with_reducible exact decide_eq_true (Zwu ‹_›))
    exact RB hS37 rfl (by with_reducible exact absurd (Zwt ‹_›) (of_decide_eq_false ‹_›))
   exact RB hS37 rfl (by with_reducible exact absurd ZtG ‹_›)
  exact RB hS37 rfl (by with_reducible exact absurd ZnS.e ‹_›)
 exact RB hS37 rfl (by with_reducible exact absurd Zvl ‹_›)
end Go.Civ
