/- Lemmas. -/
import Derived.Test.YtcopkjhdncdnmaaGreatDoorP40
set_option linter.unusedVariables false
set_option linter.unusedSimpArgs false
set_option maxRecDepth 100000
set_option maxHeartbeats 4000000
namespace Go.Civ
open Go.Proofs
theorem Zft {G : GH} {w : World} (hG : G.In w) (l : List (List UInt8)) (vl : Value) (hvl : Sl Enc.str 16 G vl l) : CL Tryz.prog (nat_lit 57) #[vl] [] w G fun G' w' r=>∃ o,YH Enc.str 16 (nat_lit 9) G' r l o ∧ ZdY w w' G' o:=by
 refine Zo ft [] Tryz.func57 V V ?_
 have hS:=St.start (X:=[]) hG
 refine Zjw hvl Yo V V V (fun h1=>?_) ?_
 ·exact RT hS V ⟨none,YH.cast (YH.nil _ _ _ _) (by exact Eq.symm ‹_›),fun _ h=>by cases h⟩
 refine WL.buildSlice _ [] [] hS ZaA V V V V (fun z hz=>by match z,hz with | [],_=>rfl) (fun b1 w1 N1 S1=>?_)
 have R1:=YH.empty Enc.str 16 9 G b1
 refine YV ZaA V V V R1 S1 0 V hvl (by have:=Zm; have:=hvl.bytes; have:=hvl.bound; simp only [List.length_nil,Nat.zero_add]; omega) (by have:=Zm; have:=hvl.bytes; have:=hvl.bound; simp only [List.length_nil,Nat.zero_add]; omega) V V V (fun v1 o1 w2 R2 S2=>?_)
 exact RT S2 V ⟨_,YH.cast R2 (by rfl),S2.freshAt 0 V⟩
theorem Zmh (n : Nat) : ∀ {G : GH} {w : World} (hG : G.In w) (c : Cond) (cc : List Value) (hcc : CndE.rep G c cc) (hn : Xn c n),CL Tryz.prog (nat_lit 110) #[.agg cc.toArray] [] w G fun G' _ r=>Is CndE G' r c:=by
 induction n
 ·intro G w hG c cc hcc hn; exact (XC hn).elim
 rename_i n ih
 intro G w hG c cc hcc hn
 refine YA ft [] Tryz.func110 V V ?_
 have hS:=St.start (X:=[]) hG
 have T1:=ZO hcc
 obtain ⟨v1,rfl,B1,B2,B3,B4,B5,B6,A1⟩:=T1
 refine WL.box (CV c v1) _ hS V V V (fun b1 w1 N1 S1=>?_)
 refine WL.alloc S1 Z5 V V (fun b2 w2 N2 S2=>?_)
 refine ZT S2 1 _ _ _ 6 _ V V Y0 V V V ?_
 have V1:=A1.bound
 refine Zl A1 Y2 V V ?_
 have S4:=S2.pad
 refine LP.go ft [] (fun m ρ1 w1=>∃ (k1 : Nat),∃ (v2 : Value) (o1 : OB),∃ (G1 : GH),m = c.l.length - k1 ∧ G.le G1 ∧ St w [] G G1 [o1,some (b2,27,[U 0,Zb [],Zb [],U 0,U 0,Zb [],Zh]),some (b1,27,(CV c v1))] w1 ∧ YH CndE 96 27 G1 v2 (c.l.take k1) o1 ∧ FR ρ1 [(1, .pointer (some ⟨b1,0,none⟩)),(2, .pointer (some ⟨b2,0,none⟩)),(3,v2),(7,v1),(8,U (c.l.length : Int)),(9,U (k1 : Int))] ∧ k1 ≤ c.l.length) _ ⟨0,(Zh),none,G,V,(G.le_refl),S4,(YH.cast (YH.nil CndE 96 27 G) (by simp)),(Yt V),(by omega)⟩ ?_
 rintro m ρ1 w3 ⟨k1,v2,o1,G1,rfl,L1,S3,R1,F9,f1⟩
 refine F9.set ?_
 clear F9
 have hlt9:=List.length_take_le' k1 c.l
 refine Z1 (k1 : Int) (c.l.length : Int) V V V (fun h1=>?_) (fun h1=>?_)
 ·refine WL.indexAddr (A1.mono L1) k1 (by omega) Y2 Z5 V V V V (fun p1 x1 U1 E1=>?_)
  obtain ⟨D1,C1,R2⟩:=E1
  have T2:=ZO R2
  obtain ⟨v3,rfl,B7,ZK,hb9,Z9,Z7,Z6,A2⟩:=T2
  refine Zc S3 C1 (CV x1 v3) Z5 V V V V V ?_
  refine WL.alloc S3 Z5 V V (fun b3 w4 N3 S5=>?_)
  refine WL.store S5 0 _ _ _ 0 _ (CV x1 v3) (CV x1 v3) _ V V Z5 V (ZN V) (by simp only [ZW,A2.oneC] <;> rfl) V V V V V (fun w5 S6=>?_)
  have T3:=S6.shutB N3
  obtain ⟨G2,L2,C2,S7⟩:=T3
  refine Zc S7 C2 (CV x1 v3) Z5 V V V V V ?_
  refine Zv S7 Zal V V V (ih S7.imm x1 _ (ZJ x1 B7 ZK hb9 Z9 Z7 Z6 (A2.mono L2)) (YR hn (List.mem_of_getElem? ‹_›))) (fun w6 G3 r1 P1 S8 L3=>?_)
  obtain ⟨D2,rfl,R3⟩:=P1
  have T4:=ZO R3
  obtain ⟨v4,rfl,ZV,Ye,Yd,B16,B17,Yf,A3⟩:=T4
  refine WL.buildSlice _ [(0,(CV x1 v4))] (CV x1 v4) S8 QI V V V V (fun z hz=>by match z,hz with | [z0,z1,z2,z3,z4,z5,z6],_=>rfl) (fun b4 w7 N4 S9=>?_)
  refine WL.push (m:=([x1] : List Cond)) QI V V V (R1.mono (L2.trans L3)) S9 1 V 0 _ _ _ _ _ V ⟨(CV x1 v4),_,V,(ZJ x1 ZV Ye Yd B16 B17 Yf A3),V⟩ V (by have:=Zm; have hby9:=(by assumption : Sl CndE 96 G _ c.l).bytes; simp only [List.length_append,List.length_map,List.length_take,List.length_cons,List.length_nil]; omega) (by have:=Zm; have hby9:=(by assumption : Sl CndE 96 G _ c.l).bytes; simp only [List.length_append,List.length_map,List.length_take,List.length_cons,List.length_nil]; omega) V V V (fun v5 o2 w9 R4 S10=>?_)
  have S11:=S10.tail
  refine ZC k1 (by have:=Zm; omega) V V V ?_
  exact BK.mk' _ ⟨k1 + 1,v5,o2,G3,V,(L1.trans (L2.trans L3)),S11,(YH.cast R4 (by (rw [List.take_add_one,(by assumption : c.l[k1]? = some _)]; rfl))),(Yt V),(by omega)⟩ (show c.l.length - (k1 + 1) < c.l.length - k1 by omega)
 refine WL.store S3 2 _ _ _ 6 _ [v2] (CV c v2) _ V R1.cells1 Y0 V (ZN V) (by simp only [ZW,R1.oneC] <;> rfl) V V V V V (fun w10 S12=>?_)
 refine Zs S12 2 _ _ _ 0 (CV c v2) V V V Z5 V V V ?_
 refine WL.store S12 1 _ _ _ 0 _ (CV c v2) (CV c v2) _ V V Z5 V (ZN V) (by simp only [ZW,R1.oneC] <;> rfl) V V V V V (fun w11 S13=>?_)
 have T5:=S13.sealAt 1 V N2
 obtain ⟨G4,L4,C3,S14⟩:=T5
 have T6:=YH.freeze (R1.mono L4) S14 0 V
 obtain ⟨G5,L5,A4,S15⟩:=T6
 exact YD [.agg (CV c v2).toArray] S15 ⟨_,_,_,V,V,S15.loadC (C3.mono L5) Z5 V V,V⟩ (Is.cast ⟨_,V,(ZJ (Cond.mk c.kind c.col c.oth c.v (c.l.take k1)) B1 B2 B3 B4 B5 B6 A4)⟩ (by (rw [List.take_of_length_le (by omega)]; exact Zlq c)))
theorem ZeI (n : Nat) : ∀ {G : GH} {w : World} (hG : G.In w) (q : Query) (cq : List Value) (hcq : QryE.rep G q cq) (hn : Xx q n),CL Tryz.prog (nat_lit 45) #[.agg cq.toArray] [] w G fun G' _ r=>Is QryE G' r q:=by
 induction n
 ·intro G w hG q cq hcq hn; exact (Q9 hn).elim
 rename_i n ih
 intro G w hG q cq hcq hn
 refine YA ft [] Tryz.func45 V V ?_
 have hS:=St.start (X:=[]) hG
 have T1:=Ze hcq
 obtain ⟨v1,v2,v3,v4,rfl,B1,B2,A1,A2,B3,B4,B5,B6,B7,ZK,A3,hb9,Z9,Z7,Z6,A4⟩:=T1
 refine WL.box (QV q v1 v2 v3 v4) _ hS V V V (fun b1 w1 N1 S1=>?_)
 refine WL.alloc S1 Zg V V (fun b2 w2 N2 S2=>?_)
 refine dr [(2,true),(5,true),(8,false),(10,false),(12,false),(14,false)] [(7,v1),(10,v2),(13, .agg (CV q.cond v3).toArray)] S2 ⟨fun _ hSw=>ZT hSw 1 _ _ _ 2 _ V V ZU V V V <| nu V V,fun _ hSw=>ZT hSw 1 _ _ _ 3 _ V V ZU V V V <| nu V V,fun _ hSw=>Zs hSw 1 _ _ _ 4 (CV q.cond v3) V V V Z5 V V V <| nu V V,trivial⟩ (fun w3 S3=>?_)
 refine XG ZaB V V V (Zft S3.imm q.cols _ A1) (fun w4 G1 r1 hres1 P1=>?_)
 have S4:=S3.call hres1
 have L1:=hres1.le
 obtain ⟨o1,R1,hf1⟩:=P1
 have S5:=S3.adoptO hres1 hf1
 refine ⟨S5.tail.down S3.le L1,?_⟩
 refine XG ZaB V V V (Zft S5.imm q.names _ (A2.mono L1)) (fun w5 G2 r2 hres2 P2=>?_)
 have S6:=S5.call hres2
 have L2:=hres2.le
 obtain ⟨o2,R2,hf2⟩:=P2
 have S7:=S5.adoptO hres2 hf2
 have j1:=(L1.trans L2)
 refine ⟨S7.tail.tail.down S3.le j1,?_⟩
 refine Zv S7 Zal V V V (Zmh (n + 1) S7.imm q.cond _ (ZJ q.cond B3 B4 B5 B6 B7 ZK (A3.mono j1)) (Zbs hn)) (fun w6 G3 r3 P3 S8 L3=>?_)
 obtain ⟨D1,rfl,R3⟩:=P3
 have T2:=ZO R3
 obtain ⟨v5,rfl,ZV,Ye,Yd,B16,B17,Yf,A5⟩:=T2
 have j2:=(L2.trans L3)
 refine WL.store S8 3 _ _ _ 2 _ [r1] (QV q r1 v2 v3 v4) _ V (R1.mono j2).cells1 ZU V (ZN V) (by simp only [ZW,(R1.mono j2).oneC] <;> rfl) V V V V V (fun w7 S9=>?_)
 refine WL.store S9 3 _ _ _ 3 _ [r2] (QV q r1 r2 v3 v4) _ V (R2.mono L3).cells1 ZU V (ZN V) (by simp only [ZW,(R2.mono L3).oneC] <;> rfl) V V V V V (fun w9 S10=>?_)
 refine WL.store S10 3 _ _ _ 4 _ (CV q.cond v5) (QV q r1 r2 v5 v4) _ V V Z5 V (ZN V) (by simp only [ZW,A5.oneC] <;> rfl) V V V V V (fun w10 S11=>?_)
 refine ZT S11 3 _ _ _ 15 _ V V ZX V V V ?_
 have V1:=A4.bound
 refine Zl (A4.mono (j1.trans L3)) ZS V V ?_
 have S13:=S11.pad
 refine LP.go ft [] (fun m ρ1 w1=>∃ (k1 : Nat),∃ (v6 : Value) (o3 : OB),∃ (G4 : GH),m = q.l.length - k1 ∧ G3.le G4 ∧ St w [] G G4 [o3,o2,o1,some (b2,32,[U 0,Zb [],Zh,Zh,U 0,Zb [],Zb [],U 0,U 0,Zb [],Zh,U 0,U 0,U 0,U 0,Zh]),some (b1,32,(QV q r1 r2 v5 v4))] w1 ∧ YH QryE 224 32 G4 v6 (q.l.take k1) o3 ∧ FR ρ1 [(1, .pointer (some ⟨b1,0,none⟩)),(2, .pointer (some ⟨b2,0,none⟩)),(3,v6),(19,v4),(20,U (q.l.length : Int)),(21,U (k1 : Int))] ∧ k1 ≤ q.l.length) _ ⟨0,(Zh),none,G3,V,(G3.le_refl),S13,(YH.cast (YH.nil QryE 224 32 G3) (by simp)),(Yt V),(by omega)⟩ ?_
 rintro m ρ1 w11 ⟨k1,v6,o3,G4,rfl,L4,S12,R4,F9,f1⟩
 refine F9.set ?_
 clear F9
 have hlt9:=List.length_take_le' k1 q.l
 refine Z1 (k1 : Int) (q.l.length : Int) V V V (fun h1=>?_) (fun h1=>?_)
 ·refine WL.indexAddr (A4.mono ((j1.trans L3).trans L4)) k1 (by omega) ZS Zg V V V V (fun p1 x1 U1 E1=>?_)
  obtain ⟨D2,C1,R5⟩:=E1
  have T3:=Ze R5
  obtain ⟨v7,v9,v10,v11,rfl,B19,B20,A6,A7,B21,B22,B23,B24,X6,B26,A8,B27,B28,B29,B30,A9⟩:=T3
  refine Zc S12 C1 (QV x1 v7 v9 v10 v11) Zg V V V V V ?_
  refine WL.alloc S12 Zg V V (fun b3 w12 N3 S14=>?_)
  refine WL.store S14 0 _ _ _ 0 _ (QV x1 v7 v9 v10 v11) (QV x1 v7 v9 v10 v11) _ V V Zg V (ZN V) (by simp only [ZW,A6.oneC,A7.oneC,A8.oneC,A9.oneC] <;> rfl) V V V V V (fun w13 S15=>?_)
  have T4:=S15.shutB N3
  obtain ⟨G5,L5,C2,S16⟩:=T4
  refine Zc S16 C2 (QV x1 v7 v9 v10 v11) Zg V V V V V ?_
  refine Zv S16 Zad V V V (ih S16.imm x1 _ (Zd x1 B19 B20 (A6.mono L5) (A7.mono L5) B21 B22 B23 B24 X6 B26 (A8.mono L5) B27 B28 B29 B30 (A9.mono L5)) (Yp hn (List.mem_of_getElem? ‹_›))) (fun w14 G6 r4 P4 S17 L6=>?_)
  obtain ⟨D3,rfl,R6⟩:=P4
  have T5:=Ze R6
  obtain ⟨v12,v13,v14,v15,rfl,B31,B32,A10,A11,B33,XM,B35,B36,B37,B38,A12,Qj,Qk,XN,Qo,A13⟩:=T5
  refine WL.buildSlice _ [(0,(QV x1 v12 v13 v14 v15))] (QV x1 v12 v13 v14 v15) S17 YL V V V V (fun z hz=>by match z,hz with | [z0,z1,z2,z3,z4,z5,z6,z7,z8,z9,z10,z11,z12,z13,z14,z15],_=>rfl) (fun b4 w15 N4 S18=>?_)
  refine WL.push (m:=([x1] : List Query)) YL V V V (R4.mono (L5.trans L6)) S18 1 V 0 _ _ _ _ _ V ⟨(QV x1 v12 v13 v14 v15),_,V,(Zd x1 B31 B32 A10 A11 B33 XM B35 B36 B37 B38 A12 Qj Qk XN Qo A13),V⟩ V (by have:=Zm; have hby9:=(by assumption : Sl QryE 224 G _ q.l).bytes; simp only [List.length_append,List.length_map,List.length_take,List.length_cons,List.length_nil]; omega) (by have:=Zm; have hby9:=(by assumption : Sl QryE 224 G _ q.l).bytes; simp only [List.length_append,List.length_map,List.length_take,List.length_cons,List.length_nil]; omega) V V V (fun v16 o4 w16 R7 S19=>?_)
  have S20:=S19.tail
  refine ZC k1 (by have:=Zm; omega) V V V ?_
  exact BK.mk' _ ⟨k1 + 1,v16,o4,G6,V,(L4.trans (L5.trans L6)),S20,(YH.cast R7 (by (rw [List.take_add_one,(by assumption : q.l[k1]? = some _)]; rfl))),(Yt V),(by omega)⟩ (show q.l.length - (k1 + 1) < q.l.length - k1 by omega)
 refine WL.store S12 4 _ _ _ 15 _ [v6] (QV q r1 r2 v5 v6) _ V R4.cells1 ZX V (ZN V) (by simp only [ZW,R4.oneC] <;> rfl) V V V V V (fun w17 S21=>?_)
 refine Zs S21 4 _ _ _ 0 (QV q r1 r2 v5 v6) V V V Zg V V V ?_
 refine WL.store S21 3 _ _ _ 0 _ (QV q r1 r2 v5 v6) (QV q r1 r2 v5 v6) _ V V Zg V (ZN V) (by simp only [ZW,(R1.mono (j2.trans L4)).oneC,(R2.mono (L3.trans L4)).oneC,(A5.mono L4).oneC,R4.oneC] <;> rfl) V V V V V (fun w18 S22=>?_)
 have T6:=S22.sealAt 3 V N2
 obtain ⟨G7,L7,C3,S23⟩:=T6
 have T7:=YH.freeze (R1.mono ((j2.trans L4).trans L7)) S23 2 V
 obtain ⟨G9,L9,A14,S24⟩:=T7
 have T8:=YH.freeze (R2.mono (((L3.trans L4).trans L7).trans L9)) S24 1 V
 obtain ⟨G10,L10,A15,S25⟩:=T8
 have T9:=YH.freeze (R4.mono ((L7.trans L9).trans L10)) S25 0 V
 obtain ⟨G11,L11,A16,S26⟩:=T9
 exact YD [.agg (QV q r1 r2 v5 v6).toArray] S26 ⟨_,_,_,V,V,S26.loadC (C3.mono ((L9.trans L10).trans L11)) Zg V V,V⟩ (Is.cast ⟨_,V,(Zd (Query.mk q.kind q.table q.cols q.names q.cond q.rel q.fn q.span (q.l.take k1)) B1 B2 (A14.mono (L10.trans L11)) (A15.mono L11) ZV Ye Yd B16 B17 Yf (A5.mono ((((L4.trans L7).trans L9).trans L10).trans L11)) hb9 Z9 Z7 Z6 A16)⟩ (by (rw [List.take_of_length_le (by omega)]; exact Zqo q)))
end Go.Civ
set_option linter.unusedVariables false
set_option maxRecDepth 100000
set_option maxHeartbeats 4000000
namespace Go.Civ
open Go.Proofs Go.RowKit
theorem tiY : Y3 Tryz.prog (nat_lit 113) = some ⟨false,1,8, .nilFunc⟩:=by kernel_rfl
theorem tiV : Y3 Tryz.prog (nat_lit 178) = some ⟨false,1,8, .nilFunc⟩:=by kernel_rfl
theorem hbV : Zq Tryz.prog 338:=Zi Tryz.func338 (by kernel_rfl) rfl
theorem hbS : Zq Tryz.prog 337:=Zi Tryz.func337 (by kernel_rfl) rfl
abbrev us1 (c : Cond) : List Str:=if c.col = [] then [] else [c.col]
theorem ZrL {s : Str} (h : SCmp.b .neq s [] = true) : ¬ s = []:=by simpa [SCmp.b] using h
theorem ZrM {s : Str} (h : SCmp.b .neq s [] = false) : s = []:=by simpa [SCmp.b] using h
theorem ZoW {l N B m : Nat} {J Jx : List Str → World → Prop} (hJ : ∀ s A A',J s A → Kept [] A A' → J s A')
  (hY : ∀ pre x W1,J pre W1 → pre.length < N → YieldAt Fence.wide m Tryz.prog l #[Zb x] W1 fun e W'=>(e = .returned (.bool true) ∧ J (pre ++ [x]) W' ∧ KB B W1 W') ∨ (e = .returned (.bool false) ∧ Jx (pre ++ [x]) W')) :
  ∀ (n : Nat) (c : Cond) (G : GH) (w : World) (pre : List Str) (cc : List Value) (py pv : Addr),Xn c n → CndE.rep G c cc → G.In w → GB B G → YC G py [.func (.yield l) #[] #[]] → YC G pv [.func (.func 338) #[] #[.pointer (some py), .pointer (some pv)]] → J pre w → pre.length + (Yy n c).length ≤ N →
   Calls Tryz.prog 338 #[.agg cc.toArray, .pointer (some py), .pointer (some pv)] w fun e w'=>(e = .returned (.bool true) ∧ J (pre ++ Yy n c) w' ∧ KB B w w') ∨ (e = .returned (.bool false) ∧ ∃ q,q <+: Yy n c ∧ Jx (pre ++ q) w'):=by
 intro n
 induction n with
 | zero=>intro c G w pre cc py pv hn; exact (XC hn).elim
 | succ n ih=>
  intro c G w pre cc py pv hn hc hG hB hpy hpv h0 hN
  obtain ⟨lv,rfl,b1,b2,b3,b4,b5,b6,hl⟩:=ZO hc
  refine Zb5 Tryz.func338 rfl rfl rfl (WY.wc ?_)
  have hS:=St.start (X:=[]) hG
  have hul:=Zs4 (n:=n) (c:=c)
  refine WY.seq <| WY.region ?_
  refine WI.op rfl (fun _ h=>nomatch h) (Zlz [.int .i64 c.kind,Zb c.col,Zb c.oth, .int .i64 c.v.k, .int .i64 c.v.n,Zb c.v.s,lv] _ hS hB rfl rfl rfl (fun p1 w1 G1 hle1 hsp1 hc1 hB1 hS1=>?_))
  refine WI.op rfl (fun _ h=>nomatch h) (WL.assign rfl ?_)
  refine WI.nil ?_
  have hk1 : KB B w w1:=hS1.kept.kb
  have hJ1:=hJ _ _ _ h0 hS1.kept
  refine WY.seq ?_
  refine WY.cut (fun ρ' w2=>FR ρ' [(1, .pointer (some py)),(2, .pointer (some pv)),(3, .pointer (some p1))] ∧ ((ρ' 28 = .bool false ∧ J (pre ++ X8 c) w2 ∧ G1.In w2 ∧ KB B w w2) ∨ (ρ' 28 = .bool true ∧ ∃ q,q <+: Yy (n + 1) c ∧ Jx (pre ++ q) w2))) ?_ ?_
  ·refine WY.region ?_
   refine WI.cutAt 11 (fun ρ' w2=>FR ρ' [(1, .pointer (some py)),(2, .pointer (some pv)),(3, .pointer (some p1))] ∧ ((ρ' 17 = .bool false ∧ J (pre ++ us1 c) w2 ∧ G1.In w2 ∧ KB B w w2) ∨ (ρ' 17 = .bool true ∧ ∃ q,q <+: Yy (n + 1) c ∧ Jx (pre ++ q) w2))) ?_ ?_
   ·refine WI.op rfl (fun _ h=>nomatch h) (WL.fieldAddr p1 1 0 ZfE rfl rfl rfl ?_)
    refine WI.op rfl (fun _ h=>nomatch h) (Za hS1 (YC.drop 1 hc1) Zy rfl rfl rfl ?_)
    refine WI.op rfl (fun _ h=>nomatch h) (Zn .neq rfl c.col [] rfl rfl rfl ?_)
    cases hcol : SCmp.b .neq c.col [] with
    | false=>
     have e:=ZrM hcol
     refine WI.op rfl (fun _ h=>nomatch h) (WL.move rfl ?_)
     refine WI.op rfl (fun _ h=>nomatch h) (WL.no rfl rfl ?_)
     refine WI.op rfl (fun _ h=>nomatch h) (WL.no rfl rfl ?_)
     refine WI.op rfl (fun _ h=>nomatch h) (WL.no rfl rfl ?_)
     refine WI.op rfl (fun _ h=>nomatch h) (WL.no rfl rfl ?_)
     refine WI.op rfl (fun _ h=>nomatch h) (WL.no rfl rfl ?_)
     refine WI.op rfl (fun _ h=>nomatch h) (Zbe rfl rfl ?_)
     refine WI.op rfl (fun _ h=>nomatch h) (WL.move rfl ?_)
     exact WI.nil ⟨rfl,⟨rfl,rfl,rfl,trivial⟩, .inl ⟨rfl,by rw [us1,if_pos e,List.append_nil]; exact hJ1,hS1.imm,hk1⟩⟩
    | true=>
     have e:=ZrL hcol
     refine WI.op rfl (fun _ h=>nomatch h) (WL.move rfl ?_)
     refine WI.op rfl (fun _ h=>nomatch h) (Za hS1 (hpy.mono hle1) tiY rfl rfl rfl ?_)
     refine WI.op rfl (fun _ h=>nomatch h) (WL.fieldAddr p1 1 0 ZfE rfl rfl rfl ?_)
     refine WI.op rfl (fun _ h=>nomatch h) (Za hS1 (YC.drop 1 hc1) Zy rfl rfl rfl ?_)
     have hlen : pre.length < N:=by
      have : 1 ≤ (X8 c).length:=by unfold X8; rw [if_neg e]; simp
      omega
     refine WI.yield rfl rfl rfl rfl (hY pre c.col w1 hJ1 hlen) ?_
     rintro e' w2 (⟨rfl,hj,hk⟩ | ⟨rfl,hj⟩)
     ·refine ⟨_,rfl,?_⟩
      refine WI.op rfl (fun _ h=>nomatch h) (WL.not true rfl rfl ?_)
      refine WI.op rfl (fun _ h=>nomatch h) (WL.pickT rfl rfl ?_)
      refine WI.op rfl (fun _ h=>nomatch h) (WL.move rfl ?_)
      exact WI.nil ⟨rfl,⟨rfl,rfl,rfl,trivial⟩, .inl ⟨rfl,by rw [us1,if_neg e]; exact hj,hk.imm hS1.imm hB1,hk1.trans hk⟩⟩
     ·refine ⟨_,rfl,?_⟩
      refine WI.op rfl (fun _ h=>nomatch h) (WL.not false rfl rfl ?_)
      refine WI.op rfl (fun _ h=>nomatch h) (WL.pickT rfl rfl ?_)
      refine WI.op rfl (fun _ h=>nomatch h) (WL.move rfl ?_)
      exact WI.nil ⟨rfl,⟨rfl,rfl,rfl,trivial⟩, .inr ⟨rfl,[c.col],by rw [Yy,X8,if_neg e]; simp,hj⟩⟩
   ·rintro ρ' w2 ⟨hF,hcase⟩
    rcases hcase with ⟨h17,hj,hG2,hk2⟩ | ⟨h17,hx⟩
    ·refine WI.set (l:=[(17, .bool false),(1, .pointer (some py)),(2, .pointer (some pv)),(3, .pointer (some p1))]) ⟨h17,hF⟩ ?_
     have hS2:=St.start (X:=[]) hG2
     refine WI.op rfl (fun _ h=>nomatch h) (WL.fieldAddr p1 2 0 ZfE rfl rfl rfl ?_)
     refine WI.op rfl (fun _ h=>nomatch h) (Za hS2 (YC.drop 2 hc1) Zy rfl rfl rfl ?_)
     refine WI.op rfl (fun _ h=>nomatch h) (Zn .neq rfl c.oth [] rfl rfl rfl ?_)
     cases hoth : SCmp.b .neq c.oth [] with
     | false=>
      have e:=ZrM hoth
      refine WI.op rfl (fun _ h=>nomatch h) (WL.move rfl ?_)
      refine WI.op rfl (fun _ h=>nomatch h) (WL.no rfl rfl ?_)
      refine WI.op rfl (fun _ h=>nomatch h) (WL.no rfl rfl ?_)
      refine WI.op rfl (fun _ h=>nomatch h) (WL.no rfl rfl ?_)
      refine WI.op rfl (fun _ h=>nomatch h) (WL.no rfl rfl ?_)
      refine WI.op rfl (fun _ h=>nomatch h) (WL.no rfl rfl ?_)
      refine WI.op rfl (fun _ h=>nomatch h) (Zbe rfl rfl ?_)
      refine WI.op rfl (fun _ h=>nomatch h) (Zbe rfl rfl ?_)
      exact WI.nil ⟨rfl,⟨rfl,rfl,rfl,trivial⟩, .inl ⟨rfl,by rw [X8,if_pos e,List.append_nil]; exact hj,hG2,hk2⟩⟩
     | true=>
      have e:=ZrL hoth
      refine WI.op rfl (fun _ h=>nomatch h) (WL.move rfl ?_)
      refine WI.op rfl (fun _ h=>nomatch h) (Za hS2 (hpy.mono hle1) tiY rfl rfl rfl ?_)
      refine WI.op rfl (fun _ h=>nomatch h) (WL.fieldAddr p1 2 0 ZfE rfl rfl rfl ?_)
      refine WI.op rfl (fun _ h=>nomatch h) (Za hS2 (YC.drop 2 hc1) Zy rfl rfl rfl ?_)
      have hlen : (pre ++ us1 c).length < N:=by
       have : (us1 c).length + 1 ≤ (X8 c).length:=by unfold X8; rw [if_neg e]; simp [us1]
       rw [List.length_append]; omega
      refine WI.yield rfl rfl rfl rfl (hY _ c.oth w2 hj hlen) ?_
      rintro e' w3 (⟨rfl,hj3,hk⟩ | ⟨rfl,hj3⟩)
      ·refine ⟨_,rfl,?_⟩
       refine WI.op rfl (fun _ h=>nomatch h) (WL.not true rfl rfl ?_)
       refine WI.op rfl (fun _ h=>nomatch h) (WL.pickT rfl rfl ?_)
       refine WI.op rfl (fun _ h=>nomatch h) (Zbe rfl rfl ?_)
       exact WI.nil ⟨rfl,⟨rfl,rfl,rfl,trivial⟩, .inl ⟨rfl,by rw [X8,if_neg e,← List.append_assoc]; exact hj3,hk.imm hG2 hB1,hk2.trans hk⟩⟩
      ·refine ⟨_,rfl,?_⟩
       refine WI.op rfl (fun _ h=>nomatch h) (WL.not false rfl rfl ?_)
       refine WI.op rfl (fun _ h=>nomatch h) (WL.pickT rfl rfl ?_)
       refine WI.op rfl (fun _ h=>nomatch h) (Zbe rfl rfl ?_)
       exact WI.nil ⟨rfl,⟨rfl,rfl,rfl,trivial⟩, .inr ⟨rfl,us1 c ++ [c.oth],by rw [Yy,X8,if_neg e]; exact List.prefix_append _ _,by rw [← List.append_assoc]; exact hj3⟩⟩
    ·refine WI.set (l:=[(17, .bool true),(1, .pointer (some py)),(2, .pointer (some pv)),(3, .pointer (some p1))]) ⟨h17,hF⟩ ?_
     iterate 10 refine WI.op rfl (fun _ h=>nomatch h) (WL.no rfl rfl ?_)
     refine WI.op rfl (fun _ h=>nomatch h) (WL.pickT rfl rfl ?_)
     exact WI.nil ⟨rfl,⟨rfl,rfl,rfl,trivial⟩, .inr ⟨rfl,hx⟩⟩
  ·rintro ρ' w2 ⟨hF,hcase⟩
   rcases hcase with ⟨h28,hj,hG2,hk2⟩ | ⟨h28,q,hq,hx⟩
   ·refine WY.condF h28 (WY.skip ?_)
    refine WY.set (l:=[(1, .pointer (some py)),(2, .pointer (some pv)),(3, .pointer (some p1))]) hF ?_
    have hS2:=St.start (X:=[]) hG2
    have hbd:=hl.bound
    have hreach : reach = 140737488355328:=rfl
    refine WY.seq <| WY.seq <| WY.region ?_
    refine WI.op rfl (fun _ h=>nomatch h) (WL.fieldAddr p1 6 0 ZfE rfl rfl rfl ?_)
    refine WI.op rfl (fun _ h=>nomatch h) (Za hS2 (YC.drop 6 hc1) Y0 rfl rfl rfl ?_)
    refine WI.op rfl (fun _ h=>nomatch h) (Zl (hl.mono hle1) Y2 rfl rfl ?_)
    refine WI.op rfl (fun _ h=>nomatch h) (WL.move rfl ?_)
    refine WI.nil <| WY.block <| WY.loop (γ:=Nat) (fun k ρ' w'=>FR ρ' [(1, .pointer (some py)),(2, .pointer (some pv)),(3, .pointer (some p1)),(30,lv),(31, .int .i64 (c.l.length : Int)),(32, .int .i64 (k : Int))] ∧ k ≤ c.l.length ∧ J (pre ++ (X8 c ++ ((c.l.take k).map (Yy n)).flatten)) w' ∧ G1.In w' ∧ KB B w w') (fun k=>c.l.length - k) 0
     ⟨⟨rfl,rfl,rfl,rfl,rfl,rfl,trivial⟩,Nat.zero_le _,by simpa using hj,hG2,hk2⟩ ?_
    rintro k ρ' w' ⟨hF,hk,hj,hG',hkb⟩
    refine WY.set hF ?_
    have hS3:=St.start (X:=[]) hG'
    have hul2:=@Zcp n (k + 1) c
    refine WY.seq <| WY.region ?_
    refine WI.op rfl (fun _ h=>nomatch h) (Z1 (k : Int) (c.l.length : Int) rfl rfl rfl (fun h=>?_) (fun h=>?_))
    ·refine WI.nil <| WY.seq <| WY.condT rfl <| WY.skip <| WY.seq <| WY.block <| WY.seq <| WY.region ?_
     refine WI.op rfl (fun _ h=>nomatch h) (WL.indexAddr (hl.mono hle1) k (by omega) Y2 Z5 rfl rfl rfl rfl (fun p2 x1 hx1 he1=>?_))
     obtain ⟨cs1,hcs1,hr1⟩:=he1
     obtain ⟨lv1,rfl,d1,d2,d3,d4,d5,d6,hl1⟩:=ZO hr1
     refine WI.op rfl (fun _ h=>nomatch h) (Zc hS3 hcs1 [.int .i64 x1.kind,Zb x1.col,Zb x1.oth, .int .i64 x1.v.k, .int .i64 x1.v.n,Zb x1.v.s,lv1] Z5 rfl rfl rfl rfl rfl ?_)
     refine WI.op rfl (fun _ h=>nomatch h) (WL.alloc hS3 Z5 rfl rfl (fun b3 w3 hn3 hS4=>?_))
     refine WI.op rfl (fun _ h=>nomatch h) (WL.store hS4 0 _ _ _ 0 _ [.int .i64 x1.kind,Zb x1.col,Zb x1.oth, .int .i64 x1.v.k, .int .i64 x1.v.n,Zb x1.v.s,lv1] [.int .i64 x1.kind,Zb x1.col,Zb x1.oth, .int .i64 x1.v.k, .int .i64 x1.v.n,Zb x1.v.s,lv1] _ rfl rfl Z5 rfl (Nat.le_of_ble_eq_true rfl) (by simp only [List.all_cons,List.all_nil,hl1.oneC,Bool.true_and] <;> rfl) rfl rfl rfl rfl rfl (fun w4 hS5=>?_))
     obtain ⟨G2,hle2,hc2,hB2,hS6⟩:=St.shutK hS5 hn3 hB1
     refine WI.nil <| WY.seq <| WY.region ?_
     refine WI.op rfl (fun _ h=>nomatch h) (Za hS6 (hpv.mono (hle1.trans hle2)) tiV rfl rfl rfl ?_)
     refine WI.op rfl (fun _ h=>nomatch h) (Zc hS6 hc2 [.int .i64 x1.kind,Zb x1.col,Zb x1.oth, .int .i64 x1.v.k, .int .i64 x1.v.n,Zb x1.v.s,lv1] Z5 rfl rfl rfl rfl rfl ?_)
     have hm:=List.mem_of_getElem? hx1
     have hj4:=hJ _ _ _ hj hS6.kept
     rw [XY (n:=n) hx1,List.length_append] at hul2
     have ht:=XY (n:=n) hx1
     have hcall:=ih x1 G2 w4 _ _ py pv (YR hn hm) (CndE.mono hle2 hr1) hS6.imm hB2 (hpy.mono (hle1.trans hle2)) (hpv.mono (hle1.trans hle2)) hj4 (by rw [List.length_append]; omega)
     refine WI.op rfl (fun _ h=>nomatch h) (XJ _ _ hbV rfl rfl rfl (hcall.mono ?_))
     rintro e' w5 (⟨rfl,hj5,hk5⟩ | ⟨rfl,q,hq,hx⟩)
     ·refine ⟨_,rfl,?_⟩
      refine WI.op rfl (fun _ h=>nomatch h) (WL.not true rfl rfl ?_)
      refine WI.nil <| WY.condF rfl <| WY.skip <| WY.region ?_
      refine WI.op rfl (fun _ h=>nomatch h) (ZC k (by omega) rfl rfl rfl ?_)
      refine WI.op rfl (fun _ h=>nomatch h) (WL.move rfl ?_)
      exact WI.nil ⟨k + 1,⟨⟨rfl,rfl,rfl,rfl,rfl,rfl,trivial⟩,by omega,by rw [ht,← List.append_assoc]; exact hj5,fun b o hb=>hk5.imm hS6.imm hB2 b o (hle2 b o hb),hkb.trans (hS6.kept.kb.trans hk5)⟩,by omega⟩
     ·refine ⟨_,rfl,?_⟩
      refine WI.op rfl (fun _ h=>nomatch h) (WL.not false rfl rfl ?_)
      refine WI.nil <| WY.condT rfl <| WY.seq <| WY.region ?_
      refine WI.op rfl (fun _ h=>nomatch h) (WL.assign rfl ?_)
      refine WI.nil <| WY.ret ⟨_,rfl, .inr ⟨rfl,X8 c ++ ((c.l.take k).map (Yy n)).flatten ++ q,?_,by rw [← List.append_assoc]; exact hx⟩⟩
      have e2 : (c.l.map (Yy n)).flatten = ((c.l.take (k + 1)).map (Yy n)).flatten ++ ((c.l.drop (k + 1)).map (Yy n)).flatten:=by
       rw [← List.flatten_append,← List.map_append,List.take_append_drop]
      rw [Yy,e2,← List.append_assoc,ht]
      exact ((List.prefix_append_right_inj _).2 hq).trans (List.prefix_append _ _)
    ·refine WI.nil <| WY.seq <| WY.condF rfl <| WY.exit ?_
     refine WY.seq <| WY.region ?_
     refine WI.op rfl (fun _ h=>nomatch h) (WL.assign rfl ?_)
     refine WI.nil <| WY.ret ⟨_,rfl, .inl ⟨rfl,?_,hkb⟩⟩
     rw [ZeR (k:=k) (by omega)] at hj
     exact hj
   ·refine WY.condT h28 (WY.seq <| WY.region ?_)
    refine WI.op rfl (fun _ h=>nomatch h) (WL.assign rfl ?_)
    exact WI.nil (WY.ret ⟨_,rfl, .inr ⟨rfl,q,hq,hx⟩⟩)
end Go.Civ
