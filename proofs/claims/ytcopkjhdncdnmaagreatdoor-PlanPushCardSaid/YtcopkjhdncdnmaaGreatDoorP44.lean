/- Lemmas. -/
import Derived.Test.YtcopkjhdncdnmaaGreatDoorP43
set_option linter.unusedVariables false
set_option linter.unusedSimpArgs false
set_option maxRecDepth 100000
set_option maxHeartbeats 4000000
namespace Go.Civ
open Go.Proofs
theorem Zg7 {G : GH} {w : World} (hG : G.In w) (s : List UInt8) (qcols qnames : List (List UInt8)) (z1 z2 z3 z4 z5 z6 z7 z8 : Int) (y1 y2 y3 y4 : List UInt8) (vqc : Value) (hvqc : Sl Enc.str 16 G vqc qcols) (vqn : Value) (hvqn : Sl Enc.str 16 G vqn qnames) (vr1 : Value) (vr2 : Value) (pq : Addr) (hpq : YC G pq [U z1,Zb y1,vqc,vqn,U z2,Zb y2,Zb y3,U z3,U z4,Zb y4,vr1,U z5,U z6,U z7,U z8,vr2]) (hnn : qnames.length = qcols.length) : CL Tryz.prog (nat_lit 280) #[Zb s,Zu pq] [] w G fun _ _ r=>r = Zb (Q3 qcols qnames s):=by
 refine Zo ft [] Tryz.func280 V V ?_
 have hS:=St.start (X:=[]) hG
 refine Za hS (YC.drop 3 hpq) ZU V V V ?_
 refine Zw hS Zcg V V V (ZfG hS.imm qnames s _ hvqn) (fun w1 G1 S1 L1=>?_)
 refine Y9 (YT qnames s) 0 V V V (fun h1=>?_) (fun h1=>?_)
 ·refine Zn .neq V s [] V V V ?_
  refine WL.split (fun h0=>?_) (fun h0=>?_)
  ·have h2 : s ≠ []:=by simpa [SCmp.b] using h0
   clear h0
   refine Za S1 (YC.drop 2 (hpq.mono L1)) ZU V V V ?_
   refine WL.indexAddr (hvqc.mono L1) (((YT qnames s)).toNat) (by (have:=Zcy (by assumption : 0 ≤ YT qnames _); omega)) Yo Zy V V V (congrArg (Value.int .i64) (Int.toNat_of_nonneg (by omega)).symm) (fun p1 x1 U1 E1=>?_)
   obtain ⟨D1,C1,R1⟩:=E1
   obtain ⟨rfl,B1⟩:=R1
   refine Za S1 C1 Zy V V V ?_
   exact RT S1 V (congrArg Zb (by exact Ztz ‹_› ‹_› ‹_›))
  have h2 : s = []:=by simpa [SCmp.b] using h0
  clear h0
  exact RT S1 V (congrArg Zb (by exact Zs5 ‹_›))
 exact RT S1 V (congrArg Zb (by exact Zs6 (by omega)))
theorem Zmw (n : Nat) : ∀ {G : GH} {w : World} (hG : G.In w) (c : Cond) (q : Query) (cc : List Value) (hcc : CndE.rep G c cc) (cq : List Value) (hcq : QryE.rep G q cq) (hn : Xn c n) (hnn : q.names.length = q.cols.length),CL Tryz.prog (nat_lit 203) #[.agg cc.toArray, .agg cq.toArray] [] w G fun G' _ r=>Is CndE G' r (Zz n c q):=by
 induction n
 ·intro G w hG c q cc hcc cq hcq hn hnn; exact (XC hn).elim
 rename_i n ih
 intro G w hG c q cc hcc cq hcq hn hnn
 refine YA ft [] Tryz.func203 V V ?_
 have hS:=St.start (X:=[]) hG
 have T1:=ZO hcc
 obtain ⟨v1,rfl,B1,B2,B3,B4,B5,B6,A1⟩:=T1
 have T2:=Ze hcq
 obtain ⟨v2,v3,v4,v5,rfl,B7,ZK,A2,A3,hb9,Z9,Z7,Z6,ZV,Ye,A4,Yd,B16,B17,Yf,A5⟩:=T2
 refine WL.box [U c.kind,Zb c.col,Zb c.oth,U c.v.k,U c.v.n,Zb c.v.s,v1] _ hS V V V (fun b1 w1 N1 S1=>?_)
 refine ZL [U q.kind,Zb q.table,v2,v3,U q.cond.kind,Zb q.cond.col,Zb q.cond.oth,U q.cond.v.k,U q.cond.v.n,Zb q.cond.v.s,v4,U q.rel,U q.fn,U q.span.a,U q.span.b,v5] _ S1 V V V (fun p1 w2 G1 L1 M1 C1 S2=>?_)
 refine WL.alloc S2 Z5 V V (fun b2 w3 N2 S3=>?_)
 refine dr [(9,false),(11,false)] [(12,Zb c.col),(13,Zb (Q3 q.cols q.names c.col)),(16,Zb c.oth),(17,Zb (Q3 q.cols q.names c.oth))] S3 ⟨fun _ hSw=>ZT hSw 1 _ _ _ 1 _ V V Zy V V V <| nu V V,fun _ hSw=>YS hSw ZcC V V V (Zg7 hSw.imm c.col q.cols q.names q.kind q.cond.kind q.cond.v.k q.cond.v.n q.rel q.fn q.span.a q.span.b q.table q.cond.col q.cond.oth q.cond.v.s _ (A2.mono L1) _ (A3.mono L1) _ _ _ C1 hnn) V,fun _ hSw=>ZT hSw 1 _ _ _ 2 _ V V Zy V V V <| nu V V,fun _ hSw=>YS hSw ZcC V V V (Zg7 hSw.imm c.oth q.cols q.names q.kind q.cond.kind q.cond.v.k q.cond.v.n q.rel q.fn q.span.a q.span.b q.table q.cond.col q.cond.oth q.cond.v.s _ (A2.mono L1) _ (A3.mono L1) _ _ _ C1 hnn) V,trivial⟩ (fun w4 S4=>?_)
 refine WL.store S4 1 _ _ _ 1 _ [Zb (Q3 q.cols q.names c.col)] [U c.kind,Zb (Q3 q.cols q.names c.col),Zb c.oth,U c.v.k,U c.v.n,Zb c.v.s,v1] _ V V Zy V (ZN V) V V V V V V (fun w5 S5=>?_)
 refine WL.store S5 1 _ _ _ 2 _ [Zb (Q3 q.cols q.names c.oth)] [U c.kind,Zb (Q3 q.cols q.names c.col),Zb (Q3 q.cols q.names c.oth),U c.v.k,U c.v.n,Zb c.v.s,v1] _ V V Zy V (ZN V) V V V V V V (fun w6 S6=>?_)
 refine ZT S6 1 _ _ _ 6 _ V V Y0 V V V ?_
 have V1:=A1.bound
 refine Zl (A1.mono L1) Y2 V V ?_
 have S8:=S6.pad
 refine LP.go ft [] (fun m ρ1 w1=>∃ (k1 : Nat),∃ (v6 : Value) (o1 : OB),∃ (G2 : GH),m = c.l.length - k1 ∧ G1.le G2 ∧ St w [] G G2 [o1,some (b2,27,[U 0,Zb [],Zb [],U 0,U 0,Zb [],Zh]),some (b1,27,[U c.kind,Zb (Q3 q.cols q.names c.col),Zb (Q3 q.cols q.names c.oth),U c.v.k,U c.v.n,Zb c.v.s,v1])] w1 ∧ YH CndE 96 27 G2 v6 ((c.l.take k1).map fun x=>Zz n x q) o1 ∧ FR ρ1 [(2, .pointer (some ⟨b1,0,none⟩)),(3,Zu p1),(4, .pointer (some ⟨b2,0,none⟩)),(6,v6),(21,v1),(22,U (c.l.length : Int)),(23,U (k1 : Int))] ∧ k1 ≤ c.l.length) _ ⟨0,(Zh),none,G1,V,(G1.le_refl),S8,(YH.cast (YH.nil CndE 96 27 G1) (by simp)),(Yt V),(by omega)⟩ ?_
 rintro m ρ1 w7 ⟨k1,v6,o1,G2,rfl,L2,S7,R1,F9,f1⟩
 refine F9.set ?_
 clear F9
 refine Z1 (k1 : Int) (c.l.length : Int) V V V (fun h1=>?_) (fun h1=>?_)
 ·have j1:=(L1.trans L2)
  refine WL.indexAddr (A1.mono j1) k1 (by omega) Y2 Z5 V V V V (fun p2 x1 U1 E1=>?_)
  obtain ⟨D1,C2,R2⟩:=E1
  have T3:=ZO R2
  obtain ⟨v7,rfl,B19,B20,B21,B22,B23,B24,A6⟩:=T3
  refine Zc S7 C2 [U x1.kind,Zb x1.col,Zb x1.oth,U x1.v.k,U x1.v.n,Zb x1.v.s,v7] Z5 V V V V V ?_
  refine WL.alloc S7 Z5 V V (fun b3 w9 N3 S9=>?_)
  refine ZY S9 0 [U x1.kind,Zb x1.col,Zb x1.oth,U x1.v.k,U x1.v.n,Zb x1.v.s,v7] V V Z5 V V (by simp only [ZW,A6.oneC] <;> rfl) V V V (fun w10 S10=>?_)
  have T4:=S10.shutB N3
  obtain ⟨G3,L3,C3,S11⟩:=T4
  refine Zc S11 C3 [U x1.kind,Zb x1.col,Zb x1.oth,U x1.v.k,U x1.v.n,Zb x1.v.s,v7] Z5 V V V V V <| Zc S11 (C1.mono (L2.trans L3)) [U q.kind,Zb q.table,v2,v3,U q.cond.kind,Zb q.cond.col,Zb q.cond.oth,U q.cond.v.k,U q.cond.v.n,Zb q.cond.v.s,v4,U q.rel,U q.fn,U q.span.a,U q.span.b,v5] Zg V V V V V ?_
  have j2:=(j1.trans L3)
  refine Zv S11 Zen V V V (ih S11.imm x1 q _ (ZJ x1 B19 B20 B21 B22 B23 B24 (A6.mono L3)) _ (Zd q B7 ZK (A2.mono j2) (A3.mono j2) hb9 Z9 Z7 Z6 ZV Ye (A4.mono j2) Yd B16 B17 Yf (A5.mono j2)) (YR hn (List.mem_of_getElem? ‹_›)) hnn) (fun w11 G4 r1 P1 S12 L4=>?_)
  obtain ⟨D2,rfl,R3⟩:=P1
  have T5:=ZO R3
  obtain ⟨v9,rfl,X6,B26,B27,B28,B29,B30,A7⟩:=T5
  refine WL.buildSlice _ [(0,[U ((Zz n x1 q).kind),Zb ((Zz n x1 q).col),Zb ((Zz n x1 q).oth),U ((Zz n x1 q).v.k),U ((Zz n x1 q).v.n),Zb ((Zz n x1 q).v.s),v9])] [U ((Zz n x1 q).kind),Zb ((Zz n x1 q).col),Zb ((Zz n x1 q).oth),U ((Zz n x1 q).v.k),U ((Zz n x1 q).v.n),Zb ((Zz n x1 q).v.s),v9] S12 QI V V V V (fun z hz=>by match z,hz with | [z0,z1,z2,z3,z4,z5,z6],_=>rfl) (fun b4 w12 N4 S13=>?_)
  refine WL.push (m:=([(Zz n x1 q)] : List Cond)) QI V V V (R1.mono (L3.trans L4)) S13 1 V 0 _ _ _ _ _ V ⟨[U ((Zz n x1 q).kind),Zb ((Zz n x1 q).col),Zb ((Zz n x1 q).oth),U ((Zz n x1 q).v.k),U ((Zz n x1 q).v.n),Zb ((Zz n x1 q).v.s),v9],_,V,(ZJ (Zz n x1 q) X6 B26 B27 B28 B29 B30 A7),V⟩ V (by have:=Zm; have hby9:=(by assumption : Sl CndE 96 G _ c.l).bytes; simp only [List.length_append,List.length_map,List.length_take,List.length_cons,List.length_nil]; omega) (by have:=Zm; have hby9:=(by assumption : Sl CndE 96 G _ c.l).bytes; simp only [List.length_append,List.length_map,List.length_take,List.length_cons,List.length_nil]; omega) V V V (fun v10 o2 w13 R4 S14=>?_)
  have S15:=S14.tail
  refine ZC k1 (by have:=Zm; omega) V V V ?_
  exact BK.mk' _ ⟨k1 + 1,v10,o2,G4,V,(L2.trans (L3.trans L4)),S15,(YH.cast R4 (by (exact (ZaR ‹_›).symm))),(Yt V),(by omega)⟩ (show c.l.length - (k1 + 1) < c.l.length - k1 by omega)
 refine WL.store S7 2 _ _ _ 6 _ [v6] [U c.kind,Zb (Q3 q.cols q.names c.col),Zb (Q3 q.cols q.names c.oth),U c.v.k,U c.v.n,Zb c.v.s,v6] _ V R1.cells1 Y0 V (ZN V) (by simp only [ZW,R1.oneC] <;> rfl) V V V V V (fun w14 S16=>?_)
 refine Zs S16 2 _ _ _ 0 [U c.kind,Zb (Q3 q.cols q.names c.col),Zb (Q3 q.cols q.names c.oth),U c.v.k,U c.v.n,Zb c.v.s,v6] V V V Z5 V V V ?_
 refine ZY S16 1 [U c.kind,Zb (Q3 q.cols q.names c.col),Zb (Q3 q.cols q.names c.oth),U c.v.k,U c.v.n,Zb c.v.s,v6] V V Z5 V V (by simp only [ZW,R1.oneC] <;> rfl) V V V (fun w15 S17=>?_)
 have T6:=S17.sealAt 1 V N2
 obtain ⟨G5,L5,C4,S18⟩:=T6
 have T7:=YH.freeze (R1.mono L5) S18 0 V
 obtain ⟨G6,L6,A8,S19⟩:=T7
 exact YD [.agg #[U c.kind,Zb (Q3 q.cols q.names c.col),Zb (Q3 q.cols q.names c.oth),U c.v.k,U c.v.n,Zb c.v.s,v6]] S19 ⟨_,_,_,V,V,S19.loadC (C4.mono L6) Z5 V V,V⟩ (Is.cast ⟨_,V,(ZJ (Cond.mk c.kind (Q3 q.cols q.names c.col) (Q3 q.cols q.names c.oth) c.v ((c.l.take k1).map fun x=>Zz n x q)) B1 (ZnG ‹_› (Sl.strs (by assumption : Sl Enc.str 16 _ _ q.cols))) (ZnG ‹_› (Sl.strs (by assumption : Sl Enc.str 16 _ _ q.cols))) B4 B5 B6 A8)⟩ (by exact ZcN V V (by omega)))
end Go.Civ
set_option linter.unusedVariables false
set_option linter.unusedSimpArgs false
set_option maxRecDepth 100000
set_option maxHeartbeats 4000000
namespace Go.Civ
open Go.Proofs
def Zm4 (n : Nat) : Prop:=∀ {G : GH} {w : World} (hG : G.In w) (c : Cond) (dep u : Int) (cc : List Value) (hcc : CndE.rep G c cc) (pb : Nat) (hpb : XK w G (some (pb,(nat_lit 3),[U u]))) (hdep : 0 ≤ dep ∧ dep ≤ 21) (hu : 0 ≤ u ∧ u ≤ 120) (hn : Xn c n),CL Tryz.prog (nat_lit 55) #[.agg cc.toArray,U dep, .pointer (some ⟨pb,0,none⟩)] [pb] w G fun G' w' r=>(r = .bool ((YI n c dep u).1)) ∧ XK w' G' (some (pb,(nat_lit 3),[U ((YI n c dep u).2)]))
theorem Zq2 {G : GH} {w : World} (hG : G.In w) (n : Nat) (x : Cond) (dep u : Int) (hN : Zm4 n) (pb : Nat) (hpb : XK w G (some (pb,(nat_lit 3),[U u]))) (cx : List Value) (hcx : CndE.rep G x cx) (pd : Addr) (hpd : YC G pd [U dep]) (pn : Addr) (hpn : YC G pn [.pointer (some ⟨pb,0,none⟩)]) (hdep : 0 ≤ dep ∧ dep ≤ 20) (hu : 0 ≤ u ∧ u ≤ 120) (hn : Xn x n) : CL Tryz.prog (nat_lit 132) #[.agg cx.toArray,Zu pd,Zu pn] [pb] w G fun G' w' r=>(r = .bool (!(YI n x (dep + 1) u).1)) ∧ XK w' G' (some (pb,(nat_lit 3),[U ((YI n x (dep + 1) u).2)])):=by
 refine Zo ft [] Tryz.func132 V V ?_
 have hdep64 : ZM dep:=⟨by omega,by omega⟩
 have hu64 : ZM u:=⟨by omega,by omega⟩
 have hS:=St.lentO hG hpb
 obtain ⟨v1,rfl,B1,B2,B3,B4,B5,B6,A1⟩:=ZO hcx
 refine ZL [U x.kind,Zb x.col,Zb x.oth,U x.v.k,U x.v.n,Zb x.v.s,v1] _ hS V V V (fun p1 w1 G1 L1 M1 C1 S1=>?_)
 refine Zc S1 C1 [U x.kind,Zb x.col,Zb x.oth,U x.v.k,U x.v.n,Zb x.v.s,v1] Z5 V V V V V <| Za S1 (hpd.mono L1) Z3 V V V ?_
 have hi1 : ZM (dep + 1):=by have:=hdep64.1; have:=hdep64.2; constructor <;> omega
 refine WL.ar .add V dep 1 V V V hi1 <| Za S1 (hpn.mono L1) ZgF V V V ?_
 refine XG ZaU V V V (hN S1.imm x (dep + 1) u _ (ZJ x B1 B2 B3 B4 B5 B6 (A1.mono L1)) _ (S1.lentAt 0 V) (by omega) (by omega) hn) (fun w2 G2 r1 hres1 ⟨P1,hlc1⟩=>?_)
 have S2 : St w [pb] G G2 [some (pb,(nat_lit 3),[U ((YI n x (dep + 1) u).2)])] w2:=S1.callX 0 V [U ((YI n x (dep + 1) u).2)] hres1 (hlc1 _ V).1
 have L2:=hres1.le
 subst P1
 exact RT S2 V ⟨(congrArg Value.bool (by rfl)),(S2.lentAt 0 V).cast (by rfl)⟩
theorem Zq3 {G : GH} {w : World} (hG : G.In w) (n : Nat) (l : List Cond) (dep u : Int) (hN : Zm4 n) (pb : Nat) (hpb : XK w G (some (pb,(nat_lit 3),[U u]))) (vl : Value) (hvl : Sl CndE 96 G vl l) (pd : Addr) (hpd : YC G pd [U dep]) (pn : Addr) (hpn : YC G pn [.pointer (some ⟨pb,0,none⟩)]) (hdep : 0 ≤ dep ∧ dep ≤ 20) (hu : 0 ≤ u ∧ u ≤ 120) (hl : ∀ x ∈ l,Xn x n) : CL Tryz.prog (nat_lit 226) #[vl, .func (.func 132) #[] #[Zu pd,Zu pn]] [pb] w G fun G' w' r=>(r = U (Zdb (fun x i=>YI n x (dep + 1) i) l u 0)) ∧ XK w' G' (some (pb,(nat_lit 3),[U ((YJ (fun x i=>YI n x (dep + 1) i) l u).2)])):=by
 refine Zo ft [] Tryz.func226 V V ?_
 have hdep64 : ZM dep:=⟨by omega,by omega⟩
 have hu64 : ZM u:=⟨by omega,by omega⟩
 have hS:=St.lentO hG hpb
 have V1:=hvl.bound
 refine Zl hvl Y2 V V ?_
 refine LP.go ft [] (fun m ρ1 w1=>∃ (k1 : Nat),∃ (mm : Int),∃ (G1 : GH),m = l.length - k1 ∧ G.le G1 ∧ St w [pb] G G1 [some (pb,(nat_lit 3),[U mm])] w1 ∧ FR ρ1 [(0,vl),(1, .func (.func 132) #[] #[Zu pd,Zu pn]),(7,U (l.length : Int)),(8,U (k1 : Int))] ∧ k1 ≤ l.length ∧ ((YJ (fun x i=>YI n x (dep + 1) i) (l.take k1) u).1 = true ∧ mm = (YJ (fun x i=>YI n x (dep + 1) i) (l.take k1) u).2) ∧ (0 ≤ mm ∧ mm ≤ 120)) _ ⟨0,u,G,V,(G.le_refl),hS,(Yt V),(by omega),(by exact ⟨V,V⟩),(by omega)⟩ ?_
 rintro m ρ1 w1 ⟨k1,mm,G1,rfl,L1,S1,F9,f1,f2,f3⟩
 refine F9.set ?_
 clear F9
 have hmm64 : ZM mm:=⟨by omega,by omega⟩
 have h9k:=(by assumption : (YJ (fun x i=>YI n x (dep + 1) i) (l.take k1) u).1 = true ∧ mm = (YJ (fun x i=>YI n x (dep + 1) i) (l.take k1) u).2)
 refine Z1 (k1 : Int) (l.length : Int) V V V (fun h1=>?_) (fun h1=>?_)
 ·refine WL.indexAddr (hvl.mono L1) k1 (by omega) Y2 Z5 V V V V (fun p1 x1 U1 E1=>?_)
  obtain ⟨D1,C1,R1⟩:=E1
  obtain ⟨v1,rfl,B1,B2,B3,B4,B5,B6,A1⟩:=ZO R1
  refine Zc S1 C1 [U x1.kind,Zb x1.col,Zb x1.oth,U x1.v.k,U x1.v.n,Zb x1.v.s,v1] Z5 V V V V V ?_
  refine XG Zcb V V V (Zq2 S1.imm n x1 dep mm hN _ (S1.lentAt 0 V) _ (ZJ x1 B1 B2 B3 B4 B5 B6 A1) _ (hpd.mono L1) _ (hpn.mono L1) (by omega) (by omega) (hl _ (List.mem_of_getElem? ‹_›))) (fun w2 G2 r1 hres1 ⟨P1,hlc1⟩=>?_)
  have S2 : St w [pb] G G2 [some (pb,(nat_lit 3),[U ((YI n x1 (dep + 1) mm).2)])] w2:=S1.callX 0 V [U ((YI n x1 (dep + 1) mm).2)] hres1 (hlc1 _ V).1
  have L2:=hres1.le
  subst P1
  refine WL.split (fun (h2 : (!(YI n x1 (dep + 1) mm).1) = true)=>?_) (fun (h2 : (!(YI n x1 (dep + 1) mm).1) = false)=>?_)
  ·exact RT S2 V ⟨(congrArg (Value.int .i64) (by exact (Zfz h9k.1 h9k.2 ‹_› ‹_›).1)),(S2.lentAt 0 V).cast (by exact congrArg (fun v=>[Value.int .i64 v]) (Zfz h9k.1 h9k.2 ‹_› ‹_›).2)⟩
  refine ZC k1 (by have:=Zm; omega) V V V ?_
  exact BK.mk' _ ⟨k1 + 1,(YI n x1 (dep + 1) mm).2,G2,V,(L1.trans L2),S2,(Yt V),(by omega),(by exact ZnV h9k.1 h9k.2 ‹_› ‹_›),(by exact Zq0 ‹_› ‹_›)⟩ (show l.length - (k1 + 1) < l.length - k1 by omega)
 exact RT S1 V ⟨(congrArg (Value.int .i64) (by exact (Zgu h9k.1 h9k.2 (by omega)).1)),(S1.lentAt 0 V).cast (by exact congrArg (fun v=>[Value.int .i64 v]) (Zgu h9k.1 h9k.2 (by omega)).2)⟩
theorem Zq4 {G : GH} {w : World} (hG : G.In w) (n : Nat) (l : List Cond) (dep u : Int) (hN : Zm4 n) (pb : Nat) (hpb : XK w G (some (pb,(nat_lit 3),[U u]))) (vl : Value) (hvl : Sl CndE 96 G vl l) (pd : Addr) (hpd : YC G pd [U dep]) (pn : Addr) (hpn : YC G pn [.pointer (some ⟨pb,0,none⟩)]) (hdep : 0 ≤ dep ∧ dep ≤ 20) (hu : 0 ≤ u ∧ u ≤ 120) (hl : ∀ x ∈ l,Xn x n) : CL Tryz.prog (nat_lit 131) #[vl, .func (.func 132) #[] #[Zu pd,Zu pn]] [pb] w G fun G' w' r=>(r = .bool (!(YJ (fun x i=>YI n x (dep + 1) i) l u).1)) ∧ XK w' G' (some (pb,(nat_lit 3),[U ((YJ (fun x i=>YI n x (dep + 1) i) l u).2)])):=by
 refine Zo ft [] Tryz.func131 V V ?_
 have hdep64 : ZM dep:=⟨by omega,by omega⟩
 have hu64 : ZM u:=⟨by omega,by omega⟩
 have hS:=St.lentO hG hpb
 refine XG ZcB V V V (Zq3 hS.imm n l dep u hN _ (hS.lentAt 0 V) _ hvl _ hpd _ hpn (by omega) (by omega) hl) (fun w1 G1 r1 hres1 ⟨P1,hlc1⟩=>?_)
 have S1 : St w [pb] G G1 [some (pb,(nat_lit 3),[U ((YJ (fun x i=>YI n x (dep + 1) i) l u).2)])] w1:=hS.callX 0 V [U ((YJ (fun x i=>YI n x (dep + 1) i) l u).2)] hres1 (hlc1 _ V).1
 have L1:=hres1.le
 subst P1
 refine YK .geq V .i64 (Zdb (fun x i=>YI n x (dep + 1) i) l u 0) 0 V V V ?_
 exact RT S1 V ⟨(congrArg Value.bool (by exact Zik (by omega))),(S1.lentAt 0 V).cast (by rfl)⟩
theorem Zsa (n : Nat) : ∀ {G : GH} {w : World} (hG : G.In w) (c : Cond) (dep u : Int) (cc : List Value) (hcc : CndE.rep G c cc) (pb : Nat) (hpb : XK w G (some (pb,(nat_lit 3),[U u]))) (hdep : 0 ≤ dep ∧ dep ≤ 21) (hu : 0 ≤ u ∧ u ≤ 120) (hn : Xn c n),CL Tryz.prog (nat_lit 55) #[.agg cc.toArray,U dep, .pointer (some ⟨pb,0,none⟩)] [pb] w G fun G' w' r=>(r = .bool ((YI n c dep u).1)) ∧ XK w' G' (some (pb,(nat_lit 3),[U ((YI n c dep u).2)])):=by
 induction n
 ·intro G w hG c dep u cc hcc pb hpb hdep hu hn; exact (XC hn).elim
 rename_i n ih
 intro G w hG c dep u cc hcc pb hpb hdep hu hn
 refine Zo ft [] Tryz.func55 V V ?_
 have hdep64 : ZM dep:=⟨by omega,by omega⟩
 have hu64 : ZM u:=⟨by omega,by omega⟩
 have hS:=St.lentO hG hpb
 obtain ⟨v1,rfl,B1,B2,B3,B4,B5,B6,A1⟩:=ZO hcc
 refine ZL [U c.kind,Zb c.col,Zb c.oth,U c.v.k,U c.v.n,Zb c.v.s,v1] _ hS V V V (fun p1 w1 G1 L1 M1 C1 S1=>?_)
 refine ZL [U dep] _ S1 V V V (fun p2 w2 G2 L2 M2 C2 S2=>?_)
 refine ZL [.pointer (some ⟨pb,0,none⟩)] _ S2 V V V (fun p3 w3 G3 L3 M3 C3 S3=>?_)
 refine Za S3 C3 ZgF V V V <| WL.nilCheck _ V V <| ZT S3 0 _ _ _ 0 _ V V Z3 V V V ?_
 have hi1 : ZM (u - 1):=by have:=hu64.1; have:=hu64.2; constructor <;> omega
 refine WL.ar .sub V u 1 V V V hi1 <| WL.nilCheck _ V V ?_
 refine ZY S3 0 [U (u - 1)] V V Z3 V V V V V V (fun w4 S4=>?_)
 refine Za S4 C3 ZgF V V V <| WL.nilCheck _ V V <| ZT S4 0 _ _ _ 0 _ V V Z3 V V V ?_
 refine Y9 (u - 1) 0 V V V (fun h1=>?_) (fun h1=>?_)
 ·refine Za S4 (C2.mono L3) Z3 V V V ?_
  refine Qd dep 20 V V V (fun h2=>?_) (fun h2=>?_)
  ·have j1:=(L2.trans L3)
   refine Za S4 (YC.drop 1 (C1.mono j1)) Zy V V V <| Xo c.col Q2 V V ?_
   refine Qd (c.col.length : Int) 60 V V V (fun h3=>?_) (fun h3=>?_)
   ·refine Za S4 (YC.drop 2 (C1.mono j1)) Zy V V V <| Xo c.oth Q2 V V ?_
    refine Qd (c.oth.length : Int) 60 V V V (fun h4=>?_) (fun h4=>?_)
    ·refine Za S4 (YC.drop 2 (YC.drop 3 (C1.mono j1))) Zy V V V <| Xo c.v.s Q2 V V ?_
     refine Qd (c.v.s.length : Int) 60 V V V (fun h5=>?_) (fun h5=>?_)
     ·refine Za S4 (YC.drop 6 (C1.mono j1)) Y0 V V V ?_
      refine XG ZbD V V V (Zq4 S4.imm n c.l dep (u - 1) ih _ (S4.lentAt 0 V) _ (A1.mono ((L1.trans L2).trans L3)) _ (C2.mono L3) _ C3 (by omega) (by omega) (fun x hx=>YR hn hx)) (fun w5 G4 r1 hres1 ⟨P1,hlc1⟩=>?_)
      have S5 : St w [pb] G G4 [some (pb,(nat_lit 3),[U ((YJ (fun x i=>YI n x (dep + 1) i) c.l (u - 1)).2)])] w5:=S4.callX 0 V [U ((YJ (fun x i=>YI n x (dep + 1) i) c.l (u - 1)).2)] hres1 (hlc1 _ V).1
      have L4:=hres1.le
      subst P1
      exact RT S5 V ⟨(congrArg Value.bool (by (rw [Bool.not_not]; exact congrArg Prod.fst (Zl5 ⟨by omega,by omega,by omega,by omega,by omega⟩)))),(S5.lentAt 0 V).cast (by exact congrArg (fun v=>[Value.int .i64 v]) (congrArg Prod.snd (Zl5 ⟨by omega,by omega,by omega,by omega,by omega⟩)))⟩
     exact RT S4 V ⟨(congrArg Value.bool (by exact (Zb7 (by omega)).1)),(S4.lentAt 0 V).cast (by exact congrArg (fun v=>[Value.int .i64 v]) (Zb7 (by omega)).2)⟩
    exact RT S4 V ⟨(congrArg Value.bool (by exact (Zb7 (by omega)).1)),(S4.lentAt 0 V).cast (by exact congrArg (fun v=>[Value.int .i64 v]) (Zb7 (by omega)).2)⟩
   exact RT S4 V ⟨(congrArg Value.bool (by exact (Zb7 (by omega)).1)),(S4.lentAt 0 V).cast (by exact congrArg (fun v=>[Value.int .i64 v]) (Zb7 (by omega)).2)⟩
  exact RT S4 V ⟨(congrArg Value.bool (by exact (Zb7 (by omega)).1)),(S4.lentAt 0 V).cast (by exact congrArg (fun v=>[Value.int .i64 v]) (Zb7 (by omega)).2)⟩
 exact RT S4 V ⟨(congrArg Value.bool (by exact (Zb7 (by omega)).1)),(S4.lentAt 0 V).cast (by exact congrArg (fun v=>[Value.int .i64 v]) (Zb7 (by omega)).2)⟩
end Go.Civ
set_option linter.unusedVariables false
set_option linter.unusedSimpArgs false
set_option maxRecDepth 100000
set_option maxHeartbeats 4000000
namespace Go.Civ
open Go.Proofs
def Zm5 (n : Nat) : Prop:=∀ {G : GH} {w : World} (hG : G.In w) (q : Query) (dep u : Int) (cc : List Value) (hcc : QryE.rep G q cc) (pb : Nat) (hpb : XK w G (some (pb,(nat_lit 3),[U u]))) (hdep : 0 ≤ dep ∧ dep ≤ 21) (hu : 0 ≤ u ∧ u ≤ 120) (hn : Xx q n),CL Tryz.prog (nat_lit 18) #[.agg cc.toArray,U dep, .pointer (some ⟨pb,0,none⟩)] [pb] w G fun G' w' r=>(r = .bool ((YN n q dep u).1)) ∧ XK w' G' (some (pb,(nat_lit 3),[U ((YN n q dep u).2)]))
theorem Zq5 {G : GH} {w : World} (hG : G.In w) (n : Nat) (x : Query) (dep u : Int) (hN : Zm5 n) (pb : Nat) (hpb : XK w G (some (pb,(nat_lit 3),[U u]))) (cx : List Value) (hcx : QryE.rep G x cx) (pd : Addr) (hpd : YC G pd [U dep]) (pn : Addr) (hpn : YC G pn [.pointer (some ⟨pb,0,none⟩)]) (hdep : 0 ≤ dep ∧ dep ≤ 20) (hu : 0 ≤ u ∧ u ≤ 120) (hn : Xx x n) : CL Tryz.prog (nat_lit 60) #[.agg cx.toArray,Zu pd,Zu pn] [pb] w G fun G' w' r=>(r = .bool (!(YN n x (dep + 1) u).1)) ∧ XK w' G' (some (pb,(nat_lit 3),[U ((YN n x (dep + 1) u).2)])):=by
 refine Zo ft [] Tryz.func60 V V ?_
 have hdep64 : ZM dep:=⟨by omega,by omega⟩
 have hu64 : ZM u:=⟨by omega,by omega⟩
 have hS:=St.lentO hG hpb
 obtain ⟨v1,v2,v3,v4,rfl,B1,B2,A1,A2,B3,B4,B5,B6,B7,ZK,A3,hb9,Z9,Z7,Z6,A4⟩:=Ze hcx
 refine ZL (QV x v1 v2 v3 v4) _ hS V V V (fun p1 w1 G1 L1 M1 C1 S1=>?_)
 refine Zc S1 C1 (QV x v1 v2 v3 v4) Zg V V V V V <| Za S1 (hpd.mono L1) Z3 V V V ?_
 have hi1 : ZM (dep + 1):=by have:=hdep64.1; have:=hdep64.2; constructor <;> omega
 refine WL.ar .add V dep 1 V V V hi1 <| Za S1 (hpn.mono L1) ZgF V V V ?_
 refine XG Yf V V V (hN S1.imm x (dep + 1) u _ (Zd x B1 B2 (A1.mono L1) (A2.mono L1) B3 B4 B5 B6 B7 ZK (A3.mono L1) hb9 Z9 Z7 Z6 (A4.mono L1)) _ (S1.lentAt 0 V) (by omega) (by omega) hn) (fun w2 G2 r1 hres1 ⟨P1,hlc1⟩=>?_)
 have S2 : St w [pb] G G2 [some (pb,(nat_lit 3),[U ((YN n x (dep + 1) u).2)])] w2:=S1.callX 0 V [U ((YN n x (dep + 1) u).2)] hres1 (hlc1 _ V).1
 have L2:=hres1.le
 subst P1
 exact RT S2 V ⟨(congrArg Value.bool (by rfl)),(S2.lentAt 0 V).cast (by rfl)⟩
theorem Zq6 {G : GH} {w : World} (hG : G.In w) (n : Nat) (l : List Query) (dep u : Int) (hN : Zm5 n) (pb : Nat) (hpb : XK w G (some (pb,(nat_lit 3),[U u]))) (vl : Value) (hvl : Sl QryE 224 G vl l) (pd : Addr) (hpd : YC G pd [U dep]) (pn : Addr) (hpn : YC G pn [.pointer (some ⟨pb,0,none⟩)]) (hdep : 0 ≤ dep ∧ dep ≤ 20) (hu : 0 ≤ u ∧ u ≤ 120) (hl : ∀ x ∈ l,Xx x n) : CL Tryz.prog (nat_lit 134) #[vl, .func (.func 60) #[] #[Zu pd,Zu pn]] [pb] w G fun G' w' r=>(r = U (Zdb (fun x i=>YN n x (dep + 1) i) l u 0)) ∧ XK w' G' (some (pb,(nat_lit 3),[U ((YJ (fun x i=>YN n x (dep + 1) i) l u).2)])):=by
 refine Zo ft [] Tryz.func134 V V ?_
 have hdep64 : ZM dep:=⟨by omega,by omega⟩
 have hu64 : ZM u:=⟨by omega,by omega⟩
 have hS:=St.lentO hG hpb
 have V1:=hvl.bound
 refine Zl hvl ZS V V ?_
 refine LP.go ft [] (fun m ρ1 w1=>∃ (k1 : Nat),∃ (mm : Int),∃ (G1 : GH),m = l.length - k1 ∧ G.le G1 ∧ St w [pb] G G1 [some (pb,(nat_lit 3),[U mm])] w1 ∧ FR ρ1 [(0,vl),(1, .func (.func 60) #[] #[Zu pd,Zu pn]),(7,U (l.length : Int)),(8,U (k1 : Int))] ∧ k1 ≤ l.length ∧ ((YJ (fun x i=>YN n x (dep + 1) i) (l.take k1) u).1 = true ∧ mm = (YJ (fun x i=>YN n x (dep + 1) i) (l.take k1) u).2) ∧ (0 ≤ mm ∧ mm ≤ 120)) _ ⟨0,u,G,V,(G.le_refl),hS,(Yt V),(by omega),(by exact ⟨V,V⟩),(by omega)⟩ ?_
 rintro m ρ1 w1 ⟨k1,mm,G1,rfl,L1,S1,F9,f1,f2,f3⟩
 refine F9.set ?_
 clear F9
 have hmm64 : ZM mm:=⟨by omega,by omega⟩
 have h9k:=(by assumption : (YJ (fun x i=>YN n x (dep + 1) i) (l.take k1) u).1 = true ∧ mm = (YJ (fun x i=>YN n x (dep + 1) i) (l.take k1) u).2)
 refine Z1 (k1 : Int) (l.length : Int) V V V (fun h1=>?_) (fun h1=>?_)
 ·refine WL.indexAddr (hvl.mono L1) k1 (by omega) ZS Zg V V V V (fun p1 x1 U1 E1=>?_)
  obtain ⟨D1,C1,R1⟩:=E1
  obtain ⟨v1,v2,v3,v4,rfl,B1,B2,A1,A2,B3,B4,B5,B6,B7,ZK,A3,hb9,Z9,Z7,Z6,A4⟩:=Ze R1
  refine Zc S1 C1 (QV x1 v1 v2 v3 v4) Zg V V V V V ?_
  refine XG Zbi V V V (Zq5 S1.imm n x1 dep mm hN _ (S1.lentAt 0 V) _ (Zd x1 B1 B2 A1 A2 B3 B4 B5 B6 B7 ZK A3 hb9 Z9 Z7 Z6 A4) _ (hpd.mono L1) _ (hpn.mono L1) (by omega) (by omega) (hl _ (List.mem_of_getElem? ‹_›))) (fun w2 G2 r1 hres1 ⟨P1,hlc1⟩=>?_)
  have S2 : St w [pb] G G2 [some (pb,(nat_lit 3),[U ((YN n x1 (dep + 1) mm).2)])] w2:=S1.callX 0 V [U ((YN n x1 (dep + 1) mm).2)] hres1 (hlc1 _ V).1
  have L2:=hres1.le
  subst P1
  refine WL.split (fun (h2 : (!(YN n x1 (dep + 1) mm).1) = true)=>?_) (fun (h2 : (!(YN n x1 (dep + 1) mm).1) = false)=>?_)
  ·exact RT S2 V ⟨(congrArg (Value.int .i64) (by exact (Zfz h9k.1 h9k.2 ‹_› ‹_›).1)),(S2.lentAt 0 V).cast (by exact congrArg (fun v=>[Value.int .i64 v]) (Zfz h9k.1 h9k.2 ‹_› ‹_›).2)⟩
  refine ZC k1 (by have:=Zm; omega) V V V ?_
  exact BK.mk' _ ⟨k1 + 1,(YN n x1 (dep + 1) mm).2,G2,V,(L1.trans L2),S2,(Yt V),(by omega),(by exact ZnV h9k.1 h9k.2 ‹_› ‹_›),(by exact Zq1 ‹_› ‹_›)⟩ (show l.length - (k1 + 1) < l.length - k1 by omega)
 exact RT S1 V ⟨(congrArg (Value.int .i64) (by exact (Zgu h9k.1 h9k.2 (by omega)).1)),(S1.lentAt 0 V).cast (by exact congrArg (fun v=>[Value.int .i64 v]) (Zgu h9k.1 h9k.2 (by omega)).2)⟩
theorem Zq7 {G : GH} {w : World} (hG : G.In w) (n : Nat) (l : List Query) (dep u : Int) (hN : Zm5 n) (pb : Nat) (hpb : XK w G (some (pb,(nat_lit 3),[U u]))) (vl : Value) (hvl : Sl QryE 224 G vl l) (pd : Addr) (hpd : YC G pd [U dep]) (pn : Addr) (hpn : YC G pn [.pointer (some ⟨pb,0,none⟩)]) (hdep : 0 ≤ dep ∧ dep ≤ 20) (hu : 0 ≤ u ∧ u ≤ 120) (hl : ∀ x ∈ l,Xx x n) : CL Tryz.prog (nat_lit 59) #[vl, .func (.func 60) #[] #[Zu pd,Zu pn]] [pb] w G fun G' w' r=>(r = .bool (!(YJ (fun x i=>YN n x (dep + 1) i) l u).1)) ∧ XK w' G' (some (pb,(nat_lit 3),[U ((YJ (fun x i=>YN n x (dep + 1) i) l u).2)])):=by
 refine Zo ft [] Tryz.func59 V V ?_
 have hdep64 : ZM dep:=⟨by omega,by omega⟩
 have hu64 : ZM u:=⟨by omega,by omega⟩
 have hS:=St.lentO hG hpb
 refine XG Zcd V V V (Zq6 hS.imm n l dep u hN _ (hS.lentAt 0 V) _ hvl _ hpd _ hpn (by omega) (by omega) hl) (fun w1 G1 r1 hres1 ⟨P1,hlc1⟩=>?_)
 have S1 : St w [pb] G G1 [some (pb,(nat_lit 3),[U ((YJ (fun x i=>YN n x (dep + 1) i) l u).2)])] w1:=hS.callX 0 V [U ((YJ (fun x i=>YN n x (dep + 1) i) l u).2)] hres1 (hlc1 _ V).1
 have L1:=hres1.le
 subst P1
 refine YK .geq V .i64 (Zdb (fun x i=>YN n x (dep + 1) i) l u 0) 0 V V V ?_
 exact RT S1 V ⟨(congrArg Value.bool (by exact Zik (by omega))),(S1.lentAt 0 V).cast (by rfl)⟩
theorem ZnZ {G : GH} {w : World} (hG : G.In w) (s : List UInt8) : CL Tryz.prog (nat_lit 58) #[Zb s] [] w G fun _ _ r=>r = .bool (decide (60 < (s.length : Int))):=by
 refine Zo ft [] Tryz.func58 V V ?_
 have hS:=St.start (X:=[]) hG
 refine Xo s Q2 V V <| YK .gtr V .i64 (s.length : Int) 60 V V V ?_
 exact RB hS V (by rfl)
theorem Zsb (n : Nat) : ∀ {G : GH} {w : World} (hG : G.In w) (q : Query) (dep u : Int) (cc : List Value) (hcc : QryE.rep G q cc) (pb : Nat) (hpb : XK w G (some (pb,(nat_lit 3),[U u]))) (hdep : 0 ≤ dep ∧ dep ≤ 21) (hu : 0 ≤ u ∧ u ≤ 120) (hn : Xx q n),CL Tryz.prog (nat_lit 18) #[.agg cc.toArray,U dep, .pointer (some ⟨pb,0,none⟩)] [pb] w G fun G' w' r=>(r = .bool ((YN n q dep u).1)) ∧ XK w' G' (some (pb,(nat_lit 3),[U ((YN n q dep u).2)])):=by
 induction n
 ·intro G w hG q dep u cc hcc pb hpb hdep hu hn; exact (Q9 hn).elim
 rename_i n ih
 intro G w hG q dep u cc hcc pb hpb hdep hu hn
 refine Zo ft [] Tryz.func18 V V ?_
 have hdep64 : ZM dep:=⟨by omega,by omega⟩
 have hu64 : ZM u:=⟨by omega,by omega⟩
 have hS:=St.lentO hG hpb
 obtain ⟨v1,v2,v3,v4,rfl,B1,B2,A1,A2,B3,B4,B5,B6,B7,ZK,A3,hb9,Z9,Z7,Z6,A4⟩:=Ze hcc
 refine ZL (QV q v1 v2 v3 v4) _ hS V V V (fun p1 w1 G1 L1 M1 C1 S1=>?_)
 refine ZL [U dep] _ S1 V V V (fun p2 w2 G2 L2 M2 C2 S2=>?_)
 refine ZL [.pointer (some ⟨pb,0,none⟩)] _ S2 V V V (fun p3 w3 G3 L3 M3 C3 S3=>?_)
 refine Za S3 C3 ZgF V V V <| WL.nilCheck _ V V <| ZT S3 0 _ _ _ 0 _ V V Z3 V V V ?_
 have hi1 : ZM (u - 1):=by have:=hu64.1; have:=hu64.2; constructor <;> omega
 refine WL.ar .sub V u 1 V V V hi1 <| WL.nilCheck _ V V ?_
 refine ZY S3 0 [U (u - 1)] V V Z3 V V V V V V (fun w4 S4=>?_)
 refine Za S4 C3 ZgF V V V <| WL.nilCheck _ V V <| ZT S4 0 _ _ _ 0 _ V V Z3 V V V ?_
 refine Z1 (u - 1) 0 V V V (fun h1=>?_) (fun h1=>?_)
 ·exact RT S4 V ⟨(congrArg Value.bool (by exact (Zb8 (by omega)).1)),(S4.lentAt 0 V).cast (by exact congrArg (fun v=>[Value.int .i64 v]) (Zb8 (by omega)).2)⟩
 refine Za S4 (C2.mono L3) Z3 V V V ?_
 refine Yk dep 20 V V V (fun h2=>?_) (fun h2=>?_)
 ·exact RT S4 V ⟨(congrArg Value.bool (by exact (Zb8 (by omega)).1)),(S4.lentAt 0 V).cast (by exact congrArg (fun v=>[Value.int .i64 v]) (Zb8 (by omega)).2)⟩
 have j1:=(L2.trans L3)
 refine Za S4 (YC.drop 1 (C1.mono j1)) Zy V V V <| Xo q.table Q2 V V ?_
 refine Yk (q.table.length : Int) 60 V V V (fun h3=>?_) (fun h3=>?_)
 ·exact RT S4 V ⟨(congrArg Value.bool (by exact (Zb8 (by omega)).1)),(S4.lentAt 0 V).cast (by exact congrArg (fun v=>[Value.int .i64 v]) (Zb8 (by omega)).2)⟩
 refine Za S4 (YC.drop 2 (C1.mono j1)) ZU V V V ?_
 have V1:=A1.bound
 have j2:=((L1.trans L2).trans L3)
 refine Zl (A1.mono j2) Yo V V ?_
 refine Yk (q.cols.length : Int) 20 V V V (fun h4=>?_) (fun h4=>?_)
 ·exact RT S4 V ⟨(congrArg Value.bool (by exact (Zb8 (by omega)).1)),(S4.lentAt 0 V).cast (by exact congrArg (fun v=>[Value.int .i64 v]) (Zb8 (by omega)).2)⟩
 refine Za S4 (YC.drop 3 (C1.mono j1)) ZU V V V ?_
 have V2:=A2.bound
 refine Zl (A2.mono j2) Yo V V ?_
 refine Yk (q.names.length : Int) 20 V V V (fun h5=>?_) (fun h5=>?_)
 ·exact RT S4 V ⟨(congrArg Value.bool (by exact (Zb8 (by omega)).1)),(S4.lentAt 0 V).cast (by exact congrArg (fun v=>[Value.int .i64 v]) (Zb8 (by omega)).2)⟩
 refine Zc S4 (YC.drop 4 (C1.mono j1)) [U q.cond.kind,Zb q.cond.col,Zb q.cond.oth,U q.cond.v.k,U q.cond.v.n,Zb q.cond.v.s,v3] Z5 V V V V V <| Za S4 C3 ZgF V V V ?_
 refine XG ZaU V V V (Zsa (n + 1) S4.imm q.cond 0 (u - 1) _ (ZJ q.cond B3 B4 B5 B6 B7 ZK (A3.mono j2)) _ (S4.lentAt 0 V) (by omega) (by omega) (Zbs hn)) (fun w5 G4 r1 hres1 ⟨P1,hlc1⟩=>?_)
 have S5 : St w [pb] G G4 [some (pb,(nat_lit 3),[U ((YI (n + 1) q.cond 0 (u - 1)).2)])] w5:=S4.callX 0 V [U ((YI (n + 1) q.cond 0 (u - 1)).2)] hres1 (hlc1 _ V).1
 have L4:=hres1.le
 subst P1
 refine WL.split (fun (h6 : ((YI (n + 1) q.cond 0 (u - 1)).1) = true)=>?_) (fun (h6 : ((YI (n + 1) q.cond 0 (u - 1)).1) = false)=>?_)
 ·have hb9:=ZfW (n + 1) q.cond 0 (u - 1) (by omega) (by omega)
  have B7:=ZrT (m:=u) (i:=u) hb9 ‹_›
  have B6:=ZrU hb9
  have j3:=(j1.trans L4)
  refine drT [2,5,6,7,8,9,10,11,12,13,14,15] [(46,v1),(49,v2)] S5 ⟨fun _ hSw=>Za hSw (YC.drop 2 (C1.mono j3)) ZU V V V <| nu V V,fun _ hSw=>Za hSw (YC.drop 3 (C1.mono j3)) ZU V V V <| nu V V,trivial⟩ (fun w6 S6=>?_)
  refine TG.fork 11 [2,5,6,7,8,9,10,11,12,13,14,15] [2] V V (by decide) (by decide) (TA.cons V ?_ TA.nil)
  have j4:=(j2.trans L4)
  refine XG ZaB V V V (Zft S6.imm q.cols _ (A1.mono j4)) (fun w7 G5 r2 hres2 P2=>?_)
  have S7:=S6.call hres2
  have L5:=hres2.le
  obtain ⟨o1,R1,hf1⟩:=P2
  have S8:=S6.adoptO hres2 hf1
  refine ⟨fun _=>S8.tail.down S6.le L5,?_⟩
  refine TG.fork 10 [5,6,7,8,9,10,11,12,13,14,15] [5] V V (by decide) (by decide) (TA.cons V ?_ TA.nil)
  refine YV ZaA V V V R1 S8 0 V (A2.mono (j4.trans L5)) (by have:=Zm; (simp only [List.length_append]; omega)) (by have:=Zm; omega) V V V (fun v5 o2 w9 R2 S9=>?_)
  refine ⟨fun h=>absurd h (by decide),?_⟩
  refine TG.fork 9 [6,7,8,9,10,11,12,13,14,15] [6] V V (by decide) (by decide) (TA.cons V ?_ TA.nil)
  obtain ⟨G6,L6,A5,S10⟩:=YH.freezeL R2 S9 0 1 V V
  refine Zw S10 Zay V V V (ZbI S10.imm (q.cols ++ q.names) (fun x8=>decide (60 < (x8.length : Int))) _ A5 58 #[] ⟨Zbg,fun G8 w8 v8 x8 L8 hG8 hon8 hA8=>by obtain ⟨rfl,hi_x8⟩:=hA8; exact ZnZ hG8 x8⟩) (fun w10 G7 S11 L7=>?_)
  refine WL.split (fun (h7 : ((q.cols ++ q.names).any (fun x8=>decide (60 < (x8.length : Int)))) = true)=>?_) (fun (h7 : ((q.cols ++ q.names).any (fun x8=>decide (60 < (x8.length : Int)))) = false)=>?_)
  ·refine ⟨fun h=>absurd h (by decide),?_⟩
   refine TG.quiet 8 [7,8,9,10,11,12,13,14,15] 7 V V V V V (by decide) (fun w9 K9 k9=>WL.not true V V k9) ?_
   refine TG.quiet 7 [8,9,10,11,12,13,14,15] 8 V V V V V (by decide) (fun w9 K9 k9=>WL.move V k9) ?_
   refine TG.fork 6 [9,10,11,12,13,14,15] [9,11] V V (by decide) (by decide) (TA.cons V ?_ (TA.cons V ?_ TA.nil))
   ·refine WL.no V V ?_
    refine ⟨fun h=>absurd h (by decide),?_⟩
    refine TG.fork 5 [10,11,12,13,14,15] [10,11] V V (by decide) (by decide) (TA.cons V ?_ (TA.cons V ?_ TA.nil))
    ·refine WL.no V V ?_
     refine ⟨fun h=>absurd h (by decide),?_⟩
     refine TG.fork 4 [11,12,13,14,15] [11] V V (by decide) (by decide) (TA.cons V ?_ TA.nil)
     refine WL.no V V ?_
     refine ⟨fun h=>absurd h (by decide),?_⟩
     refine TG.fork 3 [12,13,14,15] [12] V V (by decide) (by decide) (TA.cons V ?_ TA.nil)
     refine WL.no V V ?_
     refine ⟨fun h=>absurd h (by decide),?_⟩
     refine TG.fork 2 [13,14,15] [13] V V (by decide) (by decide) (TA.cons V ?_ TA.nil)
     refine WL.no V V ?_
     refine ⟨fun h=>absurd h (by decide),?_⟩
     refine TG.quiet 1 [14,15] 14 V V V V V (by decide) (fun w9 K9 k9=>Zbe V V k9) ?_
     refine TG.quiet 0 [15] 15 V V V V V (by decide) (fun w9 K9 k9=>WL.assign V k9) ?_
     refine TG.fin V ?_
     exact RT S11 V ⟨(congrArg Value.bool (by exact (Zgv ⟨by omega,by omega,by omega,by omega,by omega⟩ ‹_› ‹_›).1)),(S11.lentAt 1 V).cast (by exact congrArg (fun v=>[Value.int .i64 v]) (Zgv ⟨by omega,by omega,by omega,by omega,by omega⟩ ‹_› ‹_›).2)⟩
    refine WL.no V V ?_
    refine ⟨fun h=>absurd h (by decide),?_⟩
    refine TG.fork 4 [10,12,13,14,15] [10] V V (by decide) (by decide) (TA.cons V ?_ TA.nil)
    refine WL.no V V ?_
    refine ⟨fun h=>absurd h (by decide),?_⟩
    refine TG.fork 3 [12,13,14,15] [12] V V (by decide) (by decide) (TA.cons V ?_ TA.nil)
    refine WL.no V V ?_
    refine ⟨fun h=>absurd h (by decide),?_⟩
    refine TG.fork 2 [13,14,15] [13] V V (by decide) (by decide) (TA.cons V ?_ TA.nil)
    refine WL.no V V ?_
    refine ⟨fun h=>absurd h (by decide),?_⟩
    refine TG.quiet 1 [14,15] 14 V V V V V (by decide) (fun w9 K9 k9=>Zbe V V k9) ?_
    refine TG.quiet 0 [15] 15 V V V V V (by decide) (fun w9 K9 k9=>WL.assign V k9) ?_
    refine TG.fin V ?_
    exact RT S11 V ⟨(congrArg Value.bool (by exact (Zgv ⟨by omega,by omega,by omega,by omega,by omega⟩ ‹_› ‹_›).1)),(S11.lentAt 1 V).cast (by exact congrArg (fun v=>[Value.int .i64 v]) (Zgv ⟨by omega,by omega,by omega,by omega,by omega⟩ ‹_› ‹_›).2)⟩
   refine WL.no V V ?_
   refine ⟨fun h=>absurd h (by decide),?_⟩
   refine TG.fork 5 [9,10,12,13,14,15] [9] V V (by decide) (by decide) (TA.cons V ?_ TA.nil)
   refine WL.no V V ?_
   refine ⟨fun h=>absurd h (by decide),?_⟩
   refine TG.fork 4 [10,12,13,14,15] [10] V V (by decide) (by decide) (TA.cons V ?_ TA.nil)
   refine WL.no V V ?_
   refine ⟨fun h=>absurd h (by decide),?_⟩
   refine TG.fork 3 [12,13,14,15] [12] V V (by decide) (by decide) (TA.cons V ?_ TA.nil)
   refine WL.no V V ?_
   refine ⟨fun h=>absurd h (by decide),?_⟩
   refine TG.fork 2 [13,14,15] [13] V V (by decide) (by decide) (TA.cons V ?_ TA.nil)
   refine WL.no V V ?_
   refine ⟨fun h=>absurd h (by decide),?_⟩
   refine TG.quiet 1 [14,15] 14 V V V V V (by decide) (fun w9 K9 k9=>Zbe V V k9) ?_
   refine TG.quiet 0 [15] 15 V V V V V (by decide) (fun w9 K9 k9=>WL.assign V k9) ?_
   refine TG.fin V ?_
   exact RT S11 V ⟨(congrArg Value.bool (by exact (Zgv ⟨by omega,by omega,by omega,by omega,by omega⟩ ‹_› ‹_›).1)),(S11.lentAt 1 V).cast (by exact congrArg (fun v=>[Value.int .i64 v]) (Zgv ⟨by omega,by omega,by omega,by omega,by omega⟩ ‹_› ‹_›).2)⟩
  refine ⟨fun h=>absurd h (by decide),?_⟩
  refine TG.quiet 8 [7,8,9,10,11,12,13,14,15] 7 V V V V V (by decide) (fun w9 K9 k9=>WL.not false V V k9) ?_
  refine TG.quiet 7 [8,9,10,11,12,13,14,15] 8 V V V V V (by decide) (fun w9 K9 k9=>WL.move V k9) ?_
  refine TG.quiet 6 [9,10,11,12,13,14,15] 9 V V V V V (by decide) (fun w9 K9 k9=>WL.fieldAddr _ 15 _ ZgG V V V k9) ?_
  refine TG.quiet 5 [10,11,12,13,14,15] 11 V V V V V (by decide) (fun w9 K9 k9=>WL.makeFunc _ V V k9) ?_
  refine TG.fork 4 [10,12,13,14,15] [10] V V (by decide) (by decide) (TA.cons V ?_ TA.nil)
  refine Za S11 (YC.drop 15 (C1.mono (((j3.trans L5).trans L6).trans L7))) ZX V V V ?_
  refine ⟨fun h=>absurd h (by decide),?_⟩
  refine TG.fork 3 [12,13,14,15] [12] V V (by decide) (by decide) (TA.cons V ?_ TA.nil)
  refine XG Zbh V V V (Zq7 S11.imm n q.l dep ((YI (n + 1) q.cond 0 (u - 1)).2) ih _ (S11.lentAt 1 V) _ (A4.mono (((j4.trans L5).trans L6).trans L7)) _ (C2.mono ((((L3.trans L4).trans L5).trans L6).trans L7)) _ (C3.mono (((L4.trans L5).trans L6).trans L7)) (by omega) B7 (fun x hx=>Yp hn hx)) (fun w11 G9 r3 hres3 ⟨P3,hlc2⟩=>?_)
  have S12 : St w [pb] G G9 [none,some (pb,(nat_lit 3),[U ((YJ (fun x i=>YN n x (dep + 1) i) q.l ((YI (n + 1) q.cond 0 (u - 1)).2)).2)])] w11:=S11.callX 1 V [U ((YJ (fun x i=>YN n x (dep + 1) i) q.l ((YI (n + 1) q.cond 0 (u - 1)).2)).2)] hres3 (hlc2 _ V).1
  have L9:=hres3.le
  subst P3
  refine ⟨fun h=>absurd h (by decide),?_⟩
  refine TG.quiet 2 [13,14,15] 13 V V V V V (by decide) (fun w9 K9 k9=>WL.not (!(YJ (fun x i=>YN n x (dep + 1) i) q.l ((YI (n + 1) q.cond 0 (u - 1)).2)).1) V V k9) ?_
  refine TG.quiet 1 [14,15] 14 V V V V V (by decide) (fun w9 K9 k9=>WL.pickT V V k9) ?_
  refine TG.quiet 0 [15] 15 V V V V V (by decide) (fun w9 K9 k9=>WL.assign V k9) ?_
  refine TG.fin V ?_
  exact RT S12 V ⟨(congrArg Value.bool (by (rw [Bool.not_not]; exact congrArg Prod.fst (Zl6 ⟨by omega,by omega,by omega,by omega,by omega⟩ ‹_› ‹_›)))),(S12.lentAt 1 V).cast (by exact congrArg (fun v=>[Value.int .i64 v]) (congrArg Prod.snd (Zl6 ⟨by omega,by omega,by omega,by omega,by omega⟩ ‹_› ‹_›)))⟩
 exact RT S5 V ⟨(congrArg Value.bool (by exact (ZpB ⟨by omega,by omega,by omega,by omega,by omega⟩ ‹_›).1)),(S5.lentAt 0 V).cast (by exact congrArg (fun v=>[Value.int .i64 v]) (ZpB ⟨by omega,by omega,by omega,by omega,by omega⟩ ‹_›).2)⟩
end Go.Civ
