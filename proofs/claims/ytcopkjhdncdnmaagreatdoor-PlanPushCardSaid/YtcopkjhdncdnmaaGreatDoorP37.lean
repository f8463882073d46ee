/- Lemmas. -/
import Derived.Test.YtcopkjhdncdnmaaGreatDoorP34
set_option linter.unusedVariables false
set_option linter.unusedSimpArgs false
set_option maxRecDepth 100000
set_option maxHeartbeats 4000000
namespace Go.Civ
open Go.Proofs
theorem Zco {G : GH} {w : World} (hG : G.In w) (a b : List Col) (va : Value) (hva : Sl ColE 24 G va a) (vb : Value) (hvb : Sl ColE 24 G vb b) : CL Tryz.prog (nat_lit 15) #[va,vb] [] w G fun _ _ r=>r = .bool (decide (a = b)):=by
 refine Zo ft [] Tryz.func15 V V ?_
 have hS:=St.start (X:=[]) hG
 have V1:=hva.bound
 refine Zl hva Yx V V ?_
 have V2:=hvb.bound
 refine Zl hvb Yx V V ?_
 refine Z8 (a.length : Int) (b.length : Int) V V V (fun h1=>?_) (fun h1=>?_)
 ·exact RB hS V (by rw [← Zbf]; exact (ZfY (by omega)).symm)
 have V3:=hva.bound
 refine Zl hva Yx V V ?_
 refine LP.go ft [] (fun m ρ1 w1=>∃ (k1 : Nat),∃ (G1 : GH),m = a.length - k1 ∧ G.le G1 ∧ St w [] G G1 [] w1 ∧ FR ρ1 [(0,va),(1,vb),(12,U (a.length : Int)),(13,U (k1 : Int))] ∧ k1 ≤ a.length ∧ ∀ j,j < k1 → ∀ x y,a[j]? = some x → b[j]? = some y → decide (x = y) = true) _ ⟨0,G,V,(G.le_refl),hS,(Yt V),(by omega),(by intro j hj; omega)⟩ ?_
 rintro m ρ1 w1 ⟨k1,G1,rfl,L1,S1,F9,f1,f2⟩
 refine F9.set ?_
 clear F9
 refine Z1 (k1 : Int) (a.length : Int) V V V (fun h2=>?_) (fun h2=>?_)
 ·obtain ⟨p1,x1,U1,E1,W1⟩:=Sl.at (hva.mono L1) k1 (by omega)
  obtain ⟨D1,C1,R1⟩:=E1
  obtain ⟨rfl,B1,B2⟩:=Yh R1
  obtain ⟨p2,x2,U2,E2,W2⟩:=Sl.at (hvb.mono L1) k1 (by omega)
  obtain ⟨D2,C2,R2⟩:=E2
  obtain ⟨rfl,B3,B4⟩:=Yh R2
  rcases Classical.em (x1 = x2) with h3 | h3
  ·refine dr [] [(18,Zu p1),(19, .agg #[Zb x1.name,U x1.kind]),(22,Zu p2),(23, .agg #[Zb x2.name,U x2.kind]),(24, .bool false)] S1 ⟨fun _=>Zf k1 W1 Yx Ym V V V V <| nu V V,fun _ hSw=>Zc hSw C1 [Zb x1.name,U x1.kind] Ym V V V V V <| nu V V,fun _=>Zf k1 W2 Yx Ym V V V V <| nu V V,fun _ hSw=>Zc hSw C2 [Zb x2.name,U x2.kind] Ym V V V V V <| nu V V,fun _=>Zbq false (Zlb x1 x2) Zpi (by simp [h3]) V V V <| nu V V,trivial⟩ (fun w2 S2=>?_)
   refine ZC k1 (by have:=Zm; omega) V V V ?_
   exact BK.mk' _ ⟨k1 + 1,G1,V,L1,S2,(Yt V),(by omega),(by exact ZgD ‹_› ‹_› ‹_› (by simp_all))⟩ (show a.length - (k1 + 1) < a.length - k1 by omega)
  refine dr [] [(18,Zu p1),(19, .agg #[Zb x1.name,U x1.kind]),(22,Zu p2),(23, .agg #[Zb x2.name,U x2.kind]),(24, .bool true)] S1 ⟨fun _=>Zf k1 W1 Yx Ym V V V V <| nu V V,fun _ hSw=>Zc hSw C1 [Zb x1.name,U x1.kind] Ym V V V V V <| nu V V,fun _=>Zf k1 W2 Yx Ym V V V V <| nu V V,fun _ hSw=>Zc hSw C2 [Zb x2.name,U x2.kind] Ym V V V V V <| nu V V,fun _=>Zbq true (Zlb x1 x2) Zpi (by simp [h3]) V V V <| nu V V,trivial⟩ (fun w3 S3=>?_)
  exact RB S3 V (by rw [← Zbf]; exact (Zf5 (f:=fun (x y : Col)=>decide (x = y)) ‹_› ‹_› (by simp_all)).symm)
 exact RB S1 V (by rw [← Zbf]; exact (ZhO (by omega) ‹_› (by omega)).symm)
theorem Zg5 {G : GH} {w : World} (hG : G.In w) (l : List Col) (pf : Col → Bool) (vl : Value) (hvl : Sl ColE 24 G vl l) (fid : Nat) (fcap : Array Value) (hf : FnB Tryz.prog (Is ColE) fid fcap G (fun x=>x ∈ l) pf) : CL Tryz.prog (nat_lit 41) #[vl, .func (.func fid) #[] fcap] [] w G fun _ _ r=>r = .bool (l.any pf):=by
 refine Zo ft [] Tryz.func41 V V ?_
 have hS:=St.start (X:=[]) hG
 refine Zw hS ZaC V V V (Zfk hS.imm l pf _ hvl fid fcap (hf.up (G.le_refl))) (fun w1 G1 S1 L1=>?_)
 refine YK .geq V .i64 (YP pf l) 0 V V V ?_
 exact RB S1 V (by exact ZbM _ _)
theorem ZkJ {G : GH} {w : World} (hG : G.In w) (y : Col) (ins : List (List Col)) (cy : List Value) (hcy : ColE.rep G y cy) (vi : Value) (hvi : Sl (ColE.slice 24) 24 G vi ins) (pi : Addr) (hpi : YC G pi [vi]) (hi : 1 ≤ ins.length) : CL Tryz.prog (nat_lit 127) #[.agg cy.toArray,Zu pi] [] w G fun _ _ r=>r = .bool (decide (0 ≤ Zx ((ins[0]?).getD []) y.name)):=by
 refine Zo ft [] Tryz.func127 V V ?_
 have hS:=St.start (X:=[]) hG
 obtain ⟨rfl,B1,B2⟩:=Yh hcy
 refine ZL [Zb y.name,U y.kind] _ hS V V V (fun p1 w1 G1 L1 M1 C1 S1=>?_)
 obtain ⟨p2,x1,U1,E1,W1⟩:=Sl.at (hvi.mono L1) 0 (by omega)
 obtain ⟨D1,C2,R1⟩:=E1
 obtain ⟨v1,rfl,A1⟩:=R1
 refine dr [(7,false)] [(4,vi),(5,Zu p2),(6,v1),(8,Zb y.name),(9,U (Zx x1 y.name)),(10, .bool (Cmp.b .geq (Zx x1 y.name) 0))] S1 ⟨fun _ hSw=>Za hSw (hpi.mono L1) XH V V V <| nu V V,fun _=>Zf 0 W1 Y4 Yb V V V V <| nu V V,fun _ hSw=>Za hSw C2 Yb V V V <| nu V V,fun _ hSw=>Za hSw (YC.drop 0 C1) Zy V V V <| nu V V,fun _ hSw=>YS hSw Qm V V V (ZdC hSw.imm x1 y.name _ A1) V,fun _=>YK .geq V .i64 (Zx x1 y.name) 0 V V V <| nu V V,trivial⟩ (fun w2 S2=>?_)
 exact RB S2 V (by (rw [QE (by assumption : ins[0]? = some _)]; rfl))
theorem Zqn (n : Nat) : ∀ {G : GH} {w : World} (hG : G.In w) (q : Query) (l : List Schema) (cq : List Value) (hcq : QryE.rep G q cq) (vl : Value) (hvl : Sl SchemaE 72 G vl l) (hsc : ∀ s ∈ l,s.cols.length ≤ 8) (hn : Xx q n) (hok : okQ n q),CL Tryz.prog (nat_lit 53) #[.agg cq.toArray,vl] [] w G fun G' _ r=>∃ r0 r1,r = .tuple #[r0,r1] ∧ Sl ColE 24 G' r0 ((Y5 n q l).1) ∧ r1 = U ((Y5 n q l).2):=by
 induction n
 ·intro G w hG q l cq hcq vl hvl hsc hn hok; exact (hok).elim
 rename_i n ih
 intro G w hG q l cq hcq vl hvl hsc hn hok
 refine Zo ft [] Tryz.func53 V V ?_
 have hS:=St.start (X:=[]) hG
 have T1:=Ze hcq
 obtain ⟨v1,v2,v3,v4,rfl,B1,B2,A1,A2,B3,B4,B5,B6,B7,ZK,A3,hb9,Z9,Z7,Z6,A4⟩:=T1
 refine ZL (QV q v1 v2 v3 v4) _ hS V V V (fun p1 w1 G1 L1 M1 C1 S1=>?_)
 refine WL.alloc S1 XH V V (fun b1 w2 N1 S2=>?_)
 have S3:=S2.pad
 refine Za S3 (YC.drop 15 C1) ZX V V V ?_
 have V1:=A4.bound
 refine Zl (A4.mono L1) ZS V V ?_
 refine LP.go ft [] (fun m ρ1 w1=>∃ (k1 : Nat),∃ (v5 : Value) (o1 : OB),∃ (G2 : GH),m = q.l.length - k1 ∧ G1.le G2 ∧ St w [] G G2 [o1,some (b1,140,[v5])] w1 ∧ YH (ColE.slice 24) 24 43 G2 v5 ((q.l.take k1).map fun x=>(Y5 n x l).1) o1 ∧ FR ρ1 [(1,vl),(2,Zu p1),(6, .pointer (some ⟨b1,0,none⟩)),(15,v4),(16,U (q.l.length : Int)),(17,U (k1 : Int))] ∧ k1 ≤ q.l.length ∧ ∀ j,j < k1 → ∀ x,q.l[j]? = some x → (Y5 n x l).2 = 0) _ ⟨0,(Zh),none,G1,V,(G1.le_refl),S3,(YH.cast (YH.nil (ColE.slice 24) 24 43 G1) (by rfl)),(Yt V),(by omega),(by intro j hj; omega)⟩ ?_
 rintro m ρ1 w3 ⟨k1,v5,o1,G2,rfl,L2,S4,R1,F9,f1,f2⟩
 refine F9.set ?_
 clear F9
 refine Z1 (k1 : Int) (q.l.length : Int) V V V (fun h1=>?_) (fun h1=>?_)
 ·refine WL.indexAddr (A4.mono (L1.trans L2)) k1 (by omega) ZS Zg V V V V (fun p2 x1 U1 E1=>?_)
  obtain ⟨D1,C2,R2⟩:=E1
  have T2:=Ze R2
  obtain ⟨v6,v7,v9,v10,rfl,ZV,Ye,A5,A6,B16,B17,Yf,B19,B20,B21,A7,B22,B23,B24,X6,A8⟩:=T2
  refine Zc S4 C2 (QV x1 v6 v7 v9 v10) Zg V V V V V ?_
  refine WL.alloc S4 Zg V V (fun b2 w4 N2 S5=>?_)
  refine WL.store S5 0 _ _ _ 0 _ (QV x1 v6 v7 v9 v10) (QV x1 v6 v7 v9 v10) _ V V Zg V (ZN V) (by simp only [ZW,A5.oneC,A6.oneC,A7.oneC,A8.oneC] <;> rfl) V V V V V (fun w5 S6=>?_)
  have T3:=S6.shutB N2
  obtain ⟨G3,L3,C3,S7⟩:=T3
  refine Zc S7 C3 (QV x1 v6 v7 v9 v10) Zg V V V V V ?_
  refine Zv S7 ZaT V V V (ih S7.imm x1 l _ (Zd x1 ZV Ye (A5.mono L3) (A6.mono L3) B16 B17 Yf B19 B20 B21 (A7.mono L3) B22 B23 B24 X6 (A8.mono L3)) _ (hvl.mono ((L1.trans L2).trans L3)) hsc (Yp hn (List.mem_of_getElem? ‹_›)) (hok.2.2.2 _ (List.mem_of_getElem? ‹_›))) ?_
  rintro w6 G4 _ ⟨r2,_,rfl,A9,rfl⟩ S8 L4
  refine Z8 ((Y5 n x1 l).2) 0 V V V (fun h2=>?_) (fun h2=>?_)
  ·exact RT S8 V ⟨_,_,V,(Sl.cast (Sl.nil ColE 24 G4) (by with_reducible exact (Zfq ‹_› ‹_› ‹_›).1)),(congrArg (Value.int .i64) (by with_reducible exact (Zfq ‹_› ‹_› ‹_›).2))⟩
  refine ZT S8 1 _ _ _ 0 _ V V XH V V V ?_
  refine WL.buildSlice _ [(0,[r2])] [r2] S8 Zhx V V V (by show [(0,(r2 : Value).cells.toList)] = _; simp only [A9.cells1] <;> rfl) (fun z hz=>by match z,hz with | [z0],_=>rfl) (fun b3 w7 N3 S9=>?_)
  refine WL.push (m:=([(Y5 n x1 l).1] : List (List Col))) Zhx V V V (R1.mono (L3.trans L4)) S9 1 V 0 _ _ _ _ _ V ⟨[r2],_,V,⟨_,V,A9⟩,V⟩ V (by have:=Zm; have hby9:=(by assumption : Sl QryE 224 G _ q.l).bytes; simp only [List.length_append,List.length_map,List.length_take,List.length_cons,List.length_nil]; omega) (by have:=Zm; have hby9:=(by assumption : Sl QryE 224 G _ q.l).bytes; simp only [List.length_append,List.length_map,List.length_take,List.length_cons,List.length_nil]; omega) V V V (fun v11 o2 w9 R3 S10=>?_)
  have S11:=S10.tail
  refine ZY S11 1 [v11] V R3.cells1 XH V V (by simp only [ZW,R3.oneC] <;> rfl) V V V (fun w10 S12=>?_)
  refine ZC k1 (by have:=Zm; omega) V V V ?_
  exact BK.mk' _ ⟨k1 + 1,v11,o2,G4,V,(L2.trans (L3.trans L4)),S12,(YH.cast R3 (by (rw [List.take_add_one,(by assumption : q.l[k1]? = some _)]; simp))),(Yt V),(by omega),(by with_reducible exact Yz ‹_› ‹_› ‹_›)⟩ (show q.l.length - (k1 + 1) < q.l.length - k1 by omega)
 have T4:=YH.freeze R1 S4 0 V
 obtain ⟨G5,L5,A10,S13⟩:=T4
 have hins:=Sl.cast (l':=q.l.map fun x=>(Y5 n x l).1) A10 (by rw [List.take_of_length_le (by omega)])
 have T5:=S13.sealAt 1 V N1
 obtain ⟨G6,L6,C4,S14⟩:=T5
 have hcf:=ZhX (by assumption : ∀ j,j < k1 → ∀ x,q.l[j]? = some x → (Y5 n x l).2 = 0) (by omega)
 have hile:=Zn1 hsc hok
 have hpl:=Zmc hok
 have hinl : (q.l.map fun x=>(Y5 n x l).1).length = q.l.length:=List.length_map _
 have j1:=((L2.trans L5).trans L6)
 refine Za S14 (YC.drop 0 (C1.mono j1)) Z3 V V V ?_
 refine Zj q.kind 1 V V V (fun h3=>?_) (fun h3=>?_)
 ·refine Za S14 (YC.drop 1 (C1.mono j1)) Zy V V V ?_
  refine Zv S14 QL V V V (Zh9 S14.imm l q.table _ (hvl.mono (((L1.trans L2).trans L5).trans L6)) ‹_›) ?_
  rintro w11 G7 _ ⟨r5,_,rfl,A11,rfl⟩ S15 L7
  obtain ⟨D2,rfl,R4⟩:=A11
  have T6:=Xb R4
  obtain ⟨v12,v13,rfl,B26,A12,B27,A13⟩:=T6
  refine WL.alloc S15 Xu V V (fun b4 w12 N4 S16=>?_)
  refine ZY S16 0 [Zb (((YQ l q.table).getD noS).name),v12,U (((YQ l q.table).getD noS).key),v13] V V Xu V V (by simp only [ZW,A12.oneC,A13.oneC] <;> rfl) V V V (fun w13 S17=>?_)
  have T7:=S17.shutB N4
  obtain ⟨G9,L9,C5,S18⟩:=T7
  refine ZgB (d:=45) V (fun (h4 : ((YQ l q.table).isSome) = true)=>?_) (fun (h4 : ((YQ l q.table).isSome) = false)=>?_)
  ·refine Za S18 (YC.drop 1 C5) Yb V V V ?_
   refine XG QT V V V (ZgP S18.imm (((YQ l q.table).getD noS).cols) _ (A12.mono L9)) (fun w14 G10 r7 hres1 P3=>?_)
   have S19:=S18.call hres1
   have L10:=hres1.le
   obtain ⟨o3,R5,hf1⟩:=P3
   have S20:=S18.adoptO hres1 hf1
   have T8:=YH.freeze R5 S20 0 V
   obtain ⟨G11,L11,A14,S21⟩:=T8
   exact RT S21 V ⟨_,_,V,(Sl.cast A14 (by (rw [hcf]; with_reducible exact (Zmb ‹_› ‹_›).1))),(congrArg (Value.int .i64) (by (rw [hcf]; with_reducible exact (Zmb ‹_› ‹_›).2)))⟩
  exact RT S18 V ⟨_,_,V,(Sl.cast (Sl.nil ColE 24 G9) (by (rw [hcf]; with_reducible exact (Zma ‹_› ‹_›).1))),(congrArg (Value.int .i64) (by (rw [hcf]; with_reducible exact (Zma ‹_› ‹_›).2)))⟩
 refine Zj q.kind 2 V V V (fun h5=>?_) (fun h5=>?_)
 ·have T9:=Sl.at (hins.mono L6) 0 (by (rw [hinl]; have:=QF hpl (by omega); omega))
  obtain ⟨p3,x2,U2,E2,W1⟩:=T9
  obtain ⟨D3,C6,R6⟩:=E2
  obtain ⟨v14,rfl,A15⟩:=R6
  refine dr [(6,false)] [(54, .agg #[U q.cond.kind,Zb q.cond.col,Zb q.cond.oth,U q.cond.v.k,U q.cond.v.n,Zb q.cond.v.s,v3]),(55,v5),(56,Zu p3),(57,v14),(58,U (Xq (n + 1) q.cond x2))] S14 ⟨fun _ hSw=>Zc hSw (YC.drop 4 (C1.mono j1)) [U q.cond.kind,Zb q.cond.col,Zb q.cond.oth,U q.cond.v.k,U q.cond.v.n,Zb q.cond.v.s,v3] Z5 V V V V V <| nu V V,fun _ hSw=>Za hSw C4 XH V V V <| nu V V,fun _=>Zf 0 W1 Y4 Yb V V V V <| nu V V,fun _ hSw=>Za hSw C6 Yb V V V <| nu V V,fun _ hSw=>YS hSw Zap V V V (ZjX hSw.imm (n + 1) q.cond x2 _ (ZJ q.cond B3 B4 B5 B6 B7 ZK (A3.mono (((L1.trans L2).trans L5).trans L6))) _ A15 (Zbs hn)) V,trivial⟩ (fun w15 S22=>?_)
  refine Z8 (Xq (n + 1) q.cond x2) 0 V V V (fun h6=>?_) (fun h6=>?_)
  ·exact RT S22 V ⟨_,_,V,(Sl.cast (Sl.nil ColE 24 G6) (by (rw [hcf]; with_reducible exact (Zh4 ‹_› (by assumption : (List.map _ _)[0]? = some _) ‹_›).1))),(congrArg (Value.int .i64) (by (rw [hcf]; with_reducible exact (Zh4 ‹_› (by assumption : (List.map _ _)[0]? = some _) ‹_›).2)))⟩
  refine Za S22 C4 XH V V V ?_
  refine WL.indexAddr (hins.mono L6) 0 (by (rw [hinl]; have:=QF hpl (by omega); omega)) Y4 Yb V V V V (fun p4 x3 U3 E3=>?_)
  have T10 : x2 = x3:=Option.some.inj (U2.symm.trans U3)
  obtain rfl:=T10
  obtain ⟨D4,C7,R7⟩:=E3
  obtain ⟨v15,rfl,A16⟩:=R7
  refine Za S22 C7 Yb V V V ?_
  exact RT S22 V ⟨_,_,V,(Sl.cast A16 (by (rw [hcf]; with_reducible exact (Zh5 ‹_› (by assumption : (List.map _ _)[0]? = some _) ‹_›).1))),(congrArg (Value.int .i64) (by (rw [hcf]; with_reducible exact (Zh5 ‹_› (by assumption : (List.map _ _)[0]? = some _) ‹_›).2)))⟩
 refine Zj q.kind 3 V V V (fun h7=>?_) (fun h7=>?_)
 ·have T11:=Sl.at (hins.mono L6) 0 (by (rw [hinl]; have:=QF hpl (by omega); omega))
  obtain ⟨p5,x4,U4,E4,W2⟩:=T11
  obtain ⟨D5,C8,R8⟩:=E4
  obtain ⟨v16,rfl,A17⟩:=R8
  refine drT [5,6,7,8,9] [(67,v5),(68,Zu p5),(69,v16),(71,v1)] S14 ⟨fun _ hSw=>Za hSw C4 XH V V V <| nu V V,fun _=>Zf 0 W2 Y4 Yb V V V V <| nu V V,fun _ hSw=>Za hSw C8 Yb V V V <| nu V V,fun _ hSw=>Za hSw (YC.drop 2 (C1.mono j1)) ZU V V V <| nu V V,trivial⟩ (fun w16 S23=>?_)
  refine TG.fork 4 [5,6,7,8,9] [5] V V (by decide) (by decide) (TA.cons V ?_ TA.nil)
  refine XG Zaq V V V (Zlp S23.imm x4 q.cols _ A17 _ (A1.mono (((L1.trans L2).trans L5).trans L6)) (Nat.le_trans hok.2.1 (by decide))) (fun w17 G12 r8 hres2 P4=>?_)
  have S24:=S23.call hres2
  have L12:=hres2.le
  obtain ⟨r9,_,rfl,A18,rfl⟩:=P4
  obtain ⟨o4,R9,hf2⟩:=A18
  have S25:=S23.adoptO hres2 hf2
  refine ⟨fun h=>absurd h (by decide),?_⟩
  refine TG.quiet 3 [6,7,8,9] 6 V V V V V (by decide) (fun w9 K9 k9=>WL.extract _ _ V V V k9) ?_
  refine TG.quiet 2 [7,8,9] 7 V V V V V (by decide) (fun w9 K9 k9=>WL.extract _ _ V V V k9) ?_
  refine TG.quiet 1 [8,9] 8 V V V V V (by decide) (fun w9 K9 k9=>WL.assign V k9) ?_
  refine TG.quiet 0 [9] 9 V V V V V (by decide) (fun w9 K9 k9=>WL.assign V k9) ?_
  refine TG.fin V ?_
  have T12:=YH.freeze R9 S25 0 V
  obtain ⟨G13,L13,A19,S26⟩:=T12
  exact RT S26 V ⟨_,_,V,(Sl.cast A19 (by (rw [hcf]; with_reducible exact congrArg Prod.fst (ZgJ ‹_› (by assumption : (List.map _ _)[0]? = some _))))),(congrArg (Value.int .i64) (by (rw [hcf]; with_reducible exact congrArg Prod.snd (ZgJ ‹_› (by assumption : (List.map _ _)[0]? = some _)))))⟩
 refine Zj q.kind 4 V V V (fun h8=>?_) (fun h8=>?_)
 ·have T13:=Sl.at (hins.mono L6) 0 (by (rw [hinl]; have:=QF hpl (by omega); omega))
  obtain ⟨p6,x5,U5,E5,W3⟩:=T13
  obtain ⟨D6,C9,R10⟩:=E5
  obtain ⟨v17,rfl,A20⟩:=R10
  refine drT [4,5,6,7,8] [(77, .agg (QV q v1 v2 v3 v4).toArray),(78,v5),(79,Zu p6),(80,v17)] S14 ⟨fun _ hSw=>Zc hSw (C1.mono j1) (QV q v1 v2 v3 v4) Zg V V V V V <| nu V V,fun _ hSw=>Za hSw C4 XH V V V <| nu V V,fun _=>Zf 0 W3 Y4 Yb V V V V <| nu V V,fun _ hSw=>Za hSw C9 Yb V V V <| nu V V,trivial⟩ (fun w18 S27=>?_)
  refine TG.fork 4 [4,5,6,7,8] [4] V V (by decide) (by decide) (TA.cons V ?_ TA.nil)
  have j2:=(((L1.trans L2).trans L5).trans L6)
  refine Zv S27 ZaI V V V (Zmf S27.imm q x5 _ (Zd q B1 B2 (A1.mono j2) (A2.mono j2) B3 B4 B5 B6 B7 ZK (A3.mono j2) hb9 Z9 Z7 Z6 (A4.mono j2)) _ A20 (Zjb hpl ‹_›)) ?_
  rintro w19 G14 _ ⟨r12,_,rfl,A21,rfl⟩ S28 L14
  refine ⟨fun h=>absurd h (by decide),?_⟩
  refine TG.quiet 3 [5,6,7,8] 5 V V V V V (by decide) (fun w9 K9 k9=>WL.extract _ _ V V V k9) ?_
  refine TG.quiet 2 [6,7,8] 6 V V V V V (by decide) (fun w9 K9 k9=>WL.extract _ _ V V V k9) ?_
  refine TG.quiet 1 [7,8] 7 V V V V V (by decide) (fun w9 K9 k9=>WL.assign V k9) ?_
  refine TG.quiet 0 [8] 8 V V V V V (by decide) (fun w9 K9 k9=>WL.assign V k9) ?_
  refine TG.fin V ?_
  exact RT S28 V ⟨_,_,V,(Sl.cast A21 (by (rw [hcf]; with_reducible exact congrArg Prod.fst (Zfr ‹_› (by assumption : (List.map _ _)[0]? = some _))))),(congrArg (Value.int .i64) (by (rw [hcf]; with_reducible exact congrArg Prod.snd (Zfr ‹_› (by assumption : (List.map _ _)[0]? = some _)))))⟩
 refine Zj q.kind 5 V V V (fun h9=>?_) (fun h9=>?_)
 ·have T14:=Sl.at (hins.mono L6) 0 (by (rw [hinl]; have:=QF hpl (by omega); omega))
  obtain ⟨p7,x6,U6,E6,W4⟩:=T14
  obtain ⟨D7,C10,R11⟩:=E6
  obtain ⟨v18,rfl,A22⟩:=R11
  have T15:=Sl.at (hins.mono L6) 1 (by (rw [hinl]; have:=op2 hpl (by omega); omega))
  obtain ⟨p8,x7,U7,E7,W5⟩:=T15
  obtain ⟨D8,C11,R12⟩:=E7
  obtain ⟨v19,rfl,A23⟩:=R12
  refine drT [6,7,8,9,10] [(86,v5),(87,Zu p7),(88,v18),(89,v5),(90,Zu p8),(91,v19)] S14 ⟨fun _ hSw=>Za hSw C4 XH V V V <| nu V V,fun _=>Zf 0 W4 Y4 Yb V V V V <| nu V V,fun _ hSw=>Za hSw C10 Yb V V V <| nu V V,fun _ hSw=>Za hSw C4 XH V V V <| nu V V,fun _=>Zf 1 W5 Y4 Yb V V V V <| nu V V,fun _ hSw=>Za hSw C11 Yb V V V <| nu V V,trivial⟩ (fun w20 S29=>?_)
  refine TG.fork 4 [6,7,8,9,10] [6] V V (by decide) (by decide) (TA.cons V ?_ TA.nil)
  refine Zv S29 ZaJ V V V (ZnC S29.imm x6 x7 _ A22 _ A23 (Nat.le_trans (hile _ (List.mem_of_getElem? (by assumption : (List.map _ _)[0]? = some _))) (by decide)) (Nat.le_trans (hile _ (List.mem_of_getElem? (by assumption : (List.map _ _)[1]? = some _))) (by decide))) ?_
  rintro w21 G15 _ ⟨r15,_,rfl,A24,rfl⟩ S30 L15
  refine ⟨fun h=>absurd h (by decide),?_⟩
  refine TG.quiet 3 [7,8,9,10] 7 V V V V V (by decide) (fun w9 K9 k9=>WL.extract _ _ V V V k9) ?_
  refine TG.quiet 2 [8,9,10] 8 V V V V V (by decide) (fun w9 K9 k9=>WL.extract _ _ V V V k9) ?_
  refine TG.quiet 1 [9,10] 9 V V V V V (by decide) (fun w9 K9 k9=>WL.assign V k9) ?_
  refine TG.quiet 0 [10] 10 V V V V V (by decide) (fun w9 K9 k9=>WL.assign V k9) ?_
  refine TG.fin V ?_
  exact RT S30 V ⟨_,_,V,(Sl.cast A24 (by (rw [hcf]; with_reducible exact congrArg Prod.fst (ZgK ‹_› (by assumption : (List.map _ _)[0]? = some _) (by assumption : (List.map _ _)[1]? = some _))))),(congrArg (Value.int .i64) (by (rw [hcf]; with_reducible exact congrArg Prod.snd (ZgK ‹_› (by assumption : (List.map _ _)[0]? = some _) (by assumption : (List.map _ _)[1]? = some _)))))⟩
 refine Zj q.kind 6 V V V (fun h10=>?_) (fun h10=>?_)
 ·have T16:=Sl.at (hins.mono L6) 0 (by (rw [hinl]; have:=QF hpl (by omega); omega))
  obtain ⟨p9,x9,U8,E8,W6⟩:=T16
  obtain ⟨D9,C12,R13⟩:=E8
  obtain ⟨v20,rfl,A25⟩:=R13
  have T17:=Sl.at (hins.mono L6) 1 (by (rw [hinl]; have:=op2 hpl (by omega); omega))
  obtain ⟨p10,x10,U9,E9,W7⟩:=T17
  obtain ⟨D10,C13,R14⟩:=E9
  obtain ⟨v21,rfl,A26⟩:=R14
  have T18:=Bool.eq_false_or_eq_true (decide (x9 = x10))
  rcases T18 with h11 | h11
  ·refine dr [] [(98,v5),(99,Zu p9),(100,v20),(101,v5),(102,Zu p10),(103,v21),(104, .bool true)] S14 ⟨fun _ hSw=>Za hSw C4 XH V V V <| nu V V,fun _=>Zf 0 W6 Y4 Yb V V V V <| nu V V,fun _ hSw=>Za hSw C12 Yb V V V <| nu V V,fun _ hSw=>Za hSw C4 XH V V V <| nu V V,fun _=>Zf 1 W7 Y4 Yb V V V V <| nu V V,fun _ hSw=>Za hSw C13 Yb V V V <| nu V V,fun _ hSw=>YS hSw Yd V V V (Zco hSw.imm x9 x10 _ A25 _ A26) (congrArg Value.bool h11.symm),trivial⟩ (fun w22 S31=>?_)
   refine Za S31 C4 XH V V V ?_
   refine WL.indexAddr (hins.mono L6) 0 (by (rw [hinl]; have:=QF hpl (by omega); omega)) Y4 Yb V V V V (fun p11 x11 U10 E10=>?_)
   have T19 : x9 = x11:=Option.some.inj (U8.symm.trans U10)
   obtain rfl:=T19
   obtain ⟨D11,C14,R15⟩:=E10
   obtain ⟨v22,rfl,A27⟩:=R15
   refine Za S31 C14 Yb V V V ?_
   exact RT S31 V ⟨_,_,V,(Sl.cast A27 (by (rw [hcf]; with_reducible exact (Zd7 (by first | exact .inl ‹_› | exact .inr ‹_›) (by assumption : (List.map _ _)[0]? = some _) (by assumption : (List.map _ _)[1]? = some _) (of_decide_eq_true ‹_›)).1))),(congrArg (Value.int .i64) (by (rw [hcf]; with_reducible exact (Zd7 (by first | exact .inl ‹_› | exact .inr ‹_›) (by assumption : (List.map _ _)[0]? = some _) (by assumption : (List.map _ _)[1]? = some _) (of_decide_eq_true ‹_›)).2)))⟩
  refine dr [] [(98,v5),(99,Zu p9),(100,v20),(101,v5),(102,Zu p10),(103,v21),(104, .bool false)] S14 ⟨fun _ hSw=>Za hSw C4 XH V V V <| nu V V,fun _=>Zf 0 W6 Y4 Yb V V V V <| nu V V,fun _ hSw=>Za hSw C12 Yb V V V <| nu V V,fun _ hSw=>Za hSw C4 XH V V V <| nu V V,fun _=>Zf 1 W7 Y4 Yb V V V V <| nu V V,fun _ hSw=>Za hSw C13 Yb V V V <| nu V V,fun _ hSw=>YS hSw Yd V V V (Zco hSw.imm x9 x10 _ A25 _ A26) (congrArg Value.bool h11.symm),trivial⟩ (fun w23 S32=>?_)
  exact RT S32 V ⟨_,_,V,(Sl.cast (Sl.nil ColE 24 G6) (by (rw [hcf]; with_reducible exact (Zd6 (by first | exact .inl ‹_› | exact .inr ‹_›) (by assumption : (List.map _ _)[0]? = some _) (by assumption : (List.map _ _)[1]? = some _) (of_decide_eq_false ‹_›)).1))),(congrArg (Value.int .i64) (by (rw [hcf]; with_reducible exact (Zd6 (by first | exact .inl ‹_› | exact .inr ‹_›) (by assumption : (List.map _ _)[0]? = some _) (by assumption : (List.map _ _)[1]? = some _) (of_decide_eq_false ‹_›)).2)))⟩
 refine Zj q.kind 7 V V V (fun h12=>?_) (fun h12=>?_)
 ·have T20:=Sl.at (hins.mono L6) 0 (by (rw [hinl]; have:=QF hpl (by omega); omega))
  obtain ⟨p12,x12,U11,E11,W8⟩:=T20
  obtain ⟨D12,C15,R16⟩:=E11
  obtain ⟨v23,rfl,A28⟩:=R16
  have T21:=Sl.at (hins.mono L6) 1 (by (rw [hinl]; have:=op2 hpl (by omega); omega))
  obtain ⟨p13,x13,U12,E12,W9⟩:=T21
  obtain ⟨D13,C16,R17⟩:=E12
  obtain ⟨v24,rfl,A29⟩:=R17
  have T22:=Bool.eq_false_or_eq_true (decide (x12 = x13))
  rcases T22 with h13 | h13
  ·refine dr [] [(98,v5),(99,Zu p12),(100,v23),(101,v5),(102,Zu p13),(103,v24),(104, .bool true)] S14 ⟨fun _ hSw=>Za hSw C4 XH V V V <| nu V V,fun _=>Zf 0 W8 Y4 Yb V V V V <| nu V V,fun _ hSw=>Za hSw C15 Yb V V V <| nu V V,fun _ hSw=>Za hSw C4 XH V V V <| nu V V,fun _=>Zf 1 W9 Y4 Yb V V V V <| nu V V,fun _ hSw=>Za hSw C16 Yb V V V <| nu V V,fun _ hSw=>YS hSw Yd V V V (Zco hSw.imm x12 x13 _ A28 _ A29) (congrArg Value.bool h13.symm),trivial⟩ (fun w24 S33=>?_)
   refine Za S33 C4 XH V V V ?_
   refine WL.indexAddr (hins.mono L6) 0 (by (rw [hinl]; have:=QF hpl (by omega); omega)) Y4 Yb V V V V (fun p14 x14 U13 E13=>?_)
   have T23 : x12 = x14:=Option.some.inj (U11.symm.trans U13)
   obtain rfl:=T23
   obtain ⟨D14,C17,R18⟩:=E13
   obtain ⟨v25,rfl,A30⟩:=R18
   refine Za S33 C17 Yb V V V ?_
   exact RT S33 V ⟨_,_,V,(Sl.cast A30 (by (rw [hcf]; with_reducible exact (Zd7 (by first | exact .inl ‹_› | exact .inr ‹_›) (by assumption : (List.map _ _)[0]? = some _) (by assumption : (List.map _ _)[1]? = some _) (of_decide_eq_true ‹_›)).1))),(congrArg (Value.int .i64) (by (rw [hcf]; with_reducible exact (Zd7 (by first | exact .inl ‹_› | exact .inr ‹_›) (by assumption : (List.map _ _)[0]? = some _) (by assumption : (List.map _ _)[1]? = some _) (of_decide_eq_true ‹_›)).2)))⟩
  refine dr [] [(98,v5),(99,Zu p12),(100,v23),(101,v5),(102,Zu p13),(103,v24),(104, .bool false)] S14 ⟨fun _ hSw=>Za hSw C4 XH V V V <| nu V V,fun _=>Zf 0 W8 Y4 Yb V V V V <| nu V V,fun _ hSw=>Za hSw C15 Yb V V V <| nu V V,fun _ hSw=>Za hSw C4 XH V V V <| nu V V,fun _=>Zf 1 W9 Y4 Yb V V V V <| nu V V,fun _ hSw=>Za hSw C16 Yb V V V <| nu V V,fun _ hSw=>YS hSw Yd V V V (Zco hSw.imm x12 x13 _ A28 _ A29) (congrArg Value.bool h13.symm),trivial⟩ (fun w25 S34=>?_)
  exact RT S34 V ⟨_,_,V,(Sl.cast (Sl.nil ColE 24 G6) (by (rw [hcf]; with_reducible exact (Zd6 (by first | exact .inl ‹_› | exact .inr ‹_›) (by assumption : (List.map _ _)[0]? = some _) (by assumption : (List.map _ _)[1]? = some _) (of_decide_eq_false ‹_›)).1))),(congrArg (Value.int .i64) (by (rw [hcf]; with_reducible exact (Zd6 (by first | exact .inl ‹_› | exact .inr ‹_›) (by assumption : (List.map _ _)[0]? = some _) (by assumption : (List.map _ _)[1]? = some _) (of_decide_eq_false ‹_›)).2)))⟩
 refine Zj q.kind 9 V V V (fun h14=>?_) (fun h14=>?_)
 ·have T24:=Sl.at (hins.mono L6) 0 (by (rw [hinl]; have:=QF hpl (by omega); omega))
  obtain ⟨p15,x15,U14,E14,W10⟩:=T24
  obtain ⟨D15,C18,R19⟩:=E14
  obtain ⟨v26,rfl,A31⟩:=R19
  refine drT [4,5,6,7,8] [(111, .agg (QV q v1 v2 v3 v4).toArray),(112,v5),(113,Zu p15),(114,v26)] S14 ⟨fun _ hSw=>Zc hSw (C1.mono j1) (QV q v1 v2 v3 v4) Zg V V V V V <| nu V V,fun _ hSw=>Za hSw C4 XH V V V <| nu V V,fun _=>Zf 0 W10 Y4 Yb V V V V <| nu V V,fun _ hSw=>Za hSw C18 Yb V V V <| nu V V,trivial⟩ (fun w26 S35=>?_)
  refine TG.fork 4 [4,5,6,7,8] [4] V V (by decide) (by decide) (TA.cons V ?_ TA.nil)
  have j3:=(((L1.trans L2).trans L5).trans L6)
  refine Zv S35 Zbt V V V (Zmg S35.imm q x15 _ (Zd q B1 B2 (A1.mono j3) (A2.mono j3) B3 B4 B5 B6 B7 ZK (A3.mono j3) hb9 Z9 Z7 Z6 (A4.mono j3)) _ A31 (Nat.le_trans hok.2.1 (by decide)) (Zpx hpl ‹_›)) ?_
  rintro w27 G16 _ ⟨r18,_,rfl,A32,rfl⟩ S36 L16
  refine ⟨fun h=>absurd h (by decide),?_⟩
  refine TG.quiet 3 [5,6,7,8] 5 V V V V V (by decide) (fun w9 K9 k9=>WL.extract _ _ V V V k9) ?_
  refine TG.quiet 2 [6,7,8] 6 V V V V V (by decide) (fun w9 K9 k9=>WL.extract _ _ V V V k9) ?_
  refine TG.quiet 1 [7,8] 7 V V V V V (by decide) (fun w9 K9 k9=>WL.assign V k9) ?_
  refine TG.quiet 0 [8] 8 V V V V V (by decide) (fun w9 K9 k9=>WL.assign V k9) ?_
  refine TG.fin V ?_
  exact RT S36 V ⟨_,_,V,(Sl.cast A32 (by (rw [hcf]; with_reducible exact congrArg Prod.fst (Zki ‹_› (by assumption : (List.map _ _)[0]? = some _))))),(congrArg (Value.int .i64) (by (rw [hcf]; with_reducible exact congrArg Prod.snd (Zki ‹_› (by assumption : (List.map _ _)[0]? = some _)))))⟩
 refine Zj q.kind 10 V V V (fun h15=>?_) (fun h15=>?_)
 ·refine Za S14 C4 XH V V V ?_
  refine WL.indexAddr (hins.mono L6) 1 (by (rw [hinl]; have:=op2 hpl (by omega); omega)) Y4 Yb V V V V (fun p16 x16 U15 E15=>?_)
  obtain ⟨D16,C19,R20⟩:=E15
  obtain ⟨v27,rfl,A33⟩:=R20
  refine Za S14 C19 Yb V V V ?_
  refine Zw S14 XN V V V (Zg5 S14.imm x16 (fun x8=>decide (0 ≤ Zx (((q.l.map fun x=>(Y5 n x l).1)[0]?).getD []) x8.name)) _ A33 127 #[.pointer (some (⟨b1,0,none⟩ : Addr))] ⟨Zbu,fun G8 w8 v8 x8 L8 hG8 hon8 hA8=>by obtain ⟨cs_x8,rfl,hr_x8⟩:=hA8; exact ZkJ hG8 x8 (q.l.map fun x=>(Y5 n x l).1) cs_x8 hr_x8 v5 ((hins.mono L6).mono L8) (⟨b1,0,none⟩ : Addr) (C4.mono L8) (by rw [hinl]; have:=QF hpl (by omega); omega)⟩) (fun w28 G17 S37 L17=>?_)
  refine WL.split (fun (h16 : (x16.any (fun x8=>decide (0 ≤ Zx (((q.l.map fun x=>(Y5 n x l).1)[0]?).getD []) x8.name))) = true)=>?_) (fun (h16 : (x16.any (fun x8=>decide (0 ≤ Zx (((q.l.map fun x=>(Y5 n x l).1)[0]?).getD []) x8.name))) = false)=>?_)
  ·exact RT S37 V ⟨_,_,V,(Sl.cast (Sl.nil ColE 24 G17) (by (rw [hcf]; with_reducible exact (Zh6 ‹_› (by assumption : (List.map _ _)[1]? = some _) ‹_›).1))),(congrArg (Value.int .i64) (by (rw [hcf]; with_reducible exact (Zh6 ‹_› (by assumption : (List.map _ _)[1]? = some _) ‹_›).2)))⟩
  have j4:=(L6.trans L17)
  have T25:=Sl.at (hins.mono j4) 0 (by (rw [hinl]; have:=QF hpl (by omega); omega))
  obtain ⟨p17,x17,U16,E16,W11⟩:=T25
  obtain ⟨D17,C20,R21⟩:=E16
  obtain ⟨v28,rfl,A34⟩:=R21
  have T26:=Sl.at (hins.mono j4) 1 (by (rw [hinl]; have:=op2 hpl (by omega); omega))
  obtain ⟨p18,x18,U17,E17,W12⟩:=T26
  have T27 : x16 = x18:=Option.some.inj (U15.symm.trans U17)
  obtain rfl:=T27
  obtain ⟨D18,C21,R22⟩:=E17
  obtain ⟨v29,rfl,A35⟩:=R22
  refine drT [6,7,8,9,10,11,12] [(125,v5),(126,Zu p17),(127,v28),(128,v5),(129,Zu p18),(130,v29)] S37 ⟨fun _ hSw=>Za hSw (C4.mono L17) XH V V V <| nu V V,fun _=>Zf 0 W11 Y4 Yb V V V V <| nu V V,fun _ hSw=>Za hSw C20 Yb V V V <| nu V V,fun _ hSw=>Za hSw (C4.mono L17) XH V V V <| nu V V,fun _=>Zf 1 W12 Y4 Yb V V V V <| nu V V,fun _ hSw=>Za hSw C21 Yb V V V <| nu V V,trivial⟩ (fun w29 S38=>?_)
  refine TG.fork 6 [6,7,8,9,10,11,12] [6] V V (by decide) (by decide) (TA.cons V ?_ TA.nil)
  refine WL.buildSlice _ [(0,[v28]),(1,[v29])] [v28,v29] S38 Zhx V V V (by show [(0,(v28 : Value).cells.toList),(1,(v29 : Value).cells.toList)] = _; simp only [A34.cells1,A35.cells1] <;> rfl) (fun z hz=>by match z,hz with | [z0,z1],_=>rfl) (fun b5 w30 N5 S39=>?_)
  refine ⟨fun h=>absurd h (by decide),?_⟩
  refine TG.fork 5 [7,8,9,10,11,12] [7] V V (by decide) (by decide) (TA.cons V ?_ TA.nil)
  have T28:=St.sealSl (E:=(ColE.slice 24)) (by_:=24) (l:=([x17,x16] : List (List Col))) S39 N5 ⟨[v28],_,V,⟨_,V,A34⟩,⟨[v29],_,V,⟨_,V,A35⟩,V⟩⟩ V (by simp [reach]) (by simp [reach])
  obtain ⟨G18,L18,A36,S40⟩:=T28
  refine Zv S40 Zbv V V V (ZnF S40.imm [x17,x16] _ A36 (by have h8:=hile _ (List.mem_of_getElem? (by assumption : (List.map _ _)[0]? = some _)); have h9:=hile _ (List.mem_of_getElem? (by assumption : (List.map _ _)[1]? = some _)); simp; omega)) (fun w31 G19 r20 P8 S41 L19=>?_)
  refine ⟨fun h=>absurd h (by decide),?_⟩
  refine TG.fork 4 [8,9,10,11,12] [8] V V (by decide) (by decide) (TA.cons V ?_ TA.nil)
  refine Zv S41 QU V V V (Zcn S41.imm ([x17,x16].flatten) _ P8) ?_
  rintro w32 G20 _ ⟨r22,_,rfl,A37,rfl⟩ S42 L20
  refine ⟨fun h=>absurd h (by decide),?_⟩
  refine TG.quiet 3 [9,10,11,12] 9 V V V V V (by decide) (fun w9 K9 k9=>WL.extract _ _ V V V k9) ?_
  refine TG.quiet 2 [10,11,12] 10 V V V V V (by decide) (fun w9 K9 k9=>WL.extract _ _ V V V k9) ?_
  refine TG.quiet 1 [11,12] 11 V V V V V (by decide) (fun w9 K9 k9=>WL.assign V k9) ?_
  refine TG.quiet 0 [12] 12 V V V V V (by decide) (fun w9 K9 k9=>WL.assign V k9) ?_
  refine TG.fin V ?_
  exact RT S42 V ⟨_,_,V,(Sl.cast A37 (by (rw [hcf]; with_reducible exact congrArg Prod.fst (Zh7 ‹_› (by assumption : (List.map _ _)[0]? = some _) (by assumption : (List.map _ _)[1]? = some _) ‹_›)))),(congrArg (Value.int .i64) (by (rw [hcf]; with_reducible exact congrArg Prod.snd (Zh7 ‹_› (by assumption : (List.map _ _)[0]? = some _) (by assumption : (List.map _ _)[1]? = some _) ‹_›))))⟩
 refine Za S14 C4 XH V V V ?_
 refine WL.indexAddr (hins.mono L6) 0 (by (rw [hinl]; have:=QF hpl (by omega); omega)) Y4 Yb V V V V (fun p19 x19 U18 E18=>?_)
 obtain ⟨D19,C22,R23⟩:=E18
 obtain ⟨v30,rfl,A38⟩:=R23
 refine Za S14 C22 Yb V V V ?_
 exact RT S14 V ⟨_,_,V,(Sl.cast A38 (by (rw [hcf]; with_reducible exact (Zkj ‹_› ‹_› ‹_› ‹_› ‹_› ‹_› ‹_› ‹_› ‹_› (by assumption : (List.map _ _)[0]? = some _)).1))),(congrArg (Value.int .i64) (by (rw [hcf]; with_reducible exact (Zkj ‹_› ‹_› ‹_› ‹_› ‹_› ‹_› ‹_› ‹_› ‹_› (by assumption : (List.map _ _)[0]? = some _)).2)))⟩
end Go.Civ
