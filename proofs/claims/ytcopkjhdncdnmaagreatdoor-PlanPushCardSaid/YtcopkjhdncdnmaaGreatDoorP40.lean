/- Lemmas. -/
import Derived.Test.YtcopkjhdncdnmaaGreatDoorP37
import Derived.Test.YtcopkjhdncdnmaaGreatDoorP39
set_option linter.unusedVariables false
set_option linter.unusedSimpArgs false
set_option maxRecDepth 100000
set_option maxHeartbeats 4000000
namespace Go.Civ
open Go.Proofs
theorem ZaN {G : GH} {w : World} (hG : G.In w) (n : Nat) (q : Query) (l : List Schema) (hg : Glob G) (cq : List Value) (hcq : QryE.rep G q cq) (vl : Value) (hvl : Sl SchemaE 72 G vl l) (hn : Xx q n) (hsm : smQ n q) : CL Tryz.prog (nat_lit 14) #[.agg cq.toArray,vl] [] w G fun G' _ r=>∃ r0 r1,r = .tuple #[r0,r1] ∧ Sl ColE 24 G' r0 ((ZP n q l).1) ∧ r1 = U ((ZP n q l).2):=by
 refine Zo ft [] Tryz.func14 V V ?_
 have hS:=St.start (X:=[]) hG
 have T1:=Ze hcq
 obtain ⟨v1,v2,v3,v4,rfl,B1,B2,A1,A2,B3,B4,B5,B6,B7,ZK,A3,hb9,Z9,Z7,Z6,A4⟩:=T1
 refine ZL [U q.kind,Zb q.table,v1,v2,U q.cond.kind,Zb q.cond.col,Zb q.cond.oth,U q.cond.v.k,U q.cond.v.n,Zb q.cond.v.s,v3,U q.rel,U q.fn,U q.span.a,U q.span.b,v4] _ hS V V V (fun p1 w1 G1 L1 M1 C1 S1=>?_)
 refine Zc S1 C1 [U q.kind,Zb q.table,v1,v2,U q.cond.kind,Zb q.cond.col,Zb q.cond.oth,U q.cond.v.k,U q.cond.v.n,Zb q.cond.v.s,v3,U q.rel,U q.fn,U q.span.a,U q.span.b,v4] Zg V V V V V ?_
 refine Zw S1 Q5 V V V (Zkb S1.imm n q (hg.mono L1) _ (Zd q B1 B2 (A1.mono L1) (A2.mono L1) B3 B4 B5 B6 B7 ZK (A3.mono L1) hb9 Z9 Z7 Z6 (A4.mono L1)) hn) (fun w2 G2 S2 L2=>?_)
 refine WL.split (fun (h1 : (Qp n q) = true)=>?_) (fun (h1 : (Qp n q) = false)=>?_)
 ·have V1:=hvl.bound
  have j1:=(L1.trans L2)
  refine Zl (hvl.mono j1) Zb3 V V ?_
  refine LP.go ft [] (fun m ρ1 w1=>∃ (k1 : Nat),∃ (G3 : GH),m = l.length - k1 ∧ G2.le G3 ∧ St w [] G G3 [] w1 ∧ FR ρ1 [(1,vl),(2,Zu p1),(13,vl),(14,U (l.length : Int)),(15,U (k1 : Int))] ∧ k1 ≤ l.length ∧ ∀ j,j < k1 → ∀ s,l[j]? = some s → gdA l j s = true) _ ⟨0,G2,V,(G2.le_refl),S2,(Yt V),(by omega),(by intro j hj; omega)⟩ ?_
  rintro m ρ1 w3 ⟨k1,G3,rfl,L3,S3,F9,f1,f2⟩
  refine F9.set ?_
  clear F9
  refine Z1 (k1 : Int) (l.length : Int) V V V (fun h2=>?_) (fun h2=>?_)
  ·have j2:=(j1.trans L3)
   refine WL.indexAddr (hvl.mono j2) k1 (by omega) Zb3 Xu V V V V (fun p2 x1 U1 E1=>?_)
   obtain ⟨D1,C2,R1⟩:=E1
   have T2:=Xb R1
   obtain ⟨v5,v6,rfl,ZV,A5,Ye,A6⟩:=T2
   refine Zc S3 C2 [Zb x1.name,v5,U x1.key,v6] Xu V V V V V ?_
   refine WL.alloc S3 Xu V V (fun b1 w4 N1 S4=>?_)
   refine ZY S4 0 [Zb x1.name,v5,U x1.key,v6] V V Xu V V (by simp only [ZW,A5.oneC,A6.oneC] <;> rfl) V V V (fun w5 S5=>?_)
   have T3:=S5.shutB N1
   obtain ⟨G4,L4,C3,S6⟩:=T3
   refine drT [2,5,6,7,8,9,10,11] [(25,Zb x1.name)] S6 ⟨fun _ hSw=>Za hSw (YC.drop 0 C3) Zy V V V <| nu V V,trivial⟩ (fun w6 S7=>?_)
   refine TG.fork 7 [2,5,6,7,8,9,10,11] [2,9] V V (by decide) (by decide) (TA.cons V ?_ (TA.cons V ?_ TA.nil))
   ·refine ZbY (hvl.mono (j2.trans L4)) k1 (by omega) Zb3 Xu V V V V (fun v7 A7=>?_)
    refine ⟨fun _=>S7.down S7.le (G4.le_refl),?_⟩
    refine TG.fork 6 [5,6,7,8,9,10,11] [5,9] V V (by decide) (by decide) (TA.cons V ?_ (TA.cons V ?_ TA.nil))
    ·refine Zv S7 QL V V V (Zh9 S7.imm (l.take k1) x1.name _ A7 ‹_›) ?_
     rintro w7 G5 _ ⟨r2,_,rfl,A8,rfl⟩ S8 L5
     obtain ⟨D2,rfl,R2⟩:=A8
     have T4:=Xb R2
     obtain ⟨v9,v10,rfl,Yd,A9,B16,A10⟩:=T4
     refine ⟨fun h=>absurd h (by decide),?_⟩
     refine TG.quiet 5 [6,7,8,9,10,11] 6 V V V V V (by decide) (fun w9 K9 k9=>WL.move V k9) ?_
     refine TG.quiet 4 [7,8,9,10,11] 7 V V V V V (by decide) (fun w9 K9 k9=>WL.extract _ _ V V V k9) ?_
     refine TG.quiet 3 [8,9,10,11] 8 V V V V V (by decide) (fun w9 K9 k9=>WL.extract _ _ V V V k9) ?_
     refine TG.fork 2 [9,10,11] [9] V V (by decide) (by decide) (TA.cons V ?_ TA.nil)
     refine WL.alloc S8 Xu V V (fun b2 w9 N2 S9=>?_)
     refine ⟨fun _=>S9.tail.down S7.le L5,?_⟩
     refine TG.fork 1 [10,11] [10] V V (by decide) (by decide) (TA.cons V ?_ TA.nil)
     refine ZY S9 0 [Zb (((YQ (l.take k1) x1.name).getD noS).name),v9,U (((YQ (l.take k1) x1.name).getD noS).key),v10] V V Xu V V (by simp only [ZW,A9.oneC,A10.oneC] <;> rfl) V V V (fun w10 S10=>?_)
     have T5:=S10.shutB N2
     obtain ⟨G6,L6,C4,S11⟩:=T5
     refine ⟨fun h=>absurd h (by decide),?_⟩
     refine TG.quiet 0 [11] 11 V V V V V (by decide) (fun w9 K9 k9=>WL.assign V k9) ?_
     refine TG.fin V ?_
     refine Zc S11 (C3.mono (L5.trans L6)) [Zb x1.name,v5,U x1.key,v6] Xu V V V V V ?_
     have j3:=((L4.trans L5).trans L6)
     refine Zw S11 Qt V V V (Zfi S11.imm x1 _ (Qu x1 ZV (A5.mono j3) Ye (A6.mono j3))) (fun w11 G7 S12 L7=>?_)
     refine WL.split (fun (h3 : (X3 x1) = true)=>?_) (fun (h3 : (X3 x1) = false)=>?_)
     ·refine Za S12 (YC.drop 0 (C4.mono L7)) Zy V V V <| Zn .neq V (((YQ (l.take k1) x1.name).getD noS).name) [] V V V ?_
      refine WL.split (fun h0=>?_) (fun h0=>?_)
      ·have h4 : (((YQ (l.take k1) x1.name).getD noS).name) ≠ []:=by simpa [SCmp.b] using h0
       clear h0
       exact RT S12 V ⟨_,_,V,(Sl.cast (Sl.nil ColE 24 G7) (by with_reducible exact (ZbK ‹_› (Zbb ‹_› (Zgk ‹_›))).1)),(congrArg (Value.int .i64) (by with_reducible exact (ZbK ‹_› (Zbb ‹_› (Zgk ‹_›))).2))⟩
      have h4 : (((YQ (l.take k1) x1.name).getD noS).name) = []:=by simpa [SCmp.b] using h0
      clear h0
      refine ZC k1 (by have:=Zm; omega) V V V ?_
      exact BK.mk' _ ⟨k1 + 1,G7,V,(L3.trans (j3.trans L7)),S12,(Yt V),(by omega),(by exact Za9 (P:=fun j s=>gdA l j s = true) ‹_› ‹_› (Zmd ‹_› ‹_›))⟩ (show l.length - (k1 + 1) < l.length - k1 by omega)
     exact RT S12 V ⟨_,_,V,(Sl.cast (Sl.nil ColE 24 G7) (by with_reducible exact (ZbK ‹_› (Zbb ‹_› (Zgj ‹_›))).1)),(congrArg (Value.int .i64) (by with_reducible exact (ZbK ‹_› (Zbb ‹_› (Zgj ‹_›))).2))⟩
    refine WL.alloc S7 Xu V V (fun b3 w12 N3 S13=>?_)
    refine ⟨fun _=>S13.tail.down S7.le (G4.le_refl),?_⟩
    refine TG.fork 5 [5,6,7,8,10,11] [5] V V (by decide) (by decide) (TA.cons V ?_ TA.nil)
    refine Zv S13 QL V V V (Zh9 S13.imm (l.take k1) x1.name _ A7 ‹_›) ?_
    rintro w13 G9 _ ⟨r5,_,rfl,A11,rfl⟩ S14 L9
    obtain ⟨D3,rfl,R3⟩:=A11
    have T6:=Xb R3
    obtain ⟨v11,v12,rfl,B17,A12,Yf,A13⟩:=T6
    refine ⟨fun h=>absurd h (by decide),?_⟩
    refine TG.quiet 4 [6,7,8,10,11] 6 V V V V V (by decide) (fun w9 K9 k9=>WL.move V k9) ?_
    refine TG.quiet 3 [7,8,10,11] 7 V V V V V (by decide) (fun w9 K9 k9=>WL.extract _ _ V V V k9) ?_
    refine TG.quiet 2 [8,10,11] 8 V V V V V (by decide) (fun w9 K9 k9=>WL.extract _ _ V V V k9) ?_
    refine TG.fork 1 [10,11] [10] V V (by decide) (by decide) (TA.cons V ?_ TA.nil)
    refine ZY S14 0 [Zb (((YQ (l.take k1) x1.name).getD noS).name),v11,U (((YQ (l.take k1) x1.name).getD noS).key),v12] V V Xu V V (by simp only [ZW,A12.oneC,A13.oneC] <;> rfl) V V V (fun w14 S15=>?_)
    have T7:=S15.shutB N3
    obtain ⟨G10,L10,C5,S16⟩:=T7
    refine ⟨fun h=>absurd h (by decide),?_⟩
    refine TG.quiet 0 [11] 11 V V V V V (by decide) (fun w9 K9 k9=>WL.assign V k9) ?_
    refine TG.fin V ?_
    refine Zc S16 (C3.mono (L9.trans L10)) [Zb x1.name,v5,U x1.key,v6] Xu V V V V V ?_
    refine Zw S16 Qt V V V (Zfi S16.imm x1 _ (Qu x1 ZV (A5.mono ((L4.trans L9).trans L10)) Ye (A6.mono ((L4.trans L9).trans L10)))) (fun w15 G11 S17 L11=>?_)
    refine WL.split (fun (h5 : (X3 x1) = true)=>?_) (fun (h5 : (X3 x1) = false)=>?_)
    ·refine Za S17 (YC.drop 0 (C5.mono L11)) Zy V V V <| Zn .neq V (((YQ (l.take k1) x1.name).getD noS).name) [] V V V ?_
     refine WL.split (fun h0=>?_) (fun h0=>?_)
     ·have h6 : (((YQ (l.take k1) x1.name).getD noS).name) ≠ []:=by simpa [SCmp.b] using h0
      clear h0
      exact RT S17 V ⟨_,_,V,(Sl.cast (Sl.nil ColE 24 G11) (by with_reducible exact (ZbK ‹_› (Zbb ‹_› (Zgk ‹_›))).1)),(congrArg (Value.int .i64) (by with_reducible exact (ZbK ‹_› (Zbb ‹_› (Zgk ‹_›))).2))⟩
     have h6 : (((YQ (l.take k1) x1.name).getD noS).name) = []:=by simpa [SCmp.b] using h0
     clear h0
     refine ZC k1 (by have:=Zm; omega) V V V ?_
     exact BK.mk' _ ⟨k1 + 1,G11,V,(L3.trans (((L4.trans L9).trans L10).trans L11)),S17,(Yt V),(by omega),(by exact Za9 (P:=fun j s=>gdA l j s = true) ‹_› ‹_› (Zmd ‹_› ‹_›))⟩ (show l.length - (k1 + 1) < l.length - k1 by omega)
    exact RT S17 V ⟨_,_,V,(Sl.cast (Sl.nil ColE 24 G11) (by with_reducible exact (ZbK ‹_› (Zbb ‹_› (Zgj ‹_›))).1)),(congrArg (Value.int .i64) (by with_reducible exact (ZbK ‹_› (Zbb ‹_› (Zgj ‹_›))).2))⟩
   refine WL.alloc S7 Xu V V (fun b4 w16 N4 S18=>?_)
   refine ⟨fun _=>S18.tail.down S7.le (G4.le_refl),?_⟩
   refine TG.fork 6 [2,5,6,7,8,10,11] [2] V V (by decide) (by decide) (TA.cons V ?_ TA.nil)
   refine ZbY (hvl.mono (j2.trans L4)) k1 (by omega) Zb3 Xu V V V V (fun v13 A14=>?_)
   refine ⟨fun _=>S18.tail.down S7.le (G4.le_refl),?_⟩
   refine TG.fork 5 [5,6,7,8,10,11] [5] V V (by decide) (by decide) (TA.cons V ?_ TA.nil)
   refine Zv S18 QL V V V (Zh9 S18.imm (l.take k1) x1.name _ A14 ‹_›) ?_
   rintro w17 G12 _ ⟨r8,_,rfl,A15,rfl⟩ S19 L12
   obtain ⟨D4,rfl,R4⟩:=A15
   have T8:=Xb R4
   obtain ⟨v14,v15,rfl,B19,A16,B20,A17⟩:=T8
   refine ⟨fun h=>absurd h (by decide),?_⟩
   refine TG.quiet 4 [6,7,8,10,11] 6 V V V V V (by decide) (fun w9 K9 k9=>WL.move V k9) ?_
   refine TG.quiet 3 [7,8,10,11] 7 V V V V V (by decide) (fun w9 K9 k9=>WL.extract _ _ V V V k9) ?_
   refine TG.quiet 2 [8,10,11] 8 V V V V V (by decide) (fun w9 K9 k9=>WL.extract _ _ V V V k9) ?_
   refine TG.fork 1 [10,11] [10] V V (by decide) (by decide) (TA.cons V ?_ TA.nil)
   refine ZY S19 0 [Zb (((YQ (l.take k1) x1.name).getD noS).name),v14,U (((YQ (l.take k1) x1.name).getD noS).key),v15] V V Xu V V (by simp only [ZW,A16.oneC,A17.oneC] <;> rfl) V V V (fun w18 S20=>?_)
   have T9:=S20.shutB N4
   obtain ⟨G13,L13,C6,S21⟩:=T9
   refine ⟨fun h=>absurd h (by decide),?_⟩
   refine TG.quiet 0 [11] 11 V V V V V (by decide) (fun w9 K9 k9=>WL.assign V k9) ?_
   refine TG.fin V ?_
   refine Zc S21 (C3.mono (L12.trans L13)) [Zb x1.name,v5,U x1.key,v6] Xu V V V V V ?_
   have j4:=((L4.trans L12).trans L13)
   refine Zw S21 Qt V V V (Zfi S21.imm x1 _ (Qu x1 ZV (A5.mono j4) Ye (A6.mono j4))) (fun w19 G14 S22 L14=>?_)
   refine WL.split (fun (h7 : (X3 x1) = true)=>?_) (fun (h7 : (X3 x1) = false)=>?_)
   ·refine Za S22 (YC.drop 0 (C6.mono L14)) Zy V V V <| Zn .neq V (((YQ (l.take k1) x1.name).getD noS).name) [] V V V ?_
    refine WL.split (fun h0=>?_) (fun h0=>?_)
    ·have h8 : (((YQ (l.take k1) x1.name).getD noS).name) ≠ []:=by simpa [SCmp.b] using h0
     clear h0
     exact RT S22 V ⟨_,_,V,(Sl.cast (Sl.nil ColE 24 G14) (by with_reducible exact (ZbK ‹_› (Zbb ‹_› (Zgk ‹_›))).1)),(congrArg (Value.int .i64) (by with_reducible exact (ZbK ‹_› (Zbb ‹_› (Zgk ‹_›))).2))⟩
    have h8 : (((YQ (l.take k1) x1.name).getD noS).name) = []:=by simpa [SCmp.b] using h0
    clear h0
    refine ZC k1 (by have:=Zm; omega) V V V ?_
    exact BK.mk' _ ⟨k1 + 1,G14,V,(L3.trans (j4.trans L14)),S22,(Yt V),(by omega),(by exact Za9 (P:=fun j s=>gdA l j s = true) ‹_› ‹_› (Zmd ‹_› ‹_›))⟩ (show l.length - (k1 + 1) < l.length - k1 by omega)
   exact RT S22 V ⟨_,_,V,(Sl.cast (Sl.nil ColE 24 G14) (by with_reducible exact (ZbK ‹_› (Zbb ‹_› (Zgj ‹_›))).1)),(congrArg (Value.int .i64) (by with_reducible exact (ZbK ‹_› (Zbb ‹_› (Zgj ‹_›))).2))⟩
  have hgd9:=Zn2 (by assumption : ∀ j,j < k1 → ∀ s,l[j]? = some s → gdA l j s = true) (by omega)
  refine Zc S3 (C1.mono (L2.trans L3)) [U q.kind,Zb q.table,v1,v2,U q.cond.kind,Zb q.cond.col,Zb q.cond.oth,U q.cond.v.k,U q.cond.v.n,Zb q.cond.v.s,v3,U q.rel,U q.fn,U q.span.a,U q.span.b,v4] Zg V V V V V ?_
  have j5:=(j1.trans L3)
  refine Zv S3 ZaT V V V (Zqn n S3.imm q l _ (Zd q B1 B2 (A1.mono j5) (A2.mono j5) B3 B4 B5 B6 B7 ZK (A3.mono j5) hb9 Z9 Z7 Z6 (A4.mono j5)) _ (hvl.mono j5) (ZhZ hgd9) hn (ZfL ‹_› hsm)) ?_
  rintro w20 G15 _ ⟨r11,_,rfl,A18,rfl⟩ S23 L15
  exact RT S23 V ⟨_,_,V,(Sl.cast A18 (by with_reducible exact congrArg Prod.fst (Zgl ‹_› hgd9))),(congrArg (Value.int .i64) (by with_reducible exact congrArg Prod.snd (Zgl ‹_› hgd9)))⟩
 exact RT S2 V ⟨_,_,V,(Sl.cast (Sl.nil ColE 24 G2) (by with_reducible exact (Zjc ‹_›).1)),(congrArg (Value.int .i64) (by with_reducible exact (Zjc ‹_›).2))⟩
end Go.Civ
set_option linter.unusedVariables false
set_option linter.unusedSimpArgs false
set_option maxRecDepth 100000
set_option maxHeartbeats 4000000
namespace Go.Civ
open Go.Proofs
theorem Zg6 {G : GH} {w : World} (hG : G.In w) (n : Nat) (q : Query) (l : List Schema) (cq : List Value) (hcq : QryE.rep G q cq) (vl : Value) (hvl : Sl SchemaE 72 G vl l) (hgs : QG l = true) (hn : Xx q n) (hsm : smQ n q) : CL Tryz.prog (nat_lit 50) #[.agg cq.toArray,vl] [] w G fun G' _ r=>∃ r0 r1,r = .tuple #[r0,r1] ∧ Sl ColE 24 G' r0 ((ZP n q l).1) ∧ r1 = U ((ZP n q l).2):=by
 refine Zo ft [] Tryz.func50 V V ?_
 have hS:=St.start (X:=[]) hG
 obtain ⟨v1,v2,v3,v4,rfl,B1,B2,A1,A2,B3,B4,B5,B6,B7,ZK,A3,hb9,Z9,Z7,Z6,A4⟩:=Ze hcq
 refine ZL (QV q v1 v2 v3 v4) _ hS V V V (fun p1 w1 G1 L1 M1 C1 S1=>?_)
 refine Zc S1 C1 (QV q v1 v2 v3 v4) Zg V V V V V ?_
 refine Zw S1 XM V V V (Zi6 S1.imm n q _ (Zd q B1 B2 (A1.mono L1) (A2.mono L1) B3 B4 B5 B6 B7 ZK (A3.mono L1) hb9 Z9 Z7 Z6 (A4.mono L1)) hn) (fun w2 G2 S2 L2=>?_)
 refine WL.split (fun (h1 : (Qp n q) = true)=>?_) (fun (h1 : (Qp n q) = false)=>?_)
 ·refine Zc S2 (C1.mono L2) (QV q v1 v2 v3 v4) Zg V V V V V ?_
  have j1:=(L1.trans L2)
  refine Zv S2 Zao V V V (ZoK n S2.imm q l _ (Zd q B1 B2 (A1.mono j1) (A2.mono j1) B3 B4 B5 B6 B7 ZK (A3.mono j1) hb9 Z9 Z7 Z6 (A4.mono j1)) _ (hvl.mono j1) hgs hn (ZfL ‹_› hsm)) ?_
  rintro w3 G3 _ ⟨r2,_,rfl,A5,rfl⟩ S3 L3
  exact RT S3 V ⟨_,_,V,(Sl.cast A5 (by with_reducible exact congrArg Prod.fst (Zgl ‹_› hgs))),(congrArg (Value.int .i64) (by with_reducible exact congrArg Prod.snd (Zgl ‹_› hgs)))⟩
 exact RT S2 V ⟨_,_,V,(Sl.cast (Sl.nil ColE 24 G2) (by with_reducible exact (Zjc ‹_›).1)),(congrArg (Value.int .i64) (by with_reducible exact (Zjc ‹_›).2))⟩
theorem Zlr {G : GH} {w : World} (hG : G.In w) (a b : Span) (ca : List Value) (hca : SpanE.rep G a ca) (cb : List Value) (hcb : SpanE.rep G b cb) : CL Tryz.prog (nat_lit 162) #[.agg ca.toArray, .agg cb.toArray] [] w G fun G' _ r=>∃ r0 r1,r = .tuple #[r0,r1] ∧ Is SpanE G' r0 ((ZR a b).1) ∧ r1 = .bool ((ZR a b).2):=by
 refine YA ft [] Tryz.func162 V V ?_
 have hS:=St.start (X:=[]) hG
 obtain ⟨rfl,B1,B2⟩:=Ql hca
 obtain ⟨rfl,B3,B4⟩:=Ql hcb
 refine ZL [U a.a,U a.b] _ hS V V V (fun p1 w1 G1 L1 M1 C1 S1=>?_)
 refine ZL [U b.a,U b.b] _ S1 V V V (fun p2 w2 G2 L2 M2 C2 S2=>?_)
 refine WL.alloc S2 Y7 V V (fun b1 w3 N1 S3=>?_)
 refine Za S3 (YC.drop 0 (C1.mono L2)) Z3 V V V <| Za S3 (YC.drop 0 C2) Z3 V V V <| ZkO a.a b.a V V V <| Za S3 (YC.drop 1 (C1.mono L2)) Z3 V V V <| Za S3 (YC.drop 1 C2) Z3 V V V <| ZkP a.b b.b V V V <| WL.build _ [(0,[U (max a.a b.a)]),(1,[U (min a.b b.b)])] [U (max a.a b.a),U (min a.b b.b)] Y7 V ZeH V V V V ?_
 refine WL.alloc S3 Y7 V V (fun b2 w4 N2 S4=>?_)
 refine ZY S4 0 [U (max a.a b.a),U (min a.b b.b)] V V Y7 V V V V V V (fun w5 S5=>?_)
 obtain ⟨G3,L3,C3,S6⟩:=S5.shutB N2
 refine Za S6 (YC.drop 0 C3) Z3 V V V <| Za S6 (YC.drop 1 C3) Z3 V V V ?_
 refine Y9 (max a.a b.a) (min a.b b.b) V V V (fun h1=>?_) (fun h1=>?_)
 ·refine WL.build _ [] [U 0,U 0] Y7 V ZeH V V V V ?_
  refine ZY S6 0 [U 0,U 0] V V Y7 V V V V V V (fun w6 S7=>?_)
  exact YD [.agg #[U 0,U 0], .bool false] S7 ⟨_,_,_,V,V,S7.loadA 0 _ _ _ 0 [U 0,U 0] V V V Y7 V,⟨_,V,V⟩⟩ ⟨_,_,V,(Is.cast ⟨_,V,(X2 (Span.mk 0 0) Yr Yr)⟩ (by exact (ZhA ‹_›).1)),(congrArg Value.bool (by exact (ZhA ‹_›).2))⟩
 refine Zc S6 C3 [U (max a.a b.a),U (min a.b b.b)] Y7 V V V V V ?_
 refine ZY S6 0 [U (max a.a b.a),U (min a.b b.b)] V V Y7 V V V V V V (fun w7 S8=>?_)
 exact YD [.agg #[U (max a.a b.a),U (min a.b b.b)], .bool true] S8 ⟨_,_,_,V,V,S8.loadA 0 _ _ _ 0 [U (max a.a b.a),U (min a.b b.b)] V V V Y7 V,⟨_,V,V⟩⟩ ⟨_,_,V,(Is.cast ⟨_,V,(X2 (Span.mk (max a.a b.a) (min a.b b.b)) (ZkR B1 B3) (ZkS B2 B4))⟩ (by exact (ZhB (by omega)).1)),(congrArg Value.bool (by exact (ZhB (by omega)).2))⟩
theorem Zib {G : GH} {w : World} (hG : G.In w) (q : Query) (cq : List Value) (hcq : QryE.rep G q cq) : CL Tryz.prog (nat_lit 106) #[.agg cq.toArray] [] w G fun G' _ r=>Is QryE G' r (ZA q):=by
 refine YA ft [] Tryz.func106 V V ?_
 have hS:=St.start (X:=[]) hG
 obtain ⟨v1,v2,v3,v4,rfl,B1,B2,A1,A2,B3,B4,B5,B6,B7,ZK,A3,hb9,Z9,Z7,Z6,A4⟩:=Ze hcq
 refine WL.box (QV q v1 v2 v3 v4) _ hS V V V (fun b1 w1 N1 S1=>?_)
 refine WL.alloc S1 Zg V V (fun b2 w2 N2 S2=>?_)
 refine WL.store S2 1 _ _ _ 15 _ [Zh] (QV q v1 v2 v3 (Zh)) _ V V ZX V (ZN V) V V V V V V (fun w3 S3=>?_)
 refine Zs S3 1 _ _ _ 0 (QV q v1 v2 v3 (Zh)) V V V Zg V V V ?_
 refine WL.store S3 0 _ _ _ 0 _ (QV q v1 v2 v3 (Zh)) (QV q v1 v2 v3 (Zh)) _ V V Zg V (ZN V) (by simp only [ZW,A1.oneC,A2.oneC,A3.oneC] <;> rfl) V V V V V (fun w4 S4=>?_)
 obtain ⟨G1,L1,C1,S5⟩:=S4.shutB N2
 exact YD [.agg (QV q v1 v2 v3 (Zh)).toArray] S5 ⟨_,_,_,V,V,S5.loadC C1 Zg V V,V⟩ (Is.cast ⟨_,V,(Zd (Query.mk q.kind q.table q.cols q.names q.cond q.rel q.fn q.span []) B1 B2 (A1.mono L1) (A2.mono L1) B3 B4 B5 B6 B7 ZK (A3.mono L1) hb9 Z9 Z7 Z6 (Sl.nil QryE 224 G1))⟩ (by rfl))
theorem Xl {G : GH} {w : World} (hG : G.In w) (q : Query) (l : List Query) (cq : List Value) (hcq : QryE.rep G q cq) (vl : Value) (hvl : Sl QryE 224 G vl l) : CL Tryz.prog (nat_lit 108) #[.agg cq.toArray,vl] [] w G fun G' _ r=>Is QryE G' r (Zk q l):=by
 refine YA ft [] Tryz.func108 V V ?_
 have hS:=St.start (X:=[]) hG
 obtain ⟨v1,v2,v3,v4,rfl,B1,B2,A1,A2,B3,B4,B5,B6,B7,ZK,A3,hb9,Z9,Z7,Z6,A4⟩:=Ze hcq
 refine WL.box (QV q v1 v2 v3 v4) _ hS V V V (fun b1 w1 N1 S1=>?_)
 refine WL.alloc S1 Zg V V (fun b2 w2 N2 S2=>?_)
 refine WL.store S2 1 _ _ _ 15 _ [vl] (QV q v1 v2 v3 vl) _ V hvl.cells1 ZX V (ZN V) (by simp only [ZW,hvl.oneC] <;> rfl) V V V V V (fun w3 S3=>?_)
 refine Zs S3 1 _ _ _ 0 (QV q v1 v2 v3 vl) V V V Zg V V V ?_
 refine WL.store S3 0 _ _ _ 0 _ (QV q v1 v2 v3 vl) (QV q v1 v2 v3 vl) _ V V Zg V (ZN V) (by simp only [ZW,A1.oneC,A2.oneC,A3.oneC,hvl.oneC] <;> rfl) V V V V V (fun w4 S4=>?_)
 obtain ⟨G1,L1,C1,S5⟩:=S4.shutB N2
 exact YD [.agg (QV q v1 v2 v3 vl).toArray] S5 ⟨_,_,_,V,V,S5.loadC C1 Zg V V,V⟩ (Is.cast ⟨_,V,(Zd (Query.mk q.kind q.table q.cols q.names q.cond q.rel q.fn q.span l) B1 B2 (A1.mono L1) (A2.mono L1) B3 B4 B5 B6 B7 ZK (A3.mono L1) hb9 Z9 Z7 Z6 (hvl.mono L1))⟩ (by rfl))
theorem Zqp {G : GH} {w : World} (hG : G.In w) (a b : Span) (ca : List Value) (hca : SpanE.rep G a ca) (cb : List Value) (hcb : SpanE.rep G b cb) : CL Tryz.prog (nat_lit 101) #[.agg ca.toArray, .agg cb.toArray] [] w G fun G' _ r=>∃ r0 r1,r = .tuple #[r0,r1] ∧ Is SpanE G' r0 ((ZR a b).1) ∧ r1 = .bool ((ZR a b).2):=by
 refine YA ft [] Tryz.func101 V V ?_
 have hS:=St.start (X:=[]) hG
 obtain ⟨rfl,B1,B2⟩:=Ql hca
 obtain ⟨rfl,B3,B4⟩:=Ql hcb
 refine ZL [U a.a,U a.b] _ hS V V V (fun p1 w1 G1 L1 M1 C1 S1=>?_)
 refine ZL [U b.a,U b.b] _ S1 V V V (fun p2 w2 G2 L2 M2 C2 S2=>?_)
 refine WL.alloc S2 Y7 V V (fun b1 w3 N1 S3=>?_)
 refine Za S3 (YC.drop 0 (C1.mono L2)) Z3 V V V <| Za S3 (YC.drop 0 C2) Z3 V V V <| ZkO a.a b.a V V V <| Za S3 (YC.drop 1 (C1.mono L2)) Z3 V V V <| Za S3 (YC.drop 1 C2) Z3 V V V <| ZkP a.b b.b V V V <| WL.build _ [(0,[U (max a.a b.a)]),(1,[U (min a.b b.b)])] [U (max a.a b.a),U (min a.b b.b)] Y7 V ZeH V V V V ?_
 refine WL.alloc S3 Y7 V V (fun b2 w4 N2 S4=>?_)
 refine ZY S4 0 [U (max a.a b.a),U (min a.b b.b)] V V Y7 V V V V V V (fun w5 S5=>?_)
 obtain ⟨G3,L3,C3,S6⟩:=S5.shutB N2
 refine Za S6 (YC.drop 0 C3) Z3 V V V <| Za S6 (YC.drop 1 C3) Z3 V V V ?_
 refine Y9 (max a.a b.a) (min a.b b.b) V V V (fun h1=>?_) (fun h1=>?_)
 ·refine WL.build _ [] [U 0,U 0] Y7 V ZeH V V V V ?_
  refine ZY S6 0 [U 0,U 0] V V Y7 V V V V V V (fun w6 S7=>?_)
  exact YD [.agg #[U 0,U 0], .bool false] S7 ⟨_,_,_,V,V,S7.loadA 0 _ _ _ 0 [U 0,U 0] V V V Y7 V,⟨_,V,V⟩⟩ ⟨_,_,V,(Is.cast ⟨_,V,(X2 (Span.mk 0 0) Yr Yr)⟩ (by exact (ZhA ‹_›).1)),(congrArg Value.bool (by exact (ZhA ‹_›).2))⟩
 refine Zc S6 C3 [U (max a.a b.a),U (min a.b b.b)] Y7 V V V V V ?_
 refine ZY S6 0 [U (max a.a b.a),U (min a.b b.b)] V V Y7 V V V V V V (fun w7 S8=>?_)
 exact YD [.agg #[U (max a.a b.a),U (min a.b b.b)], .bool true] S8 ⟨_,_,_,V,V,S8.loadA 0 _ _ _ 0 [U (max a.a b.a),U (min a.b b.b)] V V V Y7 V,⟨_,V,V⟩⟩ ⟨_,_,V,(Is.cast ⟨_,V,(X2 (Span.mk (max a.a b.a) (min a.b b.b)) (ZkR B1 B3) (ZkS B2 B4))⟩ (by exact (ZhB (by omega)).1)),(congrArg Value.bool (by exact (ZhB (by omega)).2))⟩
theorem Zqq {G : GH} {w : World} (hG : G.In w) (q : Query) (cq : List Value) (hcq : QryE.rep G q cq) : CL Tryz.prog (nat_lit 116) #[.agg cq.toArray] [] w G fun G' _ r=>Is QryE G' r (ZA q):=by
 refine YA ft [] Tryz.func116 V V ?_
 have hS:=St.start (X:=[]) hG
 obtain ⟨v1,v2,v3,v4,rfl,B1,B2,A1,A2,B3,B4,B5,B6,B7,ZK,A3,hb9,Z9,Z7,Z6,A4⟩:=Ze hcq
 refine WL.box (QV q v1 v2 v3 v4) _ hS V V V (fun b1 w1 N1 S1=>?_)
 refine WL.alloc S1 Zg V V (fun b2 w2 N2 S2=>?_)
 refine WL.store S2 1 _ _ _ 15 _ [Zh] (QV q v1 v2 v3 (Zh)) _ V V ZX V (ZN V) V V V V V V (fun w3 S3=>?_)
 refine Zs S3 1 _ _ _ 0 (QV q v1 v2 v3 (Zh)) V V V Zg V V V ?_
 refine WL.store S3 0 _ _ _ 0 _ (QV q v1 v2 v3 (Zh)) (QV q v1 v2 v3 (Zh)) _ V V Zg V (ZN V) (by simp only [ZW,A1.oneC,A2.oneC,A3.oneC] <;> rfl) V V V V V (fun w4 S4=>?_)
 obtain ⟨G1,L1,C1,S5⟩:=S4.shutB N2
 exact YD [.agg (QV q v1 v2 v3 (Zh)).toArray] S5 ⟨_,_,_,V,V,S5.loadC C1 Zg V V,V⟩ (Is.cast ⟨_,V,(Zd (Query.mk q.kind q.table q.cols q.names q.cond q.rel q.fn q.span []) B1 B2 (A1.mono L1) (A2.mono L1) B3 B4 B5 B6 B7 ZK (A3.mono L1) hb9 Z9 Z7 Z6 (Sl.nil QryE 224 G1))⟩ (by rfl))
theorem Xm {G : GH} {w : World} (hG : G.In w) (q : Query) (l : List Query) (cq : List Value) (hcq : QryE.rep G q cq) (vl : Value) (hvl : Sl QryE 224 G vl l) : CL Tryz.prog (nat_lit 119) #[.agg cq.toArray,vl] [] w G fun G' _ r=>Is QryE G' r (Zk q l):=by
 refine YA ft [] Tryz.func119 V V ?_
 have hS:=St.start (X:=[]) hG
 obtain ⟨v1,v2,v3,v4,rfl,B1,B2,A1,A2,B3,B4,B5,B6,B7,ZK,A3,hb9,Z9,Z7,Z6,A4⟩:=Ze hcq
 refine WL.box (QV q v1 v2 v3 v4) _ hS V V V (fun b1 w1 N1 S1=>?_)
 refine WL.alloc S1 Zg V V (fun b2 w2 N2 S2=>?_)
 refine WL.store S2 1 _ _ _ 15 _ [vl] (QV q v1 v2 v3 vl) _ V hvl.cells1 ZX V (ZN V) (by simp only [ZW,hvl.oneC] <;> rfl) V V V V V (fun w3 S3=>?_)
 refine Zs S3 1 _ _ _ 0 (QV q v1 v2 v3 vl) V V V Zg V V V ?_
 refine WL.store S3 0 _ _ _ 0 _ (QV q v1 v2 v3 vl) (QV q v1 v2 v3 vl) _ V V Zg V (ZN V) (by simp only [ZW,A1.oneC,A2.oneC,A3.oneC,hvl.oneC] <;> rfl) V V V V V (fun w4 S4=>?_)
 obtain ⟨G1,L1,C1,S5⟩:=S4.shutB N2
 exact YD [.agg (QV q v1 v2 v3 vl).toArray] S5 ⟨_,_,_,V,V,S5.loadC C1 Zg V V,V⟩ (Is.cast ⟨_,V,(Zd (Query.mk q.kind q.table q.cols q.names q.cond q.rel q.fn q.span l) B1 B2 (A1.mono L1) (A2.mono L1) B3 B4 B5 B6 B7 ZK (A3.mono L1) hb9 Z9 Z7 Z6 (hvl.mono L1))⟩ (by rfl))
theorem Zfs {G : GH} {w : World} (hG : G.In w) (n : Nat) (q : Query) (l : List Schema) (hg : Glob G) (cq : List Value) (hcq : QryE.rep G q cq) (vl : Value) (hvl : Sl SchemaE 72 G vl l) (hn : Xx q n) (hsm : smQ n q) : CL Tryz.prog (nat_lit 205) #[.agg cq.toArray,vl] [] w G fun G' _ r=>Sl Enc.str 16 G' r ((ZP n q l).1.map Col.name):=by
 refine Zo ft [] Tryz.func205 V V ?_
 have hcl9:=ZhC (l:=l) hsm
 have hS:=St.start (X:=[]) hG
 obtain ⟨v1,v2,v3,v4,rfl,B1,B2,A1,A2,B3,B4,B5,B6,B7,ZK,A3,hb9,Z9,Z7,Z6,A4⟩:=Ze hcq
 refine ZL (QV q v1 v2 v3 v4) _ hS V V V (fun p1 w1 G1 L1 M1 C1 S1=>?_)
 refine Zc S1 C1 (QV q v1 v2 v3 v4) Zg V V V V V <| Zv S1 Ye V V V (ZaN S1.imm n q l (hg.mono L1) _ (Zd q B1 B2 (A1.mono L1) (A2.mono L1) B3 B4 B5 B6 B7 ZK (A3.mono L1) hb9 Z9 Z7 Z6 (A4.mono L1)) _ (hvl.mono L1) hn hsm) ?_
 rintro w2 G2 _ ⟨r2,_,rfl,A5,rfl⟩ S2 L2
 have V1:=A5.bound
 refine Zl A5 Yx V V ?_
 have S4:=S2.pad
 refine LP.go ft [] (fun m ρ1 w1=>∃ (k1 : Nat),∃ (v5 : Value) (o1 : OB),∃ (G3 : GH),m = ((ZP n q l).1).length - k1 ∧ G2.le G3 ∧ St w [] G G3 [o1] w1 ∧ YH Enc.str 16 9 G3 v5 (((ZP n q l).1.take k1).map Col.name) o1 ∧ FR ρ1 [(7,v5),(16,r2),(17,U ((((ZP n q l).1).length : Nat) : Int)),(18,U (k1 : Int))] ∧ k1 ≤ ((ZP n q l).1).length) _ ⟨0,(Zh),none,G2,V,(G2.le_refl),S4,(YH.cast (YH.nil Enc.str 16 9 G2) (by simp)),(Yt V),(by omega)⟩ ?_
 rintro m ρ1 w3 ⟨k1,v5,o1,G3,rfl,L3,S3,R1,F9,f1⟩
 refine F9.set ?_
 clear F9
 have hlt9:=List.length_take_le' k1 (ZP n q l).1
 refine Z1 (k1 : Int) ((((ZP n q l).1).length : Nat) : Int) V V V (fun h1=>?_) (fun h1=>?_)
 ·refine WL.indexAddr (A5.mono L3) k1 (by omega) Yx Ym V V V V (fun p2 x1 U1 E1=>?_)
  obtain ⟨D1,C2,R2⟩:=E1
  obtain ⟨rfl,ZV,Yd⟩:=Yh R2
  refine Zc S3 C2 [Zb x1.name,U x1.kind] Ym V V V V V ?_
  refine WL.alloc S3 Ym V V (fun b1 w4 N1 S5=>?_)
  refine ZY S5 0 [Zb x1.name,U x1.kind] V V Ym V V V V V V (fun w5 S6=>?_)
  obtain ⟨G4,L4,C3,S7⟩:=S6.shutB N1
  refine Za S7 (YC.drop 0 C3) Zy V V V ?_
  refine WL.buildSlice _ [(0,[Zb x1.name])] [Zb x1.name] S7 ZaA V V V V (fun z hz=>by match z,hz with | [z0],_=>rfl) (fun b2 w6 N2 S8=>?_)
  refine WL.push (m:=([x1.name] : List (List UInt8))) ZaA V V V (R1.mono L4) S8 1 V 0 _ _ _ _ _ V ⟨[Zb x1.name],_,V,⟨V,ZV⟩,V⟩ V (by have:=Zm; simp only [List.length_append,List.length_map,List.length_take,List.length_cons,List.length_nil]; omega) (by have:=Zm; simp only [List.length_append,List.length_map,List.length_take,List.length_cons,List.length_nil]; omega) V V V (fun v6 o2 w7 R3 S9=>?_)
  have S10:=S9.tail
  refine ZC k1 (by have:=Zm; omega) V V V ?_
  exact BK.mk' _ ⟨k1 + 1,v6,o2,G4,V,(L3.trans L4),S10,(YH.cast R3 (by (rw [List.take_add_one,(by assumption : (ZP n q l).1[k1]? = some _)]; simp))),(Yt V),(by omega)⟩ (show ((ZP n q l).1).length - (k1 + 1) < ((ZP n q l).1).length - k1 by omega)
 obtain ⟨G5,L5,A6,S11⟩:=YH.freeze R1 S3 0 V
 exact RT S11 V (Sl.cast A6 (by rw [List.take_of_length_le (by omega)]))
theorem Zd8 {G : GH} {w : World} (hG : G.In w) (n : Nat) (q : Query) (l : List Schema) (cq : List Value) (hcq : QryE.rep G q cq) (vl : Value) (hvl : Sl SchemaE 72 G vl l) (hgs : QG l = true) (hn : Xx q n) (hsm : smQ n q) : CL Tryz.prog (nat_lit 221) #[.agg cq.toArray,vl] [] w G fun G' _ r=>Sl Enc.str 16 G' r ((ZP n q l).1.map Col.name):=by
 refine Zo ft [] Tryz.func221 V V ?_
 have hcl9:=ZhC (l:=l) hsm
 have hS:=St.start (X:=[]) hG
 obtain ⟨v1,v2,v3,v4,rfl,B1,B2,A1,A2,B3,B4,B5,B6,B7,ZK,A3,hb9,Z9,Z7,Z6,A4⟩:=Ze hcq
 refine ZL (QV q v1 v2 v3 v4) _ hS V V V (fun p1 w1 G1 L1 M1 C1 S1=>?_)
 refine Zc S1 C1 (QV q v1 v2 v3 v4) Zg V V V V V <| Zv S1 QK V V V (Zg6 S1.imm n q l _ (Zd q B1 B2 (A1.mono L1) (A2.mono L1) B3 B4 B5 B6 B7 ZK (A3.mono L1) hb9 Z9 Z7 Z6 (A4.mono L1)) _ (hvl.mono L1) hgs hn hsm) ?_
 rintro w2 G2 _ ⟨r2,_,rfl,A5,rfl⟩ S2 L2
 have S4:=S2.pad
 refine LP.go ft [] (fun m ρ1 w1=>∃ (k1 : Nat),∃ (v5 : Value) (o1 : OB),∃ (G3 : GH),m = (ZP n q l).1.length - k1 ∧ G2.le G3 ∧ St w [] G G3 [o1] w1 ∧ YH Enc.str 16 9 G3 v5 (((ZP n q l).1.take k1).map Col.name) o1 ∧ FR ρ1 [(5,r2),(7,v5),(8,U (k1 : Int))] ∧ k1 ≤ (ZP n q l).1.length) _ ⟨0,(Zh),none,G2,V,(G2.le_refl),S4,(YH.cast (YH.nil Enc.str 16 9 G2) (by simp)),⟨V,V,V,trivial⟩,(by omega)⟩ ?_
 rintro m ρ1 w3 ⟨k1,v5,o1,G3,rfl,L3,S3,R1,F9,f1⟩
 refine F9.set ?_
 clear F9
 have hlt9:=List.length_take_le' k1 (ZP n q l).1
 have V1:=A5.bound
 refine Zl (A5.mono L3) Yx V V ?_
 refine Z1 (k1 : Int) ((((ZP n q l).1).length : Nat) : Int) V V V (fun h1=>?_) (fun h1=>?_)
 ·refine WL.indexAddr (A5.mono L3) k1 (by omega) Yx Ym V V V V (fun p2 x1 U1 E1=>?_)
  obtain ⟨D1,C2,R2⟩:=E1
  obtain ⟨rfl,ZV,Ye⟩:=Yh R2
  refine Za S3 (YC.drop 0 C2) Zy V V V ?_
  refine WL.buildSlice _ [(0,[Zb x1.name])] [Zb x1.name] S3 ZaA V V V V (fun z hz=>by match z,hz with | [z0],_=>rfl) (fun b1 w4 N1 S5=>?_)
  refine WL.push (m:=([x1.name] : List (List UInt8))) ZaA V V V R1 S5 1 V 0 _ _ _ _ _ V ⟨[Zb x1.name],_,V,⟨V,ZV⟩,V⟩ V (by have:=Zm; simp only [List.length_append,List.length_map,List.length_take,List.length_cons,List.length_nil]; omega) (by have:=Zm; simp only [List.length_append,List.length_map,List.length_take,List.length_cons,List.length_nil]; omega) V V V (fun v6 o2 w5 R3 S6=>?_)
  have S7:=S6.tail
  refine ZC k1 (by have:=Zm; omega) V V V ?_
  exact BK.mk' _ ⟨k1 + 1,v6,o2,G3,V,L3,S7,(YH.cast R3 (by (rw [List.take_add_one,(by assumption : (ZP n q l).1[k1]? = some _)]; simp))),⟨V,V,V,trivial⟩,(by omega)⟩ (show (ZP n q l).1.length - (k1 + 1) < (ZP n q l).1.length - k1 by omega)
 obtain ⟨G4,L4,A6,S8⟩:=YH.freeze R1 S3 0 V
 exact RT S8 V (Sl.cast A6 (by rw [List.take_of_length_le (by omega)]))
theorem ZdL {G : GH} {w : World} (hG : G.In w) (l : List (List UInt8)) (nm : List UInt8) (vl : Value) (hvl : Sl Enc.str 16 G vl l) : CL Tryz.prog (nat_lit 291) #[vl,Zb nm] [] w G fun _ _ r=>r = U (YT l nm):=by
 refine Zo ft [] Tryz.func291 V V ?_
 have hS:=St.start (X:=[]) hG
 refine LP.go ft [] (fun m ρ1 w1=>∃ (k1 : Nat),∃ (G1 : GH),m = l.length - k1 ∧ G.le G1 ∧ St w [] G G1 [] w1 ∧ FR ρ1 [(0,vl),(1,Zb nm),(5,U (k1 : Int))] ∧ k1 ≤ l.length ∧ ∀ j,j < k1 → ∀ x,l[j]? = some x → decide (x = nm) = false) _ ⟨0,G,V,(G.le_refl),hS,⟨V,V,V,trivial⟩,(by omega),(by intro j hj; omega)⟩ ?_
 rintro m ρ1 w1 ⟨k1,G1,rfl,L1,S1,F9,f1,f2⟩
 refine F9.set ?_
 clear F9
 have V1:=hvl.bound
 refine Zl (hvl.mono L1) Yo V V ?_
 refine Z1 (k1 : Int) (l.length : Int) V V V (fun h1=>?_) (fun h1=>?_)
 ·refine WL.indexAddr (hvl.mono L1) k1 (by omega) Yo Zy V V V V (fun p1 x1 U1 E1=>?_)
  obtain ⟨D1,C1,R1⟩:=E1
  obtain ⟨rfl,B1⟩:=R1
  refine Za S1 C1 Zy V V V <| Zn .eql V x1 nm V V V ?_
  refine WL.split (fun h0=>?_) (fun h0=>?_)
  ·have h2 : x1 = nm:=by simpa [SCmp.b] using h0
   clear h0
   exact RI S1 V (by unfold YT; exact (Za2 _ ‹_› (by simp_all) ‹_›).symm)
  have h2 : x1 ≠ nm:=by simpa [SCmp.b] using h0
  clear h0
  refine ZC k1 (by have:=Zm; omega) V V V ?_
  exact BK.mk' _ ⟨k1 + 1,G1,V,L1,S1,⟨V,V,V,trivial⟩,(by omega),(by exact Yz ‹_› ‹_› (decide_eq_false ‹_›))⟩ (show l.length - (k1 + 1) < l.length - k1 by omega)
 exact RI S1 V (by unfold YT; exact (QO (k:=k1) ‹_› (by omega)).symm)
theorem ZhD {G : GH} {w : World} (hG : G.In w) (a b : List (List UInt8)) (va : Value) (hva : Sl Enc.str 16 G va a) (vb : Value) (hvb : Sl Enc.str 16 G vb b) : CL Tryz.prog (nat_lit 48) #[va,vb] [] w G fun _ _ r=>r = .bool (decide (a = b)):=by
 refine Zo ft [] Tryz.func48 V V ?_
 have hS:=St.start (X:=[]) hG
 have V1:=hva.bound
 refine Zl hva Yo V V ?_
 have V2:=hvb.bound
 refine Zl hvb Yo V V ?_
 refine Z8 (a.length : Int) (b.length : Int) V V V (fun h1=>?_) (fun h1=>?_)
 ·exact RB hS V (by rw [← Zbf]; exact (ZfY (by omega)).symm)
 refine LP.go ft [] (fun m ρ1 w1=>∃ (k1 : Nat),∃ (G1 : GH),m = a.length - k1 ∧ G.le G1 ∧ St w [] G G1 [] w1 ∧ FR ρ1 [(0,va),(1,vb),(5,U (k1 : Int))] ∧ k1 ≤ a.length ∧ ∀ j,j < k1 → ∀ x y,a[j]? = some x → b[j]? = some y → decide (x = y) = true) _ ⟨0,G,V,(G.le_refl),hS,⟨V,V,V,trivial⟩,(by omega),(by intro j hj; omega)⟩ ?_
 rintro m ρ1 w1 ⟨k1,G1,rfl,L1,S1,F9,f1,f2⟩
 refine F9.set ?_
 clear F9
 have V3:=hva.bound
 refine Zl (hva.mono L1) Yo V V ?_
 refine Z1 (k1 : Int) (a.length : Int) V V V (fun h2=>?_) (fun h2=>?_)
 ·obtain ⟨p1,x1,U1,E1,W1⟩:=Sl.at (hva.mono L1) k1 (by omega)
  obtain ⟨D1,C1,R1⟩:=E1
  obtain ⟨rfl,B1⟩:=R1
  obtain ⟨p2,x2,U2,E2,W2⟩:=Sl.at (hvb.mono L1) k1 (by omega)
  obtain ⟨D2,C2,R2⟩:=E2
  obtain ⟨rfl,B2⟩:=R2
  rcases Classical.em (x1 = x2) with h3 | h3
  ·refine dr [] [(19,Zu p1),(20,Zb x1),(23,Zu p2),(24,Zb x2),(25, .bool false)] S1 ⟨fun _=>Zf k1 W1 Yo Zy V V V V <| nu V V,fun _ hSw=>Za hSw C1 Zy V V V <| nu V V,fun _=>Zf k1 W2 Yo Zy V V V V <| nu V V,fun _ hSw=>Za hSw C2 Zy V V V <| nu V V,fun _=>YG .neq V x1 x2 false (by simp [h3,SCmp.b]) V V V <| nu V V,trivial⟩ (fun w2 S2=>?_)
   refine ZC k1 (by have:=Zm; omega) V V V ?_
   exact BK.mk' _ ⟨k1 + 1,G1,V,L1,S2,⟨V,V,V,trivial⟩,(by omega),(by exact ZgD ‹_› ‹_› ‹_› (decide_eq_true ‹_›))⟩ (show a.length - (k1 + 1) < a.length - k1 by omega)
  refine dr [] [(19,Zu p1),(20,Zb x1),(23,Zu p2),(24,Zb x2),(25, .bool true)] S1 ⟨fun _=>Zf k1 W1 Yo Zy V V V V <| nu V V,fun _ hSw=>Za hSw C1 Zy V V V <| nu V V,fun _=>Zf k1 W2 Yo Zy V V V V <| nu V V,fun _ hSw=>Za hSw C2 Zy V V V <| nu V V,fun _=>YG .neq V x1 x2 true (by simp [h3,SCmp.b]) V V V <| nu V V,trivial⟩ (fun w3 S3=>?_)
  exact RB S3 V (by rw [← Zbf]; exact (Zf5 (f:=fun (x y : List UInt8)=>decide (x = y)) ‹_› ‹_› (decide_eq_false ‹_›)).symm)
 exact RB S1 V (by rw [← Zbf]; exact (ZhO (by omega) ‹_› (by omega)).symm)
end Go.Civ
