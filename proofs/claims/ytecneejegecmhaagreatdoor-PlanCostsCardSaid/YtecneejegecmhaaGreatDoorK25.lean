/- Lemmas. -/
import Derived.Test.YtecneejegecmhaaGreatDoorK24
set_option linter.unusedVariables false
set_option linter.unusedSimpArgs false
set_option linter.unusedVariables false
set_option linter.unusedSimpArgs false
set_option maxRecDepth 100000
set_option maxHeartbeats 4000000
namespace Go.Civ
open Go.Proofs
theorem ZrK (n : Nat) : ∀ {G : GH} {w : World} (hG : G.In w) (q : Query) (dep : Int) (hg : Glob G) (cq : List Value) (hcq : QryE.rep G q cq) (hdep : 0 ≤ dep ∧ dep ≤ 13) (hn : Xx q n),CL Tryz.prog (nat_lit 78) #[.agg cq.toArray,U dep] [] w G fun _ _ r=>r = U (Y4 n q dep):=by
 induction n
 ·intro G w hG q dep hg cq hcq hdep hn; exact (ZaH hn).elim
 rename_i n ih
 intro G w hG q dep hg cq hcq hdep hn
 refine Zg ft [] Tryz.func78 V V ?_
 have hdep64 : Zj dep:=⟨by omega,by omega⟩
 have hS:=St.start (X:=[]) hG
 obtain ⟨v1,v2,v3,v4,rfl,B1,B2,A1,A2,Z7,Z5,ZD,hb6,hb7,ZV,A3,hb9,ZI,ZJ,ZL,A4⟩:=Zs hcq
 refine Z4 (QV q v1 v2 v3 v4) _ hS V V V (fun p1 w1 G1 L1 M1 C1 S1=>?_)
 refine Z1 dep 12 V V V (fun h1=>?_) (fun h1=>?_)
 ·exact RI S1 V (by exact ZxZ ‹_›)
 refine Zc S1 C1 (QV q v1 v2 v3 v4) Zt V V V V V ?_
 refine Zl S1 Zza V V V (ZrI S1.imm (n + 1) q (hg.mono L1) _ (Zr q B1 B2 (A1.mono L1) (A2.mono L1) Z7 Z5 ZD hb6 hb7 ZV (A3.mono L1) hb9 ZI ZJ ZL (A4.mono L1)) hn) (fun w2 G2 S2 L2=>?_)
 refine WL.split (fun (h2 : (Xd (n + 1) q) = true)=>?_) (fun (h2 : (Xd (n + 1) q) = false)=>?_)
 ·refine Z S2 (Xh.drop 15 (C1.mono L2)) Yu V V V ?_
  have V1:=A4.bound
  have j1:=(L1.trans L2)
  refine Zm (A4.mono j1) Y1 V V ?_
  refine LP.go ft [] (fun m ρ1 w1=>∃ (k1 : Nat),∃ (nn : Int),∃ (G3 : GH),m = q.l.length - k1 ∧ G2.le G3 ∧ St w [] G G3 [] w1 ∧ FR ρ1 [(1,U dep),(5,U nn),(16,v4),(17,U (q.l.length : Int)),(18,U (k1 : Int))] ∧ k1 ≤ q.l.length ∧ nn = Xp (fun x=>Y4 n x (dep + 1)) (q.l.take k1) 1 ∧ 1 ≤ nn ∧ nn ≤ 61 + 60 * (13 - dep) ∧ nn ≤ 60) _ ⟨0,1,G2,V,(G2.le_refl),S2,(ZS V),(by omega),(by rfl),(by omega),(by omega)⟩ ?_
  rintro m ρ1 w3 ⟨k1,nn,G3,rfl,L3,S3,F9,f1,f2,f3,f4⟩
  refine F9.set ?_
  clear F9
  have hnn64 : Zj nn:=⟨by omega,by omega⟩
  refine Zp (k1 : Int) (q.l.length : Int) V V V (fun h3=>?_) (fun h3=>?_)
  ·refine WL.indexAddr (A4.mono (j1.trans L3)) k1 (by omega) Y1 Zt V V V V (fun p2 x1 U1 E1=>?_)
   obtain ⟨D1,C2,R1⟩:=E1
   obtain ⟨v5,v6,v7,v9,rfl,Y0,Y6,A5,A6,YA,Y9,Yr,YH,YJ,YO,A7,Xf,Xg,YK,Xc,A8⟩:=Zs R1
   refine Zc S3 C2 (QV x1 v5 v6 v7 v9) Zt V V V V V ?_
   refine WL.alloc S3 Zt V V (fun b1 w4 N1 S4=>?_)
   refine WL.store S4 0 _ _ _ 0 _ (QV x1 v5 v6 v7 v9) (QV x1 v5 v6 v7 v9) _ V V Zt V (ZZ V) (by simp only [YE,A5.oneC,A6.oneC,A7.oneC,A8.oneC] <;> rfl) V V V V V (fun w5 S5=>?_)
   obtain ⟨G4,L4,C3,S6⟩:=S5.shutB N1
   refine Zc S6 C3 (QV x1 v5 v6 v7 v9) Zt V V V V V ?_
   have hi1 : Zj (dep + 1):=by have:=hdep64.1; have:=hdep64.2; constructor <;> omega
   refine WL.ar .add V dep 1 V V V hi1 ?_
   refine Zl S6 Zfi V V V (ih S6.imm x1 (dep + 1) (hg.mono ((j1.trans L3).trans L4)) _ (Zr x1 Y0 Y6 (A5.mono L4) (A6.mono L4) YA Y9 Yr YH YJ YO (A7.mono L4) Xf Xg YK Xc (A8.mono L4)) (by omega) (XN hn (List.mem_of_getElem? ‹_›))) (fun w6 G5 S7 L5=>?_)
   have hi2 : Zj (nn + (Y4 n x1 (dep + 1))):=by have:=hnn64.1; have:=hnn64.2; have:=(Ze2 n x1 (dep + 1) (by omega)).1; have:=(Ze2 n x1 (dep + 1) (by omega)).2; constructor <;> omega
   refine WL.ar .add V nn (Y4 n x1 (dep + 1)) V V V hi2 ?_
   refine Z1 (nn + (Y4 n x1 (dep + 1))) 60 V V V (fun h4=>?_) (fun h4=>?_)
   ·exact RI S7 V (by exact Zyb (by omega) ‹_› ‹_› ‹_› (by omega) (by omega))
   refine Zq k1 (by have:=Zb; omega) V V V ?_
   exact BK.mk' _ ⟨k1 + 1,(nn + (Y4 n x1 (dep + 1))),G5,V,(L3.trans (L4.trans L5)),S7,(ZS V),(by omega),(by exact Zjo (f:=fun x=>Y4 n x (dep + 1)) ‹_› ‹_› (by omega)),(by have hb9:=Ze2 n x1 (dep + 1) ⟨by omega,by omega⟩; omega),(by omega)⟩ (show q.l.length - (k1 + 1) < q.l.length - k1 by omega)
  exact RI S3 V (by exact Zsd (by omega) ‹_› ‹_› (.inl (by omega)))
 exact RI S2 V (by exact Zya (by omega) ‹_›)
theorem Zfu {G : GH} {w : World} (hG : G.In w) (n : Nat) (q : Query) (hg : Glob G) (cq : List Value) (hcq : QryE.rep G q cq) (hn : Xx q n) : CL Tryz.prog (nat_lit 39) #[.agg cq.toArray] [] w G fun _ _ r=>r = .bool (X8 n q):=by
 refine Zg ft [] Tryz.func39 V V ?_
 have hS:=St.start (X:=[]) hG
 obtain ⟨v1,v2,v3,v4,rfl,B1,B2,A1,A2,Z7,Z5,ZD,hb6,hb7,ZV,A3,hb9,ZI,ZJ,ZL,A4⟩:=Zs hcq
 refine Z4 (QV q v1 v2 v3 v4) _ hS V V V (fun p1 w1 G1 L1 M1 C1 S1=>?_)
 refine Zc S1 C1 (QV q v1 v2 v3 v4) Zt V V V V V ?_
 refine Zl S1 Zfi V V V (ZrK n S1.imm q 1 (hg.mono L1) _ (Zr q B1 B2 (A1.mono L1) (A2.mono L1) Z7 Z5 ZD hb6 hb7 ZV (A3.mono L1) hb9 ZI ZJ ZL (A4.mono L1)) (by omega) hn) (fun w2 G2 S2 L2=>?_)
 refine Yd .leq V .i64 (Y4 n q 1) 60 V V V ?_
 exact RB S2 V (by rfl)
end Go.Civ
set_option linter.unusedVariables false
set_option linter.unusedSimpArgs false
set_option maxRecDepth 100000
set_option maxHeartbeats 4000000
namespace Go.Civ
open Go.Proofs
theorem ZrN {G : GH} {w : World} (hG : G.In w) (l : List Col) (vl : Value) (hvl : Sl ColE 24 G vl l) : CL Tryz.prog (nat_lit 112) #[vl] [] w G fun G' w' r=>∃ o,YX ColE 24 (nat_lit 54) G' r l o ∧ ZjB w w' G' o:=by
 refine Zg ft [] Tryz.func112 V V ?_
 have hS:=St.start (X:=[]) hG
 refine Zk5 hvl Q6 V V V (fun h1=>?_) ?_
 ·exact RT hS V ⟨none,YX.cast (YX.nil _ _ _ _) (by exact Eq.symm ‹_›),fun _ h=>by cases h⟩
 refine WL.buildSlice _ [] [] hS Zr6 V V V V (fun z hz=>by match z,hz with | [],_=>rfl) (fun b1 w1 N1 S1=>?_)
 have R1:=YX.empty ColE 24 54 G b1
 refine Zf4 Zr6 V V V R1 S1 0 V hvl (by have:=Zb; have:=hvl.bytes; have:=hvl.bound; simp only [List.length_nil,Nat.zero_add]; omega) (by have:=Zb; have:=hvl.bytes; have:=hvl.bound; simp only [List.length_nil,Nat.zero_add]; omega) V V V (fun v1 o1 w2 R2 S2=>?_)
 exact RT S2 V ⟨_,YX.cast R2 (by rfl),S2.freshAt 0 V⟩
end Go.Civ
