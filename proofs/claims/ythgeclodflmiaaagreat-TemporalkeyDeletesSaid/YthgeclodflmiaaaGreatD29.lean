/- Lemmas. -/
import Derived.Test.YthgeclodflmiaaaGreatD13
import Derived.Test.YthgeclodflmiaaaGreatD15
import Derived.Test.YthgeclodflmiaaaGreatD26
import Derived.Test.YthgeclodflmiaaaGreatProg
import Derived.KernelRfl
import Derived.WalkKit
set_option linter.unusedVariables false
set_option linter.unusedSimpArgs false
set_option maxRecDepth 100000
set_option maxHeartbeats 4000000
namespace Go.Civ
open Go.Proofs
theorem ZtG (d : Nat) : ∀ {G : GH} {w : World} (hG : G.In w) (c : Cond) (dep n : Int) (cc : List Value) (hcc : (YQ d).rep G c cc) (pb : Nat) (hpb : XP w G (some (pb,(nat_lit 3),[S n]))) (hdep : 0 ≤ dep ∧ dep ≤ 13) (hn : 0 ≤ n ∧ n ≤ 60),CL Tryz.prog (nat_lit 194) #[.agg cc.toArray,S dep, .pointer (some ⟨pb,0,none⟩)] [pb] w G fun G' w' r=>(r = .bool ((ZX d c dep n).1)) ∧ XP w' G' (some (pb,(nat_lit 3),[S ((ZX d c dep n).2)])):=by
 induction d
 ·intro G w hG c dep n cc hcc pb hpb hdep hn; exact (Zcp hcc).elim
 rename_i d ih
 intro G w hG c dep n cc hcc pb hpb hdep hn
 refine Zh ft [19] Tryz.func194 U U ?_
 have hdep64 : Z0 dep:=⟨by omega,by omega⟩
 have N64 : Z0 n:=⟨by omega,by omega⟩
 have hS:=St.lentO hG hpb
 obtain ⟨lv1,rfl,B1,B2,B3,B4,B5,B6,O1⟩:=Zcq hcc
 refine Zw [S c.kind,Za c.col,Za c.oth,S c.v.k,S c.v.n,Za c.v.s,lv1] _ hS U U U (fun p1 w1 G1 L1 M1 C1 S1=>?_)
 refine WL.nilCheck _ U U <| Ya S1 0 _ _ _ 0 _ U U Zt U U U ?_
 have hi1 : Z0 (n + 1):=by have:=N64.1; have:=N64.2; constructor <;> omega
 refine Zb0 .add U n 1 U U U hi1 <| WL.nilCheck _ U U ?_
 refine Zi S1 0 [S (n + 1)] U U Zt U U U U U U (fun w2 S2=>?_)
 refine WL.nilCheck _ U U <| Ya S2 0 _ _ _ 0 _ U U Zt U U U ?_
 refine Xd (n + 1) 60 U U U (fun h1=>?_) (fun h1=>?_)
 ·exact RT S2 U ⟨(congrArg Value.bool (by (rw [Zir (by omega)]; done))),(S2.lentAt 0 U).cast (by (rw [Zir (by omega)]; done))⟩
 refine Xd dep 12 U U U (fun h2=>?_) (fun h2=>?_)
 ·exact RT S2 U ⟨(congrArg Value.bool (by (rw [Zir (by omega)]; done))),(S2.lentAt 0 U).cast (by (rw [Zir (by omega)]; done))⟩
 refine WL.build _ [] [S 0,S 0,Za []] Z6 U Zs1 U U U U ?_
 refine WL.alloc S2 Z6 U U (fun b1 w3 N1 S3=>?_)
 refine Zi S3 0 [S 0,S 0,Za []] U U Z6 U U U U U U (fun w4 S4=>?_)
 obtain ⟨G2,L2,C2,S5⟩:=S4.shutB N1
 refine JN.go ft [19] (fun ρ1 w1=>∃ (op9 : Int),∃ (G3 : GH),G2.le G3 ∧ St w [pb] G G3 [some (pb,(nat_lit 3),[S (n + 1)])] w1 ∧ FR ρ1 [(1,S dep),(2, .pointer (some ⟨pb,0,none⟩)),(3,Zs p1),(8,S op9)] ∧ ZU c = decide ((c.l.length : Int) = op9)) ?_ ?_
 ·refine Z S5 (XC.drop 0 (C1.mono L2)) Zt U U U ?_
  refine ZC c.kind 1 U U U (fun h3=>?_) (fun h3=>?_)
  ·rcases Classical.em (c.col = []) with h4 | h4
   ·refine dr [] [(31,Za c.col),(32, .bool true)] S5 ⟨fun _ hSw=>Z hSw (XC.drop 1 (C1.mono L2)) ZF U U U <| nu U U,fun _=>YF .eql U c.col [] true (by simp [h4,SCmp.b]) U U U <| nu U U,trivial⟩ (fun w6 S7=>?_)
    exact RT S7 U ⟨(congrArg Value.bool (by (rw [Yz (by omega) (by omega) (by unfold ZU Yu X5 Y9; first | (simp_all [Cmp.b,SCmp.b]; done) | (simp_all [Cmp.b,SCmp.b]; omega))]; done))),(S7.lentAt 0 U).cast (by (rw [Yz (by omega) (by omega) (by unfold ZU Yu X5 Y9; first | (simp_all [Cmp.b,SCmp.b]; done) | (simp_all [Cmp.b,SCmp.b]; omega))]; done))⟩
   rcases Bool.eq_false_or_eq_true (!((SCmp.b .eql c.oth []) == (Z4 c.v))) with h5 | h5
   ·refine dr [] [(31,Za c.col),(32, .bool false),(35,Za c.oth),(36, .bool (SCmp.b .eql c.oth [])),(38, .agg #[S c.v.k,S c.v.n,Za c.v.s]),(39, .bool (Z4 c.v)),(40, .bool true)] S5 ⟨fun _ hSw=>Z hSw (XC.drop 1 (C1.mono L2)) ZF U U U <| nu U U,fun _=>YF .eql U c.col [] false (by simp [h4,SCmp.b]) U U U <| nu U U,fun _ hSw=>Z hSw (XC.drop 2 (C1.mono L2)) ZF U U U <| nu U U,fun _=>ZJ .eql U c.oth [] U U U <| nu U U,fun _ hSw=>Zb hSw (XC.drop 3 (C1.mono L2)) [S c.v.k,S c.v.n,Za c.v.s] Z6 U U U U U <| nu U U,fun _ hSw=>Z3 hSw Zcx U U U (QV hSw.imm c.v _ (YP c.v B4 B5 B6)) U,fun _=>ZaD (SCmp.b .eql c.oth []) (Z4 c.v) ul4 U U U <| nu (congrArg Value.bool h5.symm) U,trivial⟩ (fun w7 S8=>?_)
    exact RT S8 U ⟨(congrArg Value.bool (by (rw [Yz (by omega) (by omega) (Zen (by first | exact .inl ‹_› | exact .inr ‹_›) ‹_›)]; done))),(S8.lentAt 0 U).cast (by (rw [Yz (by omega) (by omega) (Zen (by first | exact .inl ‹_› | exact .inr ‹_›) ‹_›)]; done))⟩
   rcases Classical.em (c.oth = []) with h6 | h6
   ·refine dr [] [(31,Za c.col),(32, .bool false),(35,Za c.oth),(36, .bool (SCmp.b .eql c.oth [])),(38, .agg #[S c.v.k,S c.v.n,Za c.v.s]),(39, .bool (Z4 c.v)),(40, .bool false),(44,Za c.oth),(45, .bool false)] S5 ⟨fun _ hSw=>Z hSw (XC.drop 1 (C1.mono L2)) ZF U U U <| nu U U,fun _=>YF .eql U c.col [] false (by simp [h4,SCmp.b]) U U U <| nu U U,fun _ hSw=>Z hSw (XC.drop 2 (C1.mono L2)) ZF U U U <| nu U U,fun _=>ZJ .eql U c.oth [] U U U <| nu U U,fun _ hSw=>Zb hSw (XC.drop 3 (C1.mono L2)) [S c.v.k,S c.v.n,Za c.v.s] Z6 U U U U U <| nu U U,fun _ hSw=>Z3 hSw Zcx U U U (QV hSw.imm c.v _ (YP c.v B4 B5 B6)) U,fun _=>ZaD (SCmp.b .eql c.oth []) (Z4 c.v) ul4 U U U <| nu (congrArg Value.bool h5.symm) U,fun _ hSw=>Z hSw (XC.drop 2 (C1.mono L2)) ZF U U U <| nu U U,fun _=>YF .neq U c.oth [] false (by simp [h6,SCmp.b]) U U U <| nu U U,trivial⟩ (fun w9 S9=>?_)
    exact ⟨0,G2,(G2.le_refl),S9,(Zq U),(by exact ZnJ (by first | exact .inl ‹_› | exact .inr ‹_›) ‹_› ‹_› ‹_›)⟩
   rcases Classical.em (c.v = (Val.mk 0 0 [])) with h7 | h7
   ·refine dr [] [(31,Za c.col),(32, .bool false),(35,Za c.oth),(36, .bool (SCmp.b .eql c.oth [])),(38, .agg #[S c.v.k,S c.v.n,Za c.v.s]),(39, .bool (Z4 c.v)),(40, .bool false),(44,Za c.oth),(45, .bool true),(48, .agg #[S c.v.k,S c.v.n,Za c.v.s]),(49, .agg #[S 0,S 0,Za []]),(50, .bool false)] S5 ⟨fun _ hSw=>Z hSw (XC.drop 1 (C1.mono L2)) ZF U U U <| nu U U,fun _=>YF .eql U c.col [] false (by simp [h4,SCmp.b]) U U U <| nu U U,fun _ hSw=>Z hSw (XC.drop 2 (C1.mono L2)) ZF U U U <| nu U U,fun _=>ZJ .eql U c.oth [] U U U <| nu U U,fun _ hSw=>Zb hSw (XC.drop 3 (C1.mono L2)) [S c.v.k,S c.v.n,Za c.v.s] Z6 U U U U U <| nu U U,fun _ hSw=>Z3 hSw Zcx U U U (QV hSw.imm c.v _ (YP c.v B4 B5 B6)) U,fun _=>ZaD (SCmp.b .eql c.oth []) (Z4 c.v) ul4 U U U <| nu (congrArg Value.bool h5.symm) U,fun _ hSw=>Z hSw (XC.drop 2 (C1.mono L2)) ZF U U U <| nu U U,fun _=>YF .neq U c.oth [] true (by simp [h6,SCmp.b]) U U U <| nu U U,fun _ hSw=>Zb hSw (XC.drop 3 (C1.mono L2)) [S c.v.k,S c.v.n,Za c.v.s] Z6 U U U U U <| nu U U,fun _ hSw=>Zb hSw C2 [S 0,S 0,Za []] Z6 U U U U U <| nu U U,fun _=>XV false (QC c.v (Val.mk 0 0 [])) Zbf (by simp [h7]) U U U <| nu U U,trivial⟩ (fun w10 S10=>?_)
    exact ⟨0,G2,(G2.le_refl),S10,(Zq U),(by exact ZnK (by first | exact .inl ‹_› | exact .inr ‹_›) ‹_› ‹_› (by first | assumption | exact of_decide_eq_true (ZeQ ‹_›)))⟩
   refine dr [] [(31,Za c.col),(32, .bool false),(35,Za c.oth),(36, .bool (SCmp.b .eql c.oth [])),(38, .agg #[S c.v.k,S c.v.n,Za c.v.s]),(39, .bool (Z4 c.v)),(40, .bool false),(44,Za c.oth),(45, .bool true),(48, .agg #[S c.v.k,S c.v.n,Za c.v.s]),(49, .agg #[S 0,S 0,Za []]),(50, .bool true)] S5 ⟨fun _ hSw=>Z hSw (XC.drop 1 (C1.mono L2)) ZF U U U <| nu U U,fun _=>YF .eql U c.col [] false (by simp [h4,SCmp.b]) U U U <| nu U U,fun _ hSw=>Z hSw (XC.drop 2 (C1.mono L2)) ZF U U U <| nu U U,fun _=>ZJ .eql U c.oth [] U U U <| nu U U,fun _ hSw=>Zb hSw (XC.drop 3 (C1.mono L2)) [S c.v.k,S c.v.n,Za c.v.s] Z6 U U U U U <| nu U U,fun _ hSw=>Z3 hSw Zcx U U U (QV hSw.imm c.v _ (YP c.v B4 B5 B6)) U,fun _=>ZaD (SCmp.b .eql c.oth []) (Z4 c.v) ul4 U U U <| nu (congrArg Value.bool h5.symm) U,fun _ hSw=>Z hSw (XC.drop 2 (C1.mono L2)) ZF U U U <| nu U U,fun _=>YF .neq U c.oth [] true (by simp [h6,SCmp.b]) U U U <| nu U U,fun _ hSw=>Zb hSw (XC.drop 3 (C1.mono L2)) [S c.v.k,S c.v.n,Za c.v.s] Z6 U U U U U <| nu U U,fun _ hSw=>Zb hSw C2 [S 0,S 0,Za []] Z6 U U U U U <| nu U U,fun _=>XV true (QC c.v (Val.mk 0 0 [])) Zbf (by simp [h7]) U U U <| nu U U,trivial⟩ (fun w11 S11=>?_)
   exact RT S11 U ⟨(congrArg Value.bool (by (rw [Yz (by omega) (by omega) (by unfold ZU Yu X5 Y9; first | (simp_all [Cmp.b,SCmp.b]; done) | (simp_all [Cmp.b,SCmp.b]; omega))]; done))),(S11.lentAt 0 U).cast (by (rw [Yz (by omega) (by omega) (by unfold ZU Yu X5 Y9; first | (simp_all [Cmp.b,SCmp.b]; done) | (simp_all [Cmp.b,SCmp.b]; omega))]; done))⟩
  refine ZC c.kind 2 U U U (fun h8=>?_) (fun h8=>?_)
  ·rcases Classical.em (c.col = []) with h9 | h9
   ·refine dr [] [(31,Za c.col),(32, .bool true)] S5 ⟨fun _ hSw=>Z hSw (XC.drop 1 (C1.mono L2)) ZF U U U <| nu U U,fun _=>YF .eql U c.col [] true (by simp [h9,SCmp.b]) U U U <| nu U U,trivial⟩ (fun w12 S12=>?_)
    exact RT S12 U ⟨(congrArg Value.bool (by (rw [Yz (by omega) (by omega) (by unfold ZU Yu X5 Y9; first | (simp_all [Cmp.b,SCmp.b]; done) | (simp_all [Cmp.b,SCmp.b]; omega))]; done))),(S12.lentAt 0 U).cast (by (rw [Yz (by omega) (by omega) (by unfold ZU Yu X5 Y9; first | (simp_all [Cmp.b,SCmp.b]; done) | (simp_all [Cmp.b,SCmp.b]; omega))]; done))⟩
   rcases Bool.eq_false_or_eq_true (!((SCmp.b .eql c.oth []) == (Z4 c.v))) with h10 | h10
   ·refine dr [] [(31,Za c.col),(32, .bool false),(35,Za c.oth),(36, .bool (SCmp.b .eql c.oth [])),(38, .agg #[S c.v.k,S c.v.n,Za c.v.s]),(39, .bool (Z4 c.v)),(40, .bool true)] S5 ⟨fun _ hSw=>Z hSw (XC.drop 1 (C1.mono L2)) ZF U U U <| nu U U,fun _=>YF .eql U c.col [] false (by simp [h9,SCmp.b]) U U U <| nu U U,fun _ hSw=>Z hSw (XC.drop 2 (C1.mono L2)) ZF U U U <| nu U U,fun _=>ZJ .eql U c.oth [] U U U <| nu U U,fun _ hSw=>Zb hSw (XC.drop 3 (C1.mono L2)) [S c.v.k,S c.v.n,Za c.v.s] Z6 U U U U U <| nu U U,fun _ hSw=>Z3 hSw Zcx U U U (QV hSw.imm c.v _ (YP c.v B4 B5 B6)) U,fun _=>ZaD (SCmp.b .eql c.oth []) (Z4 c.v) ul4 U U U <| nu (congrArg Value.bool h10.symm) U,trivial⟩ (fun w13 S13=>?_)
    exact RT S13 U ⟨(congrArg Value.bool (by (rw [Yz (by omega) (by omega) (Zen (by first | exact .inl ‹_› | exact .inr ‹_›) ‹_›)]; done))),(S13.lentAt 0 U).cast (by (rw [Yz (by omega) (by omega) (Zen (by first | exact .inl ‹_› | exact .inr ‹_›) ‹_›)]; done))⟩
   rcases Classical.em (c.oth = []) with h11 | h11
   ·refine dr [] [(31,Za c.col),(32, .bool false),(35,Za c.oth),(36, .bool (SCmp.b .eql c.oth [])),(38, .agg #[S c.v.k,S c.v.n,Za c.v.s]),(39, .bool (Z4 c.v)),(40, .bool false),(44,Za c.oth),(45, .bool false)] S5 ⟨fun _ hSw=>Z hSw (XC.drop 1 (C1.mono L2)) ZF U U U <| nu U U,fun _=>YF .eql U c.col [] false (by simp [h9,SCmp.b]) U U U <| nu U U,fun _ hSw=>Z hSw (XC.drop 2 (C1.mono L2)) ZF U U U <| nu U U,fun _=>ZJ .eql U c.oth [] U U U <| nu U U,fun _ hSw=>Zb hSw (XC.drop 3 (C1.mono L2)) [S c.v.k,S c.v.n,Za c.v.s] Z6 U U U U U <| nu U U,fun _ hSw=>Z3 hSw Zcx U U U (QV hSw.imm c.v _ (YP c.v B4 B5 B6)) U,fun _=>ZaD (SCmp.b .eql c.oth []) (Z4 c.v) ul4 U U U <| nu (congrArg Value.bool h10.symm) U,fun _ hSw=>Z hSw (XC.drop 2 (C1.mono L2)) ZF U U U <| nu U U,fun _=>YF .neq U c.oth [] false (by simp [h11,SCmp.b]) U U U <| nu U U,trivial⟩ (fun w14 S14=>?_)
    exact ⟨0,G2,(G2.le_refl),S14,(Zq U),(by exact ZnJ (by first | exact .inl ‹_› | exact .inr ‹_›) ‹_› ‹_› ‹_›)⟩
   rcases Classical.em (c.v = (Val.mk 0 0 [])) with h12 | h12
   ·refine dr [] [(31,Za c.col),(32, .bool false),(35,Za c.oth),(36, .bool (SCmp.b .eql c.oth [])),(38, .agg #[S c.v.k,S c.v.n,Za c.v.s]),(39, .bool (Z4 c.v)),(40, .bool false),(44,Za c.oth),(45, .bool true),(48, .agg #[S c.v.k,S c.v.n,Za c.v.s]),(49, .agg #[S 0,S 0,Za []]),(50, .bool false)] S5 ⟨fun _ hSw=>Z hSw (XC.drop 1 (C1.mono L2)) ZF U U U <| nu U U,fun _=>YF .eql U c.col [] false (by simp [h9,SCmp.b]) U U U <| nu U U,fun _ hSw=>Z hSw (XC.drop 2 (C1.mono L2)) ZF U U U <| nu U U,fun _=>ZJ .eql U c.oth [] U U U <| nu U U,fun _ hSw=>Zb hSw (XC.drop 3 (C1.mono L2)) [S c.v.k,S c.v.n,Za c.v.s] Z6 U U U U U <| nu U U,fun _ hSw=>Z3 hSw Zcx U U U (QV hSw.imm c.v _ (YP c.v B4 B5 B6)) U,fun _=>ZaD (SCmp.b .eql c.oth []) (Z4 c.v) ul4 U U U <| nu (congrArg Value.bool h10.symm) U,fun _ hSw=>Z hSw (XC.drop 2 (C1.mono L2)) ZF U U U <| nu U U,fun _=>YF .neq U c.oth [] true (by simp [h11,SCmp.b]) U U U <| nu U U,fun _ hSw=>Zb hSw (XC.drop 3 (C1.mono L2)) [S c.v.k,S c.v.n,Za c.v.s] Z6 U U U U U <| nu U U,fun _ hSw=>Zb hSw C2 [S 0,S 0,Za []] Z6 U U U U U <| nu U U,fun _=>XV false (QC c.v (Val.mk 0 0 [])) Zbf (by simp [h12]) U U U <| nu U U,trivial⟩ (fun w15 S15=>?_)
    exact ⟨0,G2,(G2.le_refl),S15,(Zq U),(by exact ZnK (by first | exact .inl ‹_› | exact .inr ‹_›) ‹_› ‹_› (by first | assumption | exact of_decide_eq_true (ZeQ ‹_›)))⟩
   refine dr [] [(31,Za c.col),(32, .bool false),(35,Za c.oth),(36, .bool (SCmp.b .eql c.oth [])),(38, .agg #[S c.v.k,S c.v.n,Za c.v.s]),(39, .bool (Z4 c.v)),(40, .bool false),(44,Za c.oth),(45, .bool true),(48, .agg #[S c.v.k,S c.v.n,Za c.v.s]),(49, .agg #[S 0,S 0,Za []]),(50, .bool true)] S5 ⟨fun _ hSw=>Z hSw (XC.drop 1 (C1.mono L2)) ZF U U U <| nu U U,fun _=>YF .eql U c.col [] false (by simp [h9,SCmp.b]) U U U <| nu U U,fun _ hSw=>Z hSw (XC.drop 2 (C1.mono L2)) ZF U U U <| nu U U,fun _=>ZJ .eql U c.oth [] U U U <| nu U U,fun _ hSw=>Zb hSw (XC.drop 3 (C1.mono L2)) [S c.v.k,S c.v.n,Za c.v.s] Z6 U U U U U <| nu U U,fun _ hSw=>Z3 hSw Zcx U U U (QV hSw.imm c.v _ (YP c.v B4 B5 B6)) U,fun _=>ZaD (SCmp.b .eql c.oth []) (Z4 c.v) ul4 U U U <| nu (congrArg Value.bool h10.symm) U,fun _ hSw=>Z hSw (XC.drop 2 (C1.mono L2)) ZF U U U <| nu U U,fun _=>YF .neq U c.oth [] true (by simp [h11,SCmp.b]) U U U <| nu U U,fun _ hSw=>Zb hSw (XC.drop 3 (C1.mono L2)) [S c.v.k,S c.v.n,Za c.v.s] Z6 U U U U U <| nu U U,fun _ hSw=>Zb hSw C2 [S 0,S 0,Za []] Z6 U U U U U <| nu U U,fun _=>XV true (QC c.v (Val.mk 0 0 [])) Zbf (by simp [h12]) U U U <| nu U U,trivial⟩ (fun w16 S16=>?_)
   exact RT S16 U ⟨(congrArg Value.bool (by (rw [Yz (by omega) (by omega) (by unfold ZU Yu X5 Y9; first | (simp_all [Cmp.b,SCmp.b]; done) | (simp_all [Cmp.b,SCmp.b]; omega))]; done))),(S16.lentAt 0 U).cast (by (rw [Yz (by omega) (by omega) (by unfold ZU Yu X5 Y9; first | (simp_all [Cmp.b,SCmp.b]; done) | (simp_all [Cmp.b,SCmp.b]; omega))]; done))⟩
  refine ZC c.kind 3 U U U (fun h13=>?_) (fun h13=>?_)
  ·refine Z S5 (XC.drop 1 (C1.mono L2)) ZF U U U <| ZJ .neq U c.col [] U U U ?_
   refine WL.split (fun h0=>?_) (fun h0=>?_)
   ·have h14 : c.col ≠ []:=by simpa [SCmp.b] using h0
    clear h0
    exact RT S5 U ⟨(congrArg Value.bool (by (rw [Yz (by omega) (by omega) (by unfold ZU Yu X5 Y9; first | (simp_all [Cmp.b,SCmp.b]; done) | (simp_all [Cmp.b,SCmp.b]; omega))]; done))),(S5.lentAt 0 U).cast (by (rw [Yz (by omega) (by omega) (by unfold ZU Yu X5 Y9; first | (simp_all [Cmp.b,SCmp.b]; done) | (simp_all [Cmp.b,SCmp.b]; omega))]; done))⟩
   have h14 : c.col = []:=by simpa [SCmp.b] using h0
   clear h0
   refine Z S5 (XC.drop 2 (C1.mono L2)) ZF U U U <| ZJ .neq U c.oth [] U U U ?_
   refine WL.split (fun h0=>?_) (fun h0=>?_)
   ·have h15 : c.oth ≠ []:=by simpa [SCmp.b] using h0
    clear h0
    exact RT S5 U ⟨(congrArg Value.bool (by (rw [Yz (by omega) (by omega) (by unfold ZU Yu X5 Y9; first | (simp_all [Cmp.b,SCmp.b]; done) | (simp_all [Cmp.b,SCmp.b]; omega))]; done))),(S5.lentAt 0 U).cast (by (rw [Yz (by omega) (by omega) (by unfold ZU Yu X5 Y9; first | (simp_all [Cmp.b,SCmp.b]; done) | (simp_all [Cmp.b,SCmp.b]; omega))]; done))⟩
   have h15 : c.oth = []:=by simpa [SCmp.b] using h0
   clear h0
   refine Zb S5 (XC.drop 3 (C1.mono L2)) [S c.v.k,S c.v.n,Za c.v.s] Z6 U U U U U <| Zb S5 C2 [S 0,S 0,Za []] Z6 U U U U U <| Zdh (QC c.v (Val.mk 0 0 [])) Zbf U U U ?_
   refine WL.split (fun (h16 : (!decide (c.v = (Val.mk 0 0 []))) = true)=>?_) (fun (h16 : (!decide (c.v = (Val.mk 0 0 []))) = false)=>?_)
   ·exact RT S5 U ⟨(congrArg Value.bool (by (rw [Yz (by omega) (by omega) (by unfold ZU Yu X5 Y9; first | (simp_all [Cmp.b,SCmp.b]; done) | (simp_all [Cmp.b,SCmp.b]; omega))]; done))),(S5.lentAt 0 U).cast (by (rw [Yz (by omega) (by omega) (by unfold ZU Yu X5 Y9; first | (simp_all [Cmp.b,SCmp.b]; done) | (simp_all [Cmp.b,SCmp.b]; omega))]; done))⟩
   refine ZbR 3 3 S5 U (fun b2 w17 hm1 ha1 S17=>?_)
   refine XW 4 1 S17 hm1 ha1 Zay Qb Qb (by constructor <;> decide) (by constructor <;> decide) (by decide) U U U U (fun w18 hm2 S18=>?_)
   refine XW 5 2 S18 hm2 ha1 Zay Qb Qb (by constructor <;> decide) (by constructor <;> decide) (by decide) U U U U (fun w19 hm3 S19=>?_)
   refine XW 6 2 S19 hm3 ha1 Zay Qb Qb (by constructor <;> decide) (by constructor <;> decide) (by decide) U U U U (fun w20 hm4 S20=>?_)
   refine Z S20 (XC.drop 0 (C1.mono L2)) Zt U U U ?_
   refine Zd5 c.kind hm4 Zay Qb Qb B1 (by rfl) U U U (fun cc1 hat1=>?_)
   have hcc : cc1 = (Y9 c.kind : Int):=by exact Zxz ‹_› hat1
   exact ⟨cc1,G2,(G2.le_refl),S20,(Zq U),(by exact ZgQ (by omega) ‹_› ‹_› (by first | assumption | exact of_decide_eq_true (ZeQ ‹_›)) ‹_›)⟩
  refine ZC c.kind 4 U U U (fun h17=>?_) (fun h17=>?_)
  ·refine Z S5 (XC.drop 1 (C1.mono L2)) ZF U U U <| ZJ .neq U c.col [] U U U ?_
   refine WL.split (fun h0=>?_) (fun h0=>?_)
   ·have h18 : c.col ≠ []:=by simpa [SCmp.b] using h0
    clear h0
    exact RT S5 U ⟨(congrArg Value.bool (by (rw [Yz (by omega) (by omega) (by unfold ZU Yu X5 Y9; first | (simp_all [Cmp.b,SCmp.b]; done) | (simp_all [Cmp.b,SCmp.b]; omega))]; done))),(S5.lentAt 0 U).cast (by (rw [Yz (by omega) (by omega) (by unfold ZU Yu X5 Y9; first | (simp_all [Cmp.b,SCmp.b]; done) | (simp_all [Cmp.b,SCmp.b]; omega))]; done))⟩
   have h18 : c.col = []:=by simpa [SCmp.b] using h0
   clear h0
   refine Z S5 (XC.drop 2 (C1.mono L2)) ZF U U U <| ZJ .neq U c.oth [] U U U ?_
   refine WL.split (fun h0=>?_) (fun h0=>?_)
   ·have h19 : c.oth ≠ []:=by simpa [SCmp.b] using h0
    clear h0
    exact RT S5 U ⟨(congrArg Value.bool (by (rw [Yz (by omega) (by omega) (by unfold ZU Yu X5 Y9; first | (simp_all [Cmp.b,SCmp.b]; done) | (simp_all [Cmp.b,SCmp.b]; omega))]; done))),(S5.lentAt 0 U).cast (by (rw [Yz (by omega) (by omega) (by unfold ZU Yu X5 Y9; first | (simp_all [Cmp.b,SCmp.b]; done) | (simp_all [Cmp.b,SCmp.b]; omega))]; done))⟩
   have h19 : c.oth = []:=by simpa [SCmp.b] using h0
   clear h0
   refine Zb S5 (XC.drop 3 (C1.mono L2)) [S c.v.k,S c.v.n,Za c.v.s] Z6 U U U U U <| Zb S5 C2 [S 0,S 0,Za []] Z6 U U U U U <| Zdh (QC c.v (Val.mk 0 0 [])) Zbf U U U ?_
   refine WL.split (fun (h20 : (!decide (c.v = (Val.mk 0 0 []))) = true)=>?_) (fun (h20 : (!decide (c.v = (Val.mk 0 0 []))) = false)=>?_)
   ·exact RT S5 U ⟨(congrArg Value.bool (by (rw [Yz (by omega) (by omega) (by unfold ZU Yu X5 Y9; first | (simp_all [Cmp.b,SCmp.b]; done) | (simp_all [Cmp.b,SCmp.b]; omega))]; done))),(S5.lentAt 0 U).cast (by (rw [Yz (by omega) (by omega) (by unfold ZU Yu X5 Y9; first | (simp_all [Cmp.b,SCmp.b]; done) | (simp_all [Cmp.b,SCmp.b]; omega))]; done))⟩
   refine ZbR 3 3 S5 U (fun b3 w21 hm5 ha2 S21=>?_)
   refine XW 4 1 S21 hm5 ha2 Zay Qb Qb (by constructor <;> decide) (by constructor <;> decide) (by decide) U U U U (fun w22 hm6 S22=>?_)
   refine XW 5 2 S22 hm6 ha2 Zay Qb Qb (by constructor <;> decide) (by constructor <;> decide) (by decide) U U U U (fun w23 hm7 S23=>?_)
   refine XW 6 2 S23 hm7 ha2 Zay Qb Qb (by constructor <;> decide) (by constructor <;> decide) (by decide) U U U U (fun w24 hm8 S24=>?_)
   refine Z S24 (XC.drop 0 (C1.mono L2)) Zt U U U ?_
   refine Zd5 c.kind hm8 Zay Qb Qb B1 (by rfl) U U U (fun cc2 hat2=>?_)
   have hcc : cc2 = (Y9 c.kind : Int):=by exact Zx0 ‹_› hat2
   exact ⟨cc2,G2,(G2.le_refl),S24,(Zq U),(by exact ZgQ (by omega) ‹_› ‹_› (by first | assumption | exact of_decide_eq_true (ZeQ ‹_›)) ‹_›)⟩
  refine ZC c.kind 5 U U U (fun h21=>?_) (fun h21=>?_)
  ·refine Z S5 (XC.drop 1 (C1.mono L2)) ZF U U U <| ZJ .neq U c.col [] U U U ?_
   refine WL.split (fun h0=>?_) (fun h0=>?_)
   ·have h22 : c.col ≠ []:=by simpa [SCmp.b] using h0
    clear h0
    exact RT S5 U ⟨(congrArg Value.bool (by (rw [Yz (by omega) (by omega) (by unfold ZU Yu X5 Y9; first | (simp_all [Cmp.b,SCmp.b]; done) | (simp_all [Cmp.b,SCmp.b]; omega))]; done))),(S5.lentAt 0 U).cast (by (rw [Yz (by omega) (by omega) (by unfold ZU Yu X5 Y9; first | (simp_all [Cmp.b,SCmp.b]; done) | (simp_all [Cmp.b,SCmp.b]; omega))]; done))⟩
   have h22 : c.col = []:=by simpa [SCmp.b] using h0
   clear h0
   refine Z S5 (XC.drop 2 (C1.mono L2)) ZF U U U <| ZJ .neq U c.oth [] U U U ?_
   refine WL.split (fun h0=>?_) (fun h0=>?_)
   ·have h23 : c.oth ≠ []:=by simpa [SCmp.b] using h0
    clear h0
    exact RT S5 U ⟨(congrArg Value.bool (by (rw [Yz (by omega) (by omega) (by unfold ZU Yu X5 Y9; first | (simp_all [Cmp.b,SCmp.b]; done) | (simp_all [Cmp.b,SCmp.b]; omega))]; done))),(S5.lentAt 0 U).cast (by (rw [Yz (by omega) (by omega) (by unfold ZU Yu X5 Y9; first | (simp_all [Cmp.b,SCmp.b]; done) | (simp_all [Cmp.b,SCmp.b]; omega))]; done))⟩
   have h23 : c.oth = []:=by simpa [SCmp.b] using h0
   clear h0
   refine Zb S5 (XC.drop 3 (C1.mono L2)) [S c.v.k,S c.v.n,Za c.v.s] Z6 U U U U U <| Zb S5 C2 [S 0,S 0,Za []] Z6 U U U U U <| Zdh (QC c.v (Val.mk 0 0 [])) Zbf U U U ?_
   refine WL.split (fun (h24 : (!decide (c.v = (Val.mk 0 0 []))) = true)=>?_) (fun (h24 : (!decide (c.v = (Val.mk 0 0 []))) = false)=>?_)
   ·exact RT S5 U ⟨(congrArg Value.bool (by (rw [Yz (by omega) (by omega) (by unfold ZU Yu X5 Y9; first | (simp_all [Cmp.b,SCmp.b]; done) | (simp_all [Cmp.b,SCmp.b]; omega))]; done))),(S5.lentAt 0 U).cast (by (rw [Yz (by omega) (by omega) (by unfold ZU Yu X5 Y9; first | (simp_all [Cmp.b,SCmp.b]; done) | (simp_all [Cmp.b,SCmp.b]; omega))]; done))⟩
   refine ZbR 3 3 S5 U (fun b4 w25 hm9 ha3 S25=>?_)
   refine XW 4 1 S25 hm9 ha3 Zay Qb Qb (by constructor <;> decide) (by constructor <;> decide) (by decide) U U U U (fun w26 hm10 S26=>?_)
   refine XW 5 2 S26 hm10 ha3 Zay Qb Qb (by constructor <;> decide) (by constructor <;> decide) (by decide) U U U U (fun w27 hm11 S27=>?_)
   refine XW 6 2 S27 hm11 ha3 Zay Qb Qb (by constructor <;> decide) (by constructor <;> decide) (by decide) U U U U (fun w28 hm12 S28=>?_)
   refine Z S28 (XC.drop 0 (C1.mono L2)) Zt U U U ?_
   refine Zd5 c.kind hm12 Zay Qb Qb B1 (by rfl) U U U (fun cc3 hat3=>?_)
   have hcc : cc3 = (Y9 c.kind : Int):=by exact Zx1 ‹_› hat3
   exact ⟨cc3,G2,(G2.le_refl),S28,(Zq U),(by exact ZgQ (by omega) ‹_› ‹_› (by first | assumption | exact of_decide_eq_true (ZeQ ‹_›)) ‹_›)⟩
  refine ZC c.kind 6 U U U (fun h25=>?_) (fun h25=>?_)
  ·refine Z S5 (XC.drop 1 (C1.mono L2)) ZF U U U <| ZJ .neq U c.col [] U U U ?_
   refine WL.split (fun h0=>?_) (fun h0=>?_)
   ·have h26 : c.col ≠ []:=by simpa [SCmp.b] using h0
    clear h0
    exact RT S5 U ⟨(congrArg Value.bool (by (rw [Yz (by omega) (by omega) (by unfold ZU Yu X5 Y9; first | (simp_all [Cmp.b,SCmp.b]; done) | (simp_all [Cmp.b,SCmp.b]; omega))]; done))),(S5.lentAt 0 U).cast (by (rw [Yz (by omega) (by omega) (by unfold ZU Yu X5 Y9; first | (simp_all [Cmp.b,SCmp.b]; done) | (simp_all [Cmp.b,SCmp.b]; omega))]; done))⟩
   have h26 : c.col = []:=by simpa [SCmp.b] using h0
   clear h0
   refine Z S5 (XC.drop 2 (C1.mono L2)) ZF U U U <| ZJ .neq U c.oth [] U U U ?_
   refine WL.split (fun h0=>?_) (fun h0=>?_)
   ·have h27 : c.oth ≠ []:=by simpa [SCmp.b] using h0
    clear h0
    exact RT S5 U ⟨(congrArg Value.bool (by (rw [Yz (by omega) (by omega) (by unfold ZU Yu X5 Y9; first | (simp_all [Cmp.b,SCmp.b]; done) | (simp_all [Cmp.b,SCmp.b]; omega))]; done))),(S5.lentAt 0 U).cast (by (rw [Yz (by omega) (by omega) (by unfold ZU Yu X5 Y9; first | (simp_all [Cmp.b,SCmp.b]; done) | (simp_all [Cmp.b,SCmp.b]; omega))]; done))⟩
   have h27 : c.oth = []:=by simpa [SCmp.b] using h0
   clear h0
   refine Zb S5 (XC.drop 3 (C1.mono L2)) [S c.v.k,S c.v.n,Za c.v.s] Z6 U U U U U <| Zb S5 C2 [S 0,S 0,Za []] Z6 U U U U U <| Zdh (QC c.v (Val.mk 0 0 [])) Zbf U U U ?_
   refine WL.split (fun (h28 : (!decide (c.v = (Val.mk 0 0 []))) = true)=>?_) (fun (h28 : (!decide (c.v = (Val.mk 0 0 []))) = false)=>?_)
   ·exact RT S5 U ⟨(congrArg Value.bool (by (rw [Yz (by omega) (by omega) (by unfold ZU Yu X5 Y9; first | (simp_all [Cmp.b,SCmp.b]; done) | (simp_all [Cmp.b,SCmp.b]; omega))]; done))),(S5.lentAt 0 U).cast (by (rw [Yz (by omega) (by omega) (by unfold ZU Yu X5 Y9; first | (simp_all [Cmp.b,SCmp.b]; done) | (simp_all [Cmp.b,SCmp.b]; omega))]; done))⟩
   refine ZbR 3 3 S5 U (fun b5 w29 hm13 ha4 S29=>?_)
   refine XW 4 1 S29 hm13 ha4 Zay Qb Qb (by constructor <;> decide) (by constructor <;> decide) (by decide) U U U U (fun w30 hm14 S30=>?_)
   refine XW 5 2 S30 hm14 ha4 Zay Qb Qb (by constructor <;> decide) (by constructor <;> decide) (by decide) U U U U (fun w31 hm15 S31=>?_)
   refine XW 6 2 S31 hm15 ha4 Zay Qb Qb (by constructor <;> decide) (by constructor <;> decide) (by decide) U U U U (fun w32 hm16 S32=>?_)
   refine Z S32 (XC.drop 0 (C1.mono L2)) Zt U U U ?_
   refine Zd5 c.kind hm16 Zay Qb Qb B1 (by rfl) U U U (fun cc4 hat4=>?_)
   have hcc : cc4 = (Y9 c.kind : Int):=by exact Zx2 ‹_› hat4
   exact ⟨cc4,G2,(G2.le_refl),S32,(Zq U),(by exact ZgQ (by omega) ‹_› ‹_› (by first | assumption | exact of_decide_eq_true (ZeQ ‹_›)) ‹_›)⟩
  exact RT S5 U ⟨(congrArg Value.bool (by (rw [Yz (by omega) (by omega) (by unfold ZU Yu X5 Y9; first | (simp_all [Cmp.b,SCmp.b]; done) | (simp_all [Cmp.b,SCmp.b]; omega))]; done))),(S5.lentAt 0 U).cast (by (rw [Yz (by omega) (by omega) (by unfold ZU Yu X5 Y9; first | (simp_all [Cmp.b,SCmp.b]; done) | (simp_all [Cmp.b,SCmp.b]; omega))]; done))⟩
 rintro ρ1 w5 ⟨op9,G3,L3,S6,F9,f1⟩
 refine F9.set ?_
 have N9:=(by assumption : ZU c = decide ((c.l.length : Int) = op9))
 have j1:=(L2.trans L3)
 refine Z S6 (XC.drop 6 (C1.mono j1)) Zfj U U U ?_
 have V1:=O1.bound
 have j2:=((L1.trans L2).trans L3)
 refine Zl (O1.mono j2) Zdr U U ?_
 refine Yr (c.l.length : Int) op9 U U U (fun h29=>?_) (fun h29=>?_)
 ·exact RT S6 U ⟨(congrArg Value.bool (by (rw [Yz (by omega) (by omega) (by rw [N9]; exact decide_eq_false ‹_›)]; done))),(S6.lentAt 0 U).cast (by (rw [Yz (by omega) (by omega) (by rw [N9]; exact decide_eq_false ‹_›)]; done))⟩
 have hpl : ZU c = true:=by rw [N9]; exact decide_eq_true ‹_›
 refine Z S6 (XC.drop 6 (C1.mono j1)) Zfj U U U ?_
 have V2:=O1.bound
 refine Zl (O1.mono j2) Zdr U U ?_
 refine LP.go ft [19] (fun m ρ1 w1=>∃ (k1 : Nat),∃ (mm : Int),∃ (G4 : GH),m = c.l.length - k1 ∧ G3.le G4 ∧ St w [pb] G G4 [some (pb,(nat_lit 3),[S mm])] w1 ∧ FR ρ1 [(1,S dep),(2, .pointer (some ⟨pb,0,none⟩)),(83,lv1),(84,S (c.l.length : Int)),(85,S (k1 : Int))] ∧ k1 ≤ c.l.length ∧ YT (fun x m=>ZX d x (dep + 1) m) (c.l.take k1) (n + 1) = (true,mm) ∧ 0 ≤ mm ∧ mm ≤ 60) _ ⟨0,(n + 1),G3,U,(G3.le_refl),S6,(Zq U),(by omega),(by rfl),(by omega)⟩ ?_
 rintro m ρ1 w33 ⟨k1,mm,G4,rfl,L4,S33,F9,f2,f3,f4⟩
 refine F9.set ?_
 clear F9
 have hm64 : Z0 mm:=⟨by omega,by omega⟩
 refine Zp (k1 : Int) (c.l.length : Int) U U U (fun h30=>?_) (fun h30=>?_)
 ·refine WL.indexAddr (O1.mono (j2.trans L4)) k1 (by omega) Zdr XI U U U U (fun p2 x1 U1 E1=>?_)
  obtain ⟨D1,C3,R1⟩:=E1
  obtain ⟨lv2,rfl,B7,B8,B9,B10,Y6,YU,O2⟩:=Xo R1
  refine Zb S33 C3 [S x1.kind,Za x1.col,Za x1.oth,S x1.v.k,S x1.v.n,Za x1.v.s,lv2] XI U U U U U ?_
  refine WL.alloc S33 XI U U (fun b6 w34 N2 S34=>?_)
  refine Zi S34 0 [S x1.kind,Za x1.col,Za x1.oth,S x1.v.k,S x1.v.n,Za x1.v.s,lv2] U U XI U U (by simp only [ZA,O2] <;> rfl) U U U (fun w35 S35=>?_)
  obtain ⟨G5,L5,C4,S36⟩:=S35.shutB N2
  refine Zb S36 C4 [S x1.kind,Za x1.col,Za x1.oth,S x1.v.k,S x1.v.n,Za x1.v.s,lv2] XI U U U U U ?_
  have hi2 : Z0 (dep + 1):=by have:=hdep64.1; have:=hdep64.2; constructor <;> omega
  refine Zb0 .add U dep 1 U U U hi2 ?_
  refine Qe ZuF U U U (ih S36.imm x1 (dep + 1) mm _ ((YQ _).mono L5 R1) _ (S36.lentAt 0 U) (by omega) (by omega)) (fun w36 G6 r1 hres1 ⟨P1,hlc1⟩=>?_)
  have S37 : St w [pb] G G6 [some (pb,(nat_lit 3),[S ((ZX d x1 (dep + 1) mm).2)])] w36:=S36.callX 0 U [S ((ZX d x1 (dep + 1) mm).2)] hres1 (hlc1 _ U).1
  have L6:=hres1.le
  subst P1
  refine WL.split (fun (h31 : ((ZX d x1 (dep + 1) mm).1) = true)=>?_) (fun (h31 : ((ZX d x1 (dep + 1) mm).1) = false)=>?_)
  ·refine Zj k1 (by have:=Zc; omega) U U U ?_
   exact BK.mk' _ ⟨k1 + 1,(ZX d x1 (dep + 1) mm).2,G6,U,(L4.trans (L5.trans L6)),S37,(Zq U),(by omega),(by exact ZlE ‹_› ‹_› ‹_›),(by have h9:=Ziq (by assumption : (ZX d _ (dep + 1) mm).1 = true); omega)⟩ (show c.l.length - (k1 + 1) < c.l.length - k1 by omega)
  exact RT S37 U ⟨(congrArg Value.bool (by (rw [ZpZ (k:=k1) (by omega) (by omega) hpl ‹_› ‹_› ‹_›]; done))),(S37.lentAt 0 U).cast (by (rw [ZpZ (k:=k1) (by omega) (by omega) hpl ‹_› ‹_› ‹_›]; done))⟩
 exact RT S33 U ⟨(congrArg Value.bool (by (rw [Zqa (k:=k1) (m:=mm) (by omega) (by omega) hpl (by omega) ‹_›]; done))),(S33.lentAt 0 U).cast (by (rw [Zqa (k:=k1) (m:=mm) (by omega) (by omega) hpl (by omega) ‹_›]; done))⟩
theorem ZnW {G : GH} {w : World} (hG : G.In w) (d : Nat) (c : Cond) (l : List Col) (cc : List Value) (hcc : (YQ d).rep G c cc) (vl : Value) (hvl : Sl ColE 24 G vl l) : CL Tryz.prog (nat_lit 159) #[.agg cc.toArray,vl] [] w G fun _ _ r=>r = S (YE d c l):=by
 refine Zh ft [] Tryz.func159 U U ?_
 have hS:=St.start (X:=[]) hG
 obtain ⟨lv1,rfl,B1,B2,B3,B4,B5,B6,O1⟩:=Xo hcc
 refine Zw [S c.kind,Za c.col,Za c.oth,S c.v.k,S c.v.n,Za c.v.s,lv1] _ hS U U U (fun p1 w1 G1 L1 M1 C1 S1=>?_)
 refine WL.alloc S1 Zt U U (fun b1 w2 N1 S2=>?_)
 refine Zi S2 0 [S 0] U U Zt U U U U U U (fun w3 S3=>?_)
 refine Zb S3 C1 [S c.kind,Za c.col,Za c.oth,S c.v.k,S c.v.n,Za c.v.s,lv1] XI U U U U U ?_
 refine Qe ZuF U U U (ZtG _ S3.imm c 1 0 _ ((YQ _).mono L1 hcc) _ (S3.lentAt 0 U) (by omega) (by omega)) (fun w4 G2 r1 hres1 ⟨P1,hlc1⟩=>?_)
 have S4 : St w [] G G2 [some (b1,3,[S ((ZX d c 1 0).2)])] w4:=S3.callX 0 U [S ((ZX d c 1 0).2)] hres1 (hlc1 _ U).1
 have L2:=hres1.le
 subst P1
 refine WL.split (fun (h1 : ((ZX d c 1 0).1) = true)=>?_) (fun (h1 : ((ZX d c 1 0).1) = false)=>?_)
 ·refine Zb S4 (C1.mono L2) [S c.kind,Za c.col,Za c.oth,S c.v.k,S c.v.n,Za c.v.s,lv1] XI U U U U U ?_
  refine Zr S4 ZuG U U U (Zwk _ S4.imm c l _ ((YQ _).mono (L1.trans L2) hcc) _ (hvl.mono (L1.trans L2))) (fun w5 G3 S5 L3=>?_)
  exact RI S5 U (by unfold YE; exact (if_pos (of_decide_eq_true (by rw [← ZlG]; assumption))).symm)
 exact RI S4 U (by unfold YE; exact (if_neg (of_decide_eq_false (by rw [← ZlG]; assumption))).symm)
end Go.Civ
