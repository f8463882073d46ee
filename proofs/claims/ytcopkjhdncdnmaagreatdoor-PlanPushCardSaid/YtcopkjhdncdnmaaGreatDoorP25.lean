/- Lemmas. -/
import Derived.Test.YtcopkjhdncdnmaaGreatDoorP24
set_option linter.unusedVariables false
set_option linter.unusedSimpArgs false
set_option maxRecDepth 100000
set_option maxHeartbeats 4000000
namespace Go.Civ
open Go.Proofs
theorem Zo9 (d : Nat) : ∀ {G : GH} {w : World} (hG : G.In w) (c : Cond) (dep n : Int) (cc : List Value) (hcc : (Xd d).rep G c cc) (pb : Nat) (hpb : XK w G (some (pb,(nat_lit 3),[U n]))) (hdep : 0 ≤ dep ∧ dep ≤ 13) (hn : 0 ≤ n ∧ n ≤ 60),CL Tryz.prog (nat_lit 222) #[.agg cc.toArray,U dep, .pointer (some ⟨pb,0,none⟩)] [pb] w G fun G' w' r=>(r = .bool ((Yw d c dep n).1)) ∧ XK w' G' (some (pb,(nat_lit 3),[U ((Yw d c dep n).2)])):=by
 induction d
 ·intro G w hG c dep n cc hcc pb hpb hdep hn; exact (QP hcc).elim
 rename_i d ih
 intro G w hG c dep n cc hcc pb hpb hdep hn
 refine Zo ft [19] Tryz.func222 V V ?_
 have hdep64 : ZM dep:=⟨by omega,by omega⟩
 have N64 : ZM n:=⟨by omega,by omega⟩
 have hS:=St.lentO hG hpb
 obtain ⟨lv1,rfl,B1,B2,B3,B4,B5,B6,O1⟩:=QQ hcc
 refine ZL [U c.kind,Zb c.col,Zb c.oth,U c.v.k,U c.v.n,Zb c.v.s,lv1] _ hS V V V (fun p1 w1 G1 L1 M1 C1 S1=>?_)
 refine WL.nilCheck _ V V <| ZT S1 0 _ _ _ 0 _ V V Z3 V V V ?_
 have hi1 : ZM (n + 1):=by have:=N64.1; have:=N64.2; constructor <;> omega
 refine WL.ar .add V n 1 V V V hi1 <| WL.nilCheck _ V V ?_
 refine ZY S1 0 [U (n + 1)] V V Z3 V V V V V V (fun w2 S2=>?_)
 refine WL.nilCheck _ V V <| ZT S2 0 _ _ _ 0 _ V V Z3 V V V ?_
 refine Yk (n + 1) 60 V V V (fun h1=>?_) (fun h1=>?_)
 ·exact RT S2 V ⟨(congrArg Value.bool (by (rw [Zho (by omega)]; done))),(S2.lentAt 0 V).cast (by (rw [Zho (by omega)]; done))⟩
 refine Yk dep 12 V V V (fun h2=>?_) (fun h2=>?_)
 ·exact RT S2 V ⟨(congrArg Value.bool (by (rw [Zho (by omega)]; done))),(S2.lentAt 0 V).cast (by (rw [Zho (by omega)]; done))⟩
 refine WL.build _ [] [U 0,U 0,Zb []] X5 V ZlP V V V V ?_
 refine WL.alloc S2 X5 V V (fun b1 w3 N1 S3=>?_)
 refine ZY S3 0 [U 0,U 0,Zb []] V V X5 V V V V V V (fun w4 S4=>?_)
 obtain ⟨G2,L2,C2,S5⟩:=S4.shutB N1
 refine JN.go ft [19] (fun ρ1 w1=>∃ (op9 : Int),∃ (G3 : GH),G2.le G3 ∧ St w [pb] G G3 [some (pb,(nat_lit 3),[U (n + 1)])] w1 ∧ FR ρ1 [(1,U dep),(2, .pointer (some ⟨pb,0,none⟩)),(3,Zu p1),(8,U op9)] ∧ Z2 c = decide ((c.l.length : Int) = op9)) ?_ ?_
 ·refine Za S5 (YC.drop 0 (C1.mono L2)) Z3 V V V ?_
  refine Zj c.kind 1 V V V (fun h3=>?_) (fun h3=>?_)
  ·rcases Classical.em (c.col = []) with h4 | h4
   ·refine dr [] [(31,Zb c.col),(32, .bool true)] S5 ⟨fun _ hSw=>Za hSw (YC.drop 1 (C1.mono L2)) Zy V V V <| nu V V,fun _=>YG .eql V c.col [] true (by simp [h4,SCmp.b]) V V V <| nu V V,trivial⟩ (fun w6 S7=>?_)
    exact RT S7 V ⟨(congrArg Value.bool (by (rw [YE (by omega) (by omega) (by unfold Z2 ZQ Yn ZZ; first | (simp_all [Cmp.b,SCmp.b]; done) | (simp_all [Cmp.b,SCmp.b]; omega))]; done))),(S7.lentAt 0 V).cast (by (rw [YE (by omega) (by omega) (by unfold Z2 ZQ Yn ZZ; first | (simp_all [Cmp.b,SCmp.b]; done) | (simp_all [Cmp.b,SCmp.b]; omega))]; done))⟩
   rcases Bool.eq_false_or_eq_true (!((SCmp.b .eql c.oth []) == (Y1 c.v))) with h5 | h5
   ·refine dr [] [(31,Zb c.col),(32, .bool false),(35,Zb c.oth),(36, .bool (SCmp.b .eql c.oth [])),(38, .agg #[U c.v.k,U c.v.n,Zb c.v.s]),(39, .bool (Y1 c.v)),(40, .bool true)] S5 ⟨fun _ hSw=>Za hSw (YC.drop 1 (C1.mono L2)) Zy V V V <| nu V V,fun _=>YG .eql V c.col [] false (by simp [h4,SCmp.b]) V V V <| nu V V,fun _ hSw=>Za hSw (YC.drop 2 (C1.mono L2)) Zy V V V <| nu V V,fun _=>Zn .eql V c.oth [] V V V <| nu V V,fun _ hSw=>Zc hSw (YC.drop 3 (C1.mono L2)) [U c.v.k,U c.v.n,Zb c.v.s] X5 V V V V V <| nu V V,fun _ hSw=>YS hSw Zar V V V (Zbj hSw.imm c.v _ (QN c.v B4 B5 B6)) V,fun _=>Za4 (SCmp.b .eql c.oth []) (Y1 c.v) ul4 V V V <| nu (congrArg Value.bool h5.symm) V,trivial⟩ (fun w7 S8=>?_)
    exact RT S8 V ⟨(congrArg Value.bool (by (rw [YE (by omega) (by omega) (Ze7 (by first | exact .inl ‹_› | exact .inr ‹_›) ‹_›)]; done))),(S8.lentAt 0 V).cast (by (rw [YE (by omega) (by omega) (Ze7 (by first | exact .inl ‹_› | exact .inr ‹_›) ‹_›)]; done))⟩
   rcases Classical.em (c.oth = []) with h6 | h6
   ·refine dr [] [(31,Zb c.col),(32, .bool false),(35,Zb c.oth),(36, .bool (SCmp.b .eql c.oth [])),(38, .agg #[U c.v.k,U c.v.n,Zb c.v.s]),(39, .bool (Y1 c.v)),(40, .bool false),(44,Zb c.oth),(45, .bool false)] S5 ⟨fun _ hSw=>Za hSw (YC.drop 1 (C1.mono L2)) Zy V V V <| nu V V,fun _=>YG .eql V c.col [] false (by simp [h4,SCmp.b]) V V V <| nu V V,fun _ hSw=>Za hSw (YC.drop 2 (C1.mono L2)) Zy V V V <| nu V V,fun _=>Zn .eql V c.oth [] V V V <| nu V V,fun _ hSw=>Zc hSw (YC.drop 3 (C1.mono L2)) [U c.v.k,U c.v.n,Zb c.v.s] X5 V V V V V <| nu V V,fun _ hSw=>YS hSw Zar V V V (Zbj hSw.imm c.v _ (QN c.v B4 B5 B6)) V,fun _=>Za4 (SCmp.b .eql c.oth []) (Y1 c.v) ul4 V V V <| nu (congrArg Value.bool h5.symm) V,fun _ hSw=>Za hSw (YC.drop 2 (C1.mono L2)) Zy V V V <| nu V V,fun _=>YG .neq V c.oth [] false (by simp [h6,SCmp.b]) V V V <| nu V V,trivial⟩ (fun w9 S9=>?_)
    exact ⟨0,G2,(G2.le_refl),S9,(Yt V),(by exact Zlh (by first | exact .inl ‹_› | exact .inr ‹_›) ‹_› ‹_› ‹_›)⟩
   rcases Classical.em (c.v = (Val.mk 0 0 [])) with h7 | h7
   ·refine dr [] [(31,Zb c.col),(32, .bool false),(35,Zb c.oth),(36, .bool (SCmp.b .eql c.oth [])),(38, .agg #[U c.v.k,U c.v.n,Zb c.v.s]),(39, .bool (Y1 c.v)),(40, .bool false),(44,Zb c.oth),(45, .bool true),(48, .agg #[U c.v.k,U c.v.n,Zb c.v.s]),(49, .agg #[U 0,U 0,Zb []]),(50, .bool false)] S5 ⟨fun _ hSw=>Za hSw (YC.drop 1 (C1.mono L2)) Zy V V V <| nu V V,fun _=>YG .eql V c.col [] false (by simp [h4,SCmp.b]) V V V <| nu V V,fun _ hSw=>Za hSw (YC.drop 2 (C1.mono L2)) Zy V V V <| nu V V,fun _=>Zn .eql V c.oth [] V V V <| nu V V,fun _ hSw=>Zc hSw (YC.drop 3 (C1.mono L2)) [U c.v.k,U c.v.n,Zb c.v.s] X5 V V V V V <| nu V V,fun _ hSw=>YS hSw Zar V V V (Zbj hSw.imm c.v _ (QN c.v B4 B5 B6)) V,fun _=>Za4 (SCmp.b .eql c.oth []) (Y1 c.v) ul4 V V V <| nu (congrArg Value.bool h5.symm) V,fun _ hSw=>Za hSw (YC.drop 2 (C1.mono L2)) Zy V V V <| nu V V,fun _=>YG .neq V c.oth [] true (by simp [h6,SCmp.b]) V V V <| nu V V,fun _ hSw=>Zc hSw (YC.drop 3 (C1.mono L2)) [U c.v.k,U c.v.n,Zb c.v.s] X5 V V V V V <| nu V V,fun _ hSw=>Zc hSw C2 [U 0,U 0,Zb []] X5 V V V V V <| nu V V,fun _=>Zbq false (ZaQ c.v (Val.mk 0 0 [])) ZcK (by simp [h7]) V V V <| nu V V,trivial⟩ (fun w10 S10=>?_)
    exact ⟨0,G2,(G2.le_refl),S10,(Yt V),(by exact Zli (by first | exact .inl ‹_› | exact .inr ‹_›) ‹_› ‹_› (by first | assumption | exact of_decide_eq_true (ZeN ‹_›)))⟩
   refine dr [] [(31,Zb c.col),(32, .bool false),(35,Zb c.oth),(36, .bool (SCmp.b .eql c.oth [])),(38, .agg #[U c.v.k,U c.v.n,Zb c.v.s]),(39, .bool (Y1 c.v)),(40, .bool false),(44,Zb c.oth),(45, .bool true),(48, .agg #[U c.v.k,U c.v.n,Zb c.v.s]),(49, .agg #[U 0,U 0,Zb []]),(50, .bool true)] S5 ⟨fun _ hSw=>Za hSw (YC.drop 1 (C1.mono L2)) Zy V V V <| nu V V,fun _=>YG .eql V c.col [] false (by simp [h4,SCmp.b]) V V V <| nu V V,fun _ hSw=>Za hSw (YC.drop 2 (C1.mono L2)) Zy V V V <| nu V V,fun _=>Zn .eql V c.oth [] V V V <| nu V V,fun _ hSw=>Zc hSw (YC.drop 3 (C1.mono L2)) [U c.v.k,U c.v.n,Zb c.v.s] X5 V V V V V <| nu V V,fun _ hSw=>YS hSw Zar V V V (Zbj hSw.imm c.v _ (QN c.v B4 B5 B6)) V,fun _=>Za4 (SCmp.b .eql c.oth []) (Y1 c.v) ul4 V V V <| nu (congrArg Value.bool h5.symm) V,fun _ hSw=>Za hSw (YC.drop 2 (C1.mono L2)) Zy V V V <| nu V V,fun _=>YG .neq V c.oth [] true (by simp [h6,SCmp.b]) V V V <| nu V V,fun _ hSw=>Zc hSw (YC.drop 3 (C1.mono L2)) [U c.v.k,U c.v.n,Zb c.v.s] X5 V V V V V <| nu V V,fun _ hSw=>Zc hSw C2 [U 0,U 0,Zb []] X5 V V V V V <| nu V V,fun _=>Zbq true (ZaQ c.v (Val.mk 0 0 [])) ZcK (by simp [h7]) V V V <| nu V V,trivial⟩ (fun w11 S11=>?_)
   exact RT S11 V ⟨(congrArg Value.bool (by (rw [YE (by omega) (by omega) (by unfold Z2 ZQ Yn ZZ; first | (simp_all [Cmp.b,SCmp.b]; done) | (simp_all [Cmp.b,SCmp.b]; omega))]; done))),(S11.lentAt 0 V).cast (by (rw [YE (by omega) (by omega) (by unfold Z2 ZQ Yn ZZ; first | (simp_all [Cmp.b,SCmp.b]; done) | (simp_all [Cmp.b,SCmp.b]; omega))]; done))⟩
  refine Zj c.kind 2 V V V (fun h8=>?_) (fun h8=>?_)
  ·rcases Classical.em (c.col = []) with h9 | h9
   ·refine dr [] [(31,Zb c.col),(32, .bool true)] S5 ⟨fun _ hSw=>Za hSw (YC.drop 1 (C1.mono L2)) Zy V V V <| nu V V,fun _=>YG .eql V c.col [] true (by simp [h9,SCmp.b]) V V V <| nu V V,trivial⟩ (fun w12 S12=>?_)
    exact RT S12 V ⟨(congrArg Value.bool (by (rw [YE (by omega) (by omega) (by unfold Z2 ZQ Yn ZZ; first | (simp_all [Cmp.b,SCmp.b]; done) | (simp_all [Cmp.b,SCmp.b]; omega))]; done))),(S12.lentAt 0 V).cast (by (rw [YE (by omega) (by omega) (by unfold Z2 ZQ Yn ZZ; first | (simp_all [Cmp.b,SCmp.b]; done) | (simp_all [Cmp.b,SCmp.b]; omega))]; done))⟩
   rcases Bool.eq_false_or_eq_true (!((SCmp.b .eql c.oth []) == (Y1 c.v))) with h10 | h10
   ·refine dr [] [(31,Zb c.col),(32, .bool false),(35,Zb c.oth),(36, .bool (SCmp.b .eql c.oth [])),(38, .agg #[U c.v.k,U c.v.n,Zb c.v.s]),(39, .bool (Y1 c.v)),(40, .bool true)] S5 ⟨fun _ hSw=>Za hSw (YC.drop 1 (C1.mono L2)) Zy V V V <| nu V V,fun _=>YG .eql V c.col [] false (by simp [h9,SCmp.b]) V V V <| nu V V,fun _ hSw=>Za hSw (YC.drop 2 (C1.mono L2)) Zy V V V <| nu V V,fun _=>Zn .eql V c.oth [] V V V <| nu V V,fun _ hSw=>Zc hSw (YC.drop 3 (C1.mono L2)) [U c.v.k,U c.v.n,Zb c.v.s] X5 V V V V V <| nu V V,fun _ hSw=>YS hSw Zar V V V (Zbj hSw.imm c.v _ (QN c.v B4 B5 B6)) V,fun _=>Za4 (SCmp.b .eql c.oth []) (Y1 c.v) ul4 V V V <| nu (congrArg Value.bool h10.symm) V,trivial⟩ (fun w13 S13=>?_)
    exact RT S13 V ⟨(congrArg Value.bool (by (rw [YE (by omega) (by omega) (Ze7 (by first | exact .inl ‹_› | exact .inr ‹_›) ‹_›)]; done))),(S13.lentAt 0 V).cast (by (rw [YE (by omega) (by omega) (Ze7 (by first | exact .inl ‹_› | exact .inr ‹_›) ‹_›)]; done))⟩
   rcases Classical.em (c.oth = []) with h11 | h11
   ·refine dr [] [(31,Zb c.col),(32, .bool false),(35,Zb c.oth),(36, .bool (SCmp.b .eql c.oth [])),(38, .agg #[U c.v.k,U c.v.n,Zb c.v.s]),(39, .bool (Y1 c.v)),(40, .bool false),(44,Zb c.oth),(45, .bool false)] S5 ⟨fun _ hSw=>Za hSw (YC.drop 1 (C1.mono L2)) Zy V V V <| nu V V,fun _=>YG .eql V c.col [] false (by simp [h9,SCmp.b]) V V V <| nu V V,fun _ hSw=>Za hSw (YC.drop 2 (C1.mono L2)) Zy V V V <| nu V V,fun _=>Zn .eql V c.oth [] V V V <| nu V V,fun _ hSw=>Zc hSw (YC.drop 3 (C1.mono L2)) [U c.v.k,U c.v.n,Zb c.v.s] X5 V V V V V <| nu V V,fun _ hSw=>YS hSw Zar V V V (Zbj hSw.imm c.v _ (QN c.v B4 B5 B6)) V,fun _=>Za4 (SCmp.b .eql c.oth []) (Y1 c.v) ul4 V V V <| nu (congrArg Value.bool h10.symm) V,fun _ hSw=>Za hSw (YC.drop 2 (C1.mono L2)) Zy V V V <| nu V V,fun _=>YG .neq V c.oth [] false (by simp [h11,SCmp.b]) V V V <| nu V V,trivial⟩ (fun w14 S14=>?_)
    exact ⟨0,G2,(G2.le_refl),S14,(Yt V),(by exact Zlh (by first | exact .inl ‹_› | exact .inr ‹_›) ‹_› ‹_› ‹_›)⟩
   rcases Classical.em (c.v = (Val.mk 0 0 [])) with h12 | h12
   ·refine dr [] [(31,Zb c.col),(32, .bool false),(35,Zb c.oth),(36, .bool (SCmp.b .eql c.oth [])),(38, .agg #[U c.v.k,U c.v.n,Zb c.v.s]),(39, .bool (Y1 c.v)),(40, .bool false),(44,Zb c.oth),(45, .bool true),(48, .agg #[U c.v.k,U c.v.n,Zb c.v.s]),(49, .agg #[U 0,U 0,Zb []]),(50, .bool false)] S5 ⟨fun _ hSw=>Za hSw (YC.drop 1 (C1.mono L2)) Zy V V V <| nu V V,fun _=>YG .eql V c.col [] false (by simp [h9,SCmp.b]) V V V <| nu V V,fun _ hSw=>Za hSw (YC.drop 2 (C1.mono L2)) Zy V V V <| nu V V,fun _=>Zn .eql V c.oth [] V V V <| nu V V,fun _ hSw=>Zc hSw (YC.drop 3 (C1.mono L2)) [U c.v.k,U c.v.n,Zb c.v.s] X5 V V V V V <| nu V V,fun _ hSw=>YS hSw Zar V V V (Zbj hSw.imm c.v _ (QN c.v B4 B5 B6)) V,fun _=>Za4 (SCmp.b .eql c.oth []) (Y1 c.v) ul4 V V V <| nu (congrArg Value.bool h10.symm) V,fun _ hSw=>Za hSw (YC.drop 2 (C1.mono L2)) Zy V V V <| nu V V,fun _=>YG .neq V c.oth [] true (by simp [h11,SCmp.b]) V V V <| nu V V,fun _ hSw=>Zc hSw (YC.drop 3 (C1.mono L2)) [U c.v.k,U c.v.n,Zb c.v.s] X5 V V V V V <| nu V V,fun _ hSw=>Zc hSw C2 [U 0,U 0,Zb []] X5 V V V V V <| nu V V,fun _=>Zbq false (ZaQ c.v (Val.mk 0 0 [])) ZcK (by simp [h12]) V V V <| nu V V,trivial⟩ (fun w15 S15=>?_)
    exact ⟨0,G2,(G2.le_refl),S15,(Yt V),(by exact Zli (by first | exact .inl ‹_› | exact .inr ‹_›) ‹_› ‹_› (by first | assumption | exact of_decide_eq_true (ZeN ‹_›)))⟩
   refine dr [] [(31,Zb c.col),(32, .bool false),(35,Zb c.oth),(36, .bool (SCmp.b .eql c.oth [])),(38, .agg #[U c.v.k,U c.v.n,Zb c.v.s]),(39, .bool (Y1 c.v)),(40, .bool false),(44,Zb c.oth),(45, .bool true),(48, .agg #[U c.v.k,U c.v.n,Zb c.v.s]),(49, .agg #[U 0,U 0,Zb []]),(50, .bool true)] S5 ⟨fun _ hSw=>Za hSw (YC.drop 1 (C1.mono L2)) Zy V V V <| nu V V,fun _=>YG .eql V c.col [] false (by simp [h9,SCmp.b]) V V V <| nu V V,fun _ hSw=>Za hSw (YC.drop 2 (C1.mono L2)) Zy V V V <| nu V V,fun _=>Zn .eql V c.oth [] V V V <| nu V V,fun _ hSw=>Zc hSw (YC.drop 3 (C1.mono L2)) [U c.v.k,U c.v.n,Zb c.v.s] X5 V V V V V <| nu V V,fun _ hSw=>YS hSw Zar V V V (Zbj hSw.imm c.v _ (QN c.v B4 B5 B6)) V,fun _=>Za4 (SCmp.b .eql c.oth []) (Y1 c.v) ul4 V V V <| nu (congrArg Value.bool h10.symm) V,fun _ hSw=>Za hSw (YC.drop 2 (C1.mono L2)) Zy V V V <| nu V V,fun _=>YG .neq V c.oth [] true (by simp [h11,SCmp.b]) V V V <| nu V V,fun _ hSw=>Zc hSw (YC.drop 3 (C1.mono L2)) [U c.v.k,U c.v.n,Zb c.v.s] X5 V V V V V <| nu V V,fun _ hSw=>Zc hSw C2 [U 0,U 0,Zb []] X5 V V V V V <| nu V V,fun _=>Zbq true (ZaQ c.v (Val.mk 0 0 [])) ZcK (by simp [h12]) V V V <| nu V V,trivial⟩ (fun w16 S16=>?_)
   exact RT S16 V ⟨(congrArg Value.bool (by (rw [YE (by omega) (by omega) (by unfold Z2 ZQ Yn ZZ; first | (simp_all [Cmp.b,SCmp.b]; done) | (simp_all [Cmp.b,SCmp.b]; omega))]; done))),(S16.lentAt 0 V).cast (by (rw [YE (by omega) (by omega) (by unfold Z2 ZQ Yn ZZ; first | (simp_all [Cmp.b,SCmp.b]; done) | (simp_all [Cmp.b,SCmp.b]; omega))]; done))⟩
  refine Zj c.kind 3 V V V (fun h13=>?_) (fun h13=>?_)
  ·refine Za S5 (YC.drop 1 (C1.mono L2)) Zy V V V <| Zn .neq V c.col [] V V V ?_
   refine WL.split (fun h0=>?_) (fun h0=>?_)
   ·have h14 : c.col ≠ []:=by simpa [SCmp.b] using h0
    clear h0
    exact RT S5 V ⟨(congrArg Value.bool (by (rw [YE (by omega) (by omega) (by unfold Z2 ZQ Yn ZZ; first | (simp_all [Cmp.b,SCmp.b]; done) | (simp_all [Cmp.b,SCmp.b]; omega))]; done))),(S5.lentAt 0 V).cast (by (rw [YE (by omega) (by omega) (by unfold Z2 ZQ Yn ZZ; first | (simp_all [Cmp.b,SCmp.b]; done) | (simp_all [Cmp.b,SCmp.b]; omega))]; done))⟩
   have h14 : c.col = []:=by simpa [SCmp.b] using h0
   clear h0
   refine Za S5 (YC.drop 2 (C1.mono L2)) Zy V V V <| Zn .neq V c.oth [] V V V ?_
   refine WL.split (fun h0=>?_) (fun h0=>?_)
   ·have h15 : c.oth ≠ []:=by simpa [SCmp.b] using h0
    clear h0
    exact RT S5 V ⟨(congrArg Value.bool (by (rw [YE (by omega) (by omega) (by unfold Z2 ZQ Yn ZZ; first | (simp_all [Cmp.b,SCmp.b]; done) | (simp_all [Cmp.b,SCmp.b]; omega))]; done))),(S5.lentAt 0 V).cast (by (rw [YE (by omega) (by omega) (by unfold Z2 ZQ Yn ZZ; first | (simp_all [Cmp.b,SCmp.b]; done) | (simp_all [Cmp.b,SCmp.b]; omega))]; done))⟩
   have h15 : c.oth = []:=by simpa [SCmp.b] using h0
   clear h0
   refine Zc S5 (YC.drop 3 (C1.mono L2)) [U c.v.k,U c.v.n,Zb c.v.s] X5 V V V V V <| Zc S5 C2 [U 0,U 0,Zb []] X5 V V V V V <| ZcP (ZaQ c.v (Val.mk 0 0 [])) ZcK V V V ?_
   refine WL.split (fun (h16 : (!decide (c.v = (Val.mk 0 0 []))) = true)=>?_) (fun (h16 : (!decide (c.v = (Val.mk 0 0 []))) = false)=>?_)
   ·exact RT S5 V ⟨(congrArg Value.bool (by (rw [YE (by omega) (by omega) (by unfold Z2 ZQ Yn ZZ; first | (simp_all [Cmp.b,SCmp.b]; done) | (simp_all [Cmp.b,SCmp.b]; omega))]; done))),(S5.lentAt 0 V).cast (by (rw [YE (by omega) (by omega) (by unfold Z2 ZQ Yn ZZ; first | (simp_all [Cmp.b,SCmp.b]; done) | (simp_all [Cmp.b,SCmp.b]; omega))]; done))⟩
   refine ZcL 3 3 S5 V (fun b2 w17 hm1 ha1 S17=>?_)
   refine XI 4 1 S17 hm1 ha1 Zak Q1 Q1 (by constructor <;> decide) (by constructor <;> decide) (by decide) V V V V (fun w18 hm2 S18=>?_)
   refine XI 5 2 S18 hm2 ha1 Zak Q1 Q1 (by constructor <;> decide) (by constructor <;> decide) (by decide) V V V V (fun w19 hm3 S19=>?_)
   refine XI 6 2 S19 hm3 ha1 Zak Q1 Q1 (by constructor <;> decide) (by constructor <;> decide) (by decide) V V V V (fun w20 hm4 S20=>?_)
   refine Za S20 (YC.drop 0 (C1.mono L2)) Z3 V V V ?_
   refine Zdz c.kind hm4 Zak Q1 Q1 B1 (by rfl) V V V (fun cc1 hat1=>?_)
   have hcc : cc1 = (ZZ c.kind : Int):=by exact Zrf ‹_› hat1
   exact ⟨cc1,G2,(G2.le_refl),S20,(Yt V),(by exact Zgd (by omega) ‹_› ‹_› (by first | assumption | exact of_decide_eq_true (ZeN ‹_›)) ‹_›)⟩
  refine Zj c.kind 4 V V V (fun h17=>?_) (fun h17=>?_)
  ·refine Za S5 (YC.drop 1 (C1.mono L2)) Zy V V V <| Zn .neq V c.col [] V V V ?_
   refine WL.split (fun h0=>?_) (fun h0=>?_)
   ·have h18 : c.col ≠ []:=by simpa [SCmp.b] using h0
    clear h0
    exact RT S5 V ⟨(congrArg Value.bool (by (rw [YE (by omega) (by omega) (by unfold Z2 ZQ Yn ZZ; first | (simp_all [Cmp.b,SCmp.b]; done) | (simp_all [Cmp.b,SCmp.b]; omega))]; done))),(S5.lentAt 0 V).cast (by (rw [YE (by omega) (by omega) (by unfold Z2 ZQ Yn ZZ; first | (simp_all [Cmp.b,SCmp.b]; done) | (simp_all [Cmp.b,SCmp.b]; omega))]; done))⟩
   have h18 : c.col = []:=by simpa [SCmp.b] using h0
   clear h0
   refine Za S5 (YC.drop 2 (C1.mono L2)) Zy V V V <| Zn .neq V c.oth [] V V V ?_
   refine WL.split (fun h0=>?_) (fun h0=>?_)
   ·have h19 : c.oth ≠ []:=by simpa [SCmp.b] using h0
    clear h0
    exact RT S5 V ⟨(congrArg Value.bool (by (rw [YE (by omega) (by omega) (by unfold Z2 ZQ Yn ZZ; first | (simp_all [Cmp.b,SCmp.b]; done) | (simp_all [Cmp.b,SCmp.b]; omega))]; done))),(S5.lentAt 0 V).cast (by (rw [YE (by omega) (by omega) (by unfold Z2 ZQ Yn ZZ; first | (simp_all [Cmp.b,SCmp.b]; done) | (simp_all [Cmp.b,SCmp.b]; omega))]; done))⟩
   have h19 : c.oth = []:=by simpa [SCmp.b] using h0
   clear h0
   refine Zc S5 (YC.drop 3 (C1.mono L2)) [U c.v.k,U c.v.n,Zb c.v.s] X5 V V V V V <| Zc S5 C2 [U 0,U 0,Zb []] X5 V V V V V <| ZcP (ZaQ c.v (Val.mk 0 0 [])) ZcK V V V ?_
   refine WL.split (fun (h20 : (!decide (c.v = (Val.mk 0 0 []))) = true)=>?_) (fun (h20 : (!decide (c.v = (Val.mk 0 0 []))) = false)=>?_)
   ·exact RT S5 V ⟨(congrArg Value.bool (by (rw [YE (by omega) (by omega) (by unfold Z2 ZQ Yn ZZ; first | (simp_all [Cmp.b,SCmp.b]; done) | (simp_all [Cmp.b,SCmp.b]; omega))]; done))),(S5.lentAt 0 V).cast (by (rw [YE (by omega) (by omega) (by unfold Z2 ZQ Yn ZZ; first | (simp_all [Cmp.b,SCmp.b]; done) | (simp_all [Cmp.b,SCmp.b]; omega))]; done))⟩
   refine ZcL 3 3 S5 V (fun b3 w21 hm5 ha2 S21=>?_)
   refine XI 4 1 S21 hm5 ha2 Zak Q1 Q1 (by constructor <;> decide) (by constructor <;> decide) (by decide) V V V V (fun w22 hm6 S22=>?_)
   refine XI 5 2 S22 hm6 ha2 Zak Q1 Q1 (by constructor <;> decide) (by constructor <;> decide) (by decide) V V V V (fun w23 hm7 S23=>?_)
   refine XI 6 2 S23 hm7 ha2 Zak Q1 Q1 (by constructor <;> decide) (by constructor <;> decide) (by decide) V V V V (fun w24 hm8 S24=>?_)
   refine Za S24 (YC.drop 0 (C1.mono L2)) Z3 V V V ?_
   refine Zdz c.kind hm8 Zak Q1 Q1 B1 (by rfl) V V V (fun cc2 hat2=>?_)
   have hcc : cc2 = (ZZ c.kind : Int):=by exact Zrg ‹_› hat2
   exact ⟨cc2,G2,(G2.le_refl),S24,(Yt V),(by exact Zgd (by omega) ‹_› ‹_› (by first | assumption | exact of_decide_eq_true (ZeN ‹_›)) ‹_›)⟩
  refine Zj c.kind 5 V V V (fun h21=>?_) (fun h21=>?_)
  ·refine Za S5 (YC.drop 1 (C1.mono L2)) Zy V V V <| Zn .neq V c.col [] V V V ?_
   refine WL.split (fun h0=>?_) (fun h0=>?_)
   ·have h22 : c.col ≠ []:=by simpa [SCmp.b] using h0
    clear h0
    exact RT S5 V ⟨(congrArg Value.bool (by (rw [YE (by omega) (by omega) (by unfold Z2 ZQ Yn ZZ; first | (simp_all [Cmp.b,SCmp.b]; done) | (simp_all [Cmp.b,SCmp.b]; omega))]; done))),(S5.lentAt 0 V).cast (by (rw [YE (by omega) (by omega) (by unfold Z2 ZQ Yn ZZ; first | (simp_all [Cmp.b,SCmp.b]; done) | (simp_all [Cmp.b,SCmp.b]; omega))]; done))⟩
   have h22 : c.col = []:=by simpa [SCmp.b] using h0
   clear h0
   refine Za S5 (YC.drop 2 (C1.mono L2)) Zy V V V <| Zn .neq V c.oth [] V V V ?_
   refine WL.split (fun h0=>?_) (fun h0=>?_)
   ·have h23 : c.oth ≠ []:=by simpa [SCmp.b] using h0
    clear h0
    exact RT S5 V ⟨(congrArg Value.bool (by (rw [YE (by omega) (by omega) (by unfold Z2 ZQ Yn ZZ; first | (simp_all [Cmp.b,SCmp.b]; done) | (simp_all [Cmp.b,SCmp.b]; omega))]; done))),(S5.lentAt 0 V).cast (by (rw [YE (by omega) (by omega) (by unfold Z2 ZQ Yn ZZ; first | (simp_all [Cmp.b,SCmp.b]; done) | (simp_all [Cmp.b,SCmp.b]; omega))]; done))⟩
   have h23 : c.oth = []:=by simpa [SCmp.b] using h0
   clear h0
   refine Zc S5 (YC.drop 3 (C1.mono L2)) [U c.v.k,U c.v.n,Zb c.v.s] X5 V V V V V <| Zc S5 C2 [U 0,U 0,Zb []] X5 V V V V V <| ZcP (ZaQ c.v (Val.mk 0 0 [])) ZcK V V V ?_
   refine WL.split (fun (h24 : (!decide (c.v = (Val.mk 0 0 []))) = true)=>?_) (fun (h24 : (!decide (c.v = (Val.mk 0 0 []))) = false)=>?_)
   ·exact RT S5 V ⟨(congrArg Value.bool (by (rw [YE (by omega) (by omega) (by unfold Z2 ZQ Yn ZZ; first | (simp_all [Cmp.b,SCmp.b]; done) | (simp_all [Cmp.b,SCmp.b]; omega))]; done))),(S5.lentAt 0 V).cast (by (rw [YE (by omega) (by omega) (by unfold Z2 ZQ Yn ZZ; first | (simp_all [Cmp.b,SCmp.b]; done) | (simp_all [Cmp.b,SCmp.b]; omega))]; done))⟩
   refine ZcL 3 3 S5 V (fun b4 w25 hm9 ha3 S25=>?_)
   refine XI 4 1 S25 hm9 ha3 Zak Q1 Q1 (by constructor <;> decide) (by constructor <;> decide) (by decide) V V V V (fun w26 hm10 S26=>?_)
   refine XI 5 2 S26 hm10 ha3 Zak Q1 Q1 (by constructor <;> decide) (by constructor <;> decide) (by decide) V V V V (fun w27 hm11 S27=>?_)
   refine XI 6 2 S27 hm11 ha3 Zak Q1 Q1 (by constructor <;> decide) (by constructor <;> decide) (by decide) V V V V (fun w28 hm12 S28=>?_)
   refine Za S28 (YC.drop 0 (C1.mono L2)) Z3 V V V ?_
   refine Zdz c.kind hm12 Zak Q1 Q1 B1 (by rfl) V V V (fun cc3 hat3=>?_)
   have hcc : cc3 = (ZZ c.kind : Int):=by exact Zrh ‹_› hat3
   exact ⟨cc3,G2,(G2.le_refl),S28,(Yt V),(by exact Zgd (by omega) ‹_› ‹_› (by first | assumption | exact of_decide_eq_true (ZeN ‹_›)) ‹_›)⟩
  refine Zj c.kind 6 V V V (fun h25=>?_) (fun h25=>?_)
  ·refine Za S5 (YC.drop 1 (C1.mono L2)) Zy V V V <| Zn .neq V c.col [] V V V ?_
   refine WL.split (fun h0=>?_) (fun h0=>?_)
   ·have h26 : c.col ≠ []:=by simpa [SCmp.b] using h0
    clear h0
    exact RT S5 V ⟨(congrArg Value.bool (by (rw [YE (by omega) (by omega) (by unfold Z2 ZQ Yn ZZ; first | (simp_all [Cmp.b,SCmp.b]; done) | (simp_all [Cmp.b,SCmp.b]; omega))]; done))),(S5.lentAt 0 V).cast (by (rw [YE (by omega) (by omega) (by unfold Z2 ZQ Yn ZZ; first | (simp_all [Cmp.b,SCmp.b]; done) | (simp_all [Cmp.b,SCmp.b]; omega))]; done))⟩
   have h26 : c.col = []:=by simpa [SCmp.b] using h0
   clear h0
   refine Za S5 (YC.drop 2 (C1.mono L2)) Zy V V V <| Zn .neq V c.oth [] V V V ?_
   refine WL.split (fun h0=>?_) (fun h0=>?_)
   ·have h27 : c.oth ≠ []:=by simpa [SCmp.b] using h0
    clear h0
    exact RT S5 V ⟨(congrArg Value.bool (by (rw [YE (by omega) (by omega) (by unfold Z2 ZQ Yn ZZ; first | (simp_all [Cmp.b,SCmp.b]; done) | (simp_all [Cmp.b,SCmp.b]; omega))]; done))),(S5.lentAt 0 V).cast (by (rw [YE (by omega) (by omega) (by unfold Z2 ZQ Yn ZZ; first | (simp_all [Cmp.b,SCmp.b]; done) | (simp_all [Cmp.b,SCmp.b]; omega))]; done))⟩
   have h27 : c.oth = []:=by simpa [SCmp.b] using h0
   clear h0
   refine Zc S5 (YC.drop 3 (C1.mono L2)) [U c.v.k,U c.v.n,Zb c.v.s] X5 V V V V V <| Zc S5 C2 [U 0,U 0,Zb []] X5 V V V V V <| ZcP (ZaQ c.v (Val.mk 0 0 [])) ZcK V V V ?_
   refine WL.split (fun (h28 : (!decide (c.v = (Val.mk 0 0 []))) = true)=>?_) (fun (h28 : (!decide (c.v = (Val.mk 0 0 []))) = false)=>?_)
   ·exact RT S5 V ⟨(congrArg Value.bool (by (rw [YE (by omega) (by omega) (by unfold Z2 ZQ Yn ZZ; first | (simp_all [Cmp.b,SCmp.b]; done) | (simp_all [Cmp.b,SCmp.b]; omega))]; done))),(S5.lentAt 0 V).cast (by (rw [YE (by omega) (by omega) (by unfold Z2 ZQ Yn ZZ; first | (simp_all [Cmp.b,SCmp.b]; done) | (simp_all [Cmp.b,SCmp.b]; omega))]; done))⟩
   refine ZcL 3 3 S5 V (fun b5 w29 hm13 ha4 S29=>?_)
   refine XI 4 1 S29 hm13 ha4 Zak Q1 Q1 (by constructor <;> decide) (by constructor <;> decide) (by decide) V V V V (fun w30 hm14 S30=>?_)
   refine XI 5 2 S30 hm14 ha4 Zak Q1 Q1 (by constructor <;> decide) (by constructor <;> decide) (by decide) V V V V (fun w31 hm15 S31=>?_)
   refine XI 6 2 S31 hm15 ha4 Zak Q1 Q1 (by constructor <;> decide) (by constructor <;> decide) (by decide) V V V V (fun w32 hm16 S32=>?_)
   refine Za S32 (YC.drop 0 (C1.mono L2)) Z3 V V V ?_
   refine Zdz c.kind hm16 Zak Q1 Q1 B1 (by rfl) V V V (fun cc4 hat4=>?_)
   have hcc : cc4 = (ZZ c.kind : Int):=by exact Zri ‹_› hat4
   exact ⟨cc4,G2,(G2.le_refl),S32,(Yt V),(by exact Zgd (by omega) ‹_› ‹_› (by first | assumption | exact of_decide_eq_true (ZeN ‹_›)) ‹_›)⟩
  exact RT S5 V ⟨(congrArg Value.bool (by (rw [YE (by omega) (by omega) (by unfold Z2 ZQ Yn ZZ; first | (simp_all [Cmp.b,SCmp.b]; done) | (simp_all [Cmp.b,SCmp.b]; omega))]; done))),(S5.lentAt 0 V).cast (by (rw [YE (by omega) (by omega) (by unfold Z2 ZQ Yn ZZ; first | (simp_all [Cmp.b,SCmp.b]; done) | (simp_all [Cmp.b,SCmp.b]; omega))]; done))⟩
 rintro ρ1 w5 ⟨op9,G3,L3,S6,F9,f1⟩
 refine F9.set ?_
 have N9:=(by assumption : Z2 c = decide ((c.l.length : Int) = op9))
 have j1:=(L2.trans L3)
 refine Za S6 (YC.drop 6 (C1.mono j1)) Y0 V V V ?_
 have V1:=O1.bound
 have j2:=((L1.trans L2).trans L3)
 refine Zl (O1.mono j2) Y2 V V ?_
 refine Z8 (c.l.length : Int) op9 V V V (fun h29=>?_) (fun h29=>?_)
 ·exact RT S6 V ⟨(congrArg Value.bool (by (rw [YE (by omega) (by omega) (by rw [N9]; exact decide_eq_false ‹_›)]; done))),(S6.lentAt 0 V).cast (by (rw [YE (by omega) (by omega) (by rw [N9]; exact decide_eq_false ‹_›)]; done))⟩
 have hpl : Z2 c = true:=by rw [N9]; exact decide_eq_true ‹_›
 refine Za S6 (YC.drop 6 (C1.mono j1)) Y0 V V V ?_
 have V2:=O1.bound
 refine Zl (O1.mono j2) Y2 V V ?_
 refine LP.go ft [19] (fun m ρ1 w1=>∃ (k1 : Nat),∃ (mm : Int),∃ (G4 : GH),m = c.l.length - k1 ∧ G3.le G4 ∧ St w [pb] G G4 [some (pb,(nat_lit 3),[U mm])] w1 ∧ FR ρ1 [(1,U dep),(2, .pointer (some ⟨pb,0,none⟩)),(83,lv1),(84,U (c.l.length : Int)),(85,U (k1 : Int))] ∧ k1 ≤ c.l.length ∧ YW (fun x m=>Yw d x (dep + 1) m) (c.l.take k1) (n + 1) = (true,mm) ∧ 0 ≤ mm ∧ mm ≤ 60) _ ⟨0,(n + 1),G3,V,(G3.le_refl),S6,(Yt V),(by omega),(by rfl),(by omega)⟩ ?_
 rintro m ρ1 w33 ⟨k1,mm,G4,rfl,L4,S33,F9,f2,f3,f4⟩
 refine F9.set ?_
 clear F9
 have hm64 : ZM mm:=⟨by omega,by omega⟩
 refine Z1 (k1 : Int) (c.l.length : Int) V V V (fun h30=>?_) (fun h30=>?_)
 ·refine WL.indexAddr (O1.mono (j2.trans L4)) k1 (by omega) Y2 Z5 V V V V (fun p2 x1 U1 E1=>?_)
  obtain ⟨D1,C3,R1⟩:=E1
  obtain ⟨lv2,rfl,B7,ZK,hb9,Z9,Z7,Z6,O2⟩:=Za7 R1
  refine Zc S33 C3 [U x1.kind,Zb x1.col,Zb x1.oth,U x1.v.k,U x1.v.n,Zb x1.v.s,lv2] Z5 V V V V V ?_
  refine WL.alloc S33 Z5 V V (fun b6 w34 N2 S34=>?_)
  refine ZY S34 0 [U x1.kind,Zb x1.col,Zb x1.oth,U x1.v.k,U x1.v.n,Zb x1.v.s,lv2] V V Z5 V V (by simp only [ZW,O2] <;> rfl) V V V (fun w35 S35=>?_)
  obtain ⟨G5,L5,C4,S36⟩:=S35.shutB N2
  refine Zc S36 C4 [U x1.kind,Zb x1.col,Zb x1.oth,U x1.v.k,U x1.v.n,Zb x1.v.s,lv2] Z5 V V V V V ?_
  have hi2 : ZM (dep + 1):=by have:=hdep64.1; have:=hdep64.2; constructor <;> omega
  refine WL.ar .add V dep 1 V V V hi2 ?_
  refine XG Zc8 V V V (ih S36.imm x1 (dep + 1) mm _ ((Xd _).mono L5 R1) _ (S36.lentAt 0 V) (by omega) (by omega)) (fun w36 G6 r1 hres1 ⟨P1,hlc1⟩=>?_)
  have S37 : St w [pb] G G6 [some (pb,(nat_lit 3),[U ((Yw d x1 (dep + 1) mm).2)])] w36:=S36.callX 0 V [U ((Yw d x1 (dep + 1) mm).2)] hres1 (hlc1 _ V).1
  have L6:=hres1.le
  subst P1
  refine WL.split (fun (h31 : ((Yw d x1 (dep + 1) mm).1) = true)=>?_) (fun (h31 : ((Yw d x1 (dep + 1) mm).1) = false)=>?_)
  ·refine ZC k1 (by have:=Zm; omega) V V V ?_
   exact BK.mk' _ ⟨k1 + 1,(Yw d x1 (dep + 1) mm).2,G6,V,(L4.trans (L5.trans L6)),S37,(Yt V),(by omega),(by exact Zjz ‹_› ‹_› ‹_›),(by have h9:=Zhn (by assumption : (Yw d _ (dep + 1) mm).1 = true); omega)⟩ (show c.l.length - (k1 + 1) < c.l.length - k1 by omega)
  exact RT S37 V ⟨(congrArg Value.bool (by (rw [ZmL (k:=k1) (by omega) (by omega) hpl ‹_› ‹_› ‹_›]; done))),(S37.lentAt 0 V).cast (by (rw [ZmL (k:=k1) (by omega) (by omega) hpl ‹_› ‹_› ‹_›]; done))⟩
 exact RT S33 V ⟨(congrArg Value.bool (by (rw [ZmM (k:=k1) (m:=mm) (by omega) (by omega) hpl (by omega) ‹_›]; done))),(S33.lentAt 0 V).cast (by (rw [ZmM (k:=k1) (m:=mm) (by omega) (by omega) hpl (by omega) ‹_›]; done))⟩
theorem Zqc {G : GH} {w : World} (hG : G.In w) (d : Nat) (c : Cond) (l : List Col) (cc : List Value) (hcc : (Xd d).rep G c cc) (vl : Value) (hvl : Sl ColE 24 G vl l) : CL Tryz.prog (nat_lit 122) #[.agg cc.toArray,vl] [] w G fun _ _ r=>r = U (Xq d c l):=by
 refine Zo ft [] Tryz.func122 V V ?_
 have hS:=St.start (X:=[]) hG
 obtain ⟨lv1,rfl,B1,B2,B3,B4,B5,B6,O1⟩:=Za7 hcc
 refine ZL [U c.kind,Zb c.col,Zb c.oth,U c.v.k,U c.v.n,Zb c.v.s,lv1] _ hS V V V (fun p1 w1 G1 L1 M1 C1 S1=>?_)
 refine WL.alloc S1 Z3 V V (fun b1 w2 N1 S2=>?_)
 refine ZY S2 0 [U 0] V V Z3 V V V V V V (fun w3 S3=>?_)
 refine Zc S3 C1 [U c.kind,Zb c.col,Zb c.oth,U c.v.k,U c.v.n,Zb c.v.s,lv1] Z5 V V V V V ?_
 refine XG Zc8 V V V (Zo9 _ S3.imm c 1 0 _ ((Xd _).mono L1 hcc) _ (S3.lentAt 0 V) (by omega) (by omega)) (fun w4 G2 r1 hres1 ⟨P1,hlc1⟩=>?_)
 have S4 : St w [] G G2 [some (b1,3,[U ((Yw d c 1 0).2)])] w4:=S3.callX 0 V [U ((Yw d c 1 0).2)] hres1 (hlc1 _ V).1
 have L2:=hres1.le
 subst P1
 refine WL.split (fun (h1 : ((Yw d c 1 0).1) = true)=>?_) (fun (h1 : ((Yw d c 1 0).1) = false)=>?_)
 ·refine Zc S4 (C1.mono L2) [U c.kind,Zb c.col,Zb c.oth,U c.v.k,U c.v.n,Zb c.v.s,lv1] Z5 V V V V V ?_
  refine Zw S4 Zc9 V V V (ZpZ _ S4.imm c l _ ((Xd _).mono (L1.trans L2) hcc) _ (hvl.mono (L1.trans L2))) (fun w5 G3 S5 L3=>?_)
  exact RI S5 V (by unfold Xq; exact (if_pos (of_decide_eq_true (by rw [← Zj1]; assumption))).symm)
 exact RI S4 V (by unfold Xq; exact (if_neg (of_decide_eq_false (by rw [← Zj1]; assumption))).symm)
end Go.Civ
