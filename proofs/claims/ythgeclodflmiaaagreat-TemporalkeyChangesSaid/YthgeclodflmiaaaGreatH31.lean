/- Lemmas. -/
import Derived.Test.YthgeclodflmiaaaGreatH10
import Derived.Test.YthgeclodflmiaaaGreatH14
import Derived.Test.YthgeclodflmiaaaGreatH27
import Derived.Test.YthgeclodflmiaaaGreatProg
import Derived.KernelRfl
import Derived.WalkKit
set_option linter.unusedVariables false
set_option linter.unusedSimpArgs false
set_option maxRecDepth 100000
set_option maxHeartbeats 4000000
namespace Go.Civ
open Go.Proofs
theorem Zr9 (d : Nat) : ∀ {G : GH} {w : World} (hG : G.In w) (c : Cond) (dep n : Int) (cc : List Value) (hcc : (Y1 d).rep G c cc) (pb : Nat) (hpb : XJ w G (some (pb,(nat_lit 3),[.int .i64 n]))) (hdep : 0 ≤ dep ∧ dep ≤ 13) (hn : 0 ≤ n ∧ n ≤ 60),CL Tryz.prog (nat_lit 194) #[.agg cc.toArray, .int .i64 dep, .pointer (some ⟨pb,0,none⟩)] [pb] w G fun G' w' r=>(r = .bool ((ZP d c dep n).1)) ∧ XJ w' G' (some (pb,(nat_lit 3),[.int .i64 ((ZP d c dep n).2)])):=by
 induction d
 ·intro G w hG c dep n cc hcc pb hpb hdep hn; exact (Zb6 hcc).elim
 rename_i d ih
 intro G w hG c dep n cc hcc pb hpb hdep hn
 refine Zg ft [19] Tryz.func194 rfl rfl ?_
 have hdep64 : Zw dep:=⟨by omega,by omega⟩
 have hn64 : Zw n:=⟨by omega,by omega⟩
 have hS:=St.lentO hG hpb
 obtain ⟨lv1,rfl,hb1,hb2,hb3,hb4,hb5,hb6,ho1⟩:=Zb7 hcc
 refine Zv [.int .i64 c.kind,Zb c.col,Zb c.oth, .int .i64 c.v.k, .int .i64 c.v.n,Zb c.v.s,lv1] _ hS rfl rfl rfl (fun p1 w1 G1 hle1 hsp1 hc1 hS1=>?_)
 refine WL.nilCheck _ rfl rfl <| ZU hS1 0 _ _ _ 0 _ rfl rfl Zp rfl rfl rfl ?_
 have hi1 : Zw (n + 1):=by have:=hn64.1; have:=hn64.2; constructor <;> omega
 refine ZaL .add rfl n 1 rfl rfl rfl hi1 <| WL.nilCheck _ rfl rfl ?_
 refine WL.store hS1 0 _ _ _ 0 _ [.int .i64 (n + 1)] [.int .i64 (n + 1)] _ rfl rfl Zp rfl (Nat.le_of_ble_eq_true rfl) rfl rfl rfl rfl rfl rfl (fun w2 hS2=>?_)
 refine WL.nilCheck _ rfl rfl <| ZU hS2 0 _ _ _ 0 _ rfl rfl Zp rfl rfl rfl ?_
 refine YX (n + 1) 60 rfl rfl rfl (fun h1=>?_) (fun h1=>?_)
 ·exact RT hS2 rfl ⟨(congrArg Value.bool (by (rw [Zho (by omega)]; done))),(hS2.lentAt 0 rfl).cast (by (rw [Zho (by omega)]; done))⟩
 refine YX dep 12 rfl rfl rfl (fun h2=>?_) (fun h2=>?_)
 ·exact RT hS2 rfl ⟨(congrArg Value.bool (by (rw [Zho (by omega)]; done))),(hS2.lentAt 0 rfl).cast (by (rw [Zho (by omega)]; done))⟩
 refine WL.build _ [] [.int .i64 0, .int .i64 0,Zb []] Z3 rfl Zql rfl rfl rfl rfl ?_
 refine WL.alloc hS2 Z3 rfl rfl (fun b1 w3 hn1 hS3=>?_)
 refine WL.store hS3 0 _ _ _ 0 _ [.int .i64 0, .int .i64 0,Zb []] [.int .i64 0, .int .i64 0,Zb []] _ rfl rfl Z3 rfl (Nat.le_of_ble_eq_true rfl) rfl rfl rfl rfl rfl rfl (fun w4 hS4=>?_)
 obtain ⟨G2,hle2,hc2,hS5⟩:=hS4.shutB hn1
 refine JN.go ft [19] (fun ρ1 w1=>∃ (op9 : Int),∃ (G3 : GH),G2.le G3 ∧ St w [pb] G G3 [some (pb,(nat_lit 3),[.int .i64 (n + 1)])] w1 ∧ FR ρ1 [(1, .int .i64 dep),(2, .pointer (some ⟨pb,0,none⟩)),(3, .pointer (some p1)),(8, .int .i64 op9)] ∧ ZL c = decide ((c.l.length : Int) = op9)) ?_ ?_
 ·refine Za hS5 (Xw.drop 0 (hc1.mono hle2)) Zp rfl rfl rfl ?_
  refine ZC c.kind 1 rfl rfl rfl (fun h3=>?_) (fun h3=>?_)
  ·rcases Classical.em (c.col = []) with h4 | h4
   ·refine dr [] [(31,Zb c.col),(32, .bool true)] hS5 ⟨fun _ hSw=>Za hSw (Xw.drop 1 (hc1.mono hle2)) Yj rfl rfl rfl <| nu rfl rfl,fun _=>Xt .eql rfl c.col [] true (by simp [h4,SCmp.b]) rfl rfl rfl <| nu rfl rfl,trivial⟩ (fun w6 hS7=>?_)
    exact RT hS7 rfl ⟨(congrArg Value.bool (by (rw [Yn (by omega) (by omega) (by unfold ZL Yg Xo Yy; first | (simp_all [Cmp.b,SCmp.b]; done) | (simp_all [Cmp.b,SCmp.b]; omega))]; done))),(hS7.lentAt 0 rfl).cast (by (rw [Yn (by omega) (by omega) (by unfold ZL Yg Xo Yy; first | (simp_all [Cmp.b,SCmp.b]; done) | (simp_all [Cmp.b,SCmp.b]; omega))]; done))⟩
   rcases Bool.eq_false_or_eq_true (!((SCmp.b .eql c.oth []) == (Zz c.v))) with h5 | h5
   ·refine dr [] [(31,Zb c.col),(32, .bool false),(35,Zb c.oth),(36, .bool (SCmp.b .eql c.oth [])),(38, .agg #[.int .i64 c.v.k, .int .i64 c.v.n,Zb c.v.s]),(39, .bool (Zz c.v)),(40, .bool true)] hS5 ⟨fun _ hSw=>Za hSw (Xw.drop 1 (hc1.mono hle2)) Yj rfl rfl rfl <| nu rfl rfl,fun _=>Xt .eql rfl c.col [] false (by simp [h4,SCmp.b]) rfl rfl rfl <| nu rfl rfl,fun _ hSw=>Za hSw (Xw.drop 2 (hc1.mono hle2)) Yj rfl rfl rfl <| nu rfl rfl,fun _=>Ya .eql rfl c.oth [] rfl rfl rfl <| nu rfl rfl,fun _ hSw=>Zc hSw (Xw.drop 3 (hc1.mono hle2)) [.int .i64 c.v.k, .int .i64 c.v.n,Zb c.v.s] Z3 rfl rfl rfl rfl rfl <| nu rfl rfl,fun _ hSw=>Z4 hSw Zax rfl rfl rfl (XN hSw.imm c.v _ (Y3 c.v hb4 hb5 hb6)) rfl,fun _=>Zaa (SCmp.b .eql c.oth []) (Zz c.v) ul4 rfl rfl rfl <| nu (congrArg Value.bool h5.symm) rfl,trivial⟩ (fun w7 hS8=>?_)
    exact RT hS8 rfl ⟨(congrArg Value.bool (by (rw [Yn (by omega) (by omega) (Zd8 (by first | exact .inl ‹_› | exact .inr ‹_›) ‹_›)]; done))),(hS8.lentAt 0 rfl).cast (by (rw [Yn (by omega) (by omega) (Zd8 (by first | exact .inl ‹_› | exact .inr ‹_›) ‹_›)]; done))⟩
   rcases Classical.em (c.oth = []) with h6 | h6
   ·refine dr [] [(31,Zb c.col),(32, .bool false),(35,Zb c.oth),(36, .bool (SCmp.b .eql c.oth [])),(38, .agg #[.int .i64 c.v.k, .int .i64 c.v.n,Zb c.v.s]),(39, .bool (Zz c.v)),(40, .bool false),(44,Zb c.oth),(45, .bool false)] hS5 ⟨fun _ hSw=>Za hSw (Xw.drop 1 (hc1.mono hle2)) Yj rfl rfl rfl <| nu rfl rfl,fun _=>Xt .eql rfl c.col [] false (by simp [h4,SCmp.b]) rfl rfl rfl <| nu rfl rfl,fun _ hSw=>Za hSw (Xw.drop 2 (hc1.mono hle2)) Yj rfl rfl rfl <| nu rfl rfl,fun _=>Ya .eql rfl c.oth [] rfl rfl rfl <| nu rfl rfl,fun _ hSw=>Zc hSw (Xw.drop 3 (hc1.mono hle2)) [.int .i64 c.v.k, .int .i64 c.v.n,Zb c.v.s] Z3 rfl rfl rfl rfl rfl <| nu rfl rfl,fun _ hSw=>Z4 hSw Zax rfl rfl rfl (XN hSw.imm c.v _ (Y3 c.v hb4 hb5 hb6)) rfl,fun _=>Zaa (SCmp.b .eql c.oth []) (Zz c.v) ul4 rfl rfl rfl <| nu (congrArg Value.bool h5.symm) rfl,fun _ hSw=>Za hSw (Xw.drop 2 (hc1.mono hle2)) Yj rfl rfl rfl <| nu rfl rfl,fun _=>Xt .neq rfl c.oth [] false (by simp [h6,SCmp.b]) rfl rfl rfl <| nu rfl rfl,trivial⟩ (fun w9 hS9=>?_)
    exact ⟨0,G2,(G2.le_refl),hS9,⟨rfl,rfl,rfl,rfl,trivial⟩,(by exact Zmd (by first | exact .inl ‹_› | exact .inr ‹_›) ‹_› ‹_› ‹_›)⟩
   rcases Classical.em (c.v = (Val.mk 0 0 [])) with h7 | h7
   ·refine dr [] [(31,Zb c.col),(32, .bool false),(35,Zb c.oth),(36, .bool (SCmp.b .eql c.oth [])),(38, .agg #[.int .i64 c.v.k, .int .i64 c.v.n,Zb c.v.s]),(39, .bool (Zz c.v)),(40, .bool false),(44,Zb c.oth),(45, .bool true),(48, .agg #[.int .i64 c.v.k, .int .i64 c.v.n,Zb c.v.s]),(49, .agg #[.int .i64 0, .int .i64 0,Zb []]),(50, .bool false)] hS5 ⟨fun _ hSw=>Za hSw (Xw.drop 1 (hc1.mono hle2)) Yj rfl rfl rfl <| nu rfl rfl,fun _=>Xt .eql rfl c.col [] false (by simp [h4,SCmp.b]) rfl rfl rfl <| nu rfl rfl,fun _ hSw=>Za hSw (Xw.drop 2 (hc1.mono hle2)) Yj rfl rfl rfl <| nu rfl rfl,fun _=>Ya .eql rfl c.oth [] rfl rfl rfl <| nu rfl rfl,fun _ hSw=>Zc hSw (Xw.drop 3 (hc1.mono hle2)) [.int .i64 c.v.k, .int .i64 c.v.n,Zb c.v.s] Z3 rfl rfl rfl rfl rfl <| nu rfl rfl,fun _ hSw=>Z4 hSw Zax rfl rfl rfl (XN hSw.imm c.v _ (Y3 c.v hb4 hb5 hb6)) rfl,fun _=>Zaa (SCmp.b .eql c.oth []) (Zz c.v) ul4 rfl rfl rfl <| nu (congrArg Value.bool h5.symm) rfl,fun _ hSw=>Za hSw (Xw.drop 2 (hc1.mono hle2)) Yj rfl rfl rfl <| nu rfl rfl,fun _=>Xt .neq rfl c.oth [] true (by simp [h6,SCmp.b]) rfl rfl rfl <| nu rfl rfl,fun _ hSw=>Zc hSw (Xw.drop 3 (hc1.mono hle2)) [.int .i64 c.v.k, .int .i64 c.v.n,Zb c.v.s] Z3 rfl rfl rfl rfl rfl <| nu rfl rfl,fun _ hSw=>Zc hSw hc2 [.int .i64 0, .int .i64 0,Zb []] Z3 rfl rfl rfl rfl rfl <| nu rfl rfl,fun _=>XZ false (Q9 c.v (Val.mk 0 0 [])) Zbp (by simp [h7]) rfl rfl rfl <| nu rfl rfl,trivial⟩ (fun w10 hS10=>?_)
    exact ⟨0,G2,(G2.le_refl),hS10,⟨rfl,rfl,rfl,rfl,trivial⟩,(by exact Zme (by first | exact .inl ‹_› | exact .inr ‹_›) ‹_› ‹_› (by first | assumption | exact of_decide_eq_true (Zej ‹_›)))⟩
   refine dr [] [(31,Zb c.col),(32, .bool false),(35,Zb c.oth),(36, .bool (SCmp.b .eql c.oth [])),(38, .agg #[.int .i64 c.v.k, .int .i64 c.v.n,Zb c.v.s]),(39, .bool (Zz c.v)),(40, .bool false),(44,Zb c.oth),(45, .bool true),(48, .agg #[.int .i64 c.v.k, .int .i64 c.v.n,Zb c.v.s]),(49, .agg #[.int .i64 0, .int .i64 0,Zb []]),(50, .bool true)] hS5 ⟨fun _ hSw=>Za hSw (Xw.drop 1 (hc1.mono hle2)) Yj rfl rfl rfl <| nu rfl rfl,fun _=>Xt .eql rfl c.col [] false (by simp [h4,SCmp.b]) rfl rfl rfl <| nu rfl rfl,fun _ hSw=>Za hSw (Xw.drop 2 (hc1.mono hle2)) Yj rfl rfl rfl <| nu rfl rfl,fun _=>Ya .eql rfl c.oth [] rfl rfl rfl <| nu rfl rfl,fun _ hSw=>Zc hSw (Xw.drop 3 (hc1.mono hle2)) [.int .i64 c.v.k, .int .i64 c.v.n,Zb c.v.s] Z3 rfl rfl rfl rfl rfl <| nu rfl rfl,fun _ hSw=>Z4 hSw Zax rfl rfl rfl (XN hSw.imm c.v _ (Y3 c.v hb4 hb5 hb6)) rfl,fun _=>Zaa (SCmp.b .eql c.oth []) (Zz c.v) ul4 rfl rfl rfl <| nu (congrArg Value.bool h5.symm) rfl,fun _ hSw=>Za hSw (Xw.drop 2 (hc1.mono hle2)) Yj rfl rfl rfl <| nu rfl rfl,fun _=>Xt .neq rfl c.oth [] true (by simp [h6,SCmp.b]) rfl rfl rfl <| nu rfl rfl,fun _ hSw=>Zc hSw (Xw.drop 3 (hc1.mono hle2)) [.int .i64 c.v.k, .int .i64 c.v.n,Zb c.v.s] Z3 rfl rfl rfl rfl rfl <| nu rfl rfl,fun _ hSw=>Zc hSw hc2 [.int .i64 0, .int .i64 0,Zb []] Z3 rfl rfl rfl rfl rfl <| nu rfl rfl,fun _=>XZ true (Q9 c.v (Val.mk 0 0 [])) Zbp (by simp [h7]) rfl rfl rfl <| nu rfl rfl,trivial⟩ (fun w11 hS11=>?_)
   exact RT hS11 rfl ⟨(congrArg Value.bool (by (rw [Yn (by omega) (by omega) (by unfold ZL Yg Xo Yy; first | (simp_all [Cmp.b,SCmp.b]; done) | (simp_all [Cmp.b,SCmp.b]; omega))]; done))),(hS11.lentAt 0 rfl).cast (by (rw [Yn (by omega) (by omega) (by unfold ZL Yg Xo Yy; first | (simp_all [Cmp.b,SCmp.b]; done) | (simp_all [Cmp.b,SCmp.b]; omega))]; done))⟩
  refine ZC c.kind 2 rfl rfl rfl (fun h8=>?_) (fun h8=>?_)
  ·rcases Classical.em (c.col = []) with h9 | h9
   ·refine dr [] [(31,Zb c.col),(32, .bool true)] hS5 ⟨fun _ hSw=>Za hSw (Xw.drop 1 (hc1.mono hle2)) Yj rfl rfl rfl <| nu rfl rfl,fun _=>Xt .eql rfl c.col [] true (by simp [h9,SCmp.b]) rfl rfl rfl <| nu rfl rfl,trivial⟩ (fun w12 hS12=>?_)
    exact RT hS12 rfl ⟨(congrArg Value.bool (by (rw [Yn (by omega) (by omega) (by unfold ZL Yg Xo Yy; first | (simp_all [Cmp.b,SCmp.b]; done) | (simp_all [Cmp.b,SCmp.b]; omega))]; done))),(hS12.lentAt 0 rfl).cast (by (rw [Yn (by omega) (by omega) (by unfold ZL Yg Xo Yy; first | (simp_all [Cmp.b,SCmp.b]; done) | (simp_all [Cmp.b,SCmp.b]; omega))]; done))⟩
   rcases Bool.eq_false_or_eq_true (!((SCmp.b .eql c.oth []) == (Zz c.v))) with h10 | h10
   ·refine dr [] [(31,Zb c.col),(32, .bool false),(35,Zb c.oth),(36, .bool (SCmp.b .eql c.oth [])),(38, .agg #[.int .i64 c.v.k, .int .i64 c.v.n,Zb c.v.s]),(39, .bool (Zz c.v)),(40, .bool true)] hS5 ⟨fun _ hSw=>Za hSw (Xw.drop 1 (hc1.mono hle2)) Yj rfl rfl rfl <| nu rfl rfl,fun _=>Xt .eql rfl c.col [] false (by simp [h9,SCmp.b]) rfl rfl rfl <| nu rfl rfl,fun _ hSw=>Za hSw (Xw.drop 2 (hc1.mono hle2)) Yj rfl rfl rfl <| nu rfl rfl,fun _=>Ya .eql rfl c.oth [] rfl rfl rfl <| nu rfl rfl,fun _ hSw=>Zc hSw (Xw.drop 3 (hc1.mono hle2)) [.int .i64 c.v.k, .int .i64 c.v.n,Zb c.v.s] Z3 rfl rfl rfl rfl rfl <| nu rfl rfl,fun _ hSw=>Z4 hSw Zax rfl rfl rfl (XN hSw.imm c.v _ (Y3 c.v hb4 hb5 hb6)) rfl,fun _=>Zaa (SCmp.b .eql c.oth []) (Zz c.v) ul4 rfl rfl rfl <| nu (congrArg Value.bool h10.symm) rfl,trivial⟩ (fun w13 hS13=>?_)
    exact RT hS13 rfl ⟨(congrArg Value.bool (by (rw [Yn (by omega) (by omega) (Zd8 (by first | exact .inl ‹_› | exact .inr ‹_›) ‹_›)]; done))),(hS13.lentAt 0 rfl).cast (by (rw [Yn (by omega) (by omega) (Zd8 (by first | exact .inl ‹_› | exact .inr ‹_›) ‹_›)]; done))⟩
   rcases Classical.em (c.oth = []) with h11 | h11
   ·refine dr [] [(31,Zb c.col),(32, .bool false),(35,Zb c.oth),(36, .bool (SCmp.b .eql c.oth [])),(38, .agg #[.int .i64 c.v.k, .int .i64 c.v.n,Zb c.v.s]),(39, .bool (Zz c.v)),(40, .bool false),(44,Zb c.oth),(45, .bool false)] hS5 ⟨fun _ hSw=>Za hSw (Xw.drop 1 (hc1.mono hle2)) Yj rfl rfl rfl <| nu rfl rfl,fun _=>Xt .eql rfl c.col [] false (by simp [h9,SCmp.b]) rfl rfl rfl <| nu rfl rfl,fun _ hSw=>Za hSw (Xw.drop 2 (hc1.mono hle2)) Yj rfl rfl rfl <| nu rfl rfl,fun _=>Ya .eql rfl c.oth [] rfl rfl rfl <| nu rfl rfl,fun _ hSw=>Zc hSw (Xw.drop 3 (hc1.mono hle2)) [.int .i64 c.v.k, .int .i64 c.v.n,Zb c.v.s] Z3 rfl rfl rfl rfl rfl <| nu rfl rfl,fun _ hSw=>Z4 hSw Zax rfl rfl rfl (XN hSw.imm c.v _ (Y3 c.v hb4 hb5 hb6)) rfl,fun _=>Zaa (SCmp.b .eql c.oth []) (Zz c.v) ul4 rfl rfl rfl <| nu (congrArg Value.bool h10.symm) rfl,fun _ hSw=>Za hSw (Xw.drop 2 (hc1.mono hle2)) Yj rfl rfl rfl <| nu rfl rfl,fun _=>Xt .neq rfl c.oth [] false (by simp [h11,SCmp.b]) rfl rfl rfl <| nu rfl rfl,trivial⟩ (fun w14 hS14=>?_)
    exact ⟨0,G2,(G2.le_refl),hS14,⟨rfl,rfl,rfl,rfl,trivial⟩,(by exact Zmd (by first | exact .inl ‹_› | exact .inr ‹_›) ‹_› ‹_› ‹_›)⟩
   rcases Classical.em (c.v = (Val.mk 0 0 [])) with h12 | h12
   ·refine dr [] [(31,Zb c.col),(32, .bool false),(35,Zb c.oth),(36, .bool (SCmp.b .eql c.oth [])),(38, .agg #[.int .i64 c.v.k, .int .i64 c.v.n,Zb c.v.s]),(39, .bool (Zz c.v)),(40, .bool false),(44,Zb c.oth),(45, .bool true),(48, .agg #[.int .i64 c.v.k, .int .i64 c.v.n,Zb c.v.s]),(49, .agg #[.int .i64 0, .int .i64 0,Zb []]),(50, .bool false)] hS5 ⟨fun _ hSw=>Za hSw (Xw.drop 1 (hc1.mono hle2)) Yj rfl rfl rfl <| nu rfl rfl,fun _=>Xt .eql rfl c.col [] false (by simp [h9,SCmp.b]) rfl rfl rfl <| nu rfl rfl,fun _ hSw=>Za hSw (Xw.drop 2 (hc1.mono hle2)) Yj rfl rfl rfl <| nu rfl rfl,fun _=>Ya .eql rfl c.oth [] rfl rfl rfl <| nu rfl rfl,fun _ hSw=>Zc hSw (Xw.drop 3 (hc1.mono hle2)) [.int .i64 c.v.k, .int .i64 c.v.n,Zb c.v.s] Z3 rfl rfl rfl rfl rfl <| nu rfl rfl,fun _ hSw=>Z4 hSw Zax rfl rfl rfl (XN hSw.imm c.v _ (Y3 c.v hb4 hb5 hb6)) rfl,fun _=>Zaa (SCmp.b .eql c.oth []) (Zz c.v) ul4 rfl rfl rfl <| nu (congrArg Value.bool h10.symm) rfl,fun _ hSw=>Za hSw (Xw.drop 2 (hc1.mono hle2)) Yj rfl rfl rfl <| nu rfl rfl,fun _=>Xt .neq rfl c.oth [] true (by simp [h11,SCmp.b]) rfl rfl rfl <| nu rfl rfl,fun _ hSw=>Zc hSw (Xw.drop 3 (hc1.mono hle2)) [.int .i64 c.v.k, .int .i64 c.v.n,Zb c.v.s] Z3 rfl rfl rfl rfl rfl <| nu rfl rfl,fun _ hSw=>Zc hSw hc2 [.int .i64 0, .int .i64 0,Zb []] Z3 rfl rfl rfl rfl rfl <| nu rfl rfl,fun _=>XZ false (Q9 c.v (Val.mk 0 0 [])) Zbp (by simp [h12]) rfl rfl rfl <| nu rfl rfl,trivial⟩ (fun w15 hS15=>?_)
    exact ⟨0,G2,(G2.le_refl),hS15,⟨rfl,rfl,rfl,rfl,trivial⟩,(by exact Zme (by first | exact .inl ‹_› | exact .inr ‹_›) ‹_› ‹_› (by first | assumption | exact of_decide_eq_true (Zej ‹_›)))⟩
   refine dr [] [(31,Zb c.col),(32, .bool false),(35,Zb c.oth),(36, .bool (SCmp.b .eql c.oth [])),(38, .agg #[.int .i64 c.v.k, .int .i64 c.v.n,Zb c.v.s]),(39, .bool (Zz c.v)),(40, .bool false),(44,Zb c.oth),(45, .bool true),(48, .agg #[.int .i64 c.v.k, .int .i64 c.v.n,Zb c.v.s]),(49, .agg #[.int .i64 0, .int .i64 0,Zb []]),(50, .bool true)] hS5 ⟨fun _ hSw=>Za hSw (Xw.drop 1 (hc1.mono hle2)) Yj rfl rfl rfl <| nu rfl rfl,fun _=>Xt .eql rfl c.col [] false (by simp [h9,SCmp.b]) rfl rfl rfl <| nu rfl rfl,fun _ hSw=>Za hSw (Xw.drop 2 (hc1.mono hle2)) Yj rfl rfl rfl <| nu rfl rfl,fun _=>Ya .eql rfl c.oth [] rfl rfl rfl <| nu rfl rfl,fun _ hSw=>Zc hSw (Xw.drop 3 (hc1.mono hle2)) [.int .i64 c.v.k, .int .i64 c.v.n,Zb c.v.s] Z3 rfl rfl rfl rfl rfl <| nu rfl rfl,fun _ hSw=>Z4 hSw Zax rfl rfl rfl (XN hSw.imm c.v _ (Y3 c.v hb4 hb5 hb6)) rfl,fun _=>Zaa (SCmp.b .eql c.oth []) (Zz c.v) ul4 rfl rfl rfl <| nu (congrArg Value.bool h10.symm) rfl,fun _ hSw=>Za hSw (Xw.drop 2 (hc1.mono hle2)) Yj rfl rfl rfl <| nu rfl rfl,fun _=>Xt .neq rfl c.oth [] true (by simp [h11,SCmp.b]) rfl rfl rfl <| nu rfl rfl,fun _ hSw=>Zc hSw (Xw.drop 3 (hc1.mono hle2)) [.int .i64 c.v.k, .int .i64 c.v.n,Zb c.v.s] Z3 rfl rfl rfl rfl rfl <| nu rfl rfl,fun _ hSw=>Zc hSw hc2 [.int .i64 0, .int .i64 0,Zb []] Z3 rfl rfl rfl rfl rfl <| nu rfl rfl,fun _=>XZ true (Q9 c.v (Val.mk 0 0 [])) Zbp (by simp [h12]) rfl rfl rfl <| nu rfl rfl,trivial⟩ (fun w16 hS16=>?_)
   exact RT hS16 rfl ⟨(congrArg Value.bool (by (rw [Yn (by omega) (by omega) (by unfold ZL Yg Xo Yy; first | (simp_all [Cmp.b,SCmp.b]; done) | (simp_all [Cmp.b,SCmp.b]; omega))]; done))),(hS16.lentAt 0 rfl).cast (by (rw [Yn (by omega) (by omega) (by unfold ZL Yg Xo Yy; first | (simp_all [Cmp.b,SCmp.b]; done) | (simp_all [Cmp.b,SCmp.b]; omega))]; done))⟩
  refine ZC c.kind 3 rfl rfl rfl (fun h13=>?_) (fun h13=>?_)
  ·refine Za hS5 (Xw.drop 1 (hc1.mono hle2)) Yj rfl rfl rfl <| Ya .neq rfl c.col [] rfl rfl rfl ?_
   refine WL.split (fun h0=>?_) (fun h0=>?_)
   ·have h14 : c.col ≠ []:=by simpa [SCmp.b] using h0
    clear h0
    exact RT hS5 rfl ⟨(congrArg Value.bool (by (rw [Yn (by omega) (by omega) (by unfold ZL Yg Xo Yy; first | (simp_all [Cmp.b,SCmp.b]; done) | (simp_all [Cmp.b,SCmp.b]; omega))]; done))),(hS5.lentAt 0 rfl).cast (by (rw [Yn (by omega) (by omega) (by unfold ZL Yg Xo Yy; first | (simp_all [Cmp.b,SCmp.b]; done) | (simp_all [Cmp.b,SCmp.b]; omega))]; done))⟩
   have h14 : c.col = []:=by simpa [SCmp.b] using h0
   clear h0
   refine Za hS5 (Xw.drop 2 (hc1.mono hle2)) Yj rfl rfl rfl <| Ya .neq rfl c.oth [] rfl rfl rfl ?_
   refine WL.split (fun h0=>?_) (fun h0=>?_)
   ·have h15 : c.oth ≠ []:=by simpa [SCmp.b] using h0
    clear h0
    exact RT hS5 rfl ⟨(congrArg Value.bool (by (rw [Yn (by omega) (by omega) (by unfold ZL Yg Xo Yy; first | (simp_all [Cmp.b,SCmp.b]; done) | (simp_all [Cmp.b,SCmp.b]; omega))]; done))),(hS5.lentAt 0 rfl).cast (by (rw [Yn (by omega) (by omega) (by unfold ZL Yg Xo Yy; first | (simp_all [Cmp.b,SCmp.b]; done) | (simp_all [Cmp.b,SCmp.b]; omega))]; done))⟩
   have h15 : c.oth = []:=by simpa [SCmp.b] using h0
   clear h0
   refine Zc hS5 (Xw.drop 3 (hc1.mono hle2)) [.int .i64 c.v.k, .int .i64 c.v.n,Zb c.v.s] Z3 rfl rfl rfl rfl rfl <| Zc hS5 hc2 [.int .i64 0, .int .i64 0,Zb []] Z3 rfl rfl rfl rfl rfl <| Zct (Q9 c.v (Val.mk 0 0 [])) Zbp rfl rfl rfl ?_
   refine WL.split (fun (h16 : (!decide (c.v = (Val.mk 0 0 []))) = true)=>?_) (fun (h16 : (!decide (c.v = (Val.mk 0 0 []))) = false)=>?_)
   ·exact RT hS5 rfl ⟨(congrArg Value.bool (by (rw [Yn (by omega) (by omega) (by unfold ZL Yg Xo Yy; first | (simp_all [Cmp.b,SCmp.b]; done) | (simp_all [Cmp.b,SCmp.b]; omega))]; done))),(hS5.lentAt 0 rfl).cast (by (rw [Yn (by omega) (by omega) (by unfold ZL Yg Xo Yy; first | (simp_all [Cmp.b,SCmp.b]; done) | (simp_all [Cmp.b,SCmp.b]; omega))]; done))⟩
   refine Zbi 3 3 hS5 rfl (fun b2 w17 hm1 ha1 hS17=>?_)
   refine XC 4 1 hS17 hm1 ha1 QQ XF XF (by constructor <;> decide) (by constructor <;> decide) (by decide) rfl rfl rfl rfl (fun w18 hm2 hS18=>?_)
   refine XC 5 2 hS18 hm2 ha1 QQ XF XF (by constructor <;> decide) (by constructor <;> decide) (by decide) rfl rfl rfl rfl (fun w19 hm3 hS19=>?_)
   refine XC 6 2 hS19 hm3 ha1 QQ XF XF (by constructor <;> decide) (by constructor <;> decide) (by decide) rfl rfl rfl rfl (fun w20 hm4 hS20=>?_)
   refine Za hS20 (Xw.drop 0 (hc1.mono hle2)) Zp rfl rfl rfl ?_
   refine ZcF c.kind hm4 QQ XF XF hb1 (by rfl) rfl rfl rfl (fun cc1 hat1=>?_)
   have hcc : cc1 = (Yy c.kind : Int):=by exact ZuH ‹_› hat1
   exact ⟨cc1,G2,(G2.le_refl),hS20,⟨rfl,rfl,rfl,rfl,trivial⟩,(by exact Zge (by omega) ‹_› ‹_› (by first | assumption | exact of_decide_eq_true (Zej ‹_›)) ‹_›)⟩
  refine ZC c.kind 4 rfl rfl rfl (fun h17=>?_) (fun h17=>?_)
  ·refine Za hS5 (Xw.drop 1 (hc1.mono hle2)) Yj rfl rfl rfl <| Ya .neq rfl c.col [] rfl rfl rfl ?_
   refine WL.split (fun h0=>?_) (fun h0=>?_)
   ·have h18 : c.col ≠ []:=by simpa [SCmp.b] using h0
    clear h0
    exact RT hS5 rfl ⟨(congrArg Value.bool (by (rw [Yn (by omega) (by omega) (by unfold ZL Yg Xo Yy; first | (simp_all [Cmp.b,SCmp.b]; done) | (simp_all [Cmp.b,SCmp.b]; omega))]; done))),(hS5.lentAt 0 rfl).cast (by (rw [Yn (by omega) (by omega) (by unfold ZL Yg Xo Yy; first | (simp_all [Cmp.b,SCmp.b]; done) | (simp_all [Cmp.b,SCmp.b]; omega))]; done))⟩
   have h18 : c.col = []:=by simpa [SCmp.b] using h0
   clear h0
   refine Za hS5 (Xw.drop 2 (hc1.mono hle2)) Yj rfl rfl rfl <| Ya .neq rfl c.oth [] rfl rfl rfl ?_
   refine WL.split (fun h0=>?_) (fun h0=>?_)
   ·have h19 : c.oth ≠ []:=by simpa [SCmp.b] using h0
    clear h0
    exact RT hS5 rfl ⟨(congrArg Value.bool (by (rw [Yn (by omega) (by omega) (by unfold ZL Yg Xo Yy; first | (simp_all [Cmp.b,SCmp.b]; done) | (simp_all [Cmp.b,SCmp.b]; omega))]; done))),(hS5.lentAt 0 rfl).cast (by (rw [Yn (by omega) (by omega) (by unfold ZL Yg Xo Yy; first | (simp_all [Cmp.b,SCmp.b]; done) | (simp_all [Cmp.b,SCmp.b]; omega))]; done))⟩
   have h19 : c.oth = []:=by simpa [SCmp.b] using h0
   clear h0
   refine Zc hS5 (Xw.drop 3 (hc1.mono hle2)) [.int .i64 c.v.k, .int .i64 c.v.n,Zb c.v.s] Z3 rfl rfl rfl rfl rfl <| Zc hS5 hc2 [.int .i64 0, .int .i64 0,Zb []] Z3 rfl rfl rfl rfl rfl <| Zct (Q9 c.v (Val.mk 0 0 [])) Zbp rfl rfl rfl ?_
   refine WL.split (fun (h20 : (!decide (c.v = (Val.mk 0 0 []))) = true)=>?_) (fun (h20 : (!decide (c.v = (Val.mk 0 0 []))) = false)=>?_)
   ·exact RT hS5 rfl ⟨(congrArg Value.bool (by (rw [Yn (by omega) (by omega) (by unfold ZL Yg Xo Yy; first | (simp_all [Cmp.b,SCmp.b]; done) | (simp_all [Cmp.b,SCmp.b]; omega))]; done))),(hS5.lentAt 0 rfl).cast (by (rw [Yn (by omega) (by omega) (by unfold ZL Yg Xo Yy; first | (simp_all [Cmp.b,SCmp.b]; done) | (simp_all [Cmp.b,SCmp.b]; omega))]; done))⟩
   refine Zbi 3 3 hS5 rfl (fun b3 w21 hm5 ha2 hS21=>?_)
   refine XC 4 1 hS21 hm5 ha2 QQ XF XF (by constructor <;> decide) (by constructor <;> decide) (by decide) rfl rfl rfl rfl (fun w22 hm6 hS22=>?_)
   refine XC 5 2 hS22 hm6 ha2 QQ XF XF (by constructor <;> decide) (by constructor <;> decide) (by decide) rfl rfl rfl rfl (fun w23 hm7 hS23=>?_)
   refine XC 6 2 hS23 hm7 ha2 QQ XF XF (by constructor <;> decide) (by constructor <;> decide) (by decide) rfl rfl rfl rfl (fun w24 hm8 hS24=>?_)
   refine Za hS24 (Xw.drop 0 (hc1.mono hle2)) Zp rfl rfl rfl ?_
   refine ZcF c.kind hm8 QQ XF XF hb1 (by rfl) rfl rfl rfl (fun cc2 hat2=>?_)
   have hcc : cc2 = (Yy c.kind : Int):=by exact ZuI ‹_› hat2
   exact ⟨cc2,G2,(G2.le_refl),hS24,⟨rfl,rfl,rfl,rfl,trivial⟩,(by exact Zge (by omega) ‹_› ‹_› (by first | assumption | exact of_decide_eq_true (Zej ‹_›)) ‹_›)⟩
  refine ZC c.kind 5 rfl rfl rfl (fun h21=>?_) (fun h21=>?_)
  ·refine Za hS5 (Xw.drop 1 (hc1.mono hle2)) Yj rfl rfl rfl <| Ya .neq rfl c.col [] rfl rfl rfl ?_
   refine WL.split (fun h0=>?_) (fun h0=>?_)
   ·have h22 : c.col ≠ []:=by simpa [SCmp.b] using h0
    clear h0
    exact RT hS5 rfl ⟨(congrArg Value.bool (by (rw [Yn (by omega) (by omega) (by unfold ZL Yg Xo Yy; first | (simp_all [Cmp.b,SCmp.b]; done) | (simp_all [Cmp.b,SCmp.b]; omega))]; done))),(hS5.lentAt 0 rfl).cast (by (rw [Yn (by omega) (by omega) (by unfold ZL Yg Xo Yy; first | (simp_all [Cmp.b,SCmp.b]; done) | (simp_all [Cmp.b,SCmp.b]; omega))]; done))⟩
   have h22 : c.col = []:=by simpa [SCmp.b] using h0
   clear h0
   refine Za hS5 (Xw.drop 2 (hc1.mono hle2)) Yj rfl rfl rfl <| Ya .neq rfl c.oth [] rfl rfl rfl ?_
   refine WL.split (fun h0=>?_) (fun h0=>?_)
   ·have h23 : c.oth ≠ []:=by simpa [SCmp.b] using h0
    clear h0
    exact RT hS5 rfl ⟨(congrArg Value.bool (by (rw [Yn (by omega) (by omega) (by unfold ZL Yg Xo Yy; first | (simp_all [Cmp.b,SCmp.b]; done) | (simp_all [Cmp.b,SCmp.b]; omega))]; done))),(hS5.lentAt 0 rfl).cast (by (rw [Yn (by omega) (by omega) (by unfold ZL Yg Xo Yy; first | (simp_all [Cmp.b,SCmp.b]; done) | (simp_all [Cmp.b,SCmp.b]; omega))]; done))⟩
   have h23 : c.oth = []:=by simpa [SCmp.b] using h0
   clear h0
   refine Zc hS5 (Xw.drop 3 (hc1.mono hle2)) [.int .i64 c.v.k, .int .i64 c.v.n,Zb c.v.s] Z3 rfl rfl rfl rfl rfl <| Zc hS5 hc2 [.int .i64 0, .int .i64 0,Zb []] Z3 rfl rfl rfl rfl rfl <| Zct (Q9 c.v (Val.mk 0 0 [])) Zbp rfl rfl rfl ?_
   refine WL.split (fun (h24 : (!decide (c.v = (Val.mk 0 0 []))) = true)=>?_) (fun (h24 : (!decide (c.v = (Val.mk 0 0 []))) = false)=>?_)
   ·exact RT hS5 rfl ⟨(congrArg Value.bool (by (rw [Yn (by omega) (by omega) (by unfold ZL Yg Xo Yy; first | (simp_all [Cmp.b,SCmp.b]; done) | (simp_all [Cmp.b,SCmp.b]; omega))]; done))),(hS5.lentAt 0 rfl).cast (by (rw [Yn (by omega) (by omega) (by unfold ZL Yg Xo Yy; first | (simp_all [Cmp.b,SCmp.b]; done) | (simp_all [Cmp.b,SCmp.b]; omega))]; done))⟩
   refine Zbi 3 3 hS5 rfl (fun b4 w25 hm9 ha3 hS25=>?_)
   refine XC 4 1 hS25 hm9 ha3 QQ XF XF (by constructor <;> decide) (by constructor <;> decide) (by decide) rfl rfl rfl rfl (fun w26 hm10 hS26=>?_)
   refine XC 5 2 hS26 hm10 ha3 QQ XF XF (by constructor <;> decide) (by constructor <;> decide) (by decide) rfl rfl rfl rfl (fun w27 hm11 hS27=>?_)
   refine XC 6 2 hS27 hm11 ha3 QQ XF XF (by constructor <;> decide) (by constructor <;> decide) (by decide) rfl rfl rfl rfl (fun w28 hm12 hS28=>?_)
   refine Za hS28 (Xw.drop 0 (hc1.mono hle2)) Zp rfl rfl rfl ?_
   refine ZcF c.kind hm12 QQ XF XF hb1 (by rfl) rfl rfl rfl (fun cc3 hat3=>?_)
   have hcc : cc3 = (Yy c.kind : Int):=by exact ZuJ ‹_› hat3
   exact ⟨cc3,G2,(G2.le_refl),hS28,⟨rfl,rfl,rfl,rfl,trivial⟩,(by exact Zge (by omega) ‹_› ‹_› (by first | assumption | exact of_decide_eq_true (Zej ‹_›)) ‹_›)⟩
  refine ZC c.kind 6 rfl rfl rfl (fun h25=>?_) (fun h25=>?_)
  ·refine Za hS5 (Xw.drop 1 (hc1.mono hle2)) Yj rfl rfl rfl <| Ya .neq rfl c.col [] rfl rfl rfl ?_
   refine WL.split (fun h0=>?_) (fun h0=>?_)
   ·have h26 : c.col ≠ []:=by simpa [SCmp.b] using h0
    clear h0
    exact RT hS5 rfl ⟨(congrArg Value.bool (by (rw [Yn (by omega) (by omega) (by unfold ZL Yg Xo Yy; first | (simp_all [Cmp.b,SCmp.b]; done) | (simp_all [Cmp.b,SCmp.b]; omega))]; done))),(hS5.lentAt 0 rfl).cast (by (rw [Yn (by omega) (by omega) (by unfold ZL Yg Xo Yy; first | (simp_all [Cmp.b,SCmp.b]; done) | (simp_all [Cmp.b,SCmp.b]; omega))]; done))⟩
   have h26 : c.col = []:=by simpa [SCmp.b] using h0
   clear h0
   refine Za hS5 (Xw.drop 2 (hc1.mono hle2)) Yj rfl rfl rfl <| Ya .neq rfl c.oth [] rfl rfl rfl ?_
   refine WL.split (fun h0=>?_) (fun h0=>?_)
   ·have h27 : c.oth ≠ []:=by simpa [SCmp.b] using h0
    clear h0
    exact RT hS5 rfl ⟨(congrArg Value.bool (by (rw [Yn (by omega) (by omega) (by unfold ZL Yg Xo Yy; first | (simp_all [Cmp.b,SCmp.b]; done) | (simp_all [Cmp.b,SCmp.b]; omega))]; done))),(hS5.lentAt 0 rfl).cast (by (rw [Yn (by omega) (by omega) (by unfold ZL Yg Xo Yy; first | (simp_all [Cmp.b,SCmp.b]; done) | (simp_all [Cmp.b,SCmp.b]; omega))]; done))⟩
   have h27 : c.oth = []:=by simpa [SCmp.b] using h0
   clear h0
   refine Zc hS5 (Xw.drop 3 (hc1.mono hle2)) [.int .i64 c.v.k, .int .i64 c.v.n,Zb c.v.s] Z3 rfl rfl rfl rfl rfl <| Zc hS5 hc2 [.int .i64 0, .int .i64 0,Zb []] Z3 rfl rfl rfl rfl rfl <| Zct (Q9 c.v (Val.mk 0 0 [])) Zbp rfl rfl rfl ?_
   refine WL.split (fun (h28 : (!decide (c.v = (Val.mk 0 0 []))) = true)=>?_) (fun (h28 : (!decide (c.v = (Val.mk 0 0 []))) = false)=>?_)
   ·exact RT hS5 rfl ⟨(congrArg Value.bool (by (rw [Yn (by omega) (by omega) (by unfold ZL Yg Xo Yy; first | (simp_all [Cmp.b,SCmp.b]; done) | (simp_all [Cmp.b,SCmp.b]; omega))]; done))),(hS5.lentAt 0 rfl).cast (by (rw [Yn (by omega) (by omega) (by unfold ZL Yg Xo Yy; first | (simp_all [Cmp.b,SCmp.b]; done) | (simp_all [Cmp.b,SCmp.b]; omega))]; done))⟩
   refine Zbi 3 3 hS5 rfl (fun b5 w29 hm13 ha4 hS29=>?_)
   refine XC 4 1 hS29 hm13 ha4 QQ XF XF (by constructor <;> decide) (by constructor <;> decide) (by decide) rfl rfl rfl rfl (fun w30 hm14 hS30=>?_)
   refine XC 5 2 hS30 hm14 ha4 QQ XF XF (by constructor <;> decide) (by constructor <;> decide) (by decide) rfl rfl rfl rfl (fun w31 hm15 hS31=>?_)
   refine XC 6 2 hS31 hm15 ha4 QQ XF XF (by constructor <;> decide) (by constructor <;> decide) (by decide) rfl rfl rfl rfl (fun w32 hm16 hS32=>?_)
   refine Za hS32 (Xw.drop 0 (hc1.mono hle2)) Zp rfl rfl rfl ?_
   refine ZcF c.kind hm16 QQ XF XF hb1 (by rfl) rfl rfl rfl (fun cc4 hat4=>?_)
   have hcc : cc4 = (Yy c.kind : Int):=by exact ZuK ‹_› hat4
   exact ⟨cc4,G2,(G2.le_refl),hS32,⟨rfl,rfl,rfl,rfl,trivial⟩,(by exact Zge (by omega) ‹_› ‹_› (by first | assumption | exact of_decide_eq_true (Zej ‹_›)) ‹_›)⟩
  exact RT hS5 rfl ⟨(congrArg Value.bool (by (rw [Yn (by omega) (by omega) (by unfold ZL Yg Xo Yy; first | (simp_all [Cmp.b,SCmp.b]; done) | (simp_all [Cmp.b,SCmp.b]; omega))]; done))),(hS5.lentAt 0 rfl).cast (by (rw [Yn (by omega) (by omega) (by unfold ZL Yg Xo Yy; first | (simp_all [Cmp.b,SCmp.b]; done) | (simp_all [Cmp.b,SCmp.b]; omega))]; done))⟩
 rintro ρ1 w5 ⟨op9,G3,hle3,hS6,hF9,f1⟩
 refine hF9.set ?_
 have hn9:=(by assumption : ZL c = decide ((c.l.length : Int) = op9))
 refine Za hS6 (Xw.drop 6 (hc1.mono (hle2.trans hle3))) Ze4 rfl rfl rfl ?_
 have bd1:=ho1.bound
 refine Zj (ho1.mono ((hle1.trans hle2).trans hle3)) Zc3 rfl rfl ?_
 refine Yf (c.l.length : Int) op9 rfl rfl rfl (fun h29=>?_) (fun h29=>?_)
 ·exact RT hS6 rfl ⟨(congrArg Value.bool (by (rw [Yn (by omega) (by omega) (by rw [hn9]; exact decide_eq_false ‹_›)]; done))),(hS6.lentAt 0 rfl).cast (by (rw [Yn (by omega) (by omega) (by rw [hn9]; exact decide_eq_false ‹_›)]; done))⟩
 have hpl : ZL c = true:=by rw [hn9]; exact decide_eq_true ‹_›
 refine Za hS6 (Xw.drop 6 (hc1.mono (hle2.trans hle3))) Ze4 rfl rfl rfl ?_
 have bd2:=ho1.bound
 refine Zj (ho1.mono ((hle1.trans hle2).trans hle3)) Zc3 rfl rfl ?_
 refine LP.go ft [19] (fun m ρ1 w1=>∃ (k1 : Nat),∃ (mm : Int),∃ (G4 : GH),m = c.l.length - k1 ∧ G3.le G4 ∧ St w [pb] G G4 [some (pb,(nat_lit 3),[.int .i64 mm])] w1 ∧ FR ρ1 [(1, .int .i64 dep),(2, .pointer (some ⟨pb,0,none⟩)),(83,lv1),(84, .int .i64 (c.l.length : Int)),(85, .int .i64 (k1 : Int))] ∧ k1 ≤ c.l.length ∧ YK (fun x m=>ZP d x (dep + 1) m) (c.l.take k1) (n + 1) = (true,mm) ∧ 0 ≤ mm ∧ mm ≤ 60) _ ⟨0,(n + 1),G3,rfl,(G3.le_refl),hS6,⟨rfl,rfl,rfl,rfl,rfl,trivial⟩,(by omega),(by rfl),(by omega)⟩ ?_
 rintro m ρ1 w33 ⟨k1,mm,G4,rfl,hle4,hS33,hF9,f2,f3,f4⟩
 refine hF9.set ?_
 clear hF9
 have hm64 : Zw mm:=⟨by omega,by omega⟩
 refine Zq (k1 : Int) (c.l.length : Int) rfl rfl rfl (fun h30=>?_) (fun h30=>?_)
 ·refine WL.indexAddr (ho1.mono (((hle1.trans hle2).trans hle3).trans hle4)) k1 (by omega) Zc3 Xp rfl rfl rfl rfl (fun p2 x1 hx1 he1=>?_)
  obtain ⟨cs1,hc3,hr1⟩:=he1
  obtain ⟨lv2,rfl,hb7,hb8,hb9,hb10,YD,YW,ho2⟩:=YS hr1
  refine Zc hS33 hc3 [.int .i64 x1.kind,Zb x1.col,Zb x1.oth, .int .i64 x1.v.k, .int .i64 x1.v.n,Zb x1.v.s,lv2] Xp rfl rfl rfl rfl rfl ?_
  refine WL.alloc hS33 Xp rfl rfl (fun b6 w34 hn2 hS34=>?_)
  refine WL.store hS34 0 _ _ _ 0 _ [.int .i64 x1.kind,Zb x1.col,Zb x1.oth, .int .i64 x1.v.k, .int .i64 x1.v.n,Zb x1.v.s,lv2] [.int .i64 x1.kind,Zb x1.col,Zb x1.oth, .int .i64 x1.v.k, .int .i64 x1.v.n,Zb x1.v.s,lv2] _ rfl rfl Xp rfl (Nat.le_of_ble_eq_true rfl) (by simp only [List.all_cons,List.all_nil,ho2,Bool.true_and] <;> rfl) rfl rfl rfl rfl rfl (fun w35 hS35=>?_)
  obtain ⟨G5,hle5,hc4,hS36⟩:=hS35.shutB hn2
  refine Zc hS36 hc4 [.int .i64 x1.kind,Zb x1.col,Zb x1.oth, .int .i64 x1.v.k, .int .i64 x1.v.n,Zb x1.v.s,lv2] Xp rfl rfl rfl rfl rfl ?_
  have hi2 : Zw (dep + 1):=by have:=hdep64.1; have:=hdep64.2; constructor <;> omega
  refine ZaL .add rfl dep 1 rfl rfl rfl hi2 ?_
  refine Qf Zsn rfl rfl rfl (ih hS36.imm x1 (dep + 1) mm _ ((Y1 _).mono hle5 hr1) _ (hS36.lentAt 0 rfl) (by omega) (by omega)) (fun w36 G6 r1 hres1 ⟨hpost1,hlc1⟩=>?_)
  have hS37 : St w [pb] G G6 [some (pb,(nat_lit 3),[.int .i64 ((ZP d x1 (dep + 1) mm).2)])] w36:=hS36.callX 0 rfl [.int .i64 ((ZP d x1 (dep + 1) mm).2)] hres1 (hlc1 _ rfl).1
  have hle6:=hres1.le
  subst hpost1
  refine WL.split (fun (h31 : ((ZP d x1 (dep + 1) mm).1) = true)=>?_) (fun (h31 : ((ZP d x1 (dep + 1) mm).1) = false)=>?_)
  ·refine Zl k1 (by have hreach : reach = 140737488355328:=rfl; omega) rfl rfl rfl ?_
   exact BK.mk' _ ⟨k1 + 1,(ZP d x1 (dep + 1) mm).2,G6,rfl,(hle4.trans (hle5.trans hle6)),hS37,⟨rfl,rfl,rfl,rfl,rfl,trivial⟩,(by omega),(by exact Zko ‹_› ‹_› ‹_›),(by have h9:=Zhn (by assumption : (ZP d _ (dep + 1) mm).1 = true); omega)⟩ (show c.l.length - (k1 + 1) < c.l.length - k1 by omega)
  exact RT hS37 rfl ⟨(congrArg Value.bool (by (rw [Zoh (k:=k1) (by omega) (by omega) hpl ‹_› ‹_› ‹_›]; done))),(hS37.lentAt 0 rfl).cast (by (rw [Zoh (k:=k1) (by omega) (by omega) hpl ‹_› ‹_› ‹_›]; done))⟩
 exact RT hS33 rfl ⟨(congrArg Value.bool (by (rw [Zoi (k:=k1) (m:=mm) (by omega) (by omega) hpl (by omega) ‹_›]; done))),(hS33.lentAt 0 rfl).cast (by (rw [Zoi (k:=k1) (m:=mm) (by omega) (by omega) hpl (by omega) ‹_›]; done))⟩
theorem Ziu {G : GH} {w : World} (hG : G.In w) (d : Nat) (c : Cond) (l : List Col) (cc : List Value) (hcc : (Y1 d).rep G c cc) (vl : Value) (hvl : Sl ColE 24 G vl l) : CL Tryz.prog (nat_lit 159) #[.agg cc.toArray,vl] [] w G fun _ _ r=>r = .int .i64 (ZW d c l):=by
 refine Zg ft [] Tryz.func159 rfl rfl ?_
 have hS:=St.start (X:=[]) hG
 obtain ⟨lv1,rfl,hb1,hb2,hb3,hb4,hb5,hb6,ho1⟩:=YS hcc
 refine Zv [.int .i64 c.kind,Zb c.col,Zb c.oth, .int .i64 c.v.k, .int .i64 c.v.n,Zb c.v.s,lv1] _ hS rfl rfl rfl (fun p1 w1 G1 hle1 hsp1 hc1 hS1=>?_)
 refine WL.alloc hS1 Zp rfl rfl (fun b1 w2 hn1 hS2=>?_)
 refine WL.store hS2 0 _ _ _ 0 _ [.int .i64 0] [.int .i64 0] _ rfl rfl Zp rfl (Nat.le_of_ble_eq_true rfl) rfl rfl rfl rfl rfl rfl (fun w3 hS3=>?_)
 refine Zc hS3 hc1 [.int .i64 c.kind,Zb c.col,Zb c.oth, .int .i64 c.v.k, .int .i64 c.v.n,Zb c.v.s,lv1] Xp rfl rfl rfl rfl rfl ?_
 refine Qf Zsn rfl rfl rfl (Zr9 _ hS3.imm c 1 0 _ ((Y1 _).mono hle1 hcc) _ (hS3.lentAt 0 rfl) (by omega) (by omega)) (fun w4 G2 r1 hres1 ⟨hpost1,hlc1⟩=>?_)
 have hS4 : St w [] G G2 [some (b1,3,[.int .i64 ((ZP d c 1 0).2)])] w4:=hS3.callX 0 rfl [.int .i64 ((ZP d c 1 0).2)] hres1 (hlc1 _ rfl).1
 have hle2:=hres1.le
 subst hpost1
 refine WL.split (fun (h1 : ((ZP d c 1 0).1) = true)=>?_) (fun (h1 : ((ZP d c 1 0).1) = false)=>?_)
 ·refine Zc hS4 (hc1.mono hle2) [.int .i64 c.kind,Zb c.col,Zb c.oth, .int .i64 c.v.k, .int .i64 c.v.n,Zb c.v.s,lv1] Xp rfl rfl rfl rfl rfl ?_
  refine Zn hS4 Zso rfl rfl rfl (ZtA _ hS4.imm c l _ ((Y1 _).mono (hle1.trans hle2) hcc) _ (hvl.mono (hle1.trans hle2))) (fun w5 G3 hS5 hle3=>?_)
  exact RI hS5 rfl (by unfold ZW; exact (if_pos (of_decide_eq_true (by rw [← Zkq]; assumption))).symm)
 exact RI hS4 rfl (by unfold ZW; exact (if_neg (of_decide_eq_false (by rw [← Zkq]; assumption))).symm)
end Go.Civ
