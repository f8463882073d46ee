/- Lemmas. -/
import Derived.Test.YtcopkjhdncdnmaaGreatDoorP24
set_option linter.unusedVariables false
set_option linter.unusedSimpArgs false
set_option maxRecDepth 100000
set_option maxHeartbeats 4000000
namespace Go.Civ
open Go.Proofs
theorem Ziz {G : GH} {w : World} (hG : G.In w) (c : Int) : CL Tryz.prog (nat_lit 339) #[.int .u8 c] [] w G fun _ _ r=>r = .bool (Xh c):=by
 refine Zo ft [] Tryz.func339 V V ?_
 have hS:=St.start (X:=[]) hG
 refine Y9 c 97 V V V (fun h1=>?_) (fun h1=>?_)
 ·refine Qd c 122 V V V (fun h2=>?_) (fun h2=>?_)
  ·exact RB hS V (by unfold Xh; simp_all [Cmp.b] <;> (first | omega | (intros; omega) | (rw [Bool.eq_iff_iff]; simp <;> omega) | (rw [Bool.eq_iff_iff]; simp_all <;> omega)))
  refine Y9 c 65 V V V (fun h3=>?_) (fun h3=>?_)
  ·refine YK .leq V .u8 c 90 V V V ?_
   exact RB hS V (by unfold Xh; simp_all [Cmp.b] <;> (omega))
  exact RB hS V (by unfold Xh; simp_all [Cmp.b] <;> (omega))
 refine Y9 c 65 V V V (fun h4=>?_) (fun h4=>?_)
 ·refine YK .leq V .u8 c 90 V V V ?_
  exact RB hS V (by unfold Xh; simp_all [Cmp.b] <;> (omega))
 exact RB hS V (by unfold Xh; simp_all [Cmp.b] <;> (omega))
theorem Zo6 {G : GH} {w : World} (hG : G.In w) (c : Int) : CL Tryz.prog (nat_lit 340) #[.int .u8 c] [] w G fun _ _ r=>r = .bool (Zab c):=by
 refine Zo ft [] Tryz.func340 V V ?_
 have hS:=St.start (X:=[]) hG
 refine Y9 c 48 V V V (fun h1=>?_) (fun h1=>?_)
 ·refine YK .leq V .u8 c 57 V V V ?_
  exact RB hS V (by unfold Zab; simp_all [Cmp.b] <;> (first | omega | (intros; omega) | (rw [Bool.eq_iff_iff]; simp <;> omega) | (rw [Bool.eq_iff_iff]; simp_all <;> omega)))
 exact RB hS V (by unfold Zab; simp_all [Cmp.b] <;> (omega))
theorem Zi0 {G : GH} {w : World} (hG : G.In w) (c : Int) : CL Tryz.prog (nat_lit 308) #[.int .u8 c] [] w G fun _ _ r=>r = .bool (Xh c):=by
 refine Zo ft [] Tryz.func308 V V ?_
 have hS:=St.start (X:=[]) hG
 refine Y9 c 97 V V V (fun h1=>?_) (fun h1=>?_)
 ·refine Qd c 122 V V V (fun h2=>?_) (fun h2=>?_)
  ·exact RB hS V (by unfold Xh; simp_all [Cmp.b] <;> (first | omega | (intros; omega) | (rw [Bool.eq_iff_iff]; simp <;> omega) | (rw [Bool.eq_iff_iff]; simp_all <;> omega)))
  refine Y9 c 65 V V V (fun h3=>?_) (fun h3=>?_)
  ·refine YK .leq V .u8 c 90 V V V ?_
   exact RB hS V (by unfold Xh; simp_all [Cmp.b] <;> (omega))
  exact RB hS V (by unfold Xh; simp_all [Cmp.b] <;> (omega))
 refine Y9 c 65 V V V (fun h4=>?_) (fun h4=>?_)
 ·refine YK .leq V .u8 c 90 V V V ?_
  exact RB hS V (by unfold Xh; simp_all [Cmp.b] <;> (omega))
 exact RB hS V (by unfold Xh; simp_all [Cmp.b] <;> (omega))
theorem Zo7 {G : GH} {w : World} (hG : G.In w) (c : Int) : CL Tryz.prog (nat_lit 309) #[.int .u8 c] [] w G fun _ _ r=>r = .bool (Zab c):=by
 refine Zo ft [] Tryz.func309 V V ?_
 have hS:=St.start (X:=[]) hG
 refine Y9 c 48 V V V (fun h1=>?_) (fun h1=>?_)
 ·refine YK .leq V .u8 c 57 V V V ?_
  exact RB hS V (by unfold Zab; simp_all [Cmp.b] <;> (first | omega | (intros; omega) | (rw [Bool.eq_iff_iff]; simp <;> omega) | (rw [Bool.eq_iff_iff]; simp_all <;> omega)))
 exact RB hS V (by unfold Zab; simp_all [Cmp.b] <;> (omega))
theorem ZbR {G : GH} {w : World} (hG : G.In w) (s : List UInt8) (hg : Glob G) : CL Tryz.prog (nat_lit 282) #[Zb s] [] w G fun _ _ r=>r = .bool (YB s):=by
 refine Zo ft [] Tryz.func282 V V ?_
 have hg0:=hg
 obtain ⟨⟨rv,hrc,hrs⟩,hac⟩:=hg0
 have hS:=St.start (X:=[]) hG
 refine Zn .eql V s [] V V V ?_
 refine WL.split (fun h0=>?_) (fun h0=>?_)
 ·have h1 : s = []:=by simpa [SCmp.b] using h0
  clear h0
  exact RB hS V (by exact (Zrb ‹_›).symm)
 have h1 : s ≠ []:=by simpa [SCmp.b] using h0
 clear h0
 refine Xo s Q2 V V ?_
 refine Yk (s.length : Int) 30 V V V (fun h2=>?_) (fun h2=>?_)
 ·exact RB hS V (by exact (ZjK (.inr (by omega))).symm)
 refine Xr s 0 (by (have h9:=Znn ‹_›; omega)) Q2 V V V (fun c1 U1=>?_)
 refine Zw hS ZcH V V V (Ziz hS.imm (c1.toNat : Int)) (fun w1 G1 S1 L1=>?_)
 refine WL.split (fun (h3 : (Xh (c1.toNat : Int)) = true)=>?_) (fun (h3 : (Xh (c1.toNat : Int)) = false)=>?_)
 ·refine Za S1 (hrc.mono L1) ZU V V V ?_
  refine Zw S1 Zcf V V V (Zck S1.imm Xp s _ (hrs.mono L1)) (fun w2 G2 S2 L2=>?_)
  refine WL.split (fun (h4 : (Xp.any fun x=>decide (x = s)) = true)=>?_) (fun (h4 : (Xp.any fun x=>decide (x = s)) = false)=>?_)
  ·exact RB S2 V (by exact (Zrc ‹_›).symm)
  refine Xo s Q2 V V ?_
  refine LP.go ft [] (fun m ρ1 w1=>∃ (k1 : Nat),∃ (G3 : GH),m = s.length - k1 ∧ G2.le G3 ∧ St w [] G G3 [] w1 ∧ FR ρ1 [(0,Zb s),(23,U (s.length : Int)),(24,U (k1 : Int))] ∧ k1 ≤ s.length ∧ ∀ j,j < k1 → ∀ c,s[j]? = some c → qnC c = true) _ ⟨0,G2,V,(G2.le_refl),S2,⟨V,V,V,trivial⟩,(by omega),(by intro j hj; omega)⟩ ?_
  rintro m ρ1 w3 ⟨k1,G3,rfl,L3,S3,F9,f1,f2⟩
  refine F9.set ?_
  clear F9
  refine Z1 (k1 : Int) (s.length : Int) V V V (fun h5=>?_) (fun h5=>?_)
  ·refine Xr s k1 (by omega) Q2 V V V (fun c2 U2=>?_)
   refine Zw S3 ZcH V V V (Ziz S3.imm (c2.toNat : Int)) (fun w4 G4 S4 L4=>?_)
   refine WL.split (fun (h6 : (Xh (c2.toNat : Int)) = true)=>?_) (fun (h6 : (Xh (c2.toNat : Int)) = false)=>?_)
   ·refine ZC k1 (by have:=Zm; omega) V V V ?_
    exact BK.mk' _ ⟨k1 + 1,G4,V,(L3.trans L4),S4,⟨V,V,V,trivial⟩,(by omega),(by exact Yz ‹_› ‹_› (by exact Zpj ‹_›))⟩ (show s.length - (k1 + 1) < s.length - k1 by omega)
   refine Xr s k1 (by omega) Q2 V V V (fun c3 U3=>?_)
   obtain rfl : c2 = c3:=Option.some.inj (U2.symm.trans U3)
   refine Zw S4 Zdv V V V (Zo6 S4.imm (c2.toNat : Int)) (fun w5 G5 S5 L5=>?_)
   refine WL.split (fun (h7 : (Zab (c2.toNat : Int)) = true)=>?_) (fun (h7 : (Zab (c2.toNat : Int)) = false)=>?_)
   ·refine ZC k1 (by have:=Zm; omega) V V V ?_
    exact BK.mk' _ ⟨k1 + 1,G5,V,(L3.trans (L4.trans L5)),S5,⟨V,V,V,trivial⟩,(by omega),(by exact Yz ‹_› ‹_› (by exact Zpk ‹_›))⟩ (show s.length - (k1 + 1) < s.length - k1 by omega)
   refine Xr s k1 (by omega) Q2 V V V (fun c4 U4=>?_)
   obtain rfl : c2 = c4:=Option.some.inj (U2.symm.trans U4)
   refine Z8 (c2.toNat : Int) 95 V V V (fun h8=>?_) (fun h8=>?_)
   ·exact RB S5 V (by exact (Znm ‹_› (Znk ‹_› ‹_› ‹_›)).symm)
   refine ZC k1 (by have:=Zm; omega) V V V ?_
   exact BK.mk' _ ⟨k1 + 1,G5,V,(L3.trans (L4.trans L5)),S5,⟨V,V,V,trivial⟩,(by omega),(by exact Yz ‹_› ‹_› (by exact Zpl ‹_›))⟩ (show s.length - (k1 + 1) < s.length - k1 by omega)
  exact RB S3 V (by exact (Zrd (Znn ‹_›) (by omega) ‹_› ‹_› (Ys ‹_› (by omega)) ‹_›).symm)
 exact RB S1 V (by exact (Znl ‹_› ‹_›).symm)
theorem ZlS {G : GH} {w : World} (hG : G.In w) (s : List UInt8) : CL Tryz.prog (nat_lit 310) #[Zb s] [] w G fun _ _ r=>r = .bool (ZgI s):=by
 refine Zo ft [] Tryz.func310 V V ?_
 have hS:=St.start (X:=[]) hG
 refine Zn .eql V s [115,99,97,110] V V V ?_
 refine WL.split (fun h0=>?_) (fun h0=>?_)
 ·have h1 : s = [115,99,97,110]:=by simpa [SCmp.b] using h0
  clear h0
  exact RB hS V (by first | exact (Xy (by rw [(by assumption : s = _)]; decide)).symm | exact (Xf (by intro x hx; simp only [Xp,List.mem_cons,List.not_mem_nil,or_false] at hx; rcases hx with rfl | rfl | rfl | rfl | rfl | rfl | rfl | rfl | rfl | rfl | rfl | rfl | rfl | rfl | rfl | rfl | rfl | rfl | rfl | rfl | rfl | rfl | rfl | rfl <;> assumption)).symm)
 have h1 : s ≠ [115,99,97,110]:=by simpa [SCmp.b] using h0
 clear h0
 refine Zn .eql V s [115,101,108,101,99,116] V V V ?_
 refine WL.split (fun h0=>?_) (fun h0=>?_)
 ·have h2 : s = [115,101,108,101,99,116]:=by simpa [SCmp.b] using h0
  clear h0
  exact RB hS V (by first | exact (Xy (by rw [(by assumption : s = _)]; decide)).symm | exact (Xf (by intro x hx; simp only [Xp,List.mem_cons,List.not_mem_nil,or_false] at hx; rcases hx with rfl | rfl | rfl | rfl | rfl | rfl | rfl | rfl | rfl | rfl | rfl | rfl | rfl | rfl | rfl | rfl | rfl | rfl | rfl | rfl | rfl | rfl | rfl | rfl <;> assumption)).symm)
 have h2 : s ≠ [115,101,108,101,99,116]:=by simpa [SCmp.b] using h0
 clear h0
 refine Zn .eql V s [111,102] V V V ?_
 refine WL.split (fun h0=>?_) (fun h0=>?_)
 ·have h3 : s = [111,102]:=by simpa [SCmp.b] using h0
  clear h0
  exact RB hS V (by first | exact (Xy (by rw [(by assumption : s = _)]; decide)).symm | exact (Xf (by intro x hx; simp only [Xp,List.mem_cons,List.not_mem_nil,or_false] at hx; rcases hx with rfl | rfl | rfl | rfl | rfl | rfl | rfl | rfl | rfl | rfl | rfl | rfl | rfl | rfl | rfl | rfl | rfl | rfl | rfl | rfl | rfl | rfl | rfl | rfl <;> assumption)).symm)
 have h3 : s ≠ [111,102]:=by simpa [SCmp.b] using h0
 clear h0
 refine Zn .eql V s [112,114,111,106,101,99,116] V V V ?_
 refine WL.split (fun h0=>?_) (fun h0=>?_)
 ·have h4 : s = [112,114,111,106,101,99,116]:=by simpa [SCmp.b] using h0
  clear h0
  exact RB hS V (by first | exact (Xy (by rw [(by assumption : s = _)]; decide)).symm | exact (Xf (by intro x hx; simp only [Xp,List.mem_cons,List.not_mem_nil,or_false] at hx; rcases hx with rfl | rfl | rfl | rfl | rfl | rfl | rfl | rfl | rfl | rfl | rfl | rfl | rfl | rfl | rfl | rfl | rfl | rfl | rfl | rfl | rfl | rfl | rfl | rfl <;> assumption)).symm)
 have h4 : s ≠ [112,114,111,106,101,99,116]:=by simpa [SCmp.b] using h0
 clear h0
 refine Zn .eql V s [114,101,110,97,109,101] V V V ?_
 refine WL.split (fun h0=>?_) (fun h0=>?_)
 ·have h5 : s = [114,101,110,97,109,101]:=by simpa [SCmp.b] using h0
  clear h0
  exact RB hS V (by first | exact (Xy (by rw [(by assumption : s = _)]; decide)).symm | exact (Xf (by intro x hx; simp only [Xp,List.mem_cons,List.not_mem_nil,or_false] at hx; rcases hx with rfl | rfl | rfl | rfl | rfl | rfl | rfl | rfl | rfl | rfl | rfl | rfl | rfl | rfl | rfl | rfl | rfl | rfl | rfl | rfl | rfl | rfl | rfl | rfl <;> assumption)).symm)
 have h5 : s ≠ [114,101,110,97,109,101]:=by simpa [SCmp.b] using h0
 clear h0
 refine Zn .eql V s [116,111] V V V ?_
 refine WL.split (fun h0=>?_) (fun h0=>?_)
 ·have h6 : s = [116,111]:=by simpa [SCmp.b] using h0
  clear h0
  exact RB hS V (by first | exact (Xy (by rw [(by assumption : s = _)]; decide)).symm | exact (Xf (by intro x hx; simp only [Xp,List.mem_cons,List.not_mem_nil,or_false] at hx; rcases hx with rfl | rfl | rfl | rfl | rfl | rfl | rfl | rfl | rfl | rfl | rfl | rfl | rfl | rfl | rfl | rfl | rfl | rfl | rfl | rfl | rfl | rfl | rfl | rfl <;> assumption)).symm)
 have h6 : s ≠ [116,111]:=by simpa [SCmp.b] using h0
 clear h0
 refine Zn .eql V s [106,111,105,110] V V V ?_
 refine WL.split (fun h0=>?_) (fun h0=>?_)
 ·have h7 : s = [106,111,105,110]:=by simpa [SCmp.b] using h0
  clear h0
  exact RB hS V (by first | exact (Xy (by rw [(by assumption : s = _)]; decide)).symm | exact (Xf (by intro x hx; simp only [Xp,List.mem_cons,List.not_mem_nil,or_false] at hx; rcases hx with rfl | rfl | rfl | rfl | rfl | rfl | rfl | rfl | rfl | rfl | rfl | rfl | rfl | rfl | rfl | rfl | rfl | rfl | rfl | rfl | rfl | rfl | rfl | rfl <;> assumption)).symm)
 have h7 : s ≠ [106,111,105,110]:=by simpa [SCmp.b] using h0
 clear h0
 refine Zn .eql V s [117,110,105,111,110] V V V ?_
 refine WL.split (fun h0=>?_) (fun h0=>?_)
 ·have h8 : s = [117,110,105,111,110]:=by simpa [SCmp.b] using h0
  clear h0
  exact RB hS V (by first | exact (Xy (by rw [(by assumption : s = _)]; decide)).symm | exact (Xf (by intro x hx; simp only [Xp,List.mem_cons,List.not_mem_nil,or_false] at hx; rcases hx with rfl | rfl | rfl | rfl | rfl | rfl | rfl | rfl | rfl | rfl | rfl | rfl | rfl | rfl | rfl | rfl | rfl | rfl | rfl | rfl | rfl | rfl | rfl | rfl <;> assumption)).symm)
 have h8 : s ≠ [117,110,105,111,110]:=by simpa [SCmp.b] using h0
 clear h0
 refine Zn .eql V s [101,120,99,101,112,116] V V V ?_
 refine WL.split (fun h0=>?_) (fun h0=>?_)
 ·have h9 : s = [101,120,99,101,112,116]:=by simpa [SCmp.b] using h0
  clear h0
  exact RB hS V (by first | exact (Xy (by rw [(by assumption : s = _)]; decide)).symm | exact (Xf (by intro x hx; simp only [Xp,List.mem_cons,List.not_mem_nil,or_false] at hx; rcases hx with rfl | rfl | rfl | rfl | rfl | rfl | rfl | rfl | rfl | rfl | rfl | rfl | rfl | rfl | rfl | rfl | rfl | rfl | rfl | rfl | rfl | rfl | rfl | rfl <;> assumption)).symm)
 have h9 : s ≠ [101,120,99,101,112,116]:=by simpa [SCmp.b] using h0
 clear h0
 refine Zn .eql V s [100,117,114,105,110,103] V V V ?_
 refine WL.split (fun h0=>?_) (fun h0=>?_)
 ·have h10 : s = [100,117,114,105,110,103]:=by simpa [SCmp.b] using h0
  clear h0
  exact RB hS V (by first | exact (Xy (by rw [(by assumption : s = _)]; decide)).symm | exact (Xf (by intro x hx; simp only [Xp,List.mem_cons,List.not_mem_nil,or_false] at hx; rcases hx with rfl | rfl | rfl | rfl | rfl | rfl | rfl | rfl | rfl | rfl | rfl | rfl | rfl | rfl | rfl | rfl | rfl | rfl | rfl | rfl | rfl | rfl | rfl | rfl <;> assumption)).symm)
 have h10 : s ≠ [100,117,114,105,110,103]:=by simpa [SCmp.b] using h0
 clear h0
 refine Zn .eql V s [103,114,111,117,112] V V V ?_
 refine WL.split (fun h0=>?_) (fun h0=>?_)
 ·have h11 : s = [103,114,111,117,112]:=by simpa [SCmp.b] using h0
  clear h0
  exact RB hS V (by first | exact (Xy (by rw [(by assumption : s = _)]; decide)).symm | exact (Xf (by intro x hx; simp only [Xp,List.mem_cons,List.not_mem_nil,or_false] at hx; rcases hx with rfl | rfl | rfl | rfl | rfl | rfl | rfl | rfl | rfl | rfl | rfl | rfl | rfl | rfl | rfl | rfl | rfl | rfl | rfl | rfl | rfl | rfl | rfl | rfl <;> assumption)).symm)
 have h11 : s ≠ [103,114,111,117,112]:=by simpa [SCmp.b] using h0
 clear h0
 refine Zn .eql V s [97,115] V V V ?_
 refine WL.split (fun h0=>?_) (fun h0=>?_)
 ·have h12 : s = [97,115]:=by simpa [SCmp.b] using h0
  clear h0
  exact RB hS V (by first | exact (Xy (by rw [(by assumption : s = _)]; decide)).symm | exact (Xf (by intro x hx; simp only [Xp,List.mem_cons,List.not_mem_nil,or_false] at hx; rcases hx with rfl | rfl | rfl | rfl | rfl | rfl | rfl | rfl | rfl | rfl | rfl | rfl | rfl | rfl | rfl | rfl | rfl | rfl | rfl | rfl | rfl | rfl | rfl | rfl <;> assumption)).symm)
 have h12 : s ≠ [97,115]:=by simpa [SCmp.b] using h0
 clear h0
 refine Zn .eql V s [99,111,117,110,116] V V V ?_
 refine WL.split (fun h0=>?_) (fun h0=>?_)
 ·have h13 : s = [99,111,117,110,116]:=by simpa [SCmp.b] using h0
  clear h0
  exact RB hS V (by first | exact (Xy (by rw [(by assumption : s = _)]; decide)).symm | exact (Xf (by intro x hx; simp only [Xp,List.mem_cons,List.not_mem_nil,or_false] at hx; rcases hx with rfl | rfl | rfl | rfl | rfl | rfl | rfl | rfl | rfl | rfl | rfl | rfl | rfl | rfl | rfl | rfl | rfl | rfl | rfl | rfl | rfl | rfl | rfl | rfl <;> assumption)).symm)
 have h13 : s ≠ [99,111,117,110,116]:=by simpa [SCmp.b] using h0
 clear h0
 refine Zn .eql V s [115,117,109] V V V ?_
 refine WL.split (fun h0=>?_) (fun h0=>?_)
 ·have h14 : s = [115,117,109]:=by simpa [SCmp.b] using h0
  clear h0
  exact RB hS V (by first | exact (Xy (by rw [(by assumption : s = _)]; decide)).symm | exact (Xf (by intro x hx; simp only [Xp,List.mem_cons,List.not_mem_nil,or_false] at hx; rcases hx with rfl | rfl | rfl | rfl | rfl | rfl | rfl | rfl | rfl | rfl | rfl | rfl | rfl | rfl | rfl | rfl | rfl | rfl | rfl | rfl | rfl | rfl | rfl | rfl <;> assumption)).symm)
 have h14 : s ≠ [115,117,109]:=by simpa [SCmp.b] using h0
 clear h0
 refine Zn .eql V s [109,105,110] V V V ?_
 refine WL.split (fun h0=>?_) (fun h0=>?_)
 ·have h15 : s = [109,105,110]:=by simpa [SCmp.b] using h0
  clear h0
  exact RB hS V (by first | exact (Xy (by rw [(by assumption : s = _)]; decide)).symm | exact (Xf (by intro x hx; simp only [Xp,List.mem_cons,List.not_mem_nil,or_false] at hx; rcases hx with rfl | rfl | rfl | rfl | rfl | rfl | rfl | rfl | rfl | rfl | rfl | rfl | rfl | rfl | rfl | rfl | rfl | rfl | rfl | rfl | rfl | rfl | rfl | rfl <;> assumption)).symm)
 have h15 : s ≠ [109,105,110]:=by simpa [SCmp.b] using h0
 clear h0
 refine Zn .eql V s [109,97,120] V V V ?_
 refine WL.split (fun h0=>?_) (fun h0=>?_)
 ·have h16 : s = [109,97,120]:=by simpa [SCmp.b] using h0
  clear h0
  exact RB hS V (by first | exact (Xy (by rw [(by assumption : s = _)]; decide)).symm | exact (Xf (by intro x hx; simp only [Xp,List.mem_cons,List.not_mem_nil,or_false] at hx; rcases hx with rfl | rfl | rfl | rfl | rfl | rfl | rfl | rfl | rfl | rfl | rfl | rfl | rfl | rfl | rfl | rfl | rfl | rfl | rfl | rfl | rfl | rfl | rfl | rfl <;> assumption)).symm)
 have h16 : s ≠ [109,97,120]:=by simpa [SCmp.b] using h0
 clear h0
 refine Zn .eql V s [114,101,108,97,116,101] V V V ?_
 refine WL.split (fun h0=>?_) (fun h0=>?_)
 ·have h17 : s = [114,101,108,97,116,101]:=by simpa [SCmp.b] using h0
  clear h0
  exact RB hS V (by first | exact (Xy (by rw [(by assumption : s = _)]; decide)).symm | exact (Xf (by intro x hx; simp only [Xp,List.mem_cons,List.not_mem_nil,or_false] at hx; rcases hx with rfl | rfl | rfl | rfl | rfl | rfl | rfl | rfl | rfl | rfl | rfl | rfl | rfl | rfl | rfl | rfl | rfl | rfl | rfl | rfl | rfl | rfl | rfl | rfl <;> assumption)).symm)
 have h17 : s ≠ [114,101,108,97,116,101]:=by simpa [SCmp.b] using h0
 clear h0
 refine Zn .eql V s [97,110,100] V V V ?_
 refine WL.split (fun h0=>?_) (fun h0=>?_)
 ·have h18 : s = [97,110,100]:=by simpa [SCmp.b] using h0
  clear h0
  exact RB hS V (by first | exact (Xy (by rw [(by assumption : s = _)]; decide)).symm | exact (Xf (by intro x hx; simp only [Xp,List.mem_cons,List.not_mem_nil,or_false] at hx; rcases hx with rfl | rfl | rfl | rfl | rfl | rfl | rfl | rfl | rfl | rfl | rfl | rfl | rfl | rfl | rfl | rfl | rfl | rfl | rfl | rfl | rfl | rfl | rfl | rfl <;> assumption)).symm)
 have h18 : s ≠ [97,110,100]:=by simpa [SCmp.b] using h0
 clear h0
 refine Zn .eql V s [111,114] V V V ?_
 refine WL.split (fun h0=>?_) (fun h0=>?_)
 ·have h19 : s = [111,114]:=by simpa [SCmp.b] using h0
  clear h0
  exact RB hS V (by first | exact (Xy (by rw [(by assumption : s = _)]; decide)).symm | exact (Xf (by intro x hx; simp only [Xp,List.mem_cons,List.not_mem_nil,or_false] at hx; rcases hx with rfl | rfl | rfl | rfl | rfl | rfl | rfl | rfl | rfl | rfl | rfl | rfl | rfl | rfl | rfl | rfl | rfl | rfl | rfl | rfl | rfl | rfl | rfl | rfl <;> assumption)).symm)
 have h19 : s ≠ [111,114]:=by simpa [SCmp.b] using h0
 clear h0
 refine Zn .eql V s [110,111,116] V V V ?_
 refine WL.split (fun h0=>?_) (fun h0=>?_)
 ·have h20 : s = [110,111,116]:=by simpa [SCmp.b] using h0
  clear h0
  exact RB hS V (by first | exact (Xy (by rw [(by assumption : s = _)]; decide)).symm | exact (Xf (by intro x hx; simp only [Xp,List.mem_cons,List.not_mem_nil,or_false] at hx; rcases hx with rfl | rfl | rfl | rfl | rfl | rfl | rfl | rfl | rfl | rfl | rfl | rfl | rfl | rfl | rfl | rfl | rfl | rfl | rfl | rfl | rfl | rfl | rfl | rfl <;> assumption)).symm)
 have h20 : s ≠ [110,111,116]:=by simpa [SCmp.b] using h0
 clear h0
 refine Zn .eql V s [97,108,119,97,121,115] V V V ?_
 refine WL.split (fun h0=>?_) (fun h0=>?_)
 ·have h21 : s = [97,108,119,97,121,115]:=by simpa [SCmp.b] using h0
  clear h0
  exact RB hS V (by first | exact (Xy (by rw [(by assumption : s = _)]; decide)).symm | exact (Xf (by intro x hx; simp only [Xp,List.mem_cons,List.not_mem_nil,or_false] at hx; rcases hx with rfl | rfl | rfl | rfl | rfl | rfl | rfl | rfl | rfl | rfl | rfl | rfl | rfl | rfl | rfl | rfl | rfl | rfl | rfl | rfl | rfl | rfl | rfl | rfl <;> assumption)).symm)
 have h21 : s ≠ [97,108,119,97,121,115]:=by simpa [SCmp.b] using h0
 clear h0
 refine Zn .eql V s [116,114,117,101] V V V ?_
 refine WL.split (fun h0=>?_) (fun h0=>?_)
 ·have h22 : s = [116,114,117,101]:=by simpa [SCmp.b] using h0
  clear h0
  exact RB hS V (by first | exact (Xy (by rw [(by assumption : s = _)]; decide)).symm | exact (Xf (by intro x hx; simp only [Xp,List.mem_cons,List.not_mem_nil,or_false] at hx; rcases hx with rfl | rfl | rfl | rfl | rfl | rfl | rfl | rfl | rfl | rfl | rfl | rfl | rfl | rfl | rfl | rfl | rfl | rfl | rfl | rfl | rfl | rfl | rfl | rfl <;> assumption)).symm)
 have h22 : s ≠ [116,114,117,101]:=by simpa [SCmp.b] using h0
 clear h0
 refine Zn .eql V s [102,97,108,115,101] V V V ?_
 refine WL.split (fun h0=>?_) (fun h0=>?_)
 ·have h23 : s = [102,97,108,115,101]:=by simpa [SCmp.b] using h0
  clear h0
  exact RB hS V (by first | exact (Xy (by rw [(by assumption : s = _)]; decide)).symm | exact (Xf (by intro x hx; simp only [Xp,List.mem_cons,List.not_mem_nil,or_false] at hx; rcases hx with rfl | rfl | rfl | rfl | rfl | rfl | rfl | rfl | rfl | rfl | rfl | rfl | rfl | rfl | rfl | rfl | rfl | rfl | rfl | rfl | rfl | rfl | rfl | rfl <;> assumption)).symm)
 have h23 : s ≠ [102,97,108,115,101]:=by simpa [SCmp.b] using h0
 clear h0
 refine Zn .eql V s [102,111,114,101,118,101,114] V V V ?_
 refine WL.split (fun h0=>?_) (fun h0=>?_)
 ·have h24 : s = [102,111,114,101,118,101,114]:=by simpa [SCmp.b] using h0
  clear h0
  exact RB hS V (by first | exact (Xy (by rw [(by assumption : s = _)]; decide)).symm | exact (Xf (by intro x hx; simp only [Xp,List.mem_cons,List.not_mem_nil,or_false] at hx; rcases hx with rfl | rfl | rfl | rfl | rfl | rfl | rfl | rfl | rfl | rfl | rfl | rfl | rfl | rfl | rfl | rfl | rfl | rfl | rfl | rfl | rfl | rfl | rfl | rfl <;> assumption)).symm)
 have h24 : s ≠ [102,111,114,101,118,101,114]:=by simpa [SCmp.b] using h0
 clear h0
 exact RB hS V (by first | exact (Xy (by rw [(by assumption : s = _)]; decide)).symm | exact (Xf (by intro x hx; simp only [Xp,List.mem_cons,List.not_mem_nil,or_false] at hx; rcases hx with rfl | rfl | rfl | rfl | rfl | rfl | rfl | rfl | rfl | rfl | rfl | rfl | rfl | rfl | rfl | rfl | rfl | rfl | rfl | rfl | rfl | rfl | rfl | rfl <;> assumption)).symm)
theorem Zaf {G : GH} {w : World} (hG : G.In w) (s : List UInt8) : CL Tryz.prog (nat_lit 241) #[Zb s] [] w G fun _ _ r=>r = .bool (YB s):=by
 refine Zo ft [] Tryz.func241 V V ?_
 have hS:=St.start (X:=[]) hG
 refine Xo s Q2 V V ?_
 refine Z1 (s.length : Int) 1 V V V (fun h1=>?_) (fun h1=>?_)
 ·exact RB hS V (by exact (ZjK (by omega)).symm)
 refine Xo s Q2 V V ?_
 refine Yk (s.length : Int) 30 V V V (fun h2=>?_) (fun h2=>?_)
 ·exact RB hS V (by exact (ZjK (by omega)).symm)
 refine Xr s 0 (by omega) Q2 V V V (fun c1 U1=>?_)
 refine Zw hS ZcG V V V (Zi0 hS.imm (c1.toNat : Int)) (fun w1 G1 S1 L1=>?_)
 refine WL.split (fun (h3 : (Xh (c1.toNat : Int)) = true)=>?_) (fun (h3 : (Xh (c1.toNat : Int)) = false)=>?_)
 ·refine LP.go ft [] (fun m ρ1 w1=>∃ (k1 : Nat),∃ (G2 : GH),m = s.length - k1 ∧ G1.le G2 ∧ St w [] G G2 [] w1 ∧ FR ρ1 [(0,Zb s),(3,U (k1 : Int))] ∧ k1 ≤ s.length ∧ ∀ j,j < k1 → ∀ c,s[j]? = some c → qnC c = true) _ ⟨0,G1,V,(G1.le_refl),S1,⟨V,V,trivial⟩,(by omega),(by intro j hj; omega)⟩ ?_
  rintro m ρ1 w2 ⟨k1,G2,rfl,L2,S2,F9,f1,f2⟩
  refine F9.set ?_
  clear F9
  refine Xo s Q2 V V ?_
  refine Z1 (k1 : Int) (s.length : Int) V V V (fun h4=>?_) (fun h4=>?_)
  ·refine Xr s k1 (by omega) Q2 V V V (fun c2 U2=>?_)
   refine Zw S2 ZcG V V V (Zi0 S2.imm (c2.toNat : Int)) (fun w3 G3 S3 L3=>?_)
   refine WL.split (fun (h5 : (Xh (c2.toNat : Int)) = true)=>?_) (fun (h5 : (Xh (c2.toNat : Int)) = false)=>?_)
   ·refine ZC k1 (by have:=Zm; omega) V V V ?_
    exact BK.mk' _ ⟨k1 + 1,G3,V,(L2.trans L3),S3,⟨V,V,trivial⟩,(by omega),(by exact Yz ‹_› ‹_› (by exact Zpj ‹_›))⟩ (show s.length - (k1 + 1) < s.length - k1 by omega)
   refine Xr s k1 (by omega) Q2 V V V (fun c3 U3=>?_)
   obtain rfl : c2 = c3:=Option.some.inj (U2.symm.trans U3)
   refine Zw S3 Zdt V V V (Zo7 S3.imm (c2.toNat : Int)) (fun w4 G4 S4 L4=>?_)
   refine WL.split (fun (h6 : (Zab (c2.toNat : Int)) = true)=>?_) (fun (h6 : (Zab (c2.toNat : Int)) = false)=>?_)
   ·refine ZC k1 (by have:=Zm; omega) V V V ?_
    exact BK.mk' _ ⟨k1 + 1,G4,V,(L2.trans (L3.trans L4)),S4,⟨V,V,trivial⟩,(by omega),(by exact Yz ‹_› ‹_› (by exact Zpk ‹_›))⟩ (show s.length - (k1 + 1) < s.length - k1 by omega)
   refine Xr s k1 (by omega) Q2 V V V (fun c4 U4=>?_)
   obtain rfl : c2 = c4:=Option.some.inj (U2.symm.trans U4)
   refine Z8 (c2.toNat : Int) 95 V V V (fun h7=>?_) (fun h7=>?_)
   ·exact RB S4 V (by exact (Znm ‹_› (Znk ‹_› ‹_› ‹_›)).symm)
   refine ZC k1 (by have:=Zm; omega) V V V ?_
   exact BK.mk' _ ⟨k1 + 1,G4,V,(L2.trans (L3.trans L4)),S4,⟨V,V,trivial⟩,(by omega),(by exact Yz ‹_› ‹_› (by exact Zpl ‹_›))⟩ (show s.length - (k1 + 1) < s.length - k1 by omega)
  refine Zw S2 Zdu V V V (ZlS S2.imm s) (fun w5 G5 S5 L5=>?_)
  exact RB S5 V (by exact Zre (by omega) (by omega) ‹_› ‹_› (Ys ‹_› (by omega)))
 exact RB S1 V (by exact (Znl ‹_› ‹_›).symm)
theorem Zfj {G : GH} {w : World} (hG : G.In w) (l : List (List UInt8)) (hg : Glob G) (vl : Value) (hvl : Sl Enc.str 16 G vl l) : CL Tryz.prog (nat_lit 284) #[vl] [] w G fun _ _ r=>r = .bool (X7 l):=by
 refine Zo ft [] Tryz.func284 V V ?_
 have hg0:=hg
 obtain ⟨⟨rv,hrc,hrs⟩,hac⟩:=hg0
 have hS:=St.start (X:=[]) hG
 have V1:=hvl.bound
 refine Zl hvl Yo V V ?_
 refine LP.go ft [] (fun m ρ1 w1=>∃ (k1 : Nat),∃ (G1 : GH),m = l.length - k1 ∧ G.le G1 ∧ St w [] G G1 [] w1 ∧ FR ρ1 [(0,vl),(5,vl),(6,U (l.length : Int)),(7,U (k1 : Int))] ∧ k1 ≤ l.length ∧ ∀ j,j < k1 → ∀ s,l[j]? = some s → qnA l j s = true) _ ⟨0,G,V,(G.le_refl),hS,(Yt V),(by omega),(by intro j hj; omega)⟩ ?_
 rintro m ρ1 w1 ⟨k1,G1,rfl,L1,S1,F9,f1,f2⟩
 refine F9.set ?_
 clear F9
 refine Z1 (k1 : Int) (l.length : Int) V V V (fun h1=>?_) (fun h1=>?_)
 ·refine WL.indexAddr (hvl.mono L1) k1 (by omega) Yo Zy V V V V (fun p1 x1 U1 E1=>?_)
  obtain ⟨D1,C1,R1⟩:=E1
  obtain ⟨rfl,B1⟩:=R1
  refine Za S1 C1 Zy V V V ?_
  refine Zw S1 Zat V V V (ZbR S1.imm x1 (hg.mono L1)) (fun w2 G2 S2 L2=>?_)
  refine WL.split (fun (h2 : (YB x1) = true)=>?_) (fun (h2 : (YB x1) = false)=>?_)
  ·refine ZbY (hvl.mono (L1.trans L2)) k1 (by omega) Yo Zy V V V V (fun v1 A1=>?_)
   refine Zw S2 Zcf V V V (Zck S2.imm (l.take k1) x1 _ A1) (fun w3 G3 S3 L3=>?_)
   refine WL.split (fun (h3 : ((l.take k1).any fun x=>decide (x = x1)) = true)=>?_) (fun (h3 : ((l.take k1).any fun x=>decide (x = x1)) = false)=>?_)
   ·exact RB S3 V (by exact (Zh1 ‹_› (Zlf ‹_›)).symm)
   refine ZC k1 (by have:=Zm; omega) V V V ?_
   exact BK.mk' _ ⟨k1 + 1,G3,V,(L1.trans (L2.trans L3)),S3,(Yt V),(by omega),(by exact Za9 (P:=fun j s=>qnA l j s = true) ‹_› ‹_› (Zld ‹_› ‹_›))⟩ (show l.length - (k1 + 1) < l.length - k1 by omega)
  exact RB S2 V (by exact (Zh1 ‹_› (Zle ‹_›)).symm)
 exact RB S1 V (by exact (Zlg ‹_› (by omega)).symm)
theorem ZfH {G : GH} {w : World} (hG : G.In w) (l : List (List UInt8)) (vl : Value) (hvl : Sl Enc.str 16 G vl l) : CL Tryz.prog (nat_lit 243) #[vl] [] w G fun _ _ r=>r = .bool (X7 l):=by
 refine Zo ft [] Tryz.func243 V V ?_
 have hS:=St.start (X:=[]) hG
 refine LP.go ft [] (fun m ρ1 w1=>∃ (k1 : Nat),∃ (G1 : GH),m = l.length - k1 ∧ G.le G1 ∧ St w [] G G1 [] w1 ∧ FR ρ1 [(0,vl),(3,U (k1 : Int))] ∧ k1 ≤ l.length ∧ ∀ j,j < k1 → ∀ s,l[j]? = some s → qnA l j s = true) _ ⟨0,G,V,(G.le_refl),hS,⟨V,V,trivial⟩,(by omega),(by intro j hj; omega)⟩ ?_
 rintro m ρ1 w1 ⟨k1,G1,rfl,L1,S1,F9,f1,f2⟩
 refine F9.set ?_
 clear F9
 have V1:=hvl.bound
 refine Zl (hvl.mono L1) Yo V V ?_
 refine Z1 (k1 : Int) (l.length : Int) V V V (fun h1=>?_) (fun h1=>?_)
 ·refine WL.indexAddr (hvl.mono L1) k1 (by omega) Yo Zy V V V V (fun p1 x1 U1 E1=>?_)
  obtain ⟨D1,C1,R1⟩:=E1
  obtain ⟨rfl,B1⟩:=R1
  refine Za S1 C1 Zy V V V ?_
  refine Zw S1 QC V V V (Zaf S1.imm x1) (fun w2 G2 S2 L2=>?_)
  refine WL.split (fun (h2 : (YB x1) = true)=>?_) (fun (h2 : (YB x1) = false)=>?_)
  ·refine LP.go ft [] (fun m ρ1 w1=>∃ (k2 : Nat),∃ (G3 : GH),m = k1 - k2 ∧ G2.le G3 ∧ St w [] G G3 [] w1 ∧ FR ρ1 [(0,vl),(3,U (k1 : Int)),(4,U (k2 : Int))] ∧ k2 ≤ k1 ∧ ∀ j,j < k2 → ∀ x,l[j]? = some x → ¬ x = x1) _ ⟨0,G2,V,(G2.le_refl),S2,⟨V,V,V,trivial⟩,(by omega),(by intro j hj; omega)⟩ ?_
   rintro m ρ1 w3 ⟨k2,G3,rfl,L3,S3,F9,f3,f4⟩
   refine F9.set ?_
   clear F9
   refine Z1 (k2 : Int) (k1 : Int) V V V (fun h3=>?_) (fun h3=>?_)
   ·have j1:=((L1.trans L2).trans L3)
    obtain ⟨p2,x2,U2,E2,W1⟩:=Sl.at (hvl.mono j1) k2 (by omega)
    obtain ⟨D2,C2,R2⟩:=E2
    obtain ⟨rfl,B2⟩:=R2
    obtain ⟨p3,x3,U3,E3,W2⟩:=Sl.at (hvl.mono j1) k1 (by omega)
    obtain rfl : x1 = x3:=Option.some.inj (U1.symm.trans U3)
    obtain ⟨D3,C3,R3⟩:=E3
    obtain ⟨rfl,B3⟩:=R3
    rcases Classical.em (x2 = x1) with h4 | h4
    ·refine dr [] [(24,Zu p2),(25,Zb x2),(28,Zu p3),(29,Zb x1),(30, .bool true)] S3 ⟨fun _=>Zf k2 W1 Yo Zy V V V V <| nu V V,fun _ hSw=>Za hSw C2 Zy V V V <| nu V V,fun _=>Zf k1 W2 Yo Zy V V V V <| nu V V,fun _ hSw=>Za hSw C3 Zy V V V <| nu V V,fun _=>YG .eql V x2 x1 true (by simp [h4,SCmp.b]) V V V <| nu V V,trivial⟩ (fun w4 S4=>?_)
     exact RB S4 V (by exact (ZpX (k:=k1) (j:=k2) ‹_› ‹_› (by omega) ‹_›).symm)
    refine dr [] [(24,Zu p2),(25,Zb x2),(28,Zu p3),(29,Zb x1),(30, .bool false)] S3 ⟨fun _=>Zf k2 W1 Yo Zy V V V V <| nu V V,fun _ hSw=>Za hSw C2 Zy V V V <| nu V V,fun _=>Zf k1 W2 Yo Zy V V V V <| nu V V,fun _ hSw=>Za hSw C3 Zy V V V <| nu V V,fun _=>YG .eql V x2 x1 false (by simp [h4,SCmp.b]) V V V <| nu V V,trivial⟩ (fun w5 S5=>?_)
    refine ZC k2 (by have:=Zm; omega) V V V ?_
    exact BK.mk' _ ⟨k2 + 1,G3,V,L3,S5,⟨V,V,V,trivial⟩,(by omega),(by exact Yz (P:=fun x=>¬ x = _) ‹_› ‹_› ‹_›)⟩ (show k1 - (k2 + 1) < k1 - k2 by omega)
   refine ZC k1 (by have:=Zm; omega) V V V ?_
   exact BK.mk' _ ⟨k1 + 1,G3,V,(L1.trans (L2.trans L3)),S3,⟨V,V,trivial⟩,(by omega),(by exact Za9 (P:=fun j s=>qnA l j s = true) ‹_› ‹_› (Zld ‹_› (ZpW (fun j hj=>(by assumption : ∀ j,j < k2 → ∀ x,l[j]? = some x → ¬ x = _) j (by omega)))))⟩ (show l.length - (k1 + 1) < l.length - k1 by omega)
  exact RB S2 V (by exact (Zh1 ‹_› (Zle ‹_›)).symm)
 exact RB S1 V (by exact (Zlg ‹_› (by omega)).symm)
end Go.Civ
