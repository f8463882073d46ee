/- Lemmas. -/
import Derived.Test.YthgeclodflmiaaaGreatM08
import Derived.Test.YthgeclodflmiaaaGreatM12
import Derived.Test.YthgeclodflmiaaaGreatM15
import Derived.Test.YthgeclodflmiaaaGreatM17
import Derived.Test.YthgeclodflmiaaaGreatM18
import Derived.Test.YthgeclodflmiaaaGreatM19
import Derived.Test.YthgeclodflmiaaaGreatM20
import Derived.Test.YthgeclodflmiaaaGreatRows
import Derived.Test.YthgeclodflmiaaaGreatProg
import Derived.KernelRfl
import Derived.WalkKit
set_option linter.unusedVariables false
namespace Go.Civ
open Go.Proofs
section
variable {H : Type} {enc : TypeId × Value → H} {w : World}
theorem Znj : YV enc Tryz.prog w 33 SpanE:=Zbn (g:=fun p=>⟨p.1,p.2⟩) (fun _=>rfl) Tryz.underlying33 rfl (by kernel_rfl) rfl (by kernel_rfl) (by kernel_rfl) (Zar Tryz.underlying3) (Zar Tryz.underlying3)
theorem Zuu : YV enc Tryz.prog w 58 ValE:=ZfB (g:=fun p=>⟨p.1,p.2.1,p.2.2⟩) (fun _=>rfl) Tryz.underlying58 rfl (by kernel_rfl) rfl (by kernel_rfl) rfl (by kernel_rfl) (by kernel_rfl) (Zar Tryz.underlying3) (Zar Tryz.underlying3) (ZbQ Tryz.underlying9)
theorem ZsN : YV enc Tryz.prog w 31 (ValE.slice 32):=ZaN Tryz.underlying31 (by kernel_rfl) (by decide) (by kernel_rfl) (by decide) Zuu
theorem ZsO : YV enc Tryz.prog w 35 RectE:=Zbn (g:=fun p=>⟨p.1,p.2⟩) (fun _=>rfl) Tryz.underlying35 rfl (by kernel_rfl) rfl (by kernel_rfl) (by kernel_rfl) Znj Znj
theorem Zuv : YV enc Tryz.prog w 37 HRowE:=Zbn (g:=fun p=>⟨p.1,p.2⟩) (fun _=>rfl) Tryz.underlying37 rfl (by kernel_rfl) rfl (by kernel_rfl) (by kernel_rfl) ZsN ZsO
theorem ZsP : YV enc Tryz.prog w 26 (HRowE.slice 56):=ZaN Tryz.underlying26 (by kernel_rfl) (by decide) (by kernel_rfl) (by decide) Zuv
theorem Zuw : YV enc Tryz.prog w 130 ColE:=Zbn (g:=fun p=>⟨p.1,p.2⟩) (fun _=>rfl) Tryz.underlying130 rfl (by kernel_rfl) rfl (by kernel_rfl) (by kernel_rfl) (ZbQ Tryz.underlying9) (Zar Tryz.underlying3)
theorem ZsQ : YV enc Tryz.prog w 22 (ColE.slice 24):=ZaN Tryz.underlying22 (by kernel_rfl) (by decide) (by kernel_rfl) (by decide) Zuw
theorem ZsR : YV enc Tryz.prog w 48 (Enc.str.slice 16):=ZaN Tryz.underlying48 (by kernel_rfl) (by decide) (by kernel_rfl) (by decide) (ZbQ Tryz.underlying9)
theorem ZhT : YV enc Tryz.prog w 50 ForeignE:=Zbn (g:=fun p=>⟨p.1,p.2⟩) (fun _=>rfl) Tryz.underlying50 rfl (by kernel_rfl) rfl (by kernel_rfl) (by kernel_rfl) ZsR (ZbQ Tryz.underlying9)
theorem ZlT : YV enc Tryz.prog w 23 (ForeignE.slice 40):=ZaN Tryz.underlying23 (by kernel_rfl) (by decide) (by kernel_rfl) (by decide) ZhT
theorem Zpq : YV enc Tryz.prog w 25 SchemaE:=ZlS (g:=fun p=>⟨p.1,p.2.1,p.2.2.1,p.2.2.2⟩) (fun _=>rfl) Tryz.underlying25 rfl (by kernel_rfl) rfl (by kernel_rfl) rfl (by kernel_rfl) rfl (by kernel_rfl) (by kernel_rfl) (ZbQ Tryz.underlying9) ZsQ (Zar Tryz.underlying3) ZlT
theorem Zle : YV enc Tryz.prog w 28 TableE:=ZfB (g:=fun p=>⟨p.1,p.2.1,p.2.2⟩) (fun _=>rfl) Tryz.underlying28 rfl (by kernel_rfl) rfl (by kernel_rfl) rfl (by kernel_rfl) (by kernel_rfl) Zpq ZsP (Zar Tryz.underlying3)
end
theorem Zvz : ownKnob Tryz.prog.godebug = none:=by kernel_rfl
theorem ZfV : laidOutB Tryz.prog = true:=by kernel_rfl
end Go.Civ
set_option linter.unusedVariables false
set_option linter.unusedSimpArgs false
set_option maxRecDepth 100000
set_option maxHeartbeats 4000000
namespace Go.Civ
open Go.Proofs
theorem ZpU {G : GH} {w : World} (hG : G.In w) (l : List Span) (vl : Value) (hvl : Sl SpanE 16 G vl l) : CL Tryz.prog (nat_lit 188) #[vl] [] w G fun G' w' r=>∃ o,ZQ SpanE 16 (nat_lit 33) G' r l o ∧ Zfr w w' G' o:=by
 refine Zg ft [] Tryz.func188 rfl rfl ?_
 have hS:=St.start (X:=[]) hG
 refine ZfT hvl Yd rfl rfl rfl (fun h1=>?_) ?_
 ·exact RT hS rfl ⟨none,ZQ.cast (ZQ.nil _ _ _ _) (by exact Eq.symm ‹_›),fun _ h=>by cases h⟩
 refine WL.buildSlice _ [] [] hS Ym rfl rfl rfl rfl (fun z hz=>by match z,hz with | [],_=>rfl) (fun b1 w1 hn1 hS1=>?_)
 have hr1:=ZQ.empty SpanE 16 33 G b1
 refine ZV Ym rfl rfl rfl hr1 hS1 0 rfl hvl (by have hreach : reach = 140737488355328:=rfl; have:=hvl.bytes; have:=hvl.bound; simp only [List.length_nil,Nat.zero_add]; omega) (by have hreach : reach = 140737488355328:=rfl; have:=hvl.bytes; have:=hvl.bound; simp only [List.length_nil,Nat.zero_add]; omega) rfl rfl rfl (fun v1 o1 w2 hr2 hS2=>?_)
 exact RT hS2 rfl ⟨_,ZQ.cast hr2 (by rfl),hS2.freshAt 0 rfl⟩
theorem ZjZ {G : GH} {w : World} (hG : G.In w) (l : List Span) (vl : Value) (hvl : Sl SpanE 16 G vl l) (hB : ∀ s ∈ l,ZF s = true) (hl : l.length ≤ 2000) : CL Tryz.prog (nat_lit 140) #[vl] [] w G fun G' _ r=>∃ r0 r1,r = .tuple #[r0,r1] ∧ Sl SpanE 16 G' r0 (Qp l) ∧ r1 = .int .i64 0:=by
 refine Zg ft [] Tryz.func140 rfl rfl ?_
 have hS:=St.start (X:=[]) hG
 refine Zm hS ZuT rfl rfl rfl (ZjU hS.imm l (fun x8=>!YZ x8) _ hvl 187 #[] ⟨ZuU,fun G8 w8 v8 x8 hle8 hG8 hon8 hA8=>by obtain ⟨cs_x8,rfl,hr_x8⟩:=hA8; exact ZnH hG8 x8 cs_x8 hr_x8⟩) (fun w1 G1 hS1 hle1=>?_)
 refine WL.split (fun (h1 : (l.any (fun x8=>!YZ x8)) = true)=>?_) (fun (h1 : (l.any (fun x8=>!YZ x8)) = false)=>?_)
 ·exact RT hS1 rfl ⟨_,_,rfl,(Sl.cast (Sl.nil SpanE 16 G1) (by exact absurd ‹_› (by rw [Zih hB]; simp))),(congrArg (Value.int .i64) (by exact absurd ‹_› (by rw [Zih hB]; simp)))⟩
 refine QN ZuV rfl rfl rfl (ZpU hS1.imm l _ (hvl.mono hle1)) (fun w2 G2 r1 hres1 hpost1=>?_)
 have hS2:=hS1.call hres1
 have hle2:=hres1.le
 obtain ⟨o1,hr1,hf1⟩:=hpost1
 have hS3:=hS1.adoptO hres1 hf1
 refine QN ZuW rfl rfl rfl (Zsh hS3.imm l _ _ hr1 (hS3.lentAt 0 rfl) (fun s hs=>ZlQ (hB s hs))) (fun w3 G3 r2 hres2 hpost2=>?_)
 have hle3:=hres2.le
 obtain ⟨rfl,l1,o2,hr2,hf2,hq1⟩:=hpost2
 have hS5:=hS3.callRow 0 rfl hres2 hr1 hr2 hf2
 have bd1:=hr2.bound
 refine Xe hr2 Yd rfl rfl ?_
 have hS7:=hS5.pad
 refine LP.go ft [] (fun m ρ1 w1=>∃ (k1 : Nat),∃ (v1 : Value) (o3 : OB),∃ (G4 : GH),m = l1.length - k1 ∧ G3.le G4 ∧ St w [] G G4 [o3,o2] w1 ∧ ZQ SpanE 16 33 G4 v1 (Yf (l1.take k1)) o3 ∧ FR ρ1 [(5,v1),(15,r1),(16, .int .i64 (l1.length : Int)),(17, .int .i64 (k1 : Int))] ∧ k1 ≤ l1.length) _ ⟨0,(.slice none 0 0),none,G3,rfl,(G3.le_refl),hS7,(ZQ.nil SpanE 16 33 G3),⟨rfl,rfl,rfl,rfl,trivial⟩,(by omega)⟩ ?_
 rintro m ρ1 w4 ⟨k1,v1,o3,G4,rfl,hle4,hS6,hr3,hF9,f1⟩
 refine hF9.set ?_
 clear hF9
 have len1:=Zg9 (l1.take k1)
 have lent:=List.length_take_le k1 l1
 have lenp:=hq1.1.length_eq
 refine Zl (k1 : Int) (l1.length : Int) rfl rfl rfl (fun h2=>?_) (fun h2=>?_)
 ·refine XR (hr2.mono hle4) k1 (by omega) Yd Zs rfl rfl rfl rfl (fun p1 x1 ec1 hx1 hr4 ra1=>?_)
  obtain ⟨rfl,hb1,hb2⟩:=Z6 hr4
  refine Ze5 ra1 hS6 1 rfl Zs rfl rfl rfl rfl ?_
  refine WL.alloc hS6 Zs rfl rfl (fun b1 w5 hn1 hS8=>?_)
  refine WL.store hS8 0 _ _ _ 0 _ [.int .i64 x1.a, .int .i64 x1.b] [.int .i64 x1.a, .int .i64 x1.b] _ rfl rfl Zs rfl (Nat.le_of_ble_eq_true rfl) rfl rfl rfl rfl rfl rfl (fun w6 hS9=>?_)
  obtain ⟨G5,hle5,hc1,hS10⟩:=hS9.shutB hn1
  have bd2:=hr3.bound
  refine Xe (hr3.mono hle5) Yd rfl rfl ?_
  rcases Cmp.dec .gtr (((Yf (l1.take k1)).length : Nat) : Int) 0 with ⟨hb3,q1⟩ | ⟨hb3,q1⟩
  ·have h3 : 0 < (((Yf (l1.take k1)).length : Nat) : Int):=q1
   clear q1
   obtain ⟨p2,x2,ec2,hx2,hr5,ra2,ep1⟩:=ZQ.atP (hr3.mono hle5) ((Yf (l1.take k1)).length - 1) (by omega)
   obtain ⟨rfl,hb4,hb5⟩:=Z6 hr5
   rcases Cmp.dec .leq x1.a x2.b with ⟨hb6,q2⟩ | ⟨hb6,q2⟩
   ·have h4 : x1.a ≤ x2.b:=q2
    clear q2
    refine dr [] [(24, .bool true),(27, .int .i64 x1.a),(30, .int .i64 (((Yf (l1.take k1)).length - 1 : Nat) : Int)),(31, .pointer (some p2)),(33, .int .i64 x2.b),(34, .bool true)] hS10 ⟨fun _=>WL.cmpV .gtr rfl .i64 (((Yf (l1.take k1)).length : Nat) : Int) 0 _ hb3 rfl rfl rfl <| nu rfl rfl,fun _ hSw=>Za hSw (XV.drop 0 hc1) Zn rfl rfl rfl <| nu rfl rfl,fun _=>Xs ((Yf (l1.take k1)).length) (by omega) (by have hreach : reach = 140737488355328:=rfl; omega) rfl rfl rfl <| nu rfl rfl,fun _=>Ze ((Yf (l1.take k1)).length - 1) ep1 Yd Zs rfl rfl rfl rfl <| nu rfl rfl,fun _ hSw=>Zao ra2 hSw 0 rfl 1 _ rfl Zn rfl rfl rfl <| nu rfl rfl,fun _=>WL.cmpV .leq rfl .i64 x1.a x2.b _ hb6 rfl rfl rfl <| nu rfl rfl,trivial⟩ (fun w7 hS11=>?_)
    obtain ⟨p3,x3,ec3,hx3,hr6,ra3,ep2⟩:=ZQ.atP (hr3.mono hle5) ((Yf (l1.take k1)).length - 1) (by omega)
    obtain rfl : x2 = x3:=Option.some.inj (hx2.symm.trans hx3)
    obtain ⟨rfl,hb7,hb8⟩:=Z6 hr6
    obtain ⟨p4,x4,ec4,hx4,hr7,ra4,ep3⟩:=ZQ.atP (hr3.mono hle5) ((Yf (l1.take k1)).length - 1) (by omega)
    obtain rfl : x2 = x4:=Option.some.inj (hx2.symm.trans hx4)
    obtain ⟨rfl,hb9,hb10⟩:=Z6 hr7
    refine dr [(14,false)] [(38, .int .i64 (((Yf (l1.take k1)).length - 1 : Nat) : Int)),(41, .int .i64 (((Yf (l1.take k1)).length - 1 : Nat) : Int)),(42, .pointer (some p3)),(44, .int .i64 x2.b),(46, .int .i64 x1.b),(47, .int .i64 (max x2.b x1.b)),(48, .pointer (some p4))] hS11 ⟨fun _=>Xs ((Yf (l1.take k1)).length) (by omega) (by have hreach : reach = 140737488355328:=rfl; omega) rfl rfl rfl <| nu rfl rfl,fun _=>Xs ((Yf (l1.take k1)).length) (by omega) (by have hreach : reach = 140737488355328:=rfl; omega) rfl rfl rfl <| nu rfl rfl,fun _=>Ze ((Yf (l1.take k1)).length - 1) ep2 Yd Zs rfl rfl rfl rfl <| nu rfl rfl,fun _ hSw=>Zao ra3 hSw 0 rfl 1 _ rfl Zn rfl rfl rfl <| nu rfl rfl,fun _ hSw=>Za hSw (XV.drop 1 hc1) Zn rfl rfl rfl <| nu rfl rfl,fun _=>Zfp x2.b x1.b rfl rfl rfl <| nu rfl rfl,fun _=>Ze ((Yf (l1.take k1)).length - 1) ep3 Yd Zs rfl rfl rfl rfl <| nu rfl rfl,trivial⟩ (fun w9 hS12=>?_)
    refine ZbP (hr3.mono hle5) ra4 hS12 0 rfl (by omega) rfl 1 _ [.int .i64 (max x2.b x1.b)] (Span.mk x2.a (max x2.b x1.b)) [.int .i64 x2.a, .int .i64 (max x2.b x1.b)] rfl Zn rfl (Nat.le_of_ble_eq_true rfl) rfl rfl (Zt (Span.mk x2.a (max x2.b x1.b)) hb9 (Zac hb8 hb2)) rfl rfl rfl (fun o4 w10 hr8 hS13=>?_)
    refine Zj k1 (by have hreach : reach = 140737488355328:=rfl; omega) rfl rfl rfl ?_
    exact BK.mk' _ ⟨k1 + 1,v1,o4,G5,rfl,(hle4.trans hle5),hS13,(ZQ.cast hr8 (by (rw [Zdg ‹_›]; exact (ZlO ‹_› (by omega)).symm))),⟨rfl,rfl,rfl,rfl,trivial⟩,(by omega)⟩ (show l1.length - (k1 + 1) < l1.length - k1 by omega)
   have h4 : x2.b < x1.a:=q2
   clear q2
   refine dr [] [(24, .bool true),(27, .int .i64 x1.a),(30, .int .i64 (((Yf (l1.take k1)).length - 1 : Nat) : Int)),(31, .pointer (some p2)),(33, .int .i64 x2.b),(34, .bool false)] hS10 ⟨fun _=>WL.cmpV .gtr rfl .i64 (((Yf (l1.take k1)).length : Nat) : Int) 0 _ hb3 rfl rfl rfl <| nu rfl rfl,fun _ hSw=>Za hSw (XV.drop 0 hc1) Zn rfl rfl rfl <| nu rfl rfl,fun _=>Xs ((Yf (l1.take k1)).length) (by omega) (by have hreach : reach = 140737488355328:=rfl; omega) rfl rfl rfl <| nu rfl rfl,fun _=>Ze ((Yf (l1.take k1)).length - 1) ep1 Yd Zs rfl rfl rfl rfl <| nu rfl rfl,fun _ hSw=>Zao ra2 hSw 0 rfl 1 _ rfl Zn rfl rfl rfl <| nu rfl rfl,fun _=>WL.cmpV .leq rfl .i64 x1.a x2.b _ hb6 rfl rfl rfl <| nu rfl rfl,trivial⟩ (fun w11 hS14=>?_)
   refine Zc hS14 hc1 [.int .i64 x1.a, .int .i64 x1.b] Zs rfl rfl rfl rfl rfl ?_
   refine WL.buildSlice _ [(0,[.int .i64 x1.a, .int .i64 x1.b])] [.int .i64 x1.a, .int .i64 x1.b] hS14 Ym rfl rfl rfl rfl (fun z hz=>by match z,hz with | [z0,z1],_=>rfl) (fun b2 w12 hn2 hS15=>?_)
   refine WL.push (m:=([x1] : List Span)) Ym rfl rfl rfl (hr3.mono hle5) hS15 1 rfl 0 _ _ _ _ _ rfl ⟨[.int .i64 x1.a, .int .i64 x1.b],_,rfl,(Zt x1 hb1 hb2),rfl⟩ rfl (by have hreach : reach = 140737488355328:=rfl; simp only [List.length_cons,List.length_nil]; omega) (by have hreach : reach = 140737488355328:=rfl; simp only [List.length_cons,List.length_nil]; omega) rfl rfl rfl (fun v2 o5 w13 hr9 hS16=>?_)
   have hS17:=hS16.tail
   refine Zj k1 (by have hreach : reach = 140737488355328:=rfl; omega) rfl rfl rfl ?_
   exact BK.mk' _ ⟨k1 + 1,v2,o5,G5,rfl,(hle4.trans hle5),hS17,(ZQ.cast hr9 (by (rw [Zdg ‹_›]; exact (ZkJ ‹_› (by omega)).symm))),⟨rfl,rfl,rfl,rfl,trivial⟩,(by omega)⟩ (show l1.length - (k1 + 1) < l1.length - k1 by omega)
  have h3 : (((Yf (l1.take k1)).length : Nat) : Int) ≤ 0:=q1
  clear q1
  refine dr [] [(24, .bool false)] hS10 ⟨fun _=>WL.cmpV .gtr rfl .i64 (((Yf (l1.take k1)).length : Nat) : Int) 0 _ hb3 rfl rfl rfl <| nu rfl rfl,trivial⟩ (fun w14 hS18=>?_)
  refine Zc hS18 hc1 [.int .i64 x1.a, .int .i64 x1.b] Zs rfl rfl rfl rfl rfl ?_
  refine WL.buildSlice _ [(0,[.int .i64 x1.a, .int .i64 x1.b])] [.int .i64 x1.a, .int .i64 x1.b] hS18 Ym rfl rfl rfl rfl (fun z hz=>by match z,hz with | [z0,z1],_=>rfl) (fun b3 w15 hn3 hS19=>?_)
  refine WL.push (m:=([x1] : List Span)) Ym rfl rfl rfl (hr3.mono hle5) hS19 1 rfl 0 _ _ _ _ _ rfl ⟨[.int .i64 x1.a, .int .i64 x1.b],_,rfl,(Zt x1 hb1 hb2),rfl⟩ rfl (by have hreach : reach = 140737488355328:=rfl; simp only [List.length_cons,List.length_nil]; omega) (by have hreach : reach = 140737488355328:=rfl; simp only [List.length_cons,List.length_nil]; omega) rfl rfl rfl (fun v3 o6 w16 hr10 hS20=>?_)
  have hS21:=hS20.tail
  refine Zj k1 (by have hreach : reach = 140737488355328:=rfl; omega) rfl rfl rfl ?_
  exact BK.mk' _ ⟨k1 + 1,v3,o6,G5,rfl,(hle4.trans hle5),hS21,(ZQ.cast hr10 (by (rw [Zdg ‹_›]; exact (ZlN (by omega)).symm))),⟨rfl,rfl,rfl,rfl,trivial⟩,(by omega)⟩ (show l1.length - (k1 + 1) < l1.length - k1 by omega)
 obtain ⟨G6,hle6,hs1,hS22⟩:=ZQ.freeze hr3 hS6 0 rfl
 refine Z3 hS22 Zrk rfl rfl rfl (ZgU hS22.imm (Yf (l1.take k1)) _ hs1 (by rw [ZgA ‹_› hB (by omega)]; exact Nat.le_trans ZcO hl)) ?_
 rintro w17 G7 _ ⟨r4,_,rfl,hs2,rfl⟩ hS23 hle7
 exact RT hS23 rfl ⟨_,_,rfl,(Sl.cast hs2 (by exact ZgA ‹_› hB (by omega))),(congrArg (Value.int .i64) (by rfl))⟩
theorem Zeb {G : GH} {w : World} (hG : G.In w) (a b : List Span) (va : Value) (hva : Sl SpanE 16 G va a) (vb : Value) (hvb : Sl SpanE 16 G vb b) : CL Tryz.prog (nat_lit 75) #[va,vb] [] w G fun _ _ r=>r = .bool (decide (a = b)):=by
 refine Zg ft [] Tryz.func75 rfl rfl ?_
 have hS:=St.start (X:=[]) hG
 have bd1:=hva.bound
 refine Zi hva Yd rfl rfl ?_
 have bd2:=hvb.bound
 refine Zi hvb Yd rfl rfl ?_
 refine YO (a.length : Int) (b.length : Int) rfl rfl rfl (fun h1=>?_) (fun h1=>?_)
 ·exact RB hS rfl (by rw [← Xp]; exact (XF (by omega)).symm)
 have bd3:=hva.bound
 refine Zi hva Yd rfl rfl ?_
 refine LP.go ft [] (fun m ρ1 w1=>∃ (k1 : Nat),∃ (G1 : GH),m = a.length - k1 ∧ G.le G1 ∧ St w [] G G1 [] w1 ∧ FR ρ1 [(0,va),(1,vb),(12, .int .i64 (a.length : Int)),(13, .int .i64 (k1 : Int))] ∧ k1 ≤ a.length ∧ ∀ j,j < k1 → ∀ x y,a[j]? = some x → b[j]? = some y → decide (x = y) = true) _ ⟨0,G,rfl,(G.le_refl),hS,⟨rfl,rfl,rfl,rfl,trivial⟩,(by omega),(by intro j hj; omega)⟩ ?_
 rintro m ρ1 w1 ⟨k1,G1,rfl,hle1,hS1,hF9,f1,f2⟩
 refine hF9.set ?_
 clear hF9
 refine Zl (k1 : Int) (a.length : Int) rfl rfl rfl (fun h2=>?_) (fun h2=>?_)
 ·obtain ⟨p1,x1,hx1,he1,ep1⟩:=Sl.at (hva.mono hle1) k1 (by omega)
  obtain ⟨cs1,hc1,hr1⟩:=he1
  obtain ⟨rfl,hb1,hb2⟩:=Z6 hr1
  obtain ⟨p2,x2,hx2,he2,ep2⟩:=Sl.at (hvb.mono hle1) k1 (by omega)
  obtain ⟨cs2,hc2,hr2⟩:=he2
  obtain ⟨rfl,hb3,hb4⟩:=Z6 hr2
  rcases Classical.em (x1 = x2) with h3 | h3
  ·refine dr [] [(18, .pointer (some p1)),(19, .agg #[.int .i64 x1.a, .int .i64 x1.b]),(22, .pointer (some p2)),(23, .agg #[.int .i64 x2.a, .int .i64 x2.b]),(24, .bool false)] hS1 ⟨fun _=>Ze k1 ep1 Yd Zs rfl rfl rfl rfl <| nu rfl rfl,fun _ hSw=>Zc hSw hc1 [.int .i64 x1.a, .int .i64 x1.b] Zs rfl rfl rfl rfl rfl <| nu rfl rfl,fun _=>Ze k1 ep2 Yd Zs rfl rfl rfl rfl <| nu rfl rfl,fun _ hSw=>Zc hSw hc2 [.int .i64 x2.a, .int .i64 x2.b] Zs rfl rfl rfl rfl rfl <| nu rfl rfl,fun _=>Qy false (ZdO x1 x2) ZiR (by simp [h3]) rfl rfl rfl <| nu rfl rfl,trivial⟩ (fun w2 hS2=>?_)
   refine Zj k1 (by have hreach : reach = 140737488355328:=rfl; omega) rfl rfl rfl ?_
   exact BK.mk' _ ⟨k1 + 1,G1,rfl,hle1,hS2,⟨rfl,rfl,rfl,rfl,trivial⟩,(by omega),(by exact Qg ‹_› ‹_› ‹_› (decide_eq_true (by simp_all)))⟩ (show a.length - (k1 + 1) < a.length - k1 by omega)
  refine dr [] [(18, .pointer (some p1)),(19, .agg #[.int .i64 x1.a, .int .i64 x1.b]),(22, .pointer (some p2)),(23, .agg #[.int .i64 x2.a, .int .i64 x2.b]),(24, .bool true)] hS1 ⟨fun _=>Ze k1 ep1 Yd Zs rfl rfl rfl rfl <| nu rfl rfl,fun _ hSw=>Zc hSw hc1 [.int .i64 x1.a, .int .i64 x1.b] Zs rfl rfl rfl rfl rfl <| nu rfl rfl,fun _=>Ze k1 ep2 Yd Zs rfl rfl rfl rfl <| nu rfl rfl,fun _ hSw=>Zc hSw hc2 [.int .i64 x2.a, .int .i64 x2.b] Zs rfl rfl rfl rfl rfl <| nu rfl rfl,fun _=>Qy true (ZdO x1 x2) ZiR (by simp [h3]) rfl rfl rfl <| nu rfl rfl,trivial⟩ (fun w3 hS3=>?_)
  exact RB hS3 rfl (by rw [← Xp]; exact (Qh (f:=fun (x y : Span)=>decide (x = y)) ‹_› ‹_› (decide_eq_false (by simp_all))).symm)
 exact RB hS1 rfl (by rw [← Xp]; exact (XS (by omega) ‹_› (by omega)).symm)
theorem Zgf {G : GH} {w : World} (hG : G.In w) (l : List HRow) (tx : Int) (vl : Value) (hvl : Sl HRowE 56 G vl l) (hgood : Z2 l) (hl : l.length ≤ 2000) : CL Tryz.prog (nat_lit 87) #[vl, .int .i64 tx] [] w G fun G' _ r=>Sl SpanE 16 G' r (ZB l tx):=by
 refine Zg ft [] Tryz.func87 rfl rfl ?_
 have hS:=St.start (X:=[]) hG
 have bd1:=hvl.bound
 refine Zi hvl Yc rfl rfl ?_
 have hS2:=hS.pad
 refine LP.go ft [] (fun m ρ1 w1=>∃ (k1 : Nat),∃ (v1 : Value) (o1 : OB),∃ (G1 : GH),m = l.length - k1 ∧ G.le G1 ∧ St w [] G G1 [o1] w1 ∧ ZQ SpanE 16 33 G1 v1 (Yn (l.take k1) tx) o1 ∧ FR ρ1 [(1, .int .i64 tx),(5,v1),(10,vl),(11, .int .i64 (l.length : Int)),(12, .int .i64 (k1 : Int))] ∧ k1 ≤ l.length) _ ⟨0,(.slice none 0 0),none,G,rfl,(G.le_refl),hS2,(ZQ.nil SpanE 16 33 G),⟨rfl,rfl,rfl,rfl,rfl,trivial⟩,(by omega)⟩ ?_
 rintro m ρ1 w1 ⟨k1,v1,o1,G1,rfl,hle1,hS1,hr1,hF9,f1⟩
 refine hF9.set ?_
 clear hF9
 have hsl:=Zh4 l tx k1
 refine Zl (k1 : Int) (l.length : Int) rfl rfl rfl (fun h1=>?_) (fun h1=>?_)
 ·refine WL.indexAddr (hvl.mono hle1) k1 (by omega) Yc Zr rfl rfl rfl rfl (fun p1 x1 hx1 he1=>?_)
  obtain ⟨cs1,hc1,hr2⟩:=he1
  obtain ⟨v2,rfl,hs1,hb1,hb2,hb3,hb4⟩:=Z0 hr2
  refine Zc hS1 hc1 [v2, .int .i64 x1.r.d.a, .int .i64 x1.r.d.b, .int .i64 x1.r.x.a, .int .i64 x1.r.x.b] Zr rfl rfl rfl rfl rfl ?_
  refine WL.alloc hS1 Zr rfl rfl (fun b1 w2 hn1 hS3=>?_)
  refine WL.store hS3 0 _ _ _ 0 _ [v2, .int .i64 x1.r.d.a, .int .i64 x1.r.d.b, .int .i64 x1.r.x.a, .int .i64 x1.r.x.b] [v2, .int .i64 x1.r.d.a, .int .i64 x1.r.d.b, .int .i64 x1.r.x.a, .int .i64 x1.r.x.b] _ rfl rfl Zr rfl (Nat.le_of_ble_eq_true rfl) (by simp only [List.all_cons,List.all_nil,hs1.oneC,Bool.true_and] <;> rfl) rfl rfl rfl rfl rfl (fun w3 hS4=>?_)
  obtain ⟨G2,hle2,hc2,hS5⟩:=hS4.shutB hn1
  refine Za hS5 (XV.drop 0 (XV.drop 2 (XV.drop 1 hc2))) Zn rfl rfl rfl ?_
  refine Qe x1.r.x.a tx rfl rfl rfl (fun h2=>?_) (fun h2=>?_)
  ·refine Za hS5 (XV.drop 1 (XV.drop 2 (XV.drop 1 hc2))) Zn rfl rfl rfl ?_
   refine Zl tx x1.r.x.b rfl rfl rfl (fun h3=>?_) (fun h3=>?_)
   ·refine Zc hS5 (XV.drop 0 (XV.drop 1 hc2)) [.int .i64 x1.r.d.a, .int .i64 x1.r.d.b] Zs rfl rfl rfl rfl rfl ?_
    refine WL.buildSlice _ [(0,[.int .i64 x1.r.d.a, .int .i64 x1.r.d.b])] [.int .i64 x1.r.d.a, .int .i64 x1.r.d.b] hS5 Ym rfl rfl rfl rfl (fun z hz=>by match z,hz with | [z0,z1],_=>rfl) (fun b2 w4 hn2 hS6=>?_)
    refine WL.push (m:=([x1.r.d] : List Span)) Ym rfl rfl rfl (hr1.mono hle2) hS6 1 rfl 0 _ _ _ _ _ rfl ⟨[.int .i64 x1.r.d.a, .int .i64 x1.r.d.b],_,rfl,(Zt x1.r.d hb1 hb2),rfl⟩ rfl (by have hreach : reach = 140737488355328:=rfl; simp only [List.length_cons,List.length_nil]; omega) (by have hreach : reach = 140737488355328:=rfl; simp only [List.length_cons,List.length_nil]; omega) rfl rfl rfl (fun v3 o2 w5 hr3 hS7=>?_)
    have hS8:=hS7.tail
    refine Zj k1 (by have hreach : reach = 140737488355328:=rfl; omega) rfl rfl rfl ?_
    exact BK.mk' _ ⟨k1 + 1,v3,o2,G2,rfl,(hle1.trans hle2),hS8,(ZQ.cast hr3 (by (rw [Zdm ‹_›]; unfold Y7; simp_all <;> omega))),⟨rfl,rfl,rfl,rfl,rfl,trivial⟩,(by omega)⟩ (show l.length - (k1 + 1) < l.length - k1 by omega)
   refine Zj k1 (by have hreach : reach = 140737488355328:=rfl; omega) rfl rfl rfl ?_
   exact BK.mk' _ ⟨k1 + 1,v1,o1,G2,rfl,(hle1.trans hle2),hS5,(ZQ.cast (hr1.mono hle2) (by (rw [Zdm ‹_›]; unfold Y7; simp_all <;> omega))),⟨rfl,rfl,rfl,rfl,rfl,trivial⟩,(by omega)⟩ (show l.length - (k1 + 1) < l.length - k1 by omega)
  refine Zj k1 (by have hreach : reach = 140737488355328:=rfl; omega) rfl rfl rfl ?_
  exact BK.mk' _ ⟨k1 + 1,v1,o1,G2,rfl,(hle1.trans hle2),hS5,(ZQ.cast (hr1.mono hle2) (by (rw [Zdm ‹_›]; unfold Y7; simp_all <;> omega))),⟨rfl,rfl,rfl,rfl,rfl,trivial⟩,(by omega)⟩ (show l.length - (k1 + 1) < l.length - k1 by omega)
 obtain ⟨G3,hle3,hs2,hS9⟩:=ZQ.freeze hr1 hS1 0 rfl
 refine Z3 hS9 Zra rfl rfl rfl (ZjZ hS9.imm (Yn (l.take k1) tx) _ hs2 (by rw [List.take_of_length_le (by omega)]; exact ZaP hgood.d tx) (by rw [List.take_of_length_le (by omega)]; exact Nat.le_trans (ZdT l tx) hl)) ?_
 rintro w6 G4 _ ⟨r2,_,rfl,hs3,rfl⟩ hS10 hle4
 exact RT hS10 rfl (Sl.cast hs3 (by rw [List.take_of_length_le (by omega)]; rfl))
end Go.Civ
set_option linter.unusedVariables false
set_option linter.unusedSimpArgs false
set_option maxRecDepth 100000
set_option maxHeartbeats 4000000
namespace Go.Civ
open Go.Proofs
theorem Q0 {G : GH} {w : World} (hG : G.In w) (l : List Val) (vl : Value) (hvl : Sl ValE 32 G vl l) : CL Tryz.prog (nat_lit 73) #[vl] [] w G fun G' _ r=>Sl ValE 32 G' r l:=by
 refine Zg ft [] Tryz.func73 rfl rfl ?_
 have hS:=St.start (X:=[]) hG
 refine ZfT hvl Yl rfl rfl rfl (fun h1=>?_) ?_
 ·exact RT hS rfl (Sl.cast (Sl.nil ValE 32 G) (by exact Eq.symm ‹_›))
 refine WL.buildSlice _ [] [] hS Zj2 rfl rfl rfl rfl (fun z hz=>by match z,hz with | [],_=>rfl) (fun b1 w1 hn1 hS1=>?_)
 have hr1:=ZQ.empty ValE 32 58 G b1
 refine ZV Zj2 rfl rfl rfl hr1 hS1 0 rfl hvl (by have hreach : reach = 140737488355328:=rfl; have:=hvl.bytes; have:=hvl.bound; simp only [List.length_nil,Nat.zero_add]; omega) (by have hreach : reach = 140737488355328:=rfl; have:=hvl.bytes; have:=hvl.bound; simp only [List.length_nil,Nat.zero_add]; omega) rfl rfl rfl (fun v1 o1 w2 hr2 hS2=>?_)
 obtain ⟨G1,hle1,hs1,hS3⟩:=ZQ.freeze hr2 hS2 0 rfl
 exact RT hS3 rfl (Sl.cast hs1 (by rfl))
theorem Zsi {w0 : World} {G0 G : GH} {w : World} {R : Own} (v : List Val) (fr c : Int) (l : List HRow) (nw : List Span) (bn bo bf : Nat) (nv vo : Value) (ro : OB) (hnv : Sl SpanE 16 G nv nw) (hvo : ZQ HRowE 56 (nat_lit 37) G vo l ro) (hS : St w0 [] G0 G (some (bn,(nat_lit 71),[nv]) :: some (bo,(nat_lit 26),[vo]) :: some (bf,(nat_lit 3),[.int .i64 fr]) :: ro :: R) w) (gv : Value) (hgv : Sl ValE 32 G gv v) (gt : Value) (pg : Addr) (hpg : XV G pg [gv,gt]) (hc64 : Zz c) (hf64 : Zz fr) (hb : l.length + nw.length ≤ 1000000000) : Calls Tryz.prog (nat_lit 178) #[.int .i64 c, .pointer (some ⟨bn,0,none⟩), .pointer (some ⟨bo,0,none⟩), .pointer (some pg), .pointer (some ⟨bf,0,none⟩)] w fun e9 w9=>∃ (G9 : GH) (v9 : Value) (o9 : OB),e9 = .returned (.tuple #[]) ∧ G.le G9 ∧ St w0 [] G0 G9 (some (bn,(nat_lit 71),[nv]) :: some (bo,(nat_lit 26),[v9]) :: some (bf,(nat_lit 3),[.int .i64 fr]) :: o9 :: R) w9 ∧ ZQ HRowE 56 (nat_lit 37) G9 v9 (l ++ Xx v nw fr c) o9:=by
 refine Zg ft [] Tryz.func178 rfl rfl ?_
 refine Ya hS 0 _ _ _ 0 _ rfl rfl ZlU rfl rfl rfl ?_
 have bd1:=hnv.bound
 refine Zi hnv Yd rfl rfl ?_
 refine LP.go ft [] (fun m ρ1 w1=>∃ (k1 : Nat),∃ (v1 : Value) (o1 : OB),∃ (G1 : GH),m = nw.length - k1 ∧ G.le G1 ∧ St w0 [] G0 G1 (some (bn,(nat_lit 71),[nv]) :: some (bo,(nat_lit 26),[v1]) :: some (bf,(nat_lit 3),[.int .i64 fr]) :: o1 :: R) w1 ∧ ZQ HRowE 56 37 G1 v1 (l ++ Xx v (nw.take k1) fr c) o1 ∧ FR ρ1 [(0, .int .i64 c),(2, .pointer (some ⟨bo,0,none⟩)),(3, .pointer (some pg)),(4, .pointer (some ⟨bf,0,none⟩)),(8,nv),(9, .int .i64 (nw.length : Int)),(10, .int .i64 (k1 : Int))] ∧ k1 ≤ nw.length) _ ⟨0,vo,ro,G,rfl,(G.le_refl),hS,(ZQ.cast hvo (by simp [Xx])),⟨rfl,rfl,rfl,rfl,rfl,rfl,rfl,trivial⟩,(by omega)⟩ ?_
 rintro m ρ1 w1 ⟨k1,v1,o1,G1,rfl,hle1,hS1,hr1,hF9,f1⟩
 refine hF9.set ?_
 clear hF9
 have hol:=ZcD v (nw.take k1) fr c
 have hot:=List.length_take_le' k1 nw
 refine Zl (k1 : Int) (nw.length : Int) rfl rfl rfl (fun h1=>?_) (fun h1=>?_)
 ·refine WL.indexAddr (hnv.mono hle1) k1 (by omega) Yd Zs rfl rfl rfl rfl (fun p1 x1 hx1 he1=>?_)
  obtain ⟨cs1,hc1,hr2⟩:=he1
  obtain ⟨rfl,hb1,hb2⟩:=Z6 hr2
  refine Zc hS1 hc1 [.int .i64 x1.a, .int .i64 x1.b] Zs rfl rfl rfl rfl rfl ?_
  refine WL.alloc hS1 Zs rfl rfl (fun b1 w2 hn1 hS2=>?_)
  refine WL.store hS2 0 _ _ _ 0 _ [.int .i64 x1.a, .int .i64 x1.b] [.int .i64 x1.a, .int .i64 x1.b] _ rfl rfl Zs rfl (Nat.le_of_ble_eq_true rfl) rfl rfl rfl rfl rfl rfl (fun w3 hS3=>?_)
  obtain ⟨G2,hle2,hc2,hS4⟩:=hS3.shutB hn1
  refine dr [(3,true),(9,true),(10,true),(11,false),(12,false)] [(14,v1),(16,gv),(18, .agg #[.int .i64 x1.a, .int .i64 x1.b]),(19, .int .i64 fr),(21, .agg #[.int .i64 fr, .int .i64 c]),(22, .agg #[.int .i64 x1.a, .int .i64 x1.b, .int .i64 fr, .int .i64 c])] hS4 ⟨fun _ hSw=>Ya hSw 1 _ _ _ 0 _ rfl rfl YD rfl rfl rfl <| nu rfl rfl,fun _ hSw=>Za hSw (XV.drop 0 (hpg.mono (hle1.trans hle2))) Z9 rfl rfl rfl <| nu rfl rfl,fun _ hSw=>Zc hSw hc2 [.int .i64 x1.a, .int .i64 x1.b] Zs rfl rfl rfl rfl rfl <| nu rfl rfl,fun _ hSw=>Ya hSw 2 _ _ _ 0 _ rfl rfl Zn rfl rfl rfl <| nu rfl rfl,fun _=>WL.build _ [(0,[.int .i64 fr]),(1,[.int .i64 c])] [.int .i64 fr, .int .i64 c] Zs rfl Xq rfl rfl rfl rfl <| nu rfl rfl,fun _=>WL.build _ [(0,[.int .i64 x1.a, .int .i64 x1.b]),(1,[.int .i64 fr, .int .i64 c])] [.int .i64 x1.a, .int .i64 x1.b, .int .i64 fr, .int .i64 c] ZaH rfl ZbZ rfl rfl rfl rfl <| nu rfl rfl,trivial⟩ (fun w4 hS5=>?_)
  refine Z3 hS5 ZdL rfl rfl rfl (Q0 hS5.imm v _ (hgv.mono (hle1.trans hle2))) (fun w5 G3 r1 hpost1 hS6 hle3=>?_)
  refine ⟨hS6.down hS5.le hle3,?_⟩
  refine WL.build _ [(0,[r1]),(1,[.int .i64 x1.a, .int .i64 x1.b, .int .i64 fr, .int .i64 c])] [r1, .int .i64 x1.a, .int .i64 x1.b, .int .i64 fr, .int .i64 c] Zr rfl QR rfl rfl (by show [(0,(r1 : Value).cells.toList),(1,(.agg #[.int .i64 x1.a, .int .i64 x1.b, .int .i64 fr, .int .i64 c] : Value).cells.toList)] = _; simp only [hpost1.cells1] <;> rfl) rfl ?_
  refine ⟨hS6.down hS5.le hle3,?_⟩
  refine WL.buildSlice _ [(0,[r1, .int .i64 x1.a, .int .i64 x1.b, .int .i64 fr, .int .i64 c])] [r1, .int .i64 x1.a, .int .i64 x1.b, .int .i64 fr, .int .i64 c] hS6 YK rfl rfl rfl rfl (fun z hz=>by match z,hz with | [z0,z1,z2,z3,z4],_=>rfl) (fun b2 w6 hn2 hS7=>?_)
  refine ⟨hS7.tail.down hS5.le hle3,?_⟩
  refine WL.push (m:=([(HRow.mk v (Rect.mk x1 (Span.mk fr c)))] : List HRow)) YK rfl rfl rfl (hr1.mono (hle2.trans hle3)) hS7 4 rfl 0 _ _ _ _ _ rfl ⟨[r1, .int .i64 x1.a, .int .i64 x1.b, .int .i64 fr, .int .i64 c],_,rfl,(ZH (HRow.mk v (Rect.mk x1 (Span.mk fr c))) hpost1 hb1 hb2 hf64 hc64),rfl⟩ rfl (by have hreach : reach = 140737488355328:=rfl; simp only [List.length_append,List.length_cons,List.length_nil]; omega) (by have hreach : reach = 140737488355328:=rfl; simp only [List.length_append,List.length_cons,List.length_nil]; omega) rfl rfl rfl (fun v2 o2 w7 hr3 hS8=>?_)
  have hS9:=hS8.tail
  refine WL.store hS9 1 _ _ _ 0 _ [v2] [v2] _ rfl hr3.cells1 YD rfl (Nat.le_of_ble_eq_true rfl) (by simp only [List.all_cons,List.all_nil,hr3.oneC,Bool.true_and] <;> rfl) rfl rfl rfl rfl rfl (fun w9 hS10=>?_)
  refine Zj k1 (by have hreach : reach = 140737488355328:=rfl; omega) rfl rfl rfl ?_
  exact BK.mk' _ ⟨k1 + 1,v2,o2,G3,rfl,(hle1.trans (hle2.trans hle3)),hS10,(ZQ.cast hr3 (by (rw [ZeN ‹_›,List.append_assoc]))),⟨rfl,rfl,rfl,rfl,rfl,rfl,rfl,trivial⟩,(by omega)⟩ (show nw.length - (k1 + 1) < nw.length - k1 by omega)
 exact ⟨_,rfl,G1,v1,o1,rfl,hle1,hS1,(ZQ.cast hr1 (by rw [Zgc (by omega)]))⟩
end Go.Civ
namespace Go.Civ
open Go.RowKit
set_option linter.unusedVariables false
section
variable {d : Nat} {t : Table} {tx : Int} {c : Cond} {p : Span} {set : List Val} {mask : List Bool}
theorem ZkT (h : QT t p = true) : Zo t = true ∧ ZF p = true:=by unfold QT at h; simpa using h
end
section
variable {cols : List Col} {set : List Val} {mask : List Bool} {j : Nat}
end
section
variable {t : Table} {a b : Int}
end
end Go.Civ
set_option linter.unusedVariables false
set_option linter.unusedSimpArgs false
set_option maxRecDepth 100000
set_option maxHeartbeats 4000000
namespace Go.Civ
open Go.Proofs
theorem Zqq {G : GH} {w : World} (hG : G.In w) (l : List Val) (vl : Value) (hvl : Sl ValE 32 G vl l) : CL Tryz.prog (nat_lit 184) #[vl] [] w G fun G' _ r=>∃ r0 r1,r = .tuple #[r0,r1] ∧ Sl Enc.u8 1 G' r0 (XW l) ∧ r1 = .int .i64 (Zgb l):=by
 refine Zg ft [] Tryz.func184 rfl rfl ?_
 have hS:=St.start (X:=[]) hG
 have bd1:=hvl.bound
 refine Zi hvl Yl rfl rfl ?_
 refine YP (l.length : Int) 1000 rfl rfl rfl (fun h1=>?_) (fun h1=>?_)
 ·exact RT hS rfl ⟨_,_,rfl,(Sl.cast (Sl.nil Enc.u8 1 G) (by exact (ZpJ (by omega)).symm)),(congrArg (Value.int .i64) (by exact (Zt5 (by omega)).symm))⟩
 refine Zm hS Zmj rfl rfl rfl (Zmo hS.imm l _ hvl) (fun w1 G1 hS1 hle1=>?_)
 refine WL.split (fun (h2 : (l.all ZE) = true)=>?_) (fun (h2 : (l.all ZE) = false)=>?_)
 ·have hbl:=(by assumption : Sl ValE 32 G _ l).bound
  have bd2:=hvl.bound
  refine Zi (hvl.mono hle1) Yl rfl rfl ?_
  refine Zfs 9 l.length (by have hreach : reach = 140737488355328:=rfl; omega) rfl rfl rfl ?_
  refine Zmt (E:=Enc.u8) (by_:=1) ZbL rfl rfl (9 * l.length) (by have hreach : reach = 140737488355328:=rfl; omega) (by have hreach : reach = 140737488355328:=rfl; omega) hS1 rfl rfl rfl (fun v1 o1 w2 hr1 hS2=>?_)
  have bd3:=hvl.bound
  refine Zi (hvl.mono hle1) Yl rfl rfl ?_
  refine LP.go ft [] (fun m ρ1 w1=>∃ (k1 : Nat),∃ (v2 : Value) (o2 : OB),∃ (G2 : GH),m = l.length - k1 ∧ G1.le G2 ∧ St w [] G G2 [o2] w1 ∧ ZQ Enc.u8 1 5 G2 v2 (Zae (l.take k1)) o2 ∧ FR ρ1 [(4,v2),(19,vl),(20, .int .i64 (l.length : Int)),(21, .int .i64 (k1 : Int))] ∧ k1 ≤ l.length) _ ⟨0,v1,o1,G1,rfl,(G1.le_refl),hS2,(ZQ.cast hr1 (by rfl)),⟨rfl,rfl,rfl,rfl,trivial⟩,(by omega)⟩ ?_
  rintro m ρ1 w3 ⟨k1,v2,o2,G2,rfl,hle2,hS3,hr2,hF9,f1⟩
  refine hF9.set ?_
  clear hF9
  refine Zl (k1 : Int) (l.length : Int) rfl rfl rfl (fun h3=>?_) (fun h3=>?_)
  ·refine WL.indexAddr (hvl.mono (hle1.trans hle2)) k1 (by omega) Yl ZW rfl rfl rfl rfl (fun p1 x1 hx1 he1=>?_)
   obtain ⟨cs1,hc1,hr3⟩:=he1
   obtain ⟨rfl,hb1,hb2,hb3⟩:=Yr hr3
   refine Zc hS3 hc1 [.int .i64 x1.k, .int .i64 x1.n,Zd x1.s] ZW rfl rfl rfl rfl rfl ?_
   refine WL.alloc hS3 ZW rfl rfl (fun b1 w4 hn1 hS4=>?_)
   refine WL.store hS4 0 _ _ _ 0 _ [.int .i64 x1.k, .int .i64 x1.n,Zd x1.s] [.int .i64 x1.k, .int .i64 x1.n,Zd x1.s] _ rfl rfl ZW rfl (Nat.le_of_ble_eq_true rfl) rfl rfl rfl rfl rfl rfl (fun w5 hS5=>?_)
   obtain ⟨G3,hle3,hc2,hS6⟩:=hS5.shutB hn1
   have hvx:=Zt2 (by assumption : l.all ZE = true) (by assumption : l[k1]? = some _)
   obtain ⟨hvk,hvb,hvt⟩:=ZrY hvx
   have hel:=ZpE (k:=k1) (by assumption : l.all ZE = true) ‹_›
   refine Za hS6 (XV.drop 0 hc2) Zn rfl rfl rfl ?_
   refine Zh7 x1.k ‹_› ul3 ul5 rfl rfl ?_
   refine WL.buildSlice _ [(0,[.int .u8 ((UInt8.ofNat x1.k.toNat).toNat : Int)])] [.int .u8 ((UInt8.ofNat x1.k.toNat).toNat : Int)] hS6 ZbL rfl rfl rfl rfl (fun z hz=>by match z,hz with | [z0],_=>rfl) (fun b2 w6 hn2 hS7=>?_)
   refine WL.push (m:=([(UInt8.ofNat x1.k.toNat)] : List UInt8)) ZbL rfl rfl rfl (hr2.mono hle3) hS7 1 rfl 0 _ _ _ _ _ rfl ⟨[.int .u8 ((UInt8.ofNat x1.k.toNat).toNat : Int)],_,rfl,rfl,rfl⟩ rfl (by have hreach : reach = 140737488355328:=rfl; (simp only [List.length_append,List.length_cons,List.length_nil]; omega)) (by have hreach : reach = 140737488355328:=rfl; (simp only [List.length_append,List.length_cons,List.length_nil]; omega)) rfl rfl rfl (fun v3 o3 w7 hr4 hS8=>?_)
   have hS9:=hS8.tail
   refine Za hS9 (XV.drop 0 hc2) Zn rfl rfl rfl ?_
   refine Y2 x1.k 2 rfl rfl rfl (fun h4=>?_) (fun h4=>?_)
   ·refine Za hS9 (XV.drop 2 hc2) Yv rfl rfl rfl ?_
    refine Zmu ZbL ul9 rfl rfl rfl hr4 hS9 0 rfl (by simp) (by have hreach : reach = 140737488355328:=rfl; (simp only [List.length_append,List.length_cons,List.length_nil]; omega)) rfl rfl rfl (fun v4 o4 w9 hr5 hS10=>?_)
    refine WL.buildSlice _ [(0,[.int .u8 0])] [.int .u8 0] hS10 ZbL rfl rfl rfl rfl (fun z hz=>by match z,hz with | [z0],_=>rfl) (fun b3 w10 hn3 hS11=>?_)
    refine WL.push (m:=([(0 : UInt8)] : List UInt8)) ZbL rfl rfl rfl hr5 hS11 1 rfl 0 _ _ _ _ _ rfl ⟨[.int .u8 0],_,rfl,rfl,rfl⟩ rfl (by have hreach : reach = 140737488355328:=rfl; (simp only [List.length_append,List.length_cons,List.length_nil]; omega)) (by have hreach : reach = 140737488355328:=rfl; (simp only [List.length_append,List.length_cons,List.length_nil]; omega)) rfl rfl rfl (fun v5 o5 w11 hr6 hS12=>?_)
    have hS13:=hS12.tail
    refine Zj k1 (by have hreach : reach = 140737488355328:=rfl; omega) rfl rfl rfl ?_
    exact BK.mk' _ ⟨k1 + 1,v5,o5,G3,rfl,(hle2.trans hle3),hS13,(ZQ.cast hr6 (by (rw [ZeL ‹_›]; (rw [Zn8 ‹_›]; simp only [List.append_assoc])))),⟨rfl,rfl,rfl,rfl,trivial⟩,(by omega)⟩ (show l.length - (k1 + 1) < l.length - k1 by omega)
   refine Y2 x1.k 3 rfl rfl rfl (fun h5=>?_) (fun h5=>?_)
   ·refine Za hS9 (XV.drop 1 hc2) Zn rfl rfl rfl ?_
    refine Zh7 x1.n (by exact hvb ‹_›) ul3 ul5 rfl rfl ?_
    refine WL.buildSlice _ [(0,[.int .u8 ((UInt8.ofNat x1.n.toNat).toNat : Int)])] [.int .u8 ((UInt8.ofNat x1.n.toNat).toNat : Int)] hS9 ZbL rfl rfl rfl rfl (fun z hz=>by match z,hz with | [z0],_=>rfl) (fun b4 w12 hn4 hS14=>?_)
    refine WL.push (m:=([(UInt8.ofNat x1.n.toNat)] : List UInt8)) ZbL rfl rfl rfl hr4 hS14 1 rfl 0 _ _ _ _ _ rfl ⟨[.int .u8 ((UInt8.ofNat x1.n.toNat).toNat : Int)],_,rfl,rfl,rfl⟩ rfl (by have hreach : reach = 140737488355328:=rfl; (simp only [List.length_append,List.length_cons,List.length_nil]; omega)) (by have hreach : reach = 140737488355328:=rfl; (simp only [List.length_append,List.length_cons,List.length_nil]; omega)) rfl rfl rfl (fun v6 o6 w13 hr7 hS15=>?_)
    have hS16:=hS15.tail
    refine Zj k1 (by have hreach : reach = 140737488355328:=rfl; omega) rfl rfl rfl ?_
    exact BK.mk' _ ⟨k1 + 1,v6,o6,G3,rfl,(hle2.trans hle3),hS16,(ZQ.cast hr7 (by (rw [ZeL ‹_›]; (rw [Zn9 ‹_›]; simp only [List.append_assoc])))),⟨rfl,rfl,rfl,rfl,trivial⟩,(by omega)⟩ (show l.length - (k1 + 1) < l.length - k1 by omega)
   refine Za hS9 (XV.drop 1 hc2) Zn rfl rfl rfl <| Zn5 x1.n ul3 ZqT rfl rfl <| ZrV x1.n hb2 rfl rfl rfl ?_
   refine LP.go ft [] (fun m ρ1 w1=>∃ (j : Nat),∃ (i : Int),∃ (v7 : Value) (o7 : OB),∃ (G4 : GH),m = (8 - j) ∧ G3.le G4 ∧ St w [] G G4 [o7] w1 ∧ ZQ Enc.u8 1 5 G4 v7 ((Zae (l.take k1) ++ [UInt8.ofNat x1.k.toNat]) ++ ZdZ x1.n j) o7 ∧ FR ρ1 [(4,v7),(7, .int .u64 ((u63 x1.n : Nat) : Int)),(8, .int .i64 i),(19,vl),(20, .int .i64 (l.length : Int)),(21, .int .i64 (k1 : Int))] ∧ j ≤ 8 ∧ i = 56 - 8 * (j : Int)) _ ⟨0,56,v3,o3,G3,rfl,(G3.le_refl),hS9,(ZQ.cast hr4 (by simp [ZdZ])),⟨rfl,rfl,rfl,rfl,rfl,rfl,trivial⟩,(by omega),(by omega)⟩ ?_
   rintro m ρ1 w14 ⟨j,i,v7,o7,G4,rfl,hle4,hS17,hr8,hF9,f2,f3⟩
   refine hF9.set ?_
   clear hF9
   have hpl:=@ZpF x1.n j
   refine XE i 0 rfl rfl rfl (fun h6=>?_) (fun h6=>?_)
   ·refine ZrW (u63 x1.n) i (by omega) (by omega) rfl rfl rfl ?_
    refine Zh7 ((((u63 x1.n) / 2 ^ i.toNat) : Nat) : Int) (by exact Int.natCast_nonneg _) ZqT ul5 rfl rfl ?_
    refine WL.buildSlice _ [(0,[.int .u8 ((UInt8.ofNat ((((u63 x1.n) / 2 ^ i.toNat) : Nat) : Int).toNat).toNat : Int)])] [.int .u8 ((UInt8.ofNat ((((u63 x1.n) / 2 ^ i.toNat) : Nat) : Int).toNat).toNat : Int)] hS17 ZbL rfl rfl rfl rfl (fun z hz=>by match z,hz with | [z0],_=>rfl) (fun b5 w15 hn5 hS18=>?_)
    refine WL.push (m:=([(UInt8.ofNat ((((u63 x1.n) / 2 ^ i.toNat) : Nat) : Int).toNat)] : List UInt8)) ZbL rfl rfl rfl hr8 hS18 1 rfl 0 _ _ _ _ _ rfl ⟨[.int .u8 ((UInt8.ofNat ((((u63 x1.n) / 2 ^ i.toNat) : Nat) : Int).toNat).toNat : Int)],_,rfl,rfl,rfl⟩ rfl (by have hreach : reach = 140737488355328:=rfl; (simp only [List.length_append,List.length_cons,List.length_nil]; omega)) (by have hreach : reach = 140737488355328:=rfl; (simp only [List.length_append,List.length_cons,List.length_nil]; omega)) rfl rfl rfl (fun v9 o8 w16 hr9 hS19=>?_)
    have hS20:=hS19.tail
    have hi1 : Zz (i - 8):=by constructor <;> omega
    refine Zci .sub rfl i 8 rfl rfl rfl hi1 ?_
    exact BK.mk' _ ⟨j + 1,(i - 8),v9,o8,G4,rfl,hle4,hS20,(ZQ.cast hr9 (by (rw [Zn7 ‹_› ‹_›]; simp only [List.append_assoc]))),⟨rfl,rfl,rfl,rfl,rfl,rfl,trivial⟩,(by omega),(by omega)⟩ (show (8 - (j + 1)) < (8 - j) by omega)
   refine Zj k1 (by have hreach : reach = 140737488355328:=rfl; omega) rfl rfl rfl ?_
   exact BK.mk' _ ⟨k1 + 1,v7,o7,G4,rfl,(hle2.trans (hle3.trans hle4)),hS17,(ZQ.cast hr8 (by (rw [ZeL ‹_›]; (rw [ZpH ‹_› ‹_›,ZpG (by omega)]; simp only [List.append_assoc])))),⟨rfl,rfl,rfl,rfl,trivial⟩,(by omega)⟩ (show l.length - (k1 + 1) < l.length - k1 by omega)
  obtain ⟨G5,hle5,hs1,hS21⟩:=ZQ.freeze hr2 hS3 0 rfl
  exact RT hS21 rfl ⟨_,_,rfl,(Sl.cast hs1 (by (rw [List.take_of_length_le (by omega)]; exact (ZpI (by omega) ‹_›).symm))),(congrArg (Value.int .i64) (by exact (Zt4 (by omega) ‹_›).symm))⟩
 exact RT hS1 rfl ⟨_,_,rfl,(Sl.cast (Sl.nil Enc.u8 1 G1) (by exact (ZpK ‹_›).symm)),(congrArg (Value.int .i64) (by exact (Zt6 (by omega) ‹_›).symm))⟩
theorem Zvg {G : GH} {w : World} (hG : G.In w) (l : List Val) (vl : Value) (hvl : Sl ValE 32 G vl l) : CL Tryz.prog (nat_lit 137) #[vl] [] w G fun _ _ r=>r = Zd (XW l):=by
 refine Zg ft [] Tryz.func137 rfl rfl ?_
 have hS:=St.start (X:=[]) hG
 refine Z3 hS ZuS rfl rfl rfl (Zqq hS.imm l _ hvl) ?_
 rintro w1 G1 _ ⟨r2,_,rfl,hs1,rfl⟩ hS1 hle1
 refine ZkO hs1 hS1 ZqS ul5 ul9 rfl rfl ?_
 exact RT hS1 rfl (congrArg Zd (by rfl))
end Go.Civ
