/- Lemmas. -/
import Derived.Test.YthgeclodflmiaaaGreatC12
import Derived.Test.YthgeclodflmiaaaGreatC14
import Derived.Test.YthgeclodflmiaaaGreatC15
import Derived.Test.YthgeclodflmiaaaGreatC16
import Derived.Test.YthgeclodflmiaaaGreatC17
import Derived.Test.YthgeclodflmiaaaGreatC18
import Derived.Test.YthgeclodflmiaaaGreatC20
import Derived.Test.YthgeclodflmiaaaGreatRows
import Derived.Test.YthgeclodflmiaaaGreatProg
import Derived.KernelRfl
import Derived.WalkKit
set_option linter.unusedVariables false
namespace Go.Civ
open Go.Proofs
section
variable {H : Type} {enc : TypeId × Value → H} {w : World}
theorem Znd : Xa enc Tryz.prog w 33 SpanE:=Zbp (g:=fun p=>⟨p.1,p.2⟩) (fun _=>rfl) Tryz.underlying33 rfl (by kernel_rfl) rfl (by kernel_rfl) (by kernel_rfl) (Zaq Tryz.underlying3) (Zaq Tryz.underlying3)
theorem ZtY : Xa enc Tryz.prog w 58 ValE:=Zf4 (g:=fun p=>⟨p.1,p.2.1,p.2.2⟩) (fun _=>rfl) Tryz.underlying58 rfl (by kernel_rfl) rfl (by kernel_rfl) rfl (by kernel_rfl) (by kernel_rfl) (Zaq Tryz.underlying3) (Zaq Tryz.underlying3) (ZbV Tryz.underlying9)
theorem Zs5 : Xa enc Tryz.prog w 31 (ValE.slice 32):=Zac Tryz.underlying31 (by kernel_rfl) (by decide) (by kernel_rfl) (by decide) ZtY
theorem Zs6 : Xa enc Tryz.prog w 35 RectE:=Zbp (g:=fun p=>⟨p.1,p.2⟩) (fun _=>rfl) Tryz.underlying35 rfl (by kernel_rfl) rfl (by kernel_rfl) (by kernel_rfl) Znd Znd
theorem ZtZ : Xa enc Tryz.prog w 37 HRowE:=Zbp (g:=fun p=>⟨p.1,p.2⟩) (fun _=>rfl) Tryz.underlying37 rfl (by kernel_rfl) rfl (by kernel_rfl) (by kernel_rfl) Zs5 Zs6
theorem Zs7 : Xa enc Tryz.prog w 26 (HRowE.slice 56):=Zac Tryz.underlying26 (by kernel_rfl) (by decide) (by kernel_rfl) (by decide) ZtZ
theorem Zua : Xa enc Tryz.prog w 130 ColE:=Zbp (g:=fun p=>⟨p.1,p.2⟩) (fun _=>rfl) Tryz.underlying130 rfl (by kernel_rfl) rfl (by kernel_rfl) (by kernel_rfl) (ZbV Tryz.underlying9) (Zaq Tryz.underlying3)
theorem Zs8 : Xa enc Tryz.prog w 22 (ColE.slice 24):=Zac Tryz.underlying22 (by kernel_rfl) (by decide) (by kernel_rfl) (by decide) Zua
theorem Zs9 : Xa enc Tryz.prog w 48 (Enc.str.slice 16):=Zac Tryz.underlying48 (by kernel_rfl) (by decide) (by kernel_rfl) (by decide) (ZbV Tryz.underlying9)
theorem Zne : Xa enc Tryz.prog w 50 ForeignE:=Zbp (g:=fun p=>⟨p.1,p.2⟩) (fun _=>rfl) Tryz.underlying50 rfl (by kernel_rfl) rfl (by kernel_rfl) (by kernel_rfl) Zs9 (ZbV Tryz.underlying9)
theorem ZlK : Xa enc Tryz.prog w 23 (ForeignE.slice 40):=Zac Tryz.underlying23 (by kernel_rfl) (by decide) (by kernel_rfl) (by decide) Zne
theorem ZoY : Xa enc Tryz.prog w 25 SchemaE:=ZlJ (g:=fun p=>⟨p.1,p.2.1,p.2.2.1,p.2.2.2⟩) (fun _=>rfl) Tryz.underlying25 rfl (by kernel_rfl) rfl (by kernel_rfl) rfl (by kernel_rfl) rfl (by kernel_rfl) (by kernel_rfl) (ZbV Tryz.underlying9) Zs8 (Zaq Tryz.underlying3) ZlK
theorem Zrw : Xa enc Tryz.prog w 28 TableE:=Zf4 (g:=fun p=>⟨p.1,p.2.1,p.2.2⟩) (fun _=>rfl) Tryz.underlying28 rfl (by kernel_rfl) rfl (by kernel_rfl) rfl (by kernel_rfl) (by kernel_rfl) ZoY Zs7 (Zaq Tryz.underlying3)
theorem ZoZ : Xa enc Tryz.prog w 77 (TableE.slice 104):=Zac Tryz.underlying77 (by kernel_rfl) (by decide) (by kernel_rfl) (by decide) Zrw
end
theorem Zve : ownKnob Tryz.prog.godebug = none:=by kernel_rfl
theorem Zpa : laidOutB Tryz.prog = true:=by kernel_rfl
end Go.Civ
set_option linter.unusedVariables false
set_option linter.unusedSimpArgs false
set_option maxRecDepth 100000
set_option maxHeartbeats 4000000
namespace Go.Civ
open Go.Proofs
theorem QP {G : GH} {w : World} (hG : G.In w) (l : List Val) (vl : Value) (hvl : Sl ValE 32 G vl l) : CL Tryz.prog (nat_lit 73) #[vl] [] w G fun G' _ r=>Sl ValE 32 G' r l:=by
 refine Zh ft [] Tryz.func73 rfl rfl ?_
 have hS:=St.start (X:=[]) hG
 refine ZfM hvl Yz rfl rfl rfl (fun h1=>?_) ?_
 ·exact RT hS rfl (Sl.cast (Sl.nil ValE 32 G) (by exact Eq.symm ‹_›))
 refine WL.buildSlice _ [] [] hS Zjw rfl rfl rfl rfl (fun z hz=>by match z,hz with | [],_=>rfl) (fun b1 w1 hn1 hS1=>?_)
 have hr1:=Yb.empty ValE 32 58 G b1
 refine YA Zjw rfl rfl rfl hr1 hS1 0 rfl hvl (by have hreach : reach = 140737488355328:=rfl; have:=hvl.bytes; have:=hvl.bound; simp only [List.length_nil,Nat.zero_add]; omega) (by have hreach : reach = 140737488355328:=rfl; have:=hvl.bytes; have:=hvl.bound; simp only [List.length_nil,Nat.zero_add]; omega) rfl rfl rfl (fun v1 o1 w2 hr2 hS2=>?_)
 obtain ⟨G1,hle1,hs1,hS3⟩:=Yb.freeze hr2 hS2 0 rfl
 exact RT hS3 rfl (Sl.cast hs1 (by rfl))
theorem ZrN {w0 : World} {G0 G : GH} {w : World} {R : Own} (v : List Val) (fr c : Int) (l : List HRow) (nw : List Span) (bn bo bf : Nat) (nv vo : Value) (ro : OB) (hnv : Sl SpanE 16 G nv nw) (hvo : Yb HRowE 56 (nat_lit 37) G vo l ro) (hS : St w0 [] G0 G (some (bn,(nat_lit 71),[nv]) :: some (bo,(nat_lit 26),[vo]) :: some (bf,(nat_lit 3),[.int .i64 fr]) :: ro :: R) w) (gv : Value) (hgv : Sl ValE 32 G gv v) (gt : Value) (pg : Addr) (hpg : XL G pg [gv,gt]) (hc64 : Z1 c) (hf64 : Z1 fr) (hb : l.length + nw.length ≤ 1000000000) : Calls Tryz.prog (nat_lit 178) #[.int .i64 c, .pointer (some ⟨bn,0,none⟩), .pointer (some ⟨bo,0,none⟩), .pointer (some pg), .pointer (some ⟨bf,0,none⟩)] w fun e9 w9=>∃ (G9 : GH) (v9 : Value) (o9 : OB),e9 = .returned (.tuple #[]) ∧ G.le G9 ∧ St w0 [] G0 G9 (some (bn,(nat_lit 71),[nv]) :: some (bo,(nat_lit 26),[v9]) :: some (bf,(nat_lit 3),[.int .i64 fr]) :: o9 :: R) w9 ∧ Yb HRowE 56 (nat_lit 37) G9 v9 (l ++ Xz v nw fr c) o9:=by
 refine Zh ft [] Tryz.func178 rfl rfl ?_
 refine Yi hS 0 _ _ _ 0 _ rfl rfl ZlL rfl rfl rfl ?_
 have bd1:=hnv.bound
 refine Zl hnv YN rfl rfl ?_
 refine LP.go ft [] (fun m ρ1 w1=>∃ (k1 : Nat),∃ (v1 : Value) (o1 : OB),∃ (G1 : GH),m = nw.length - k1 ∧ G.le G1 ∧ St w0 [] G0 G1 (some (bn,(nat_lit 71),[nv]) :: some (bo,(nat_lit 26),[v1]) :: some (bf,(nat_lit 3),[.int .i64 fr]) :: o1 :: R) w1 ∧ Yb HRowE 56 37 G1 v1 (l ++ Xz v (nw.take k1) fr c) o1 ∧ FR ρ1 [(0, .int .i64 c),(2, .pointer (some ⟨bo,0,none⟩)),(3, .pointer (some pg)),(4, .pointer (some ⟨bf,0,none⟩)),(8,nv),(9, .int .i64 (nw.length : Int)),(10, .int .i64 (k1 : Int))] ∧ k1 ≤ nw.length) _ ⟨0,vo,ro,G,rfl,(G.le_refl),hS,(Yb.cast hvo (by simp [Xz])),⟨rfl,rfl,rfl,rfl,rfl,rfl,rfl,trivial⟩,(by omega)⟩ ?_
 rintro m ρ1 w1 ⟨k1,v1,o1,G1,rfl,hle1,hS1,hr1,hF9,f1⟩
 refine hF9.set ?_
 clear hF9
 have hol:=ZcK v (nw.take k1) fr c
 have hot:=List.length_take_le' k1 nw
 refine Zm (k1 : Int) (nw.length : Int) rfl rfl rfl (fun h1=>?_) (fun h1=>?_)
 ·refine WL.indexAddr (hnv.mono hle1) k1 (by omega) YN Zz rfl rfl rfl rfl (fun p1 x1 hx1 he1=>?_)
  obtain ⟨cs1,hc1,hr2⟩:=he1
  obtain ⟨rfl,hb1,hb2⟩:=ZP hr2
  refine Zd hS1 hc1 [.int .i64 x1.a, .int .i64 x1.b] Zz rfl rfl rfl rfl rfl ?_
  refine WL.alloc hS1 Zz rfl rfl (fun b1 w2 hn1 hS2=>?_)
  refine WL.store hS2 0 _ _ _ 0 _ [.int .i64 x1.a, .int .i64 x1.b] [.int .i64 x1.a, .int .i64 x1.b] _ rfl rfl Zz rfl (Nat.le_of_ble_eq_true rfl) rfl rfl rfl rfl rfl rfl (fun w3 hS3=>?_)
  obtain ⟨G2,hle2,hc2,hS4⟩:=hS3.shutB hn1
  refine dr [(3,true),(9,true),(10,true),(11,false),(12,false)] [(14,v1),(16,gv),(18, .agg #[.int .i64 x1.a, .int .i64 x1.b]),(19, .int .i64 fr),(21, .agg #[.int .i64 fr, .int .i64 c]),(22, .agg #[.int .i64 x1.a, .int .i64 x1.b, .int .i64 fr, .int .i64 c])] hS4 ⟨fun _ hSw=>Yi hSw 1 _ _ _ 0 _ rfl rfl YJ rfl rfl rfl <| nu rfl rfl,fun _ hSw=>Za hSw (XL.drop 0 (hpg.mono (hle1.trans hle2))) ZN rfl rfl rfl <| nu rfl rfl,fun _ hSw=>Zd hSw hc2 [.int .i64 x1.a, .int .i64 x1.b] Zz rfl rfl rfl rfl rfl <| nu rfl rfl,fun _ hSw=>Yi hSw 2 _ _ _ 0 _ rfl rfl Zr rfl rfl rfl <| nu rfl rfl,fun _=>WL.build _ [(0,[.int .i64 fr]),(1,[.int .i64 c])] [.int .i64 fr, .int .i64 c] Zz rfl Xs rfl rfl rfl rfl <| nu rfl rfl,fun _=>WL.build _ [(0,[.int .i64 x1.a, .int .i64 x1.b]),(1,[.int .i64 fr, .int .i64 c])] [.int .i64 x1.a, .int .i64 x1.b, .int .i64 fr, .int .i64 c] Zcf rfl ZbB rfl rfl rfl rfl <| nu rfl rfl,trivial⟩ (fun w4 hS5=>?_)
  refine Z8 hS5 ZeC rfl rfl rfl (QP hS5.imm v _ (hgv.mono (hle1.trans hle2))) (fun w5 G3 r1 hpost1 hS6 hle3=>?_)
  refine ⟨hS6.down hS5.le hle3,?_⟩
  refine WL.build _ [(0,[r1]),(1,[.int .i64 x1.a, .int .i64 x1.b, .int .i64 fr, .int .i64 c])] [r1, .int .i64 x1.a, .int .i64 x1.b, .int .i64 fr, .int .i64 c] Zt rfl Zag rfl rfl (by show [(0,(r1 : Value).cells.toList),(1,(.agg #[.int .i64 x1.a, .int .i64 x1.b, .int .i64 fr, .int .i64 c] : Value).cells.toList)] = _; simp only [hpost1.cells1] <;> rfl) rfl ?_
  refine ⟨hS6.down hS5.le hle3,?_⟩
  refine WL.buildSlice _ [(0,[r1, .int .i64 x1.a, .int .i64 x1.b, .int .i64 fr, .int .i64 c])] [r1, .int .i64 x1.a, .int .i64 x1.b, .int .i64 fr, .int .i64 c] hS6 YQ rfl rfl rfl rfl (fun z hz=>by match z,hz with | [z0,z1,z2,z3,z4],_=>rfl) (fun b2 w6 hn2 hS7=>?_)
  refine ⟨hS7.tail.down hS5.le hle3,?_⟩
  refine WL.push (m:=([(HRow.mk v (Rect.mk x1 (Span.mk fr c)))] : List HRow)) YQ rfl rfl rfl (hr1.mono (hle2.trans hle3)) hS7 4 rfl 0 _ _ _ _ _ rfl ⟨[r1, .int .i64 x1.a, .int .i64 x1.b, .int .i64 fr, .int .i64 c],_,rfl,(Ya (HRow.mk v (Rect.mk x1 (Span.mk fr c))) hpost1 hb1 hb2 hf64 hc64),rfl⟩ rfl (by have hreach : reach = 140737488355328:=rfl; simp only [List.length_append,List.length_cons,List.length_nil]; omega) (by have hreach : reach = 140737488355328:=rfl; simp only [List.length_append,List.length_cons,List.length_nil]; omega) rfl rfl rfl (fun v2 o2 w7 hr3 hS8=>?_)
  have hS9:=hS8.tail
  refine WL.store hS9 1 _ _ _ 0 _ [v2] [v2] _ rfl hr3.cells1 YJ rfl (Nat.le_of_ble_eq_true rfl) (by simp only [List.all_cons,List.all_nil,hr3.oneC,Bool.true_and] <;> rfl) rfl rfl rfl rfl rfl (fun w9 hS10=>?_)
  refine Zj k1 (by have hreach : reach = 140737488355328:=rfl; omega) rfl rfl rfl ?_
  exact BK.mk' _ ⟨k1 + 1,v2,o2,G3,rfl,(hle1.trans (hle2.trans hle3)),hS10,(Yb.cast hr3 (by (rw [ZeP ‹_›,List.append_assoc]))),⟨rfl,rfl,rfl,rfl,rfl,rfl,rfl,trivial⟩,(by omega)⟩ (show nw.length - (k1 + 1) < nw.length - k1 by omega)
 exact ⟨_,rfl,G1,v1,o1,rfl,hle1,hS1,(Yb.cast hr1 (by rw [ZfT (by omega)]))⟩
end Go.Civ
namespace Go.Civ
open Go.RowKit
set_option linter.unusedVariables false
section
variable {d : Nat} {t : Table} {tx : Int} {c : Cond} {p : Span} {set : List Val} {mask : List Bool}
theorem ZkL (h : QV t p = true) : Zy t = true ∧ ZM p = true:=by unfold QV at h; simpa using h
end
section
variable {cols : List Col} {set : List Val} {mask : List Bool} {j : Nat}
end
section
variable {t : Table} {a b : Int}
end
end Go.Civ
namespace Go.Civ
open Go.RowKit
set_option linter.unusedVariables false
def UpV (out : VV) (v : List Val) (k : Nat) : Prop:=∀ j,k ≤ j → ∀ u,out[j]? = some u → 0 < ZL cmpV u v
theorem UpV.start {out : VV} {v : List Val} : UpV out v out.length:=fun j hj u hu=>by have:=(List.getElem?_eq_some_iff.1 hu).1; omega
theorem UpV.step {out : VV} {v u : List Val} {k : Nat} (h : UpV out v k) (hu : out[k - 1]? = some u) (h1 : 0 < ZL cmpV u v) : UpV out v (k - 1):=fun j hj w hw=>by
 by_cases e : k ≤ j
 ·exact h j e w hw
 ·obtain rfl : j = k - 1:=by omega
  rw [hu] at hw; obtain rfl:=Option.some.inj hw; exact h1
theorem Zll {out : VV} {v u : List Val} {k : Nat} (hi : QT out) (hu : out[k]? = some u) (h : ZL cmpV u v ≤ 0) : ∀ j,j < k → ∀ w,out[j]? = some w → ZL cmpV w v < 0:=fun j hj w hw=>by
 obtain ⟨k1,rfl⟩:=List.getElem?_eq_some_iff.1 hu
 obtain ⟨j1,rfl⟩:=List.getElem?_eq_some_iff.1 hw
 have h1:=List.pairwise_iff_getElem.1 hi j k j1 k1 hj
 by_cases e : ZL cmpV out[k] v = 0
 ·rw [(ord.eq _ _).1 e] at h1; exact h1
 ·exact ord.trans _ _ _ h1 (by omega)
theorem Zlm {out : VV} {v u : List Val} {k : Nat} (hi : QT out) (hk : 0 < k) (hu : out[k - 1]? = some u) (h : ZL cmpV u v = 0) : Zax out v = out:=
 Zmj (Nat.le_of_lt (List.getElem?_eq_some_iff.1 hu).1) (Zll hi hu (by omega)) hu (by omega) ((ord.eq _ _).1 h)
theorem ZjU {out : VV} {v : List Val} {k : Nat} (hi : QT out) (hU : UpV out v k) (hk : k ≤ out.length) (h : k = 0 ∨ ∃ u,out[k - 1]? = some u ∧ ZL cmpV u v < 0) : Zax out v = out.take k ++ [v] ++ out.drop k:=by
 refine Zpv hk (fun j hj w hw=>?_) (fun w hw=>?_) (fun e=>?_)
 ·rcases h with h | ⟨u,hu,h⟩
  ·omega
  ·by_cases e : j = k - 1
   ·subst e; rw [hu] at hw; obtain rfl:=Option.some.inj hw; exact h
   ·exact Zll hi hu (by omega) j (by omega) w hw
 ·have:=hU k (Nat.le_refl _) w hw; omega
 ·have:=hU k (Nat.le_refl _) v e; rw [ord.refl] at this; omega
theorem ZeS {out : VV} {v : List Val} {k : Nat} (hi : QT out) (hU : UpV out v k) (hk : k ≤ out.length) (h : k = 0) : (([] ++ out.take k) ++ [v]) ++ out.drop k = Zax out v:=by rw [ZjU hi hU hk (.inl h)]; simp
theorem ZnN {out : VV} {v u : List Val} {k : Nat} (hi : QT out) (hU : UpV out v k) (hk : k ≤ out.length) (hu : out[k - 1]? = some u) (h1 : ZL cmpV u v ≤ 0) (h2 : ZL cmpV u v ≠ 0) : (([] ++ out.take k) ++ [v]) ++ out.drop k = Zax out v:=by
 rw [ZjU hi hU hk (.inr ⟨u,hu,by omega⟩)]; simp
theorem ZnO {kind : Int} {a b : List Span} : (Yr kind a b).length ≤ 2 * (a.length + b.length):=by
 have h:=ZhO (a ++ b)
 rw [List.length_append] at h
 unfold Yr
 exact Nat.le_trans (ZhP _) (by omega)
theorem Za1 {α : Type} {l : List α} {k : Nat} (h : k < l.length) : ∃ x,l[k]? = some x:=⟨_,List.getElem?_eq_getElem h⟩
end Go.Civ
namespace Go.Civ
end Go.Civ
namespace Go.Civ
end Go.Civ
namespace Go.Civ
open Go.RowKit
set_option linter.unusedVariables false
def Qp (at_ tx : Int) (r : HRow) : Bool:=decide (r.r.d.a ≤ at_) && decide (at_ < r.r.d.b) && YR tx r
def QW (l : List HRow) (at_ tx : Int) : List HRow:=l.filter (Qp at_ tx)
def ZJ (l : List HRow) (at_ tx : Int) : VV:=Xb (QW l at_ tx)
def ZpQ (l : List HRow) (tx : Int) (vs : VV) : List Fact:=vs.flatMap fun v=>(ZbG l v tx).map (Fact.mk v)
theorem ZnP {l : List HRow} {k : Nat} {x : HRow} {at_ tx : Int} (h : l[k]? = some x) (h1 : x.r.d.a ≤ at_) (h2 : at_ < x.r.d.b) (h3 : x.r.x.a ≤ tx) (h4 : tx < x.r.x.b) : QW (l.take (k + 1)) at_ tx = QW (l.take k) at_ tx ++ [x]:=by
 rw [List.take_add_one,h]; unfold QW Qp YR; simp [h1,h2,h3,h4]
theorem Zei {l : List HRow} {k : Nat} {x : HRow} {at_ tx : Int} (h : l[k]? = some x) (h1 : at_ < x.r.d.a ∨ x.r.d.b ≤ at_ ∨ tx < x.r.x.a ∨ x.r.x.b ≤ tx) : QW (l.take (k + 1)) at_ tx = QW (l.take k) at_ tx:=by
 rw [List.take_add_one,h]; unfold QW
 have : Qp at_ tx x = false:=by
  rw [Bool.eq_false_iff]; unfold Qp YR; simp only [ne_eq,Bool.and_eq_true,decide_eq_true_eq]; omega
 simp [this]
theorem ZnQ (l : List HRow) (at_ tx : Int) (k : Nat) : (QW (l.take k) at_ tx).length ≤ l.length:=Nat.le_trans (List.length_filter_le _ _) (List.length_take_le' _ _)
section
variable {hl : List Val → Bool} {nx : List Val → Option (List Val)} {tx : Int} {d : Span} {l : List HRow} {k : Nat} {r : HRow}
end
end Go.Civ
namespace Go.Civ
open Go.RowKit
set_option linter.unusedVariables false
section
variable {t : Table} {tx : Int} {v : List Val} {d : Span} {rows : List HRow}
end
section
variable {k : Nat} {t : Table} {tx : Int} {c : Cond} {d : Span}
end
section
variable {k : Nat} {t : Table} {tx : Int} {c : Cond} {set : List Val} {mask : List Bool} {d : Span}
end
theorem Zmy {s : Schema} (h : Yu s = true) : Zy (Z9 s) = true:=by
 unfold Z9; rw [if_pos h]
 unfold Zy; simp only [h]; rfl
theorem ZpR {s : Schema} (h : Yu s = true) : Z9 s = ⟨s,[], -62135596801⟩ ∧ ZbI s = 0:=⟨(ZiM h).1.symm,(ZiM h).2.symm⟩
end Go.Civ
namespace Go.Civ
end Go.Civ
namespace Go.Civ
open Go.RowKit
set_option linter.unusedVariables false
theorem QT.unique : ∀ {a b : VV},QT a → QT b → (∀ x,x ∈ a ↔ x ∈ b) → a = b
 | [],[],_,_,_=>rfl
 | [],y :: b,_,_,h=>absurd ((h y).2 (by simp)) (by simp)
 | x :: a,[],_,_,h=>absurd ((h x).1 (by simp)) (by simp)
 | x :: a,y :: b,ha,hb,h=>by
  obtain ⟨ha1,ha2⟩:=List.pairwise_cons.1 ha
  obtain ⟨hb1,hb2⟩:=List.pairwise_cons.1 hb
  have e : x = y:=by
   rcases List.mem_cons.1 ((h x).1 (by simp)) with e | e
   ·exact e
   ·rcases List.mem_cons.1 ((h y).2 (by simp)) with e' | e'
    ·exact e'.symm
    ·have h1:=hb1 x e
     have h2:=ord.trans _ _ _ h1 (by have:=ha1 y e'; omega)
     rw [ord.refl] at h2; omega
  subst e
  rw [QT.unique ha2 hb2 fun z=>?_]
  have hz:=h z
  constructor
  ·intro hm
   rcases List.mem_cons.1 (hz.1 (by simp [hm])) with e | e
   ·subst e; have:=ha1 z hm; rw [ord.refl] at this; omega
   ·exact e
  ·intro hm
   rcases List.mem_cons.1 (hz.2 (by simp [hm])) with e | e
   ·subst e; have:=hb1 z hm; rw [ord.refl] at this; omega
   ·exact e
theorem Zty {l : List HRow} (hg : Z5 l) (at_ tx : Int) : Zaz l at_ tx = (Xb l).filter fun v=>YY (ZbG l v tx) at_:=by
 unfold Zaz Yo
 rw [List.filter_map,List.map_map]
 have e : (HGrp.v ∘ fun v=>(⟨v,Xy l v⟩ : HGrp)) = id:=rfl
 rw [e,List.map_id]
 congr 1
 funext v
 simp only [Function.comp,ZbW hg]
theorem ZrV {l : List HRow} (hg : Z5 l) (tx : Int) : Zhv l tx = ZpQ l tx (Xb l):=by
 unfold Zhv Yo ZpQ
 rw [List.flatMap_map]
 congr 1
 funext v
 simp only [ZbW hg]
theorem ZjV {l : List HRow} (hg : Z5 l) (v : List Val) (at_ tx : Int) : YY (ZbG l v tx) at_ = true ↔ ∃ r ∈ l,r.v = v ∧ Qp at_ tx r = true:=by
 rw [ZbW hg,Qu]
 unfold ZI
 rw [(XP fun s hs=>YB (ZaV (hg.of v).d tx s hs)).cov]
 unfold cover Yy Xy Qp
 constructor
 ·rintro ⟨s,hs,h1,h2⟩
  obtain ⟨r,hr,rfl⟩:=List.mem_map.1 hs
  rw [List.mem_filter,List.mem_filter] at hr
  exact ⟨r,hr.1.1,by simpa using hr.1.2,by simp [h1,h2,hr.2]⟩
 ·rintro ⟨r,hr,hv,hh⟩
  simp only [Bool.and_eq_true,decide_eq_true_eq] at hh
  exact ⟨r.r.d,List.mem_map.2 ⟨r,List.mem_filter.2 ⟨List.mem_filter.2 ⟨hr,by simpa using hv⟩,hh.2⟩,rfl⟩,hh.1.1,hh.1.2⟩
theorem Za2 {l : List HRow} (hg : Z5 l) (at_ tx : Int) : Zaz l at_ tx = ZJ l at_ tx:=by
 rw [Zty hg]
 refine QT.unique ((Q2 l).filter _) (Q2 _) fun v=>?_
 rw [List.mem_filter,ZjV hg,ZJ,Zay,Zay]
 unfold QW
 constructor
 ·rintro ⟨_,r,hr,hv,hh⟩; exact ⟨r,List.mem_filter.2 ⟨hr,hh⟩,hv⟩
 ·rintro ⟨r,hr,hv⟩
  rw [List.mem_filter] at hr
  exact ⟨⟨r,hr.1,hv⟩,r,hr.1,hv,hr.2⟩
theorem Zmz {l : List HRow} (h : l.all Y1 = true) : Z5 l:=fun r hr=>List.all_eq_true.1 h r hr
end Go.Civ
namespace Go.Civ
open Go.RowKit
set_option linter.unusedVariables false
section
variable {t : Table} {tx : Int} {v : List Val} {d : Span}
end
theorem Ztz {t : Table} {x : Int} (h1 : Zy t = true) (h2 : Yt x = true) : atH t x = ZpQ t.rows x (Xb t.rows):=by
 unfold atH; rw [h1,h2]; exact ZrV (ZW h1).1 x
section
variable {t : Table} {a b : Int}
end
end Go.Civ
set_option linter.unusedVariables false
set_option linter.unusedSimpArgs false
set_option maxRecDepth 100000
set_option maxHeartbeats 4000000
namespace Go.Civ
open Go.Proofs
theorem Zqe {G : GH} {w : World} (hG : G.In w) (l : List Val) (vl : Value) (hvl : Sl ValE 32 G vl l) : CL Tryz.prog (nat_lit 184) #[vl] [] w G fun G' _ r=>∃ r0 r1,r = .tuple #[r0,r1] ∧ Sl Enc.u8 1 G' r0 (XY l) ∧ r1 = .int .i64 (ZfS l):=by
 refine Zh ft [] Tryz.func184 rfl rfl ?_
 have hS:=St.start (X:=[]) hG
 have bd1:=hvl.bound
 refine Zl hvl Yz rfl rfl ?_
 refine YZ (l.length : Int) 1000 rfl rfl rfl (fun h1=>?_) (fun h1=>?_)
 ·exact RT hS rfl ⟨_,_,rfl,(Sl.cast (Sl.nil Enc.u8 1 G) (by exact (Zp6 (by omega)).symm)),(congrArg (Value.int .i64) (by exact (Ztk (by omega)).symm))⟩
 refine Zn hS Zmc rfl rfl rfl (Zmg hS.imm l _ hvl) (fun w1 G1 hS1 hle1=>?_)
 refine WL.split (fun (h2 : (l.all ZK) = true)=>?_) (fun (h2 : (l.all ZK) = false)=>?_)
 ·have hbl:=(by assumption : Sl ValE 32 G _ l).bound
  have bd2:=hvl.bound
  refine Zl (hvl.mono hle1) Yz rfl rfl ?_
  refine Zfl 9 l.length (by have hreach : reach = 140737488355328:=rfl; omega) rfl rfl rfl ?_
  refine Zml (E:=Enc.u8) (by_:=1) ZbQ rfl rfl (9 * l.length) (by have hreach : reach = 140737488355328:=rfl; omega) (by have hreach : reach = 140737488355328:=rfl; omega) hS1 rfl rfl rfl (fun v1 o1 w2 hr1 hS2=>?_)
  have bd3:=hvl.bound
  refine Zl (hvl.mono hle1) Yz rfl rfl ?_
  refine LP.go ft [] (fun m ρ1 w1=>∃ (k1 : Nat),∃ (v2 : Value) (o2 : OB),∃ (G2 : GH),m = l.length - k1 ∧ G1.le G2 ∧ St w [] G G2 [o2] w1 ∧ Yb Enc.u8 1 5 G2 v2 (Zaf (l.take k1)) o2 ∧ FR ρ1 [(4,v2),(19,vl),(20, .int .i64 (l.length : Int)),(21, .int .i64 (k1 : Int))] ∧ k1 ≤ l.length) _ ⟨0,v1,o1,G1,rfl,(G1.le_refl),hS2,(Yb.cast hr1 (by rfl)),⟨rfl,rfl,rfl,rfl,trivial⟩,(by omega)⟩ ?_
  rintro m ρ1 w3 ⟨k1,v2,o2,G2,rfl,hle2,hS3,hr2,hF9,f1⟩
  refine hF9.set ?_
  clear hF9
  refine Zm (k1 : Int) (l.length : Int) rfl rfl rfl (fun h3=>?_) (fun h3=>?_)
  ·refine WL.indexAddr (hvl.mono (hle1.trans hle2)) k1 (by omega) Yz Ye rfl rfl rfl rfl (fun p1 x1 hx1 he1=>?_)
   obtain ⟨cs1,hc1,hr3⟩:=he1
   obtain ⟨rfl,hb1,hb2,hb3⟩:=Y4 hr3
   refine Zd hS3 hc1 [.int .i64 x1.k, .int .i64 x1.n,Zc x1.s] Ye rfl rfl rfl rfl rfl ?_
   refine WL.alloc hS3 Ye rfl rfl (fun b1 w4 hn1 hS4=>?_)
   refine WL.store hS4 0 _ _ _ 0 _ [.int .i64 x1.k, .int .i64 x1.n,Zc x1.s] [.int .i64 x1.k, .int .i64 x1.n,Zc x1.s] _ rfl rfl Ye rfl (Nat.le_of_ble_eq_true rfl) rfl rfl rfl rfl rfl rfl (fun w5 hS5=>?_)
   obtain ⟨G3,hle3,hc2,hS6⟩:=hS5.shutB hn1
   have hvx:=Zth (by assumption : l.all ZK = true) (by assumption : l[k1]? = some _)
   obtain ⟨hvk,hvb,hvt⟩:=ZrD hvx
   have hel:=Zp1 (k:=k1) (by assumption : l.all ZK = true) ‹_›
   refine Za hS6 (XL.drop 0 hc2) Zr rfl rfl rfl ?_
   refine Zhx x1.k ‹_› ul3 ul5 rfl rfl ?_
   refine WL.buildSlice _ [(0,[.int .u8 ((UInt8.ofNat x1.k.toNat).toNat : Int)])] [.int .u8 ((UInt8.ofNat x1.k.toNat).toNat : Int)] hS6 ZbQ rfl rfl rfl rfl (fun z hz=>by match z,hz with | [z0],_=>rfl) (fun b2 w6 hn2 hS7=>?_)
   refine WL.push (m:=([(UInt8.ofNat x1.k.toNat)] : List UInt8)) ZbQ rfl rfl rfl (hr2.mono hle3) hS7 1 rfl 0 _ _ _ _ _ rfl ⟨[.int .u8 ((UInt8.ofNat x1.k.toNat).toNat : Int)],_,rfl,rfl,rfl⟩ rfl (by have hreach : reach = 140737488355328:=rfl; (simp only [List.length_append,List.length_cons,List.length_nil]; omega)) (by have hreach : reach = 140737488355328:=rfl; (simp only [List.length_append,List.length_cons,List.length_nil]; omega)) rfl rfl rfl (fun v3 o3 w7 hr4 hS8=>?_)
   have hS9:=hS8.tail
   refine Za hS9 (XL.drop 0 hc2) Zr rfl rfl rfl ?_
   refine Xi x1.k 2 rfl rfl rfl (fun h4=>?_) (fun h4=>?_)
   ·refine Za hS9 (XL.drop 2 hc2) YM rfl rfl rfl ?_
    refine Zmm ZbQ ul9 rfl rfl rfl hr4 hS9 0 rfl (by simp) (by have hreach : reach = 140737488355328:=rfl; (simp only [List.length_append,List.length_cons,List.length_nil]; omega)) rfl rfl rfl (fun v4 o4 w9 hr5 hS10=>?_)
    refine WL.buildSlice _ [(0,[.int .u8 0])] [.int .u8 0] hS10 ZbQ rfl rfl rfl rfl (fun z hz=>by match z,hz with | [z0],_=>rfl) (fun b3 w10 hn3 hS11=>?_)
    refine WL.push (m:=([(0 : UInt8)] : List UInt8)) ZbQ rfl rfl rfl hr5 hS11 1 rfl 0 _ _ _ _ _ rfl ⟨[.int .u8 0],_,rfl,rfl,rfl⟩ rfl (by have hreach : reach = 140737488355328:=rfl; (simp only [List.length_append,List.length_cons,List.length_nil]; omega)) (by have hreach : reach = 140737488355328:=rfl; (simp only [List.length_append,List.length_cons,List.length_nil]; omega)) rfl rfl rfl (fun v5 o5 w11 hr6 hS12=>?_)
    have hS13:=hS12.tail
    refine Zj k1 (by have hreach : reach = 140737488355328:=rfl; omega) rfl rfl rfl ?_
    exact BK.mk' _ ⟨k1 + 1,v5,o5,G3,rfl,(hle2.trans hle3),hS13,(Yb.cast hr6 (by (rw [ZeN ‹_›]; (rw [Znz ‹_›]; simp only [List.append_assoc])))),⟨rfl,rfl,rfl,rfl,trivial⟩,(by omega)⟩ (show l.length - (k1 + 1) < l.length - k1 by omega)
   refine Xi x1.k 3 rfl rfl rfl (fun h5=>?_) (fun h5=>?_)
   ·refine Za hS9 (XL.drop 1 hc2) Zr rfl rfl rfl ?_
    refine Zhx x1.n (by exact hvb ‹_›) ul3 ul5 rfl rfl ?_
    refine WL.buildSlice _ [(0,[.int .u8 ((UInt8.ofNat x1.n.toNat).toNat : Int)])] [.int .u8 ((UInt8.ofNat x1.n.toNat).toNat : Int)] hS9 ZbQ rfl rfl rfl rfl (fun z hz=>by match z,hz with | [z0],_=>rfl) (fun b4 w12 hn4 hS14=>?_)
    refine WL.push (m:=([(UInt8.ofNat x1.n.toNat)] : List UInt8)) ZbQ rfl rfl rfl hr4 hS14 1 rfl 0 _ _ _ _ _ rfl ⟨[.int .u8 ((UInt8.ofNat x1.n.toNat).toNat : Int)],_,rfl,rfl,rfl⟩ rfl (by have hreach : reach = 140737488355328:=rfl; (simp only [List.length_append,List.length_cons,List.length_nil]; omega)) (by have hreach : reach = 140737488355328:=rfl; (simp only [List.length_append,List.length_cons,List.length_nil]; omega)) rfl rfl rfl (fun v6 o6 w13 hr7 hS15=>?_)
    have hS16:=hS15.tail
    refine Zj k1 (by have hreach : reach = 140737488355328:=rfl; omega) rfl rfl rfl ?_
    exact BK.mk' _ ⟨k1 + 1,v6,o6,G3,rfl,(hle2.trans hle3),hS16,(Yb.cast hr7 (by (rw [ZeN ‹_›]; (rw [Zn0 ‹_›]; simp only [List.append_assoc])))),⟨rfl,rfl,rfl,rfl,trivial⟩,(by omega)⟩ (show l.length - (k1 + 1) < l.length - k1 by omega)
   refine Za hS9 (XL.drop 1 hc2) Zr rfl rfl rfl <| Znw x1.n ul3 ZqG rfl rfl <| ZrA x1.n hb2 rfl rfl rfl ?_
   refine LP.go ft [] (fun m ρ1 w1=>∃ (j : Nat),∃ (i : Int),∃ (v7 : Value) (o7 : OB),∃ (G4 : GH),m = (8 - j) ∧ G3.le G4 ∧ St w [] G G4 [o7] w1 ∧ Yb Enc.u8 1 5 G4 v7 ((Zaf (l.take k1) ++ [UInt8.ofNat x1.k.toNat]) ++ Zec x1.n j) o7 ∧ FR ρ1 [(4,v7),(7, .int .u64 ((u63 x1.n : Nat) : Int)),(8, .int .i64 i),(19,vl),(20, .int .i64 (l.length : Int)),(21, .int .i64 (k1 : Int))] ∧ j ≤ 8 ∧ i = 56 - 8 * (j : Int)) _ ⟨0,56,v3,o3,G3,rfl,(G3.le_refl),hS9,(Yb.cast hr4 (by simp [Zec])),⟨rfl,rfl,rfl,rfl,rfl,rfl,trivial⟩,(by omega),(by omega)⟩ ?_
   rintro m ρ1 w14 ⟨j,i,v7,o7,G4,rfl,hle4,hS17,hr8,hF9,f2,f3⟩
   refine hF9.set ?_
   clear hF9
   have hpl:=@Zp2 x1.n j
   refine Qt i 0 rfl rfl rfl (fun h6=>?_) (fun h6=>?_)
   ·refine ZrB (u63 x1.n) i (by omega) (by omega) rfl rfl rfl ?_
    refine Zhx ((((u63 x1.n) / 2 ^ i.toNat) : Nat) : Int) (by exact Int.natCast_nonneg _) ZqG ul5 rfl rfl ?_
    refine WL.buildSlice _ [(0,[.int .u8 ((UInt8.ofNat ((((u63 x1.n) / 2 ^ i.toNat) : Nat) : Int).toNat).toNat : Int)])] [.int .u8 ((UInt8.ofNat ((((u63 x1.n) / 2 ^ i.toNat) : Nat) : Int).toNat).toNat : Int)] hS17 ZbQ rfl rfl rfl rfl (fun z hz=>by match z,hz with | [z0],_=>rfl) (fun b5 w15 hn5 hS18=>?_)
    refine WL.push (m:=([(UInt8.ofNat ((((u63 x1.n) / 2 ^ i.toNat) : Nat) : Int).toNat)] : List UInt8)) ZbQ rfl rfl rfl hr8 hS18 1 rfl 0 _ _ _ _ _ rfl ⟨[.int .u8 ((UInt8.ofNat ((((u63 x1.n) / 2 ^ i.toNat) : Nat) : Int).toNat).toNat : Int)],_,rfl,rfl,rfl⟩ rfl (by have hreach : reach = 140737488355328:=rfl; (simp only [List.length_append,List.length_cons,List.length_nil]; omega)) (by have hreach : reach = 140737488355328:=rfl; (simp only [List.length_append,List.length_cons,List.length_nil]; omega)) rfl rfl rfl (fun v9 o8 w16 hr9 hS19=>?_)
    have hS20:=hS19.tail
    have hi1 : Z1 (i - 8):=by constructor <;> omega
    refine Zcn .sub rfl i 8 rfl rfl rfl hi1 ?_
    exact BK.mk' _ ⟨j + 1,(i - 8),v9,o8,G4,rfl,hle4,hS20,(Yb.cast hr9 (by (rw [Zny ‹_› ‹_›]; simp only [List.append_assoc]))),⟨rfl,rfl,rfl,rfl,rfl,rfl,trivial⟩,(by omega),(by omega)⟩ (show (8 - (j + 1)) < (8 - j) by omega)
   refine Zj k1 (by have hreach : reach = 140737488355328:=rfl; omega) rfl rfl rfl ?_
   exact BK.mk' _ ⟨k1 + 1,v7,o7,G4,rfl,(hle2.trans (hle3.trans hle4)),hS17,(Yb.cast hr8 (by (rw [ZeN ‹_›]; (rw [Zp4 ‹_› ‹_›,Zp3 (by omega)]; simp only [List.append_assoc])))),⟨rfl,rfl,rfl,rfl,trivial⟩,(by omega)⟩ (show l.length - (k1 + 1) < l.length - k1 by omega)
  obtain ⟨G5,hle5,hs1,hS21⟩:=Yb.freeze hr2 hS3 0 rfl
  exact RT hS21 rfl ⟨_,_,rfl,(Sl.cast hs1 (by (rw [List.take_of_length_le (by omega)]; exact (Zp5 (by omega) ‹_›).symm))),(congrArg (Value.int .i64) (by exact (Ztj (by omega) ‹_›).symm))⟩
 exact RT hS1 rfl ⟨_,_,rfl,(Sl.cast (Sl.nil Enc.u8 1 G1) (by exact (Zp7 ‹_›).symm)),(congrArg (Value.int .i64) (by exact (Ztl (by omega) ‹_›).symm))⟩
theorem ZuK {G : GH} {w : World} (hG : G.In w) (l : List Val) (vl : Value) (hvl : Sl ValE 32 G vl l) : CL Tryz.prog (nat_lit 137) #[vl] [] w G fun _ _ r=>r = Zc (XY l):=by
 refine Zh ft [] Tryz.func137 rfl rfl ?_
 have hS:=St.start (X:=[]) hG
 refine Z8 hS Zu6 rfl rfl rfl (Zqe hS.imm l _ hvl) ?_
 rintro w1 G1 _ ⟨r2,_,rfl,hs1,rfl⟩ hS1 hle1
 refine ZkG hs1 hS1 ZqF ul5 ul9 rfl rfl ?_
 exact RT hS1 rfl (congrArg Zc (by rfl))
end Go.Civ
set_option linter.unusedVariables false
set_option linter.unusedSimpArgs false
set_option maxRecDepth 100000
set_option maxHeartbeats 4000000
namespace Go.Civ
open Go.Proofs
theorem Zoh {G : GH} {w : World} (hG : G.In w) (x y : HGrp) (cx : List Value) (hcx : Zbr.rep G x cx) (cy : List Value) (hcy : Zbr.rep G y cy) : CL Tryz.prog (nat_lit 139) #[.agg cx.toArray, .agg cy.toArray] [] w G fun _ _ r=>r = .int .i64 (Xr x.v y.v):=by
 refine Zh ft [] Tryz.func139 rfl rfl ?_
 have hS:=St.start (X:=[]) hG
 obtain ⟨v1,v2,rfl,hs1,hs2⟩:=QU hcx
 obtain ⟨v3,v4,rfl,hs3,hs4⟩:=QU hcy
 refine Z3 [v1,v2] _ hS rfl rfl rfl (fun p1 w1 G1 hle1 hsp1 hc1 hS1=>?_)
 refine Z3 [v3,v4] _ hS1 rfl rfl rfl (fun p2 w2 G2 hle2 hsp2 hc2 hS2=>?_)
 refine Za hS2 (XL.drop 0 (hc1.mono hle2)) ZN rfl rfl rfl <| Za hS2 (XL.drop 0 hc2) ZN rfl rfl rfl ?_
 refine Zn hS2 ZiJ rfl rfl rfl (Zfp hS2.imm x.v y.v _ (hs1.mono (hle1.trans hle2)) _ (hs3.mono (hle1.trans hle2))) (fun w3 G3 hS3 hle3=>?_)
 exact RI hS3 rfl (by rfl)
end Go.Civ
set_option linter.unusedVariables false
namespace Go.Civ
open Go.Proofs Go.Shelf Go.RowKit Go.Lib Go.Sort
theorem Zsd {G : GH} {w : World} (hG : G.In w) (l : List HGrp) (vd : Value) (od : OB) (hvd : Yb Zbr 48 (nat_lit 136) G vd l od) (hod : Zat w G od) (hV : ∀ g ∈ l,g.v.all ZK = true) :
  Calls Tryz.prog (nat_lit 138) #[vd, .func (.func 139) #[] #[]] w fun e w'=>∃ r G',e = .returned r ∧ Res (blk od) w G w' G' ∧ r = .tuple #[] ∧ ∃ (l' : List HGrp) (o' : OB),Yb Zbr 48 (nat_lit 136) G' vd l' o' ∧ Zat w' G' o' ∧ (l'.Perm l ∧ l'.Pairwise fun x y=>¬ Xr y.v x.v < 0):=
 Zlq Tryz.sortGr (E:=Zbr) (by decide) Tryz.isAgg136 Tryz.sizeOf136 (fun x y=>Xr x.v y.v) (fun g=>g.v.all ZK = true)
  (fun x hx=>by rw [XM hx hx,ord.refl]; omega)
  (fun x y z hx hy hz p q=>by rw [XM hx hy] at p; rw [XM hy hz] at q; rw [XM hx hz]; exact ord.trans _ _ _ p q)
  (fun x y z hx hy hz p q=>by rw [XM hx hy] at p; rw [XM hy hz] at q; rw [XM hx hz]; exact ord.le_trans q p)
  139 (enters_of Tryz.func139 (by kernel_rfl) rfl) hG (fun W hW x y cx cy hx hy rx ry=>Zoh hW x y cx rx cy ry)
  ⟨[],[]⟩ _ (ZdW ⟨[],[]⟩ (Sl.nil _ _ _) (Sl.nil _ _ _)) rfl l hV vd od hvd hod
end Go.Civ
set_option linter.unusedVariables false
set_option linter.unusedSimpArgs false
set_option maxRecDepth 100000
set_option maxHeartbeats 4000000
namespace Go.Civ
open Go.Proofs
theorem Zm8 {G : GH} {w : World} (hG : G.In w) (x y : Val) (cx : List Value) (hcx : ValE.rep G x cx) (cy : List Value) (hcy : ValE.rep G y cy) : CL Tryz.prog (nat_lit 213) #[.agg cx.toArray, .agg cy.toArray] [] w G fun _ _ r=>r = .int .i64 (cmpV x y):=by
 refine Zh ft [] Tryz.func213 rfl rfl ?_
 have hS:=St.start (X:=[]) hG
 obtain ⟨rfl,hb1,hb2,hb3⟩:=Y4 hcx
 obtain ⟨rfl,hb4,hb5,hb6⟩:=Y4 hcy
 refine Z3 [.int .i64 x.k, .int .i64 x.n,Zc x.s] _ hS rfl rfl rfl (fun p1 w1 G1 hle1 hsp1 hc1 hS1=>?_)
 refine Z3 [.int .i64 y.k, .int .i64 y.n,Zc y.s] _ hS1 rfl rfl rfl (fun p2 w2 G2 hle2 hsp2 hc2 hS2=>?_)
 refine Za hS2 (XL.drop 0 (hc1.mono hle2)) Zr rfl rfl rfl <| Za hS2 (XL.drop 0 hc2) Zr rfl rfl rfl ?_
 refine Xn x.k y.k rfl rfl rfl (fun h1=>?_) (fun h1=>?_)
 ·refine Za hS2 (XL.drop 0 (hc1.mono hle2)) Zr rfl rfl rfl <| Za hS2 (XL.drop 0 hc2) Zr rfl rfl rfl ?_
  refine Zn hS2 ZdR rfl rfl rfl (ZcF hS2.imm x.k y.k) (fun w3 G3 hS3 hle3=>?_)
  exact RI hS3 rfl (by exact (ZsW ‹_›).symm)
 refine Za hS2 (XL.drop 1 (hc1.mono hle2)) Zr rfl rfl rfl <| Za hS2 (XL.drop 1 hc2) Zr rfl rfl rfl ?_
 refine Xn x.n y.n rfl rfl rfl (fun h2=>?_) (fun h2=>?_)
 ·refine Za hS2 (XL.drop 1 (hc1.mono hle2)) Zr rfl rfl rfl <| Za hS2 (XL.drop 1 hc2) Zr rfl rfl rfl ?_
  refine Zn hS2 ZdR rfl rfl rfl (ZcF hS2.imm x.n y.n) (fun w4 G4 hS4 hle4=>?_)
  exact RI hS4 rfl (by exact (ZsX ‹_› ‹_›).symm)
 refine LP.go ft [] (fun m ρ1 w1=>∃ (k1 : Nat),∃ (G5 : GH),m = x.s.length - k1 ∧ G2.le G5 ∧ St w [] G G5 [] w1 ∧ FR ρ1 [(2, .pointer (some p1)),(3, .pointer (some p2)),(5, .int .i64 (k1 : Int))] ∧ k1 ≤ x.s.length ∧ ∀ j,j < k1 → ∀ c d,x.s[j]? = some c → y.s[j]? = some d → c = d) _ ⟨0,G2,rfl,(G2.le_refl),hS2,⟨rfl,rfl,rfl,trivial⟩,(by omega),(by intro j hj; omega)⟩ ?_
 rintro m ρ1 w5 ⟨k1,G5,rfl,hle5,hS5,hF9,f1,f2⟩
 refine hF9.set ?_
 clear hF9
 refine Za hS5 (XL.drop 2 (hc1.mono (hle2.trans hle5))) YM rfl rfl rfl <| Qb x.s ul9 rfl rfl ?_
 refine Zm (k1 : Int) (x.s.length : Int) rfl rfl rfl (fun h3=>?_) (fun h3=>?_)
 ·refine Za hS5 (XL.drop 2 (hc2.mono hle5)) YM rfl rfl rfl <| Qb y.s ul9 rfl rfl ?_
  refine Zm (k1 : Int) (y.s.length : Int) rfl rfl rfl (fun h4=>?_) (fun h4=>?_)
  ·obtain ⟨c1,hx1⟩ : ∃ c,x.s[k1]? = some c:=⟨_,List.getElem?_eq_getElem (by omega)⟩
   obtain ⟨c2,hx2⟩ : ∃ c,y.s[k1]? = some c:=⟨_,List.getElem?_eq_getElem (by omega)⟩
   rcases Cmp.dec .neq (c1.toNat : Int) (c2.toNat : Int) with ⟨hb7,q1⟩ | ⟨hb7,q1⟩
   ·have h5 : (c1.toNat : Int) ≠ (c2.toNat : Int):=q1
    clear q1
    refine dr [] [(41,Zc x.s),(43, .int .u8 (c1.toNat : Int)),(45,Zc y.s),(47, .int .u8 (c2.toNat : Int)),(48, .bool true)] hS5 ⟨fun _ hSw=>Za hSw (XL.drop 2 (hc1.mono (hle2.trans hle5))) YM rfl rfl rfl <| nu rfl rfl,fun _=>QG x.s k1 c1 hx1 ul9 rfl rfl rfl <| nu rfl rfl,fun _ hSw=>Za hSw (XL.drop 2 (hc2.mono hle5)) YM rfl rfl rfl <| nu rfl rfl,fun _=>QG y.s k1 c2 hx2 ul9 rfl rfl rfl <| nu rfl rfl,fun _=>WL.cmpV .neq rfl .u8 (c1.toNat : Int) (c2.toNat : Int) _ hb7 rfl rfl rfl <| nu rfl rfl,trivial⟩ (fun w6 hS6=>?_)
    obtain ⟨c3,hx3⟩ : ∃ c,x.s[k1]? = some c:=⟨_,List.getElem?_eq_getElem (by omega)⟩
    obtain rfl : c1 = c3:=Option.some.inj (hx1.symm.trans hx3)
    obtain ⟨c4,hx4⟩ : ∃ c,y.s[k1]? = some c:=⟨_,List.getElem?_eq_getElem (by omega)⟩
    obtain rfl : c2 = c4:=Option.some.inj (hx2.symm.trans hx4)
    refine dr [(11,false)] [(50,Zc x.s),(52, .int .u8 (c1.toNat : Int)),(53, .int .i64 (c1.toNat : Int)),(55,Zc y.s),(57, .int .u8 (c2.toNat : Int)),(58, .int .i64 (c2.toNat : Int)),(59, .int .i64 (Yx (c1.toNat : Int) (c2.toNat : Int)))] hS6 ⟨fun _ hSw=>Za hSw (XL.drop 2 (hc1.mono (hle2.trans hle5))) YM rfl rfl rfl <| nu rfl rfl,fun _=>QG x.s k1 c1 hx1 ul9 rfl rfl rfl <| nu rfl rfl,fun _=>Zjh (c1.toNat : Int) ul5 ul3 (Zsz c1) rfl rfl <| nu rfl rfl,fun _ hSw=>Za hSw (XL.drop 2 (hc2.mono hle5)) YM rfl rfl rfl <| nu rfl rfl,fun _=>QG y.s k1 c2 hx2 ul9 rfl rfl rfl <| nu rfl rfl,fun _=>Zjh (c2.toNat : Int) ul5 ul3 (Zsz c2) rfl rfl <| nu rfl rfl,fun _ hSw=>ZO hSw ZdR rfl rfl rfl (ZcF hSw.imm (c1.toNat : Int) (c2.toNat : Int)) rfl,trivial⟩ (fun w7 hS7=>?_)
    exact RI hS7 rfl (by (rw [Zj8 ‹_› ‹_›]; first | exact (Zfr ‹_› ‹_› ‹_› ‹_›).symm | exact (ZdV ‹_› (by omega)).symm))
   have h5 : (c1.toNat : Int) = (c2.toNat : Int):=q1
   clear q1
   refine dr [] [(41,Zc x.s),(43, .int .u8 (c1.toNat : Int)),(45,Zc y.s),(47, .int .u8 (c2.toNat : Int)),(48, .bool false)] hS5 ⟨fun _ hSw=>Za hSw (XL.drop 2 (hc1.mono (hle2.trans hle5))) YM rfl rfl rfl <| nu rfl rfl,fun _=>QG x.s k1 c1 hx1 ul9 rfl rfl rfl <| nu rfl rfl,fun _ hSw=>Za hSw (XL.drop 2 (hc2.mono hle5)) YM rfl rfl rfl <| nu rfl rfl,fun _=>QG y.s k1 c2 hx2 ul9 rfl rfl rfl <| nu rfl rfl,fun _=>WL.cmpV .neq rfl .u8 (c1.toNat : Int) (c2.toNat : Int) _ hb7 rfl rfl rfl <| nu rfl rfl,trivial⟩ (fun w9 hS8=>?_)
   refine Zj k1 (by have hreach : reach = 140737488355328:=rfl; omega) rfl rfl rfl ?_
   exact BK.mk' _ ⟨k1 + 1,G5,rfl,hle5,hS8,⟨rfl,rfl,rfl,trivial⟩,(by omega),(by exact Zar ‹_› ‹_› ‹_› (ZuG ‹_›))⟩ (show x.s.length - (k1 + 1) < x.s.length - k1 by omega)
  refine Za hS5 (XL.drop 2 (hc1.mono (hle2.trans hle5))) YM rfl rfl rfl <| Qb x.s ul9 rfl rfl <| Za hS5 (XL.drop 2 (hc2.mono hle5)) YM rfl rfl rfl <| Qb y.s ul9 rfl rfl ?_
  refine Zn hS5 ZdR rfl rfl rfl (ZcF hS5.imm (x.s.length : Int) (y.s.length : Int)) (fun w10 G6 hS9 hle6=>?_)
  exact RI hS9 rfl (by (rw [Zj8 ‹_› ‹_›]; first | exact (Zfr ‹_› ‹_› ‹_› ‹_›).symm | exact (ZdV ‹_› (by omega)).symm))
 refine Za hS5 (XL.drop 2 (hc1.mono (hle2.trans hle5))) YM rfl rfl rfl <| Qb x.s ul9 rfl rfl <| Za hS5 (XL.drop 2 (hc2.mono hle5)) YM rfl rfl rfl <| Qb y.s ul9 rfl rfl ?_
 refine Zn hS5 ZdR rfl rfl rfl (ZcF hS5.imm (x.s.length : Int) (y.s.length : Int)) (fun w11 G7 hS10 hle7=>?_)
 exact RI hS10 rfl (by (rw [Zj8 ‹_› ‹_›]; first | exact (Zfr ‹_› ‹_› ‹_› ‹_›).symm | exact (ZdV ‹_› (by omega)).symm))
theorem ZbL {G : GH} {w : World} (hG : G.In w) (a b : List Val) (va : Value) (hva : Sl ValE 32 G va a) (vb : Value) (hvb : Sl ValE 32 G vb b) : CL Tryz.prog (nat_lit 179) #[va,vb] [] w G fun _ _ r=>r = .int .i64 (ZL cmpV a b):=by
 refine Zh ft [] Tryz.func179 rfl rfl ?_
 have hS:=St.start (X:=[]) hG
 refine LP.go ft [] (fun m ρ1 w1=>∃ (k1 : Nat),∃ (G1 : GH),m = a.length - k1 ∧ G.le G1 ∧ St w [] G G1 [] w1 ∧ FR ρ1 [(0,va),(1,vb),(5, .int .i64 (k1 : Int))] ∧ k1 ≤ a.length ∧ ∀ j,j < k1 → ∀ x y,a[j]? = some x → b[j]? = some y → cmpV x y = 0) _ ⟨0,G,rfl,(G.le_refl),hS,⟨rfl,rfl,rfl,trivial⟩,(by omega),(by intro j hj; omega)⟩ ?_
 rintro m ρ1 w1 ⟨k1,G1,rfl,hle1,hS1,hF9,f1,f2⟩
 refine hF9.set ?_
 clear hF9
 have bd1:=hva.bound
 refine Zl (hva.mono hle1) Yz rfl rfl ?_
 refine Zm (k1 : Int) (a.length : Int) rfl rfl rfl (fun h1=>?_) (fun h1=>?_)
 ·have bd2:=hvb.bound
  refine Zl (hvb.mono hle1) Yz rfl rfl ?_
  refine Zm (k1 : Int) (b.length : Int) rfl rfl rfl (fun h2=>?_) (fun h2=>?_)
  ·obtain ⟨p1,x1,hx1,he1,ep1⟩:=Sl.at (hva.mono hle1) k1 (by omega)
   obtain ⟨cs1,hc1,hr1⟩:=he1
   obtain ⟨rfl,hb1,hb2,hb3⟩:=Y4 hr1
   obtain ⟨p2,x2,hx2,he2,ep2⟩:=Sl.at (hvb.mono hle1) k1 (by omega)
   obtain ⟨cs2,hc2,hr2⟩:=he2
   obtain ⟨rfl,hb4,hb5,hb6⟩:=Y4 hr2
   refine dr [(9,false)] [(21, .pointer (some p1)),(22, .agg #[.int .i64 x1.k, .int .i64 x1.n,Zc x1.s]),(25, .pointer (some p2)),(26, .agg #[.int .i64 x2.k, .int .i64 x2.n,Zc x2.s]),(27, .int .i64 (cmpV x1 x2))] hS1 ⟨fun _=>Zi k1 ep1 Yz Ye rfl rfl rfl rfl <| nu rfl rfl,fun _ hSw=>Zd hSw hc1 [.int .i64 x1.k, .int .i64 x1.n,Zc x1.s] Ye rfl rfl rfl rfl rfl <| nu rfl rfl,fun _=>Zi k1 ep2 Yz Ye rfl rfl rfl rfl <| nu rfl rfl,fun _ hSw=>Zd hSw hc2 [.int .i64 x2.k, .int .i64 x2.n,Zc x2.s] Ye rfl rfl rfl rfl rfl <| nu rfl rfl,fun _ hSw=>ZO hSw ZuD rfl rfl rfl (Zm8 hSw.imm x1 x2 _ (Qs x1 hb1 hb2 hb3) _ (Qs x2 hb4 hb5 hb6)) rfl,trivial⟩ (fun w2 hS2=>?_)
   refine Xn (cmpV x1 x2) 0 rfl rfl rfl (fun h3=>?_) (fun h3=>?_)
   ·exact RI hS2 rfl (by exact (Zhk ‹_› ‹_› ‹_› ‹_›).symm)
   refine Zj k1 (by have hreach : reach = 140737488355328:=rfl; omega) rfl rfl rfl ?_
   exact BK.mk' _ ⟨k1 + 1,G1,rfl,hle1,hS2,⟨rfl,rfl,rfl,trivial⟩,(by omega),(by exact Zar ‹_› ‹_› ‹_› ‹_›)⟩ (show a.length - (k1 + 1) < a.length - k1 by omega)
  have bd3:=hva.bound
  refine Zl (hva.mono hle1) Yz rfl rfl ?_
  have bd4:=hvb.bound
  refine Zl (hvb.mono hle1) Yz rfl rfl ?_
  refine Zn hS1 ZdR rfl rfl rfl (ZcF hS1.imm (a.length : Int) (b.length : Int)) (fun w3 G2 hS3 hle2=>?_)
  exact RI hS3 rfl (by exact (ZhR ‹_› (by omega)).symm)
 have bd5:=hva.bound
 refine Zl (hva.mono hle1) Yz rfl rfl ?_
 have bd6:=hvb.bound
 refine Zl (hvb.mono hle1) Yz rfl rfl ?_
 refine Zn hS1 ZdR rfl rfl rfl (ZcF hS1.imm (a.length : Int) (b.length : Int)) (fun w4 G3 hS4 hle3=>?_)
 exact RI hS4 rfl (by exact (ZhR ‹_› (by omega)).symm)
end Go.Civ
