/- Lemmas. -/
import Derived.Test.YthgeclodflmiaaaGreatP12
import Derived.Test.YthgeclodflmiaaaGreatP14
import Derived.Test.YthgeclodflmiaaaGreatP18
import Derived.Test.YthgeclodflmiaaaGreatP19
import Derived.Test.YthgeclodflmiaaaGreatP21
import Derived.Test.YthgeclodflmiaaaGreatP22
import Derived.Test.YthgeclodflmiaaaGreatProg
import Derived.KernelRfl
import Derived.WalkKit
namespace Go.Civ
open Go.RowKit
set_option linter.unusedVariables false
section
variable {d : Nat} {t : Table} {tx : Int} {c : Cond} {p : Span} {set : List Val} {mask : List Bool}
theorem Zke (h : QB t p = true) : Zm t = true ∧ ZC p = true:=by unfold QB at h; simpa using h
end
section
variable {cols : List Col} {set : List Val} {mask : List Bool} {j : Nat}
end
section
variable {t : Table} {a b : Int}
end
end Go.Civ
namespace Go.Civ
open Go.RowKit
set_option linter.unusedVariables false
def UpV (out : VV) (v : List Val) (k : Nat) : Prop:=∀ j,k ≤ j → ∀ u,out[j]? = some u → 0 < Yi cmpV u v
theorem UpV.start {out : VV} {v : List Val} : UpV out v out.length:=fun j hj u hu=>by have:=(List.getElem?_eq_some_iff.1 hu).1; omega
theorem UpV.step {out : VV} {v u : List Val} {k : Nat} (h : UpV out v k) (hu : out[k - 1]? = some u) (h1 : 0 < Yi cmpV u v) : UpV out v (k - 1):=fun j hj w hw=>by
 by_cases e : k ≤ j
 ·exact h j e w hw
 ·obtain rfl : j = k - 1:=by omega
  rw [hu] at hw; obtain rfl:=Option.some.inj hw; exact h1
theorem Zez {kind : Int} {a b : List Span} : (Yb kind a b).length ≤ 2 * (a.length + b.length):=by
 have h:=Zhv (a ++ b)
 rw [List.length_append] at h
 unfold Yb
 exact Nat.le_trans (Zhw _) (by omega)
theorem Zjy {α : Type} {l : List α} {k : Nat} (h : k < l.length) : ∃ x,l[k]? = some x:=⟨_,List.getElem?_eq_getElem h⟩
end Go.Civ
namespace Go.Civ
end Go.Civ
namespace Go.Civ
end Go.Civ
namespace Go.Civ
open Go.RowKit
set_option linter.unusedVariables false
def Zam (at_ tx : Int) (r : HRow) : Bool:=decide (r.r.d.a ≤ at_) && decide (at_ < r.r.d.b) && Y6 tx r
def ZeZ (l : List HRow) (at_ tx : Int) : List HRow:=l.filter (Zam at_ tx)
def Zjz (l : List HRow) (at_ tx : Int) : VV:=YZ (ZeZ l at_ tx)
def ZoN (l : List HRow) (tx : Int) (vs : VV) : List Fact:=vs.flatMap fun v=>(Zbo l v tx).map (Fact.mk v)
section
variable {hl : List Val → Bool} {nx : List Val → Option (List Val)} {tx : Int} {d : Span} {l : List HRow} {k : Nat} {r : HRow}
end
end Go.Civ
namespace Go.Civ
open Go.RowKit
set_option linter.unusedVariables false
section
variable {t : Table} {tx : Int} {v : List Val} {d : Span} {rows : List HRow}
end
section
variable {k : Nat} {t : Table} {tx : Int} {c : Cond} {d : Span}
end
section
variable {k : Nat} {t : Table} {tx : Int} {c : Cond} {set : List Val} {mask : List Bool} {d : Span}
end
theorem ZlF {s : Schema} (h : Yl s = true) : Zm (Z2 s) = true:=by
 unfold Z2; rw [if_pos h]
 unfold Zm; simp only [h]; rfl
theorem ZoO {s : Schema} (h : Yl s = true) : Z2 s = ⟨s,[], -62135596801⟩ ∧ Zbq s = 0:=⟨(Zir h).1.symm,(Zir h).2.symm⟩
end Go.Civ
namespace Go.Civ
end Go.Civ
namespace Go.Civ
open Go.RowKit
set_option linter.unusedVariables false
theorem ZbM.unique : ∀ {a b : VV},ZbM a → ZbM b → (∀ x,x ∈ a ↔ x ∈ b) → a = b
 | [],[],_,_,_=>rfl
 | [],y :: b,_,_,h=>absurd ((h y).2 (by simp)) (by simp)
 | x :: a,[],_,_,h=>absurd ((h x).1 (by simp)) (by simp)
 | x :: a,y :: b,ha,hb,h=>by
  obtain ⟨ha1,ha2⟩:=List.pairwise_cons.1 ha
  obtain ⟨hb1,hb2⟩:=List.pairwise_cons.1 hb
  have e : x = y:=by
   rcases List.mem_cons.1 ((h x).1 (by simp)) with e | e
   ·exact e
   ·rcases List.mem_cons.1 ((h y).2 (by simp)) with e' | e'
    ·exact e'.symm
    ·have h1:=hb1 x e
     have h2:=ord.trans _ _ _ h1 (by have:=ha1 y e'; omega)
     rw [ord.refl] at h2; omega
  subst e
  rw [ZbM.unique ha2 hb2 fun z=>?_]
  have hz:=h z
  constructor
  ·intro hm
   rcases List.mem_cons.1 (hz.1 (by simp [hm])) with e | e
   ·subst e; have:=ha1 z hm; rw [ord.refl] at this; omega
   ·exact e
  ·intro hm
   rcases List.mem_cons.1 (hz.2 (by simp [hm])) with e | e
   ·subst e; have:=hb1 z hm; rw [ord.refl] at this; omega
   ·exact e
theorem Zsk {l : List HRow} (hg : ZA l) (at_ tx : Int) : QG l at_ tx = (YZ l).filter fun v=>Y0 (Zbo l v tx) at_:=by
 unfold QG ZT
 rw [List.filter_map,List.map_map]
 have e : (HGrp.v ∘ fun v=>(⟨v,YI l v⟩ : HGrp)) = id:=rfl
 rw [e,List.map_id]
 congr 1
 funext v
 simp only [Function.comp,ZbA hg]
theorem ZqP {l : List HRow} (hg : ZA l) (tx : Int) : QI l tx = ZoN l tx (YZ l):=by
 unfold QI ZT ZoN
 rw [List.flatMap_map]
 congr 1
 funext v
 simp only [ZbA hg]
theorem Zj0 {l : List HRow} (hg : ZA l) (v : List Val) (at_ tx : Int) : Y0 (Zbo l v tx) at_ = true ↔ ∃ r ∈ l,r.v = v ∧ Zam at_ tx r = true:=by
 rw [ZbA hg,XL]
 unfold Z1
 rw [(X5 fun s hs=>Yp (Zav (hg.of v).d tx s hs)).cov]
 unfold cover Yf YI Zam
 constructor
 ·rintro ⟨s,hs,h1,h2⟩
  obtain ⟨r,hr,rfl⟩:=List.mem_map.1 hs
  rw [List.mem_filter,List.mem_filter] at hr
  exact ⟨r,hr.1.1,by simpa using hr.1.2,by simp [h1,h2,hr.2]⟩
 ·rintro ⟨r,hr,hv,hh⟩
  simp only [Bool.and_eq_true,decide_eq_true_eq] at hh
  exact ⟨r.r.d,List.mem_map.2 ⟨r,List.mem_filter.2 ⟨List.mem_filter.2 ⟨hr,by simpa using hv⟩,hh.2⟩,rfl⟩,hh.1.1,hh.1.2⟩
theorem ZhE {l : List HRow} (hg : ZA l) (at_ tx : Int) : QG l at_ tx = Zjz l at_ tx:=by
 rw [Zsk hg]
 refine ZbM.unique ((Qj l).filter _) (Qj _) fun v=>?_
 rw [List.mem_filter,Zj0 hg,Zjz,Qk,Qk]
 unfold ZeZ
 constructor
 ·rintro ⟨_,r,hr,hv,hh⟩; exact ⟨r,List.mem_filter.2 ⟨hr,hh⟩,hv⟩
 ·rintro ⟨r,hr,hv⟩
  rw [List.mem_filter] at hr
  exact ⟨⟨r,hr.1,hv⟩,r,hr.1,hv,hr.2⟩
theorem ZlG {l : List HRow} (h : l.all Yh = true) : ZA l:=fun r hr=>List.all_eq_true.1 h r hr
end Go.Civ
namespace Go.Civ
open Go.RowKit
set_option linter.unusedVariables false
section
variable {t : Table} {tx : Int} {v : List Val} {d : Span}
end
theorem Zsl {t : Table} {x : Int} (h1 : Zm t = true) (h2 : ZB x = true) : X1 t x = ZoN t.rows x (YZ t.rows):=by
 unfold X1; rw [h1,h2]; exact ZqP (ZE h1).1 x
section
variable {t : Table} {a b : Int}
end
end Go.Civ
set_option linter.unusedVariables false
set_option linter.unusedSimpArgs false
set_option maxRecDepth 100000
set_option maxHeartbeats 4000000
namespace Go.Civ
open Go.Proofs
theorem Zpb {G : GH} {w : World} (hG : G.In w) (l : List Val) (vl : Value) (hvl : Sl ValE 32 G vl l) : CL Tryz.prog (nat_lit 184) #[vl] [] w G fun G' _ r=>∃ r0 r1,r = .tuple #[r0,r1] ∧ Sl Enc.u8 1 G' r0 (XF l) ∧ r1 = .int .i64 (Zf6 l):=by
 refine Zg ft [] Tryz.func184 rfl rfl ?_
 have hS:=St.start (X:=[]) hG
 have bd1:=hvl.bound
 refine Zi hvl Ys rfl rfl ?_
 refine YD (l.length : Int) 1000 rfl rfl rfl (fun h1=>?_) (fun h1=>?_)
 ·exact RT hS rfl ⟨_,_,rfl,(Sl.cast (Sl.nil Enc.u8 1 G) (by exact (Zo4 (by omega)).symm)),(congrArg (Value.int .i64) (by exact (ZrV (by omega)).symm))⟩
 refine Zj hS Zlr rfl rfl rfl (Zlv hS.imm l _ hvl) (fun w1 G1 hS1 hle1=>?_)
 refine WL.split (fun (h2 : (l.all Z9) = true)=>?_) (fun (h2 : (l.all Z9) = false)=>?_)
 ·have hbl:=(by assumption : Sl ValE 32 G _ l).bound
  have bd2:=hvl.bound
  refine Zi (hvl.mono hle1) Ys rfl rfl ?_
  refine ZeP 9 l.length (by have hreach : reach = 140737488355328:=rfl; omega) rfl rfl rfl ?_
  refine Zl1 (E:=Enc.u8) (by_:=1) Zb0 rfl rfl (9 * l.length) (by have hreach : reach = 140737488355328:=rfl; omega) (by have hreach : reach = 140737488355328:=rfl; omega) hS1 rfl rfl rfl (fun v1 o1 w2 hr1 hS2=>?_)
  have bd3:=hvl.bound
  refine Zi (hvl.mono hle1) Ys rfl rfl ?_
  refine LP.go ft [] (fun m ρ1 w1=>∃ (k1 : Nat),∃ (v2 : Value) (o2 : OB),∃ (G2 : GH),m = l.length - k1 ∧ G1.le G2 ∧ St w [] G G2 [o2] w1 ∧ ZS Enc.u8 1 5 G2 v2 (QL (l.take k1)) o2 ∧ FR ρ1 [(4,v2),(19,vl),(20, .int .i64 (l.length : Int)),(21, .int .i64 (k1 : Int))] ∧ k1 ≤ l.length) _ ⟨0,v1,o1,G1,rfl,(G1.le_refl),hS2,(ZS.cast hr1 (by rfl)),⟨rfl,rfl,rfl,rfl,trivial⟩,(by omega)⟩ ?_
  rintro m ρ1 w3 ⟨k1,v2,o2,G2,rfl,hle2,hS3,hr2,hF9,f1⟩
  refine hF9.set ?_
  clear hF9
  refine Zq (k1 : Int) (l.length : Int) rfl rfl rfl (fun h3=>?_) (fun h3=>?_)
  ·refine WL.indexAddr (hvl.mono (hle1.trans hle2)) k1 (by omega) Ys Ya rfl rfl rfl rfl (fun p1 x1 hx1 he1=>?_)
   obtain ⟨cs1,hc1,hr3⟩:=he1
   obtain ⟨rfl,hb1,hb2,hb3⟩:=Yv hr3
   refine Zc hS3 hc1 [.int .i64 x1.k, .int .i64 x1.n,Zd x1.s] Ya rfl rfl rfl rfl rfl ?_
   refine WL.alloc hS3 Ya rfl rfl (fun b1 w4 hn1 hS4=>?_)
   refine WL.store hS4 0 _ _ _ 0 _ [.int .i64 x1.k, .int .i64 x1.n,Zd x1.s] [.int .i64 x1.k, .int .i64 x1.n,Zd x1.s] _ rfl rfl Ya rfl (Nat.le_of_ble_eq_true rfl) rfl rfl rfl rfl rfl rfl (fun w5 hS5=>?_)
   obtain ⟨G3,hle3,hc2,hS6⟩:=hS5.shutB hn1
   have hvx:=ZrS (by assumption : l.all Z9 = true) (by assumption : l[k1]? = some _)
   obtain ⟨hvk,hvb,hvt⟩:=Zq7 hvx
   have hel:=Zoz (k:=k1) (by assumption : l.all Z9 = true) ‹_›
   refine Zb hS6 (Xl.drop 0 hc2) Z7 rfl rfl rfl ?_
   refine ZgY x1.k ‹_› ul3 ul5 rfl rfl ?_
   refine WL.buildSlice _ [(0,[.int .u8 ((UInt8.ofNat x1.k.toNat).toNat : Int)])] [.int .u8 ((UInt8.ofNat x1.k.toNat).toNat : Int)] hS6 Zb0 rfl rfl rfl rfl (fun z hz=>by match z,hz with | [z0],_=>rfl) (fun b2 w6 hn2 hS7=>?_)
   refine WL.push (m:=([(UInt8.ofNat x1.k.toNat)] : List UInt8)) Zb0 rfl rfl rfl (hr2.mono hle3) hS7 1 rfl 0 _ _ _ _ _ rfl ⟨[.int .u8 ((UInt8.ofNat x1.k.toNat).toNat : Int)],_,rfl,rfl,rfl⟩ rfl (by have hreach : reach = 140737488355328:=rfl; (simp only [List.length_append,List.length_cons,List.length_nil]; omega)) (by have hreach : reach = 140737488355328:=rfl; (simp only [List.length_append,List.length_cons,List.length_nil]; omega)) rfl rfl rfl (fun v3 o3 w7 hr4 hS8=>?_)
   have hS9:=hS8.tail
   refine Zb hS9 (Xl.drop 0 hc2) Z7 rfl rfl rfl ?_
   refine YC x1.k 2 rfl rfl rfl (fun h4=>?_) (fun h4=>?_)
   ·refine Zb hS9 (Xl.drop 2 hc2) Yw rfl rfl rfl ?_
    refine Zl2 Zb0 ul9 rfl rfl rfl hr4 hS9 0 rfl (by simp) (by have hreach : reach = 140737488355328:=rfl; (simp only [List.length_append,List.length_cons,List.length_nil]; omega)) rfl rfl rfl (fun v4 o4 w9 hr5 hS10=>?_)
    refine WL.buildSlice _ [(0,[.int .u8 0])] [.int .u8 0] hS10 Zb0 rfl rfl rfl rfl (fun z hz=>by match z,hz with | [z0],_=>rfl) (fun b3 w10 hn3 hS11=>?_)
    refine WL.push (m:=([(0 : UInt8)] : List UInt8)) Zb0 rfl rfl rfl hr5 hS11 1 rfl 0 _ _ _ _ _ rfl ⟨[.int .u8 0],_,rfl,rfl,rfl⟩ rfl (by have hreach : reach = 140737488355328:=rfl; (simp only [List.length_append,List.length_cons,List.length_nil]; omega)) (by have hreach : reach = 140737488355328:=rfl; (simp only [List.length_append,List.length_cons,List.length_nil]; omega)) rfl rfl rfl (fun v5 o5 w11 hr6 hS12=>?_)
    have hS13:=hS12.tail
    refine Zk k1 (by have hreach : reach = 140737488355328:=rfl; omega) rfl rfl rfl ?_
    exact BK.mk' _ ⟨k1 + 1,v5,o5,G3,rfl,(hle2.trans hle3),hS13,(ZS.cast hr6 (by (rw [Zes ‹_›]; (rw [Zm8 ‹_›]; simp only [List.append_assoc])))),⟨rfl,rfl,rfl,rfl,trivial⟩,(by omega)⟩ (show l.length - (k1 + 1) < l.length - k1 by omega)
   refine YC x1.k 3 rfl rfl rfl (fun h5=>?_) (fun h5=>?_)
   ·refine Zb hS9 (Xl.drop 1 hc2) Z7 rfl rfl rfl ?_
    refine ZgY x1.n (by exact hvb ‹_›) ul3 ul5 rfl rfl ?_
    refine WL.buildSlice _ [(0,[.int .u8 ((UInt8.ofNat x1.n.toNat).toNat : Int)])] [.int .u8 ((UInt8.ofNat x1.n.toNat).toNat : Int)] hS9 Zb0 rfl rfl rfl rfl (fun z hz=>by match z,hz with | [z0],_=>rfl) (fun b4 w12 hn4 hS14=>?_)
    refine WL.push (m:=([(UInt8.ofNat x1.n.toNat)] : List UInt8)) Zb0 rfl rfl rfl hr4 hS14 1 rfl 0 _ _ _ _ _ rfl ⟨[.int .u8 ((UInt8.ofNat x1.n.toNat).toNat : Int)],_,rfl,rfl,rfl⟩ rfl (by have hreach : reach = 140737488355328:=rfl; (simp only [List.length_append,List.length_cons,List.length_nil]; omega)) (by have hreach : reach = 140737488355328:=rfl; (simp only [List.length_append,List.length_cons,List.length_nil]; omega)) rfl rfl rfl (fun v6 o6 w13 hr7 hS15=>?_)
    have hS16:=hS15.tail
    refine Zk k1 (by have hreach : reach = 140737488355328:=rfl; omega) rfl rfl rfl ?_
    exact BK.mk' _ ⟨k1 + 1,v6,o6,G3,rfl,(hle2.trans hle3),hS16,(ZS.cast hr7 (by (rw [Zes ‹_›]; (rw [Zm9 ‹_›]; simp only [List.append_assoc])))),⟨rfl,rfl,rfl,rfl,trivial⟩,(by omega)⟩ (show l.length - (k1 + 1) < l.length - k1 by omega)
   refine Zb hS9 (Xl.drop 1 hc2) Z7 rfl rfl rfl <| Zm5 x1.n ul3 Zp7 rfl rfl <| Zq4 x1.n hb2 rfl rfl rfl ?_
   refine LP.go ft [] (fun m ρ1 w1=>∃ (j : Nat),∃ (i : Int),∃ (v7 : Value) (o7 : OB),∃ (G4 : GH),m = (8 - j) ∧ G3.le G4 ∧ St w [] G G4 [o7] w1 ∧ ZS Enc.u8 1 5 G4 v7 ((QL (l.take k1) ++ [UInt8.ofNat x1.k.toNat]) ++ Zd5 x1.n j) o7 ∧ FR ρ1 [(4,v7),(7, .int .u64 ((QX x1.n : Nat) : Int)),(8, .int .i64 i),(19,vl),(20, .int .i64 (l.length : Int)),(21, .int .i64 (k1 : Int))] ∧ j ≤ 8 ∧ i = 56 - 8 * (j : Int)) _ ⟨0,56,v3,o3,G3,rfl,(G3.le_refl),hS9,(ZS.cast hr4 (by simp [Zd5])),⟨rfl,rfl,rfl,rfl,rfl,rfl,trivial⟩,(by omega),(by omega)⟩ ?_
   rintro m ρ1 w14 ⟨j,i,v7,o7,G4,rfl,hle4,hS17,hr8,hF9,f2,f3⟩
   refine hF9.set ?_
   clear hF9
   have hpl:=@Zo0 x1.n j
   refine XJ i 0 rfl rfl rfl (fun h6=>?_) (fun h6=>?_)
   ·refine Zq5 (QX x1.n) i (by omega) (by omega) rfl rfl rfl ?_
    refine ZgY ((((QX x1.n) / 2 ^ i.toNat) : Nat) : Int) (by exact Int.natCast_nonneg _) Zp7 ul5 rfl rfl ?_
    refine WL.buildSlice _ [(0,[.int .u8 ((UInt8.ofNat ((((QX x1.n) / 2 ^ i.toNat) : Nat) : Int).toNat).toNat : Int)])] [.int .u8 ((UInt8.ofNat ((((QX x1.n) / 2 ^ i.toNat) : Nat) : Int).toNat).toNat : Int)] hS17 Zb0 rfl rfl rfl rfl (fun z hz=>by match z,hz with | [z0],_=>rfl) (fun b5 w15 hn5 hS18=>?_)
    refine WL.push (m:=([(UInt8.ofNat ((((QX x1.n) / 2 ^ i.toNat) : Nat) : Int).toNat)] : List UInt8)) Zb0 rfl rfl rfl hr8 hS18 1 rfl 0 _ _ _ _ _ rfl ⟨[.int .u8 ((UInt8.ofNat ((((QX x1.n) / 2 ^ i.toNat) : Nat) : Int).toNat).toNat : Int)],_,rfl,rfl,rfl⟩ rfl (by have hreach : reach = 140737488355328:=rfl; (simp only [List.length_append,List.length_cons,List.length_nil]; omega)) (by have hreach : reach = 140737488355328:=rfl; (simp only [List.length_append,List.length_cons,List.length_nil]; omega)) rfl rfl rfl (fun v9 o8 w16 hr9 hS19=>?_)
    have hS20:=hS19.tail
    have hi1 : Zy (i - 8):=by constructor <;> omega
    refine Zdi .sub rfl i 8 rfl rfl rfl hi1 ?_
    exact BK.mk' _ ⟨j + 1,(i - 8),v9,o8,G4,rfl,hle4,hS20,(ZS.cast hr9 (by (rw [Zm7 ‹_› ‹_›]; simp only [List.append_assoc]))),⟨rfl,rfl,rfl,rfl,rfl,rfl,trivial⟩,(by omega),(by omega)⟩ (show (8 - (j + 1)) < (8 - j) by omega)
   refine Zk k1 (by have hreach : reach = 140737488355328:=rfl; omega) rfl rfl rfl ?_
   exact BK.mk' _ ⟨k1 + 1,v7,o7,G4,rfl,(hle2.trans (hle3.trans hle4)),hS17,(ZS.cast hr8 (by (rw [Zes ‹_›]; (rw [Zo2 ‹_› ‹_›,Zo1 (by omega)]; simp only [List.append_assoc])))),⟨rfl,rfl,rfl,rfl,trivial⟩,(by omega)⟩ (show l.length - (k1 + 1) < l.length - k1 by omega)
  obtain ⟨G5,hle5,hs1,hS21⟩:=ZS.freeze hr2 hS3 0 rfl
  exact RT hS21 rfl ⟨_,_,rfl,(Sl.cast hs1 (by (rw [List.take_of_length_le (by omega)]; exact (Zo3 (by omega) ‹_›).symm))),(congrArg (Value.int .i64) (by exact (ZrU (by omega) ‹_›).symm))⟩
 exact RT hS1 rfl ⟨_,_,rfl,(Sl.cast (Sl.nil Enc.u8 1 G1) (by exact (Zo5 ‹_›).symm)),(congrArg (Value.int .i64) (by exact (ZrW (by omega) ‹_›).symm))⟩
theorem Ztv {G : GH} {w : World} (hG : G.In w) (l : List Val) (vl : Value) (hvl : Sl ValE 32 G vl l) : CL Tryz.prog (nat_lit 137) #[vl] [] w G fun _ _ r=>r = Zd (XF l):=by
 refine Zg ft [] Tryz.func137 rfl rfl ?_
 have hS:=St.start (X:=[]) hG
 refine Z3 hS Ztj rfl rfl rfl (Zpb hS.imm l _ hvl) ?_
 rintro w1 G1 _ ⟨r2,_,rfl,hs1,rfl⟩ hS1 hle1
 refine ZjZ hs1 hS1 Zp6 ul5 ul9 rfl rfl ?_
 exact RT hS1 rfl (congrArg Zd (by rfl))
end Go.Civ
set_option linter.unusedVariables false
set_option linter.unusedSimpArgs false
set_option maxRecDepth 100000
set_option maxHeartbeats 4000000
namespace Go.Civ
open Go.Proofs
theorem Znh {G : GH} {w : World} (hG : G.In w) (x y : HGrp) (cx : List Value) (hcx : ZaL.rep G x cx) (cy : List Value) (hcy : ZaL.rep G y cy) : CL Tryz.prog (nat_lit 139) #[.agg cx.toArray, .agg cy.toArray] [] w G fun _ _ r=>r = .int .i64 (YU x.v y.v):=by
 refine Zg ft [] Tryz.func139 rfl rfl ?_
 have hS:=St.start (X:=[]) hG
 obtain ⟨v1,v2,rfl,hs1,hs2⟩:=Q9 hcx
 obtain ⟨v3,v4,rfl,hs3,hs4⟩:=Q9 hcy
 refine Zu [v1,v2] _ hS rfl rfl rfl (fun p1 w1 G1 hle1 hsp1 hc1 hS1=>?_)
 refine Zu [v3,v4] _ hS1 rfl rfl rfl (fun p2 w2 G2 hle2 hsp2 hc2 hS2=>?_)
 refine Zb hS2 (Xl.drop 0 (hc1.mono hle2)) ZG rfl rfl rfl <| Zb hS2 (Xl.drop 0 hc2) ZG rfl rfl rfl ?_
 refine Zj hS2 Zin rfl rfl rfl (ZeT hS2.imm x.v y.v _ (hs1.mono (hle1.trans hle2)) _ (hs3.mono (hle1.trans hle2))) (fun w3 G3 hS3 hle3=>?_)
 exact RI hS3 rfl (by rfl)
end Go.Civ
set_option linter.unusedVariables false
namespace Go.Civ
open Go.Proofs Go.Shelf Go.RowKit Go.Lib Go.Sort
theorem ZqX {G : GH} {w : World} (hG : G.In w) (l : List HGrp) (vd : Value) (od : OB) (hvd : ZS ZaL 48 (nat_lit 136) G vd l od) (hod : QW w G od) (hV : ∀ g ∈ l,g.v.all Z9 = true) :
  Calls Tryz.prog (nat_lit 138) #[vd, .func (.func 139) #[] #[]] w fun e w'=>∃ r G',e = .returned r ∧ Res (blk od) w G w' G' ∧ r = .tuple #[] ∧ ∃ (l' : List HGrp) (o' : OB),ZS ZaL 48 (nat_lit 136) G' vd l' o' ∧ QW w' G' o' ∧ (l'.Perm l ∧ l'.Pairwise fun x y=>¬ YU y.v x.v < 0):=
 Zk8 Tryz.sortGr (E:=ZaL) (by decide) Tryz.isAgg136 Tryz.sizeOf136 (fun x y=>YU x.v y.v) (fun g=>g.v.all Z9 = true)
  (fun x hx=>by rw [XE hx hx,ord.refl]; omega)
  (fun x y z hx hy hz p q=>by rw [XE hx hy] at p; rw [XE hy hz] at q; rw [XE hx hz]; exact ord.trans _ _ _ p q)
  (fun x y z hx hy hz p q=>by rw [XE hx hy] at p; rw [XE hy hz] at q; rw [XE hx hz]; exact ord.le_trans q p)
  139 (enters_of Tryz.func139 (by kernel_rfl) rfl) hG (fun W hW x y cx cy hx hy rx ry=>Znh hW x y cx rx cy ry)
  ⟨[],[]⟩ _ (Zdy ⟨[],[]⟩ (Sl.nil _ _ _) (Sl.nil _ _ _)) rfl l hV vd od hvd hod
end Go.Civ
