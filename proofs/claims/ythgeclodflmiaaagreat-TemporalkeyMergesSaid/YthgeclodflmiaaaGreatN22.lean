/- Lemmas. -/
import Derived.Test.YthgeclodflmiaaaGreatN11
import Derived.Test.YthgeclodflmiaaaGreatN14
import Derived.Test.YthgeclodflmiaaaGreatN15
import Derived.Test.YthgeclodflmiaaaGreatN18
import Derived.Test.YthgeclodflmiaaaGreatN21
import Derived.Test.YthgeclodflmiaaaGreatProg
import Derived.KernelRfl
import Derived.WalkKit
namespace Go.Civ
open Go.RowKit
set_option linter.unusedVariables false
def Zj4 (l : List HRow) (tx : Int) (v : List Val) (d : Span) : List HRow:=Zaf (l ++ [⟨v,⟨d,⟨tx,253402300800⟩⟩⟩])
def XL (at_ tx : Int) (r : HRow) : Bool:=decide (r.r.d.a ≤ at_) && decide (at_ < r.r.d.b) && YU tx r
def QP (l : List HRow) (at_ tx : Int) : List HRow:=l.filter (XL at_ tx)
def Y3 (l : List HRow) (at_ tx : Int) : VV:=Y7 (QP l at_ tx)
def Zrf (l : List HRow) (tx : Int) (vs : VV) : List Fact:=vs.flatMap fun v=>(YO l v tx).map (Fact.mk v)
theorem Zpf {l : List HRow} {k : Nat} {x : HRow} {at_ tx : Int} (h : l[k]? = some x) (h1 : x.r.d.a ≤ at_) (h2 : at_ < x.r.d.b) (h3 : x.r.x.a ≤ tx) (h4 : tx < x.r.x.b) : QP (l.take (k + 1)) at_ tx = QP (l.take k) at_ tx ++ [x]:=by
 rw [List.take_add_one,h]; unfold QP XL YU; simp [h1,h2,h3,h4]
theorem ZeE {l : List HRow} {k : Nat} {x : HRow} {at_ tx : Int} (h : l[k]? = some x) (h1 : at_ < x.r.d.a ∨ x.r.d.b ≤ at_ ∨ tx < x.r.x.a ∨ x.r.x.b ≤ tx) : QP (l.take (k + 1)) at_ tx = QP (l.take k) at_ tx:=by
 rw [List.take_add_one,h]; unfold QP
 have : XL at_ tx x = false:=by
  rw [Bool.eq_false_iff]; unfold XL YU; simp only [ne_eq,Bool.and_eq_true,decide_eq_true_eq]; omega
 simp [this]
theorem Zpg (l : List HRow) (at_ tx : Int) (k : Nat) : (QP (l.take k) at_ tx).length ≤ l.length:=Nat.le_trans (List.length_filter_le _ _) (List.length_take_le' _ _)
theorem ZeF : ∀ {v s : List Val} {m : List Bool} {k : Nat} {x y : Val} {b : Bool},v[k]? = some x → s[k]? = some y → m[k]? = some b → Xi (v.take (k + 1)) s m = Xi (v.take k) s m ++ [if b then y else x]
 | [],_,_,_,_,_,_,h,_,_=>by simp at h
 | _ :: _,[],_,_,_,_,_,_,h,_=>by simp at h
 | _ :: _,_ :: _,[],_,_,_,_,_,_,h=>by simp at h
 | x0 :: v,y0 :: s,b0 :: m,0,x,y,b,h1,h2,h3=>by simp at h1 h2 h3; subst h1 h2 h3; simp [Xi]
 | x0 :: v,y0 :: s,b0 :: m,k + 1,x,y,b,h1,h2,h3=>by
  simp only [List.take_succ_cons,Xi,List.cons_append]
  rw [ZeF (by simpa using h1) (by simpa using h2) (by simpa using h3)]
theorem Zph {α : Type} {l : List α} {k : Nat} (h : k < l.length) : ∃ x,l[k]? = some x:=⟨_,List.getElem?_eq_getElem h⟩
theorem Ztm {v s : List Val} {m : List Bool} {k : Nat} {y : Val} {b : Bool} (hk : k < v.length) (h2 : s[k]? = some y) (h3 : m[k]? = some b) (hb : b = true) : Xi (v.take (k + 1)) s m = Xi (v.take k) s m ++ [y]:=by
 obtain ⟨x,hx⟩:=Zph hk; rw [ZeF hx h2 h3,hb]; rfl
theorem Ztn {v s : List Val} {m : List Bool} {k : Nat} {x : Val} {b : Bool} (hk : k < s.length) (h2 : v[k]? = some x) (h3 : m[k]? = some b) (hb : b = false) : Xi (v.take (k + 1)) s m = Xi (v.take k) s m ++ [x]:=by
 obtain ⟨y,hy⟩:=Zph hk; rw [ZeF h2 hy h3,hb]; rfl
theorem Zjq (v s : List Val) (m : List Bool) (k : Nat) : (Xi (v.take k) s m).length ≤ v.length:=by rw [Zfu]; exact List.length_take_le' _ _
theorem Znx (s : List Val) (m : List Bool) : Xi [] s m = []:=by simp [Xi]
def rnx (up : Bool) (set : List Val) (mask : List Bool) (v : List Val) : Option (List Val):=if up then some (Xi v set mask) else none
def pc1 (r d : Span) : List Span:=if r.a < d.a then [⟨r.a,d.a⟩] else []
def pc2 (r d : Span) : List Span:=if d.b < r.b then [⟨d.b,r.b⟩] else []
theorem Zdu {r d : Span} (h : r.a < max r.a d.a) : pc1 r d = [⟨r.a,max r.a d.a⟩]:=by unfold pc1; rw [if_pos (by omega)]; congr 2; omega
theorem Zdv {r d : Span} (h : max r.a d.a ≤ r.a) : pc1 r d = []:=by unfold pc1; rw [if_neg (by omega)]
theorem Zdw {r d : Span} (h : min r.b d.b < r.b) : pc2 r d = [⟨min r.b d.b,r.b⟩]:=by unfold pc2; rw [if_pos (by omega)]; congr 2; omega
theorem Zdx {r d : Span} (h : r.b ≤ min r.b d.b) : pc2 r d = []:=by unfold pc2; rw [if_neg (by omega)]
theorem Zdy {up : Bool} {set : List Val} {mask : List Bool} {v : List Val} {r d : Span} {tx : Int} (h : up = true) : Zat (rnx up set mask v) r d tx = [⟨Xi v set mask,⟨⟨max r.a d.a,min r.b d.b⟩,⟨tx,253402300800⟩⟩⟩]:=by subst h; rfl
theorem Zdz {up : Bool} {set : List Val} {mask : List Bool} {v : List Val} {r d : Span} {tx : Int} (h : up = false) : Zat (rnx up set mask v) r d tx = []:=by subst h; rfl
section
variable {hl : List Val → Bool} {nx : List Val → Option (List Val)} {tx : Int} {d : Span} {l : List HRow} {k : Nat} {r : HRow}
theorem Za9 {A B : List Span} {C : List HRow} (h : l[k]? = some r) (hb : r.r.x.b = 253402300800) (h2 : hl r.v = true) (hr : ZC r.r.d = true) (hd : ZC d = true) (h3 : max r.r.d.a d.a < min r.r.d.b d.b)
  (hA : pc1 r.r.d d = A) (hB : pc2 r.r.d d = B) (hC : Zat (nx r.v) r.r.d d tx = C) :
  Yz hl nx tx d (l.take (k + 1)) = (((Yz hl nx tx d (l.take k) ++ [⟨r.v,⟨r.r.d,⟨r.r.x.a,tx⟩⟩⟩]) ++ YD r.v A tx 253402300800) ++ YD r.v B tx 253402300800) ++ C:=by
 rw [Zb8 h,Zo8 hb h2 (by omega) (by omega),ZbF hr hd (by omega) (by omega),hC]
 have : Zai r.r.d d = A ++ B:=by rw [← hA,← hB]; rfl
 rw [this]; simp [YD]
theorem Zig (h : l[k]? = some r) (h1 : r.r.x.b ≠ 253402300800 ∨ hl r.v = false ∨ min r.r.d.b d.b ≤ max r.r.d.a d.a) (hr : ZC r.r.d = true) (hd : ZC d = true) : Yz hl nx tx d (l.take (k + 1)) = Yz hl nx tx d (l.take k) ++ [r]:=by
 rw [Zb8 h,ZqB]
 rcases h1 with h1 | h1 | h1
 ·exact .inl h1
 ·exact .inr (.inl h1)
 ·have:=Yx hr
  have:=Yx hd
  exact .inr (.inr (by omega))
theorem Zny (hr : ZC r.r.d = true) (hd : ZC d = true) : (Xm hl nx tx d r).length ≤ 4:=by
 unfold Xm
 split
 ·rename_i h
  simp only [Bool.and_eq_true] at h
  unfold XY at h
  simp only [Bool.and_eq_true,decide_eq_true_eq] at h
  rw [ZbF hr hd h.1.1.2 h.1.2]
  have:=ZeD r.r.d d
  have h2 : (Zat (nx r.v) r.r.d d tx).length ≤ 1:=by unfold Zat; split <;> simp
  simp only [List.length_append,Zbn,List.length_cons,List.length_nil]
  omega
 ·simp
theorem ZcV (hg : ZA l) (hd : ZC d = true) : ∀ k,(Yz hl nx tx d (l.take k)).length ≤ 4 * k
 | 0=>by simp [Yz]
 | k + 1=>by
  have ih:=ZcV hg hd k
  cases e : l[k]? with
  | none=>rw [List.take_add_one,e]; simp only [Option.toList,List.append_nil]; omega
  | some r=>
   rw [Zb8 e,List.length_append]
   have:=Zny (hl:=hl) (nx:=nx) (tx:=tx) (ZY (hg r (List.mem_of_getElem? e))).2.1 hd
   omega
end
end Go.Civ
namespace Go.Civ
open Go.RowKit
set_option linter.unusedVariables false
section
variable {t : Table} {tx : Int} {v : List Val} {d : Span} {rows : List HRow}
end
section
variable {k : Nat} {t : Table} {tx : Int} {c : Cond} {d : Span}
end
section
variable {k : Nat} {t : Table} {tx : Int} {c : Cond} {set : List Val} {mask : List Bool} {d : Span}
end
theorem Znz {s : Schema} (h : YE s = true) : Z3 (Z9 s) = true:=by
 unfold Z9; rw [if_pos h]
 unfold Z3; simp only [h]; rfl
theorem Zrg {s : Schema} (h : YE s = true) : Z9 s = ⟨s,[], -62135596801⟩ ∧ ZbV s = 0:=⟨(Zj3 h).1.symm,(Zj3 h).2.symm⟩
end Go.Civ
namespace Go.Civ
end Go.Civ
namespace Go.Civ
open Go.RowKit
set_option linter.unusedVariables false
theorem Za5.unique : ∀ {a b : VV},Za5 a → Za5 b → (∀ x,x ∈ a ↔ x ∈ b) → a = b
 | [],[],_,_,_=>rfl
 | [],y :: b,_,_,h=>absurd ((h y).2 (by simp)) (by simp)
 | x :: a,[],_,_,h=>absurd ((h x).1 (by simp)) (by simp)
 | x :: a,y :: b,ha,hb,h=>by
  obtain ⟨ha1,ha2⟩:=List.pairwise_cons.1 ha
  obtain ⟨hb1,hb2⟩:=List.pairwise_cons.1 hb
  have e : x = y:=by
   rcases List.mem_cons.1 ((h x).1 (by simp)) with e | e
   ·exact e
   ·rcases List.mem_cons.1 ((h y).2 (by simp)) with e' | e'
    ·exact e'.symm
    ·have h1:=hb1 x e
     have h2:=ord.trans _ _ _ h1 (by have:=ha1 y e'; omega)
     rw [ord.refl] at h2; omega
  subst e
  rw [Za5.unique ha2 hb2 fun z=>?_]
  have hz:=h z
  constructor
  ·intro hm
   rcases List.mem_cons.1 (hz.1 (by simp [hm])) with e | e
   ·subst e; have:=ha1 z hm; rw [ord.refl] at this; omega
   ·exact e
  ·intro hm
   rcases List.mem_cons.1 (hz.2 (by simp [hm])) with e | e
   ·subst e; have:=hb1 z hm; rw [ord.refl] at this; omega
   ·exact e
theorem ZuC {l : List HRow} (hg : ZA l) (at_ tx : Int) : Za7 l at_ tx = (Y7 l).filter fun v=>YC (YO l v tx) at_:=by
 unfold Za7 Ys
 rw [List.filter_map,List.map_map]
 have e : (HGrp.v ∘ fun v=>(⟨v,YG l v⟩ : HGrp)) = id:=rfl
 rw [e,List.map_id]
 congr 1
 funext v
 simp only [Function.comp,Zcn hg]
theorem Zto {l : List HRow} (hg : ZA l) (tx : Int) : ZhX l tx = Zrf l tx (Y7 l):=by
 unfold ZhX Ys Zrf
 rw [List.flatMap_map]
 congr 1
 funext v
 simp only [Zcn hg]
theorem ZkH {l : List HRow} (hg : ZA l) (v : List Val) (at_ tx : Int) : YC (YO l v tx) at_ = true ↔ ∃ r ∈ l,r.v = v ∧ XL at_ tx r = true:=by
 rw [Zcn hg,Zag]
 unfold Z4
 rw [(Q4 fun s hs=>Yx (ZaY (hg.of v).d tx s hs)).cov]
 unfold cover Yw YG XL
 constructor
 ·rintro ⟨s,hs,h1,h2⟩
  obtain ⟨r,hr,rfl⟩:=List.mem_map.1 hs
  rw [List.mem_filter,List.mem_filter] at hr
  exact ⟨r,hr.1.1,by simpa using hr.1.2,by simp [h1,h2,hr.2]⟩
 ·rintro ⟨r,hr,hv,hh⟩
  simp only [Bool.and_eq_true,decide_eq_true_eq] at hh
  exact ⟨r.r.d,List.mem_map.2 ⟨r,List.mem_filter.2 ⟨List.mem_filter.2 ⟨hr,by simpa using hv⟩,hh.2⟩,rfl⟩,hh.1.1,hh.1.2⟩
theorem Zd0 {l : List HRow} (hg : ZA l) (at_ tx : Int) : Za7 l at_ tx = Y3 l at_ tx:=by
 rw [ZuC hg]
 refine Za5.unique ((Q5 l).filter _) (Q5 _) fun v=>?_
 rw [List.mem_filter,ZkH hg,Y3,Za6,Za6]
 unfold QP
 constructor
 ·rintro ⟨_,r,hr,hv,hh⟩; exact ⟨r,List.mem_filter.2 ⟨hr,hh⟩,hv⟩
 ·rintro ⟨r,hr,hv⟩
  rw [List.mem_filter] at hr
  exact ⟨⟨r,hr.1,hv⟩,r,hr.1,hv,hr.2⟩
theorem Zn0 {l : List HRow} (h : l.all Y0 = true) : ZA l:=fun r hr=>List.all_eq_true.1 h r hr
end Go.Civ
namespace Go.Civ
open Go.RowKit
set_option linter.unusedVariables false
section
variable {t : Table} {tx : Int} {v : List Val} {d : Span}
end
theorem ZuD {t : Table} {x : Int} (h1 : Z3 t = true) (h2 : Yu x = true) : atH t x = Zrf t.rows x (Y7 t.rows):=by
 unfold atH; rw [h1,h2]; exact Zto (ZS h1).1 x
section
variable {t : Table} {a b : Int}
end
end Go.Civ
set_option linter.unusedVariables false
set_option linter.unusedSimpArgs false
set_option maxRecDepth 100000
set_option maxHeartbeats 4000000
namespace Go.Civ
open Go.Proofs
theorem Zrs {G : GH} {w : World} (hG : G.In w) (l : List Val) (vl : Value) (hvl : Sl ValE 32 G vl l) : CL Tryz.prog (nat_lit 184) #[vl] [] w G fun G' _ r=>∃ r0 r1,r = .tuple #[r0,r1] ∧ Sl Enc.u8 1 G' r0 (Ql l) ∧ r1 = .int .i64 (Zgy l):=by
 refine Zf ft [] Tryz.func184 rfl rfl ?_
 have hS:=St.start (X:=[]) hG
 have bd1:=hvl.bound
 refine Zj hvl Yj rfl rfl ?_
 refine YL (l.length : Int) 1000 rfl rfl rfl (fun h1=>?_) (fun h1=>?_)
 ·exact RT hS rfl ⟨_,_,rfl,(Sl.cast (Sl.nil Enc.u8 1 G) (by exact (ZqI (by omega)).symm)),(congrArg (Value.int .i64) (by exact (Zu0 (by omega)).symm))⟩
 refine Zn hS ZmW rfl rfl rfl (Zna hS.imm l _ hvl) (fun w1 G1 hS1 hle1=>?_)
 refine WL.split (fun (h2 : (l.all Zy) = true)=>?_) (fun (h2 : (l.all Zy) = false)=>?_)
 ·have hbl:=(by assumption : Sl ValE 32 G _ l).bound
  have bd2:=hvl.bound
  refine Zj (hvl.mono hle1) Yj rfl rfl ?_
  refine ZfE 9 l.length (by have hreach : reach = 140737488355328:=rfl; omega) rfl rfl rfl ?_
  refine Zni (E:=Enc.u8) (by_:=1) Zcb rfl rfl (9 * l.length) (by have hreach : reach = 140737488355328:=rfl; omega) (by have hreach : reach = 140737488355328:=rfl; omega) hS1 rfl rfl rfl (fun v1 o1 w2 hr1 hS2=>?_)
  have bd3:=hvl.bound
  refine Zj (hvl.mono hle1) Yj rfl rfl ?_
  refine LP.go ft [] (fun m ρ1 w1=>∃ (k1 : Nat),∃ (v2 : Value) (o2 : OB),∃ (G2 : GH),m = l.length - k1 ∧ G1.le G2 ∧ St w [] G G2 [o2] w1 ∧ Yf Enc.u8 1 5 G2 v2 (Zak (l.take k1)) o2 ∧ FR ρ1 [(4,v2),(19,vl),(20, .int .i64 (l.length : Int)),(21, .int .i64 (k1 : Int))] ∧ k1 ≤ l.length) _ ⟨0,v1,o1,G1,rfl,(G1.le_refl),hS2,(Yf.cast hr1 (by rfl)),⟨rfl,rfl,rfl,rfl,trivial⟩,(by omega)⟩ ?_
  rintro m ρ1 w3 ⟨k1,v2,o2,G2,rfl,hle2,hS3,hr2,hF9,f1⟩
  refine hF9.set ?_
  clear hF9
  refine Zo (k1 : Int) (l.length : Int) rfl rfl rfl (fun h3=>?_) (fun h3=>?_)
  ·refine WL.indexAddr (hvl.mono (hle1.trans hle2)) k1 (by omega) Yj ZG rfl rfl rfl rfl (fun p1 x1 hx1 he1=>?_)
   obtain ⟨cs1,hc1,hr3⟩:=he1
   obtain ⟨rfl,hb1,hb2,hb3⟩:=Ya hr3
   refine Zd hS3 hc1 [.int .i64 x1.k, .int .i64 x1.n,Zb x1.s] ZG rfl rfl rfl rfl rfl ?_
   refine WL.alloc hS3 ZG rfl rfl (fun b1 w4 hn1 hS4=>?_)
   refine WL.store hS4 0 _ _ _ 0 _ [.int .i64 x1.k, .int .i64 x1.n,Zb x1.s] [.int .i64 x1.k, .int .i64 x1.n,Zb x1.s] _ rfl rfl ZG rfl (Nat.le_of_ble_eq_true rfl) rfl rfl rfl rfl rfl rfl (fun w5 hS5=>?_)
   obtain ⟨G3,hle3,hc2,hS6⟩:=hS5.shutB hn1
   have hvx:=Zux (by assumption : l.all Zy = true) (by assumption : l[k1]? = some _)
   obtain ⟨hvk,hvb,hvt⟩:=ZsS hvx
   have hel:=ZqD (k:=k1) (by assumption : l.all Zy = true) ‹_›
   refine Za hS6 (XZ.drop 0 hc2) Zl rfl rfl rfl ?_
   refine ZhZ x1.k ‹_› ul3 ul5 rfl rfl ?_
   refine WL.buildSlice _ [(0,[.int .u8 ((UInt8.ofNat x1.k.toNat).toNat : Int)])] [.int .u8 ((UInt8.ofNat x1.k.toNat).toNat : Int)] hS6 Zcb rfl rfl rfl rfl (fun z hz=>by match z,hz with | [z0],_=>rfl) (fun b2 w6 hn2 hS7=>?_)
   refine WL.push (m:=([(UInt8.ofNat x1.k.toNat)] : List UInt8)) Zcb rfl rfl rfl (hr2.mono hle3) hS7 1 rfl 0 _ _ _ _ _ rfl ⟨[.int .u8 ((UInt8.ofNat x1.k.toNat).toNat : Int)],_,rfl,rfl,rfl⟩ rfl (by have hreach : reach = 140737488355328:=rfl; (simp only [List.length_append,List.length_cons,List.length_nil]; omega)) (by have hreach : reach = 140737488355328:=rfl; (simp only [List.length_append,List.length_cons,List.length_nil]; omega)) rfl rfl rfl (fun v3 o3 w7 hr4 hS8=>?_)
   have hS9:=hS8.tail
   refine Za hS9 (XZ.drop 0 hc2) Zl rfl rfl rfl ?_
   refine Zx x1.k 2 rfl rfl rfl (fun h4=>?_) (fun h4=>?_)
   ·refine Za hS9 (XZ.drop 2 hc2) Yk rfl rfl rfl ?_
    refine Znj Zcb QM rfl rfl rfl hr4 hS9 0 rfl (by simp) (by have hreach : reach = 140737488355328:=rfl; (simp only [List.length_append,List.length_cons,List.length_nil]; omega)) rfl rfl rfl (fun v4 o4 w9 hr5 hS10=>?_)
    refine WL.buildSlice _ [(0,[.int .u8 0])] [.int .u8 0] hS10 Zcb rfl rfl rfl rfl (fun z hz=>by match z,hz with | [z0],_=>rfl) (fun b3 w10 hn3 hS11=>?_)
    refine WL.push (m:=([(0 : UInt8)] : List UInt8)) Zcb rfl rfl rfl hr5 hS11 1 rfl 0 _ _ _ _ _ rfl ⟨[.int .u8 0],_,rfl,rfl,rfl⟩ rfl (by have hreach : reach = 140737488355328:=rfl; (simp only [List.length_append,List.length_cons,List.length_nil]; omega)) (by have hreach : reach = 140737488355328:=rfl; (simp only [List.length_append,List.length_cons,List.length_nil]; omega)) rfl rfl rfl (fun v5 o5 w11 hr6 hS12=>?_)
    have hS13:=hS12.tail
    refine Zk k1 (by have hreach : reach = 140737488355328:=rfl; omega) rfl rfl rfl ?_
    exact BK.mk' _ ⟨k1 + 1,v5,o5,G3,rfl,(hle2.trans hle3),hS13,(Yf.cast hr6 (by (rw [Zfr ‹_›]; (rw [ZoC ‹_›]; simp only [List.append_assoc])))),⟨rfl,rfl,rfl,rfl,trivial⟩,(by omega)⟩ (show l.length - (k1 + 1) < l.length - k1 by omega)
   refine Zx x1.k 3 rfl rfl rfl (fun h5=>?_) (fun h5=>?_)
   ·refine Za hS9 (XZ.drop 1 hc2) Zl rfl rfl rfl ?_
    refine ZhZ x1.n (by exact hvb ‹_›) ul3 ul5 rfl rfl ?_
    refine WL.buildSlice _ [(0,[.int .u8 ((UInt8.ofNat x1.n.toNat).toNat : Int)])] [.int .u8 ((UInt8.ofNat x1.n.toNat).toNat : Int)] hS9 Zcb rfl rfl rfl rfl (fun z hz=>by match z,hz with | [z0],_=>rfl) (fun b4 w12 hn4 hS14=>?_)
    refine WL.push (m:=([(UInt8.ofNat x1.n.toNat)] : List UInt8)) Zcb rfl rfl rfl hr4 hS14 1 rfl 0 _ _ _ _ _ rfl ⟨[.int .u8 ((UInt8.ofNat x1.n.toNat).toNat : Int)],_,rfl,rfl,rfl⟩ rfl (by have hreach : reach = 140737488355328:=rfl; (simp only [List.length_append,List.length_cons,List.length_nil]; omega)) (by have hreach : reach = 140737488355328:=rfl; (simp only [List.length_append,List.length_cons,List.length_nil]; omega)) rfl rfl rfl (fun v6 o6 w13 hr7 hS15=>?_)
    have hS16:=hS15.tail
    refine Zk k1 (by have hreach : reach = 140737488355328:=rfl; omega) rfl rfl rfl ?_
    exact BK.mk' _ ⟨k1 + 1,v6,o6,G3,rfl,(hle2.trans hle3),hS16,(Yf.cast hr7 (by (rw [Zfr ‹_›]; (rw [ZoD ‹_›]; simp only [List.append_assoc])))),⟨rfl,rfl,rfl,rfl,trivial⟩,(by omega)⟩ (show l.length - (k1 + 1) < l.length - k1 by omega)
   refine Za hS9 (XZ.drop 1 hc2) Zl rfl rfl rfl <| Zo9 x1.n ul3 ZrP rfl rfl <| ZsP x1.n hb2 rfl rfl rfl ?_
   refine LP.go ft [] (fun m ρ1 w1=>∃ (j : Nat),∃ (i : Int),∃ (v7 : Value) (o7 : OB),∃ (G4 : GH),m = (8 - j) ∧ G3.le G4 ∧ St w [] G G4 [o7] w1 ∧ Yf Enc.u8 1 5 G4 v7 ((Zak (l.take k1) ++ [UInt8.ofNat x1.k.toNat]) ++ Ze7 x1.n j) o7 ∧ FR ρ1 [(4,v7),(7, .int .u64 ((u63 x1.n : Nat) : Int)),(8, .int .i64 i),(19,vl),(20, .int .i64 (l.length : Int)),(21, .int .i64 (k1 : Int))] ∧ j ≤ 8 ∧ i = 56 - 8 * (j : Int)) _ ⟨0,56,v3,o3,G3,rfl,(G3.le_refl),hS9,(Yf.cast hr4 (by simp [Ze7])),⟨rfl,rfl,rfl,rfl,rfl,rfl,trivial⟩,(by omega),(by omega)⟩ ?_
   rintro m ρ1 w14 ⟨j,i,v7,o7,G4,rfl,hle4,hS17,hr8,hF9,f2,f3⟩
   refine hF9.set ?_
   clear hF9
   have hpl:=@ZqE x1.n j
   refine Qo i 0 rfl rfl rfl (fun h6=>?_) (fun h6=>?_)
   ·refine ZsQ (u63 x1.n) i (by omega) (by omega) rfl rfl rfl ?_
    refine ZhZ ((((u63 x1.n) / 2 ^ i.toNat) : Nat) : Int) (by exact Int.natCast_nonneg _) ZrP ul5 rfl rfl ?_
    refine WL.buildSlice _ [(0,[.int .u8 ((UInt8.ofNat ((((u63 x1.n) / 2 ^ i.toNat) : Nat) : Int).toNat).toNat : Int)])] [.int .u8 ((UInt8.ofNat ((((u63 x1.n) / 2 ^ i.toNat) : Nat) : Int).toNat).toNat : Int)] hS17 Zcb rfl rfl rfl rfl (fun z hz=>by match z,hz with | [z0],_=>rfl) (fun b5 w15 hn5 hS18=>?_)
    refine WL.push (m:=([(UInt8.ofNat ((((u63 x1.n) / 2 ^ i.toNat) : Nat) : Int).toNat)] : List UInt8)) Zcb rfl rfl rfl hr8 hS18 1 rfl 0 _ _ _ _ _ rfl ⟨[.int .u8 ((UInt8.ofNat ((((u63 x1.n) / 2 ^ i.toNat) : Nat) : Int).toNat).toNat : Int)],_,rfl,rfl,rfl⟩ rfl (by have hreach : reach = 140737488355328:=rfl; (simp only [List.length_append,List.length_cons,List.length_nil]; omega)) (by have hreach : reach = 140737488355328:=rfl; (simp only [List.length_append,List.length_cons,List.length_nil]; omega)) rfl rfl rfl (fun v9 o8 w16 hr9 hS19=>?_)
    have hS20:=hS19.tail
    have hi1 : Zv (i - 8):=by constructor <;> omega
    refine Zbe .sub rfl i 8 rfl rfl rfl hi1 ?_
    exact BK.mk' _ ⟨j + 1,(i - 8),v9,o8,G4,rfl,hle4,hS20,(Yf.cast hr9 (by (rw [ZoB ‹_› ‹_›]; simp only [List.append_assoc]))),⟨rfl,rfl,rfl,rfl,rfl,rfl,trivial⟩,(by omega),(by omega)⟩ (show (8 - (j + 1)) < (8 - j) by omega)
   refine Zk k1 (by have hreach : reach = 140737488355328:=rfl; omega) rfl rfl rfl ?_
   exact BK.mk' _ ⟨k1 + 1,v7,o7,G4,rfl,(hle2.trans (hle3.trans hle4)),hS17,(Yf.cast hr8 (by (rw [Zfr ‹_›]; (rw [ZqG ‹_› ‹_›,ZqF (by omega)]; simp only [List.append_assoc])))),⟨rfl,rfl,rfl,rfl,trivial⟩,(by omega)⟩ (show l.length - (k1 + 1) < l.length - k1 by omega)
  obtain ⟨G5,hle5,hs1,hS21⟩:=Yf.freeze hr2 hS3 0 rfl
  exact RT hS21 rfl ⟨_,_,rfl,(Sl.cast hs1 (by (rw [List.take_of_length_le (by omega)]; exact (ZqH (by omega) ‹_›).symm))),(congrArg (Value.int .i64) (by exact (Zuz (by omega) ‹_›).symm))⟩
 exact RT hS1 rfl ⟨_,_,rfl,(Sl.cast (Sl.nil Enc.u8 1 G1) (by exact (ZqJ ‹_›).symm)),(congrArg (Value.int .i64) (by exact (Zu1 (by omega) ‹_›).symm))⟩
theorem ZvP {G : GH} {w : World} (hG : G.In w) (l : List Val) (vl : Value) (hvl : Sl ValE 32 G vl l) : CL Tryz.prog (nat_lit 137) #[vl] [] w G fun _ _ r=>r = Zb (Ql l):=by
 refine Zf ft [] Tryz.func137 rfl rfl ?_
 have hS:=St.start (X:=[]) hG
 refine Z6 hS Zv8 rfl rfl rfl (Zrs hS.imm l _ hvl) ?_
 rintro w1 G1 _ ⟨r2,_,rfl,hs1,rfl⟩ hS1 hle1
 refine Zl1 hs1 hS1 ZrO ul5 QM rfl rfl ?_
 exact RT hS1 rfl (congrArg Zb (by rfl))
end Go.Civ
set_option linter.unusedVariables false
set_option linter.unusedSimpArgs false
set_option maxRecDepth 100000
set_option maxHeartbeats 4000000
namespace Go.Civ
open Go.Proofs
theorem Zpw {G : GH} {w : World} (hG : G.In w) (x y : HGrp) (cx : List Value) (hcx : Zb4.rep G x cx) (cy : List Value) (hcy : Zb4.rep G y cy) : CL Tryz.prog (nat_lit 139) #[.agg cx.toArray, .agg cy.toArray] [] w G fun _ _ r=>r = .int .i64 (Xr x.v y.v):=by
 refine Zf ft [] Tryz.func139 rfl rfl ?_
 have hS:=St.start (X:=[]) hG
 obtain ⟨v1,v2,rfl,hs1,hs2⟩:=QZ hcx
 obtain ⟨v3,v4,rfl,hs3,hs4⟩:=QZ hcy
 refine Z1 [v1,v2] _ hS rfl rfl rfl (fun p1 w1 G1 hle1 hsp1 hc1 hS1=>?_)
 refine Z1 [v3,v4] _ hS1 rfl rfl rfl (fun p2 w2 G2 hle2 hsp2 hc2 hS2=>?_)
 refine Za hS2 (XZ.drop 0 (hc1.mono hle2)) ZK rfl rfl rfl <| Za hS2 (XZ.drop 0 hc2) ZK rfl rfl rfl ?_
 refine Zn hS2 Zju rfl rfl rfl (ZfH hS2.imm x.v y.v _ (hs1.mono (hle1.trans hle2)) _ (hs3.mono (hle1.trans hle2))) (fun w3 G3 hS3 hle3=>?_)
 exact RI hS3 rfl (by rfl)
end Go.Civ
set_option linter.unusedVariables false
namespace Go.Civ
open Go.Proofs Go.Shelf Go.RowKit Go.Lib Go.Sort
theorem Zty {G : GH} {w : World} (hG : G.In w) (l : List HGrp) (vd : Value) (od : OB) (hvd : Yf Zb4 48 (nat_lit 136) G vd l od) (hod : QW w G od) (hV : ∀ g ∈ l,g.v.all Zy = true) :
  Calls Tryz.prog (nat_lit 138) #[vd, .func (.func 139) #[] #[]] w fun e w'=>∃ r G',e = .returned r ∧ Res (QL od) w G w' G' ∧ r = .tuple #[] ∧ ∃ (l' : List HGrp) (o' : OB),Yf Zb4 48 (nat_lit 136) G' vd l' o' ∧ QW w' G' o' ∧ (l'.Perm l ∧ l'.Pairwise fun x y=>¬ Xr y.v x.v < 0):=
 Zme Tryz.sortGr (E:=Zb4) (by decide) Tryz.isAgg136 Tryz.sizeOf136 (fun x y=>Xr x.v y.v) (fun g=>g.v.all Zy = true)
  (fun x hx=>by rw [Qk hx hx,ord.refl]; omega)
  (fun x y z hx hy hz p q=>by rw [Qk hx hy] at p; rw [Qk hy hz] at q; rw [Qk hx hz]; exact ord.trans _ _ _ p q)
  (fun x y z hx hy hz p q=>by rw [Qk hx hy] at p; rw [Qk hy hz] at q; rw [Qk hx hz]; exact ord.le_trans q p)
  139 (enters_of Tryz.func139 (by kernel_rfl) rfl) hG (fun W hW x y cx cy hx hy rx ry=>Zpw hW x y cx rx cy ry)
  ⟨[],[]⟩ _ (Ze0 ⟨[],[]⟩ (Sl.nil _ _ _) (Sl.nil _ _ _)) rfl l hV vd od hvd hod
end Go.Civ
set_option linter.unusedVariables false
set_option linter.unusedSimpArgs false
set_option maxRecDepth 100000
set_option maxHeartbeats 4000000
namespace Go.Civ
open Go.Proofs
theorem ZiZ {G : GH} {w : World} (hG : G.In w) (x : HGrp) (cx : List Value) (hcx : Zb4.rep G x cx) (hgood : ZA x.t) (hl : x.t.length ≤ 2000) : CL Tryz.prog (nat_lit 128) #[.agg cx.toArray] [] w G fun G' _ r=>Sl HRowE 56 G' r (Ze3 x):=by
 refine Zf ft [] Tryz.func128 rfl rfl ?_
 have hS:=St.start (X:=[]) hG
 obtain ⟨v1,v2,rfl,hs1,hs2⟩:=QZ hcx
 refine Z1 [v1,v2] _ hS rfl rfl rfl (fun p1 w1 G1 hle1 hsp1 hc1 hS1=>?_)
 refine Za hS1 (XZ.drop 1 hc1) YX rfl rfl rfl ?_
 have bd1:=hs2.bound
 refine Zj (hs2.mono hle1) Yl rfl rfl ?_
 have hS3:=hS1.pad
 refine LP.go ft [] (fun m ρ1 w1=>∃ (k1 : Nat),∃ (v3 : Value) (o1 : OB),∃ (G2 : GH),m = x.t.length - k1 ∧ G1.le G2 ∧ St w [] G G2 [o1] w1 ∧ Yf Enc.int 8 3 G2 v3 (ZbA (x.t.take k1)) o1 ∧ FR ρ1 [(1, .pointer (some p1)),(3,v3),(14,v2),(15, .int .i64 (x.t.length : Int)),(16, .int .i64 (k1 : Int))] ∧ k1 ≤ x.t.length) _ ⟨0,(.slice none 0 0),none,G1,rfl,(G1.le_refl),hS3,(Yf.nil Enc.int 8 3 G1),⟨rfl,rfl,rfl,rfl,rfl,trivial⟩,(by omega)⟩ ?_
 rintro m ρ1 w2 ⟨k1,v3,o1,G2,rfl,hle2,hS2,hr1,hF9,f1⟩
 refine hF9.set ?_
 clear hF9
 have hfl:=Zjp x.t k1
 refine Zo (k1 : Int) (x.t.length : Int) rfl rfl rfl (fun h1=>?_) (fun h1=>?_)
 ·refine WL.indexAddr (hs2.mono (hle1.trans hle2)) k1 (by omega) Yl Zs rfl rfl rfl rfl (fun p2 x1 hx1 he1=>?_)
  obtain ⟨cs1,hc2,hr2⟩:=he1
  obtain ⟨v4,rfl,hs3,hb1,hb2,hb3,hb4⟩:=Z8 hr2
  refine Zd hS2 hc2 [v4, .int .i64 x1.r.d.a, .int .i64 x1.r.d.b, .int .i64 x1.r.x.a, .int .i64 x1.r.x.b] Zs rfl rfl rfl rfl rfl ?_
  refine WL.alloc hS2 Zs rfl rfl (fun b1 w3 hn1 hS4=>?_)
  refine WL.store hS4 0 _ _ _ 0 _ [v4, .int .i64 x1.r.d.a, .int .i64 x1.r.d.b, .int .i64 x1.r.x.a, .int .i64 x1.r.x.b] [v4, .int .i64 x1.r.d.a, .int .i64 x1.r.d.b, .int .i64 x1.r.x.a, .int .i64 x1.r.x.b] _ rfl rfl Zs rfl (Nat.le_of_ble_eq_true rfl) (by simp only [List.all_cons,List.all_nil,hs3.oneC,Bool.true_and] <;> rfl) rfl rfl rfl rfl rfl (fun w4 hS5=>?_)
  obtain ⟨G3,hle3,hc3,hS6⟩:=hS5.shutB hn1
  refine Za hS6 (XZ.drop 0 (XZ.drop 2 (XZ.drop 1 hc3))) Zl rfl rfl rfl <| Za hS6 (XZ.drop 1 (XZ.drop 2 (XZ.drop 1 hc3))) Zl rfl rfl rfl ?_
  refine WL.buildSlice _ [(0,[.int .i64 x1.r.x.a]),(1,[.int .i64 x1.r.x.b])] [.int .i64 x1.r.x.a, .int .i64 x1.r.x.b] hS6 Yg rfl rfl rfl rfl (fun z hz=>by match z,hz with | [z0,z1],_=>rfl) (fun b2 w5 hn2 hS7=>?_)
  refine WL.push (m:=([x1.r.x.a,x1.r.x.b] : List Int)) Yg rfl rfl rfl (hr1.mono hle3) hS7 1 rfl 0 _ _ _ _ _ rfl ⟨[.int .i64 x1.r.x.a],_,rfl,⟨rfl,hb3⟩,⟨[.int .i64 x1.r.x.b],_,rfl,⟨rfl,hb4⟩,rfl⟩⟩ rfl (by have hreach : reach = 140737488355328:=rfl; simp only [List.length_cons,List.length_nil]; omega) (by have hreach : reach = 140737488355328:=rfl; simp only [List.length_cons,List.length_nil]; omega) rfl rfl rfl (fun v5 o2 w6 hr3 hS8=>?_)
  have hS9:=hS8.tail
  refine Zk k1 (by have hreach : reach = 140737488355328:=rfl; omega) rfl rfl rfl ?_
  exact BK.mk' _ ⟨k1 + 1,v5,o2,G3,rfl,(hle2.trans hle3),hS9,(Yf.cast hr3 (by (rw [Znp ‹_›]))),⟨rfl,rfl,rfl,rfl,rfl,trivial⟩,(by omega)⟩ (show x.t.length - (k1 + 1) < x.t.length - k1 by omega)
 refine ZaC Zvt rfl rfl rfl (Ztd hS2.imm (ZbA (x.t.take k1)) _ _ hr1 (hS2.lentAt 0 rfl)) (fun w7 G4 r1 hres1 hpost1=>?_)
 have hle4:=hres1.le
 obtain ⟨rfl,l1,o3,hr4,hf1,hq1⟩:=hpost1
 have hS11:=hS2.callRow 0 rfl hres1 hr1 hr4 hf1
 refine ZaC Zvu rfl rfl rfl (ZoR hS11.imm l1 _ _ hr4 (hS11.lentAt 0 rfl)) (fun w9 G5 r2 hres2 hpost2=>?_)
 have hle5:=hres2.le
 obtain ⟨o4,hr5,hf2,hq2⟩:=hpost2
 have hS13:=hS11.callRowR 0 rfl hres2 hr4 hr5 hf2 hq2
 refine WL.alloc hS13 YX rfl rfl (fun b3 w10 hn3 hS14=>?_)
 refine WL.alloc hS14 ZmF rfl rfl (fun b4 w11 hn4 hS15=>?_)
 refine WL.alloc hS15 Zl rfl rfl (fun b5 w12 hn5 hS16=>?_)
 refine WL.store hS16 0 _ _ _ 0 _ [.int .i64 0] [.int .i64 0] _ rfl rfl Zl rfl (Nat.le_of_ble_eq_true rfl) rfl rfl rfl rfl rfl rfl (fun w13 hS17=>?_)
 have hS18:=hS17.pad
 have hcut:=Yf.cast (l':=ZL x.t) hr5 (by rw [hq1,ZqT]; exact ZsX (by omega))
 have hcl:=Zdo x.t
 have hci:=ZoG hgood
 have bd2:=hcut.bound
 refine X9 hcut ZN rfl rfl ?_
 refine LP.go ft [] (fun m ρ1 w1=>∃ (k2 : Nat),∃ (nv : Value),∃ (nw : List Span),∃ (fr : Int),∃ (v6 : Value) (o5 : OB),∃ (G6 : GH),m = (ZL x.t).length - k2 ∧ G5.le G6 ∧ St w [] G G6 [o5,some (b5,3,[.int .i64 fr]),some (b4,71,[nv]),some (b3,26,[v6]),o4] w1 ∧ Yf HRowE 56 37 G6 v6 ((Y9 x.v (Z4 x.t) ((ZL x.t).take k2)).out) o5 ∧ FR ρ1 [(1, .pointer (some p1)),(6, .pointer (some ⟨b3,0,none⟩)),(7, .pointer (some ⟨b4,0,none⟩)),(8, .pointer (some ⟨b5,0,none⟩)),(9, .func (.func 178) #[] #[.pointer (some ⟨b4,0,none⟩), .pointer (some ⟨b3,0,none⟩), .pointer (some p1), .pointer (some ⟨b5,0,none⟩)]),(37,r2),(38, .int .i64 (((ZL x.t).length : Nat) : Int)),(39, .int .i64 (k2 : Int))] ∧ k2 ≤ (ZL x.t).length ∧ Sl SpanE 16 G6 nv nw ∧ nw = (Y9 x.v (Z4 x.t) ((ZL x.t).take k2)).now ∧ fr = (Y9 x.v (Z4 x.t) ((ZL x.t).take k2)).fr ∧ Zv fr) _ ⟨0, .slice none 0 0,[],0,(.slice none 0 0),none,G5,rfl,(G5.le_refl),hS18,(Yf.cast (Yf.nil HRowE 56 37 G5) (by simp [Y9])),⟨rfl,rfl,rfl,rfl,rfl,rfl,rfl,rfl,trivial⟩,(by omega),(Sl.nil SpanE 16 G5),(by simp [Y9]),(by simp [Y9]),(Y5)⟩ ?_
 rintro m ρ1 w14 ⟨k2,nv,nw,fr,v6,o5,G6,rfl,hle6,hS19,hr6,hF9,f2,f3,f4,f5,f6⟩
 refine hF9.set ?_
 clear hF9
 have hnw:=(by assumption : nw = (Y9 x.v (Z4 x.t) ((ZL x.t).take k2)).now)
 have hfr:=(by assumption : fr = (Y9 x.v (Z4 x.t) ((ZL x.t).take k2)).fr)
 have hnb:=Zhw (g:=x) hl k2
 have hnl : nw.length ≤ 2000:=by rw [hnw]; exact hnb.2
 refine Zo (k2 : Int) (((ZL x.t).length : Nat) : Int) rfl rfl rfl (fun h2=>?_) (fun h2=>?_)
 ·refine Q2 (hcut.mono hle6) k2 (by omega) ZN Zl rfl rfl rfl rfl (fun p3 x2 ec1 hx2 hr7 ra1=>?_)
  obtain ⟨rfl,hb5⟩:=hr7
  refine Zmz ra1 hS19 4 rfl _ rfl Zl rfl rfl rfl ?_
  have hc64:=hci _ (List.mem_of_getElem? (by assumption : (ZL x.t)[k2]? = some _))
  refine Za hS19 (XZ.drop 1 (hc1.mono (((hle2.trans hle4).trans hle5).trans hle6))) YX rfl rfl rfl ?_
  refine Z6 hS19 Zqw rfl rfl rfl (Zg0 hS19.imm x.t x2 _ (hs2.mono ((((hle1.trans hle2).trans hle4).trans hle5).trans hle6)) hgood hl) (fun w15 G7 r3 hpost3 hS20 hle7=>?_)
  refine ZM hS20 2 _ _ _ 0 _ rfl rfl ZmF rfl rfl rfl ?_
  refine Zn hS20 Zqu rfl rfl rfl (ZeA hS20.imm nw (Z4 x.t x2) _ (f3.mono hle7) _ hpost3) (fun w16 G9 hS21 hle9=>?_)
  refine WL.split (fun (h3 : (decide (nw = (Z4 x.t x2))) = true)=>?_) (fun (h3 : (decide (nw = (Z4 x.t x2))) = false)=>?_)
  ·refine Zk k2 (by have hreach : reach = 140737488355328:=rfl; omega) rfl rfl rfl ?_
   exact BK.mk' _ ⟨k2 + 1,nv,nw,fr,v6,o5,G9,rfl,(hle6.trans (hle7.trans hle9)),hS21,(Yf.cast (hr6.mono (hle7.trans hle9)) (by (exact (congrArg NS.out (ZbU ‹_› (by rw [← hnw]; exact of_decide_eq_true ‹_›))).symm))),⟨rfl,rfl,rfl,rfl,rfl,rfl,rfl,rfl,trivial⟩,(by omega),((f3.mono (hle7.trans hle9))),(by (rw [ZbU ‹_› (by rw [← hnw]; exact of_decide_eq_true ‹_›)]; exact hnw)),(by (rw [ZbU ‹_› (by rw [← hnw]; exact of_decide_eq_true ‹_›)]; exact hfr)),‹_›⟩ (show (ZL x.t).length - (k2 + 1) < (ZL x.t).length - k2 by omega)
  have hP1 : St w [] G G9 [some (b4,71,[nv]),some (b3,26,[v6]),some (b5,3,[.int .i64 fr]),o5,o4] w16:=hS21.pick [2,3,1,0,4]
  refine ZcD [.int .i64 x2, .pointer (some ⟨b4,0,none⟩), .pointer (some ⟨b3,0,none⟩), .pointer (some p1), .pointer (some ⟨b5,0,none⟩)] #[.pointer (some ⟨b4,0,none⟩), .pointer (some ⟨b3,0,none⟩), .pointer (some p1), .pointer (some ⟨b5,0,none⟩)] Zv5 rfl rfl rfl ((Zte x.v fr x2 ((Y9 x.v (Z4 x.t) ((ZL x.t).take k2)).out) nw _ _ _ _ _ _ (f3.mono (hle7.trans hle9)) (hr6.mono (hle7.trans hle9)) hP1 _ (hs1.mono ((((((hle1.trans hle2).trans hle4).trans hle5).trans hle6).trans hle7).trans hle9)) _ _ (hc1.mono (((((hle2.trans hle4).trans hle5).trans hle6).trans hle7).trans hle9)) hc64 f6 (by omega)).mono ?_)
  rintro e14 w17 ⟨G10,v7,o6,rfl,hle10,hS22,hr8⟩
  refine ⟨_,rfl,?_⟩
  refine WL.store hS22 0 _ _ _ 0 _ [r3] [r3] _ rfl (hpost3.mono (hle9.trans hle10)).cells1 ZmF rfl (Nat.le_of_ble_eq_true rfl) (by simp only [List.all_cons,List.all_nil,(hpost3.mono (hle9.trans hle10)).oneC,Bool.true_and] <;> rfl) rfl rfl rfl rfl rfl (fun w18 hS23=>?_)
  refine WL.store hS23 2 _ _ _ 0 _ [.int .i64 x2] [.int .i64 x2] _ rfl rfl Zl rfl (Nat.le_of_ble_eq_true rfl) rfl rfl rfl rfl rfl rfl (fun w19 hS24=>?_)
  refine Zk k2 (by have hreach : reach = 140737488355328:=rfl; omega) rfl rfl rfl ?_
  have hP2 : St w [] G G10 [o6,some (b5,3,[.int .i64 x2]),some (b4,71,[r3]),some (b3,26,[v7]),o4] w19:=hS24.pick [3,2,0,1,4]
  exact BK.mk' _ ⟨k2 + 1,r3,Z4 x.t x2,x2,v7,o6,G10,rfl,(hle6.trans ((hle7.trans hle9).trans hle10)),hP2,(Yf.cast hr8 (by ((rw [ZcC ‹_› (by rw [← hnw]; exact of_decide_eq_false ‹_›)]; simp only [hnw,hfr])))),⟨rfl,rfl,rfl,rfl,rfl,rfl,rfl,rfl,trivial⟩,(by omega),((hpost3.mono (hle9.trans hle10))),(by (rw [ZcC ‹_› (by rw [← hnw]; exact of_decide_eq_false ‹_›)])),(by (rw [ZcC ‹_› (by rw [← hnw]; exact of_decide_eq_false ‹_›)])),‹_›⟩ (show (ZL x.t).length - (k2 + 1) < (ZL x.t).length - k2 by omega)
 refine ZM hS19 3 _ _ _ 0 _ rfl rfl YX rfl rfl rfl ?_
 obtain ⟨G11,hle11,hs4,hS25⟩:=Yf.freeze hr6 hS19 0 rfl
 exact RT hS25 rfl (Sl.cast hs4 (by exact ZoH (by omega)))
end Go.Civ
