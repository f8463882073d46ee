/- Lemmas. -/
import Derived.Test.YthgeclodflmiaaaGreatN12
import Derived.Test.YthgeclodflmiaaaGreatN17
import Derived.Test.YthgeclodflmiaaaGreatN19
import Derived.Test.YthgeclodflmiaaaGreatN21
import Derived.Test.YthgeclodflmiaaaGreatN22
import Derived.Test.YthgeclodflmiaaaGreatN25
import Derived.Test.YthgeclodflmiaaaGreatN27
import Derived.Test.YthgeclodflmiaaaGreatN29
import Derived.Test.YthgeclodflmiaaaGreatN30
import Derived.Test.YthgeclodflmiaaaGreatProg
import Derived.KernelRfl
import Derived.WalkKit
set_option linter.unusedVariables false
set_option linter.unusedSimpArgs false
set_option maxRecDepth 100000
set_option maxHeartbeats 4000000
namespace Go.Civ
open Go.Proofs
theorem Zrz {G : GH} {w : World} (hG : G.In w) (d : Nat) (c : Cond) (ns : List (List UInt8)) (l : List Val) (cc : List Value) (hcc : (YT d).rep G c cc) (vn : Value) (hvn : Sl Enc.str 16 G vn ns) (vl : Value) (hvl : Sl ValE 32 G vl l) : CL Tryz.prog (nat_lit 182) #[.agg cc.toArray,vn,vl] [] w G fun _ _ r=>∃ r0 r1,r = .tuple #[r0,r1] ∧ r0 = .bool (X7 d c ns l) ∧ r1 = .int .i64 (Ze4 d c ns l):=by
 refine Zf ft [] Tryz.func182 rfl rfl ?_
 have hS:=St.start (X:=[]) hG
 obtain ⟨lv1,rfl,hb1,hb2,hb3,hb4,hb5,hb6,ho1⟩:=Xs hcc
 refine Z1 [.int .i64 c.kind,Zb c.col,Zb c.oth, .int .i64 c.v.k, .int .i64 c.v.n,Zb c.v.s,lv1] _ hS rfl rfl rfl (fun p1 w1 G1 hle1 hsp1 hc1 hS1=>?_)
 have bd1:=hvn.bound
 refine Zj (hvn.mono hle1) ZbN rfl rfl ?_
 have bd2:=hvl.bound
 refine Zj (hvl.mono hle1) Yj rfl rfl ?_
 refine Yy (ns.length : Int) (l.length : Int) rfl rfl rfl (fun h1=>?_) (fun h1=>?_)
 ·exact RT hS1 rfl ⟨_,_,rfl,(congrArg Value.bool (by exact (ZdX (by first | exact .inl (by omega) | exact .inr (.inl (by omega)) | exact .inr (.inr ‹_›))).1.symm)),(congrArg (Value.int .i64) (by exact (ZdX (by first | exact .inl (by omega) | exact .inr (.inl (by omega)) | exact .inr (.inr ‹_›))).2.symm))⟩
 have bd3:=hvn.bound
 refine Zj (hvn.mono hle1) ZbN rfl rfl ?_
 refine YL (ns.length : Int) 100 rfl rfl rfl (fun h2=>?_) (fun h2=>?_)
 ·exact RT hS1 rfl ⟨_,_,rfl,(congrArg Value.bool (by exact (ZdX (by first | exact .inl (by omega) | exact .inr (.inl (by omega)) | exact .inr (.inr ‹_›))).1.symm)),(congrArg (Value.int .i64) (by exact (ZdX (by first | exact .inl (by omega) | exact .inr (.inl (by omega)) | exact .inr (.inr ‹_›))).2.symm))⟩
 refine Zn hS1 ZvF rfl rfl rfl (Zuj hS1.imm l _ (hvl.mono hle1)) (fun w2 G2 hS2 hle2=>?_)
 refine WL.split (fun (h3 : (l.all Zy) = true)=>?_) (fun (h3 : (l.all Zy) = false)=>?_)
 ·have hS4:=hS2.pad
  refine LP.go ft [] (fun m ρ1 w1=>∃ (k1 : Nat),∃ (v1 : Value) (o1 : OB),∃ (G3 : GH),m = l.length - k1 ∧ G2.le G3 ∧ St w [] G G3 [o1] w1 ∧ Yf ColE 24 130 G3 v1 (Zab ns l k1) o1 ∧ FR ρ1 [(1,vn),(2,vl),(3, .pointer (some p1)),(8,v1),(9, .int .i64 (k1 : Int))] ∧ k1 ≤ l.length) _ ⟨0,(.slice none 0 0),none,G2,rfl,(G2.le_refl),hS4,(Yf.cast (Yf.nil ColE 24 130 G2) (by simp [Zab])),⟨rfl,rfl,rfl,rfl,rfl,trivial⟩,(by omega)⟩ ?_
  rintro m ρ1 w3 ⟨k1,v1,o1,G3,rfl,hle3,hS3,hr1,hF9,f1⟩
  refine hF9.set ?_
  clear hF9
  have hcl8:=Zox ns l k1
  have bd4:=hvl.bound
  refine Zj (hvl.mono ((hle1.trans hle2).trans hle3)) Yj rfl rfl ?_
  refine Zo (k1 : Int) (l.length : Int) rfl rfl rfl (fun h4=>?_) (fun h4=>?_)
  ·obtain ⟨p2,x1,hx1,he1,ep1⟩:=Sl.at (hvn.mono ((hle1.trans hle2).trans hle3)) k1 (by omega)
   obtain ⟨cs1,hc2,hr2⟩:=he1
   obtain ⟨rfl,hb7⟩:=hr2
   obtain ⟨p3,x2,hx2,he2,ep2⟩:=Sl.at (hvl.mono ((hle1.trans hle2).trans hle3)) k1 (by omega)
   obtain ⟨cs2,hc3,hr3⟩:=he2
   obtain ⟨rfl,hb8,hb9,hb10⟩:=Ya hr3
   refine dr [(11,false),(12,false),(13,false)] [(35, .pointer (some p2)),(36,Zb x1),(39, .pointer (some p3)),(41, .int .i64 x2.k),(42, .agg #[Zb x1, .int .i64 x2.k])] hS3 ⟨fun _=>Zh k1 ep1 ZbN Yk rfl rfl rfl rfl <| nu rfl rfl,fun _ hSw=>Za hSw hc2 Yk rfl rfl rfl <| nu rfl rfl,fun _=>Zh k1 ep2 Yj ZG rfl rfl rfl rfl <| nu rfl rfl,fun _ hSw=>Za hSw (XZ.drop 0 hc3) Zl rfl rfl rfl <| nu rfl rfl,fun _=>WL.build _ [(0,[Zb x1]),(1,[.int .i64 x2.k])] [Zb x1, .int .i64 x2.k] X0 rfl ZmH rfl rfl rfl rfl <| nu rfl rfl,trivial⟩ (fun w4 hS5=>?_)
   refine WL.buildSlice _ [(0,[Zb x1, .int .i64 x2.k])] [Zb x1, .int .i64 x2.k] hS5 Zqn rfl rfl rfl rfl (fun z hz=>by match z,hz with | [z0,z1],_=>rfl) (fun b1 w5 hn1 hS6=>?_)
   refine WL.push (m:=([(Col.mk x1 x2.k)] : List Col)) Zqn rfl rfl rfl hr1 hS6 1 rfl 0 _ _ _ _ _ rfl ⟨[Zb x1, .int .i64 x2.k],_,rfl,(ZfC (Col.mk x1 x2.k) hb7 hb8),rfl⟩ rfl (by have hreach : reach = 140737488355328:=rfl; simp only [List.length_append,List.length_cons,List.length_nil]; omega) (by have hreach : reach = 140737488355328:=rfl; simp only [List.length_append,List.length_cons,List.length_nil]; omega) rfl rfl rfl (fun v2 o2 w6 hr4 hS7=>?_)
   have hS8:=hS7.tail
   refine Zk k1 (by have hreach : reach = 140737488355328:=rfl; omega) rfl rfl rfl ?_
   exact BK.mk' _ ⟨k1 + 1,v2,o2,G3,rfl,hle3,hS8,(Yf.cast hr4 (by (exact (Znf ‹_› ‹_›).symm))),⟨rfl,rfl,rfl,rfl,rfl,trivial⟩,(by omega)⟩ (show l.length - (k1 + 1) < l.length - k1 by omega)
  have hcn9 : Zab ns l k1 = Qh ns l:=Zoy (by omega)
  refine Zd hS3 (hc1.mono (hle2.trans hle3)) [.int .i64 c.kind,Zb c.col,Zb c.oth, .int .i64 c.v.k, .int .i64 c.v.n,Zb c.v.s,lv1] X6 rfl rfl rfl rfl rfl ?_
  obtain ⟨G4,hle4,hs1,hS9⟩:=Yf.freeze hr1 hS3 0 rfl
  refine Zn hS9 ZvG rfl rfl rfl (Zn8 hS9.imm _ c (Zab ns l k1) _ ((YT _).mono (((hle1.trans hle2).trans hle3).trans hle4) hcc) _ hs1) (fun w7 G5 hS10 hle5=>?_)
  refine Yy (XW d c (Zab ns l k1)) 0 rfl rfl rfl (fun h5=>?_) (fun h5=>?_)
  ·exact RT hS10 rfl ⟨_,_,rfl,(congrArg Value.bool (by exact (Zk1 hcn9 (Zhp (by omega) (by omega) ‹_›) ‹_›).1.symm)),(congrArg (Value.int .i64) (by exact (Zk1 hcn9 (Zhp (by omega) (by omega) ‹_›) ‹_›).2.symm))⟩
  have hwt:=Znh (by assumption : XW d c (Zab ns l k1) = 0)
  have hcl9 : l.length = (Zab ns l k1).length:=by rw [hcn9,Zng (by omega)]
  refine Zd hS10 (hc1.mono (((hle2.trans hle3).trans hle4).trans hle5)) [.int .i64 c.kind,Zb c.col,Zb c.oth, .int .i64 c.v.k, .int .i64 c.v.n,Zb c.v.s,lv1] X6 rfl rfl rfl rfl rfl ?_
  refine Zn hS10 ZfG rfl rfl rfl (Zn9 _ hS10.imm c (Zab ns l k1) l _ ((YT _).mono ((((hle1.trans hle2).trans hle3).trans hle4).trans hle5) hcc) _ (hs1.mono hle5) _ (hvl.mono ((((hle1.trans hle2).trans hle3).trans hle4).trans hle5)) hwt.1 hwt.2 hcl9) (fun w9 G6 hS11 hle6=>?_)
  exact RT hS11 rfl ⟨_,_,rfl,(congrArg Value.bool (by exact (ZhW hcn9 (Zhp (by omega) (by omega) ‹_›) ‹_›).1.symm)),(congrArg (Value.int .i64) (by exact (ZhW hcn9 (Zhp (by omega) (by omega) ‹_›) ‹_›).2.symm))⟩
 exact RT hS2 rfl ⟨_,_,rfl,(congrArg Value.bool (by exact (ZdX (by first | exact .inl (by omega) | exact .inr (.inl (by omega)) | exact .inr (.inr ‹_›))).1.symm)),(congrArg (Value.int .i64) (by exact (ZdX (by first | exact .inl (by omega) | exact .inr (.inl (by omega)) | exact .inr (.inr ‹_›))).2.symm))⟩
end Go.Civ
namespace Go.Civ
open Go.RowKit
set_option linter.unusedVariables false
def eqC (c : Col) (x : Val) : Cond:=⟨1,c.name,[],x,[]⟩
def Zg8 (a b : Cond) : Cond:=⟨5,[],[],⟨0,0,[]⟩,[a,b]⟩
def alwC : Cond:=⟨3,[],[],⟨0,0,[]⟩,[]⟩
def Qf (cols : List Col) (v : List Val) (k : Nat) : Cond:=((cols.zip v).take k).foldl (fun c p=>Zg8 c (eqC p.1 p.2)) alwC
theorem Zd7 {cols : List Col} {v : List Val} {k : Nat} {c : Col} {x : Val} (h1 : cols[k]? = some c) (h2 : v[k]? = some x) : Qf cols v (k + 1) = Zg8 (Qf cols v k) (eqC c x):=by
 unfold Qf
 have e : (cols.zip v)[k]? = some (c,x):=List.getElem?_zip_eq_some.2 ⟨h1,h2⟩
 rw [List.take_add_one,e]; simp [List.foldl_append]
theorem Zmg {cols : List Col} (hd : Qc (cols.map Col.name) = true) {i : Nat} {c : Col} (h : cols[i]? = some c) : Yb cols c.name = (i : Int):=by
 refine Ziy h rfl fun j hj x hx=>?_
 have hc : (cols.map Col.name)[i]? = some c.name:=by rw [List.getElem?_map,h]; rfl
 unfold Qc at hd
 rw [List.all_eq_true] at hd
 have:=hd (c.name,i) (List.mem_zipIdx_iff_getElem?.2 hc)
 unfold ZaK at this
 simp only [Bool.and_eq_true,Bool.not_eq_true',List.any_eq_false] at this
 have h2:=this.2 x.name (by
  have hxm : (cols.map Col.name)[j]? = some x.name:=by rw [List.getElem?_map,hx]; rfl
  exact List.mem_of_getElem? (by rw [List.getElem?_take,if_pos hj]; exact hxm))
 simpa using h2
theorem ZkW {cols : List Col} {v u : List Val} (hd : Qc (cols.map Col.name) = true) (hu : u.length = cols.length) : ∀ k,k ≤ cols.length → k ≤ v.length →
  (YP (k + 1) (Qf cols v k) cols u = true ↔ ∀ i,i < k → u[i]? = v[i]?)
 | 0,_,_=>by
  have e : Qf cols v 0 = alwC:=rfl
  rw [e]
  have : YP (0 + 1) alwC cols u = true:=Zoc (by decide) (by decide) (by decide) (by decide) (by decide)
  rw [this]
  simp
 | k + 1,h1,h2=>by
  have hc : cols[k]? = some cols[k]:=List.getElem?_eq_getElem (by omega)
  have hx : v[k]? = some v[k]:=List.getElem?_eq_getElem (by omega)
  have hy : u[k]? = some u[k]:=List.getElem?_eq_getElem (by omega)
  rw [Zd7 hc hx,ZjY (x:=Qf cols v k) (y:=eqC cols[k] v[k]) rfl rfl rfl,Bool.and_eq_true,ZkW hd hu k (by omega) (by omega)]
  have hm : YP (k + 1) (eqC cols[k] v[k]) cols u = decide (u[k] = v[k]):=by
   rw [YR (.inl rfl)]
   have hf : Yb cols cols[k].name = (k : Int):=Zmg hd hc
   have e1 : Zep (eqC cols[k] v[k]) cols u = cmpV u[k] v[k]:=Za1 (by show u[(Yb cols cols[k].name).toNat]? = _; rw [hf]; exact hy) rfl
   rw [e1]
   by_cases e : u[k] = v[k]
   ·rw [(Zeq.eq _ _).2 e,decide_eq_true e]; rfl
   ·rw [decide_eq_false e,decide_eq_false (fun q=>e ((Zeq.eq _ _).1 q))]
    simp [eqC]
  rw [hm,decide_eq_true_eq]
  constructor
  ·rintro ⟨a,b⟩ i hi
   by_cases e : i = k
   ·subst e; rw [hx,hy,b]
   ·exact a i (by omega)
  ·intro a
   refine ⟨fun i hi=>a i (by omega),?_⟩
   have:=a k (by omega)
   rw [hx,hy] at this
   exact Option.some.inj this
theorem Zr0 {s : Schema} {l : List Val} (h : YJ s l = 0) : l.map Val.k = s.cols.map Col.kind:=by
 obtain ⟨h1,h2,h3⟩:=Zc8 h
 have h5:=(Qu h).2.2.1
 apply List.ext_getElem?
 intro j
 rw [List.getElem?_map,List.getElem?_map]
 cases hx : l[j]? with
 | none=>rw [List.getElem?_eq_none (by have:=List.getElem?_eq_none_iff.1 hx; omega)]; rfl
 | some x=>
  have:=(List.getElem?_eq_some_iff.1 hx).1
  have hcj : s.cols[j]? = some s.cols[j]:=List.getElem?_eq_getElem (by omega)
  rw [hcj]
  have:=of_decide_eq_true (ZkV (f:=fun (c : Col) (x : Val)=>decide (c.kind = x.k)) h3 hcj hx)
  simp only [Option.map_some,this]
section
variable {t : Table} {tx at_ : Int} {d : Span} {v u : List Val} {a y : Int}
theorem Zco {l : List HRow} (hg : ZA l) (h : YQ l u a y) : y < 253402300800:=by
 obtain ⟨r,hr,_,hh⟩:=h
 have:=(ZY (hg r hr)).2.2
 have h2:=Xa.1 hh
 unfold ZC at this
 simp at this; omega
end
section
variable {t : Table} {p q a : Int}
end
end Go.Civ
namespace Go.Civ
open Go.RowKit
set_option linter.unusedVariables false
def Zad (k : Nat) (v u : List Val) : Bool:=decide (u.take k = v.take k)
def QB (k : Nat) (v : List Val) (tx : Int) (d : Span) (r : HRow) : List HRow:=
 if r.r.x.b = 253402300800 ∧ Zad k v r.v = true ∧ Yn 3 [r.r.d] [d] ≠ [r.r.d] then YD r.v (Yn 3 [r.r.d] [d]) tx 253402300800 ++ [⟨r.v,⟨r.r.d,⟨r.r.x.a,tx⟩⟩⟩] else [r]
def XE (k : Nat) (l : List HRow) (tx : Int) (v : List Val) (d : Span) : List HRow:=⟨v,⟨d,⟨tx,253402300800⟩⟩⟩ :: l.flatMap (QB k v tx d)
theorem Zf9 {p q : Span} (hp : p.a < p.b) (hq : q.a < q.b) : Yn 3 [p] [q] = [p] ↔ ¬ (p.a < q.b ∧ q.a < p.b):=by
 constructor
 ·intro e k
  have h:=Zg6 hp hq (a:=max p.a q.a)
  rw [e,Q3] at h
  omega
 ·intro k
  have h:=Zcm (kind:=3) rfl (a:=[p]) (b:=[q]) (by simpa using hp) (by simpa using hq)
  refine Can.unique h.1 ⟨List.pairwise_singleton _ _,fun s hs=>by rw [List.mem_singleton.1 hs]; exact hp⟩ fun x=>?_
  rw [Zg6 hp hq,Q3]
  constructor
  ·exact fun z=>z.1
  ·intro z; exact ⟨z,by omega⟩
section
variable {k : Nat} {l : List HRow} {tx : Int} {v u : List Val} {d : Span} {r : HRow} {a y : Int}
theorem ZkX (hr : Y0 r = true) (hd : ZC d = true) : YQ (QB k v tx d r) u a y ↔ YQ (Xm (Zad k v) (fun _=>none) tx d r) u a y:=by
 have hp:=Yx (ZY hr).2.1
 have hq:=Yx hd
 have ds:=Zf9 hp hq
 by_cases hc : (XY d r && Zad k v r.v) = true
 ·have hc' : XY d r = true ∧ Zad k v r.v = true:=by simpa using hc
  obtain ⟨t1,t2,t3⟩:=QU.1 hc'.1
  unfold QB Xm
  rw [if_pos ⟨t1,hc'.2,fun e=>ds.1 e ⟨t2,t3⟩⟩,if_pos hc]
  have e : Zat ((fun _=>none) r.v : Option (List Val)) r.r.d d tx = []:=rfl
  rw [e,List.append_nil,ZaL,ZaL]
  exact Or.comm
 ·unfold QB Xm
  rw [if_neg hc,if_neg]
  rintro ⟨z1,z2,z3⟩
  refine z3 (ds.2 fun z=>hc ?_)
  rw [z2,QU.2 ⟨z1,z.1,z.2⟩]; rfl
theorem Zmh (hg : ZA l) (hd : ZC d = true) : YQ (XE k l tx v d) u a y ↔ YQ (Yz (Zad k v) (fun _=>none) tx d l) u a y ∨ (v = u ∧ d.a ≤ a ∧ a < d.b ∧ tx ≤ y ∧ y < 253402300800):=by
 have e : XE k l tx v d = [⟨v,⟨d,⟨tx,253402300800⟩⟩⟩] ++ l.flatMap (QB k v tx d):=rfl
 rw [e,ZaL,Zbx,Xa,Zij]
 have f : YQ (l.flatMap (QB k v tx d)) u a y ↔ ∃ r ∈ l,YQ (QB k v tx d r) u a y:=by
  unfold YQ
  constructor
  ·rintro ⟨r,hr,h⟩; obtain ⟨x,hx,hr⟩:=List.mem_flatMap.1 hr; exact ⟨x,hx,r,hr,h⟩
  ·rintro ⟨x,hx,r,hr,h⟩; exact ⟨r,List.mem_flatMap.2 ⟨x,hx,hr⟩,h⟩
 rw [f]
 simp only
 constructor
 ·rintro (h | ⟨r,hr,h⟩)
  ·exact .inr h
  ·exact .inl ⟨r,hr,(ZkX (hg r hr) hd).1 h⟩
 ·rintro (⟨r,hr,h⟩ | h)
  ·exact .inr ⟨r,hr,(ZkX (hg r hr) hd).2 h⟩
  ·exact .inl h
theorem ZuG {hl : List Val → Bool} (hg : ZA l) (hd : ZC d = true) (hm : ZA (XE k l tx v d)) (hc : ZA (Yz hl (fun _=>none) tx d l)) (hi : ZA (Zaf (Yz hl (fun _=>none) tx d l) ++ [⟨v,⟨d,⟨tx,253402300800⟩⟩⟩])) (hk : ∀ r ∈ l,hl r.v = Zad k v r.v) :
  Z5 (XE k l tx v d) = Zj4 (Zaf (Yz hl (fun _=>none) tx d l)) tx v d:=by
 have e0 : Yz hl (fun _=>none) tx d l = Yz (Zad k v) (fun _=>none) tx d l:=by
  unfold Yz
  refine Zfz fun r hr=>?_
  unfold Xm
  rw [hk r hr]
 unfold Zj4
 rw [← ZaJ hi]
 refine ZeI hm hi fun u a y=>?_
 rw [Zmh hg hd,ZaL,Zbx,Xa,← ZaJ hc,Zg5 hc,e0]
end
theorem Zmi (w : List Val) : ∀ {vs : VV},vs.Nodup → (vs.map fun v=>if w = v then 1 else 0).sum ≤ 1
 | [],_=>Nat.zero_le _
 | v :: vs,h=>by
  obtain ⟨h1,h2⟩:=List.nodup_cons.1 h
  have ih:=Zmi w h2
  rw [List.map_cons,List.sum_cons]
  by_cases e : w = v
  ·have z : ∀ {us : VV},w ∉ us → (us.map fun v=>if w = v then 1 else 0).sum = 0:=by
    intro us
    induction us with
    | nil=>intro _; rfl
    | cons x us ih=>intro h; rw [List.map_cons,List.sum_cons,if_neg (fun q=>h (by simp [q])),ih (fun q=>h (by simp [q]))]
   rw [if_pos e,z (by rw [e]; exact h1)]
   exact Nat.le_refl _
  ·rw [if_neg e]; omega
theorem Zmj {vs : VV} (h : vs.Nodup) : ∀ (l : List HRow),(vs.map fun v=>(YG l v).length).sum ≤ l.length
 | []=>by
  have : ∀ {us : VV},(us.map fun v=>(YG [] v).length).sum = 0:=by
   intro us
   induction us with
   | nil=>rfl
   | cons x us ih=>rw [List.map_cons,List.sum_cons,ih]; rfl
  rw [this]; exact Nat.le_refl _
 | r :: l=>by
  have ih:=Zmj h l
  have e : ∀ v,(YG (r :: l) v).length = (YG l v).length + if r.v = v then 1 else 0:=fun v=>by
   unfold YG
   rw [List.filter_cons]
   by_cases q : r.v = v <;> simp [q]
  have s : ∀ {us : VV},(us.map fun v=>(YG (r :: l) v).length).sum = (us.map fun v=>(YG l v).length).sum + (us.map fun v=>if r.v = v then 1 else 0).sum:=by
   intro us
   induction us with
   | nil=>rfl
   | cons x us ih=>rw [List.map_cons,List.sum_cons,List.map_cons,List.sum_cons,List.map_cons,List.sum_cons,ih,e]; omega
  have:=Zmi r.v h
  rw [s,List.length_cons]; omega
theorem ZnB {l : List HRow} (hg : ZA l) (x : Int) : ((Z5 l).filter (YU x)).length ≤ l.length:=by
 rw [ZbX,List.filter_flatMap]
 refine Nat.le_trans ?_ (Zmj (Q5 l).nodup l)
 have key : ∀ {vs : VV},(vs.flatMap fun v=>(nvH l v).filter (YU x)).length ≤ (vs.map fun v=>(YG l v).length).sum:=by
  intro vs
  induction vs with
  | nil=>exact Nat.zero_le _
  | cons v vs ih=>
   rw [List.flatMap_cons,List.length_append,List.map_cons,List.sum_cons]
   have h1 : ((nvH l v).filter (YU x)).length = (Z4 (YG l v) x).length:=by
    have:=congrArg List.length (ZeG (hg.of v) v x)
    unfold Yw at this
    rw [List.length_map] at this
    exact this
   have:=Zb5 (YG l v) x
   omega
 exact key
theorem Zja {l m : List HRow} {tx : Int} (hl : ZA l) (hm : ZA m) (hn : m = Z5 m) (h : ∀ v x,x < tx → Z4 (YG l v) x = Z4 (YG m v) x) (hc : ∀ r ∈ Z5 l,r.r.x.a ≤ tx) : (Z5 l).length ≤ m.length + l.length:=by
 have h1:=ZnA hl hm tx h
 rw [← hn] at h1
 have h2:=ZnB hl tx
 have e : (Z5 l).length = ((Z5 l).filter fun r=>decide (r.r.x.a < tx)).length + ((Z5 l).filter fun r=>!decide (r.r.x.a < tx)).length:=by
  have : ∀ (q : List HRow),q.length = (q.filter fun r=>decide (r.r.x.a < tx)).length + (q.filter fun r=>!decide (r.r.x.a < tx)).length:=by
   intro q
   induction q with
   | nil=>rfl
   | cons r q ih=>
    rw [List.filter_cons,List.filter_cons,List.length_cons]
    cases decide (r.r.x.a < tx) <;> simp <;> omega
  exact this _
 have h3 : ((Z5 l).filter fun r=>!decide (r.r.x.a < tx)).length ≤ ((Z5 l).filter (YU tx)).length:=by
  have : (Z5 l).filter (fun r=>!decide (r.r.x.a < tx)) = ((Z5 l).filter (YU tx)).filter (fun r=>!decide (r.r.x.a < tx)):=by
   rw [List.filter_filter]
   refine List.filter_congr fun r hr=>?_
   have a:=hc r hr
   have b:=Yx (ZY (ZaA hl r hr)).2.2
   by_cases q : r.r.x.a < tx
   ·simp [q]
   ·have : YU tx r = true:=by unfold YU; simp; omega
    rw [this]; simp
  rw [this]
  exact List.length_filter_le _ _
 omega
end Go.Civ
namespace Go.Civ
open Go.RowKit
set_option linter.unusedVariables false
def Qn (x : Int) : List Int → List Int
 | []=>[x]
 | y :: r=>if y < x then y :: Qn x r else if y = x then y :: r else x :: y :: r
def Yc (l : List Int) : List Int:=l.foldl (fun out x=>Qn x out) []
section
variable {x y : Int} {l out : List Int} {k : Nat}
theorem Zg9 : ∀ {l : List Int},y ∈ Qn x l ↔ y = x ∨ y ∈ l
 | []=>by simp [Qn]
 | z :: r=>by
  unfold Qn
  split
  ·rw [List.mem_cons,Zg9,List.mem_cons]
   constructor
   ·rintro (h | h | h)
    ·exact .inr (.inl h)
    ·exact .inl h
    ·exact .inr (.inr h)
   ·rintro (h | h | h)
    ·exact .inr (.inl h)
    ·exact .inl h
    ·exact .inr (.inr h)
  ·split
   ·rename_i h
    constructor
    ·exact .inr
    ·rintro (rfl | q)
     ·rw [h]; simp
     ·exact q
   ·simp
theorem ZkY : ∀ {l : List Int},l.Pairwise (· < ·) → (Qn x l).Pairwise (· < ·)
 | [],_=>by simp [Qn]
 | z :: r,h=>by
  obtain ⟨h1,h2⟩:=List.pairwise_cons.1 h
  unfold Qn
  split
  ·rename_i hz
   refine List.pairwise_cons.2 ⟨fun w hw=>?_,ZkY h2⟩
   rcases Zg9.1 hw with rfl | hw
   ·exact hz
   ·exact h1 w hw
  ·split
   ·exact h
   ·refine List.pairwise_cons.2 ⟨fun w hw=>?_,h⟩
    rcases List.mem_cons.1 hw with rfl | hw
    ·omega
    ·have:=h1 w hw; omega
theorem ZkZ : ∀ {l : List Int},(Qn x l).length ≤ l.length + 1
 | []=>by simp [Qn]
 | z :: r=>by
  have:=ZkZ (l:=r)
  unfold Qn
  split
  ·simp; omega
  ·split <;> simp
theorem ZgA : ∀ (l out : List Int),out.Pairwise (· < ·) → (l.foldl (fun out x=>Qn x out) out).Pairwise (· < ·) ∧ ∀ y,y ∈ l.foldl (fun out x=>Qn x out) out ↔ y ∈ l ∨ y ∈ out
 | [],out,h=>⟨h,fun y=>by simp⟩
 | x :: l,out,h=>by
  obtain ⟨h1,h2⟩:=ZgA l (Qn x out) (ZkY h)
  refine ⟨h1,fun y=>(h2 y).trans ?_⟩
  rw [Zg9,List.mem_cons]
  constructor
  ·rintro (a | a | a)
   ·exact .inl (.inr a)
   ·exact .inl (.inl a)
   ·exact .inr a
  ·rintro ((a | a) | a)
   ·exact .inr (.inl a)
   ·exact .inl a
   ·exact .inr (.inr a)
theorem Zla (l : List Int) : (Yc l).Pairwise (· < ·):=(ZgA l [] List.Pairwise.nil).1
theorem ZeP : y ∈ Yc l ↔ y ∈ l:=by unfold Yc; rw [(ZgA l [] List.Pairwise.nil).2 y]; simp
theorem Zby (h : l[k]? = some x) : Yc (l.take (k + 1)) = Qn x (Yc (l.take k)):=by
 unfold Yc; rw [List.take_add_one,h]; simp [List.foldl_append]
theorem ZgB : ∀ (l : List Int),(Yc l).length ≤ l.length:=by
 have : ∀ (l out : List Int),(l.foldl (fun out x=>Qn x out) out).length ≤ out.length + l.length:=by
  intro l
  induction l with
  | nil=>intro out; simp
  | cons x l ih=>intro out; have:=ih (Qn x out); have:=ZkZ (x:=x) (l:=out); rw [List.foldl_cons,List.length_cons]; omega
 intro l
 have:=this l []
 simpa [Yc] using this
theorem Zlb (l : List Int) (k : Nat) : (Yc (l.take k)).length ≤ l.length:=by
 have:=ZgB (l.take k)
 have:=List.length_take_le' k l
 omega
def DnI (out : List Int) (x : Int) (k : Nat) : Prop:=∀ j,j < k → ∀ u,out[j]? = some u → u < x
theorem DnI.step {u : Int} (h : DnI out x k) (hu : out[k]? = some u) (h1 : u < x) : DnI out x (k + 1):=fun j hj w hw=>by
 by_cases e : j = k
 ·subst e; rw [hu] at hw; obtain rfl:=Option.some.inj hw; exact h1
 ·exact h j (by omega) w hw
theorem Zmk : ∀ {out : List Int} {k : Nat} {u : Int},DnI out x k → out[k]? = some u → u = x → Qn x out = out
 | [],k,u,_,h,_=>by cases h
 | z :: r,0,u,_,h,e=>by
  obtain rfl:=Option.some.inj h
  unfold Qn
  rw [if_neg (by omega),if_pos e]
 | z :: r,k + 1,u,h1,h,e=>by
  have hz:=h1 0 (by omega) z rfl
  unfold Qn
  rw [if_pos hz,Zmk (k:=k) (fun j hj w hw=>h1 (j + 1) (by omega) w (by simpa using hw)) (by simpa using h) e]
theorem ZgC : ∀ {out : List Int} {k : Nat},DnI out x k → k ≤ out.length → (∀ u,out[k]? = some u → x < u) → (([] ++ out.take k) ++ [x]) ++ out.drop k = Qn x out
 | [],0,_,_,_=>by simp [Qn]
 | z :: r,0,_,_,h=>by
  have:=h z rfl
  unfold Qn
  rw [if_neg (by omega),if_neg (by omega)]; simp
 | [],k + 1,_,h,_=>by simp at h
 | z :: r,k + 1,h1,h2,h=>by
  have hz:=h1 0 (by omega) z rfl
  have ih:=ZgC (out:=r) (k:=k) (fun j hj w hw=>h1 (j + 1) (by omega) w (by simpa using hw)) (by simpa using h2) (fun u hu=>h u (by simpa using hu))
  unfold Qn
  rw [if_pos hz,← ih]; simp
end
theorem ZdN {β : Type} {f : Int → Option β} {x : Int} {r : β} : ∀ {l : List Int},x ∈ l → l.Pairwise (· < ·) → (∀ y ∈ l,y < x → f y = none) → f x = some r → l.findSome? f = some r
 | [],h,_,_,_=>by cases h
 | z :: l,h,hp,hn,hf=>by
  obtain ⟨h1,h2⟩:=List.pairwise_cons.1 hp
  rcases List.mem_cons.1 h with rfl | h
  ·rw [List.findSome?_cons,hf]
  ·rw [List.findSome?_cons,hn z (by simp) (h1 x h)]
   exact ZdN h h2 (fun y hy=>hn y (by simp [hy])) hf
def Zeb (k : Nat) (l : List HRow) (ys : List Int) (x : Int) : Option Pt:=ys.findSome? fun y=>(ZT k (Y3 l y x)).map fun v=>⟨x,y,v⟩
def ZnC (k : Nat) (l : List HRow) : Option Pt:=(Yc (l.map fun r=>r.r.x.a)).findSome? (Zeb k l (Yc (l.map fun r=>r.r.d.a)))
def YN (t : Table) : Option Pt:=ZnC t.s.key.toNat t.rows
theorem ZfV {k : Nat} {l : List HRow} (hg : ZA l) (x y : Int) : ZT k (Y3 l y x) = QR k l x y:=by unfold QR; rw [Zd0 hg]
theorem Zc9 {β : Type} {f : Int → Option β} {l : List Int} (h : ∀ x ∈ l,f x = none) : l.findSome? f = none:=by
 rw [List.findSome?_eq_none_iff]; exact h
theorem Zt1 {k : Nat} {l : List HRow} (hg : ZA l) (hn : l = Z5 l) : ZnC k l = ZfR k l:=by
 unfold ZnC
 by_cases e : Xc k l = []
 ·rw [Zc7 e]
  refine Zc9 fun x _=>Zc9 fun y _=>?_
  rw [ZfV hg,ZiS hg e]; rfl
 ·rw [ZbG e]
  obtain ⟨h1,h2⟩:=ZeM (ZhE hg) e
  obtain ⟨c1,⟨r,hr,e1⟩,s,hs,e2⟩:=Zd4 hg hn h1
  obtain ⟨v,hv⟩:=Option.ne_none_iff_exists'.1 c1
  have hf:=fun {a b : Int} =>Zn4 (tx:=a) (vd:=b) hg (fun q hq=>Ztr (h2 q hq))
  refine ZdN (ZeP.2 (List.mem_map.2 ⟨r,hr,e1⟩)) (Zla _) (fun x _ hx=>Zc9 fun y _=>?_) (ZdN (ZeP.2 (List.mem_map.2 ⟨s,hs,e2⟩)) (Zla _) (fun y _ hy=>?_) ?_)
  ·rw [ZfV hg,hf (.inl hx)]; rfl
  ·rw [ZfV hg,hf (.inr ⟨rfl,hy⟩)]; rfl
  ·rw [ZfV hg,hv]; rfl
theorem Zr1 {t : Table} (h : Z3 t = true) : YN t = Zt t:=Zt1 (ZS h).1 (ZS h).2.2.2
section
variable {k : Nat} {l : VV}
theorem Zlc {v w : List Val} : ∀ {l : VV} {j : Nat},(∀ i,i < j → ∀ x y,l[i]? = some x → l[i + 1]? = some y → decide (x.take k = y.take k) = false) → l[j]? = some v → l[j + 1]? = some w → decide (v.take k = w.take k) = true → ZT k l = some v
 | [],j,_,h,_,_=>by cases h
 | [a],j,_,_,h,_=>by simp at h
 | x :: y :: r,j,h1,h2,h3,h4=>by
  unfold ZT
  cases j with
  | zero=>
   obtain rfl:=Option.some.inj h2
   obtain rfl:=Option.some.inj h3
   rw [if_pos (of_decide_eq_true h4)]
  | succ j=>
   rw [if_neg (of_decide_eq_false (h1 0 (by omega) x y rfl rfl))]
   exact Zlc (j:=j) (fun i hi a b ha hb=>h1 (i + 1) (by omega) a b (by simpa using ha) (by simpa using hb)) (by simpa using h2) (by simpa using h3) h4
theorem Zld : ∀ {l : VV} {j : Nat},(∀ i,i < j → ∀ x y,l[i]? = some x → l[i + 1]? = some y → decide (x.take k = y.take k) = false) → l.length ≤ j + 1 → ZT k l = none
 | [],j,_,_=>rfl
 | [a],j,_,_=>rfl
 | x :: y :: r,j,h1,h2=>by
  simp only [List.length_cons] at h2
  obtain ⟨j,rfl⟩ : ∃ i,j = i + 1:=⟨j - 1,by omega⟩
  unfold ZT
  rw [if_neg (of_decide_eq_false (h1 0 (by omega) x y rfl rfl))]
  exact Zld (j:=j) (fun i hi a b ha hb=>h1 (i + 1) (by omega) a b (by simpa using ha) (by simpa using hb)) (by simp only [List.length_cons]; omega)
end
theorem ZgD {β : Type} {f : Int → Option β} {r : β} : ∀ {l : List Int} {j : Nat} {x : Int},(∀ i,i < j → ∀ y,l[i]? = some y → f y = none) → l[j]? = some x → f x = some r → l.findSome? f = some r
 | [],j,x,_,h,_=>by cases h
 | z :: l,j,x,h1,h2,hf=>by
  rw [List.findSome?_cons]
  cases j with
  | zero=>obtain rfl:=Option.some.inj h2; rw [hf]
  | succ j=>
   rw [h1 0 (by omega) z rfl]
   exact ZgD (j:=j) (fun i hi y hy=>h1 (i + 1) (by omega) y (by simpa using hy)) (by simpa using h2) hf
theorem Zle {β : Type} {f : Int → Option β} {l : List Int} {j : Nat} (h : ∀ i,i < j → ∀ y,l[i]? = some y → f y = none) (hj : l.length ≤ j) : l.findSome? f = none:=
 Zc9 fun x hx=>by
  obtain ⟨i,hi⟩:=List.getElem?_of_mem hx
  obtain ⟨hlt,_⟩:=List.getElem?_eq_some_iff.1 hi
  exact h i (by omega) x hi
def Zsn (r : HRow) : Bool:=decide (r.v.length = 0) && decide (r.r = ⟨⟨0,0⟩,⟨0,0⟩⟩)
def ZnD (a b : HRow) : Bool:=decide (a.v = b.v) && decide (a.r = b.r)
theorem Zp0 (a : HRow) : ZnD a a = true:=by unfold ZnD; simp
section
variable {t : Table}
theorem Zr2 (h : Z3 t = false) : YA t = false ∧ Zsn (Xx t) = true:=by
 unfold YA Xx; rw [h]; exact ⟨rfl,(by decide : Zsn (Yv none) = true)⟩
theorem Zml (h : Z3 t = true) : YA t = (!(YN t).isSome) ∧ ZnD (Xx t) (Yv (YN t)) = true:=by
 unfold YA Xx
 rw [h,Zr1 h,if_pos rfl]
 refine ⟨?_,Zp0 _⟩
 cases Zt t <;> rfl
end
end Go.Civ
namespace Go.Civ
open Go.RowKit
open Go.Lib (compact)
set_option linter.unusedVariables false
structure Link where
 t : Table
 o : Table
 f : Foreign
section
variable {G : GH} {cs : List Value}
end
theorem ZgG {s : Schema} (h : YE s = true) : 1 ≤ s.key ∧ s.key ≤ s.cols.length:=by
 unfold YE XX at h
 simp only [Bool.and_eq_true,decide_eq_true_eq] at h
 obtain ⟨⟨⟨⟨⟨⟨_,h2⟩,h3⟩,h4⟩,h5⟩,h6⟩,h7⟩:=h.1
 exact ⟨h4,h5⟩
structure LinkOk (x : Link) : Prop where
 t : Z3 x.t = true
 o : Z3 x.o = true
 cols : ∀ c ∈ x.f.cols,0 ≤ ixS (x.t.s.cols.map Col.name) c
 key : (x.f.cols.length : Int) = x.o.s.key
section
variable {x : Link} {v : List Val} {r : HRow}
theorem LinkOk.len (h : LinkOk x) (hr : r ∈ x.t.rows) : x.t.s.cols.length ≤ r.v.length:=by
 have:=Zba h.t hr
 have h4:=this.2.2.2.1
 omega
theorem LinkOk.olen (h : LinkOk x) (hr : r ∈ x.o.rows) : x.f.cols.length ≤ r.v.length:=by
 have h1:=Zba h.o hr
 have h2:=ZgG (YZ h.o).1
 have h3:=h.key
 have h4:=h1.2.2.2.1
 omega
end
section
variable {M : List Val → List Val → Bool} {l t : List HRow} {v : List Val} {x tx fr : Int} {r o : HRow} {k : Nat} {ts : List Int}
end
end Go.Civ
namespace Go.Civ
open Go.RowKit
open Go.Lib (compact)
section
variable {M : List Val → List Val → Bool} {l : List HRow} {r : HRow} {fr : Int}
end
end Go.Civ
namespace Go.Civ
open Go.RowKit
set_option linter.unusedVariables false
section
variable {t : Table} {tx at_ : Int} {d : Span} {v : List Val} {k : Nat} {c : Cond}
theorem ZpN {cols : List Col} {k : Nat} {cl : Col} {x : Val} (hc : c = Qf cols v k) (h1 : cols[k]? = some cl) (h2 : v[k]? = some x) : Zg8 c (eqC cl x) = Qf cols v (k + 1):=by rw [Zd7 h1 h2,hc]
end
section
variable {p a : Int} {s : VV} {D : List HRow} {k : Nat} {r : HRow}
end
end Go.Civ
