/- Lemmas. -/
import Derived.Test.YthgeclodflmiaaaGreatD08
import Derived.Test.YthgeclodflmiaaaGreatD14
import Derived.Test.YthgeclodflmiaaaGreatD22
import Derived.Test.YthgeclodflmiaaaGreatD23
import Derived.Test.YthgeclodflmiaaaGreatD24
import Derived.Test.YthgeclodflmiaaaGreatD25
import Derived.Test.YthgeclodflmiaaaGreatProg
import Derived.KernelRfl
import Derived.WalkKit
set_option linter.unusedVariables false
namespace Go.Civ
open Go.Proofs Go.Shelf Go.RowKit Go.Lib Go.Sort
theorem Zwe {G : GH} {w : World} (hG : G.In w) (l : List Pt) (vd : Value) (od : OB) (hvd : ZS PtE 40 (nat_lit 105) G vd l od) (hod : XP w G od) (hV : VP l) :
  Calls Tryz.prog (nat_lit 116) #[vd, .func (.func 117) #[] #[]] w fun e w'=>∃ r G',e = .returned r ∧ Res (QU od) w G w' G' ∧ r = .tuple #[] ∧ ∃ (l' : List Pt) (o' : OB),ZS PtE 40 (nat_lit 105) G' vd l' o' ∧ XP w' G' o' ∧ (l'.Perm l ∧ l'.Pairwise fun x y=>¬ Q9 y x < 0):=
 ZnU Tryz.sortPt (E:=PtE) (by decide) Tryz.isAgg105 Tryz.sizeOf105 Q9 (fun p=>p.v.all Z4 = true)
  (fun x hx=>by rw [Zan hx hx,Zav.refl]; omega)
  (fun x y z hx hy hz p q=>by rw [Zan hx hy] at p; rw [Zan hy hz] at q; rw [Zan hx hz]; exact Zav.trans _ _ _ p q)
  (fun x y z hx hy hz p q=>by rw [Zan hx hy] at p; rw [Zan hy hz] at q; rw [Zan hx hz]; exact Zav.le_trans q p)
  117 (enters_of Tryz.func117 (by kernel_rfl) rfl) hG (fun W hW x y cx cy hx hy rx ry=>ZhP hW x y cx rx cy ry)
  ZiQ _ (Qv (v:= .slice none 0 0) ZiQ ZP ZP (Sl.nil _ _ _)) rfl l hV vd od hvd hod
end Go.Civ
namespace Go.Civ
open Go.RowKit
set_option linter.unusedVariables false
structure ChgP (t : Table) (tx : Int) (d : Span) (nx : List Val → Option (List Val)) (l : List HRow) (x : Table) : Prop where
 ok : ChgOk t tx d nx
 new : NewT t.s tx l x
theorem Zrn {k : Nat} {t : Table} {tx : Int} {c : Cond} {d : Span} (h : Zar k t tx c d = 0) : YE k c t.s.cols = 0 ∧ ChgP t tx d (fun _=>none) (ZeT k t tx c d) (ZM k t tx c d):=by
 by_cases ho : Qh t d = true
 ·by_cases e : Qf [YE k c t.s.cols,Xk t tx] = 0
  ·have h3:=Zpr (d:=k) (t:=t) (tx:=tx) (c:=c) ho e
   rw [← h3.2] at h
   have hok:=ZqS ho e
   rw [Zdl] at e
   refine ⟨(Zlf e).1,hok,?_⟩
   have hlen:=ZmE h
   rw [← h3.1]
   unfold ZQ
   rw [if_pos hlen]
   exact Zwc hok (fun r hr v hv=>by cases hv) hlen
  ·have:=Zpq (d:=k) (t:=t) (tx:=tx) (c:=c) ho e
   rw [← this.2] at h; exact absurd h e
 ·have:=ZiL (d:=k) (t:=t) (tx:=tx) (c:=c) (p:=d) (by simpa using ho)
  rw [← this.2] at h; cases h
def addN (out : VV) (m : List Val) : VV:=if out.any (fun l=>decide (l = m)) then out else out ++ [m]
section
variable {d : Nat} {c : Cond} {ns : List (List UInt8)} {set : List Val} {mask : List Bool} {b : VV}
end
section
variable {t : Table} {tx at_ later past : Int} {d : Span} {u : List Val}
end
end Go.Civ
namespace Go.Civ
section
variable {t : Table} {tx at_ later past : Int} {d : Span} {v : List Val} {b : VV} {k : Nat} {c : Cond} {ns : List (List UInt8)} {set : List Val} {mask : List Bool} {l : List Val}
end
end Go.Civ
namespace Go.Civ
open Go.RowKit
set_option linter.unusedVariables false
def Zj6 (k : Nat) (v u : List Val) : Bool:=decide (u.take k = v.take k)
def Zc8 (k : Nat) (v : List Val) (tx : Int) (d : Span) (r : HRow) : List HRow:=
 if r.r.x.b = 253402300800 ∧ Zj6 k v r.v = true ∧ Yh 3 [r.r.d] [d] ≠ [r.r.d] then X1 r.v (Yh 3 [r.r.d] [d]) tx 253402300800 ++ [⟨r.v,⟨r.r.d,⟨r.r.x.a,tx⟩⟩⟩] else [r]
def ZdE (k : Nat) (l : List HRow) (tx : Int) (v : List Val) (d : Span) : List HRow:=⟨v,⟨d,⟨tx,253402300800⟩⟩⟩ :: l.flatMap (Zc8 k v tx d)
theorem Zk5 {p q : Span} (hp : p.a < p.b) (hq : q.a < q.b) : Yh 3 [p] [q] = [p] ↔ ¬ (p.a < q.b ∧ q.a < p.b):=by
 constructor
 ·intro e k
  have h:=ZmF hp hq (a:=max p.a q.a)
  rw [e,QP] at h
  omega
 ·intro k
  have h:=Zcf (kind:=3) rfl (a:=[p]) (b:=[q]) (by simpa using hp) (by simpa using hq)
  refine Can.unique h.1 ⟨List.pairwise_singleton _ _,fun s hs=>by rw [List.mem_singleton.1 hs]; exact hp⟩ fun x=>?_
  rw [ZmF hp hq,QP]
  constructor
  ·exact fun z=>z.1
  ·intro z; exact ⟨z,by omega⟩
section
variable {k : Nat} {l : List HRow} {tx : Int} {v u : List Val} {d : Span} {r : HRow} {a y : Int}
end
end Go.Civ
namespace Go.Civ
open Go.RowKit
set_option linter.unusedVariables false
def QM (x : Int) : List Int → List Int
 | []=>[x]
 | y :: r=>if y < x then y :: QM x r else if y = x then y :: r else x :: y :: r
def Yc (l : List Int) : List Int:=l.foldl (fun out x=>QM x out) []
section
variable {x y : Int} {l out : List Int} {k : Nat}
theorem ZhR : ∀ {l : List Int},y ∈ QM x l ↔ y = x ∨ y ∈ l
 | []=>by simp [QM]
 | z :: r=>by
  unfold QM
  split
  ·rw [List.mem_cons,ZhR,List.mem_cons]
   constructor
   ·rintro (h | h | h)
    ·exact .inr (.inl h)
    ·exact .inl h
    ·exact .inr (.inr h)
   ·rintro (h | h | h)
    ·exact .inr (.inl h)
    ·exact .inl h
    ·exact .inr (.inr h)
  ·split
   ·rename_i h
    constructor
    ·exact .inr
    ·rintro (rfl | q)
     ·rw [h]; simp
     ·exact q
   ·simp
theorem ZmN : ∀ {l : List Int},l.Pairwise (· < ·) → (QM x l).Pairwise (· < ·)
 | [],_=>by simp [QM]
 | z :: r,h=>by
  obtain ⟨h1,h2⟩:=List.pairwise_cons.1 h
  unfold QM
  split
  ·rename_i hz
   refine List.pairwise_cons.2 ⟨fun w hw=>?_,ZmN h2⟩
   rcases ZhR.1 hw with rfl | hw
   ·exact hz
   ·exact h1 w hw
  ·split
   ·exact h
   ·refine List.pairwise_cons.2 ⟨fun w hw=>?_,h⟩
    rcases List.mem_cons.1 hw with rfl | hw
    ·omega
    ·have:=h1 w hw; omega
theorem ZmO : ∀ {l : List Int},(QM x l).length ≤ l.length + 1
 | []=>by simp [QM]
 | z :: r=>by
  have:=ZmO (l:=r)
  unfold QM
  split
  ·simp; omega
  ·split <;> simp
theorem ZhS : ∀ (l out : List Int),out.Pairwise (· < ·) → (l.foldl (fun out x=>QM x out) out).Pairwise (· < ·) ∧ ∀ y,y ∈ l.foldl (fun out x=>QM x out) out ↔ y ∈ l ∨ y ∈ out
 | [],out,h=>⟨h,fun y=>by simp⟩
 | x :: l,out,h=>by
  obtain ⟨h1,h2⟩:=ZhS l (QM x out) (ZmN h)
  refine ⟨h1,fun y=>(h2 y).trans ?_⟩
  rw [ZhR,List.mem_cons]
  constructor
  ·rintro (a | a | a)
   ·exact .inl (.inr a)
   ·exact .inl (.inl a)
   ·exact .inr a
  ·rintro ((a | a) | a)
   ·exact .inr (.inl a)
   ·exact .inl a
   ·exact .inr (.inr a)
theorem ZfC (l : List Int) : (Yc l).Pairwise (· < ·):=(ZhS l [] List.Pairwise.nil).1
theorem Zbw : y ∈ Yc l ↔ y ∈ l:=by unfold Yc; rw [(ZhS l [] List.Pairwise.nil).2 y]; simp
theorem Zci (h : l[k]? = some x) : Yc (l.take (k + 1)) = QM x (Yc (l.take k)):=by
 unfold Yc; rw [List.take_add_one,h]; simp [List.foldl_append]
theorem ZdX : ∀ (l : List Int),(Yc l).length ≤ l.length:=by
 have : ∀ (l out : List Int),(l.foldl (fun out x=>QM x out) out).length ≤ out.length + l.length:=by
  intro l
  induction l with
  | nil=>intro out; simp
  | cons x l ih=>intro out; have:=ih (QM x out); have:=ZmO (x:=x) (l:=out); rw [List.foldl_cons,List.length_cons]; omega
 intro l
 have:=this l []
 simpa [Yc] using this
theorem ZmP (l : List Int) (k : Nat) : (Yc (l.take k)).length ≤ l.length:=by
 have:=ZdX (l.take k)
 have:=List.length_take_le' k l
 omega
def DnI (out : List Int) (x : Int) (k : Nat) : Prop:=∀ j,j < k → ∀ u,out[j]? = some u → u < x
theorem DnI.step {u : Int} (h : DnI out x k) (hu : out[k]? = some u) (h1 : u < x) : DnI out x (k + 1):=fun j hj w hw=>by
 by_cases e : j = k
 ·subst e; rw [hu] at hw; obtain rfl:=Option.some.inj hw; exact h1
 ·exact h j (by omega) w hw
theorem ZnX : ∀ {out : List Int} {k : Nat} {u : Int},DnI out x k → out[k]? = some u → u = x → QM x out = out
 | [],k,u,_,h,_=>by cases h
 | z :: r,0,u,_,h,e=>by
  obtain rfl:=Option.some.inj h
  unfold QM
  rw [if_neg (by omega),if_pos e]
 | z :: r,k + 1,u,h1,h,e=>by
  have hz:=h1 0 (by omega) z rfl
  unfold QM
  rw [if_pos hz,ZnX (k:=k) (fun j hj w hw=>h1 (j + 1) (by omega) w (by simpa using hw)) (by simpa using h) e]
theorem ZhT : ∀ {out : List Int} {k : Nat},DnI out x k → k ≤ out.length → (∀ u,out[k]? = some u → x < u) → (([] ++ out.take k) ++ [x]) ++ out.drop k = QM x out
 | [],0,_,_,_=>by simp [QM]
 | z :: r,0,_,_,h=>by
  have:=h z rfl
  unfold QM
  rw [if_neg (by omega),if_neg (by omega)]; simp
 | [],k + 1,_,h,_=>by simp at h
 | z :: r,k + 1,h1,h2,h=>by
  have hz:=h1 0 (by omega) z rfl
  have ih:=ZhT (out:=r) (k:=k) (fun j hj w hw=>h1 (j + 1) (by omega) w (by simpa using hw)) (by simpa using h2) (fun u hu=>h u (by simpa using hu))
  unfold QM
  rw [if_pos hz,← ih]; simp
end
theorem ZbU {β : Type} {f : Int → Option β} {x : Int} {r : β} : ∀ {l : List Int},x ∈ l → l.Pairwise (· < ·) → (∀ y ∈ l,y < x → f y = none) → f x = some r → l.findSome? f = some r
 | [],h,_,_,_=>by cases h
 | z :: l,h,hp,hn,hf=>by
  obtain ⟨h1,h2⟩:=List.pairwise_cons.1 hp
  rcases List.mem_cons.1 h with rfl | h
  ·rw [List.findSome?_cons,hf]
  ·rw [List.findSome?_cons,hn z (by simp) (h1 x h)]
   exact ZbU h h2 (fun y hy=>hn y (by simp [hy])) hf
def ZeV (k : Nat) (l : List HRow) (ys : List Int) (x : Int) : Option Pt:=ys.findSome? fun y=>(Ym k (ZR l y x)).map fun v=>⟨x,y,v⟩
def Zp4 (k : Nat) (l : List HRow) : Option Pt:=(Yc (l.map fun r=>r.r.x.a)).findSome? (ZeV k l (Yc (l.map fun r=>r.r.d.a)))
def XU (t : Table) : Option Pt:=Zp4 t.s.key.toNat t.rows
theorem Zhb {k : Nat} {l : List HRow} (hg : Z8 l) (x y : Int) : Ym k (ZR l y x) = Za9 k l x y:=by unfold Za9; rw [Zbt hg]
theorem ZaS {β : Type} {f : Int → Option β} {l : List Int} (h : ∀ x ∈ l,f x = none) : l.findSome? f = none:=by
 rw [List.findSome?_eq_none_iff]; exact h
theorem Zwl {k : Nat} {l : List HRow} (hg : Z8 l) (hn : l = Yd l) : Zp4 k l = ZgW k l:=by
 unfold Zp4
 by_cases e : X7 k l = []
 ·rw [Zf9 e]
  refine ZaS fun x _=>ZaS fun y _=>?_
  rw [Zhb hg,Zre hg e]; rfl
 ·rw [ZdB e]
  obtain ⟨h1,h2⟩:=ZdA (ZiR hg) e
  obtain ⟨c1,⟨r,hr,e1⟩,s,hs,e2⟩:=Zgz hg hn h1
  obtain ⟨v,hv⟩:=Option.ne_none_iff_exists'.1 c1
  have hf:=fun {a b : Int} =>Zpy (tx:=a) (vd:=b) hg (fun q hq=>Zj5 (h2 q hq))
  refine ZbU (Zbw.2 (List.mem_map.2 ⟨r,hr,e1⟩)) (ZfC _) (fun x _ hx=>ZaS fun y _=>?_) (ZbU (Zbw.2 (List.mem_map.2 ⟨s,hs,e2⟩)) (ZfC _) (fun y _ hy=>?_) ?_)
  ·rw [Zhb hg,hf (.inl hx)]; rfl
  ·rw [Zhb hg,hf (.inr ⟨rfl,hy⟩)]; rfl
  ·rw [Zhb hg,hv]; rfl
theorem ZtJ {t : Table} (h : Zu t = true) : XU t = Z5 t:=Zwl (ZY h).1 (ZY h).2.2.2
section
variable {k : Nat} {l : VV}
theorem ZmQ {v w : List Val} : ∀ {l : VV} {j : Nat},(∀ i,i < j → ∀ x y,l[i]? = some x → l[i + 1]? = some y → decide (x.take k = y.take k) = false) → l[j]? = some v → l[j + 1]? = some w → decide (v.take k = w.take k) = true → Ym k l = some v
 | [],j,_,h,_,_=>by cases h
 | [a],j,_,_,h,_=>by simp at h
 | x :: y :: r,j,h1,h2,h3,h4=>by
  unfold Ym
  cases j with
  | zero=>
   obtain rfl:=Option.some.inj h2
   obtain rfl:=Option.some.inj h3
   rw [if_pos (of_decide_eq_true h4)]
  | succ j=>
   rw [if_neg (of_decide_eq_false (h1 0 (by omega) x y rfl rfl))]
   exact ZmQ (j:=j) (fun i hi a b ha hb=>h1 (i + 1) (by omega) a b (by simpa using ha) (by simpa using hb)) (by simpa using h2) (by simpa using h3) h4
theorem ZmR : ∀ {l : VV} {j : Nat},(∀ i,i < j → ∀ x y,l[i]? = some x → l[i + 1]? = some y → decide (x.take k = y.take k) = false) → l.length ≤ j + 1 → Ym k l = none
 | [],j,_,_=>rfl
 | [a],j,_,_=>rfl
 | x :: y :: r,j,h1,h2=>by
  simp only [List.length_cons] at h2
  obtain ⟨j,rfl⟩ : ∃ i,j = i + 1:=⟨j - 1,by omega⟩
  unfold Ym
  rw [if_neg (of_decide_eq_false (h1 0 (by omega) x y rfl rfl))]
  exact ZmR (j:=j) (fun i hi a b ha hb=>h1 (i + 1) (by omega) a b (by simpa using ha) (by simpa using hb)) (by simp only [List.length_cons]; omega)
end
theorem ZdY {β : Type} {f : Int → Option β} {r : β} : ∀ {l : List Int} {j : Nat} {x : Int},(∀ i,i < j → ∀ y,l[i]? = some y → f y = none) → l[j]? = some x → f x = some r → l.findSome? f = some r
 | [],j,x,_,h,_=>by cases h
 | z :: l,j,x,h1,h2,hf=>by
  rw [List.findSome?_cons]
  cases j with
  | zero=>obtain rfl:=Option.some.inj h2; rw [hf]
  | succ j=>
   rw [h1 0 (by omega) z rfl]
   exact ZdY (j:=j) (fun i hi y hy=>h1 (i + 1) (by omega) y (by simpa using hy)) (by simpa using h2) hf
theorem ZfD {β : Type} {f : Int → Option β} {l : List Int} {j : Nat} (h : ∀ i,i < j → ∀ y,l[i]? = some y → f y = none) (hj : l.length ≤ j) : l.findSome? f = none:=
 ZaS fun x hx=>by
  obtain ⟨i,hi⟩:=List.getElem?_of_mem hx
  obtain ⟨hlt,_⟩:=List.getElem?_eq_some_iff.1 hi
  exact h i (by omega) x hi
def ZuQ (r : HRow) : Bool:=decide (r.v.length = 0) && decide (r.r = ⟨⟨0,0⟩,⟨0,0⟩⟩)
def Zp5 (a b : HRow) : Bool:=decide (a.v = b.v) && decide (a.r = b.r)
theorem Zrp (a : HRow) : Zp5 a a = true:=by unfold Zp5; simp
section
variable {t : Table}
theorem ZmS (h : Zu t = false) : YI t = false ∧ ZuQ (ZaR t) = true:=by
 unfold YI ZaR; rw [h]; exact ⟨rfl,(by decide : ZuQ (ZZ none) = true)⟩
theorem ZnY (h : Zu t = true) : YI t = (!(XU t).isSome) ∧ Zp5 (ZaR t) (ZZ (XU t)) = true:=by
 unfold YI ZaR
 rw [h,ZtJ h,if_pos rfl]
 refine ⟨?_,Zrp _⟩
 cases Z5 t <;> rfl
end
end Go.Civ
set_option linter.unusedVariables false
set_option linter.unusedSimpArgs false
set_option maxRecDepth 100000
set_option maxHeartbeats 4000000
namespace Go.Civ
open Go.Proofs
theorem Zp8 {G : GH} {w : World} (hG : G.In w) (l : List HRow) (vl : Value) (hvl : Sl HRowE 56 G vl l) (hgood : Z8 l) (hlen : ∀ r ∈ l,r.v.length ≤ 1000) (hl : l.length ≤ 2000) : CL Tryz.prog (nat_lit 66) #[vl] [] w G fun G' w' r=>∃ o,ZS HRowE 56 (nat_lit 37) G' r (Yd l) o ∧ Zff w w' G' o:=by
 refine Zh ft [] Tryz.func66 U U ?_
 have hS:=St.start (X:=[]) hG
 refine Z9 hS ZoP U U U (ZfA hS.imm l _ hvl hgood hlen hl) (fun w1 G1 r1 P1 S1 L1=>?_)
 have V1:=P1.bound
 refine Zl P1 Zbe U U ?_
 have S3:=S1.pad
 refine LP.go ft [] (fun m ρ1 w1=>∃ (k1 : Nat),∃ (v1 : Value) (o1 : OB),∃ (G2 : GH),m = (Yx l).length - k1 ∧ G1.le G2 ∧ St w [] G G2 [o1] w1 ∧ ZS HRowE 56 37 G2 v1 (Zd7 ((Yx l).take k1)) o1 ∧ FR ρ1 [(3,v1),(7,r1),(8,S (((Yx l).length : Nat) : Int)),(9,S (k1 : Int))] ∧ k1 ≤ (Yx l).length) _ ⟨0,(Ze),none,G1,U,(G1.le_refl),S3,(ZS.nil HRowE 56 37 G1),(Zq U),(by omega)⟩ ?_
 rintro m ρ1 w2 ⟨k1,v1,o1,G2,rfl,L2,S2,R1,F9,f1⟩
 refine F9.set ?_
 clear F9
 have hgl:=@ZdU l
 have hpl:=ZfP (k:=k1) (fun g hg=>Nat.le_trans (ZiD g hg) hl) (Nat.le_trans hgl hl)
 refine Zp (k1 : Int) (((Yx l).length : Nat) : Int) U U U (fun h1=>?_) (fun h1=>?_)
 ·refine WL.indexAddr (P1.mono L2) k1 (by omega) Zbe Qg U U U U (fun p1 x1 U1 E1=>?_)
  obtain ⟨D1,C1,R2⟩:=E1
  obtain ⟨v2,v3,rfl,A1,A2⟩:=ZaL R2
  refine Zb S2 C1 [v2,v3] Qg U U U U U ?_
  refine WL.alloc S2 Qg U U (fun b1 w3 N1 S4=>?_)
  refine Zi S4 0 [v2,v3] U U Qg U U (by simp only [ZA,A1.oneC,A2.oneC] <;> rfl) U U U (fun w4 S5=>?_)
  obtain ⟨G3,L3,C2,S6⟩:=S5.shutB N1
  have hok:=ZgR hgood hl (by assumption : (Yx l)[k1]? = some _); have hgn:=Zgs hok.2
  refine Zb S6 C2 [v2,v3] Qg U U U U U ?_
  refine Z9 S6 Zu3 U U U (Zk2 S6.imm x1 _ (Zfr x1 (A1.mono L3) (A2.mono L3)) hok.1 hok.2) (fun w5 G4 r2 P2 S7 L4=>?_)
  refine YN YD U U U (R1.mono (L3.trans L4)) S7 0 U P2 (by have:=Zc; (show _ * 56 ≤ _; omega)) (by have:=Zc; omega) U U U (fun v4 o2 w6 R3 S8=>?_)
  refine Zj k1 (by have:=Zc; omega) U U U ?_
  exact BK.mk' _ ⟨k1 + 1,v4,o2,G4,U,(L2.trans (L3.trans L4)),S8,(ZS.cast R3 (by (rw [ZiC ‹_›]))),(Zq U),(by omega)⟩ (show (Yx l).length - (k1 + 1) < (Yx l).length - k1 by omega)
 exact RT S2 U ⟨_,ZS.cast R1 (by rw [List.take_of_length_le (by omega)]; rfl),S2.freshAt 0 U⟩
theorem Zp9 {G : GH} {w : World} (hG : G.In w) (l : List HRow) (vl : Value) (hvl : Sl HRowE 56 G vl l) (hlen : ∀ r ∈ l,r.v.length ≤ 1000) : CL Tryz.prog (nat_lit 76) #[vl] [] w G fun G' w' r=>∃ r0 r1,r = .tuple #[r0,r1] ∧ (∃ o,ZS HRowE 56 (nat_lit 37) G' r0 (QD l) o ∧ Zff w w' G' o) ∧ r1 = S (Zam l):=by
 refine Zh ft [] Tryz.func76 U U ?_
 have hS:=St.start (X:=[]) hG
 have V1:=hvl.bound
 refine Zl hvl Yn U U ?_
 refine Xd (l.length : Int) 1000 U U U (fun h1=>?_) (fun h1=>?_)
 ·exact RT hS U ⟨_,_,U,⟨none,ZS.cast (ZS.nil _ _ _ _) (by exact (Zkn (by omega)).1.symm),fun _ h=>by cases h⟩,(congrArg (Value.int .i64) (by exact (Zkn (by omega)).2.symm))⟩
 refine Zr hS ZwZ U U U (Zhx hS.imm l (fun x8=>!YA x8) _ hvl 132 #[] ⟨ZyJ,fun G8 w8 v8 x8 L8 hG8 hon8 hA8=>by obtain ⟨cs_x8,rfl,hr_x8⟩:=hA8; exact Zp0 hG8 x8 cs_x8 hr_x8⟩) (fun w1 G1 S1 L1=>?_)
 refine WL.split (fun (h2 : (l.any (fun x8=>!YA x8)) = true)=>?_) (fun (h2 : (l.any (fun x8=>!YA x8)) = false)=>?_)
 ·exact RT S1 U ⟨_,_,U,⟨none,ZS.cast (ZS.nil _ _ _ _) (by exact (Zko (by omega) ‹_›).1.symm),fun _ h=>by cases h⟩,(congrArg (Value.int .i64) (by exact (Zko (by omega) ‹_›).2.symm))⟩
 refine Qe ZoK U U U (Zp8 S1.imm l _ (hvl.mono L1) (Zhv ‹_›) hlen (by omega)) (fun w2 G2 r1 hres1 P1=>?_)
 have S2:=S1.call hres1
 have L2:=hres1.le
 obtain ⟨o1,R1,hf1⟩:=P1
 have S3:=S1.adoptO hres1 hf1
 have V2:=R1.bound
 refine XH R1 Yn U U ?_
 refine Xd (((Yd l).length : Nat) : Int) 500 U U U (fun h3=>?_) (fun h3=>?_)
 ·exact RT S3 U ⟨_,_,U,⟨none,ZS.cast (ZS.nil _ _ _ _) (by exact (ZiI (by omega) ‹_› (by omega)).1.symm),fun _ h=>by cases h⟩,(congrArg (Value.int .i64) (by exact (ZiI (by omega) ‹_› (by omega)).2.symm))⟩
 exact RT S3 U ⟨_,_,U,⟨_,ZS.cast R1 (by exact (ZhL (by omega) ‹_› (by omega)).1.symm),S3.freshAt 0 U⟩,(congrArg (Value.int .i64) (by exact (ZhL (by omega) ‹_› (by omega)).2.symm))⟩
end Go.Civ
namespace Go.Civ
open Go.RowKit
open Go.Lib (compact)
set_option linter.unusedVariables false
section
variable (M : List Val → List Val → Bool) (l : List HRow)
def X4 (r : HRow) (fr : Int) : List Int:=(l.filter fun o=>decide (YC r fr < o.r.x.b) && M r.v o.v).map fun o=>o.r.x.b
def ZfG (r : HRow) (fr : Int) : List Int:=compact (Q4 (YC r fr :: X4 M l r fr))
def YH (t : List HRow) (fr : Int) : List Pt:=t.filterMap fun r=>QH M l r (ZfG M l r fr)
def ZeE (t : List HRow) (fr : Int) : Option Pt:=match YH M l t fr with
 | []=>none
 | q :: r=>some (XM (q :: r))
def Zbi (t : List HRow) (x y : Int) : Option (List Val):=(ZR t y x).find? fun v=>!(ZR l y x).any (M v)
def Zzy (t : List HRow) (ys : List Int) (x : Int) : Option Pt:=ys.findSome? fun y=>(Zbi M l t x y).map fun v=>⟨x,y,v⟩
def ZbA (t : List HRow) (fr : Int) (ys : List Int) (x : Int) : Option Pt:=if x < fr ∨ 253402300800 ≤ x then none else Zzy M l t ys x
def ZtT (t : List HRow) (fr : Int) : Option Pt:=(Yc ((fr :: t.map fun r=>r.r.x.a) ++ l.map fun o=>o.r.x.b)).findSome? (ZbA M l t fr (Yc ((t.map fun r=>r.r.d.a) ++ l.map fun o=>o.r.d.b)))
end
theorem ZmX {P : List Val → Bool} {v m : List Val} : ∀ {l : VV},ZaK l → l.find? P = some v → m ∈ l → P m = true → v = m ∨ ZL cmpV v m < 0
 | [],_,h,_,_=>by cases h
 | x :: r,hi,h,hm,hP=>by
  obtain ⟨h1,h2⟩:=List.pairwise_cons.1 hi
  rw [List.find?_cons] at h
  cases hx : P x with
  | true=>
   rw [hx] at h
   obtain rfl:=Option.some.inj h
   rcases List.mem_cons.1 hm with rfl | hm
   ·exact .inl rfl
   ·exact .inr (h1 m hm)
  | false=>
   rw [hx] at h
   rcases List.mem_cons.1 hm with rfl | hm
   ·rw [hx] at hP; cases hP
   ·exact ZmX h2 h hm hP
section
variable {M : List Val → List Val → Bool} {l t : List HRow} {v : List Val} {x y fr : Int} {r : HRow} {p : Pt}
theorem ZtU (hg : Z8 l) (h : Zcb l v y x) : x < 253402300800:=by
 obtain ⟨r,hr,_,h⟩:=h
 have h1:=(Yk (hg r hr)).2.2
 unfold ZN at h1
 simp at h1
 have h2:=Zat.1 h
 omega
theorem Zr7 : (ZfG M l r fr).Pairwise (· < ·):=(Ze5 (Zeh _)).inc
theorem Zk9 {z : Int} : z ∈ ZfG M l r fr ↔ Zli M l r fr z:=by
 unfold ZfG Zli X4
 rw [Zho (Zeh _),(Zfo _).mem_iff,List.mem_cons,List.mem_map]
 constructor
 ·rintro (h | ⟨o,ho,e⟩)
  ·exact .inl h
  ·rw [List.mem_filter,Bool.and_eq_true,decide_eq_true_eq] at ho
   exact .inr ⟨o,ho.1,ho.2.1,ho.2.2,e⟩
 ·rintro (h | ⟨o,ho,h1,h2,e⟩)
  ·exact .inl h
  ·exact .inr ⟨o,List.mem_filter.2 ⟨ho,by rw [Bool.and_eq_true,decide_eq_true_eq]; exact ⟨h1,h2⟩⟩,e⟩
theorem ZfH : p ∈ YH M l t fr ↔ ∃ r ∈ t,QH M l r (ZfG M l r fr) = some p:=List.mem_filterMap
theorem ZtV (hgt : Z8 t) : VP (YH M l t fr):=fun p hp=>by
 obtain ⟨r,hr,h⟩:=ZfH.1 hp
 rw [(Zdm h).2.2.1]; exact (Yk (hgt r hr)).1
theorem ZmY (hgl : Z8 l) (hgt : Z8 t) (hp : p ∈ YH M l t fr) :
  ZfF M l t p.v p.vd p.tx ∧ fr ≤ p.tx ∧ (p.tx = fr ∨ (∃ q ∈ t,q.r.x.a = p.tx) ∨ ∃ o ∈ l,o.r.x.b = p.tx) ∧ ((∃ q ∈ t,q.r.d.a = p.vd) ∨ ∃ o ∈ l,o.r.d.b = p.vd):=by
 obtain ⟨r,hr,h⟩:=ZfH.1 hp
 exact Zr6 hgl hgt hr (fun z hz=>Zk9.1 hz) h
theorem Zc9 (hgl : Z8 l) (hgt : Z8 t) (hf : fr ≤ x) (h : ZfF M l t v y x) : ∃ p ∈ YH M l t fr,p.v = v ∧ (p.tx < x ∨ (p.tx = x ∧ p.vd ≤ y)):=by
 obtain ⟨r,hr,e,k⟩:=ZmW (fr:=fr) hgl hgt hf h
 obtain ⟨p,hp,hq⟩:=k _ Zr7 (fun z=>Zk9)
 exact ⟨p,ZfH.2 ⟨r,hr,hp⟩,by rw [(Zdm hp).2.2.1,e],hq⟩
theorem ZkA (h : YH M l t fr = []) : ZeE M l t fr = none:=by unfold ZeE; rw [h]
theorem ZkB (h : YH M l t fr ≠ []) : ZeE M l t fr = some (XM (YH M l t fr)):=by
 unfold ZeE
 cases e : YH M l t fr with
 | nil=>exact absurd e h
 | cons a r=>rfl
theorem ZmZ (hgl : Z8 l) (hgt : Z8 t) : (v ∈ ZR t y x ∧ (!(ZR l y x).any (M v)) = true) ↔ ZfF M l t v y x:=by
 rw [← Zbt hgt,← Zbt hgl,Zau hgt]
 unfold ZfF
 refine and_congr_right fun _=>?_
 rw [Bool.not_eq_true',List.any_eq_false]
 constructor
 ·intro h u hu hh; exact h u ((Zau hgl).2 hh) hu
 ·intro h u hu hh; exact h u hh ((Zau hgl).1 hu)
theorem ZhW (hgl : Z8 l) (hgt : Z8 t) (h : Zbi M l t x y = some v) : ZfF M l t v y x:=
 (ZmZ hgl hgt).1 ⟨List.mem_of_find?_eq_some h,List.find?_some (p:=fun v=>!(ZR l y x).any (M v)) h⟩
theorem ZxV (hgl : Z8 l) (hgt : Z8 t) : ZtT M l t fr = ZeE M l t fr:=by
 unfold ZtT
 by_cases e : YH M l t fr = []
 ·rw [ZkA e]
  refine ZaS fun x _=>?_
  unfold ZbA
  split
  ·rfl
  ·refine ZaS fun y _=>?_
   cases k : Zbi M l t x y with
   | none=>rfl
   | some v=>
    obtain ⟨p,hp,_⟩:=Zc9 (fr:=fr) hgl hgt (by omega) (ZhW hgl hgt k)
    rw [e] at hp; cases hp
 ·rw [ZkB e]
  have hV:=ZtV (M:=M) (l:=l) (fr:=fr) hgt
  obtain ⟨hm,hmin⟩:=ZdA hV e
  generalize XM (YH M l t fr) = m at hm hmin ⊢
  obtain ⟨g1,g2,g3,g4⟩:=ZmY hgl hgt hm
  have hlate : m.tx < 253402300800:=ZtU hgt g1.1
  have none_at : ∀ {a b : Int},fr ≤ a → Zeu a b m.tx m.vd → Zbi M l t a b = none:=fun {a b} hf hlt=>by
   cases k : Zbi M l t a b with
   | none=>rfl
   | some v=>
    obtain ⟨p,hp,_,h2⟩:=Zc9 (fr:=fr) hgl hgt hf (ZhW hgl hgt k)
    refine absurd ?_ (Zj5 (hmin p hp))
    unfold Zeu at hlt ⊢
    omega
  have here : Zbi M l t m.tx m.vd = some m.v:=by
   obtain ⟨i1,i2⟩:=(ZmZ hgl hgt).2 g1
   cases k : Zbi M l t m.tx m.vd with
   | none=>
    unfold Zbi at k
    rw [List.find?_eq_none] at k
    exact absurd i2 (k m.v i1)
   | some v=>
    have hinc : ZaK (ZR t m.vd m.tx):=Zaj _
    rcases ZmX hinc k i1 i2 with h | h
    ·rw [h]
    ·exfalso
     obtain ⟨p,hp,h1,h2⟩:=Zc9 (fr:=fr) hgl hgt g2 (ZhW hgl hgt k)
     have h3:=Zj5 (hmin p hp)
     unfold Zeu at h3
     have e1 : p.tx = m.tx:=by omega
     have e2 : p.vd = m.vd:=by omega
     apply hmin p hp
     unfold Q9 Y5
     rw [e1,e2,if_neg (Int.lt_irrefl _),if_neg (Int.lt_irrefl _),if_neg (Int.lt_irrefl _),if_neg (Int.lt_irrefl _),Q3 (hV p hp) (hV m hm),h1]
     simpa using h
  refine ZbU (x:=m.tx) (Zbw.2 ?_) (ZfC _) (fun a _ ha=>?_) ?_
  ·rw [List.mem_append,List.mem_cons,List.mem_map,List.mem_map]
   rcases g3 with g | ⟨q,hq,g⟩ | ⟨o,ho,g⟩
   ·exact .inl (.inl g)
   ·exact .inl (.inr ⟨q,hq,g⟩)
   ·exact .inr ⟨o,ho,g⟩
  ·unfold ZbA
   split
   ·rfl
   ·refine ZaS fun b _=>?_
    rw [none_at (by omega) (.inl ha)]; rfl
  ·unfold ZbA
   rw [if_neg (by omega)]
   refine ZbU (x:=m.vd) (Zbw.2 ?_) (ZfC _) (fun b _ hb=>?_) ?_
   ·rw [List.mem_append,List.mem_map,List.mem_map]
    rcases g4 with ⟨q,hq,g⟩ | ⟨o,ho,g⟩
    ·exact .inl ⟨q,hq,g⟩
    ·exact .inr ⟨o,ho,g⟩
   ·rw [none_at g2 (.inr ⟨rfl,hb⟩)]; rfl
   ·rw [here]; rfl
end
def ZcA (s : Schema) (cs : List (List UInt8)) (v : List Val) : List Val:=cs.map fun c=>Zcs v (Xw (s.cols.map Col.name) c)
def mtB (s : Schema) (cs : List (List UInt8)) (v u : List Val) : Bool:=decide (u.take cs.length = ZcA s cs v)
def ZgA (s : Schema) (f : Foreign) : Bool:=s.fks.any fun g=>decide (g.table = f.table) && decide (g.cols = f.cols)
def ZcU (t o : Schema) (j : Nat) (c : List UInt8) : Bool:=decide (Zcr t.cols (Xw (t.cols.map Col.name) c) = Zcr o.cols (j : Int))
def ZtW (t o : Schema) (cs : List (List UInt8)) : Bool:=cs.zipIdx.all fun p=>ZcU t o p.2 p.1
def XN (t o : Schema) (f : Foreign) : Bool:=ZgA t f && (decide (f.table = o.name) && (decide ((f.cols.length : Int) = o.key) && ZtW t o f.cols))
section
variable {s t o : Schema} {f : Foreign} {cs : List (List UInt8)} {c : List UInt8} {v u : List Val} {k : Nat}
theorem ZhX (hs : YB s = true) (h : ZgA s f = true) : ∀ c ∈ f.cols,0 ≤ Xw (s.cols.map Col.name) c:=fun c hc=>by
 unfold ZgA at h
 rw [List.any_eq_true] at h
 obtain ⟨g,hg,e⟩:=h
 rw [Bool.and_eq_true,decide_eq_true_eq,decide_eq_true_eq] at e
 unfold YB at hs
 simp only [Bool.and_eq_true,List.all_eq_true] at hs
 have h2:=hs.2.2 g hg
 unfold fkB at h2
 simp only [Bool.and_eq_true,List.all_eq_true,decide_eq_true_eq] at h2
 exact h2.2 c (by rw [e.2]; exact hc)
theorem ZxW {l : List (List UInt8)} : (Xw l c).toNat < l.length ∨ Xw l c < 0:=by
 unfold Xw Qi
 split
 ·rename_i i hi
  left
  have:=(List.findIdx?_eq_some_iff_getElem.1 hi).1
  omega
 ·right; decide
theorem ZiY (h : 0 ≤ Xw (s.cols.map Col.name) c) : (Xw (s.cols.map Col.name) c).toNat < s.cols.length:=by
 rcases ZxW (c:=c) (l:=s.cols.map Col.name) with k | k
 ·rwa [List.length_map] at k
 ·omega
theorem Zr8 (hs : YB t = true) (h : XN t o f = true) : (∀ c ∈ f.cols,0 ≤ Xw (t.cols.map Col.name) c) ∧ (f.cols.length : Int) = o.key:=by
 unfold XN at h
 simp only [Bool.and_eq_true,decide_eq_true_eq] at h
 exact ⟨ZhX hs h.1,h.2.2.1⟩
theorem ZeF {l : List Col} {i : Int} {x : Col} (h : l[i.toNat]? = some x) : Zcr l i = x.kind:=by unfold Zcr; rw [h]
theorem ZiZ {l : List Col} {i : Nat} {x : Col} (h : l[i]? = some x) : Zcr l (i : Int) = x.kind:=ZeF (by simpa using h)
theorem Zr9 {j : Nat} {x z : Col} (h1 : t.cols[(Xw (t.cols.map Col.name) c).toNat]? = some x) (h2 : o.cols[j]? = some z) (h : x.kind = z.kind) : ZcU t o j c = true:=by
 unfold ZcU; rw [ZeF h1,ZiZ h2]; exact decide_eq_true h
theorem ZrA {j : Nat} {x z : Col} (h1 : t.cols[(Xw (t.cols.map Col.name) c).toNat]? = some x) (h2 : o.cols[j]? = some z) (h : x.kind ≠ z.kind) : ZcU t o j c = false:=by
 unfold ZcU; rw [ZeF h1,ZiZ h2]; exact decide_eq_false h
theorem ZrB {α : Type} {P : Nat → α → Bool} {l : List α} {x : α} (h : l[k]? = some x) (hx : P k x = false) : (l.zipIdx.all fun p=>P p.2 p.1) = false:=by
 rw [Bool.eq_false_iff]
 intro e
 rw [List.all_eq_true] at e
 have:=e (x,k) (List.mem_zipIdx_iff_getElem?.2 h)
 rw [hx] at this; cases this
theorem ZpA {α : Type} {P : Nat → α → Bool} {l : List α} (h : ∀ j,j < k → ∀ x,l[j]? = some x → P j x = true) (hk : l.length ≤ k) : (l.zipIdx.all fun p=>P p.2 p.1) = true:=by
 rw [List.all_eq_true]
 rintro ⟨x,j⟩ hm
 have hj:=List.mem_zipIdx_iff_getElem?.1 hm
 have:=(List.getElem?_eq_some_iff.1 hj).1
 exact h j (by simp at this ⊢; omega) x hj
theorem ZrC (h : ZgA t f = false) : false = XN t o f:=by unfold XN; rw [h]; rfl
theorem ZrD (h : f.table ≠ o.name) : false = XN t o f:=by unfold XN; rw [decide_eq_false h]; simp
theorem ZrE (h : (f.cols.length : Int) ≠ o.key) : false = XN t o f:=by unfold XN; rw [decide_eq_false h]; simp
theorem ZrF (h : f.cols[k]? = some c) (h2 : ZcU t o k c = false) : false = XN t o f:=by unfold XN ZtW; rw [ZrB (P:=fun j c=>ZcU t o j c) h h2]; simp
theorem ZrG (h1 : ZgA t f = true) (h2 : f.table = o.name) (h3 : (f.cols.length : Int) = o.key) (h4 : ∀ j,j < k → ∀ c,f.cols[j]? = some c → ZcU t o j c = true) (hk : f.cols.length ≤ k) : true = XN t o f:=by
 unfold XN ZtW; rw [h1,decide_eq_true h2,decide_eq_true h3,ZpA (P:=fun j c=>ZcU t o j c) h4 hk]; rfl
theorem ZfI {i : Int} {x : Val} (h : v[i.toNat]? = some x) : Zcs v i = x:=by unfold Zcs; rw [h]
theorem Zzz {a b : Val} (h : cs[k]? = some c) (h1 : v[(Xw (s.cols.map Col.name) c).toNat]? = some a) (h2 : u[k]? = some b) (hne : a ≠ b) : false = mtB s cs v u:=by
 refine (decide_eq_false fun e=>hne ?_).symm
 have hk:=(List.getElem?_eq_some_iff.1 h).1
 have:=congrArg (fun (l : List Val)=>l[k]?) e
 simp only [ZcA,List.getElem?_map,h,Option.map_some,List.getElem?_take,if_pos hk,h2] at this
 rw [ZfI h1] at this
 exact (Option.some.inj this).symm
theorem ZxX (hl : cs.length ≤ u.length) (h : ∀ j,j < k → ∀ c,cs[j]? = some c → u[j]? = some (Zcs v (Xw (s.cols.map Col.name) c))) (hk : cs.length ≤ k) : true = mtB s cs v u:=by
 refine (decide_eq_true ?_).symm
 apply List.ext_getElem?
 intro i
 unfold ZcA
 rw [List.getElem?_take,List.getElem?_map]
 split
 ·rename_i hi
  have hc : cs[i]? = some cs[i]:=List.getElem?_eq_getElem hi
  rw [h i (by omega) _ hc,hc]; rfl
 ·rw [List.getElem?_eq_none (by omega)]; rfl
theorem Zws {a b : Val} (h : ∀ j,j < k → ∀ c,cs[j]? = some c → u[j]? = some (Zcs v (Xw (s.cols.map Col.name) c))) (hc : cs[k]? = some c) (h1 : v[(Xw (s.cols.map Col.name) c).toNat]? = some a) (h2 : u[k]? = some b) (e : a = b) :
  ∀ j,j < k + 1 → ∀ c,cs[j]? = some c → u[j]? = some (Zcs v (Xw (s.cols.map Col.name) c)):=fun j hj d hd=>by
 by_cases q : j = k
 ·subst q
  rw [hc] at hd
  obtain rfl:=Option.some.inj hd
  rw [ZfI h1,h2,e]
 ·exact h j (by omega) d hd
end
end Go.Civ
namespace Go.Civ
open Go.RowKit
open Go.Lib (compact)
set_option linter.unusedVariables false
structure Link where
 t : Table
 o : Table
 f : Foreign
def Zez : Enc Link:=(Enc.pair TableE (Enc.pair TableE ForeignE)).via fun x=>(x.t,x.o,x.f)
section
variable {G : GH} {cs : List Value}
theorem ZdC {x : Link} (h : Zez.rep G x cs) : ∃ v u r v' u' r' c,cs = [Za x.t.s.name,v, .int .i64 x.t.s.key,u,r, .int .i64 x.t.last,Za x.o.s.name,v', .int .i64 x.o.s.key,u',r', .int .i64 x.o.last,c,Za x.f.table] ∧
  x.t.s.name.length ≤ reach ∧ Sl ColE 24 G v x.t.s.cols ∧ Z0 x.t.s.key ∧ Sl ForeignE 40 G u x.t.s.fks ∧ Sl HRowE 56 G r x.t.rows ∧ Z0 x.t.last ∧
  x.o.s.name.length ≤ reach ∧ Sl ColE 24 G v' x.o.s.cols ∧ Z0 x.o.s.key ∧ Sl ForeignE 40 G u' x.o.s.fks ∧ Sl HRowE 56 G r' x.o.rows ∧ Z0 x.o.last ∧ Sl Enc.str 16 G c x.f.cols ∧ x.f.table.length ≤ reach:=by
 obtain ⟨c1,c2,rfl,h1,c3,c4,rfl,h2,h3⟩:=h
 obtain ⟨v,u,r,rfl,a1,a2,a3,a4,a5,a6⟩:=Zy h1
 obtain ⟨v',u',r',rfl,b1,b2,b3,b4,b5,b6⟩:=Zy h2
 obtain ⟨c,rfl,d1,d2⟩:=Xg h3
 exact ⟨v,u,r,v',u',r',c,rfl,a1,a2,a3,a4,a5,a6,b1,b2,b3,b4,b5,b6,d1,d2⟩
theorem ZcV (x : Link) {v u r v' u' r' c : Value} (a1 : x.t.s.name.length ≤ reach) (a2 : Sl ColE 24 G v x.t.s.cols) (a3 : Z0 x.t.s.key) (a4 : Sl ForeignE 40 G u x.t.s.fks) (a5 : Sl HRowE 56 G r x.t.rows) (a6 : Z0 x.t.last)
  (b1 : x.o.s.name.length ≤ reach) (b2 : Sl ColE 24 G v' x.o.s.cols) (b3 : Z0 x.o.s.key) (b4 : Sl ForeignE 40 G u' x.o.s.fks) (b5 : Sl HRowE 56 G r' x.o.rows) (b6 : Z0 x.o.last) (d1 : Sl Enc.str 16 G c x.f.cols) (d2 : x.f.table.length ≤ reach) :
  Zez.rep G x [Za x.t.s.name,v, .int .i64 x.t.s.key,u,r, .int .i64 x.t.last,Za x.o.s.name,v', .int .i64 x.o.s.key,u',r', .int .i64 x.o.last,c,Za x.f.table]:=
 ⟨_,_,rfl,Zo x.t a1 a2 a3 a4 a5 a6,_,_,rfl,Zo x.o b1 b2 b3 b4 b5 b6,QQ x.f d1 d2⟩
end
theorem ZfJ {s : Schema} (h : YB s = true) : 1 ≤ s.key ∧ s.key ≤ s.cols.length:=by
 unfold YB Qx at h
 simp only [Bool.and_eq_true,decide_eq_true_eq] at h
 obtain ⟨⟨⟨⟨⟨⟨_,h2⟩,h3⟩,h4⟩,h5⟩,h6⟩,h7⟩:=h.1
 exact ⟨h4,h5⟩
structure LinkOk (x : Link) : Prop where
 t : Zu x.t = true
 o : Zu x.o = true
 cols : ∀ c ∈ x.f.cols,0 ≤ Xw (x.t.s.cols.map Col.name) c
 key : (x.f.cols.length : Int) = x.o.s.key
abbrev lM (x : Link) : List Val → List Val → Bool:=mtB x.t.s x.f.cols
def Zcc (x : Link) (fr : Int) : Option Pt:=ZeE (lM x) x.o.rows x.t.rows fr
theorem Zhc {t o : Table} {f : Foreign} (h1 : Zu t = true) (h2 : Zu o = true) (h3 : XN t.s o.s f = true) : LinkOk ⟨t,o,f⟩:=by
 have hf:=Zr8 (Xb h1).1 h3
 exact ⟨h1,h2,hf.1,hf.2⟩
section
variable {x : Link} {v : List Val} {r : HRow}
theorem LinkOk.len (h : LinkOk x) (hr : r ∈ x.t.rows) : x.t.s.cols.length ≤ r.v.length:=by
 have:=Zas h.t hr
 have h4:=this.2.2.2.1
 omega
theorem LinkOk.olen (h : LinkOk x) (hr : r ∈ x.o.rows) : x.f.cols.length ≤ r.v.length:=by
 have h1:=Zas h.o hr
 have h2:=ZfJ (Xb h.o).1
 have h3:=h.key
 have h4:=h1.2.2.2.1
 omega
end
section
variable {M : List Val → List Val → Bool} {l t : List HRow} {v : List Val} {x tx fr : Int} {r o : HRow} {k : Nat} {ts : List Int}
theorem ZtX (h : l[k]? = some o) (h1 : XX tx o.r.x = true) (h2 : M v o.v = true) : Zby M (l.take (k + 1)) v tx = Zby M (l.take k) v tx ++ [o.r.d]:=by
 have h3 : Xv tx o = true:=h1
 rw [List.take_add_one,h]; unfold Zby; simp [h3,h2]
theorem Zoe (h : l[k]? = some o) (h1 : XX tx o.r.x = false ∨ M v o.v = false) : Zby M (l.take (k + 1)) v tx = Zby M (l.take k) v tx:=by
 have h3 : (Xv tx o && M v o.v) = false:=by
  have e : Xv tx o = XX tx o.r.x:=rfl
  rw [e]; rcases h1 with h1 | h1 <;> rw [h1] <;> simp
 rw [List.take_add_one,h]; unfold Zby; simp [h3]
theorem ZtY (l : List HRow) (v : List Val) (tx : Int) : (Zby M l v tx).length ≤ l.length:=by unfold Zby; rw [List.length_map]; exact List.length_filter_le _ _
theorem Zna (l : List HRow) (v : List Val) (tx : Int) (k : Nat) : (Zby M (l.take k) v tx).length ≤ l.length:=Nat.le_trans (ZtY _ _ _) (List.length_take_le' _ _)
theorem ZrH (h : l[k]? = some o) (h1 : YC r fr < o.r.x.b) (h2 : M r.v o.v = true) : X4 M (l.take (k + 1)) r fr = X4 M (l.take k) r fr ++ [o.r.x.b]:=by
 rw [List.take_add_one,h]; unfold X4; simp [h1,h2]
theorem Znb (h : l[k]? = some o) (h1 : o.r.x.b ≤ YC r fr ∨ M r.v o.v = false) : X4 M (l.take (k + 1)) r fr = X4 M (l.take k) r fr:=by
 have h3 : (decide (YC r fr < o.r.x.b) && M r.v o.v) = false:=by
  rcases h1 with h1 | h1
  ·rw [decide_eq_false (by omega)]; rfl
  ·rw [h1]; simp
 rw [List.take_add_one,h]; unfold X4; simp [h3]
theorem ZrI (l : List HRow) (k : Nat) : (X4 M (l.take k) r fr).length ≤ l.length:=by
 unfold X4; rw [List.length_map]; exact Nat.le_trans (List.length_filter_le _ _) (List.length_take_le' _ _)
theorem ZjA {α : Type} {l : List α} {a : α} (h : l[k]? = some a) : l.drop k = a :: l.drop (k + 1):=by
 obtain ⟨h1,h2⟩:=List.getElem?_eq_some_iff.1 h
 rw [List.drop_eq_getElem_cons h1,h2]
theorem ZtZ (h : ts[k]? = some x) (h1 : XX x r.r.x = false) : QH M l r (ts.drop k) = none:=by rw [ZjA h]; unfold QH; rw [if_neg (by rw [h1]; simp)]
theorem Zua {s : Span} (h : ts[k]? = some x) (h1 : XX x r.r.x = true) (h2 : (QE M l r.v r.r.d x)[0]? = some s) : QH M l r (ts.drop k) = some ⟨x,s.a,r.v⟩:=by
 rw [ZjA h]
 unfold QH
 rw [if_pos h1]
 cases e : QE M l r.v r.r.d x with
 | nil=>rw [e] at h2; cases h2
 | cons a q=>rw [e] at h2; obtain rfl:=Option.some.inj h2; rfl
theorem ZrJ (h : ts[k]? = some x) (h1 : XX x r.r.x = true) (h2 : ((QE M l r.v r.r.d x).length : Int) ≤ 0) : QH M l r (ts.drop k) = QH M l r (ts.drop (k + 1)):=by
 have e : QE M l r.v r.r.d x = []:=List.length_eq_zero_iff.1 (by omega)
 rw [ZjA h]
 show (if XX x r.r.x then (match QE M l r.v r.r.d x with | s :: _=>some ⟨x,s.a,r.v⟩ | []=>QH M l r (ts.drop (k + 1))) else none) = _
 rw [if_pos h1,e]
theorem Zub (h : ts.length ≤ k) : QH M l r (ts.drop k) = none:=by rw [List.drop_eq_nil_of_le h]; rfl
theorem Zja (h : t[k]? = some r) (h1 : QH M l r (ZfG M l r fr) = none) : YH M l (t.take (k + 1)) fr = YH M l (t.take k) fr:=by
 rw [List.take_add_one,h]; unfold YH; simp [List.filterMap_append,h1]
theorem ZpB {p : Pt} (h : t[k]? = some r) (h1 : QH M l r (ZfG M l r fr) = some p) : YH M l (t.take (k + 1)) fr = YH M l (t.take k) fr ++ [p]:=by
 rw [List.take_add_one,h]; unfold YH; simp [List.filterMap_append,h1]
theorem ZrK (t : List HRow) (k : Nat) : (YH M l (t.take k) fr).length ≤ t.length:=by
 unfold YH; exact Nat.le_trans (List.length_filterMap_le _ _) (List.length_take_le' _ _)
theorem ZuZ (h : ((YH M l (t.take k) fr).length : Int) = 0) (hk : t.length ≤ k) : Pt.mk 0 0 [] = Y8 (ZeE M l t fr) ∧ false = (ZeE M l t fr).isSome:=by
 rw [List.take_of_length_le hk] at h
 rw [ZkA (List.length_eq_zero_iff.1 (by omega))]; exact ⟨rfl,rfl⟩
theorem Zva (h : ((YH M l (t.take k) fr).length : Int) ≠ 0) (hk : t.length ≤ k) : XM (YH M l (t.take k) fr) = Y8 (ZeE M l t fr) ∧ true = (ZeE M l t fr).isSome:=by
 rw [List.take_of_length_le hk] at h ⊢
 rw [ZkB (fun e=>h (by rw [e]; rfl))]; exact ⟨rfl,rfl⟩
end
end Go.Civ
namespace Go.Civ
open Go.RowKit
open Go.Lib (compact)
section
variable {M : List Val → List Val → Bool} {l : List HRow} {r : HRow} {fr : Int}
theorem ZrL : (compact (Q4 (YC r fr :: X4 M l r fr))).length ≤ l.length + 1:=by
 have h1:=Zhp (Q4 (YC r fr :: X4 M l r fr))
 have h2 : (X4 M l r fr).length ≤ l.length:=by unfold X4; rw [List.length_map]; exact List.length_filter_le _ _
 have h3:=(Zfo (YC r fr :: X4 M l r fr)).length_eq
 simp only [List.length_cons] at h3
 omega
theorem ZxY {α : Type} {l : List α} (h : ((l.length : Nat) : Int) ≠ 0) : l ≠ []:=fun e=>h (by rw [e]; rfl)
theorem Zuc {q : List Pt} {x : Pt} (h : q[0]? = some x) : x = XM (q.take 1):=by
 cases q with
 | nil=>cases h
 | cons a r=>obtain rfl:=Option.some.inj h; rfl
theorem ZkC {q : List Pt} {x : Pt} {k : Nat} (h : q[k]? = some x) (hk : 1 ≤ k) : XM (q.take (k + 1)) = ZaQ (XM (q.take k)) x:=by
 cases q with
 | nil=>cases h
 | cons a r=>exact Zrf h hk
end
end Go.Civ
namespace Go.Civ
open Go.RowKit
set_option linter.unusedVariables false
section
variable {t o : Table} {f : Foreign} {tx fr : Int}
section
variable {M : List Val → List Val → Bool} {l : List HRow} {fs : List Fact} {k : Nat} {x : Fact}
end
end
def rM (t o : Schema) (cs : List (List UInt8)) (v u : List Val) : Bool:=decide (u.take o.key.toNat = ZcA t cs v)
theorem Zz0 {t o : Schema} {cs : List (List UInt8)} (h : (cs.length : Int) = o.key) : rM t o cs = mtB t cs:=by
 funext v u
 unfold rM mtB
 rw [show o.key.toNat = cs.length by omega]
def Qq (t o : Table) (f : Foreign) (fr : Int) : Option Pt:=ZtT (rM t.s o.s f.cols) o.rows t.rows fr
section
variable {t o : Table} {f : Foreign} {tx fr : Int}
theorem Zof {x : Link} (hk : LinkOk x) : Qq x.t x.o x.f fr = Zcc x fr:=by
 unfold Qq Zcc
 rw [Zz0 hk.key]; exact ZxV (ZY hk.o).1 (ZY hk.t).1
end
end Go.Civ
namespace Go.Civ
open Go.RowKit
set_option linter.unusedVariables false
section
variable {α : Type} (pf : α → Bool)
def Zjb (s : List α × Nat) (x : α) : List α × Nat:=if pf x then s else (s.1.set s.2 x,s.2 + 1)
def dS (l : List α) (n k : Nat) : List α × Nat:=((l.take k).drop (n + 1)).foldl (Zjb pf) (l,n)
variable {pf} {l : List α} {n k : Nat}
theorem ZjD : dS pf l n (n + 1) = (l,n):=by
 unfold dS
 rw [List.drop_of_length_le (by rw [List.length_take]; omega)]; rfl
theorem ZjE {x : α} (hk : n + 1 ≤ k) (h : l[k]? = some x) : dS pf l n (k + 1) = Zjb pf (dS pf l n k) x:=by
 unfold dS
 have hl:=(List.getElem?_eq_some_iff.1 h).1
 rw [List.take_add_one,h,List.drop_append_of_le_length (by rw [List.length_take]; omega)]
 simp [List.foldl_append]
structure DInv (pf : α → Bool) (l : List α) (n k : Nat) : Prop where
 len : (dS pf l n k).1.length = l.length
 lt : (dS pf l n k).2 < k
 rest : ∀ j,k ≤ j → (dS pf l n k).1[j]? = l[j]?
 pre : (dS pf l n k).1.take (dS pf l n k).2 = (l.take k).filter fun x=>!pf x
theorem Znm {y : α} (hy : l[n]? = some y) (hp : pf y = true) (hn : ∀ j,j < n → ∀ x,l[j]? = some x → pf x = false) : ∀ k,n + 1 ≤ k → k ≤ l.length → DInv pf l n k:=by
 intro k hk
 induction k with
 | zero=>omega
 | succ k ih=>
  intro hl
  by_cases e : k = n
  ·subst e
   refine ⟨by rw [ZjD],by rw [ZjD]; exact Nat.lt_succ_self _,fun j hj=>by rw [ZjD],?_⟩
   rw [ZjD]
   simp only
   rw [List.take_add_one,hy,List.filter_append]
   have e1 : (l.take k).filter (fun x=>!pf x) = l.take k:=List.filter_eq_self.2 fun x hx=>by
    obtain ⟨j,hj⟩:=List.getElem?_of_mem hx
    rw [List.getElem?_take] at hj
    split at hj
    ·rename_i h; rw [hn j h x hj]; rfl
    ·cases hj
   rw [e1]
   simp [hp]
  ·have I:=ih (by omega) (by omega)
   have hx : l[k]? = some l[k]:=List.getElem?_eq_getElem (by omega)
   have hs:=ZjE (pf:=pf) (n:=n) (by omega) hx
   have hf : (l.take (k + 1)).filter (fun x=>!pf x) = (l.take k).filter (fun x=>!pf x) ++ if pf l[k] then [] else [l[k]]:=by
    rw [List.take_add_one,hx,List.filter_append]
    cases hq : pf l[k] <;> simp [hq]
   unfold Zjb at hs
   cases hq : pf l[k] with
   | true=>
    rw [hq] at hs
    simp only [if_true] at hs
    exact ⟨by rw [hs]; exact I.len,by rw [hs]; have:=I.lt; omega,fun j hj=>by rw [hs]; exact I.rest j (by omega),by rw [hs,hf,hq,I.pre]; simp⟩
   | false=>
    rw [hq] at hs
    simp only [Bool.false_eq_true,if_false] at hs
    have hlt:=I.lt
    have hlen:=I.len
    refine ⟨by rw [hs,List.length_set]; exact I.len,by rw [hs]; simp only; omega,fun j hj=>?_,?_⟩
    ·rw [hs]
     simp only
     rw [List.getElem?_set_ne (by omega)]
     exact I.rest j (by omega)
    ·rw [hs,hf,hq]
     simp only [Bool.false_eq_true,if_false]
     rw [List.take_add_one,List.take_set_of_le (Nat.le_refl _),I.pre,List.getElem?_set_self (by omega)]
     rfl
theorem Zyl {y x : α} (hy : l[n]? = some y) (hp : pf y = true) (hn : ∀ j,j < n → ∀ x,l[j]? = some x → pf x = false) (hk : n + 1 ≤ k) (hl : k ≤ l.length) (h : (dS pf l n k).1[k]? = some x) : l[k]? = some x:=by
 rw [← (Znm hy hp hn k hk hl).rest k (Nat.le_refl _)]; exact h
theorem Zjc {x : α} (hk : n + 1 ≤ k) (h : l[k]? = some x) (hp : pf x = true) : dS pf l n (k + 1) = dS pf l n k:=by rw [ZjE hk h]; unfold Zjb; rw [hp]; rfl
theorem Zlk {x : α} (hk : n + 1 ≤ k) (h : l[k]? = some x) (hp : pf x = false) : dS pf l n (k + 1) = ((dS pf l n k).1.set (dS pf l n k).2 x,(dS pf l n k).2 + 1):=by rw [ZjE hk h]; unfold Zjb; rw [hp]; rfl
theorem Zwz (h : Qi pf l ≠ -1) : ∃ m : Nat,Qi pf l = (m : Int) ∧ ∃ y,l[m]? = some y ∧ pf y = true ∧ ∀ j,j < m → ∀ x,l[j]? = some x → pf x = false:=by
 unfold Qi at h ⊢
 cases e : l.findIdx? pf with
 | none=>rw [e] at h; exact absurd rfl h
 | some m=>
  rw [List.findIdx?_eq_some_iff_getElem] at e
  obtain ⟨hl,h1,h2⟩:=e
  refine ⟨m,rfl,l[m],List.getElem?_eq_getElem hl,h1,fun j hj x hx=>?_⟩
  obtain ⟨_,rfl⟩:=List.getElem?_eq_some_iff.1 hx
  simpa using h2 j hj
theorem Znn (h : Qi pf l = -1) : l = l.filter fun x=>!pf x:=by
 symm
 rw [List.filter_eq_self]
 intro x hx
 unfold Qi at h
 cases e : l.findIdx? pf with
 | none=>
  rw [List.findIdx?_eq_none_iff] at e
  rw [e x hx]; rfl
 | some m=>rw [e] at h; simp at h
theorem Zsa {y z : α} {m : Nat} (hy : l[n]? = some y) (hp : pf y = true) (hn : ∀ j,j < n → ∀ x,l[j]? = some x → pf x = false) (hk : n + 1 ≤ k) (hl : k ≤ l.length) (he : l.length ≤ k) :
  ((dS pf l n k).1.take (dS pf l n k).2 ++ List.replicate m z).take (dS pf l n k).2 = l.filter fun x=>!pf x:=by
 have I:=Znm hy hp hn k hk hl
 have hlt:=I.lt
 have hlen:=I.len
 rw [List.take_append_of_le_length (by rw [List.length_take]; omega),List.take_take,Nat.min_self,I.pre,List.take_of_length_le he]
end
end Go.Civ
