/- Lemmas. -/
import Derived.Test.YthgeclodflmiaaaGreatH20
import Derived.Test.YthgeclodflmiaaaGreatH21
import Derived.Test.YthgeclodflmiaaaGreatH24
import Derived.Test.YthgeclodflmiaaaGreatH25
import Derived.Test.YthgeclodflmiaaaGreatH26
import Derived.Test.YthgeclodflmiaaaGreatProg
import Derived.KernelRfl
import Derived.WalkKit
namespace Go.Civ
open Go.RowKit
set_option linter.unusedVariables false
def Ziv (k : Nat) (v u : List Val) : Bool:=decide (u.take k = v.take k)
def ZbL (k : Nat) (v : List Val) (tx : Int) (d : Span) (r : HRow) : List HRow:=
 if r.r.x.b = 253402300800 ∧ Ziv k v r.v = true ∧ ZX 3 [r.r.d] [d] ≠ [r.r.d] then Xl r.v (ZX 3 [r.r.d] [d]) tx 253402300800 ++ [⟨r.v,⟨r.r.d,⟨r.r.x.a,tx⟩⟩⟩] else [r]
def ZcS (k : Nat) (l : List HRow) (tx : Int) (v : List Val) (d : Span) : List HRow:=⟨v,⟨d,⟨tx,253402300800⟩⟩⟩ :: l.flatMap (ZbL k v tx d)
theorem Zjr {p q : Span} (hp : p.a < p.b) (hq : q.a < q.b) : ZX 3 [p] [q] = [p] ↔ ¬ (p.a < q.b ∧ q.a < p.b):=by
 constructor
 ·intro e k
  have h:=Zlp hp hq (a:=max p.a q.a)
  rw [e,QC] at h
  omega
 ·intro k
  have h:=Zcv (kind:=3) rfl (a:=[p]) (b:=[q]) (by simpa using hp) (by simpa using hq)
  refine Can.unique h.1 ⟨List.pairwise_singleton _ _,fun s hs=>by rw [List.mem_singleton.1 hs]; exact hp⟩ fun x=>?_
  rw [Zlp hp hq,QC]
  constructor
  ·exact fun z=>z.1
  ·intro z; exact ⟨z,by omega⟩
section
variable {k : Nat} {l : List HRow} {tx : Int} {v u : List Val} {d : Span} {r : HRow} {a y : Int}
end
end Go.Civ
namespace Go.Civ
open Go.RowKit
set_option linter.unusedVariables false
def Qp (x : Int) : List Int → List Int
 | []=>[x]
 | y :: r=>if y < x then y :: Qp x r else if y = x then y :: r else x :: y :: r
def ZY (l : List Int) : List Int:=l.foldl (fun out x=>Qp x out) []
section
variable {x y : Int} {l out : List Int} {k : Nat}
theorem ZgN : ∀ {l : List Int},y ∈ Qp x l ↔ y = x ∨ y ∈ l
 | []=>by simp [Qp]
 | z :: r=>by
  unfold Qp
  split
  ·rw [List.mem_cons,ZgN,List.mem_cons]
   constructor
   ·rintro (h | h | h)
    ·exact .inr (.inl h)
    ·exact .inl h
    ·exact .inr (.inr h)
   ·rintro (h | h | h)
    ·exact .inr (.inl h)
    ·exact .inl h
    ·exact .inr (.inr h)
  ·split
   ·rename_i h
    constructor
    ·exact .inr
    ·rintro (rfl | q)
     ·rw [h]; simp
     ·exact q
   ·simp
theorem Zly : ∀ {l : List Int},l.Pairwise (· < ·) → (Qp x l).Pairwise (· < ·)
 | [],_=>by simp [Qp]
 | z :: r,h=>by
  obtain ⟨h1,h2⟩:=List.pairwise_cons.1 h
  unfold Qp
  split
  ·rename_i hz
   refine List.pairwise_cons.2 ⟨fun w hw=>?_,Zly h2⟩
   rcases ZgN.1 hw with rfl | hw
   ·exact hz
   ·exact h1 w hw
  ·split
   ·exact h
   ·refine List.pairwise_cons.2 ⟨fun w hw=>?_,h⟩
    rcases List.mem_cons.1 hw with rfl | hw
    ·omega
    ·have:=h1 w hw; omega
theorem Zlz : ∀ {l : List Int},(Qp x l).length ≤ l.length + 1
 | []=>by simp [Qp]
 | z :: r=>by
  have:=Zlz (l:=r)
  unfold Qp
  split
  ·simp; omega
  ·split <;> simp
theorem ZgO : ∀ (l out : List Int),out.Pairwise (· < ·) → (l.foldl (fun out x=>Qp x out) out).Pairwise (· < ·) ∧ ∀ y,y ∈ l.foldl (fun out x=>Qp x out) out ↔ y ∈ l ∨ y ∈ out
 | [],out,h=>⟨h,fun y=>by simp⟩
 | x :: l,out,h=>by
  obtain ⟨h1,h2⟩:=ZgO l (Qp x out) (Zly h)
  refine ⟨h1,fun y=>(h2 y).trans ?_⟩
  rw [ZgN,List.mem_cons]
  constructor
  ·rintro (a | a | a)
   ·exact .inl (.inr a)
   ·exact .inl (.inl a)
   ·exact .inr a
  ·rintro ((a | a) | a)
   ·exact .inr (.inl a)
   ·exact .inl a
   ·exact .inr (.inr a)
theorem Zl0 (l : List Int) : (ZY l).Pairwise (· < ·):=(ZgO l [] List.Pairwise.nil).1
theorem ZeX : y ∈ ZY l ↔ y ∈ l:=by unfold ZY; rw [(ZgO l [] List.Pairwise.nil).2 y]; simp
theorem Zby (h : l[k]? = some x) : ZY (l.take (k + 1)) = Qp x (ZY (l.take k)):=by
 unfold ZY; rw [List.take_add_one,h]; simp [List.foldl_append]
theorem ZgP : ∀ (l : List Int),(ZY l).length ≤ l.length:=by
 have : ∀ (l out : List Int),(l.foldl (fun out x=>Qp x out) out).length ≤ out.length + l.length:=by
  intro l
  induction l with
  | nil=>intro out; simp
  | cons x l ih=>intro out; have:=ih (Qp x out); have:=Zlz (x:=x) (l:=out); rw [List.foldl_cons,List.length_cons]; omega
 intro l
 have:=this l []
 simpa [ZY] using this
theorem Zl1 (l : List Int) (k : Nat) : (ZY (l.take k)).length ≤ l.length:=by
 have:=ZgP (l.take k)
 have:=List.length_take_le' k l
 omega
def DnI (out : List Int) (x : Int) (k : Nat) : Prop:=∀ j,j < k → ∀ u,out[j]? = some u → u < x
theorem DnI.step {u : Int} (h : DnI out x k) (hu : out[k]? = some u) (h1 : u < x) : DnI out x (k + 1):=fun j hj w hw=>by
 by_cases e : j = k
 ·subst e; rw [hu] at hw; obtain rfl:=Option.some.inj hw; exact h1
 ·exact h j (by omega) w hw
theorem Zmp : ∀ {out : List Int} {k : Nat} {u : Int},DnI out x k → out[k]? = some u → u = x → Qp x out = out
 | [],k,u,_,h,_=>by cases h
 | z :: r,0,u,_,h,e=>by
  obtain rfl:=Option.some.inj h
  unfold Qp
  rw [if_neg (by omega),if_pos e]
 | z :: r,k + 1,u,h1,h,e=>by
  have hz:=h1 0 (by omega) z rfl
  unfold Qp
  rw [if_pos hz,Zmp (k:=k) (fun j hj w hw=>h1 (j + 1) (by omega) w (by simpa using hw)) (by simpa using h) e]
theorem ZgQ : ∀ {out : List Int} {k : Nat},DnI out x k → k ≤ out.length → (∀ u,out[k]? = some u → x < u) → (([] ++ out.take k) ++ [x]) ++ out.drop k = Qp x out
 | [],0,_,_,_=>by simp [Qp]
 | z :: r,0,_,_,h=>by
  have:=h z rfl
  unfold Qp
  rw [if_neg (by omega),if_neg (by omega)]; simp
 | [],k + 1,_,h,_=>by simp at h
 | z :: r,k + 1,h1,h2,h=>by
  have hz:=h1 0 (by omega) z rfl
  have ih:=ZgQ (out:=r) (k:=k) (fun j hj w hw=>h1 (j + 1) (by omega) w (by simpa using hw)) (by simpa using h2) (fun u hu=>h u (by simpa using hu))
  unfold Qp
  rw [if_pos hz,← ih]; simp
end
theorem ZdY {β : Type} {f : Int → Option β} {x : Int} {r : β} : ∀ {l : List Int},x ∈ l → l.Pairwise (· < ·) → (∀ y ∈ l,y < x → f y = none) → f x = some r → l.findSome? f = some r
 | [],h,_,_,_=>by cases h
 | z :: l,h,hp,hn,hf=>by
  obtain ⟨h1,h2⟩:=List.pairwise_cons.1 hp
  rcases List.mem_cons.1 h with rfl | h
  ·rw [List.findSome?_cons,hf]
  ·rw [List.findSome?_cons,hn z (by simp) (h1 x h)]
   exact ZdY h h2 (fun y hy=>hn y (by simp [hy])) hf
def Zeq (k : Nat) (l : List HRow) (ys : List Int) (x : Int) : Option Pt:=ys.findSome? fun y=>(ZR k (Yw l y x)).map fun v=>⟨x,y,v⟩
def ZnP (k : Nat) (l : List HRow) : Option Pt:=(ZY (l.map fun r=>r.r.x.a)).findSome? (Zeq k l (ZY (l.map fun r=>r.r.d.a)))
def ZJ (t : Table) : Option Pt:=ZnP t.s.key.toNat t.rows
theorem Zgm {k : Nat} {l : List HRow} (hg : ZK l) (x y : Int) : ZR k (Yw l y x) = QW k l x y:=by unfold QW; rw [ZdE hg]
theorem ZcL {β : Type} {f : Int → Option β} {l : List Int} (h : ∀ x ∈ l,f x = none) : l.findSome? f = none:=by
 rw [List.findSome?_eq_none_iff]; exact h
theorem ZtC {k : Nat} {l : List HRow} (hg : ZK l) (hn : l = ZS l) : ZnP k l = Zgi k l:=by
 unfold ZnP
 by_cases e : Xs k l = []
 ·rw [ZeU e]
  refine ZcL fun x _=>ZcL fun y _=>?_
  rw [Zgm hg,Zpp hg e]; rfl
 ·rw [ZcK e]
  obtain ⟨h1,h2⟩:=ZeT (ZhR hg) e
  obtain ⟨c1,⟨r,hr,e1⟩,s,hs,e2⟩:=ZfF hg hn h1
  obtain ⟨v,hv⟩:=Option.ne_none_iff_exists'.1 c1
  have hf:=fun {a b : Int} =>ZnH (tx:=a) (vd:=b) hg (fun q hq=>Zt1 (h2 q hq))
  refine ZdY (ZeX.2 (List.mem_map.2 ⟨r,hr,e1⟩)) (Zl0 _) (fun x _ hx=>ZcL fun y _=>?_) (ZdY (ZeX.2 (List.mem_map.2 ⟨s,hs,e2⟩)) (Zl0 _) (fun y _ hy=>?_) ?_)
  ·rw [Zgm hg,hf (.inl hx)]; rfl
  ·rw [Zgm hg,hf (.inr ⟨rfl,hy⟩)]; rfl
  ·rw [Zgm hg,hv]; rfl
theorem ZgR {t : Table} (h : Z2 t = true) : ZJ t = Zx t:=ZtC (Y5 h).1 (Y5 h).2.2.2
section
variable {k : Nat} {l : VV}
theorem Zl2 {v w : List Val} : ∀ {l : VV} {j : Nat},(∀ i,i < j → ∀ x y,l[i]? = some x → l[i + 1]? = some y → decide (x.take k = y.take k) = false) → l[j]? = some v → l[j + 1]? = some w → decide (v.take k = w.take k) = true → ZR k l = some v
 | [],j,_,h,_,_=>by cases h
 | [a],j,_,_,h,_=>by simp at h
 | x :: y :: r,j,h1,h2,h3,h4=>by
  unfold ZR
  cases j with
  | zero=>
   obtain rfl:=Option.some.inj h2
   obtain rfl:=Option.some.inj h3
   rw [if_pos (of_decide_eq_true h4)]
  | succ j=>
   rw [if_neg (of_decide_eq_false (h1 0 (by omega) x y rfl rfl))]
   exact Zl2 (j:=j) (fun i hi a b ha hb=>h1 (i + 1) (by omega) a b (by simpa using ha) (by simpa using hb)) (by simpa using h2) (by simpa using h3) h4
theorem Zl3 : ∀ {l : VV} {j : Nat},(∀ i,i < j → ∀ x y,l[i]? = some x → l[i + 1]? = some y → decide (x.take k = y.take k) = false) → l.length ≤ j + 1 → ZR k l = none
 | [],j,_,_=>rfl
 | [a],j,_,_=>rfl
 | x :: y :: r,j,h1,h2=>by
  simp only [List.length_cons] at h2
  obtain ⟨j,rfl⟩ : ∃ i,j = i + 1:=⟨j - 1,by omega⟩
  unfold ZR
  rw [if_neg (of_decide_eq_false (h1 0 (by omega) x y rfl rfl))]
  exact Zl3 (j:=j) (fun i hi a b ha hb=>h1 (i + 1) (by omega) a b (by simpa using ha) (by simpa using hb)) (by simp only [List.length_cons]; omega)
end
theorem ZgS {β : Type} {f : Int → Option β} {r : β} : ∀ {l : List Int} {j : Nat} {x : Int},(∀ i,i < j → ∀ y,l[i]? = some y → f y = none) → l[j]? = some x → f x = some r → l.findSome? f = some r
 | [],j,x,_,h,_=>by cases h
 | z :: l,j,x,h1,h2,hf=>by
  rw [List.findSome?_cons]
  cases j with
  | zero=>obtain rfl:=Option.some.inj h2; rw [hf]
  | succ j=>
   rw [h1 0 (by omega) z rfl]
   exact ZgS (j:=j) (fun i hi y hy=>h1 (i + 1) (by omega) y (by simpa using hy)) (by simpa using h2) hf
theorem Zl4 {β : Type} {f : Int → Option β} {l : List Int} {j : Nat} (h : ∀ i,i < j → ∀ y,l[i]? = some y → f y = none) (hj : l.length ≤ j) : l.findSome? f = none:=
 ZcL fun x hx=>by
  obtain ⟨i,hi⟩:=List.getElem?_of_mem hx
  obtain ⟨hlt,_⟩:=List.getElem?_eq_some_iff.1 hi
  exact h i (by omega) x hi
def Zsz (r : HRow) : Bool:=decide (r.v.length = 0) && decide (r.r = ⟨⟨0,0⟩,⟨0,0⟩⟩)
def ZnQ (a b : HRow) : Bool:=decide (a.v = b.v) && decide (a.r = b.r)
theorem Zp3 (a : HRow) : ZnQ a a = true:=by unfold ZnQ; simp
section
variable {t : Table}
theorem ZrC (h : Z2 t = false) : Y6 t = false ∧ Zsz (YV t) = true:=by
 unfold Y6 YV; rw [h]; exact ⟨rfl,(by decide : Zsz (ZN none) = true)⟩
theorem Zmq (h : Z2 t = true) : Y6 t = (!(ZJ t).isSome) ∧ ZnQ (YV t) (ZN (ZJ t)) = true:=by
 unfold Y6 YV
 rw [h,ZgR h,if_pos rfl]
 refine ⟨?_,Zp3 _⟩
 cases Zx t <;> rfl
end
end Go.Civ
set_option linter.unusedVariables false
set_option linter.unusedSimpArgs false
set_option maxRecDepth 100000
set_option maxHeartbeats 4000000
namespace Go.Civ
open Go.Proofs
theorem ZnT {G : GH} {w : World} (hG : G.In w) (l : List HRow) (vl : Value) (hvl : Sl HRowE 56 G vl l) (hgood : ZK l) (hlen : ∀ r ∈ l,r.v.length ≤ 1000) (hl : l.length ≤ 2000) : CL Tryz.prog (nat_lit 66) #[vl] [] w G fun G' w' r=>∃ o,Ye HRowE 56 (nat_lit 37) G' r (ZS l) o ∧ Ze1 w w' G' o:=by
 refine Zg ft [] Tryz.func66 rfl rfl ?_
 have hS:=St.start (X:=[]) hG
 refine Z6 hS Zne rfl rfl rfl (ZeV hS.imm l _ hvl hgood hlen hl) (fun w1 G1 r1 hpost1 hS1 hle1=>?_)
 have bd1:=hpost1.bound
 refine Zj hpost1 Zav rfl rfl ?_
 have hS3:=hS1.pad
 refine LP.go ft [] (fun m ρ1 w1=>∃ (k1 : Nat),∃ (v1 : Value) (o1 : OB),∃ (G2 : GH),m = (Yl l).length - k1 ∧ G1.le G2 ∧ St w [] G G2 [o1] w1 ∧ Ye HRowE 56 37 G2 v1 (ZcH ((Yl l).take k1)) o1 ∧ FR ρ1 [(3,v1),(7,r1),(8, .int .i64 (((Yl l).length : Nat) : Int)),(9, .int .i64 (k1 : Int))] ∧ k1 ≤ (Yl l).length) _ ⟨0,(.slice none 0 0),none,G1,rfl,(G1.le_refl),hS3,(Ye.nil HRowE 56 37 G1),⟨rfl,rfl,rfl,rfl,trivial⟩,(by omega)⟩ ?_
 rintro m ρ1 w2 ⟨k1,v1,o1,G2,rfl,hle2,hS2,hr1,hF9,f1⟩
 refine hF9.set ?_
 clear hF9
 have hgl:=@Zdo l
 have hpl:=Zfc (k:=k1) (fun g hg=>Nat.le_trans (Zh7 g hg) hl) (Nat.le_trans hgl hl)
 refine Zq (k1 : Int) (((Yl l).length : Nat) : Int) rfl rfl rfl (fun h1=>?_) (fun h1=>?_)
 ·refine WL.indexAddr (hpost1.mono hle2) k1 (by omega) Zav XI rfl rfl rfl rfl (fun p1 x1 hx1 he1=>?_)
  obtain ⟨cs1,hc1,hr2⟩:=he1
  obtain ⟨v2,v3,rfl,hs1,hs2⟩:=Zai hr2
  refine Zc hS2 hc1 [v2,v3] XI rfl rfl rfl rfl rfl ?_
  refine WL.alloc hS2 XI rfl rfl (fun b1 w3 hn1 hS4=>?_)
  refine WL.store hS4 0 _ _ _ 0 _ [v2,v3] [v2,v3] _ rfl rfl XI rfl (Nat.le_of_ble_eq_true rfl) (by simp only [List.all_cons,List.all_nil,hs1.oneC,hs2.oneC,Bool.true_and] <;> rfl) rfl rfl rfl rfl rfl (fun w4 hS5=>?_)
  obtain ⟨G3,hle3,hc2,hS6⟩:=hS5.shutB hn1
  have hok:=Zgf hgood hl (by assumption : (Yl l)[k1]? = some _); have hgn:=Zf6 hok.2
  refine Zc hS6 hc2 [v2,v3] XI rfl rfl rfl rfl rfl ?_
  refine Z6 hS6 Zsf rfl rfl rfl (Zjp hS6.imm x1 _ (ZeA x1 (hs1.mono hle3) (hs2.mono hle3)) hok.1 hok.2) (fun w5 G4 r2 hpost2 hS7 hle4=>?_)
  refine YE Y4 rfl rfl rfl (hr1.mono (hle3.trans hle4)) hS7 0 rfl hpost2 (by have hreach : reach = 140737488355328:=rfl; (show _ * 56 ≤ _; omega)) (by have hreach : reach = 140737488355328:=rfl; omega) rfl rfl rfl (fun v4 o2 w6 hr3 hS8=>?_)
  refine Zl k1 (by have hreach : reach = 140737488355328:=rfl; omega) rfl rfl rfl ?_
  exact BK.mk' _ ⟨k1 + 1,v4,o2,G4,rfl,(hle2.trans (hle3.trans hle4)),hS8,(Ye.cast hr3 (by (rw [Zh6 ‹_›]))),⟨rfl,rfl,rfl,rfl,trivial⟩,(by omega)⟩ (show (Yl l).length - (k1 + 1) < (Yl l).length - k1 by omega)
 exact RT hS2 rfl ⟨_,Ye.cast hr1 (by rw [List.take_of_length_le (by omega)]; rfl),hS2.freshAt 0 rfl⟩
theorem ZnU {G : GH} {w : World} (hG : G.In w) (l : List HRow) (vl : Value) (hvl : Sl HRowE 56 G vl l) (hlen : ∀ r ∈ l,r.v.length ≤ 1000) : CL Tryz.prog (nat_lit 76) #[vl] [] w G fun G' w' r=>∃ r0 r1,r = .tuple #[r0,r1] ∧ (∃ o,Ye HRowE 56 (nat_lit 37) G' r0 (Qg l) o ∧ Ze1 w w' G' o) ∧ r1 = .int .i64 (QH l):=by
 refine Zg ft [] Tryz.func76 rfl rfl ?_
 have hS:=St.start (X:=[]) hG
 have bd1:=hvl.bound
 refine Zj hvl Yq rfl rfl ?_
 refine YX (l.length : Int) 1000 rfl rfl rfl (fun h1=>?_) (fun h1=>?_)
 ·exact RT hS rfl ⟨_,_,rfl,⟨none,Ye.cast (Ye.nil _ _ _ _) (by exact (ZiZ (by omega)).1.symm),fun _ h=>by cases h⟩,(congrArg (Value.int .i64) (by exact (ZiZ (by omega)).2.symm))⟩
 refine Zn hS Zqy rfl rfl rfl (Zg0 hS.imm l (fun x8=>!Y0 x8) _ hvl 132 #[] ⟨ZvG,fun G8 w8 v8 x8 hle8 hG8 hon8 hA8=>by obtain ⟨cs_x8,rfl,hr_x8⟩:=hA8; exact ZnJ hG8 x8 cs_x8 hr_x8⟩) (fun w1 G1 hS1 hle1=>?_)
 refine WL.split (fun (h2 : (l.any (fun x8=>!Y0 x8)) = true)=>?_) (fun (h2 : (l.any (fun x8=>!Y0 x8)) = false)=>?_)
 ·exact RT hS1 rfl ⟨_,_,rfl,⟨none,Ye.cast (Ye.nil _ _ _ _) (by exact (Zja (by omega) ‹_›).1.symm),fun _ h=>by cases h⟩,(congrArg (Value.int .i64) (by exact (Zja (by omega) ‹_›).2.symm))⟩
 refine Qf Znb rfl rfl rfl (ZnT hS1.imm l _ (hvl.mono hle1) (Zgz ‹_›) hlen (by omega)) (fun w2 G2 r1 hres1 hpost1=>?_)
 have hS2:=hS1.call hres1
 have hle2:=hres1.le
 obtain ⟨o1,hr1,hf1⟩:=hpost1
 have hS3:=hS1.adoptO hres1 hf1
 have bd2:=hr1.bound
 refine Za3 hr1 Yq rfl rfl ?_
 refine YX (((ZS l).length : Nat) : Int) 500 rfl rfl rfl (fun h3=>?_) (fun h3=>?_)
 ·exact RT hS3 rfl ⟨_,_,rfl,⟨none,Ye.cast (Ye.nil _ _ _ _) (by exact (ZhC (by omega) ‹_› (by omega)).1.symm),fun _ h=>by cases h⟩,(congrArg (Value.int .i64) (by exact (ZhC (by omega) ‹_› (by omega)).2.symm))⟩
 exact RT hS3 rfl ⟨_,_,rfl,⟨_,Ye.cast hr1 (by exact (ZgH (by omega) ‹_› (by omega)).1.symm),hS3.freshAt 0 rfl⟩,(congrArg (Value.int .i64) (by exact (ZgH (by omega) ‹_› (by omega)).2.symm))⟩
end Go.Civ
set_option linter.unusedVariables false
set_option linter.unusedSimpArgs false
set_option maxRecDepth 100000
set_option maxHeartbeats 4000000
namespace Go.Civ
open Go.Proofs
theorem ZrI {G : GH} {w : World} (hG : G.In w) (l : List HRow) (vl : Value) (hvl : Sl HRowE 56 G vl l) (hl : l.length ≤ 1000000) : CL Tryz.prog (nat_lit 129) #[vl] [] w G fun G' _ r=>Sl (ValE.slice 32) 24 G' r (Xk l):=by
 refine Zg ft [] Tryz.func129 rfl rfl ?_
 have hS:=St.start (X:=[]) hG
 refine LP.go ft [] (fun m ρ1 w1=>∃ (k1 : Nat),∃ (vk : Value),∃ (G1 : GH),m = l.length - k1 ∧ G.le G1 ∧ St w [] G G1 [] w1 ∧ FR ρ1 [(0,vl),(3,vk),(4, .int .i64 (k1 : Int))] ∧ k1 ≤ l.length ∧ Sl (ValE.slice 32) 24 G1 vk (Xk (l.take k1))) _ ⟨0, .slice none 0 0,G,rfl,(G.le_refl),hS,⟨rfl,rfl,rfl,trivial⟩,(by omega),(Sl.cast (Sl.nil (ValE.slice 32) 24 G) rfl)⟩ ?_
 rintro m ρ1 w1 ⟨k1,vk,G1,rfl,hle1,hS1,hF9,f1,f2⟩
 refine hF9.set ?_
 clear hF9
 have hvl1:=Zj2 l k1
 have hiv:=QY (l.take k1)
 have bd1:=hvl.bound
 refine Zj (hvl.mono hle1) Yq rfl rfl ?_
 refine Zq (k1 : Int) (l.length : Int) rfl rfl rfl (fun h1=>?_) (fun h1=>?_)
 ·obtain ⟨xv,hxv⟩:=ZeP (l:=l) (k:=k1) (by omega)
  have bd2:=f2.bound
  refine Zj f2 Qh rfl rfl ?_
  refine LP.go ft [] (fun m ρ1 w1=>∃ (j : Nat),∃ (G2 : GH),m = (0 + j) ∧ G1.le G2 ∧ St w [] G G2 [] w1 ∧ FR ρ1 [(0,vl),(3,vk),(4, .int .i64 (k1 : Int)),(5, .int .i64 (j : Int))] ∧ j ≤ (Xk (l.take k1)).length ∧ UpV (Xk (l.take k1)) xv.v j) _ ⟨(Xk (l.take k1)).length,G1,rfl,(G1.le_refl),hS1,⟨rfl,rfl,rfl,rfl,trivial⟩,(by omega),(UpV.start)⟩ ?_
  rintro m ρ1 w2 ⟨j,G2,rfl,hle2,hS2,hF9,f3,f4⟩
  refine hF9.set ?_
  clear hF9
  rcases Cmp.dec .gtr (j : Int) 0 with ⟨hb1,q1⟩ | ⟨hb1,q1⟩
  ·have h2 : 0 < (j : Int):=q1
   clear q1
   obtain ⟨p1,x1,hx1,he1,ep1⟩:=Sl.at (f2.mono hle2) (j - 1) (by omega)
   obtain ⟨cs1,hc1,hr1⟩:=he1
   obtain ⟨v1,rfl,hs1⟩:=hr1
   obtain ⟨p2,x2,hx2,he2,ep2⟩:=Sl.at (hvl.mono (hle1.trans hle2)) k1 (by omega)
   obtain rfl : xv = x2:=Option.some.inj (hxv.symm.trans hx2)
   obtain ⟨cs2,hc2,hr2⟩:=he2
   obtain ⟨v2,rfl,hs2,hb2,hb3,hb4,hb5⟩:=ZA hr2
   rcases Cmp.dec .gtr (ZG cmpV x1 xv.v) 0 with ⟨hb6,q2⟩ | ⟨hb6,q2⟩
   ·have h3 : 0 < (ZG cmpV x1 xv.v):=q2
    clear q2
    refine dr [] [(16, .bool true),(20, .int .i64 ((j - 1 : Nat) : Int)),(21, .pointer (some p1)),(22,v1),(25, .pointer (some p2)),(27,v2),(28, .int .i64 (ZG cmpV x1 xv.v)),(29, .bool true)] hS2 ⟨fun _=>WL.cmpV .gtr rfl .i64 (j : Int) 0 _ hb1 rfl rfl rfl <| nu rfl rfl,fun _=>Qt j (by omega) (by have hreach : reach = 140737488355328:=rfl; omega) rfl rfl rfl <| nu rfl rfl,fun _=>Zk (j - 1) ep1 Qh ZH rfl rfl rfl rfl <| nu rfl rfl,fun _ hSw=>Za hSw hc1 ZH rfl rfl rfl <| nu rfl rfl,fun _=>Zk k1 ep2 Yq Zt rfl rfl rfl rfl <| nu rfl rfl,fun _ hSw=>Za hSw (Xw.drop 0 hc2) ZH rfl rfl rfl <| nu rfl rfl,fun _ hSw=>Z4 hSw ZfW rfl rfl rfl (Zcg hSw.imm x1 xv.v _ hs1 _ hs2) rfl,fun _=>WL.cmpV .gtr rfl .i64 (ZG cmpV x1 xv.v) 0 _ hb6 rfl rfl rfl <| nu rfl rfl,trivial⟩ (fun w3 hS3=>?_)
    refine Qt j (by omega) (by have hreach : reach = 140737488355328:=rfl; omega) rfl rfl rfl ?_
    exact BK.mk' _ ⟨j - 1,G2,rfl,hle2,hS3,⟨rfl,rfl,rfl,rfl,trivial⟩,(by omega),(by exact UpV.step ‹_› ‹_› ‹_›)⟩ (show (0 + (j - 1)) < (0 + j) by omega)
   have h3 : (ZG cmpV x1 xv.v) ≤ 0:=q2
   clear q2
   refine dr [] [(16, .bool true),(20, .int .i64 ((j - 1 : Nat) : Int)),(21, .pointer (some p1)),(22,v1),(25, .pointer (some p2)),(27,v2),(28, .int .i64 (ZG cmpV x1 xv.v)),(29, .bool false)] hS2 ⟨fun _=>WL.cmpV .gtr rfl .i64 (j : Int) 0 _ hb1 rfl rfl rfl <| nu rfl rfl,fun _=>Qt j (by omega) (by have hreach : reach = 140737488355328:=rfl; omega) rfl rfl rfl <| nu rfl rfl,fun _=>Zk (j - 1) ep1 Qh ZH rfl rfl rfl rfl <| nu rfl rfl,fun _ hSw=>Za hSw hc1 ZH rfl rfl rfl <| nu rfl rfl,fun _=>Zk k1 ep2 Yq Zt rfl rfl rfl rfl <| nu rfl rfl,fun _ hSw=>Za hSw (Xw.drop 0 hc2) ZH rfl rfl rfl <| nu rfl rfl,fun _ hSw=>Z4 hSw ZfW rfl rfl rfl (Zcg hSw.imm x1 xv.v _ hs1 _ hs2) rfl,fun _=>WL.cmpV .gtr rfl .i64 (ZG cmpV x1 xv.v) 0 _ hb6 rfl rfl rfl <| nu rfl rfl,trivial⟩ (fun w4 hS4=>?_)
   rcases Cmp.dec .gtr (j : Int) 0 with ⟨hb7,q3⟩ | ⟨hb7,q3⟩
   ·have h4 : 0 < (j : Int):=q3
    clear q3
    obtain ⟨p3,x3,hx3,he3,ep3⟩:=Sl.at (f2.mono hle2) (j - 1) (by omega)
    obtain rfl : x1 = x3:=Option.some.inj (hx1.symm.trans hx3)
    obtain ⟨cs3,hc3,hr3⟩:=he3
    obtain ⟨v3,rfl,hs3⟩:=hr3
    obtain ⟨p4,x4,hx4,he4,ep4⟩:=Sl.at (hvl.mono (hle1.trans hle2)) k1 (by omega)
    obtain rfl : xv = x4:=Option.some.inj (hxv.symm.trans hx4)
    obtain ⟨cs4,hc4,hr4⟩:=he4
    obtain ⟨v4,rfl,hs4,hb8,hb9,hb10,YD⟩:=ZA hr4
    rcases Cmp.dec .eql (ZG cmpV x1 xv.v) 0 with ⟨YW,q4⟩ | ⟨YW,q4⟩
    ·have h5 : (ZG cmpV x1 xv.v) = 0:=q4
     clear q4
     refine dr [] [(34, .bool true),(38, .int .i64 ((j - 1 : Nat) : Int)),(39, .pointer (some p3)),(40,v3),(43, .pointer (some p4)),(45,v4),(46, .int .i64 (ZG cmpV x1 xv.v)),(47, .bool true)] hS4 ⟨fun _=>WL.cmpV .gtr rfl .i64 (j : Int) 0 _ hb7 rfl rfl rfl <| nu rfl rfl,fun _=>Qt j (by omega) (by have hreach : reach = 140737488355328:=rfl; omega) rfl rfl rfl <| nu rfl rfl,fun _=>Zk (j - 1) ep3 Qh ZH rfl rfl rfl rfl <| nu rfl rfl,fun _ hSw=>Za hSw hc3 ZH rfl rfl rfl <| nu rfl rfl,fun _=>Zk k1 ep4 Yq Zt rfl rfl rfl rfl <| nu rfl rfl,fun _ hSw=>Za hSw (Xw.drop 0 hc4) ZH rfl rfl rfl <| nu rfl rfl,fun _ hSw=>Z4 hSw ZfW rfl rfl rfl (Zcg hSw.imm x1 xv.v _ hs3 _ hs4) rfl,fun _=>WL.cmpV .eql rfl .i64 (ZG cmpV x1 xv.v) 0 _ YW rfl rfl rfl <| nu rfl rfl,trivial⟩ (fun w5 hS5=>?_)
     refine Zl k1 (by have hreach : reach = 140737488355328:=rfl; omega) rfl rfl rfl ?_
     exact BK.mk' _ ⟨k1 + 1,vk,G2,rfl,(hle1.trans hle2),hS5,⟨rfl,rfl,rfl,trivial⟩,(by omega),(Sl.cast (f2.mono hle2) (by rw [ZaO hxv]; exact (Zmk (k:=j) hiv (by omega) ‹_› ‹_›).symm))⟩ (show l.length - (k1 + 1) < l.length - k1 by omega)
    have h5 : (ZG cmpV x1 xv.v) ≠ 0:=q4
    clear q4
    refine dr [] [(34, .bool true),(38, .int .i64 ((j - 1 : Nat) : Int)),(39, .pointer (some p3)),(40,v3),(43, .pointer (some p4)),(45,v4),(46, .int .i64 (ZG cmpV x1 xv.v)),(47, .bool false)] hS4 ⟨fun _=>WL.cmpV .gtr rfl .i64 (j : Int) 0 _ hb7 rfl rfl rfl <| nu rfl rfl,fun _=>Qt j (by omega) (by have hreach : reach = 140737488355328:=rfl; omega) rfl rfl rfl <| nu rfl rfl,fun _=>Zk (j - 1) ep3 Qh ZH rfl rfl rfl rfl <| nu rfl rfl,fun _ hSw=>Za hSw hc3 ZH rfl rfl rfl <| nu rfl rfl,fun _=>Zk k1 ep4 Yq Zt rfl rfl rfl rfl <| nu rfl rfl,fun _ hSw=>Za hSw (Xw.drop 0 hc4) ZH rfl rfl rfl <| nu rfl rfl,fun _ hSw=>Z4 hSw ZfW rfl rfl rfl (Zcg hSw.imm x1 xv.v _ hs3 _ hs4) rfl,fun _=>WL.cmpV .eql rfl .i64 (ZG cmpV x1 xv.v) 0 _ YW rfl rfl rfl <| nu rfl rfl,trivial⟩ (fun w6 hS6=>?_)
    refine WL.buildSlice _ [] [] hS6 Q5 rfl rfl rfl rfl (fun z hz=>by match z,hz with | [],_=>rfl) (fun b1 w7 hn1 hS7=>?_)
    refine Yr (f2.mono hle2) j (by omega) Qh ZH rfl rfl rfl rfl (fun v5 hs5=>?_)
    have hr5:=Ye.empty (ValE.slice 32) 24 31 G2 b1
    refine YE Q5 rfl rfl rfl hr5 hS7 0 rfl hs5 (by have hreach : reach = 140737488355328:=rfl; simp only [List.length_append,List.length_cons,List.length_nil,List.length_take,List.length_drop]; omega) (by have hreach : reach = 140737488355328:=rfl; simp only [List.length_append,List.length_cons,List.length_nil,List.length_take,List.length_drop]; omega) rfl rfl rfl (fun v6 o1 w9 hr6 hS8=>?_)
    refine WL.indexAddr (hvl.mono (hle1.trans hle2)) k1 (by omega) Yq Zt rfl rfl rfl rfl (fun p5 x5 hx5 he5=>?_)
    obtain rfl : xv = x5:=Option.some.inj (hxv.symm.trans hx5)
    obtain ⟨cs5,hc5,hr7⟩:=he5
    obtain ⟨v7,rfl,hs6,Xj,XD,X7,Qi⟩:=ZA hr7
    refine Za hS8 (Xw.drop 0 hc5) ZH rfl rfl rfl ?_
    refine WL.buildSlice _ [(0,[v7])] [v7] hS8 Q5 rfl rfl rfl (by show [(0,(v7 : Value).cells.toList)] = _; simp only [hs6.cells1] <;> rfl) (fun z hz=>by match z,hz with | [z0],_=>rfl) (fun b2 w10 hn2 hS9=>?_)
    refine WL.push (m:=([xv.v] : List (List Val))) Q5 rfl rfl rfl hr6 hS9 1 rfl 0 _ _ _ _ _ rfl ⟨[v7],_,rfl,⟨_,rfl,hs6⟩,rfl⟩ rfl (by have hreach : reach = 140737488355328:=rfl; simp only [List.length_append,List.length_cons,List.length_nil,List.length_take,List.length_drop]; omega) (by have hreach : reach = 140737488355328:=rfl; simp only [List.length_append,List.length_cons,List.length_nil,List.length_take,List.length_drop]; omega) rfl rfl rfl (fun v9 o2 w11 hr8 hS10=>?_)
    have hS11:=hS10.tail
    refine Qo (f2.mono hle2) j (by omega) Qh ZH rfl rfl rfl rfl (fun v10 hs7=>?_)
    refine YE Q5 rfl rfl rfl hr8 hS11 0 rfl hs7 (by have hreach : reach = 140737488355328:=rfl; simp only [List.length_append,List.length_cons,List.length_nil,List.length_take,List.length_drop]; omega) (by have hreach : reach = 140737488355328:=rfl; simp only [List.length_append,List.length_cons,List.length_nil,List.length_take,List.length_drop]; omega) rfl rfl rfl (fun v11 o3 w12 hr9 hS12=>?_)
    refine Zl k1 (by have hreach : reach = 140737488355328:=rfl; omega) rfl rfl rfl ?_
    obtain ⟨G3,hle3,hs8,hS13⟩:=Ye.freeze hr9 hS12 0 rfl
    have hS14:=hS13.tail
    exact BK.mk' _ ⟨k1 + 1,v11,G3,rfl,(hle1.trans (hle2.trans hle3)),hS14,⟨rfl,rfl,rfl,trivial⟩,(by omega),(Sl.cast hs8 (by rw [ZaO hxv]; exact Zpe hiv ‹_› (by omega) ‹_› (by omega) ‹_›))⟩ (show l.length - (k1 + 1) < l.length - k1 by omega)
   have h4 : (j : Int) ≤ 0:=q3
   clear q3
   refine dr [] [(34, .bool false)] hS4 ⟨fun _=>WL.cmpV .gtr rfl .i64 (j : Int) 0 _ hb7 rfl rfl rfl <| nu rfl rfl,trivial⟩ (fun w13 hS15=>?_)
   refine WL.buildSlice _ [] [] hS15 Q5 rfl rfl rfl rfl (fun z hz=>by match z,hz with | [],_=>rfl) (fun b3 w14 hn3 hS16=>?_)
   refine Yr (f2.mono hle2) j (by omega) Qh ZH rfl rfl rfl rfl (fun v12 hs9=>?_)
   have hr10:=Ye.empty (ValE.slice 32) 24 31 G2 b3
   refine YE Q5 rfl rfl rfl hr10 hS16 0 rfl hs9 (by have hreach : reach = 140737488355328:=rfl; simp only [List.length_append,List.length_cons,List.length_nil,List.length_take,List.length_drop]; omega) (by have hreach : reach = 140737488355328:=rfl; simp only [List.length_append,List.length_cons,List.length_nil,List.length_take,List.length_drop]; omega) rfl rfl rfl (fun v13 o4 w15 hr11 hS17=>?_)
   refine WL.indexAddr (hvl.mono (hle1.trans hle2)) k1 (by omega) Yq Zt rfl rfl rfl rfl (fun p6 x6 hx6 he6=>?_)
   obtain rfl : xv = x6:=Option.some.inj (hxv.symm.trans hx6)
   obtain ⟨cs6,hc6,hr12⟩:=he6
   obtain ⟨v14,rfl,hs10,Qd,Qn,Q6,Zag⟩:=ZA hr12
   refine Za hS17 (Xw.drop 0 hc6) ZH rfl rfl rfl ?_
   refine WL.buildSlice _ [(0,[v14])] [v14] hS17 Q5 rfl rfl rfl (by show [(0,(v14 : Value).cells.toList)] = _; simp only [hs10.cells1] <;> rfl) (fun z hz=>by match z,hz with | [z0],_=>rfl) (fun b4 w16 hn4 hS18=>?_)
   refine WL.push (m:=([xv.v] : List (List Val))) Q5 rfl rfl rfl hr11 hS18 1 rfl 0 _ _ _ _ _ rfl ⟨[v14],_,rfl,⟨_,rfl,hs10⟩,rfl⟩ rfl (by have hreach : reach = 140737488355328:=rfl; simp only [List.length_append,List.length_cons,List.length_nil,List.length_take,List.length_drop]; omega) (by have hreach : reach = 140737488355328:=rfl; simp only [List.length_append,List.length_cons,List.length_nil,List.length_take,List.length_drop]; omega) rfl rfl rfl (fun v15 o5 w17 hr13 hS19=>?_)
   have hS20:=hS19.tail
   refine Qo (f2.mono hle2) j (by omega) Qh ZH rfl rfl rfl rfl (fun v16 hs11=>?_)
   refine YE Q5 rfl rfl rfl hr13 hS20 0 rfl hs11 (by have hreach : reach = 140737488355328:=rfl; simp only [List.length_append,List.length_cons,List.length_nil,List.length_take,List.length_drop]; omega) (by have hreach : reach = 140737488355328:=rfl; simp only [List.length_append,List.length_cons,List.length_nil,List.length_take,List.length_drop]; omega) rfl rfl rfl (fun v17 o6 w18 hr14 hS21=>?_)
   refine Zl k1 (by have hreach : reach = 140737488355328:=rfl; omega) rfl rfl rfl ?_
   obtain ⟨G4,hle4,hs12,hS22⟩:=Ye.freeze hr14 hS21 0 rfl
   have hS23:=hS22.tail
   exact BK.mk' _ ⟨k1 + 1,v17,G4,rfl,(hle1.trans (hle2.trans hle4)),hS23,⟨rfl,rfl,rfl,trivial⟩,(by omega),(Sl.cast hs12 (by rw [ZaO hxv]; exact ZfA hiv ‹_› (by omega) (by omega)))⟩ (show l.length - (k1 + 1) < l.length - k1 by omega)
  have h2 : (j : Int) ≤ 0:=q1
  clear q1
  refine dr [] [(16, .bool false)] hS2 ⟨fun _=>WL.cmpV .gtr rfl .i64 (j : Int) 0 _ hb1 rfl rfl rfl <| nu rfl rfl,trivial⟩ (fun w19 hS24=>?_)
  rcases Cmp.dec .gtr (j : Int) 0 with ⟨Zah,q5⟩ | ⟨Zah,q5⟩
  ·have h6 : 0 < (j : Int):=q5
   clear q5
   obtain ⟨p7,x7,hx7,he7,ep5⟩:=Sl.at (f2.mono hle2) (j - 1) (by omega)
   obtain ⟨cs7,hc7,hr15⟩:=he7
   obtain ⟨v18,rfl,hs13⟩:=hr15
   obtain ⟨p8,x9,hx8,he8,ep6⟩:=Sl.at (hvl.mono (hle1.trans hle2)) k1 (by omega)
   obtain rfl : xv = x9:=Option.some.inj (hxv.symm.trans hx8)
   obtain ⟨cs8,hc8,hr16⟩:=he8
   obtain ⟨v19,rfl,hs14,ZdM,Zdd,Zbs,Zfq⟩:=ZA hr16
   rcases Cmp.dec .eql (ZG cmpV x7 xv.v) 0 with ⟨Zde,q6⟩ | ⟨Zde,q6⟩
   ·have h7 : (ZG cmpV x7 xv.v) = 0:=q6
    clear q6
    refine dr [] [(34, .bool true),(38, .int .i64 ((j - 1 : Nat) : Int)),(39, .pointer (some p7)),(40,v18),(43, .pointer (some p8)),(45,v19),(46, .int .i64 (ZG cmpV x7 xv.v)),(47, .bool true)] hS24 ⟨fun _=>WL.cmpV .gtr rfl .i64 (j : Int) 0 _ Zah rfl rfl rfl <| nu rfl rfl,fun _=>Qt j (by omega) (by have hreach : reach = 140737488355328:=rfl; omega) rfl rfl rfl <| nu rfl rfl,fun _=>Zk (j - 1) ep5 Qh ZH rfl rfl rfl rfl <| nu rfl rfl,fun _ hSw=>Za hSw hc7 ZH rfl rfl rfl <| nu rfl rfl,fun _=>Zk k1 ep6 Yq Zt rfl rfl rfl rfl <| nu rfl rfl,fun _ hSw=>Za hSw (Xw.drop 0 hc8) ZH rfl rfl rfl <| nu rfl rfl,fun _ hSw=>Z4 hSw ZfW rfl rfl rfl (Zcg hSw.imm x7 xv.v _ hs13 _ hs14) rfl,fun _=>WL.cmpV .eql rfl .i64 (ZG cmpV x7 xv.v) 0 _ Zde rfl rfl rfl <| nu rfl rfl,trivial⟩ (fun w20 hS25=>?_)
    refine Zl k1 (by have hreach : reach = 140737488355328:=rfl; omega) rfl rfl rfl ?_
    exact BK.mk' _ ⟨k1 + 1,vk,G2,rfl,(hle1.trans hle2),hS25,⟨rfl,rfl,rfl,trivial⟩,(by omega),(Sl.cast (f2.mono hle2) (by rw [ZaO hxv]; exact (Zmk (k:=j) hiv (by omega) ‹_› ‹_›).symm))⟩ (show l.length - (k1 + 1) < l.length - k1 by omega)
   have h7 : (ZG cmpV x7 xv.v) ≠ 0:=q6
   clear q6
   refine dr [] [(34, .bool true),(38, .int .i64 ((j - 1 : Nat) : Int)),(39, .pointer (some p7)),(40,v18),(43, .pointer (some p8)),(45,v19),(46, .int .i64 (ZG cmpV x7 xv.v)),(47, .bool false)] hS24 ⟨fun _=>WL.cmpV .gtr rfl .i64 (j : Int) 0 _ Zah rfl rfl rfl <| nu rfl rfl,fun _=>Qt j (by omega) (by have hreach : reach = 140737488355328:=rfl; omega) rfl rfl rfl <| nu rfl rfl,fun _=>Zk (j - 1) ep5 Qh ZH rfl rfl rfl rfl <| nu rfl rfl,fun _ hSw=>Za hSw hc7 ZH rfl rfl rfl <| nu rfl rfl,fun _=>Zk k1 ep6 Yq Zt rfl rfl rfl rfl <| nu rfl rfl,fun _ hSw=>Za hSw (Xw.drop 0 hc8) ZH rfl rfl rfl <| nu rfl rfl,fun _ hSw=>Z4 hSw ZfW rfl rfl rfl (Zcg hSw.imm x7 xv.v _ hs13 _ hs14) rfl,fun _=>WL.cmpV .eql rfl .i64 (ZG cmpV x7 xv.v) 0 _ Zde rfl rfl rfl <| nu rfl rfl,trivial⟩ (fun w21 hS26=>?_)
   refine WL.buildSlice _ [] [] hS26 Q5 rfl rfl rfl rfl (fun z hz=>by match z,hz with | [],_=>rfl) (fun b5 w22 hn5 hS27=>?_)
   refine Yr (f2.mono hle2) j (by omega) Qh ZH rfl rfl rfl rfl (fun v20 hs15=>?_)
   have hr17:=Ye.empty (ValE.slice 32) 24 31 G2 b5
   refine YE Q5 rfl rfl rfl hr17 hS27 0 rfl hs15 (by have hreach : reach = 140737488355328:=rfl; simp only [List.length_append,List.length_cons,List.length_nil,List.length_take,List.length_drop]; omega) (by have hreach : reach = 140737488355328:=rfl; simp only [List.length_append,List.length_cons,List.length_nil,List.length_take,List.length_drop]; omega) rfl rfl rfl (fun v21 o7 w23 hr18 hS28=>?_)
   refine WL.indexAddr (hvl.mono (hle1.trans hle2)) k1 (by omega) Yq Zt rfl rfl rfl rfl (fun p9 x10 hx9 he9=>?_)
   obtain rfl : xv = x10:=Option.some.inj (hxv.symm.trans hx9)
   obtain ⟨cs9,hc9,hr19⟩:=he9
   obtain ⟨v22,rfl,hs16,Zg8,Zqn,Zqo,Zqp⟩:=ZA hr19
   refine Za hS28 (Xw.drop 0 hc9) ZH rfl rfl rfl ?_
   refine WL.buildSlice _ [(0,[v22])] [v22] hS28 Q5 rfl rfl rfl (by show [(0,(v22 : Value).cells.toList)] = _; simp only [hs16.cells1] <;> rfl) (fun z hz=>by match z,hz with | [z0],_=>rfl) (fun b6 w24 hn6 hS29=>?_)
   refine WL.push (m:=([xv.v] : List (List Val))) Q5 rfl rfl rfl hr18 hS29 1 rfl 0 _ _ _ _ _ rfl ⟨[v22],_,rfl,⟨_,rfl,hs16⟩,rfl⟩ rfl (by have hreach : reach = 140737488355328:=rfl; simp only [List.length_append,List.length_cons,List.length_nil,List.length_take,List.length_drop]; omega) (by have hreach : reach = 140737488355328:=rfl; simp only [List.length_append,List.length_cons,List.length_nil,List.length_take,List.length_drop]; omega) rfl rfl rfl (fun v23 o8 w25 hr20 hS30=>?_)
   have hS31:=hS30.tail
   refine Qo (f2.mono hle2) j (by omega) Qh ZH rfl rfl rfl rfl (fun v24 hs17=>?_)
   refine YE Q5 rfl rfl rfl hr20 hS31 0 rfl hs17 (by have hreach : reach = 140737488355328:=rfl; simp only [List.length_append,List.length_cons,List.length_nil,List.length_take,List.length_drop]; omega) (by have hreach : reach = 140737488355328:=rfl; simp only [List.length_append,List.length_cons,List.length_nil,List.length_take,List.length_drop]; omega) rfl rfl rfl (fun v25 o9 w26 hr21 hS32=>?_)
   refine Zl k1 (by have hreach : reach = 140737488355328:=rfl; omega) rfl rfl rfl ?_
   obtain ⟨G5,hle5,hs18,hS33⟩:=Ye.freeze hr21 hS32 0 rfl
   have hS34:=hS33.tail
   exact BK.mk' _ ⟨k1 + 1,v25,G5,rfl,(hle1.trans (hle2.trans hle5)),hS34,⟨rfl,rfl,rfl,trivial⟩,(by omega),(Sl.cast hs18 (by rw [ZaO hxv]; exact ZfA hiv ‹_› (by omega) (by omega)))⟩ (show l.length - (k1 + 1) < l.length - k1 by omega)
  have h6 : (j : Int) ≤ 0:=q5
  clear q5
  refine dr [] [(34, .bool false)] hS24 ⟨fun _=>WL.cmpV .gtr rfl .i64 (j : Int) 0 _ Zah rfl rfl rfl <| nu rfl rfl,trivial⟩ (fun w27 hS35=>?_)
  refine WL.buildSlice _ [] [] hS35 Q5 rfl rfl rfl rfl (fun z hz=>by match z,hz with | [],_=>rfl) (fun b7 w28 hn7 hS36=>?_)
  refine Yr (f2.mono hle2) j (by omega) Qh ZH rfl rfl rfl rfl (fun v26 hs19=>?_)
  have hr22:=Ye.empty (ValE.slice 32) 24 31 G2 b7
  refine YE Q5 rfl rfl rfl hr22 hS36 0 rfl hs19 (by have hreach : reach = 140737488355328:=rfl; simp only [List.length_append,List.length_cons,List.length_nil,List.length_take,List.length_drop]; omega) (by have hreach : reach = 140737488355328:=rfl; simp only [List.length_append,List.length_cons,List.length_nil,List.length_take,List.length_drop]; omega) rfl rfl rfl (fun v27 o10 w29 hr23 hS37=>?_)
  refine WL.indexAddr (hvl.mono (hle1.trans hle2)) k1 (by omega) Yq Zt rfl rfl rfl rfl (fun p10 x11 hx10 he10=>?_)
  obtain rfl : xv = x11:=Option.some.inj (hxv.symm.trans hx10)
  obtain ⟨cs10,hc10,hr24⟩:=he10
  obtain ⟨v28,rfl,hs20,Zqq,Zqr,Zqs,Zqt⟩:=ZA hr24
  refine Za hS37 (Xw.drop 0 hc10) ZH rfl rfl rfl ?_
  refine WL.buildSlice _ [(0,[v28])] [v28] hS37 Q5 rfl rfl rfl (by show [(0,(v28 : Value).cells.toList)] = _; simp only [hs20.cells1] <;> rfl) (fun z hz=>by match z,hz with | [z0],_=>rfl) (fun b8 w30 hn8 hS38=>?_)
  refine WL.push (m:=([xv.v] : List (List Val))) Q5 rfl rfl rfl hr23 hS38 1 rfl 0 _ _ _ _ _ rfl ⟨[v28],_,rfl,⟨_,rfl,hs20⟩,rfl⟩ rfl (by have hreach : reach = 140737488355328:=rfl; simp only [List.length_append,List.length_cons,List.length_nil,List.length_take,List.length_drop]; omega) (by have hreach : reach = 140737488355328:=rfl; simp only [List.length_append,List.length_cons,List.length_nil,List.length_take,List.length_drop]; omega) rfl rfl rfl (fun v29 o11 w31 hr25 hS39=>?_)
  have hS40:=hS39.tail
  refine Qo (f2.mono hle2) j (by omega) Qh ZH rfl rfl rfl rfl (fun v30 hs21=>?_)
  refine YE Q5 rfl rfl rfl hr25 hS40 0 rfl hs21 (by have hreach : reach = 140737488355328:=rfl; simp only [List.length_append,List.length_cons,List.length_nil,List.length_take,List.length_drop]; omega) (by have hreach : reach = 140737488355328:=rfl; simp only [List.length_append,List.length_cons,List.length_nil,List.length_take,List.length_drop]; omega) rfl rfl rfl (fun v31 o12 w32 hr26 hS41=>?_)
  refine Zl k1 (by have hreach : reach = 140737488355328:=rfl; omega) rfl rfl rfl ?_
  obtain ⟨G6,hle6,hs22,hS42⟩:=Ye.freeze hr26 hS41 0 rfl
  have hS43:=hS42.tail
  exact BK.mk' _ ⟨k1 + 1,v31,G6,rfl,(hle1.trans (hle2.trans hle6)),hS43,⟨rfl,rfl,rfl,trivial⟩,(by omega),(Sl.cast hs22 (by rw [ZaO hxv]; exact ZfA hiv ‹_› (by omega) (by omega)))⟩ (show l.length - (k1 + 1) < l.length - k1 by omega)
 exact RT hS1 rfl (Sl.cast f2 (by rw [List.take_of_length_le (by omega)]))
end Go.Civ
namespace Go.Civ
open Go.RowKit
open Go.Lib (compact)
set_option linter.unusedVariables false
structure Link where
 t : Table
 o : Table
 f : Foreign
section
variable {G : GH} {cs : List Value}
end
theorem ZrL {s : Schema} (h : YM s = true) : 1 ≤ s.key ∧ s.key ≤ s.cols.length:=by
 unfold YM Qj at h
 simp only [Bool.and_eq_true,decide_eq_true_eq] at h
 obtain ⟨⟨⟨⟨⟨⟨_,h2⟩,h3⟩,h4⟩,h5⟩,h6⟩,h7⟩:=h.1
 exact ⟨h4,h5⟩
structure LinkOk (x : Link) : Prop where
 t : Z2 x.t = true
 o : Z2 x.o = true
 cols : ∀ c ∈ x.f.cols,0 ≤ ixS (x.t.s.cols.map Col.name) c
 key : (x.f.cols.length : Int) = x.o.s.key
section
variable {x : Link} {v : List Val} {r : HRow}
theorem LinkOk.len (h : LinkOk x) (hr : r ∈ x.t.rows) : x.t.s.cols.length ≤ r.v.length:=by
 have:=QL h.t hr
 have h4:=this.2.2.2.1
 omega
theorem LinkOk.olen (h : LinkOk x) (hr : r ∈ x.o.rows) : x.f.cols.length ≤ r.v.length:=by
 have h1:=QL h.o hr
 have h2:=ZrL (Qe h.o).1
 have h3:=h.key
 have h4:=h1.2.2.2.1
 omega
end
section
variable {M : List Val → List Val → Bool} {l t : List HRow} {v : List Val} {x tx fr : Int} {r o : HRow} {k : Nat} {ts : List Int}
end
end Go.Civ
namespace Go.Civ
open Go.RowKit
open Go.Lib (compact)
section
variable {M : List Val → List Val → Bool} {l : List HRow} {r : HRow} {fr : Int}
end
end Go.Civ
