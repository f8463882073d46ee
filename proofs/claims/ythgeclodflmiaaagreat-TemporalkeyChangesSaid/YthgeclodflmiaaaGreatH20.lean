/- Lemmas. -/
import Derived.Test.YthgeclodflmiaaaGreatH09
import Derived.Test.YthgeclodflmiaaaGreatH16
import Derived.Test.YthgeclodflmiaaaGreatH18
import Derived.Test.YthgeclodflmiaaaGreatH19
import Derived.Test.YthgeclodflmiaaaGreatProg
import Derived.KernelRfl
import Derived.WalkKit
namespace Go.Civ
open Go.RowKit
set_option linter.unusedVariables false
structure FnO (P : Program) {α : Type} (A : GH → Value → α → Prop) (fid : Nat) (cap : Array Value) (G : GH) (on : α → Prop) (nx : α → Option (List Val)) : Prop where
 body : Zh P fid
 call : ∀ (G' : GH) (w' : World) (v : Value) (x : α),G.le G' → G'.In w' → on x → A G' v x →
  Calls P fid ([v] ++ cap.toList).toArray w' fun e w''=>∃ r G'',e = .returned r ∧ Res [] w' G' w'' G'' ∧ ∃ r0 r1,r = .tuple #[r0,r1] ∧ Sl ValE 32 G'' r0 ((nx x).getD []) ∧ r1 = .bool (nx x).isSome
theorem FnO.up {P : Program} {α : Type} {A : GH → Value → α → Prop} {fid : Nat} {cap : Array Value} {G G' : GH} {on : α → Prop} {nx : α → Option (List Val)} (h : FnO P A fid cap G on nx) (k : G.le G') : FnO P A fid cap G' on nx:=
 ⟨h.body,fun G2 w' v x hle=>h.call G2 w' v x (k.trans hle)⟩
theorem ZcR {s : Span} (h : s.a < s.b) : Can [s]:=⟨by simp,by simpa using h⟩
def ZaR (r d : Span) : List Span:=(if r.a < d.a then [⟨r.a,d.a⟩] else []) ++ (if d.b < r.b then [⟨d.b,r.b⟩] else [])
theorem Zn7 {r d : Span} (hr : r.a < r.b) (hd : d.a < d.b) (h1 : r.a < d.b) (h2 : d.a < r.b) : Can (ZaR r d):=by
 unfold ZaR
 by_cases c1 : r.a < d.a <;> by_cases c2 : d.b < r.b <;> simp only [c1,c2,if_true,if_false,List.nil_append,List.append_nil]
 ·exact ⟨by simp; omega,fun s hs=>by simp at hs; rcases hs with rfl | rfl <;> simp <;> omega⟩
 ·exact ZcR c1
 ·exact ZcR c2
 ·exact ⟨List.Pairwise.nil,by simp⟩
theorem Zri {r d : Span} (hr : r.a < r.b) (hd : d.a < d.b) (h1 : r.a < d.b) (h2 : d.a < r.b) : ZX 3 [r] [d] = ZaR r d:=by
 have h:=Zcv (kind:=3) (a:=[r]) (b:=[d]) rfl (by simpa using hr) (by simpa using hd)
 refine Can.unique h.1 (Zn7 hr hd h1 h2) fun x=>?_
 rw [h.2]
 have e : QE 3 (Xq [r] x) (Xq [d] x) = true ↔ ((r.a ≤ x ∧ x < r.b) ∧ ¬ (d.a ≤ x ∧ x < d.b)):=by
  unfold QE Xq; simp; omega
 rw [e]
 unfold ZaR
 by_cases c1 : r.a < d.a <;> by_cases c2 : d.b < r.b <;> simp only [c1,c2,if_true,if_false,List.nil_append,List.append_nil,List.cons_append,Xh] <;> simp [cover] <;> omega
theorem ZlL {r d : Span} (hr : ZI r = true) (hd : ZI d = true) (h1 : r.a < d.b) (h2 : d.a < r.b) : ∀ s ∈ ZaR r d,ZI s = true:=fun s hs=>by
 unfold ZI at hr hd ⊢
 simp at hr hd ⊢
 unfold ZaR at hs
 rcases List.mem_append.1 hs with hs | hs
 ·split at hs
  ·obtain rfl:=List.mem_singleton.1 hs; simp only; omega
  ·cases hs
 ·split at hs
  ·obtain rfl:=List.mem_singleton.1 hs; simp only; omega
  ·cases hs
theorem ZeO (r d : Span) : (ZaR r d).length ≤ 2:=by unfold ZaR; rw [List.length_append]; split <;> split <;> simp
theorem ZcJ {r d : Span} (hr : ZI r = true) (hd : ZI d = true) (h1 : r.a < d.b) (h2 : d.a < r.b) : ZX 3 [r] [d] = ZaR r d:=Zri (Xb hr) (Xb hd) h1 h2
theorem Zpa {r d : Span} (hr : ZI r = true) (hd : ZI d = true) (h1 : r.a < d.b) (h2 : d.a < r.b) : ZI (ZjH r d) = true:=by
 unfold ZI at hr hd ⊢
 unfold ZjH
 simp at hr hd ⊢
 omega
def Zvb (nx : List Val → Option (List Val)) (l : List HRow) : Prop:=∀ r ∈ l,∀ u,nx r.v = some u → u.all Zz = true ∧ u.length ≤ 8
structure ChgOk (t : Table) (tx : Int) (d : Span) (nx : List Val → Option (List Val)) : Prop where
 valid : Z2 t = true
 span : ZI d = true
 inst : Yp tx = true
 late : t.last < tx
 next : Zvb nx t.rows
section
variable {t : Table} {tx : Int} {d : Span} {nx : List Val → Option (List Val)} {hl : List Val → Bool}
theorem QL (h : Z2 t = true) {r : HRow} (hr : r ∈ t.rows) : Y0 r = true ∧ r.v.length ≤ 8 ∧ r.r.x.a ≤ t.last ∧ r.v.length = t.s.cols.length ∧ r.v.all Zz = true ∧ t.s.cols.length ≤ 8:=by
 rw [Zbx] at h
 simp only [Bool.and_eq_true] at h
 have h1:=List.all_eq_true.1 h.1.2 r hr
 unfold YN at h1
 simp only [Bool.and_eq_true,decide_eq_true_eq] at h1
 obtain ⟨a,b,c,_⟩:=Zbt h1.1.1.1
 exact ⟨h1.1.1.2,a,h1.1.2,c,b,by omega⟩
theorem Zpb (hc : ChgOk t tx d nx) {r : HRow} (hr : r ∈ t.rows) : (Zak hl nx tx d r).length ≤ 4:=by
 unfold Zak
 split
 ·rename_i h
  simp only [Bool.and_eq_true] at h
  unfold ZbD at h
  simp only [Bool.and_eq_true,decide_eq_true_eq] at h
  have hg:=Yx (QL hc.valid hr).1
  rw [ZcJ hg.2.1 hc.span h.1.1.2 h.1.2]
  have:=ZeO r.r.d d
  have h2 : (Zcm (nx r.v) r.r.d d tx).length ≤ 1:=by unfold Zcm; split <;> simp
  simp only [List.length_append,Zcc,List.length_cons,List.length_nil]
  omega
 ·simp
theorem ZdU (hc : ChgOk t tx d nx) : ∀ k,(Z9 hl nx tx d (t.rows.take k)).length ≤ 4 * k
 | 0=>by simp [Z9]
 | k + 1=>by
  have ih:=ZdU hc k
  cases e : t.rows[k]? with
  | none=>rw [List.take_add_one,e]; simp only [Option.toList,List.append_nil]; omega
  | some r=>
   rw [Qz e,List.length_append]
   have:=Zpb (hl:=hl) hc (List.mem_of_getElem? e)
   omega
theorem ZhF (hc : ChgOk t tx d nx) {r : HRow} (hr : r ∈ t.rows) : ∀ q ∈ Zak hl nx tx d r,Y0 q = true ∧ q.v.length ≤ 1000:=by
 obtain ⟨g1,g2,g3,_⟩:=QL hc.valid hr
 have hg:=Yx g1
 have ht:=Qa hc.inst
 have hl:=hc.late
 have mk : ∀ (v : List Val) (a b : Span),v.all Zz = true → ZI a = true → ZI b = true → Y0 ⟨v,⟨a,b⟩⟩ = true:=fun v a b h1 h2 h3=>by unfold Y0; simp only; rw [h1,h2,h3]; rfl
 have hx:=hg.2.2
 unfold ZI at hx
 simp at hx
 have hT : ZI ⟨tx,253402300800⟩ = true:=by unfold ZI; simp; omega
 unfold Zak
 split
 ·rename_i h
  simp only [Bool.and_eq_true] at h
  unfold ZbD at h
  simp only [Bool.and_eq_true,decide_eq_true_eq] at h
  rw [ZcJ hg.2.1 hc.span h.1.1.2 h.1.2]
  intro q hq
  rcases List.mem_append.1 hq with hq | hq
  ·rcases List.mem_append.1 hq with hq | hq
   ·rw [List.mem_singleton.1 hq]
    exact ⟨mk _ _ _ hg.1 hg.2.1 (by unfold ZI; simp; omega),Nat.le_trans g2 (by decide)⟩
   ·unfold Xl at hq
    obtain ⟨s,hs,rfl⟩:=List.mem_map.1 hq
    exact ⟨mk _ _ _ hg.1 (ZlL hg.2.1 hc.span h.1.1.2 h.1.2 s hs) hT,Nat.le_trans g2 (by decide)⟩
  ·unfold Zcm at hq
   split at hq
   ·rename_i u hu
    rw [List.mem_singleton.1 hq]
    obtain ⟨u1,u2⟩:=hc.next r hr u hu
    exact ⟨mk _ _ _ u1 (Zpa hg.2.1 hc.span h.1.1.2 h.1.2) hT,Nat.le_trans u2 (by decide)⟩
   ·cases hq
 ·intro q hq
  rw [List.mem_singleton.1 hq]; exact ⟨g1,Nat.le_trans g2 (by decide)⟩
theorem ZaF (hc : ChgOk t tx d nx) : ZK (Z9 hl nx tx d t.rows) ∧ (∀ r ∈ Z9 hl nx tx d t.rows,r.v.length ≤ 1000) ∧ (Z9 hl nx tx d t.rows).length ≤ 2000:=by
 refine ⟨fun q hq=>?_,fun q hq=>?_,?_⟩
 ·obtain ⟨r,hr,h⟩:=List.mem_flatMap.1 hq; exact (ZhF hc hr q h).1
 ·obtain ⟨r,hr,h⟩:=List.mem_flatMap.1 hq; exact (ZhF hc hr q h).2
 ·have h1:=ZdU (hl:=hl) hc t.rows.length
  rw [List.take_length] at h1
  have:=(Y5 hc.valid).2.1
  omega
end
theorem ZdC : ∀ (v s : List Val) (m : List Bool),(Yc v s m).length = v.length
 | [],s,m=>by simp [Yc]
 | x :: v,[],m=>by simp [Yc]
 | x :: v,y :: s,[]=>by simp [Yc]
 | x :: v,y :: s,b :: m=>by simp [Yc,ZdC v s m]
theorem Zf8 (v s : List Val) : Yc v s [] = v:=by cases v <;> cases s <;> rfl
theorem Zla : ∀ {v s : List Val} {m : List Bool} {k : Nat},m[k]? = some false → Yc v s (m.take (k + 1)) = Yc v s (m.take k)
 | [],s,m,k,_=>by simp [Yc]
 | x :: v,[],m,k,_=>by cases m.take (k + 1) <;> cases m.take k <;> simp [Yc]
 | x :: v,y :: s,[],k,h=>by simp at h
 | x :: v,y :: s,b :: m,0,h=>by simp at h; subst h; simp [Yc,Zf8]
 | x :: v,y :: s,b :: m,k + 1,h=>by
  simp only [List.take_succ_cons,Yc]
  rw [Zla (by simpa using h)]
theorem Zjc : ∀ {v s : List Val} {m : List Bool} {k : Nat} {z : Val},m[k]? = some true → s[k]? = some z → k < v.length → Yc v s (m.take (k + 1)) = (Yc v s (m.take k)).set k z
 | [],s,m,k,z,_,_,h=>by simp at h
 | x :: v,[],m,k,z,_,h,_=>by simp at h
 | x :: v,y :: s,[],k,z,h,_,_=>by simp at h
 | x :: v,y :: s,b :: m,0,z,h,h2,_=>by simp at h h2; subst h h2; simp [Yc,Zf8]
 | x :: v,y :: s,b :: m,k + 1,z,h,h2,h3=>by
  simp only [List.take_succ_cons,Yc,List.set_cons_succ]
  rw [Zjc (by simpa using h) (by simpa using h2) (by simpa using h3)]
theorem Zrj {m : List Bool} {k : Nat} (h : m.length ≤ k) (v s : List Val) : Yc v s (m.take k) = Yc v s m:=by rw [List.take_of_length_le h]
end Go.Civ
namespace Go.Civ
theorem Zmi {L : List HRow} {q : HRow} {v : List Val} {ss : List Span} {k : Nat} {tx : Int} {nx : Option (List Val)} {r d : Span} (hk : ss.length ≤ k) (h : nx.isSome = true) :
  ((L ++ [q]) ++ Xl v (ss.take k) tx 253402300800) ++ [⟨nx.getD [],⟨⟨max r.a d.a,min r.b d.b⟩,⟨tx,253402300800⟩⟩⟩] = L ++ ([q] ++ Xl v ss tx 253402300800 ++ Zcm nx r d tx):=by
 rw [List.take_of_length_le hk]
 cases nx with
 | none=>cases h
 | some u=>simp [Zcm,ZjH]
theorem Zpc {L : List HRow} {q : HRow} {v : List Val} {ss : List Span} {k : Nat} {tx : Int} {nx : Option (List Val)} {r d : Span} (hk : ss.length ≤ k) (h : nx.isSome = false) :
  (L ++ [q]) ++ Xl v (ss.take k) tx 253402300800 = L ++ ([q] ++ Xl v ss tx 253402300800 ++ Zcm nx r d tx):=by
 rw [List.take_of_length_le hk]
 cases nx with
 | none=>simp [Zcm]
 | some u=>cases h
end Go.Civ
namespace Go.Civ
theorem Ztv {v s : List Val} {m : List Bool} {k : Nat} {b : Bool} (h : m[k]? = some b) (hb : b = false) : Yc v s (m.take (k + 1)) = Yc v s (m.take k):=by subst hb; exact Zla h
theorem Zrk {v s : List Val} {m : List Bool} {k : Nat} {b : Bool} {z : Val} (h : m[k]? = some b) (hb : b = true) (hs : s[k]? = some z) (hk : k < v.length) : Yc v s (m.take (k + 1)) = (Yc v s (m.take k)).set k z:=by subst hb; exact Zjc h hs hk
end Go.Civ
namespace Go.Civ
open Go.RowKit
set_option linter.unusedVariables false
theorem ZhG {d : Nat} {c : Cond} {l : List Col} : Zw (ZW d c l):=by unfold ZW; split; exact ZmC; constructor <;> decide
section
variable {d : Nat} {t : Table} {tx : Int} {c : Cond} {p : Span} {set : List Val} {mask : List Bool}
theorem ZjJ (h : YZ t p = false) : Qs = Q7 d t tx c p ∧ 1 = ZdS d t tx c p:=by
 have : Zdm d t tx c p = 1:=by unfold Zdm; rw [h]; rfl
 unfold Q7 ZdS; rw [this]; exact ⟨rfl,rfl⟩
theorem Zjd (h : YZ t p = true) : Zdm d t tx c p = or2 (ZW d c t.s.cols) (YG t tx):=by unfold Zdm; rw [h]; rfl
theorem Zsv (h : YZ t p = true) (h2 : XM [ZW d c t.s.cols,YG t tx] ≠ 0) : Qs = Q7 d t tx c p ∧ XM [ZW d c t.s.cols,YG t tx] = ZdS d t tx c p:=by
 rw [Zdp] at *
 unfold Q7 ZdS; rw [Zjd h,if_neg h2,if_neg h2]; exact ⟨rfl,rfl⟩
theorem Zsw (h : YZ t p = true) (h2 : XM [ZW d c t.s.cols,YG t tx] = 0) : Z1 t tx (Zgd d t tx c p) = Q7 d t tx c p ∧ X0 (Zgd d t tx c p) = ZdS d t tx c p:=by
 rw [Zdp] at *
 unfold Q7 ZdS; rw [Zjd h,if_pos h2,if_pos h2]; exact ⟨rfl,rfl⟩
theorem ZdV (h : YZ t p = true) : Z2 t = true ∧ ZI p = true:=by unfold YZ at h; simpa using h
theorem Zvc (h : YZ t p = true) (h2 : XM [ZW d c t.s.cols,YG t tx] = 0) : ChgOk t tx p fun _=>none:=by
 rw [Zdp] at h2
 obtain ⟨a,b⟩:=ZdV h
 obtain ⟨e1,e2⟩:=Zn4 h2
 obtain ⟨e3,e4⟩:=ZhD e2
 exact ⟨a,b,e3,e4,fun r hr u hu=>by cases hu⟩
theorem ZhH (h : YZ t p = false) : Qs = YH d t tx c set mask p ∧ 1 = Xv d t tx c set mask p:=by
 have : ZaB d t tx c set mask p = 1:=by unfold ZaB; rw [h]; rfl
 unfold YH Xv; rw [this]; exact ⟨rfl,rfl⟩
theorem ZdD (h : YZ t p = true) : ZaB d t tx c set mask p = if ZW d c t.s.cols ≠ 0 then ZW d c t.s.cols else if set.length ≠ t.s.cols.length ∨ mask.length ≠ t.s.cols.length then 1 else if Zar t.s.cols set mask then YG t tx else 13:=by
 unfold ZaB; rw [h,if_pos rfl]
theorem Zn8 (h : YZ t p = true) (h2 : ZW d c t.s.cols ≠ 0) : Qs = YH d t tx c set mask p ∧ ZW d c t.s.cols = Xv d t tx c set mask p:=by
 have e : ZaB d t tx c set mask p = ZW d c t.s.cols:=by rw [ZdD h,if_pos h2]
 unfold YH Xv; rw [e,if_neg h2,if_neg h2]; exact ⟨rfl,rfl⟩
theorem ZhI (h : YZ t p = true) (h2 : ZW d c t.s.cols = 0) (h3 : set.length ≠ t.s.cols.length ∨ mask.length ≠ t.s.cols.length) : Qs = YH d t tx c set mask p ∧ 1 = Xv d t tx c set mask p:=by
 have e : ZaB d t tx c set mask p = 1:=by rw [ZdD h,if_neg (fun k=>k h2),if_pos h3]
 unfold YH Xv; rw [e]; exact ⟨rfl,rfl⟩
theorem ZhJ (h : YZ t p = true) (h2 : ZW d c t.s.cols = 0) (h3 : set.length = t.s.cols.length) (h4 : mask.length = t.s.cols.length) (h5 : Zar t.s.cols set mask = false) : Qs = YH d t tx c set mask p ∧ 13 = Xv d t tx c set mask p:=by
 have e : ZaB d t tx c set mask p = 13:=by rw [ZdD h,if_neg (fun k=>k h2),if_neg (fun k=>by rcases k with k | k <;> exact k ‹_›),h5]; rfl
 unfold YH Xv; rw [e]; exact ⟨rfl,rfl⟩
theorem Zlb (h : YZ t p = true) (h2 : ZW d c t.s.cols = 0) (h3 : set.length = t.s.cols.length) (h4 : mask.length = t.s.cols.length) (h5 : Zar t.s.cols set mask = true) : ZaB d t tx c set mask p = YG t tx:=by
 rw [ZdD h,if_neg (fun k=>k h2),if_neg (fun k=>by rcases k with k | k <;> exact k ‹_›),h5]; rfl
theorem Zn9 (h : YZ t p = true) (h2 : ZW d c t.s.cols = 0) (h3 : set.length = t.s.cols.length) (h4 : mask.length = t.s.cols.length) (h5 : Zar t.s.cols set mask = true) (h6 : YG t tx ≠ 0) : Qs = YH d t tx c set mask p ∧ YG t tx = Xv d t tx c set mask p:=by
 unfold YH Xv; rw [Zlb h h2 h3 h4 h5,if_neg h6,if_neg h6]; exact ⟨rfl,rfl⟩
theorem ZnA (h : YZ t p = true) (h2 : ZW d c t.s.cols = 0) (h3 : set.length = t.s.cols.length) (h4 : mask.length = t.s.cols.length) (h5 : Zar t.s.cols set mask = true) (h6 : YG t tx = 0) : Z1 t tx (Zen d t tx c set mask p) = YH d t tx c set mask p ∧ X0 (Zen d t tx c set mask p) = Xv d t tx c set mask p:=by
 unfold YH Xv; rw [Zlb h h2 h3 h4 h5,if_pos h6,if_pos h6]; exact ⟨rfl,rfl⟩
end
section
variable {cols : List Col} {set : List Val} {mask : List Bool} {j : Nat}
theorem Zwp {b : Bool} (h : mask[j]? = some b) (hb : b = false) : okM cols set mask j = true:=by
 subst hb; unfold okM; rw [h]
 cases set[j]? with
 | none=>rfl
 | some x=>cases cols[j]? <;> rfl
theorem Zwq {b : Bool} {x : Val} {c : Col} (h : mask[j]? = some b) (hs : set[j]? = some x) (hc : cols[j]? = some c) (h1 : Zz x = true) (h2 : x.k = c.kind) : okM cols set mask j = true:=by
 unfold okM; rw [h,hs,hc]; simp [h1,h2]
theorem Zf9 {b : Bool} {x : Val} (h : mask[j]? = some b) (hb : b = true) (hs : set[j]? = some x) (hj : j < cols.length) (h1 : Zz x = false) : okM cols set mask j = false:=by
 subst hb; unfold okM; rw [h,hs,List.getElem?_eq_getElem hj]; simp [h1]
theorem ZhK {b : Bool} {x : Val} {c : Col} (h : mask[j]? = some b) (hb : b = true) (hs : set[j]? = some x) (hc : cols[j]? = some c) (h2 : x.k ≠ c.kind) : okM cols set mask j = false:=by
 subst hb; unfold okM; rw [h,hs,hc]; simp [h2]
theorem Zgh {k : Nat} {b : Bool} (h : mask[k]? = some b) (hk : okM cols set mask k = false) : Zar cols set mask = false:=by
 unfold Zar
 rw [Bool.eq_false_iff]
 intro e
 rw [List.all_eq_true] at e
 have:=e k (List.mem_range.2 (List.getElem?_eq_some_iff.1 h).1)
 rw [this] at hk; cases hk
theorem Zrl {k : Nat} (h : ∀ i,i < k → okM cols set mask i = true) (hk : mask.length ≤ k) : Zar cols set mask = true:=by
 unfold Zar; rw [List.all_eq_true]; intro i hi; exact h i (by have:=List.mem_range.1 hi; omega)
theorem Zlc (h : Zar cols set mask = true) (hl : set.length = cols.length) {b : Bool} {x : Val} (hm : mask[j]? = some b) (hb : b = true) (hs : set[j]? = some x) : Zz x = true:=by
 unfold Zar at h
 rw [List.all_eq_true] at h
 have h1:=h j (List.mem_range.2 (List.getElem?_eq_some_iff.1 hm).1)
 have h2:=(List.getElem?_eq_some_iff.1 hs).1
 cases hv : Zz x with
 | true=>rfl
 | false=>rw [Zf9 hm hb hs (by omega) hv] at h1; cases h1
end
theorem ZdW : ∀ {v s : List Val} {m : List Bool},v.all Zz = true → (∀ (j : Nat) b x,m[j]? = some b → b = true → s[j]? = some x → Zz x = true) → (Yc v s m).all Zz = true
 | [],s,m,_,_=>by simp [Yc]
 | x :: v,[],m,h,_=>by simpa [Yc] using h
 | x :: v,y :: s,[],h,_=>by simpa [Yc] using h
 | x :: v,y :: s,b :: m,h,h2=>by
  simp only [List.all_cons,Bool.and_eq_true] at h
  simp only [Yc,List.all_cons,Bool.and_eq_true]
  refine ⟨?_,ZdW h.2 fun j b x k1 k2 k3=>h2 (j + 1) b x (by simpa using k1) k2 (by simpa using k3)⟩
  cases b with
  | true=>exact h2 0 true y rfl rfl rfl
  | false=>exact h.1
theorem Zpd {t : Table} {tx : Int} {p : Span} {set : List Val} {mask : List Bool} (h : YZ t p = true) (h3 : set.length = t.s.cols.length) (h5 : Zar t.s.cols set mask = true) (h6 : YG t tx = 0) : ChgOk t tx p fun v=>some (Yc v set mask):=by
 obtain ⟨a,b⟩:=ZdV h
 obtain ⟨e3,e4⟩:=ZhD h6
 refine ⟨a,b,e3,e4,fun r hr u hu=>?_⟩
 obtain rfl:=Option.some.inj hu
 obtain ⟨_,g2,_,g4,g5,_⟩:=QL a hr
 exact ⟨ZdW g5 fun j b x k1 k2 k3=>Zlc h5 h3 k1 k2 k3,by rw [ZdC]; exact g2⟩
section
variable {t : Table} {a b : Int}
end
end Go.Civ
namespace Go.Civ
open Go.RowKit
set_option linter.unusedVariables false
def UpV (out : VV) (v : List Val) (k : Nat) : Prop:=∀ j,k ≤ j → ∀ u,out[j]? = some u → 0 < ZG cmpV u v
theorem UpV.start {out : VV} {v : List Val} : UpV out v out.length:=fun j hj u hu=>by have:=(List.getElem?_eq_some_iff.1 hu).1; omega
theorem UpV.step {out : VV} {v u : List Val} {k : Nat} (h : UpV out v k) (hu : out[k - 1]? = some u) (h1 : 0 < ZG cmpV u v) : UpV out v (k - 1):=fun j hj w hw=>by
 by_cases e : k ≤ j
 ·exact h j e w hw
 ·obtain rfl : j = k - 1:=by omega
  rw [hu] at hw; obtain rfl:=Option.some.inj hw; exact h1
theorem Zmj {out : VV} {v u : List Val} {k : Nat} (hi : Za9 out) (hu : out[k]? = some u) (h : ZG cmpV u v ≤ 0) : ∀ j,j < k → ∀ w,out[j]? = some w → ZG cmpV w v < 0:=fun j hj w hw=>by
 obtain ⟨k1,rfl⟩:=List.getElem?_eq_some_iff.1 hu
 obtain ⟨j1,rfl⟩:=List.getElem?_eq_some_iff.1 hw
 have h1:=List.pairwise_iff_getElem.1 hi j k j1 k1 hj
 by_cases e : ZG cmpV out[k] v = 0
 ·rw [(ord.eq _ _).1 e] at h1; exact h1
 ·exact ord.trans _ _ _ h1 (by omega)
theorem Zmk {out : VV} {v u : List Val} {k : Nat} (hi : Za9 out) (hk : 0 < k) (hu : out[k - 1]? = some u) (h : ZG cmpV u v = 0) : Za8 out v = out:=
 Zno (Nat.le_of_lt (List.getElem?_eq_some_iff.1 hu).1) (Zmj hi hu (by omega)) hu (by omega) ((ord.eq _ _).1 h)
theorem Zle {out : VV} {v : List Val} {k : Nat} (hi : Za9 out) (hU : UpV out v k) (hk : k ≤ out.length) (h : k = 0 ∨ ∃ u,out[k - 1]? = some u ∧ ZG cmpV u v < 0) : Za8 out v = out.take k ++ [v] ++ out.drop k:=by
 refine ZqD hk (fun j hj w hw=>?_) (fun w hw=>?_) (fun e=>?_)
 ·rcases h with h | ⟨u,hu,h⟩
  ·omega
  ·by_cases e : j = k - 1
   ·subst e; rw [hu] at hw; obtain rfl:=Option.some.inj hw; exact h
   ·exact Zmj hi hu (by omega) j (by omega) w hw
 ·have:=hU k (Nat.le_refl _) w hw; omega
 ·have:=hU k (Nat.le_refl _) v e; rw [ord.refl] at this; omega
theorem ZfA {out : VV} {v : List Val} {k : Nat} (hi : Za9 out) (hU : UpV out v k) (hk : k ≤ out.length) (h : k = 0) : (([] ++ out.take k) ++ [v]) ++ out.drop k = Za8 out v:=by rw [Zle hi hU hk (.inl h)]; simp
theorem Zpe {out : VV} {v u : List Val} {k : Nat} (hi : Za9 out) (hU : UpV out v k) (hk : k ≤ out.length) (hu : out[k - 1]? = some u) (h1 : ZG cmpV u v ≤ 0) (h2 : ZG cmpV u v ≠ 0) : (([] ++ out.take k) ++ [v]) ++ out.drop k = Za8 out v:=by
 rw [Zle hi hU hk (.inr ⟨u,hu,by omega⟩)]; simp
theorem Zpf {kind : Int} {a b : List Span} : (ZX kind a b).length ≤ 2 * (a.length + b.length):=by
 have h:=ZiH (a ++ b)
 rw [List.length_append] at h
 unfold ZX
 exact Nat.le_trans (ZiI _) (by omega)
theorem ZeP {α : Type} {l : List α} {k : Nat} (h : k < l.length) : ∃ x,l[k]? = some x:=⟨_,List.getElem?_eq_getElem h⟩
end Go.Civ
namespace Go.Civ
theorem Zrm {x y : HRow} (h0 : decide (x.v = y.v) = true) (h1 : x.r.d.a = y.r.d.a) (h2 : x.r.d.b = y.r.d.b) (h3 : x.r.x.a = y.r.x.a) (h4 : x.r.x.b = y.r.x.b) : x = y:=by
 have h0:=of_decide_eq_true h0
 obtain ⟨xv,⟨⟨x1,x2⟩,⟨x3,x4⟩⟩⟩:=x; obtain ⟨yv,⟨⟨y1,y2⟩,⟨y3,y4⟩⟩⟩:=y; simp_all
end Go.Civ
namespace Go.Civ
end Go.Civ
set_option linter.unusedVariables false
set_option linter.unusedSimpArgs false
set_option maxRecDepth 100000
set_option maxHeartbeats 4000000
namespace Go.Civ
open Go.Proofs
theorem Zr3 {G : GH} {w : World} (hG : G.In w) (l : List Val) (vl : Value) (hvl : Sl ValE 32 G vl l) : CL Tryz.prog (nat_lit 184) #[vl] [] w G fun G' _ r=>∃ r0 r1,r = .tuple #[r0,r1] ∧ Sl Enc.u8 1 G' r0 (Qm l) ∧ r1 = .int .i64 (ZgC l):=by
 refine Zg ft [] Tryz.func184 rfl rfl ?_
 have hS:=St.start (X:=[]) hG
 have bd1:=hvl.bound
 refine Zj hvl Yd rfl rfl ?_
 refine YX (l.length : Int) 1000 rfl rfl rfl (fun h1=>?_) (fun h1=>?_)
 ·exact RT hS rfl ⟨_,_,rfl,(Sl.cast (Sl.nil Enc.u8 1 G) (by exact (ZqO (by omega)).symm)),(congrArg (Value.int .i64) (by exact (ZuO (by omega)).symm))⟩
 refine Zn hS ZjB rfl rfl rfl (ZjE hS.imm l _ hvl) (fun w1 G1 hS1 hle1=>?_)
 refine WL.split (fun (h2 : (l.all Zz) = true)=>?_) (fun (h2 : (l.all Zz) = false)=>?_)
 ·have hbl:=(by assumption : Sl ValE 32 G _ l).bound
  have bd2:=hvl.bound
  refine Zj (hvl.mono hle1) Yd rfl rfl ?_
  refine ZfU 9 l.length (by have hreach : reach = 140737488355328:=rfl; omega) rfl rfl rfl ?_
  refine Znt (E:=Enc.u8) (by_:=1) Zcj rfl rfl (9 * l.length) (by have hreach : reach = 140737488355328:=rfl; omega) (by have hreach : reach = 140737488355328:=rfl; omega) hS1 rfl rfl rfl (fun v1 o1 w2 hr1 hS2=>?_)
  have bd3:=hvl.bound
  refine Zj (hvl.mono hle1) Yd rfl rfl ?_
  refine LP.go ft [] (fun m ρ1 w1=>∃ (k1 : Nat),∃ (v2 : Value) (o2 : OB),∃ (G2 : GH),m = l.length - k1 ∧ G1.le G2 ∧ St w [] G G2 [o2] w1 ∧ Ye Enc.u8 1 5 G2 v2 (Zaq (l.take k1)) o2 ∧ FR ρ1 [(4,v2),(19,vl),(20, .int .i64 (l.length : Int)),(21, .int .i64 (k1 : Int))] ∧ k1 ≤ l.length) _ ⟨0,v1,o1,G1,rfl,(G1.le_refl),hS2,(Ye.cast hr1 (by rfl)),⟨rfl,rfl,rfl,rfl,trivial⟩,(by omega)⟩ ?_
  rintro m ρ1 w3 ⟨k1,v2,o2,G2,rfl,hle2,hS3,hr2,hF9,f1⟩
  refine hF9.set ?_
  clear hF9
  refine Zq (k1 : Int) (l.length : Int) rfl rfl rfl (fun h3=>?_) (fun h3=>?_)
  ·refine WL.indexAddr (hvl.mono (hle1.trans hle2)) k1 (by omega) Yd Z3 rfl rfl rfl rfl (fun p1 x1 hx1 he1=>?_)
   obtain ⟨cs1,hc1,hr3⟩:=he1
   obtain ⟨rfl,hb1,hb2,hb3⟩:=ZV hr3
   refine Zc hS3 hc1 [.int .i64 x1.k, .int .i64 x1.n,Zb x1.s] Z3 rfl rfl rfl rfl rfl ?_
   refine WL.alloc hS3 Z3 rfl rfl (fun b1 w4 hn1 hS4=>?_)
   refine WL.store hS4 0 _ _ _ 0 _ [.int .i64 x1.k, .int .i64 x1.n,Zb x1.s] [.int .i64 x1.k, .int .i64 x1.n,Zb x1.s] _ rfl rfl Z3 rfl (Nat.le_of_ble_eq_true rfl) rfl rfl rfl rfl rfl rfl (fun w5 hS5=>?_)
   obtain ⟨G3,hle3,hc2,hS6⟩:=hS5.shutB hn1
   have hvx:=ZuL (by assumption : l.all Zz = true) (by assumption : l[k1]? = some _)
   obtain ⟨hvk,hvb,hvt⟩:=Ztc hvx
   have hel:=ZqJ (k:=k1) (by assumption : l.all Zz = true) ‹_›
   refine Za hS6 (Xw.drop 0 hc2) Zp rfl rfl rfl ?_
   refine Zil x1.k ‹_› XF ul5 rfl rfl ?_
   refine WL.buildSlice _ [(0,[.int .u8 ((UInt8.ofNat x1.k.toNat).toNat : Int)])] [.int .u8 ((UInt8.ofNat x1.k.toNat).toNat : Int)] hS6 Zcj rfl rfl rfl rfl (fun z hz=>by match z,hz with | [z0],_=>rfl) (fun b2 w6 hn2 hS7=>?_)
   refine WL.push (m:=([(UInt8.ofNat x1.k.toNat)] : List UInt8)) Zcj rfl rfl rfl (hr2.mono hle3) hS7 1 rfl 0 _ _ _ _ _ rfl ⟨[.int .u8 ((UInt8.ofNat x1.k.toNat).toNat : Int)],_,rfl,rfl,rfl⟩ rfl (by have hreach : reach = 140737488355328:=rfl; (simp only [List.length_append,List.length_cons,List.length_nil]; omega)) (by have hreach : reach = 140737488355328:=rfl; (simp only [List.length_append,List.length_cons,List.length_nil]; omega)) rfl rfl rfl (fun v3 o3 w7 hr4 hS8=>?_)
   have hS9:=hS8.tail
   refine Za hS9 (Xw.drop 0 hc2) Zp rfl rfl rfl ?_
   refine ZC x1.k 2 rfl rfl rfl (fun h4=>?_) (fun h4=>?_)
   ·refine Za hS9 (Xw.drop 2 hc2) Yj rfl rfl rfl ?_
    refine Znu Zcj ul9 rfl rfl rfl hr4 hS9 0 rfl (by simp) (by have hreach : reach = 140737488355328:=rfl; (simp only [List.length_append,List.length_cons,List.length_nil]; omega)) rfl rfl rfl (fun v4 o4 w9 hr5 hS10=>?_)
    refine WL.buildSlice _ [(0,[.int .u8 0])] [.int .u8 0] hS10 Zcj rfl rfl rfl rfl (fun z hz=>by match z,hz with | [z0],_=>rfl) (fun b3 w10 hn3 hS11=>?_)
    refine WL.push (m:=([(0 : UInt8)] : List UInt8)) Zcj rfl rfl rfl hr5 hS11 1 rfl 0 _ _ _ _ _ rfl ⟨[.int .u8 0],_,rfl,rfl,rfl⟩ rfl (by have hreach : reach = 140737488355328:=rfl; (simp only [List.length_append,List.length_cons,List.length_nil]; omega)) (by have hreach : reach = 140737488355328:=rfl; (simp only [List.length_append,List.length_cons,List.length_nil]; omega)) rfl rfl rfl (fun v5 o5 w11 hr6 hS12=>?_)
    have hS13:=hS12.tail
    refine Zl k1 (by have hreach : reach = 140737488355328:=rfl; omega) rfl rfl rfl ?_
    exact BK.mk' _ ⟨k1 + 1,v5,o5,G3,rfl,(hle2.trans hle3),hS13,(Ye.cast hr6 (by (rw [Zf4 ‹_›]; (rw [ZoE ‹_›]; simp only [List.append_assoc])))),⟨rfl,rfl,rfl,rfl,trivial⟩,(by omega)⟩ (show l.length - (k1 + 1) < l.length - k1 by omega)
   refine ZC x1.k 3 rfl rfl rfl (fun h5=>?_) (fun h5=>?_)
   ·refine Za hS9 (Xw.drop 1 hc2) Zp rfl rfl rfl ?_
    refine Zil x1.n (by exact hvb ‹_›) XF ul5 rfl rfl ?_
    refine WL.buildSlice _ [(0,[.int .u8 ((UInt8.ofNat x1.n.toNat).toNat : Int)])] [.int .u8 ((UInt8.ofNat x1.n.toNat).toNat : Int)] hS9 Zcj rfl rfl rfl rfl (fun z hz=>by match z,hz with | [z0],_=>rfl) (fun b4 w12 hn4 hS14=>?_)
    refine WL.push (m:=([(UInt8.ofNat x1.n.toNat)] : List UInt8)) Zcj rfl rfl rfl hr4 hS14 1 rfl 0 _ _ _ _ _ rfl ⟨[.int .u8 ((UInt8.ofNat x1.n.toNat).toNat : Int)],_,rfl,rfl,rfl⟩ rfl (by have hreach : reach = 140737488355328:=rfl; (simp only [List.length_append,List.length_cons,List.length_nil]; omega)) (by have hreach : reach = 140737488355328:=rfl; (simp only [List.length_append,List.length_cons,List.length_nil]; omega)) rfl rfl rfl (fun v6 o6 w13 hr7 hS15=>?_)
    have hS16:=hS15.tail
    refine Zl k1 (by have hreach : reach = 140737488355328:=rfl; omega) rfl rfl rfl ?_
    exact BK.mk' _ ⟨k1 + 1,v6,o6,G3,rfl,(hle2.trans hle3),hS16,(Ye.cast hr7 (by (rw [Zf4 ‹_›]; (rw [ZoF ‹_›]; simp only [List.append_assoc])))),⟨rfl,rfl,rfl,rfl,trivial⟩,(by omega)⟩ (show l.length - (k1 + 1) < l.length - k1 by omega)
   refine Za hS9 (Xw.drop 1 hc2) Zp rfl rfl rfl <| ZoB x1.n XF ZrY rfl rfl <| ZsZ x1.n hb2 rfl rfl rfl ?_
   refine LP.go ft [] (fun m ρ1 w1=>∃ (j : Nat),∃ (i : Int),∃ (v7 : Value) (o7 : OB),∃ (G4 : GH),m = (8 - j) ∧ G3.le G4 ∧ St w [] G G4 [o7] w1 ∧ Ye Enc.u8 1 5 G4 v7 ((Zaq (l.take k1) ++ [UInt8.ofNat x1.k.toNat]) ++ ZeJ x1.n j) o7 ∧ FR ρ1 [(4,v7),(7, .int .u64 ((u63 x1.n : Nat) : Int)),(8, .int .i64 i),(19,vl),(20, .int .i64 (l.length : Int)),(21, .int .i64 (k1 : Int))] ∧ j ≤ 8 ∧ i = 56 - 8 * (j : Int)) _ ⟨0,56,v3,o3,G3,rfl,(G3.le_refl),hS9,(Ye.cast hr4 (by simp [ZeJ])),⟨rfl,rfl,rfl,rfl,rfl,rfl,trivial⟩,(by omega),(by omega)⟩ ?_
   rintro m ρ1 w14 ⟨j,i,v7,o7,G4,rfl,hle4,hS17,hr8,hF9,f2,f3⟩
   refine hF9.set ?_
   clear hF9
   have hpl:=@ZqK x1.n j
   refine Qv i 0 rfl rfl rfl (fun h6=>?_) (fun h6=>?_)
   ·refine Zta (u63 x1.n) i (by omega) (by omega) rfl rfl rfl ?_
    refine Zil ((((u63 x1.n) / 2 ^ i.toNat) : Nat) : Int) (by exact Int.natCast_nonneg _) ZrY ul5 rfl rfl ?_
    refine WL.buildSlice _ [(0,[.int .u8 ((UInt8.ofNat ((((u63 x1.n) / 2 ^ i.toNat) : Nat) : Int).toNat).toNat : Int)])] [.int .u8 ((UInt8.ofNat ((((u63 x1.n) / 2 ^ i.toNat) : Nat) : Int).toNat).toNat : Int)] hS17 Zcj rfl rfl rfl rfl (fun z hz=>by match z,hz with | [z0],_=>rfl) (fun b5 w15 hn5 hS18=>?_)
    refine WL.push (m:=([(UInt8.ofNat ((((u63 x1.n) / 2 ^ i.toNat) : Nat) : Int).toNat)] : List UInt8)) Zcj rfl rfl rfl hr8 hS18 1 rfl 0 _ _ _ _ _ rfl ⟨[.int .u8 ((UInt8.ofNat ((((u63 x1.n) / 2 ^ i.toNat) : Nat) : Int).toNat).toNat : Int)],_,rfl,rfl,rfl⟩ rfl (by have hreach : reach = 140737488355328:=rfl; (simp only [List.length_append,List.length_cons,List.length_nil]; omega)) (by have hreach : reach = 140737488355328:=rfl; (simp only [List.length_append,List.length_cons,List.length_nil]; omega)) rfl rfl rfl (fun v9 o8 w16 hr9 hS19=>?_)
    have hS20:=hS19.tail
    have hi1 : Zw (i - 8):=by constructor <;> omega
    refine ZaL .sub rfl i 8 rfl rfl rfl hi1 ?_
    exact BK.mk' _ ⟨j + 1,(i - 8),v9,o8,G4,rfl,hle4,hS20,(Ye.cast hr9 (by (rw [ZoD ‹_› ‹_›]; simp only [List.append_assoc]))),⟨rfl,rfl,rfl,rfl,rfl,rfl,trivial⟩,(by omega),(by omega)⟩ (show (8 - (j + 1)) < (8 - j) by omega)
   refine Zl k1 (by have hreach : reach = 140737488355328:=rfl; omega) rfl rfl rfl ?_
   exact BK.mk' _ ⟨k1 + 1,v7,o7,G4,rfl,(hle2.trans (hle3.trans hle4)),hS17,(Ye.cast hr8 (by (rw [Zf4 ‹_›]; (rw [ZqM ‹_› ‹_›,ZqL (by omega)]; simp only [List.append_assoc])))),⟨rfl,rfl,rfl,rfl,trivial⟩,(by omega)⟩ (show l.length - (k1 + 1) < l.length - k1 by omega)
  obtain ⟨G5,hle5,hs1,hS21⟩:=Ye.freeze hr2 hS3 0 rfl
  exact RT hS21 rfl ⟨_,_,rfl,(Sl.cast hs1 (by (rw [List.take_of_length_le (by omega)]; exact (ZqN (by omega) ‹_›).symm))),(congrArg (Value.int .i64) (by exact (ZuN (by omega) ‹_›).symm))⟩
 exact RT hS1 rfl ⟨_,_,rfl,(Sl.cast (Sl.nil Enc.u8 1 G1) (by exact (ZqP ‹_›).symm)),(congrArg (Value.int .i64) (by exact (ZuP (by omega) ‹_›).symm))⟩
theorem Zwr {G : GH} {w : World} (hG : G.In w) (l : List Val) (vl : Value) (hvl : Sl ValE 32 G vl l) : CL Tryz.prog (nat_lit 137) #[vl] [] w G fun _ _ r=>r = Zb (Qm l):=by
 refine Zg ft [] Tryz.func137 rfl rfl ?_
 have hS:=St.start (X:=[]) hG
 refine Z6 hS ZvX rfl rfl rfl (Zr3 hS.imm l _ hvl) ?_
 rintro w1 G1 _ ⟨r2,_,rfl,hs1,rfl⟩ hS1 hle1
 refine ZlH hs1 hS1 ZrX ul5 ul9 rfl rfl ?_
 exact RT hS1 rfl (congrArg Zb (by rfl))
end Go.Civ
namespace Go.Civ
open Go.RowKit
set_option linter.unusedVariables false
def Xa (f : Cond → Int → Bool × Int) : List Cond → Int → Bool × Int
 | [],m=>(true,m)
 | x :: r,m=>if (f x m).1 then Xa f r (f x m).2 else (false,(f x m).2)
def ZdZ (f : Cond → Int → Bool × Int) : List Cond → Int → Int → Int
 | [],_,_=>-1
 | x :: r,m,i=>if (f x m).1 then ZdZ f r (f x m).2 (i + 1) else i
theorem ZaI {f : Cond → Int → Bool × Int} {x : Cond} {r : List Cond} {m : Int} : Xa f (x :: r) m = if (f x m).1 then Xa f r (f x m).2 else (false,(f x m).2):=rfl
theorem ZfR {f : Cond → Int → Bool × Int} {x : Cond} {r : List Cond} {m i : Int} : ZdZ f (x :: r) m i = if (f x m).1 then ZdZ f r (f x m).2 (i + 1) else i:=rfl
def YR : Nat → Cond → Int → Int → Bool × Int
 | 0,_,_,n=>(false,n)
 | d + 1,c,dep,n=>if n + 1 ≤ 100 ∧ dep ≤ 30 then Xa (fun x m=>YR d x (dep + 1) m) c.l (n + 1) else (false,n + 1)
section
variable {f : Cond → Int → Bool × Int} {l : List Cond} {x : Cond} {k : Nat} {n m : Int}
theorem ZgV : ∀ {a b : List Cond} {n : Int},(Xa f a n).1 = true → Xa f (a ++ b) n = Xa f b (Xa f a n).2
 | [],b,n,_=>rfl
 | y :: a,b,n,h=>by
  rw [List.cons_append]
  rw [ZaI] at h
  rw [ZaI,ZaI]
  split at h
  ·rename_i q; rw [if_pos q,if_pos q]; exact ZgV h
  ·cases h
theorem ZgW : ∀ {a b : List Cond} {n i : Int},(Xa f a n).1 = true → ZdZ f (a ++ b) n i = ZdZ f b (Xa f a n).2 (i + a.length)
 | [],b,n,i,_=>by simp [Xa]
 | y :: a,b,n,i,h=>by
  rw [List.cons_append]
  rw [ZaI] at h
  rw [ZaI,ZfR]
  split at h
  ·rename_i q
   rw [if_pos q,if_pos q,ZgW h]
   congr 1
   simp only [List.length_cons]; omega
  ·cases h
theorem Zm0 : ∀ {l : List Cond} {n i : Int},0 ≤ i → decide (0 ≤ ZdZ f l n i) = !(Xa f l n).1
 | [],n,i,_=>rfl
 | y :: l,n,i,h=>by
  rw [ZfR,ZaI]
  by_cases q : (f y n).1 = true
  ·rw [if_pos q,if_pos q]; exact Zm0 (by omega)
  ·rw [if_neg q,if_neg q]; exact decide_eq_true h
theorem Zvq (h : (Xa f (l.take k) n).1 = true) (hm : m = (Xa f (l.take k) n).2) (hx : l[k]? = some x) (h2 : (!(f x m).1) = false) : (Xa f (l.take (k + 1)) n).1 = true ∧ (f x m).2 = (Xa f (l.take (k + 1)) n).2:=by
 subst hm
 have e : l.take (k + 1) = l.take k ++ [x]:=by rw [List.take_add_one,hx]; rfl
 rw [e,ZgV h]
 have h3 : (f x (Xa f (l.take k) n).2).1 = true:=by simpa using h2
 simp only [Xa]
 rw [if_pos h3]; exact ⟨rfl,rfl⟩
theorem ZeY (h : (Xa f (l.take k) n).1 = true) (hm : m = (Xa f (l.take k) n).2) (hx : l[k]? = some x) (h2 : (!(f x m).1) = true) : (k : Int) = ZdZ f l n 0 ∧ (f x m).2 = (Xa f l n).2:=by
 subst hm
 obtain ⟨hk,hk2⟩:=List.getElem?_eq_some_iff.1 hx
 have e : l = l.take k ++ x :: l.drop (k + 1):=by rw [← hk2,← List.drop_eq_getElem_cons hk,List.take_append_drop]
 have h3 : ¬ (f x (Xa f (l.take k) n).2).1 = true:=by simpa using h2
 have e1:=ZgW (b:=x :: l.drop (k + 1)) (i:=0) h
 have e2:=ZgV (b:=x :: l.drop (k + 1)) h
 rw [← e] at e1 e2
 rw [e1,e2]
 rw [ZfR,ZaI,if_neg h3,if_neg h3]
 refine ⟨?_,rfl⟩
 rw [List.length_take]; omega
theorem Zgn (h : (Xa f (l.take k) n).1 = true) (hm : m = (Xa f (l.take k) n).2) (hk : l.length ≤ k) : (-1 : Int) = ZdZ f l n 0 ∧ m = (Xa f l n).2:=by
 rw [List.take_of_length_le hk] at h hm
 have e1:=ZgW (b:=[]) (i:=0) h
 rw [List.append_nil] at e1
 rw [e1]; exact ⟨rfl,hm⟩
end
theorem Zm1 {f : Cond → Int → Bool × Int} (hf : ∀ x m,0 ≤ m → m ≤ 100 → 0 ≤ (f x m).2 ∧ (f x m).2 ≤ 101 ∧ ((f x m).1 = true → (f x m).2 ≤ 100)) : ∀ {l : List Cond} {n : Int},0 ≤ n → n ≤ 100 → 0 ≤ (Xa f l n).2 ∧ (Xa f l n).2 ≤ 101 ∧ ((Xa f l n).1 = true → (Xa f l n).2 ≤ 100)
 | [],n,h1,h2=>⟨h1,by show n ≤ 101; omega,fun _=>h2⟩
 | x :: r,n,h1,h2=>by
  obtain ⟨a,b,c⟩:=hf x n h1 h2
  unfold Xa
  split
  ·rename_i q; exact Zm1 hf a (c q)
  ·exact ⟨a,b,fun h=>by cases h⟩
theorem Ziz : ∀ (d : Nat) (c : Cond) (dep n : Int),0 ≤ n → n ≤ 100 → 0 ≤ (YR d c dep n).2 ∧ (YR d c dep n).2 ≤ 101 ∧ ((YR d c dep n).1 = true → (YR d c dep n).2 ≤ 100)
 | 0,c,dep,n,h1,h2=>⟨h1,by show n ≤ 101; omega,fun h=>by cases h⟩
 | d + 1,c,dep,n,h1,h2=>by
  unfold YR
  split
  ·rename_i q
   exact Zm1 (fun x m a b=>Ziz d x (dep + 1) m a b) (by omega) q.1
  ·exact ⟨by show 0 ≤ n + 1; omega,by show n + 1 ≤ 101; omega,fun h=>by cases h⟩
theorem ZpP {d : Nat} {c : Cond} {dep m : Int} (h1 : (!(YR d c dep m).1) = false) (h2 : 0 ≤ m ∧ m ≤ 100) : 0 ≤ (YR d c dep m).2 ∧ (YR d c dep m).2 ≤ 100:=
 ⟨(Ziz d c dep m h2.1 h2.2).1,(Ziz d c dep m h2.1 h2.2).2.2 (by simpa using h1)⟩
theorem ZcU {d : Nat} {c : Cond} {dep n : Int} (h : 100 < n + 1 ∨ 30 < dep) : false = (YR (d + 1) c dep n).1 ∧ n + 1 = (YR (d + 1) c dep n).2:=by
 unfold YR; rw [if_neg (by omega)]; exact ⟨rfl,rfl⟩
theorem Zci {d : Nat} {c : Cond} {dep n : Int} (h1 : n + 1 ≤ 100) (h2 : dep ≤ 30) : Xa (fun x m=>YR d x (dep + 1) m) c.l (n + 1) = YR (d + 1) c dep n:=by
 conv=>rhs; unfold YR
 rw [if_pos ⟨h1,h2⟩]
end Go.Civ
