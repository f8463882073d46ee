/- Lemmas. -/
import Derived.Test.YtcopkjhdncdnmaaGreatDoorP18
import Derived.Test.YtcopkjhdncdnmaaGreatDoorP20
set_option linter.unusedSimpArgs false
namespace Go.Civ
open Go.RowKit
set_option linter.unusedVariables false
def qnC (c : UInt8) : Bool:=Xh (c.toNat : Int) || Zab (c.toNat : Int) || decide ((c.toNat : Int) = 95)
def ZgI (s : Str) : Bool:=Xp.any fun x=>decide (x = s)
def YB (s : Str) : Bool:=decide (1 ≤ s.length) && (decide (s.length ≤ 30) && (Xh ((s.headD 0).toNat : Int) && (s.all qnC && !ZgI s)))
section
variable {s : Str} {c : UInt8} {k j : Nat} {l : List Str}
theorem Zpj (h : Xh (c.toNat : Int) = true) : qnC c = true:=by unfold qnC; rw [h]; rfl
theorem Zpk (h : Zab (c.toNat : Int) = true) : qnC c = true:=by unfold qnC; rw [h]; simp
theorem Zpl (h : (c.toNat : Int) = 95) : qnC c = true:=by unfold qnC; rw [decide_eq_true h]; simp
theorem Znk (h1 : Xh (c.toNat : Int) = false) (h2 : Zab (c.toNat : Int) = false) (h3 : ¬ (c.toNat : Int) = 95) : qnC c = false:=by unfold qnC; rw [h1,h2,decide_eq_false h3]; rfl
theorem ZjK (h : (s.length : Int) < 1 ∨ 30 < (s.length : Int)) : YB s = false:=by
 unfold YB
 rcases h with h | h
 ·rw [decide_eq_false (show ¬ 1 ≤ s.length by omega)]; rfl
 ·rw [decide_eq_false (show ¬ s.length ≤ 30 by omega)]; simp
theorem Zrb (h : s = []) : YB s = false:=by rw [h]; rfl
theorem Znl (h : s[0]? = some c) (hc : Xh (c.toNat : Int) = false) : YB s = false:=by unfold YB; rw [ZbZ h,hc]; simp
theorem Znm (h : s[k]? = some c) (hc : qnC c = false) : YB s = false:=by unfold YB; rw [ZeM h hc]; simp
theorem Zrc (h : ZgI s = true) : YB s = false:=by unfold YB; rw [h]; simp
theorem Zrd (h1 : 1 ≤ (s.length : Int)) (h2 : (s.length : Int) ≤ 30) (h : s[0]? = some c) (hc : Xh (c.toNat : Int) = true) (ha : s.all qnC = true) (hr : ZgI s = false) : YB s = true:=by
 unfold YB; rw [ZbZ h,hc,ha,hr,decide_eq_true (show 1 ≤ s.length by omega),decide_eq_true (show s.length ≤ 30 by omega)]; rfl
theorem Zre (h1 : 1 ≤ (s.length : Int)) (h2 : (s.length : Int) ≤ 30) (h : s[0]? = some c) (hc : Xh (c.toNat : Int) = true) (ha : s.all qnC = true) : (!ZgI s) = YB s:=by
 unfold YB; rw [ZbZ h,hc,ha,decide_eq_true (show 1 ≤ s.length by omega),decide_eq_true (show s.length ≤ 30 by omega)]; rfl
theorem Znn (h : ¬ s = []) : 1 ≤ (s.length : Int):=by cases s with | nil=>exact (h rfl).elim | cons a b=>simp; omega
def qnA (l : List Str) (j : Nat) (s : Str) : Bool:=YB s && !(l.take j).any fun x=>decide (x = s)
def X7 (l : List Str) : Bool:=l.zipIdx.all fun p=>qnA l p.2 p.1
theorem Zld (h1 : YB s = true) (h2 : ((l.take j).any fun x=>decide (x = s)) = false) : qnA l j s = true:=by unfold qnA; rw [h1,h2]; rfl
theorem Zle (h1 : YB s = false) : qnA l j s = false:=by unfold qnA; rw [h1]; rfl
theorem Zlf (h2 : ((l.take j).any fun x=>decide (x = s)) = true) : qnA l j s = false:=by unfold qnA; rw [h2]; simp
theorem Zh1 (h : l[k]? = some s) (hs : qnA l k s = false) : X7 l = false:=by
 unfold X7
 rw [Bool.eq_false_iff]
 intro e
 rw [List.all_eq_true] at e
 have:=e (s,k) (List.mem_zipIdx_iff_getElem?.2 h)
 rw [this] at hs; cases hs
theorem Zlg (h : ∀ j,j < k → ∀ s,l[j]? = some s → qnA l j s = true) (hk : l.length ≤ k) : X7 l = true:=by
 unfold X7
 rw [List.all_eq_true]
 rintro ⟨s,j⟩ hm
 have hj:=List.mem_zipIdx_iff_getElem?.1 hm
 have:=(List.getElem?_eq_some_iff.1 hj).1
 exact h j (by simp at this ⊢; omega) s hj
theorem ZjL (h : l[j]? = some s) (hj : j < k) {t : Str} (e : s = t) : ((l.take k).any fun x=>decide (x = t)) = true:=
 List.any_eq_true.2 ⟨s,List.mem_of_getElem? (i:=j) (by rw [List.getElem?_take,if_pos hj]; exact h),decide_eq_true e⟩
theorem ZpW {t : Str} (h : ∀ j,j < k → ∀ x,l[j]? = some x → ¬ x = t) : ((l.take k).any fun x=>decide (x = t)) = false:=
 List.any_eq_false.2 fun x hx=>by
  obtain ⟨i,hi⟩:=List.getElem?_of_mem hx
  rw [List.getElem?_take] at hi
  split at hi
  ·rename_i hlt; simpa using h i hlt x hi
  ·cases hi
theorem ZpX {t : Str} (h : l[k]? = some s) (h2 : l[j]? = some t) (hj : j < k) (e : t = s) : X7 l = false:=Zh1 h (Zlf (ZjL h2 hj e))
theorem Xy (h : s ∈ Xp) : ZgI s = true:=List.any_eq_true.2 ⟨s,h,decide_eq_true rfl⟩
theorem Xf (h : ∀ x ∈ Xp,¬ s = x) : ZgI s = false:=List.any_eq_false.2 fun x hx=>by have:=h x hx; simp; exact fun e=>this e.symm
end
abbrev QV (q : Query) (a b c d : Value) : List Value:=[.int .i64 q.kind,Zb q.table,a,b, .int .i64 q.cond.kind,Zb q.cond.col,Zb q.cond.oth, .int .i64 q.cond.v.k, .int .i64 q.cond.v.n,Zb q.cond.v.s,c, .int .i64 q.rel, .int .i64 q.fn, .int .i64 q.span.a, .int .i64 q.span.b,d]
abbrev CV (c : Cond) (a : Value) : List Value:=[.int .i64 c.kind,Zb c.col,Zb c.oth, .int .i64 c.v.k, .int .i64 c.v.n,Zb c.v.s,a]
abbrev QW (k : Int) (q : Query) (a b c d : Value) : List Value:=[.int .i64 k,Zb q.table,a,b, .int .i64 q.cond.kind,Zb q.cond.col,Zb q.cond.oth, .int .i64 q.cond.v.k, .int .i64 q.cond.v.n,Zb q.cond.v.s,c, .int .i64 q.rel, .int .i64 q.fn, .int .i64 q.span.a, .int .i64 q.span.b,d]
abbrev SV (q : Query) (a b c d x y k s t : Value) : List Value:=[.int .i64 q.kind,Zb q.table,a,b, .int .i64 q.cond.kind,Zb q.cond.col,Zb q.cond.oth, .int .i64 q.cond.v.k, .int .i64 q.cond.v.n,Zb q.cond.v.s,c, .int .i64 q.rel, .int .i64 q.fn, .int .i64 q.span.a, .int .i64 q.span.b,d,x,y,k,s,t]
abbrev QX (q : Query) (a b c d : Value) (r : Query) (e f g h : Value) : List Value:=[.int .i64 q.kind,Zb q.table,a,b, .int .i64 q.cond.kind,Zb q.cond.col,Zb q.cond.oth, .int .i64 q.cond.v.k, .int .i64 q.cond.v.n,Zb q.cond.v.s,c, .int .i64 q.rel, .int .i64 q.fn, .int .i64 q.span.a, .int .i64 q.span.b,d, .int .i64 r.kind,Zb r.table,e,f, .int .i64 r.cond.kind,Zb r.cond.col,Zb r.cond.oth, .int .i64 r.cond.v.k, .int .i64 r.cond.v.n,Zb r.cond.v.s,g, .int .i64 r.rel, .int .i64 r.fn, .int .i64 r.span.a, .int .i64 r.span.b,h]
end Go.Civ
namespace Go.Civ
open Go.RowKit
open Go.Lib (compact)
set_option linter.unusedVariables false
theorem St.pick {w0 w : World} {X : List Nat} {G0 G : GH} {L : Own} (h : St w0 X G0 G L w) (is : List Nat) (hnd : is.Nodup:=by decide) : St w0 X G0 G (is.map fun i=>(L[i]?).getD none) w:=by
 refine h.reindex _ (fun j=>is.getD j 0) (fun j p hp=>?_) (fun j k hj hk he=>?_)
 ·rw [List.getElem?_map] at hp
  cases hi : is[j]? with
  | none=>rw [hi] at hp; cases hp
  | some i=>
   rw [hi] at hp
   simp only [Option.map_some,Option.some.injEq] at hp
   rw [List.getD_eq_getElem?_getD,hi]
   simp only [Option.getD_some]
   cases hl : L[i]? with
   | none=>rw [hl] at hp; cases hp
   | some q=>rw [hl] at hp; simp only [Option.getD_some] at hp; rw [hp]
 ·rw [List.length_map] at hj hk
  rw [List.getD_eq_getElem?_getD,List.getD_eq_getElem?_getD,List.getElem?_eq_getElem hj,List.getElem?_eq_getElem hk] at he
  simp only [Option.getD_some] at he
  exact (List.getElem?_inj hj hnd).1 (by rw [List.getElem?_eq_getElem hj,List.getElem?_eq_getElem hk,he])
def Zrl (l : List Span) (x : Int) (i : Nat) : Prop:=∀ j,j < i → ∀ s,l[j]? = some s → s.b ≤ x
def Zpo (l : List Span) (x : Int) (j : Nat) : Prop:=∀ m,j ≤ m → ∀ s,l[m]? = some s → x < s.b
theorem Zno {l : List Span} (h : Can l) {i j : Nat} {s t : Span} (hi : l[i]? = some s) (hj : l[j]? = some t) (hij : i < j) : s.b < t.a ∧ t.a < t.b:=by
 have hp:=h.apart
 rw [List.pairwise_iff_getElem] at hp
 obtain ⟨hi1,rfl⟩:=List.getElem?_eq_some_iff.1 hi
 obtain ⟨hj1,rfl⟩:=List.getElem?_eq_some_iff.1 hj
 exact ⟨hp i j hi1 hj1 hij,h.pos _ (List.getElem_mem hj1)⟩
theorem Zrl.zero {l : List Span} {x : Int} : Zrl l x 0:=fun j hj=>by omega
theorem Zpo.all {l : List Span} {x : Int} : Zpo l x l.length:=fun m hm s hs=>by have:=(List.getElem?_eq_some_iff.1 hs).1; omega
theorem Zrl.step {l : List Span} {x : Int} {h : Nat} {s : Span} (hc : Can l) (hs : l[h]? = some s) (hx : s.b ≤ x) : Zrl l x (h + 1):=fun j hj t ht=>by
 rcases Nat.lt_or_ge j h with k | k
 ·have:=Zno hc ht hs k; omega
 ·obtain rfl : j = h:=by omega
  rw [ht] at hs; obtain rfl:=Option.some.inj hs; exact hx
theorem Zpo.step {l : List Span} {x : Int} {h : Nat} {s : Span} (hc : Can l) (hs : l[h]? = some s) (hx : x < s.b) : Zpo l x h:=fun m hm t ht=>by
 rcases Nat.lt_or_ge h m with k | k
 ·have:=Zno hc hs ht k; omega
 ·obtain rfl : h = m:=by omega
  rw [ht] at hs; obtain rfl:=Option.some.inj hs; exact hx
end Go.Civ
namespace Go.Civ
open Go.RowKit
set_option linter.unusedVariables false
def Zrm (t : Table) : Bool:=X3 t.s && decide (-62135596801 ≤ t.last) && decide (t.last < 253402300800) && decide (t.rows.length ≤ 500)
theorem Znp (t : Table) : ZeO t = ((Zrm t && t.rows.all (ZiQ t.s t.last)) && decide (t.rows = ZlM t.rows)):=rfl
end Go.Civ
namespace Go.Civ
end Go.Civ
namespace Go.Civ
end Go.Civ
namespace Go.Civ
open Go.RowKit
set_option linter.unusedVariables false
structure FnO (P : Program) {α : Type} (A : GH → Value → α → Prop) (fid : Nat) (cap : Array Value) (G : GH) (on : α → Prop) (nx : α → Option (List Val)) : Prop where
 body : Zq P fid
 call : ∀ (G' : GH) (w' : World) (v : Value) (x : α),G.le G' → G'.In w' → on x → A G' v x →
  Calls P fid ([v] ++ cap.toList).toArray w' fun e w''=>∃ r G'',e = .returned r ∧ Res [] w' G' w'' G'' ∧ ∃ r0 r1,r = .tuple #[r0,r1] ∧ Sl ValE 32 G'' r0 ((nx x).getD []) ∧ r1 = .bool (nx x).isSome
theorem FnO.up {P : Program} {α : Type} {A : GH → Value → α → Prop} {fid : Nat} {cap : Array Value} {G G' : GH} {on : α → Prop} {nx : α → Option (List Val)} (h : FnO P A fid cap G on nx) (k : G.le G') : FnO P A fid cap G' on nx:=
 ⟨h.body,fun G2 w' v x hle=>h.call G2 w' v x (k.trans hle)⟩
section
variable {t : Table} {tx : Int} {d : Span} {nx : List Val → Option (List Val)} {hl : List Val → Bool}
theorem Zg3 (h : ZeO t = true) {r : HRow} (hr : r ∈ t.rows) : Zht r = true ∧ r.v.length ≤ 8 ∧ r.r.x.a ≤ t.last ∧ r.v.length = t.s.cols.length ∧ r.v.all Y1 = true ∧ t.s.cols.length ≤ 8:=by
 rw [Znp] at h
 simp only [Bool.and_eq_true] at h
 have h1:=List.all_eq_true.1 h.1.2 r hr
 unfold ZiQ at h1
 simp only [Bool.and_eq_true,decide_eq_true_eq] at h1
 obtain ⟨a,b,c,_⟩:=Zo1 h1.1.1.1
 exact ⟨h1.1.1.2,a,h1.1.2,c,b,by omega⟩
end
end Go.Civ
namespace Go.Civ
end Go.Civ
namespace Go.Civ
end Go.Civ
namespace Go.Civ
open Go.RowKit
set_option linter.unusedVariables false
def Zro (_ : GH) (v : Value) (x : Str) : Prop:=v = Zb x ∧ x.length ≤ reach
def ZcZ (c : Cond) : Bool:=decide (c.kind = 1) || decide (c.kind = 2)
def Zby (c : Cond) : Bool:=YB c.col && (decide (c.oth = []) || YB c.oth)
def qfF : Nat → Cond → Bool
 | 0,_=>true
 | n + 1,c=>if ZcZ c then Zby c else c.l.all (qfF n)
def Qc : Nat → Cond → Bool
 | 0,_=>true
 | n + 1,c=>(!ZcZ c || Zby c) && c.l.all (Qc n)
section
variable {c x : Cond} {n k : Nat} {l : List Cond}
theorem ZfJ (h : c.kind = 1 ∨ c.kind = 2) : ZcZ c = true:=by unfold ZcZ; rcases h with h | h <;> rw [h] <;> rfl
theorem Znq (h : ¬ c.kind = 1) (h2 : ¬ c.kind = 2) : ZcZ c = false:=by unfold ZcZ; rw [decide_eq_false h,decide_eq_false h2]; rfl
theorem Zrp (hk : c.kind = 1 ∨ c.kind = 2) (h : YB c.col = false) : false = qfF (n + 1) c:=by rw [qfF,ZfJ hk,if_pos rfl,Zby,h]; rfl
theorem Zrq (hk : c.kind = 1 ∨ c.kind = 2) (h : YB c.col = true) (h2 : c.oth = []) : true = qfF (n + 1) c:=by rw [qfF,ZfJ hk,if_pos rfl,Zby,h,decide_eq_true h2]; rfl
theorem Zrr (hk : c.kind = 1 ∨ c.kind = 2) (h : YB c.col = true) (h2 : ¬ c.oth = []) : YB c.oth = qfF (n + 1) c:=by rw [qfF,ZfJ hk,if_pos rfl,Zby,h,decide_eq_false h2]; simp
theorem Zrs (P : Cond → Bool) : ∀ l : List Cond,(!l.any fun x=>!P x) = l.all P
 | []=>rfl
 | x :: l=>by rw [List.any_cons,List.all_cons,← Zrs P l]; cases P x <;> simp
theorem Ztl (h1 : ¬ c.kind = 1) (h2 : ¬ c.kind = 2) : (!c.l.any fun x=>!qfF n x) = qfF (n + 1) c:=by rw [qfF,Znq h1 h2,Zrs]; rfl
theorem Zrt (hk : c.kind = 1 ∨ c.kind = 2) (h : YB c.col = false) : false = Qc (n + 1) c:=by rw [Qc,ZfJ hk,Zby,h]; rfl
theorem Zru (hk : c.kind = 1 ∨ c.kind = 2) (h2 : ¬ c.oth = []) (h : YB c.oth = false) : false = Qc (n + 1) c:=by rw [Qc,ZfJ hk,Zby,h,decide_eq_false h2]; simp
theorem ZjO (h : c.l[k]? = some x) (h2 : Qc n x = false) : false = Qc (n + 1) c:=by
 have : c.l.all (Qc n) = false:=List.all_eq_false.2 ⟨x,List.mem_of_getElem? h,by rw [h2]; simp⟩
 rw [Qc,this,Bool.and_false]
theorem ZjP (hh : (!ZcZ c || Zby c) = true) (h : ∀ j,j < k → ∀ x,c.l[j]? = some x → Qc n x = true) (hk : c.l.length ≤ k) : true = Qc (n + 1) c:=by
 have : c.l.all (Qc n) = true:=List.all_eq_true.2 fun x hx=>by
  obtain ⟨i,hi⟩:=List.getElem?_of_mem hx
  exact h i (Nat.lt_of_lt_of_le (List.getElem?_eq_some_iff.1 hi).1 hk) x hi
 rw [Qc,this,hh]; rfl
theorem ZjQ (h1 : ¬ c.kind = 1) (h2 : ¬ c.kind = 2) : (!ZcZ c || Zby c) = true:=by rw [Znq h1 h2]; rfl
theorem ZjR (h : YB c.col = true) (h2 : c.oth = []) : (!ZcZ c || Zby c) = true:=by rw [Zby,h,decide_eq_true h2]; simp
theorem ZjS (h : YB c.col = true) (h2 : YB c.oth = true) : (!ZcZ c || Zby c) = true:=by rw [Zby,h,h2]; simp
theorem ZjT {P R : Cond → Bool} : ∀ {l : List Cond},(∀ x ∈ l,P x = R x) → l.all P = l.all R
 | [],_=>rfl
 | x :: l,h=>by rw [List.all_cons,List.all_cons,h x (List.mem_cons_self),ZjT fun y hy=>h y (List.mem_cons_of_mem _ hy)]
theorem Zpp : ∀ {n : Nat} {c : Cond},ZiO n c → qfF n c = Qc n c
 | 0,c,h=>h.elim
 | n + 1,c,⟨h1,h2⟩=>by
  rw [qfF,Qc]
  cases e : ZcZ c with
  | false=>
   simp only [Bool.false_eq_true,if_false,Bool.not_false,Bool.true_or,Bool.true_and]
   exact ZjT fun x hx=>Zpp (h2 x hx)
  | true=>
   have hl : c.l = []:=by
    have hc : ZQ c = true:=by unfold ZcZ at e; unfold ZQ; simpa using e
    unfold Z2 at h1
    rw [hc] at h1
    simp at h1
    exact h1.1.2
   rw [hl]; simp
theorem ZiS {p : Prop} [Decidable p] {a b : Int} (ha : a ≠ 1) (hb : b ≠ 1) : (if p then a else b) ≠ 1:=by
 split
 ·exact ha
 ·exact hb
theorem Znr {p : Bool} {a b : Int} (ha : a ≠ 1) (hb : b ≠ 1) : (bif p then a else b) ≠ 1:=by
 cases p
 ·exact hb
 ·exact ha
theorem Zqd {l : List Col} : Qr c l ≠ 1:=by
 unfold Qr
 exact Znr (by omega) (ZiS (by omega) (Znr (by omega) (ZiS (by omega) (by omega))))
theorem Zi3 {f : Cond → Int} (h : ∀ x,f x ≠ 1) : ∀ r : List Cond,Qb f r ≠ 1
 | []=>by rw [Qb]; omega
 | x :: r=>by rw [Qb]; exact ZiS (h x) (Zi3 h r)
theorem ZjU : ∀ {n : Nat} {c : Cond} {l : List Col},Xa n c l ≠ 1
 | 0,_,_=>by rw [Xa]; omega
 | n + 1,c,l=>by rw [Xa]; exact ZiS Zqd (Zi3 (fun x=>ZjU) _)
def ZaW (n : Nat) (c : Cond) : Bool:=decide (Ya n c 1 ≤ 60) && Qc n c
theorem Zpq : Xq n c [] = 1 ↔ ¬ Ya n c 1 ≤ 60:=by
 unfold Xq
 constructor
 ·intro h hn; rw [if_pos hn] at h; exact ZjU h
 ·intro h; rw [if_neg h]
theorem Ztm (h : ¬ Ya n c 1 ≤ 60) : false = ZaW n c:=by unfold ZaW; rw [decide_eq_false h]; rfl
theorem Ztn (h : Ya n c 1 ≤ 60) : Qc n c = ZaW n c:=by unfold ZaW; rw [decide_eq_true h]; rfl
theorem Zsw (h : Xq n c [] = 1) : false = ZaW n c:=by unfold ZaW; rw [decide_eq_false (Zpq.1 h)]; rfl
theorem Zsx (h : ¬ Xq n c [] = 1) : qfF n c = ZaW n c:=by
 have hn : Ya n c 1 ≤ 60:=Decidable.byContradiction fun e=>h (Zpq.2 e)
 unfold ZaW; rw [decide_eq_true hn,Zpp (ZhP (by decide) (by decide) hn)]; rfl
end
theorem ZaX {v : Val} : v = zeroV ↔ v.k = 0 ∧ v.n = 0 ∧ v.s = []:=by cases v; unfold zeroV; simp
theorem Yg {p : Span} : p = ⟨0,0⟩ ↔ p.a = 0 ∧ p.b = 0:=by cases p; simp
def YO (c : Cond) : Bool:=decide (c.kind = 0) && (decide (c.col = []) && (decide (c.oth = []) && (decide (c.v = zeroV) && decide ((c.l.length : Int) = 0))))
def Z4 (q : Query) : Bool:=decide (q.table = []) && (decide ((q.cols.length : Int) = 0) && (decide ((q.names.length : Int) = 0) && (YO q.cond && (decide (q.rel = 0) && (decide (q.fn = 0) && decide (q.span = ⟨0,0⟩))))))
theorem ZE {α : Type} (P : α → Bool) : ∀ l : List α,(l.any fun x=>!P x) = !l.all P
 | []=>rfl
 | x :: l=>by rw [List.any_cons,List.all_cons,ZE P l]; cases P x <;> simp
theorem ZH : YO noC = true:=by decide
def Xc (n : Nat) (q : Query) : Bool:=
 if q.kind = 1 then YB q.table && (decide ((q.l.length : Int) = 0) && Z4 ⟨0,[],q.cols,q.names,q.cond,q.rel,q.fn,q.span,[]⟩)
 else if q.kind = 2 then ZaW n q.cond && (decide ((q.l.length : Int) = 1) && Z4 ⟨0,q.table,q.cols,q.names,noC,q.rel,q.fn,q.span,[]⟩)
 else if q.kind = 3 then (decide (0 < (q.cols.length : Int)) && X7 q.cols) && (decide ((q.l.length : Int) = 1) && Z4 ⟨0,q.table,[],q.names,q.cond,q.rel,q.fn,q.span,[]⟩)
 else if q.kind = 4 then (decide (0 < (q.cols.length : Int)) && (X7 q.cols && (decide ((q.names.length : Int) = q.cols.length) && q.names.all YB))) && (decide ((q.l.length : Int) = 1) && Z4 ⟨0,q.table,[],[],q.cond,q.rel,q.fn,q.span,[]⟩)
 else if q.kind = 5 ∨ q.kind = 6 ∨ q.kind = 7 then decide ((q.l.length : Int) = 2) && Z4 ⟨0,q.table,q.cols,q.names,q.cond,q.rel,q.fn,q.span,[]⟩
 else if q.kind = 8 then Yj q.span && (decide ((q.l.length : Int) = 1) && Z4 ⟨0,q.table,q.cols,q.names,q.cond,q.rel,q.fn,⟨0,0⟩,[]⟩)
 else if q.kind = 9 then (X7 q.cols && (decide (1 ≤ q.fn) && (decide (q.fn ≤ 4) && (decide ((q.names.length : Int) = if q.fn = 1 then 1 else 2) && q.names.all YB)))) && (decide ((q.l.length : Int) = 1) && Z4 ⟨0,q.table,[],[],q.cond,q.rel,0,q.span,[]⟩)
 else if q.kind = 10 then (decide (1 ≤ q.rel) && decide (q.rel ≤ 8191)) && (decide ((q.l.length : Int) = 2) && Z4 ⟨0,q.table,q.cols,q.names,q.cond,0,q.fn,q.span,[]⟩)
 else false
section
variable {n : Nat} {q : Query} {x y : Str} {k : Nat}
theorem Zgf (h : q.kind = 1) : Xc n q = (YB q.table && (decide ((q.l.length : Int) = 0) && Z4 ⟨0,[],q.cols,q.names,q.cond,q.rel,q.fn,q.span,[]⟩)):=by unfold Xc; rw [if_pos h]
theorem Zfl (h : q.kind = 2) : Xc n q = (ZaW n q.cond && (decide ((q.l.length : Int) = 1) && Z4 ⟨0,q.table,q.cols,q.names,noC,q.rel,q.fn,q.span,[]⟩)):=by unfold Xc; rw [if_neg (by omega),if_pos h]
theorem Zd1 (h : q.kind = 3) : Xc n q = ((decide (0 < (q.cols.length : Int)) && X7 q.cols) && (decide ((q.l.length : Int) = 1) && Z4 ⟨0,q.table,[],q.names,q.cond,q.rel,q.fn,q.span,[]⟩)):=by unfold Xc; rw [if_neg (by omega),if_neg (by omega),if_pos h]
theorem ZaK (h : q.kind = 4) : Xc n q = ((decide (0 < (q.cols.length : Int)) && (X7 q.cols && (decide ((q.names.length : Int) = q.cols.length) && q.names.all YB))) && (decide ((q.l.length : Int) = 1) && Z4 ⟨0,q.table,[],[],q.cond,q.rel,q.fn,q.span,[]⟩)):=by unfold Xc; rw [if_neg (by omega),if_neg (by omega),if_neg (by omega),if_pos h]
theorem ZaL (h : q.kind = 5 ∨ q.kind = 6 ∨ q.kind = 7) : Xc n q = (decide ((q.l.length : Int) = 2) && Z4 ⟨0,q.table,q.cols,q.names,q.cond,q.rel,q.fn,q.span,[]⟩):=by unfold Xc; rw [if_neg (by omega),if_neg (by omega),if_neg (by omega),if_neg (by omega),if_pos h]
theorem ZcM (h : q.kind = 8) : Xc n q = (Yj q.span && (decide ((q.l.length : Int) = 1) && Z4 ⟨0,q.table,q.cols,q.names,q.cond,q.rel,q.fn,⟨0,0⟩,[]⟩)):=by unfold Xc; rw [if_neg (by omega),if_neg (by omega),if_neg (by omega),if_neg (by omega),if_neg (by omega),if_pos h]
theorem XD (h : q.kind = 9) : Xc n q = ((X7 q.cols && (decide (1 ≤ q.fn) && (decide (q.fn ≤ 4) && (decide ((q.names.length : Int) = if q.fn = 1 then 1 else 2) && q.names.all YB)))) && (decide ((q.l.length : Int) = 1) && Z4 ⟨0,q.table,[],[],q.cond,q.rel,0,q.span,[]⟩)):=by unfold Xc; rw [if_neg (by omega),if_neg (by omega),if_neg (by omega),if_neg (by omega),if_neg (by omega),if_neg (by omega),if_pos h]
theorem ZcU (h : q.kind = 10) : Xc n q = ((decide (1 ≤ q.rel) && decide (q.rel ≤ 8191)) && (decide ((q.l.length : Int) = 2) && Z4 ⟨0,q.table,q.cols,q.names,q.cond,0,q.fn,q.span,[]⟩)):=by unfold Xc; rw [if_neg (by omega),if_neg (by omega),if_neg (by omega),if_neg (by omega),if_neg (by omega),if_neg (by omega),if_neg (by omega),if_pos h]
theorem ZiT (h1 : ¬ q.kind = 1) (h2 : ¬ q.kind = 2) (h3 : ¬ q.kind = 3) (h4 : ¬ q.kind = 4) (h5 : ¬ q.kind = 5) (h6 : ¬ q.kind = 6) (h7 : ¬ q.kind = 7) (h8 : ¬ q.kind = 8) (h9 : ¬ q.kind = 9) (h10 : ¬ q.kind = 10) : Xc n q = false:=by
 unfold Xc; rw [if_neg h1,if_neg h2,if_neg h3,if_neg h4,if_neg (by omega),if_neg h8,if_neg h9,if_neg h10]
theorem Zto (h : q.names[0]? = some x) (hl : (q.names.length : Int) = 1) : q.names.all YB = YB x:=by
 match hq : q.names,h,hl with
 | [a],h,_=>obtain rfl:=Option.some.inj h; simp
theorem Ztp (h : q.names[0]? = some x) (h2 : q.names[1]? = some y) (hl : (q.names.length : Int) = 2) : q.names.all YB = (YB x && YB y):=by
 match hq : q.names,h,h2,hl with
 | [a,b],h,h2,_=>obtain rfl:=Option.some.inj h; obtain rfl:=Option.some.inj h2; simp
theorem ZjV (h : (q.names.any fun x=>!YB x) = true) : q.names.all YB = false:=by rw [ZE] at h; simpa using h
theorem Zpr (h : q.names[k]? = some x) (hx : YB x = false) : q.names.all YB = false:=List.all_eq_false.2 ⟨x,List.mem_of_getElem? h,by rw [hx]; simp⟩
theorem Zrv (h : ∀ j,j < k → ∀ x,q.names[j]? = some x → YB x = true) (hk : q.names.length ≤ k) : q.names.all YB = true:=List.all_eq_true.2 fun x hx=>by
 obtain ⟨i,hi⟩:=List.getElem?_of_mem hx
 exact h i (Nat.lt_of_lt_of_le (List.getElem?_eq_some_iff.1 hi).1 hk) x hi
theorem Zrw (h : ¬ q.table = []) : Z4 q = false:=by unfold Z4; rw [decide_eq_false h]; rfl
theorem Ztq (h : 0 < (q.cols.length : Int)) : Z4 q = false:=by unfold Z4; rw [decide_eq_false (show ¬ (q.cols.length : Int) = 0 by omega)]; simp
theorem Ztr (h : 0 < (q.names.length : Int)) : Z4 q = false:=by unfold Z4; rw [decide_eq_false (show ¬ (q.names.length : Int) = 0 by omega)]; simp
theorem Zts (h : YO q.cond = false) : Z4 q = false:=by unfold Z4; rw [h]; simp
theorem Ztt (h : ¬ q.rel = 0) : Z4 q = false:=by unfold Z4; rw [decide_eq_false h]; simp
theorem Ztu (h : ¬ q.fn = 0) : Z4 q = false:=by unfold Z4; rw [decide_eq_false h]; simp
theorem Ztv (h : ¬ q.span.a = 0 ∨ ¬ q.span.b = 0) : Z4 q = false:=by
 unfold Z4; rw [decide_eq_false (show ¬ q.span = ⟨0,0⟩ from fun e=>by rw [e] at h; simp at h)]; simp
theorem Zfm {a b : Bool} : (a && (b && false)) = false:=by simp
theorem Zd2 (h : ¬ q.kind = 1) (h2 : ¬ q.table = []) : false = Xc n q:=by
 unfold Xc
 simp only [Zrw h2,Zrw (q:=⟨0,q.table,_,_,_,_,_,_,_⟩) h2,Zfm,Bool.and_false,if_neg h,ite_self]
theorem Zfn (h : q.kind ≠ 3 ∧ q.kind ≠ 4 ∧ q.kind ≠ 9) (h2 : 0 < (q.cols.length : Int)) : false = Xc n q:=by
 unfold Xc
 simp only [Ztq (q:=⟨0,_,q.cols,_,_,_,_,_,_⟩) h2,Zfm,Bool.and_false,if_neg h.1,if_neg h.2.1,if_neg h.2.2,ite_self]
theorem Ze9 (h : q.kind ≠ 4 ∧ q.kind ≠ 9) (h2 : 0 < (q.names.length : Int)) : false = Xc n q:=by
 unfold Xc
 simp only [Ztr (q:=⟨0,_,_,q.names,_,_,_,_,_⟩) h2,Zfm,Bool.and_false,if_neg h.1,if_neg h.2,ite_self]
theorem Zd3 (h : ¬ q.kind = 2) (h2 : YO q.cond = false) : false = Xc n q:=by
 unfold Xc
 simp only [Zts (q:=⟨0,_,_,_,q.cond,_,_,_,_⟩) h2,Zfm,Bool.and_false,if_neg h,ite_self]
theorem Zd4 (h : ¬ q.kind = 10) (h2 : ¬ q.rel = 0) : false = Xc n q:=by
 unfold Xc
 simp only [Ztt (q:=⟨0,_,_,_,_,q.rel,_,_,_⟩) h2,Zfm,Bool.and_false,if_neg h,ite_self]
theorem Zd5 (h : ¬ q.kind = 9) (h2 : ¬ q.fn = 0) : false = Xc n q:=by
 unfold Xc
 simp only [Ztu (q:=⟨0,_,_,_,_,_,q.fn,_,_⟩) h2,Zfm,Bool.and_false,if_neg h,ite_self]
theorem QD (h : ¬ q.kind = 8) (h2 : ¬ q.span.a = 0 ∨ ¬ q.span.b = 0) : false = Xc n q:=by
 unfold Xc
 simp only [Ztv (q:=⟨0,_,_,_,_,_,_,q.span,_⟩) h2,Zfm,Bool.and_false,if_neg h,ite_self]
theorem ZiU {m : Int} (hm : (q.kind = 1 ∧ m = 0) ∨ ((q.kind = 2 ∨ q.kind = 3 ∨ q.kind = 4 ∨ q.kind = 8 ∨ q.kind = 9) ∧ m = 1) ∨ ((q.kind = 5 ∨ q.kind = 6 ∨ q.kind = 7 ∨ q.kind = 10) ∧ m = 2)) (h : ¬ (q.l.length : Int) = m) : false = Xc n q:=by
 rcases hm with ⟨hk,rfl⟩ | ⟨hk | hk | hk | hk | hk,rfl⟩ | ⟨hk | hk | hk | hk,rfl⟩
 ·rw [Zgf hk,decide_eq_false h]; simp
 ·rw [Zfl hk,decide_eq_false h]; simp
 ·rw [Zd1 hk,decide_eq_false h]; simp
 ·rw [ZaK hk,decide_eq_false h]; simp
 ·rw [ZcM hk,decide_eq_false h]; simp
 ·rw [XD hk,decide_eq_false h]; simp
 ·rw [ZaL (.inl hk),decide_eq_false h]; simp
 ·rw [ZaL (.inr (.inl hk)),decide_eq_false h]; simp
 ·rw [ZaL (.inr (.inr hk)),decide_eq_false h]; simp
 ·rw [ZcU hk,decide_eq_false h]; simp
theorem Zsy (hk : q.kind = 4) (hl : (q.l.length : Int) = 1) (ht : q.table = []) (hz : YO q.cond = true) (hr : q.rel = 0) (hf : q.fn = 0) (ha : q.span.a = 0) (hb : q.span.b = 0) (hc : ¬ (q.cols.length : Int) = 0) (hn : (q.names.length : Int) = q.cols.length) (hq : X7 q.cols = true) (h : q.names.all YB = true) : true = Xc n q:=by
 rw [ZaK hk,h,hq,decide_eq_true hn,decide_eq_true hl,decide_eq_true (show 0 < (q.cols.length : Int) by omega)]
 unfold Z4
 rw [ht,hz,hr,hf,decide_eq_true (show q.span = ⟨0,0⟩ from Yg.2 ⟨ha,hb⟩)]; simp
end
end Go.Civ
set_option linter.unusedVariables false
namespace Go.Civ
open Go.Proofs Go.Shelf Go.RowKit
theorem ZoL {P : Program} {τ : Ren} (L : Lays8.n4 P τ) {α : Type} (E : Enc α) (by_ : Nat) (i0 : TypeInfo) (z : Value) (hi0 : P.info? (τ.t 25) = some i0) (hz0 : i0.zero = some z) (hs : i0.size = E.n) (hp : 0 < E.n) (hzc : z.cells.size = E.n) (hb : i0.bytes = by_)
  (G : GH) (w : World) (hG : G.In w) (n : Nat) (h1 : n * by_ ≤ reach) (h2 : n ≤ 1000000000) :
  Calls P (τ.f 4) #[.slice none 0 0, .int .i64 (n : Int)] w fun e w'=>∃ r G',e = .returned r ∧ Res [] w G w' G' ∧ ∃ o,YH E by_ (τ.t 25) G' r ([] : List α) o ∧ ZdY w w' G' o:=by
 rcases Nat.eq_zero_or_pos n with h0 | hpos
 ·subst h0
  exact (Any8.slices_Grow_room L none 0 0 0 w (Nat.le_refl _) (by omega) (by omega) (by omega)).mono fun e w' ⟨he,hw⟩=>by
   subst hw
   exact ⟨_,G,he,Res.refl hG,none,YH.nil E by_ _ G,fun p hp=>(by cases hp)⟩
 ·have hreach : reach = 140737488355328:=rfl
  refine (Any8.slices_Grow_grow L i0 z hi0 hz0 (by omega) none 0 0 n [] w (Nat.le_refl _) (by omega) (by rw [hb,Nat.zero_add]; omega) (by omega) (by simp) (fun _=>rfl) (fun a ha=>by cases ha)).mono fun e w' ⟨he,hw⟩=>?_
  have hge:=grownCap_ge w (0 + n) 0 (τ.t 25)
  have hmax:=grownCap_le_maxLen w (0 + n) 0 (τ.t 25) (by unfold maxLen; omega)
  obtain ⟨cap,hcap⟩ : ∃ cap,cap = grownCap w (0 + n) 0 (τ.t 25):=⟨_,rfl⟩
  rw [← hcap] at he hw hge hmax
  have hS':=((St.start (X:=[]) hG).same (w':=w.drew) rfl rfl rfl rfl (Nat.le_succ _)).alloc (τ.t 25) ((Builtin.zeroCells z.cells (0 + n - 0)).toList ++ (Builtin.zeroCells z.cells (cap - (0 + n))).toList)
  have e1 : (([] : List Value).toArray ++ Builtin.zeroCells z.cells (0 + n - 0) ++ Builtin.zeroCells z.cells (cap - (0 + n))) = ((Builtin.zeroCells z.cells (0 + n - 0)).toList ++ (Builtin.zeroCells z.cells (cap - (0 + n))).toList).toArray:=Array.ext' (by simp)
  rw [e1] at hw
  have hw2 : w' = { w.drew with heap:=w.drew.heap.push (.cells ((Builtin.zeroCells z.cells (0 + n - 0)).toList ++ (Builtin.zeroCells z.cells (cap - (0 + n))).toList).toArray (τ.t 25)) }:=hw
  rw [← hw2] at hS'
  refine ⟨_,G,he,hS'.res,some (w.heap.size,τ.t 25,(Builtin.zeroCells z.cells (0 + n - 0)).toList ++ (Builtin.zeroCells z.cells (cap - (0 + n))).toList), .inr ⟨w.heap.size,_,cap,[],rfl,rfl,Nat.zero_le _,hmax,?_,rfl,by simp,by simp,by simp⟩,hS'.freshAt 0 rfl⟩
  rw [List.length_append,ZbA,ZbA,hzc,← Nat.add_mul]; congr 1; omega
theorem ZnE {P : Program} {τ : Ren} (L : Lays8.n4 P τ) {α : Type} (E : Enc α) (by_ : Nat) (ti : TI) (ht : Y3 P (τ.t 25) = some ti) (hs : ti.size = E.n) (hp : 0 < E.n) (hzc : ti.zero.cells.size = E.n) (hb : ti.bytes = by_)
  (G : GH) (w : World) (hG : G.In w) (n : Nat) (h1 : n * by_ ≤ reach) (h2 : n ≤ 1000000000) :
  Calls P (τ.f 4) #[.slice none 0 0, .int .i64 (n : Int)] w fun e w'=>∃ r G',e = .returned r ∧ Res [] w G w' G' ∧ ∃ o,YH E by_ (τ.t 25) G' r ([] : List α) o ∧ ZdY w w' G' o:=by
 obtain ⟨ds,i,_,k2,k3,_,k5,k6⟩:=ZaP ht
 exact ZoL L E by_ i ti.zero k2 k3 (k5.trans hs) hp hzc (k6.trans hb) G w hG n h1 h2
theorem Zql {n by_ : Nat} (h : n ≤ 1000000000) (k : by_ ≤ 100) : n * by_ ≤ reach:=Nat.le_trans (Nat.mul_le_mul h k) (by simp [reach])
theorem Zqm {G : GH} {w : World} (hG : G.In w) (n : Nat) (hn : n ≤ 1000000000) : Calls Tryz.prog (nat_lit 225) #[.slice none 0 0, .int .i64 ((n : Nat) : Int)] w fun e w'=>∃ r G',e = .returned r ∧ Res [] w G w' G' ∧ ∃ o,YH ColE 24 (nat_lit 48) G' r ([] : List Col) o ∧ ZdY w w' G' o:=
 ZnE Tryz.growC ColE 24 ⟨true,2,24, .agg #[Zb [], .int .i64 0]⟩ (by kernel_rfl) rfl (by decide) rfl rfl G w hG n (Zql hn (by decide)) hn
end Go.Civ
namespace Go.Civ
open Go.RowKit
set_option linter.unusedVariables false
def hd1 : Code → Nat
 | .seq x _=>hd1 x
 | .region id _ _=>id
 | _=>1000000
def ZfT (id : Nat) : Code → Option (Code × Code)
 | .seq x y=>bif Nat.beq (hd1 y) id then some (x,y) else (ZfT id y).map fun p=>(.seq x p.1,p.2)
 | _=>none
section
variable {P : Program} {N : Nat} {w : World}
theorem ZnK : ∀ c : Code,ZlD [] c = false:=by
 intro c
 induction c <;> simp_all [ZlD]
theorem ZoO (F : FTab P) {id : Nat} {R : Env → World → Prop} {Q : Exit → Env → World → Prop} : ∀ {c a b : Code} {ρ : Env} {w : World},ZfT id c = some (a,b) → okD N a = true → okD N b = true → goC F N [] a (Zb9 R Q) ρ w → (∀ ρ w,R ρ w → goC F N [] b Q ρ w) → WC P N c Q ρ w:=by
 intro c
 induction c with
 | seq x y ihx ihy=>
  intro a b ρ w hs ha hb h k
  rw [ZfT] at hs
  cases hh : Nat.beq (hd1 y) id with
  | true=>
   rw [hh] at hs
   simp only [cond_true,Option.some.injEq,Prod.mk.injEq] at hs
   obtain ⟨rfl,rfl⟩:=hs
   refine WC.seq ((goC.ok ha h).mono fun e ρ w hq=>?_)
   cases e <;> first | exact goC.ok hb (k _ _ hq) | exact hq
  | false=>
   rw [hh] at hs
   simp only [cond_false,Option.map_eq_some_iff] at hs
   obtain ⟨⟨a',b'⟩,hs',he⟩:=hs
   simp only [Prod.mk.injEq] at he
   obtain ⟨rfl,rfl⟩:=he
   have ha2 : okD N x = true ∧ okD N a' = true:=by simpa [okD] using ha
   have h2 : goC F N [] x (Zb9 (goC F N [] a' (Zb9 R Q)) (Zb9 R Q)) ρ w:=by
    unfold goC at h
    rw [ZnK] at h
    exact h
   refine WC.seq ((goC.ok ha2.1 h2).mono fun e ρ w hq=>?_)
   cases e <;> first | exact ihy hs' ha2.2 hb hq k | exact hq
 | _=>intro a b ρ w hs; simp [ZfT] at hs
theorem Zkx {f : FuncId} {fn : Func} {c a b : Code} {args : Array Value} {E : Ending → World → Prop} (F : FTab P) (id : Nat) (R : Env → World → Prop)
  (hf : P.funcs[f]? = some fn) (hb : fn.body = some c) (hle : Nat.ble args.size fn.ntmps = true) (hs : ZfT id c = some (a,b))
  (h : goC F fn.ntmps [] a (Zb9 R (Zod fn.results.toList E)) (fun t=>args.getD t undef) w) (k : ∀ ρ w,R ρ w → goC F fn.ntmps [] b (Zod fn.results.toList E) ρ w)
  (ha : okD fn.ntmps a = true:=by kernel_rfl) (hb2 : okD fn.ntmps b = true:=by kernel_rfl) : Calls P f args w E:=by
 refine Zb5 (N:=fn.ntmps) hf hb rfl hle ((ZoO F hs ha hb2 h k).mono fun e ρ w hq=>?_)
 cases e with
 | normal=>exact hq.h
 | ret=>exact hq.h
 | _=>exact hq.elim
end
end Go.Civ
namespace Go.Civ
open Go.RowKit
set_option linter.unusedVariables false
def YJ {α : Type} (f : α → Int → Bool × Int) : List α → Int → Bool × Int
 | [],m=>(true,m)
 | x :: r,m=>if (f x m).1 then YJ f r (f x m).2 else (false,(f x m).2)
def Zdb {α : Type} (f : α → Int → Bool × Int) : List α → Int → Int → Int
 | [],_,_=>-1
 | x :: r,m,i=>if (f x m).1 then Zdb f r (f x m).2 (i + 1) else i
theorem Zbn {α : Type} {f : α → Int → Bool × Int} {x : α} {r : List α} {m : Int} : YJ f (x :: r) m = if (f x m).1 then YJ f r (f x m).2 else (false,(f x m).2):=rfl
theorem ZfV {α : Type} {f : α → Int → Bool × Int} {x : α} {r : List α} {m i : Int} : Zdb f (x :: r) m i = if (f x m).1 then Zdb f r (f x m).2 (i + 1) else i:=rfl
section
variable {α : Type} {f : α → Int → Bool × Int} {l : List α} {x : α} {k : Nat} {n m : Int}
theorem ZgW : ∀ {a b : List α} {n : Int},(YJ f a n).1 = true → YJ f (a ++ b) n = YJ f b (YJ f a n).2
 | [],b,n,_=>rfl
 | y :: a,b,n,h=>by
  rw [List.cons_append]
  rw [Zbn] at h
  rw [Zbn,Zbn]
  split at h
  ·rename_i q; rw [if_pos q,if_pos q]; exact ZgW h
  ·cases h
theorem ZgX : ∀ {a b : List α} {n i : Int},(YJ f a n).1 = true → Zdb f (a ++ b) n i = Zdb f b (YJ f a n).2 (i + a.length)
 | [],b,n,i,_=>by simp [YJ]
 | y :: a,b,n,i,h=>by
  rw [List.cons_append]
  rw [Zbn] at h
  rw [Zbn,ZfV]
  split at h
  ·rename_i q
   rw [if_pos q,if_pos q,ZgX h]
   congr 1
   simp only [List.length_cons]; omega
  ·cases h
theorem Zik : ∀ {l : List α} {n i : Int},0 ≤ i → decide (0 ≤ Zdb f l n i) = !(YJ f l n).1
 | [],n,i,_=>rfl
 | y :: l,n,i,h=>by
  rw [ZfV,Zbn]
  by_cases q : (f y n).1 = true
  ·rw [if_pos q,if_pos q]; exact Zik (by omega)
  ·rw [if_neg q,if_neg q]; exact decide_eq_true h
theorem ZnV (h : (YJ f (l.take k) n).1 = true) (hm : m = (YJ f (l.take k) n).2) (hx : l[k]? = some x) (h2 : (!(f x m).1) = false) : (YJ f (l.take (k + 1)) n).1 = true ∧ (f x m).2 = (YJ f (l.take (k + 1)) n).2:=by
 subst hm
 have e : l.take (k + 1) = l.take k ++ [x]:=by rw [List.take_add_one,hx]; rfl
 rw [e,ZgW h]
 have h3 : (f x (YJ f (l.take k) n).2).1 = true:=by simpa using h2
 simp only [YJ]
 rw [if_pos h3]; exact ⟨rfl,rfl⟩
theorem Zfz (h : (YJ f (l.take k) n).1 = true) (hm : m = (YJ f (l.take k) n).2) (hx : l[k]? = some x) (h2 : (!(f x m).1) = true) : (k : Int) = Zdb f l n 0 ∧ (f x m).2 = (YJ f l n).2:=by
 subst hm
 obtain ⟨hk,hk2⟩:=List.getElem?_eq_some_iff.1 hx
 have e : l = l.take k ++ x :: l.drop (k + 1):=by rw [← hk2,← List.drop_eq_getElem_cons hk,List.take_append_drop]
 have h3 : ¬ (f x (YJ f (l.take k) n).2).1 = true:=by simpa using h2
 have e1:=ZgX (b:=x :: l.drop (k + 1)) (i:=0) h
 have e2:=ZgW (b:=x :: l.drop (k + 1)) h
 rw [← e] at e1 e2
 rw [e1,e2]
 rw [ZfV,Zbn,if_neg h3,if_neg h3]
 refine ⟨?_,rfl⟩
 rw [List.length_take]; omega
theorem Zgu (h : (YJ f (l.take k) n).1 = true) (hm : m = (YJ f (l.take k) n).2) (hk : l.length ≤ k) : (-1 : Int) = Zdb f l n 0 ∧ m = (YJ f l n).2:=by
 rw [List.take_of_length_le hk] at h hm
 have e1:=ZgX (b:=[]) (i:=0) h
 rw [List.append_nil] at e1
 rw [e1]; exact ⟨rfl,hm⟩
end
end Go.Civ
