/- Lemmas. -/
import Derived.Test.YtecneejegecmhaaGreatDoorK11
set_option linter.unusedVariables false
set_option linter.unusedSimpArgs false
set_option linter.unnecessarySimpa false
namespace Go.Civ
open Go.RowKit
set_option linter.unusedVariables false
def Zv6 (_ : GH) (v : Value) (x : Str) : Prop:=v = Za x ∧ x.length ≤ reach
def ZcM (c : Cond) : Bool:=decide (c.kind = 1) || decide (c.kind = 2)
def Zbp (c : Cond) : Bool:=YB c.col && (decide (c.oth = []) || YB c.oth)
def qfF : Nat → Cond → Bool
 | 0,_=>true
 | n + 1,c=>if ZcM c then Zbp c else c.l.all (qfF n)
def QA : Nat → Cond → Bool
 | 0,_=>true
 | n + 1,c=>(!ZcM c || Zbp c) && c.l.all (QA n)
section
variable {c x : Cond} {n k : Nat} {l : List Cond}
theorem ZfF (h : c.kind = 1 ∨ c.kind = 2) : ZcM c = true:=by unfold ZcM; rcases h with h | h <;> rw [h] <;> rfl
theorem ZoV (h : ¬ c.kind = 1) (h2 : ¬ c.kind = 2) : ZcM c = false:=by unfold ZcM; rw [decide_eq_false h,decide_eq_false h2]; rfl
theorem Zv7 (hk : c.kind = 1 ∨ c.kind = 2) (h : YB c.col = false) : false = qfF (n + 1) c:=by rw [qfF,ZfF hk,if_pos rfl,Zbp,h]; rfl
theorem Zv8 (hk : c.kind = 1 ∨ c.kind = 2) (h : YB c.col = true) (h2 : c.oth = []) : true = qfF (n + 1) c:=by rw [qfF,ZfF hk,if_pos rfl,Zbp,h,decide_eq_true h2]; rfl
theorem Zv9 (hk : c.kind = 1 ∨ c.kind = 2) (h : YB c.col = true) (h2 : ¬ c.oth = []) : YB c.oth = qfF (n + 1) c:=by rw [qfF,ZfF hk,if_pos rfl,Zbp,h,decide_eq_false h2]; simp
theorem ZvA (P : Cond → Bool) : ∀ l : List Cond,(!l.any fun x=>!P x) = l.all P
 | []=>rfl
 | x :: l=>by rw [List.any_cons,List.all_cons,← ZvA P l]; cases P x <;> simp
theorem Z04 (h1 : ¬ c.kind = 1) (h2 : ¬ c.kind = 2) : (!c.l.any fun x=>!qfF n x) = qfF (n + 1) c:=by rw [qfF,ZoV h1 h2,ZvA]; rfl
theorem ZvB (hk : c.kind = 1 ∨ c.kind = 2) (h : YB c.col = false) : false = QA (n + 1) c:=by rw [QA,ZfF hk,Zbp,h]; rfl
theorem ZvC (hk : c.kind = 1 ∨ c.kind = 2) (h2 : ¬ c.oth = []) (h : YB c.oth = false) : false = QA (n + 1) c:=by rw [QA,ZfF hk,Zbp,h,decide_eq_false h2]; simp
theorem ZkQ (h : c.l[k]? = some x) (h2 : QA n x = false) : false = QA (n + 1) c:=by
 have : c.l.all (QA n) = false:=List.all_eq_false.2 ⟨x,List.mem_of_getElem? h,by rw [h2]; simp⟩
 rw [QA,this,Bool.and_false]
theorem ZkR (hh : (!ZcM c || Zbp c) = true) (h : ∀ j,j < k → ∀ x,c.l[j]? = some x → QA n x = true) (hk : c.l.length ≤ k) : true = QA (n + 1) c:=by
 have : c.l.all (QA n) = true:=List.all_eq_true.2 fun x hx=>by
  obtain ⟨i,hi⟩:=List.getElem?_of_mem hx
  exact h i (Nat.lt_of_lt_of_le (List.getElem?_eq_some_iff.1 hi).1 hk) x hi
 rw [QA,this,hh]; rfl
theorem Z05 (h1 : ¬ c.kind = 1) (h2 : ¬ c.kind = 2) : (!ZcM c || Zbp c) = true:=by rw [ZoV h1 h2]; rfl
theorem ZvD (h : YB c.col = true) (h2 : c.oth = []) : (!ZcM c || Zbp c) = true:=by rw [Zbp,h,decide_eq_true h2]; simp
theorem ZvE (h : YB c.col = true) (h2 : YB c.oth = true) : (!ZcM c || Zbp c) = true:=by rw [Zbp,h,h2]; simp
theorem ZkS {P R : Cond → Bool} : ∀ {l : List Cond},(∀ x ∈ l,P x = R x) → l.all P = l.all R
 | [],_=>rfl
 | x :: l,h=>by rw [List.all_cons,List.all_cons,h x (List.mem_cons_self),ZkS fun y hy=>h y (List.mem_cons_of_mem _ hy)]
theorem Zsa : ∀ {n : Nat} {c : Cond},QU n c → qfF n c = QA n c
 | 0,c,h=>h.elim
 | n + 1,c,⟨h1,h2⟩=>by
  rw [qfF,QA]
  cases e : ZcM c with
  | false=>
   simp only [Bool.false_eq_true,if_false,Bool.not_false,Bool.true_or,Bool.true_and]
   exact ZkS fun x hx=>Zsa (h2 x hx)
  | true=>
   have hl : c.l = []:=by
    have hc : ZE c = true:=by unfold ZcM at e; unfold ZE; simpa using e
    unfold Zw at h1
    rw [hc] at h1
    simp at h1
    exact h1.1.2
   rw [hl]; simp
theorem ZjL {p : Prop} [Decidable p] {a b : Int} (ha : a ≠ 1) (hb : b ≠ 1) : (if p then a else b) ≠ 1:=by
 split
 ·exact ha
 ·exact hb
theorem ZoW {p : Bool} {a b : Int} (ha : a ≠ 1) (hb : b ≠ 1) : (bif p then a else b) ≠ 1:=by
 cases p
 ·exact hb
 ·exact ha
theorem ZtV {l : List Col} : ZaF c l ≠ 1:=by
 unfold ZaF
 exact ZoW (by omega) (ZjL (by omega) (ZoW (by omega) (ZjL (by omega) (by omega))))
theorem Zjm {f : Cond → Int} (h : ∀ x,f x ≠ 1) : ∀ r : List Cond,Zam f r ≠ 1
 | []=>by rw [Zam]; omega
 | x :: r=>by rw [Zam]; exact ZjL (h x) (Zjm h r)
theorem ZkT : ∀ {n : Nat} {c : Cond} {l : List Col},XL n c l ≠ 1
 | 0,_,_=>by rw [XL]; omega
 | n + 1,c,l=>by rw [XL]; exact ZjL ZtV (Zjm (fun x=>ZkT) _)
def ZaI (n : Nat) (c : Cond) : Bool:=decide (Yi n c 1 ≤ 60) && QA n c
theorem Zsb : Q3 n c [] = 1 ↔ ¬ Yi n c 1 ≤ 60:=by
 unfold Q3
 constructor
 ·intro h hn; rw [if_pos hn] at h; exact ZkT h
 ·intro h; rw [if_neg h]
theorem Z06 (h : ¬ Yi n c 1 ≤ 60) : false = ZaI n c:=by unfold ZaI; rw [decide_eq_false h]; rfl
theorem Z07 (h : Yi n c 1 ≤ 60) : QA n c = ZaI n c:=by unfold ZaI; rw [decide_eq_true h]; rfl
theorem ZxW (h : Q3 n c [] = 1) : false = ZaI n c:=by unfold ZaI; rw [decide_eq_false (Zsb.1 h)]; rfl
theorem ZxX (h : ¬ Q3 n c [] = 1) : qfF n c = ZaI n c:=by
 have hn : Yi n c 1 ≤ 60:=Decidable.byContradiction fun e=>h (Zsb.2 e)
 unfold ZaI; rw [decide_eq_true hn,Zsa (Zi1 (by decide) (by decide) hn)]; rfl
end
theorem ZaR {v : Val} : v = zeroV ↔ v.k = 0 ∧ v.n = 0 ∧ v.s = []:=by cases v; unfold zeroV; simp
theorem ZO {p : Span} : p = ⟨0,0⟩ ↔ p.a = 0 ∧ p.b = 0:=by cases p; simp
def YU (c : Cond) : Bool:=decide (c.kind = 0) && (decide (c.col = []) && (decide (c.oth = []) && (decide (c.v = zeroV) && decide ((c.l.length : Int) = 0))))
def Zx (q : Query) : Bool:=decide (q.table = []) && (decide ((q.cols.length : Int) = 0) && (decide ((q.names.length : Int) = 0) && (YU q.cond && (decide (q.rel = 0) && (decide (q.fn = 0) && decide (q.span = ⟨0,0⟩))))))
theorem Z3 {α : Type} (P : α → Bool) : ∀ l : List α,(l.any fun x=>!P x) = !l.all P
 | []=>rfl
 | x :: l=>by rw [List.any_cons,List.all_cons,Z3 P l]; cases P x <;> simp
theorem Z6 : YU noC = true:=by decide
def Xd (n : Nat) (q : Query) : Bool:=
 if q.kind = 1 then YB q.table && (decide ((q.l.length : Int) = 0) && Zx ⟨0,[],q.cols,q.names,q.cond,q.rel,q.fn,q.span,[]⟩)
 else if q.kind = 2 then ZaI n q.cond && (decide ((q.l.length : Int) = 1) && Zx ⟨0,q.table,q.cols,q.names,noC,q.rel,q.fn,q.span,[]⟩)
 else if q.kind = 3 then (decide (0 < (q.cols.length : Int)) && QF q.cols) && (decide ((q.l.length : Int) = 1) && Zx ⟨0,q.table,[],q.names,q.cond,q.rel,q.fn,q.span,[]⟩)
 else if q.kind = 4 then (decide (0 < (q.cols.length : Int)) && (QF q.cols && (decide ((q.names.length : Int) = q.cols.length) && q.names.all YB))) && (decide ((q.l.length : Int) = 1) && Zx ⟨0,q.table,[],[],q.cond,q.rel,q.fn,q.span,[]⟩)
 else if q.kind = 5 ∨ q.kind = 6 ∨ q.kind = 7 then decide ((q.l.length : Int) = 2) && Zx ⟨0,q.table,q.cols,q.names,q.cond,q.rel,q.fn,q.span,[]⟩
 else if q.kind = 8 then ZF q.span && (decide ((q.l.length : Int) = 1) && Zx ⟨0,q.table,q.cols,q.names,q.cond,q.rel,q.fn,⟨0,0⟩,[]⟩)
 else if q.kind = 9 then (QF q.cols && (decide (1 ≤ q.fn) && (decide (q.fn ≤ 4) && (decide ((q.names.length : Int) = if q.fn = 1 then 1 else 2) && q.names.all YB)))) && (decide ((q.l.length : Int) = 1) && Zx ⟨0,q.table,[],[],q.cond,q.rel,0,q.span,[]⟩)
 else if q.kind = 10 then (decide (1 ≤ q.rel) && decide (q.rel ≤ 8191)) && (decide ((q.l.length : Int) = 2) && Zx ⟨0,q.table,q.cols,q.names,q.cond,0,q.fn,q.span,[]⟩)
 else false
section
variable {n : Nat} {q : Query} {x y : Str} {k : Nat}
theorem Zgs (h : q.kind = 1) : Xd n q = (YB q.table && (decide ((q.l.length : Int) = 0) && Zx ⟨0,[],q.cols,q.names,q.cond,q.rel,q.fn,q.span,[]⟩)):=by unfold Xd; rw [if_pos h]
theorem ZeR (h : q.kind = 2) : Xd n q = (ZaI n q.cond && (decide ((q.l.length : Int) = 1) && Zx ⟨0,q.table,q.cols,q.names,noC,q.rel,q.fn,q.span,[]⟩)):=by unfold Xd; rw [if_neg (by omega),if_pos h]
theorem ZdK (h : q.kind = 3) : Xd n q = ((decide (0 < (q.cols.length : Int)) && QF q.cols) && (decide ((q.l.length : Int) = 1) && Zx ⟨0,q.table,[],q.names,q.cond,q.rel,q.fn,q.span,[]⟩)):=by unfold Xd; rw [if_neg (by omega),if_neg (by omega),if_pos h]
theorem ZaV (h : q.kind = 4) : Xd n q = ((decide (0 < (q.cols.length : Int)) && (QF q.cols && (decide ((q.names.length : Int) = q.cols.length) && q.names.all YB))) && (decide ((q.l.length : Int) = 1) && Zx ⟨0,q.table,[],[],q.cond,q.rel,q.fn,q.span,[]⟩)):=by unfold Xd; rw [if_neg (by omega),if_neg (by omega),if_neg (by omega),if_pos h]
theorem ZaJ (h : q.kind = 5 ∨ q.kind = 6 ∨ q.kind = 7) : Xd n q = (decide ((q.l.length : Int) = 2) && Zx ⟨0,q.table,q.cols,q.names,q.cond,q.rel,q.fn,q.span,[]⟩):=by unfold Xd; rw [if_neg (by omega),if_neg (by omega),if_neg (by omega),if_neg (by omega),if_pos h]
theorem Zcd (h : q.kind = 8) : Xd n q = (ZF q.span && (decide ((q.l.length : Int) = 1) && Zx ⟨0,q.table,q.cols,q.names,q.cond,q.rel,q.fn,⟨0,0⟩,[]⟩)):=by unfold Xd; rw [if_neg (by omega),if_neg (by omega),if_neg (by omega),if_neg (by omega),if_neg (by omega),if_pos h]
theorem Qo (h : q.kind = 9) : Xd n q = ((QF q.cols && (decide (1 ≤ q.fn) && (decide (q.fn ≤ 4) && (decide ((q.names.length : Int) = if q.fn = 1 then 1 else 2) && q.names.all YB)))) && (decide ((q.l.length : Int) = 1) && Zx ⟨0,q.table,[],[],q.cond,q.rel,0,q.span,[]⟩)):=by unfold Xd; rw [if_neg (by omega),if_neg (by omega),if_neg (by omega),if_neg (by omega),if_neg (by omega),if_neg (by omega),if_pos h]
theorem Zce (h : q.kind = 10) : Xd n q = ((decide (1 ≤ q.rel) && decide (q.rel ≤ 8191)) && (decide ((q.l.length : Int) = 2) && Zx ⟨0,q.table,q.cols,q.names,q.cond,0,q.fn,q.span,[]⟩)):=by unfold Xd; rw [if_neg (by omega),if_neg (by omega),if_neg (by omega),if_neg (by omega),if_neg (by omega),if_neg (by omega),if_neg (by omega),if_pos h]
theorem Zgt (h1 : ¬ q.kind = 1) (h2 : ¬ q.kind = 2) (h3 : ¬ q.kind = 3) (h4 : ¬ q.kind = 4) (h5 : ¬ q.kind = 5) (h6 : ¬ q.kind = 6) (h7 : ¬ q.kind = 7) (h8 : ¬ q.kind = 8) (h9 : ¬ q.kind = 9) (h10 : ¬ q.kind = 10) : Xd n q = false:=by
 unfold Xd; rw [if_neg h1,if_neg h2,if_neg h3,if_neg h4,if_neg (by omega),if_neg h8,if_neg h9,if_neg h10]
theorem Z08 (h : q.names[0]? = some x) (hl : (q.names.length : Int) = 1) : q.names.all YB = YB x:=by
 match hq : q.names,h,hl with
 | [a],h,_=>obtain rfl:=Option.some.inj h; simp
theorem Z09 (h : q.names[0]? = some x) (h2 : q.names[1]? = some y) (hl : (q.names.length : Int) = 2) : q.names.all YB = (YB x && YB y):=by
 match hq : q.names,h,h2,hl with
 | [a,b],h,h2,_=>obtain rfl:=Option.some.inj h; obtain rfl:=Option.some.inj h2; simp
theorem ZkU (h : (q.names.any fun x=>!YB x) = true) : q.names.all YB = false:=by rw [Z3] at h; simpa using h
theorem Zsc (h : q.names[k]? = some x) (hx : YB x = false) : q.names.all YB = false:=List.all_eq_false.2 ⟨x,List.mem_of_getElem? h,by rw [hx]; simp⟩
theorem ZvF (h : ∀ j,j < k → ∀ x,q.names[j]? = some x → YB x = true) (hk : q.names.length ≤ k) : q.names.all YB = true:=List.all_eq_true.2 fun x hx=>by
 obtain ⟨i,hi⟩:=List.getElem?_of_mem hx
 exact h i (Nat.lt_of_lt_of_le (List.getElem?_eq_some_iff.1 hi).1 hk) x hi
theorem ZvG (h : ¬ q.table = []) : Zx q = false:=by unfold Zx; rw [decide_eq_false h]; rfl
theorem Z0A (h : 0 < (q.cols.length : Int)) : Zx q = false:=by unfold Zx; rw [decide_eq_false (show ¬ (q.cols.length : Int) = 0 by omega)]; simp
theorem Z0B (h : 0 < (q.names.length : Int)) : Zx q = false:=by unfold Zx; rw [decide_eq_false (show ¬ (q.names.length : Int) = 0 by omega)]; simp
theorem Z0C (h : YU q.cond = false) : Zx q = false:=by unfold Zx; rw [h]; simp
theorem Z0D (h : ¬ q.rel = 0) : Zx q = false:=by unfold Zx; rw [decide_eq_false h]; simp
theorem Z0E (h : ¬ q.fn = 0) : Zx q = false:=by unfold Zx; rw [decide_eq_false h]; simp
theorem Z0F (h : ¬ q.span.a = 0 ∨ ¬ q.span.b = 0) : Zx q = false:=by
 unfold Zx; rw [decide_eq_false (show ¬ q.span = ⟨0,0⟩ from fun e=>by rw [e] at h; simp at h)]; simp
theorem ZeS {a b : Bool} : (a && (b && false)) = false:=by simp
theorem ZcW (h : ¬ q.kind = 1) (h2 : ¬ q.table = []) : false = Xd n q:=by
 unfold Xd
 simp only [ZvG h2,ZvG (q:=⟨0,q.table,_,_,_,_,_,_,_⟩) h2,ZeS,Bool.and_false,if_neg h,ite_self]
theorem ZeT (h : q.kind ≠ 3 ∧ q.kind ≠ 4 ∧ q.kind ≠ 9) (h2 : 0 < (q.cols.length : Int)) : false = Xd n q:=by
 unfold Xd
 simp only [Z0A (q:=⟨0,_,q.cols,_,_,_,_,_,_⟩) h2,ZeS,Bool.and_false,if_neg h.1,if_neg h.2.1,if_neg h.2.2,ite_self]
theorem ZdL (h : q.kind ≠ 4 ∧ q.kind ≠ 9) (h2 : 0 < (q.names.length : Int)) : false = Xd n q:=by
 unfold Xd
 simp only [Z0B (q:=⟨0,_,_,q.names,_,_,_,_,_⟩) h2,ZeS,Bool.and_false,if_neg h.1,if_neg h.2,ite_self]
theorem ZcX (h : ¬ q.kind = 2) (h2 : YU q.cond = false) : false = Xd n q:=by
 unfold Xd
 simp only [Z0C (q:=⟨0,_,_,_,q.cond,_,_,_,_⟩) h2,ZeS,Bool.and_false,if_neg h,ite_self]
theorem ZcY (h : ¬ q.kind = 10) (h2 : ¬ q.rel = 0) : false = Xd n q:=by
 unfold Xd
 simp only [Z0D (q:=⟨0,_,_,_,_,q.rel,_,_,_⟩) h2,ZeS,Bool.and_false,if_neg h,ite_self]
theorem ZcZ (h : ¬ q.kind = 9) (h2 : ¬ q.fn = 0) : false = Xd n q:=by
 unfold Xd
 simp only [Z0E (q:=⟨0,_,_,_,_,_,q.fn,_,_⟩) h2,ZeS,Bool.and_false,if_neg h,ite_self]
theorem Zag (h : ¬ q.kind = 8) (h2 : ¬ q.span.a = 0 ∨ ¬ q.span.b = 0) : false = Xd n q:=by
 unfold Xd
 simp only [Z0F (q:=⟨0,_,_,_,_,_,_,q.span,_⟩) h2,ZeS,Bool.and_false,if_neg h,ite_self]
theorem Znp {m : Int} (hm : (q.kind = 1 ∧ m = 0) ∨ ((q.kind = 2 ∨ q.kind = 3 ∨ q.kind = 4 ∨ q.kind = 8 ∨ q.kind = 9) ∧ m = 1) ∨ ((q.kind = 5 ∨ q.kind = 6 ∨ q.kind = 7 ∨ q.kind = 10) ∧ m = 2)) (h : ¬ (q.l.length : Int) = m) : false = Xd n q:=by
 rcases hm with ⟨hk,rfl⟩ | ⟨hk | hk | hk | hk | hk,rfl⟩ | ⟨hk | hk | hk | hk,rfl⟩
 ·rw [Zgs hk,decide_eq_false h]; simp
 ·rw [ZeR hk,decide_eq_false h]; simp
 ·rw [ZdK hk,decide_eq_false h]; simp
 ·rw [ZaV hk,decide_eq_false h]; simp
 ·rw [Zcd hk,decide_eq_false h]; simp
 ·rw [Qo hk,decide_eq_false h]; simp
 ·rw [ZaJ (.inl hk),decide_eq_false h]; simp
 ·rw [ZaJ (.inr (.inl hk)),decide_eq_false h]; simp
 ·rw [ZaJ (.inr (.inr hk)),decide_eq_false h]; simp
 ·rw [Zce hk,decide_eq_false h]; simp
theorem ZxY (hk : q.kind = 4) (hl : (q.l.length : Int) = 1) (ht : q.table = []) (hz : YU q.cond = true) (hr : q.rel = 0) (hf : q.fn = 0) (ha : q.span.a = 0) (hb : q.span.b = 0) (hc : ¬ (q.cols.length : Int) = 0) (hn : (q.names.length : Int) = q.cols.length) (hq : QF q.cols = true) (h : q.names.all YB = true) : true = Xd n q:=by
 rw [ZaV hk,h,hq,decide_eq_true hn,decide_eq_true hl,decide_eq_true (show 0 < (q.cols.length : Int) by omega)]
 unfold Zx
 rw [ht,hz,hr,hf,decide_eq_true (show q.span = ⟨0,0⟩ from ZO.2 ⟨ha,hb⟩)]; simp
end
end Go.Civ
namespace Go.Civ
open Go.RowKit
set_option linter.unusedVariables false
section
variable {P : Program} {Q : Exit → Env → World → Prop} {ρ : Env} {w : World} {ops : Array Oper} {rest : List Oper} {K : Env → World → Prop}
variable {d : Nat} {ty : TypeId} {pos : String} {af : Array Edge} {g : Option (Nat × Bool)} {G : GH}
end
def Q4 (l : List Span) (n : Nat) : Int:=if n = 2 * l.length then 8796093022208 else match l[n / 2]? with | some s=>if n % 2 = 0 then s.a else s.b | none=>0
theorem ZfG {l : List Span} {n : Nat} (h : n = 2 * l.length) : Q4 l n = 8796093022208:=by unfold Q4; rw [if_pos h]
structure Behind (l : List Span) (n : Nat) (T : Int) : Prop where
 le : n ≤ 2 * l.length
 lo : ∀ (j : Nat) s,l[j]? = some s → (2 * j < n → s.a ≤ T) ∧ (2 * j + 1 < n → s.b ≤ T)
 hi : ∀ (j : Nat) s,l[j]? = some s → (n ≤ 2 * j → T < s.a) ∧ (n ≤ 2 * j + 1 → T < s.b)
theorem Behind.start {l : List Span} {T : Int} (h : ∀ s ∈ l,T < s.a ∧ T < s.b) : Behind l 0 T:=
 ⟨by omega,fun j s hs=>⟨fun h=>by omega,fun h=>by omega⟩,fun j s hs=>⟨fun _=>(h s (List.mem_of_getElem? hs)).1,fun _=>(h s (List.mem_of_getElem? hs)).2⟩⟩
theorem Behind.cover {l : List Span} {n : Nat} {T : Int} (h : Behind l n T) : cover l T ↔ n % 2 = 1:=by
 constructor
 ·rintro ⟨s,hs,h1,h2⟩
  obtain ⟨j,hj,rfl⟩:=List.mem_iff_getElem.1 hs
  have e:=List.getElem?_eq_getElem hj
  have a1:=(h.hi j _ e).1
  have a2:=(h.lo j _ e).2
  have b1 : ¬ n ≤ 2 * j:=fun q=>by have:=a1 q; omega
  have b2 : ¬ 2 * j + 1 < n:=fun q=>by have:=a2 q; omega
  omega
 ·intro hn
  have hl:=h.le
  have hj : n / 2 < l.length:=by omega
  have e:=List.getElem?_eq_getElem hj
  exact ⟨_,List.getElem_mem hj,(h.lo _ _ e).1 (by omega),(h.hi _ _ e).2 (by omega)⟩
theorem Zda {l : List Span} {n : Nat} (h : n < 2 * l.length) : ∃ s,l[n / 2]? = some s ∧ Q4 l n = if n % 2 = 0 then s.a else s.b:=by
 have hj : n / 2 < l.length:=by omega
 refine ⟨_,List.getElem?_eq_getElem hj,?_⟩
 unfold Q4; rw [if_neg (by omega),List.getElem?_eq_getElem hj]
theorem ZkZ {l : List Span} {n : Nat} (h : n < 2 * l.length) (hv : ∀ s ∈ l,s.a < 8796093022208 ∧ s.b < 8796093022208) : Q4 l n < 8796093022208:=by
 obtain ⟨s,hs,e⟩:=Zda h
 have:=hv s (List.mem_of_getElem? hs)
 rw [e]; split <;> omega
theorem Behind.gt {l : List Span} {n : Nat} {T : Int} (h : Behind l n T) (hT : T < 8796093022208) : T < Q4 l n:=by
 by_cases hn : n = 2 * l.length
 ·rw [ZfG hn]; exact hT
 ·have hl:=h.le
  obtain ⟨s,hs,e⟩:=Zda (l:=l) (n:=n) (by omega)
  rw [e]
  have:=h.hi _ _ hs
  split
  ·exact this.1 (by omega)
  ·exact this.2 (by omega)
theorem Zjp {l : List Span} {n : Nat} (hC : Can l) (hn : n < 2 * l.length) (j : Nat) (s : Span) (hs : l[j]? = some s) : (n ≤ 2 * j → Q4 l n ≤ s.a) ∧ (n ≤ 2 * j + 1 → Q4 l n ≤ s.b) ∧ (n < 2 * j → Q4 l n < s.a) ∧ (n < 2 * j + 1 → Q4 l n < s.b):=by
 obtain ⟨s0,h0,e⟩:=Zda hn
 have p0:=hC.pos s0 (List.mem_of_getElem? h0)
 have p1:=hC.pos s (List.mem_of_getElem? hs)
 have ap : n / 2 < j → s0.b < s.a:=fun hlt=>by
  obtain ⟨q1,rfl⟩:=List.getElem?_eq_some_iff.1 h0
  obtain ⟨q2,rfl⟩:=List.getElem?_eq_some_iff.1 hs
  exact List.pairwise_iff_getElem.1 hC.apart _ _ q1 q2 hlt
 have eq : n / 2 = j → s0 = s:=fun he=>by rw [he] at h0; exact Option.some.inj (h0.symm.trans hs)
 rw [e]
 by_cases hj : n / 2 = j
 ·have:=eq hj; subst this
  refine ⟨fun q=>?_,fun q=>?_,fun q=>?_,fun q=>?_⟩ <;> split <;> omega
 ·refine ⟨fun q=>?_,fun q=>?_,fun q=>?_,fun q=>?_⟩ <;> (have:=ap (by omega); split <;> omega)
theorem Behind.up {l : List Span} {n : Nat} {T T' : Int} (h : Behind l n T) (hC : Can l) (hT : T ≤ T') (hlt : T' < Q4 l n ∨ n = 2 * l.length) : Behind l n T':=by
 refine ⟨h.le,fun j s hs=>⟨fun q=>Int.le_trans ((h.lo j s hs).1 q) hT,fun q=>Int.le_trans ((h.lo j s hs).2 q) hT⟩,fun j s hs=>?_⟩
 have hj:=(List.getElem?_eq_some_iff.1 hs).1
 by_cases hn : n = 2 * l.length
 ·exact ⟨fun q=>by omega,fun q=>by omega⟩
 ·have hl:=h.le
  have hm:=Zjp hC (n:=n) (by omega) j s hs
  have hlt' : T' < Q4 l n:=by rcases hlt with h1 | h1 <;> omega
  exact ⟨fun q=>by have:=hm.1 q; omega,fun q=>by have:=hm.2.1 q; omega⟩
theorem Behind.step {l : List Span} {n : Nat} {T T' : Int} (h : Behind l n T) (hC : Can l) (hT : T ≤ T') (hn : n < 2 * l.length) (he : Q4 l n = T') : Behind l (n + 1) T':=by
 refine ⟨by omega,fun j s hs=>?_,fun j s hs=>?_⟩
 ·obtain ⟨s0,h0,e⟩:=Zda hn
  have eq : n / 2 = j → s0 = s:=fun he=>by rw [he] at h0; exact Option.some.inj (h0.symm.trans hs)
  constructor
  ·intro q
   by_cases hq : 2 * j < n
   ·exact Int.le_trans ((h.lo j s hs).1 hq) hT
   ·have:=eq (by omega); subst this
    rw [if_pos (by omega)] at e; omega
  ·intro q
   by_cases hq : 2 * j + 1 < n
   ·exact Int.le_trans ((h.lo j s hs).2 hq) hT
   ·have:=eq (by omega); subst this
    rw [if_neg (by omega)] at e; omega
 ·have hm:=Zjp hC hn j s hs
  exact ⟨fun q=>by have:=hm.2.2.1 (by omega); omega,fun q=>by have:=hm.2.2.2 (by omega); omega⟩
def Ze3 (i k : Nat) : Bool:=decide (((i % 2 : Nat) : Int) = 1) && !decide (((k % 2 : Nat) : Int) = 1)
structure Sweep (a b : List Span) (i k : Nat) (ins : Bool) (fr : Int) (out : List Span) (T : Int) : Prop where
 ba : Behind a i T
 bb : Behind b k T
 st : ins = Ze3 i k
 can : Can out
 top : ∀ s ∈ out,s.b ≤ fr ∧ (ins = true → s.b < fr)
 frT : fr ≤ T ∨ (ins = false ∧ out = [])
 cov : ∀ x,x < T → ((cover out x ∨ (ins = true ∧ fr ≤ x)) ↔ (cover a x ∧ ¬ cover b x))
 len : 2 * out.length + (if ins then 1 else 0) ≤ i + k
 tb : T < 8796093022208
 bds : -8796093022208 ≤ T ∧ -8796093022208 ≤ fr ∧ fr ≤ 8796093022208
theorem Sweep.start {a b : List Span} (ha : ∀ s ∈ a,Zd9 s = true) (hb : ∀ s ∈ b,Zd9 s = true) : Sweep a b 0 0 false 0 [] (-8796093022208):=by
 have sv : ∀ s : Span,Zd9 s = true → -8796093022208 < s.a ∧ -8796093022208 < s.b:=fun s hs=>by
  unfold Zd9 ZjA at hs; simp at hs; omega
 refine ⟨Behind.start fun s hs=>sv s (ha s hs),Behind.start fun s hs=>sv s (hb s hs),rfl,⟨List.Pairwise.nil,by simp⟩,by simp, .inr ⟨rfl,rfl⟩,fun x hx=>?_,by simp,by decide,by decide⟩
 constructor
 ·rintro (⟨_,h,_⟩ | h)
  ·simp at h
  ·simp at h
 ·rintro ⟨⟨s,hs,h1,h2⟩,_⟩
  have:=sv s (ha s hs); omega
structure Adv (l : List Span) (i i' : Nat) (t : Int) : Prop where
 ok : (Q4 l i = t ∧ i' = i + 1) ∨ (Q4 l i ≠ t ∧ i' = i)
theorem Adv.yes {l : List Span} {i : Nat} {t : Int} (h : Q4 l i = t) : Adv l i (i + 1) t:=⟨.inl ⟨h,rfl⟩⟩
theorem Adv.no {l : List Span} {i : Nat} {t : Int} (h : Q4 l i ≠ t) : Adv l i i t:=⟨.inr ⟨h,rfl⟩⟩
structure Next (a b : List Span) (i k i' k' : Nat) (ins : Bool) (fr : Int) (out : List Span) (T t : Int) : Prop where
 ba : Behind a i' t
 bb : Behind b k' t
 lt : T < t
 tb : t < 8796093022208
 adv : i + k < i' + k'
 cov : ∀ x,x < t → ((cover out x ∨ (ins = true ∧ fr ≤ x)) ↔ (cover a x ∧ ¬ cover b x))
theorem Sweep.next {a b : List Span} {i k i' k' : Nat} {ins : Bool} {fr : Int} {out : List Span} {T t : Int} (h : Sweep a b i k ins fr out T)
  (hCa : Can a) (hCb : Can b) (ha : ∀ s ∈ a,Zd9 s = true) (hb : ∀ s ∈ b,Zd9 s = true)
  (ht : t = min (Q4 a i) (Q4 b k)) (hg : i < 2 * a.length ∨ k < 2 * b.length) (hi : Adv a i i' t) (hk : Adv b k k' t) : Next a b i k i' k' ins fr out T t:=by
 have sv : ∀ s : Span,Zd9 s = true → s.a < 8796093022208 ∧ s.b < 8796093022208:=fun s hs=>by
  unfold Zd9 ZjA at hs; simp at hs; omega
 have la:=h.ba.le; have lb:=h.bb.le
 have ga:=h.ba.gt h.tb; have gb:=h.bb.gt h.tb
 have hla : ∀ n,n < 2 * a.length → Q4 a n < 8796093022208:=fun n hn=>ZkZ hn fun s hs=>sv s (ha s hs)
 have hlb : ∀ n,n < 2 * b.length → Q4 b n < 8796093022208:=fun n hn=>ZkZ hn fun s hs=>sv s (hb s hs)
 have tb : t < 8796093022208:=by
  rcases hg with q | q
  ·have:=hla i q; omega
  ·have:=hlb k q; omega
 have hlt : T < t:=by omega
 have na : Q4 a i = t → i < 2 * a.length:=fun q=>by
  rcases Nat.lt_or_ge i (2 * a.length) with c | c
  ·exact c
  ·have:=ZfG (l:=a) (n:=i) (by omega); omega
 have nb : Q4 b k = t → k < 2 * b.length:=fun q=>by
  rcases Nat.lt_or_ge k (2 * b.length) with c | c
  ·exact c
  ·have:=ZfG (l:=b) (n:=k) (by omega); omega
 refine ⟨?_,?_,hlt,tb,?_,fun x hx=>?_⟩
 ·rcases hi.ok with ⟨q,rfl⟩ | ⟨q,rfl⟩
  ·exact h.ba.step hCa (by omega) (na q) q
  ·exact h.ba.up hCa (by omega) (.inl (by omega))
 ·rcases hk.ok with ⟨q,rfl⟩ | ⟨q,rfl⟩
  ·exact h.bb.step hCb (by omega) (nb q) q
  ·exact h.bb.up hCb (by omega) (.inl (by omega))
 ·rcases hi.ok with ⟨q,rfl⟩ | ⟨q,rfl⟩ <;> rcases hk.ok with ⟨q',rfl⟩ | ⟨q',rfl⟩ <;> omega
 ·rcases Int.lt_or_le x T with hxT | hxT
  ·exact h.cov x hxT
  ·have c1:=(h.ba.up hCa hxT (.inl (by omega))).cover
   have c2:=(h.bb.up hCb hxT (.inl (by omega))).cover
   have hst:=h.st
   rw [c1,c2]
   constructor
   ·rintro (⟨s,hs,h1,h2⟩ | ⟨q,_⟩)
    ·have:=(h.top s hs).1
     rcases h.frT with q | ⟨_,q⟩
     ·omega
     ·rw [q] at hs; simp at hs
    ·rw [q] at hst; unfold Ze3 at hst; simp at hst; omega
   ·intro q
    right
    have e : ins = true:=by rw [hst]; unfold Ze3; simp; omega
    refine ⟨e,?_⟩
    rcases h.frT with q' | ⟨q',_⟩
    ·omega
    ·rw [e] at q'; cases q'
theorem Sweep.open {a b : List Span} {i k i' k' : Nat} {fr : Int} {out : List Span} {T t : Int} (h : Sweep a b i k false fr out T) (hn : Next a b i k i' k' false fr out T t) (he : Ze3 i' k' = true) : Sweep a b i' k' true t out t:=by
 have tp : ∀ s ∈ out,s.b < t:=fun s hs=>by
  have:=(h.top s hs).1
  rcases h.frT with q | ⟨_,q⟩
  ·have:=hn.lt; omega
  ·rw [q] at hs; simp at hs
 refine ⟨hn.ba,hn.bb,he.symm,h.can,fun s hs=>⟨by have:=tp s hs; omega,fun _=>tp s hs⟩, .inl (by omega),fun x hx=>?_,by have:=h.len; have:=hn.adv; simp at this ⊢; simp at *; omega,hn.tb,by have:=h.bds; have:=hn.lt; have:=hn.tb; omega⟩
 rw [← hn.cov x hx]
 constructor
 ·rintro (q | ⟨_,q⟩)
  ·exact .inl q
  ·omega
 ·rintro (q | ⟨q,_⟩)
  ·exact .inl q
  ·cases q
theorem Sweep.push {a b : List Span} {i k i' k' : Nat} {fr : Int} {out : List Span} {T t : Int} (h : Sweep a b i k true fr out T) (hn : Next a b i k i' k' true fr out T t) (he : Ze3 i' k' = false) : Sweep a b i' k' false t (out ++ [⟨fr,t⟩]) t:=by
 have hfr : fr ≤ T:=by
  rcases h.frT with q | ⟨q,_⟩
  ·exact q
  ·cases q
 have hlt:=hn.lt
 refine ⟨hn.ba,hn.bb,he.symm,⟨List.pairwise_append.2 ⟨h.can.apart,List.pairwise_singleton _ _,fun s hs q hq=>?_⟩,fun s hs=>?_⟩,fun s hs=>⟨?_,fun q=>by cases q⟩, .inl (by omega),fun x hx=>?_,?_,hn.tb,by have:=h.bds; have:=hn.tb; omega⟩
 ·simp at hq; subst hq; exact (h.top s hs).2 rfl
 ·rcases List.mem_append.1 hs with q | q
  ·exact h.can.pos s q
  ·simp at q; subst q; show fr < t; omega
 ·rcases List.mem_append.1 hs with q | q
  ·have:=(h.top s q).1; omega
  ·simp at q; subst q; show t ≤ t; omega
 ·rw [← hn.cov x hx]
  constructor
  ·rintro (⟨s,hs,h1,h2⟩ | ⟨q,_⟩)
   ·rcases List.mem_append.1 hs with q | q
    ·exact .inl ⟨s,q,h1,h2⟩
    ·simp at q; subst q; exact .inr ⟨rfl,h1⟩
   ·cases q
  ·rintro (⟨s,hs,h1,h2⟩ | ⟨_,q⟩)
   ·exact .inl ⟨s,List.mem_append_left _ hs,h1,h2⟩
   ·exact .inl ⟨⟨fr,t⟩,by simp,q,hx⟩
 ·have:=h.len; have:=hn.adv; simp at *; omega
theorem Sweep.done {a b : List Span} {i k : Nat} {ins : Bool} {fr : Int} {out : List Span} {T : Int} (h : Sweep a b i k ins fr out T) (hCa : Can a) (hCb : Can b)
  (hi : ¬ (i < 2 * a.length)) (hk : ¬ (k < 2 * b.length)) : out = ZjE 3 a b ∧ out.length ≤ a.length + b.length:=by
 have la:=h.ba.le; have lb:=h.bb.le
 have ei : i = 2 * a.length:=by omega
 have ek : k = 2 * b.length:=by omega
 have hst : ins = false:=by rw [h.st]; unfold Ze3; simp; omega
 obtain ⟨h1,h2⟩:=ZoF (kind:=3) (a:=a) (b:=b) rfl hCa.pos hCb.pos
 refine ⟨Can.unique h.can h1 fun x=>?_,by have:=h.len; omega⟩
 rw [h2 x]
 have key : (cover a x ∧ ¬ cover b x) ↔ Zbm 3 (inR a x) (inR b x) = true:=by
  rw [← Zdh,← Zdh]
  simp [Zbm]
 rw [← key]
 rcases Int.lt_or_le x T with q | q
 ·rw [← h.cov x q,hst]; simp
 ·have c1:=(h.ba.up hCa q (.inr ei)).cover
  constructor
  ·rintro ⟨s,hs,u1,u2⟩
   have:=(h.top s hs).1
   rcases h.frT with q' | ⟨_,q'⟩
   ·omega
   ·rw [q'] at hs; simp at hs
  ·rintro ⟨u1,_⟩
   have:=c1.1 u1; omega
def Zsf (gs : List Group) (v : List Val) : Prop:=∀ (p q : Nat) (x y : Group),p < q → gs[p]? = some x → gs[q]? = some y → Zec y.v v < 0 → Zec x.v v < 0
def ZvI (gs : List Group) (v : List Val) (i : Nat) : Prop:=∀ (j : Nat),j < i → ∀ (u : Group),gs[j]? = some u → Zec u.v v < 0
def Zsg (gs : List Group) (v : List Val) (i : Nat) : Prop:=∀ (j : Nat),i ≤ j → ∀ (u : Group),gs[j]? = some u → ¬ Zec u.v v < 0
theorem ZvI.zero {gs : List Group} {v : List Val} : ZvI gs v 0:=fun j hj=>by omega
theorem Zsg.all {gs : List Group} {v : List Val} : Zsg gs v gs.length:=fun j hj u hu=>by have:=(List.getElem?_eq_some_iff.1 hu).1; omega
theorem ZvI.step {gs : List Group} {v : List Val} {h : Nat} {x : Group} (hs : Zsf gs v) (hx : gs[h]? = some x) (hc : Zec x.v v < 0) : ZvI gs v (h + 1):=fun j hj u hu=>by
 by_cases e : j = h
 ·subst e; rw [hx] at hu; cases hu; exact hc
 ·exact hs j h u x (by omega) hu hx hc
theorem Zsg.step {gs : List Group} {v : List Val} {h : Nat} {x : Group} (hs : Zsf gs v) (hx : gs[h]? = some x) (hc : 0 ≤ Zec x.v v) : Zsg gs v h:=fun j hj u hu k=>by
 by_cases e : j = h
 ·subst e; rw [hx] at hu; cases hu; omega
 ·have:=hs h j x u (by omega) hx hu k; omega
end Go.Civ
