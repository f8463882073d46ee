/- Lemmas. -/
import Derived.Test.YthgeclodflmiaaaGreatC03
import Derived.Test.YthgeclodflmiaaaGreatC04
import Derived.Test.YthgeclodflmiaaaGreatC06
import Derived.Test.YthgeclodflmiaaaGreatC08
import Derived.Test.YthgeclodflmiaaaGreatC12
import Derived.Lib.Bytealg
import Derived.Maps.Own
import Derived.Laws.StructEq
namespace Go.Civ
open Go.RowKit Go.ChangeShapes Go.Deep
set_option linter.unusedVariables false
structure Cond where
 kind : Int
 col : List UInt8
 oth : List UInt8
 v : Val
 l : List Cond
def ZtU (R : Enc Cond) (G : GH) (c : Cond) (cs : List Value) : Prop:=
 ∃ lv,cs = [.int .i64 c.kind,Zc c.col,Zc c.oth, .int .i64 c.v.k, .int .i64 c.v.n,Zc c.v.s,lv] ∧ Z1 c.kind ∧ c.col.length ≤ reach ∧ c.oth.length ≤ reach ∧ Z1 c.v.k ∧ Z1 c.v.n ∧ c.v.s.length ≤ reach ∧ Sl R 96 G lv c.l
abbrev CondP:={ R : GH → Cond → List Value → Prop // (∀ {G x cs},R G x cs → cs.length = 7) ∧ (∀ {G G' x cs},G.le G' → R G x cs → R G' x cs) ∧ (∀ {G x cs},R G x cs → ∀ c ∈ cs,c.oneCell' = true) }
def CondP.enc (R : CondP) : Enc Cond:=⟨7,R.1,R.2.1,R.2.2.1,R.2.2.2⟩
def CondP.up (R : CondP) : CondP:=
 ⟨ZtU R.enc,fun ⟨_,h,_⟩=>by rw [h]; rfl,fun hle ⟨lv,h1,h2,h3,h4,h5,h6,h7,h8⟩=>⟨lv,h1,h2,h3,h4,h5,h6,h7,h8.mono hle⟩,fun ⟨lv,h1,_,_,_,_,_,_,h8⟩ c hc=>by
  rw [h1] at hc
  simp at hc
  rcases hc with rfl | rfl | rfl | rfl | rfl | rfl | rfl
  ·rfl
  ·rfl
  ·rfl
  ·rfl
  ·rfl
  ·rfl
  ·exact Sl.oneC h8⟩
section
variable {G : GH} {c : Cond} {cs : List Value} {d : Nat}
end
section
variable {P : Program} {N : Nat} {Q : Exit → Env → World → Prop} {ρ : Env} {w : World} {ops : Array Oper} {rest : List Oper} {K : Env → World → Prop} {d : Nat} {ty : TypeId} {pos : String} {af : Array Edge} {g : Option (Nat × Bool)}
end
section
variable {H : Type} {enc : TypeId × Value → H} {P : Program} {w : World}
end
end Go.Civ
namespace Go.Civ
open Go.RowKit
set_option linter.unusedVariables false
abbrev ZtV : Val:=⟨0,0,[]⟩
def Ze9 (l : List Col) (i : Int) : Int:=match l[i.toNat]? with | some x=>x.kind | none=>0
section
variable {d : Nat} {c : Cond} {l : List Col} {k : Nat}
end
end Go.Civ
namespace Go.Civ
open Go.RowKit
set_option linter.unusedVariables false
section
variable {d : Nat} {c : Cond} {dep : Int} {k : Nat}
end
section
variable {d : Nat} {c : Cond} {dep n : Int} {k : Nat}
end
def ZdO (v : List Val) (i : Int) : Val:=match v[i.toNat]? with | some x=>x | none=>ZtV
section
variable {d : Nat} {c x y : Cond} {l : List Col} {v : List Val}
end
end Go.Civ
namespace Go.Civ
open Go.RowKit
set_option linter.unusedVariables false
section
variable {P : Program} {Q : Exit → Env → World → Prop} {ρ : Env} {w : World} {ops : Array Oper} {rest : List Oper} {K : Env → World → Prop}
variable {d : Nat} {ty : TypeId} {pos : String} {af : Array Edge} {g : Option (Nat × Bool)} {G : GH}
end
theorem Zat.cast {w : World} {G : GH} {b e : Nat} {cs cs' : List Value} (h : Zat w G (some (b,e,cs))) (k : cs = cs') : Zat w G (some (b,e,cs')):=k ▸ h
end Go.Civ
namespace Go.Civ
open Go.RowKit
set_option linter.unusedVariables false
def ZaQ (c : Int) : Bool:=(decide (65 ≤ c) && decide (c ≤ 90)) || (decide (97 ≤ c) && decide (c ≤ 122))
def ZeM (c : Int) : Bool:=decide (48 ≤ c) && decide (c ≤ 57)
def ixM (c : Int) : Int:=Go.Lib.indexByte [95,47,43,45] c.toNat.toUInt8
def Zba (c : UInt8) : Bool:=ZaQ (c.toNat : Int) || ZeM (c.toNat : Int) || decide (0 ≤ ixM (c.toNat : Int))
def XE (s : List UInt8) : Bool:=decide (1 ≤ s.length) && decide (s.length ≤ 30) && ZaQ ((s.headD 0).toNat : Int) && s.all Zba
theorem Zpx {s : List UInt8} {k : Nat} {c : UInt8} (h : s[k]? = some c) (hc : Zba c = false) : XE s = false:=by
 unfold XE; rw [Ze8 h hc]; simp
theorem Zg8 {s : List UInt8} {c : UInt8} (h : s[0]? = some c) : s.headD 0 = c:=by
 cases s with
 | nil=>simp at h
 | cons x s=>simp at h; simpa using h
theorem Zr2 {c : UInt8} (h : ZaQ (c.toNat : Int) = true) : Zba c = true:=by unfold Zba; rw [h]; rfl
theorem Zr3 {c : UInt8} (h : ZeM (c.toNat : Int) = true) : Zba c = true:=by unfold Zba; rw [h]; simp
theorem Zr4 {c : UInt8} (h : 0 ≤ Go.Lib.indexByte [95,47,43,45] (c.toNat : Int).toNat.toUInt8) : Zba c = true:=by unfold Zba ixM; rw [decide_eq_true h]; simp
theorem Zpy {c : UInt8} (h1 : ZaQ (c.toNat : Int) = false) (h2 : ZeM (c.toNat : Int) = false) (h3 : Go.Lib.indexByte [95,47,43,45] (c.toNat : Int).toNat.toUInt8 < 0) : Zba c = false:=by
 unfold Zba ixM; rw [h1,h2,decide_eq_false (by omega)]; rfl
theorem ZhW {s : List UInt8} (h : (s.length : Int) < 1 ∨ 30 < (s.length : Int)) : XE s = false:=by
 unfold XE
 rcases h with h | h
 ·rw [decide_eq_false (show ¬ 1 ≤ s.length by omega)]; simp
 ·rw [decide_eq_false (show ¬ s.length ≤ 30 by omega)]; simp
theorem Znn {s : List UInt8} {c : UInt8} (h : s[0]? = some c) (hc : ZaQ (c.toNat : Int) = false) : XE s = false:=by
 unfold XE; rw [Zg8 h,hc]; simp
theorem Zno {s : List UInt8} {c : UInt8} (h1 : 1 ≤ (s.length : Int)) (h2 : (s.length : Int) ≤ 30) (h : s[0]? = some c) (hc : ZaQ (c.toNat : Int) = true) (ha : s.all Zba = true) : XE s = true:=by
 unfold XE; rw [Zg8 h,hc,ha,decide_eq_true (show 1 ≤ s.length by omega),decide_eq_true (show s.length ≤ 30 by omega)]; rfl
def Zbs (l : List (List UInt8)) (j : Nat) (s : List UInt8) : Bool:=XE s && !(l.take j).any fun x=>decide (x = s)
def Zal (l : List (List UInt8)) : Bool:=l.zipIdx.all fun p=>Zbs l p.2 p.1
theorem Znp {l : List (List UInt8)} {j : Nat} {s : List UInt8} (h1 : XE s = true) (h2 : ((l.take j).any fun x=>decide (x = s)) = false) : Zbs l j s = true:=by unfold Zbs; rw [h1,h2]; rfl
theorem Znq {l : List (List UInt8)} {j : Nat} {s : List UInt8} (h1 : XE s = false) : Zbs l j s = false:=by unfold Zbs; rw [h1]; rfl
theorem Znr {l : List (List UInt8)} {j : Nat} {s : List UInt8} (h2 : ((l.take j).any fun x=>decide (x = s)) = true) : Zbs l j s = false:=by unfold Zbs; rw [h2]; simp
theorem ZbH {α : Type} {P : Nat → α → Prop} {l : List α} {k : Nat} {y : α} (h : ∀ j,j < k → ∀ x,l[j]? = some x → P j x) (hk : l[k]? = some y) (hy : P k y) : ∀ j,j < k + 1 → ∀ x,l[j]? = some x → P j x:=fun j hj x hx=>by
 by_cases e : j = k
 ·subst e; rw [hk] at hx; obtain rfl:=Option.some.inj hx; exact hy
 ·exact h j (by omega) x hx
theorem ZjD {l : List (List UInt8)} {k : Nat} {s : List UInt8} (h : l[k]? = some s) (hs : Zbs l k s = false) : Zal l = false:=by
 unfold Zal
 rw [Bool.eq_false_iff]
 intro e
 rw [List.all_eq_true] at e
 have:=e (s,k) (List.mem_zipIdx_iff_getElem?.2 h)
 rw [this] at hs; cases hs
theorem Zns {l : List (List UInt8)} {k : Nat} (h : ∀ j,j < k → ∀ s,l[j]? = some s → Zbs l j s = true) (hk : l.length ≤ k) : Zal l = true:=by
 unfold Zal
 rw [List.all_eq_true]
 rintro ⟨s,j⟩ hm
 have hj:=List.mem_zipIdx_iff_getElem?.1 hm
 have:=(List.getElem?_eq_some_iff.1 hj).1
 exact h j (by simp at this ⊢; omega) s hj
def Xf (l : List (List UInt8)) (nm : List UInt8) : Int:=Xe (fun x=>decide (x = nm)) l
theorem Zr5 {l : List (List UInt8)} {nm : List UInt8} : decide (0 ≤ Xf l nm) = l.any fun x=>decide (x = nm):=Zc9 _ _
def Zea (c : Col) : Bool:=decide (1 ≤ c.kind) && decide (c.kind ≤ 4)
def fkB (s : Schema) (f : Foreign) : Bool:=XE f.table && decide (1 ≤ f.cols.length) && decide (f.cols.length ≤ 8) && Zal f.cols && f.cols.all fun c=>decide (0 ≤ Xf (s.cols.map Col.name) c)
def XQ (s : Schema) : Bool:=XE s.name && decide (1 ≤ s.cols.length) && decide (s.cols.length ≤ 8) && decide (1 ≤ s.key) && decide (s.key ≤ s.cols.length) && decide (s.fks.length ≤ 8) && Zal (s.cols.map Col.name)
def Yu (s : Schema) : Bool:=XQ s && (s.cols.all Zea && s.fks.all (fkB s))
theorem Znt {c : Col} (h1 : 1 ≤ c.kind) (h2 : c.kind ≤ 4) : Zea c = true:=by unfold Zea; simp [h1,h2]
theorem Zr6 {s : Schema} {f : Foreign} (h1 : XE f.table = true) (h2 : 1 ≤ (f.cols.length : Int)) (h3 : (f.cols.length : Int) ≤ 8) (h4 : Zal f.cols = true) (h5 : (f.cols.all fun c=>decide (0 ≤ Xf (s.cols.map Col.name) c)) = true) : fkB s f = true:=by
 unfold fkB; rw [h1,h4,h5,decide_eq_true (show 1 ≤ f.cols.length by omega),decide_eq_true (show f.cols.length ≤ 8 by omega)]; rfl
theorem XG {s : Schema} {f : Foreign} (h1 : XE f.table = false) : fkB s f = false:=by unfold fkB; rw [h1]; rfl
theorem XH {s : Schema} {f : Foreign} (h : (f.cols.length : Int) < 1 ∨ 8 < (f.cols.length : Int)) : fkB s f = false:=by
 unfold fkB
 rcases h with h | h
 ·rw [decide_eq_false (show ¬ 1 ≤ f.cols.length by omega)]; simp
 ·rw [decide_eq_false (show ¬ f.cols.length ≤ 8 by omega)]; simp
theorem XI {s : Schema} {f : Foreign} (h1 : Zal f.cols = false) : fkB s f = false:=by unfold fkB; rw [h1]; simp
theorem XJ {s : Schema} {f : Foreign} {k : Nat} {c : List UInt8} (h : f.cols[k]? = some c) (hc : Xf (s.cols.map Col.name) c < 0) : fkB s f = false:=by
 unfold fkB; rw [Ze8 (p:=fun c=>decide (0 ≤ Xf (s.cols.map Col.name) c)) h (decide_eq_false (by omega))]; simp
theorem X3 {s : Schema} (h1 : XQ s = true) (h2 : s.cols.all Zea = true) (h3 : s.fks.all (fkB s) = true) : Yu s = true:=by unfold Yu; rw [h1,h2,h3]; rfl
theorem Xo {s : Schema} {k : Nat} {c : Col} (h : s.cols[k]? = some c) (hc : c.kind < 1 ∨ 4 < c.kind) : Yu s = false:=by
 unfold Yu; rw [Ze8 (p:=Zea) h (by unfold Zea; rcases hc with hc | hc <;> simp <;> omega)]; simp
theorem ZA {s : Schema} {k : Nat} {f : Foreign} (h : s.fks[k]? = some f) (hc : fkB s f = false) : Yu s = false:=by
 unfold Yu; rw [Ze8 (p:=fkB s) h hc]; simp
theorem Qh {s : Schema} (h : XQ s = false) : Yu s = false:=by unfold Yu; rw [h]; rfl
def Xg (s : Schema) (v : List Val) : Int:=if Yu s && v.all ZK then (if QI (fun (c : Col) (x : Val)=>decide (c.kind = x.k)) s.cols v then 0 else 13) else 1
theorem Zpz (s : Schema) (v : List Val) : Z1 (Xg s v):=by unfold Xg; split <;> (try split) <;> constructor <;> decide
theorem Zte {s : Schema} {v : List Val} (h : Yu s = false) : Xg s v = 1:=by unfold Xg; rw [h]; rfl
theorem Zc1 {v : List Val} {b : Bool} (h : (v.any fun x=>!ZK x) = b) : v.all ZK = !b:=by rw [← ZkV,h]
theorem Ztf {s : Schema} {v : List Val} (h : (v.any fun x=>!ZK x) = true) : Xg s v = 1:=by unfold Xg; rw [Zc1 h]; simp
theorem Zr7 {s : Schema} {v : List Val} (h1 : Yu s = true) (h2 : (v.any fun x=>!ZK x) = false) (h3 : QI (fun (c : Col) (x : Val)=>decide (c.kind = x.k)) s.cols v = false) : Xg s v = 13:=by
 unfold Xg; rw [Zc1 h2,h1,h3]; rfl
theorem Ztg {s : Schema} {v : List Val} (h1 : Yu s = true) (h2 : (v.any fun x=>!ZK x) = false) (h3 : QI (fun (c : Col) (x : Val)=>decide (c.kind = x.k)) s.cols v = true) : Xg s v = 0:=by
 unfold Xg; rw [Zc1 h2,h1,h3]; rfl
theorem Zg9 {α β : Type} {f : α → β → Bool} : ∀ {a : List α} {b : List β},QI f a b = true → a.length = b.length
 | [],[],_=>rfl
 | [],_ :: _,h=>by simp [QI] at h
 | _ :: _,[],h=>by simp [QI] at h
 | x :: a,y :: b,h=>by simp [QI] at h; simp [Zg9 (f:=f) (a:=a) (b:=b) h.2]
theorem Zbd {s : Schema} {v : List Val} (h : Xg s v = 0) : v.length ≤ 8 ∧ v.all ZK = true ∧ v.length = s.cols.length ∧ Yu s = true:=by
 unfold Xg at h
 split at h
 ·rename_i h1
  split at h
  ·rename_i h2
   simp only [Bool.and_eq_true] at h1
   have h3:=Zg9 h2
   have h4:=h1.1
   unfold Yu XQ at h4
   simp only [Bool.and_eq_true,decide_eq_true_eq] at h4
   exact ⟨by omega,h1.2,h3.symm,h1.1⟩
  ·cases h
 ·cases h
def YI (s : Schema) (last : Int) (r : HRow) : Bool:=decide (Xg s r.v = 0) && Y1 r && decide (r.r.x.a ≤ last) && (decide (r.r.x.b ≤ last) || decide (r.r.x.b = 253402300800))
def Zy (t : Table) : Bool:=Yu t.s && decide (-62135596801 ≤ t.last) && decide (t.last < 253402300800) && decide (t.rows.length ≤ 500) && t.rows.all (YI t.s t.last) && decide (t.rows = ZZ t.rows)
def Yt (x : Int) : Bool:=decide (-62135596800 ≤ x) && decide (x < 253402300800)
def ZdD (last : Int) (r : HRow) : Bool:=Y1 r && decide (r.r.x.a ≤ last) && (decide (r.r.x.b ≤ last) || decide (r.r.x.b = 253402300800))
def Znu (l : List HRow) (last : Int) : Bool:=decide (-62135596801 ≤ last) && decide (last < 253402300800) && decide (l.length ≤ 500) && l.all (ZdD last) && decide (ZjA l = l)
def Zld (t : Table) : Bool:=Yu t.s && Znu t.rows t.last && t.rows.all fun r=>decide (Xg t.s r.v = 0)
theorem ZW {t : Table} (h : Zy t = true) : Z5 t.rows ∧ t.rows.length ≤ 500 ∧ (∀ r ∈ t.rows,r.v.length ≤ 8) ∧ t.rows = ZZ t.rows:=by
 unfold Zy at h
 simp only [Bool.and_eq_true,decide_eq_true_eq,List.all_eq_true] at h
 refine ⟨fun r hr=>?_,h.1.1.2,fun r hr=>?_,h.2⟩
 ·have:=h.1.2 r hr
  unfold YI at this; simp only [Bool.and_eq_true,decide_eq_true_eq] at this; exact this.1.1.2
 ·have:=h.1.2 r hr
  unfold YI at this; simp only [Bool.and_eq_true,decide_eq_true_eq] at this; exact (Zbd this.1.1.1).1
theorem Znv (t : Table) : Zld t = Zy t:=by
 rw [Bool.eq_iff_iff]
 unfold Zld Zy Znu
 simp only [Bool.and_eq_true,decide_eq_true_eq,List.all_eq_true]
 have e : ∀ r,YI t.s t.last r = true ↔ (Xg t.s r.v = 0 ∧ ZdD t.last r = true):=fun r=>by
  unfold YI ZdD; simp only [Bool.and_eq_true,decide_eq_true_eq]; constructor
  ·rintro ⟨⟨⟨a,b⟩,c⟩,d⟩; exact ⟨a,⟨b,c⟩,d⟩
  ·rintro ⟨a,⟨b,c⟩,d⟩; exact ⟨⟨⟨a,b⟩,c⟩,d⟩
 have g : (∀ r ∈ t.rows,ZdD t.last r = true) → Z5 t.rows:=fun h r hr=>by
  have:=h r hr; unfold ZdD at this; simp only [Bool.and_eq_true] at this; exact this.1.1
 constructor
 ·rintro ⟨⟨h1,⟨⟨⟨h2,h3⟩,h4⟩,h5⟩,h6⟩,h7⟩
  exact ⟨⟨⟨⟨⟨h1,h2⟩,h3⟩,h4⟩,fun r hr=>(e r).2 ⟨h7 r hr,h5 r hr⟩⟩,by rw [ZdC (g h5)]; exact h6.symm⟩
 ·rintro ⟨⟨⟨⟨⟨h1,h2⟩,h3⟩,h4⟩,h5⟩,h6⟩
  have h5' : ∀ r ∈ t.rows,ZdD t.last r = true:=fun r hr=>((e r).1 (h5 r hr)).2
  exact ⟨⟨h1,⟨⟨⟨h2,h3⟩,h4⟩,h5'⟩,by rw [← ZdC (g h5')]; exact h6.symm⟩,fun r hr=>((e r).1 (h5 r hr)).1⟩
abbrev noT : Table:=⟨⟨[],[],0,[]⟩,[],0⟩
def ZT (t : Table) (tx : Int) (l : List HRow) : Table:=if (ZZ l).length ≤ 500 then ⟨t.s,ZZ l,tx⟩ else noT
def Qi (l : List HRow) : Int:=if (ZZ l).length ≤ 500 then 0 else 5
def XR (t : Table) (tx : Int) : Int:=if Yt tx then (if tx ≤ t.last then 6 else 0) else 2
def or2 (a b : Int) : Int:=if a ≠ 0 then a else b
abbrev QL (t : Table) (tx : Int) (v : List Val) (d : Span) : List HRow:=t.rows ++ [⟨v,⟨d,⟨tx,253402300800⟩⟩⟩]
def QV (t : Table) (d : Span) : Bool:=Zy t && ZM d
def ZcI (t : Table) (tx : Int) (v : List Val) (d : Span) : Int:=if QV t d then or2 (Xg t.s v) (XR t tx) else 1
def ZR (t : Table) (tx : Int) (v : List Val) (d : Span) : Table:=if ZcI t tx v d = 0 then ZT t tx (QL t tx v d) else noT
def Y6 (t : Table) (tx : Int) (v : List Val) (d : Span) : Int:=if ZcI t tx v d = 0 then Qi (QL t tx v d) else ZcI t tx v d
def ZcJ (d : Span) (r : HRow) : Bool:=decide (r.r.x.b = 253402300800) && decide (r.r.d.a < d.b) && decide (d.a < r.r.d.b)
def Zmk (r d : Span) : Span:=⟨max r.a d.a,min r.b d.b⟩
def ZgA (nx : Option (List Val)) (r d : Span) (tx : Int) : List HRow:=match nx with
 | some v=>[⟨v,⟨Zmk r d,⟨tx,253402300800⟩⟩⟩]
 | none=>[]
def Zbt (hl : List Val → Bool) (nx : List Val → Option (List Val)) (tx : Int) (d : Span) (r : HRow) : List HRow:=
 if ZcJ d r && hl r.v then [⟨r.v,⟨r.r.d,⟨r.r.x.a,tx⟩⟩⟩] ++ Xz r.v (Yr 3 [r.r.d] [d]) tx 253402300800 ++ ZgA (nx r.v) r.r.d d tx else [r]
def ZaE (hl : List Val → Bool) (nx : List Val → Option (List Val)) (tx : Int) (d : Span) (l : List HRow) : List HRow:=l.flatMap (Zbt hl nx tx d)
theorem ZjE {hl : List Val → Bool} {nx : List Val → Option (List Val)} {tx : Int} {d : Span} {l : List HRow} {k : Nat} {r : HRow} (h : l[k]? = some r) :
  ZaE hl nx tx d (l.take (k + 1)) = ZaE hl nx tx d (l.take k) ++ Zbt hl nx tx d r:=by
 rw [List.take_add_one,h]; simp [ZaE]
def Zaz (l : List HRow) (at_ tx : Int) : List (List Val):=((Yo l).filter fun g=>YY (ZI g.t tx) at_).map HGrp.v
def Y7 (t : Table) (at_ tx : Int) : List (List Val):=if Zy t && Yt at_ && Yt tx then Zaz t.rows at_ tx else []
def Zhv (l : List HRow) (tx : Int) : List Fact:=(Yo l).flatMap fun g=>(ZI g.t tx).map (Fact.mk g.v)
def atH (t : Table) (tx : Int) : List Fact:=if Zy t && Yt tx then Zhv t.rows tx else []
end Go.Civ
namespace Go.Civ
open Go.RowKit Go.Maps
set_option linter.unusedVariables false
structure Apart (w0 : World) (G : GH) (L : Own) (b : Nat) : Prop where
 new : w0.heap.size ≤ b
 gh : G b = none
 own : ∀ (i : Nat) p,L[i]? = some (some p) → p.1 ≠ b
section
variable {P : Program} {N : Nat} {Q : Exit → Env → World → Prop} {ρ : Env} {w w0 : World} {ops : Array Oper} {rest : List Oper} {K KK : Env → World → Prop} {d : Nat} {ty : TypeId} {pos : String} {af : Array Edge} {g : Option (Nat × Bool)}
variable {X : List Nat} {G0 G : GH} {L : Own} {b : Nat}
theorem Zhw {H : Type} {R : Value → Option (DataW H × List MemPlace)} {kt t e : TypeId} {n : Nat} {D : DataW H} (h : w.ownsMap P kt R b n D) (K : Keyed P kt) (ht : P.underlying t = some (.map kt e)) (hn : n < maxLen) {key val : Value} {kl : Lit} {dd : DataW H} {ps : List MemPlace}
  (hkey : keyOf P kt key = some kl) (hv : R val = some (dd,ps)) : ∃ w',(Instr.mapUpdate t (.map (some b)) key val).run P w = .ok () w' ∧ w'.ownsMap P kt R b (n + 1) (D.put kl dd) ∧ w.grownBy w' (some b) ∧ w.drawn ≤ w'.drawn:=by
 obtain ⟨w',h1,h2,h3⟩:=World.ownsMap.update h K ht hn hkey hv
 obtain ⟨es,clock,hb,F,hs,rfl⟩:=h
 obtain ⟨es',clock',hrun,_⟩:=Maps.fit_store (R':=R) K ht hb F (Nat.lt_of_le_of_lt hs hn) (fun _ _ _ _ hz=>hz) hkey hv
 refine ⟨w',h1,h2,h3,?_⟩
 rw [hrun] at h1
 injection h1 with _ e
 subst e
 exact Nat.le_refl _
theorem St.grown (h : St w0 X G0 G L w) (ha : Apart w0 G L b) {w' : World} (hg : w.grownBy w' (some b)) (hd : w.drawn ≤ w'.drawn) : St w0 X G0 G L w':=by
 have blk : ∀ k,k < w.heap.size → k ≠ b → w'.heap[k]? = w.heap[k]? :=fun k hk hne=>hg.block k hk (fun e=>hne (Option.some.inj e))
 refine ⟨⟨hg.os.trans h.kept.os,hg.tape.trans h.kept.tape,hg.output.trans h.kept.output,Nat.le_trans h.kept.drawn hd,Nat.le_trans h.kept.size hg.size,fun k hk hX=>?_⟩,h.le,h.new,fun k o hk=>?_,fun i p hp=>?_,h.sep,h.nd⟩
 ·rw [blk k (Nat.lt_of_lt_of_le hk h.kept.size) (by have:=ha.new; omega)]; exact h.kept.block k hk hX
 ·have hne : k ≠ b:=fun e=>by subst e; rw [ha.gh] at hk; cases hk
  rw [blk k (h.imm.lt hk) hne]; exact h.imm k o hk
 ·rw [blk p.1 (h.ownLt hp) (ha.own i p hp)]; exact h.own i p hp
abbrev Zv1 (P : Program) (K E : TypeId) (w : World) (b n : Nat) (D : DataW Unit) : Prop:=w.ownsMap P K (plainElem P E) b n D
theorem ZkE {t : TypeId} (K E : TypeId) (hS : St w0 X G0 G L w) (hw : Region.wanted ⟨some d, .makeMap t none,ty,pos,af,g⟩ (Zo ops ρ) = true)
  (k : ∀ b w',Zv1 P K E w' b 0 (.map []) → Apart w0 G L b → St w0 X G0 G L w' → KK (ZC ρ d (.map (some b))) w') : OW P ops ⟨some d, .makeMap t none,ty,pos,af,g⟩ ρ w KK:=by
 refine WL.val (v:= .map (some w.heap.size)) (w':=w.alloc (.map #[] 0)) hw ?_ rfl (k _ _ (World.ownsMap_made w P K _) ⟨h1,hS.imm.fresh (Nat.le_refl _),fun i p hp e=>?_⟩ ?_)
 ·simp [execOp,run_makeMap,Result.andThen]
 ·have:=hS.ownLt hp; omega
 ·exact hS.call (Res.alloc hS.imm _)
where h1:=hS.kept.size
end
end Go.Civ
namespace Go.Civ
open Go.RowKit
set_option linter.unusedVariables false
def TGI (P : Program) (ops : Array Oper) (p : Plan) (C I : World → Prop) (Q : Exit → Env → World → Prop) : Nat → List Nat → Env → World → Prop
 | 0,R,ρ,w=>R = [] → Q .normal ρ w
 | n + 1,R,ρ,w=>(R = [] → Q .normal ρ w) ∧ ∀ j ∈ R,(∀ i ∈ R,waits p.M j i = false) → match ops[j]? with
  | some o=>oW P ops o ρ w fun ρ' w'=>(Qm p j = true → C w') ∧ I w' ∧ TGI P ops p C I Q n (R.filter fun i=>i != j) ρ' w'
  | none=>False
section
variable {P : Program} {N : Nat} {ops : List Oper} {p : Plan} {C I : World → Prop} {Q : Exit → Env → World → Prop} {ρH : Env}
theorem TGI.toTG : ∀ (n : Nat) (R : List Nat) (ρ : Env) (w : World),TGI P ops.toArray p C I Q n R ρ w → TG P ops.toArray p C Q n R ρ w
 | 0,R,ρ,w,h=>h
 | n + 1,R,ρ,w,h=>⟨h.1,fun j hj hw=>by
  have h2:=h.2 j hj hw
  simp only [List.getElem?_toArray] at h2 ⊢
  cases ho : ops[j]? with
  | none=>rw [ho] at h2; exact h2
  | some o=>
   rw [ho] at h2
   exact oW.mono (fun ρ' w' k=>⟨k.1,TGI.toTG n _ _ _ k.2.2⟩) h2⟩
abbrev ANI (I : World → Prop) (K : Env → World → Prop) : Env → World → Prop:=fun ρ w=>I w ∧ K ρ w
def TAI (P : Program) (ops : List Oper) (p : Plan) (C I : World → Prop) (Q : Exit → Env → World → Prop) (n : Nat) (R : List Nat) (ρ : Env) (w : World) : List Nat → Prop
 | []=>True
 | j :: r=>(match ops[j]? with
  | some o=>OW P ops.toArray o ρ w (AN (Qm p j) C (ANI I (TGI P ops.toArray p C I Q n (R.filter fun i=>i != j))))
  | none=>False) ∧ TAI P ops p C I Q n R ρ w r
theorem TAI.nil {n : Nat} {R : List Nat} {ρ : Env} {w : World} : TAI P ops p C I Q n R ρ w []:=trivial
theorem TAI.cons {n j : Nat} {R r : List Nat} {ρ : Env} {w : World} {o : Oper} (ho : ops[j]? = some o)
  (h : OW P ops.toArray o ρ w (AN (Qm p j) C (ANI I (TGI P ops.toArray p C I Q n (R.filter fun i=>i != j))))) (hr : TAI P ops p C I Q n R ρ w r) : TAI P ops p C I Q n R ρ w (j :: r):=by
 simp only [TAI,ho]; exact ⟨h,hr⟩
theorem TAI.get {n : Nat} {R : List Nat} {ρ : Env} {w : World} : ∀ {l : List Nat},TAI P ops p C I Q n R ρ w l → ∀ j ∈ l,match ops.toArray[j]? with
  | some o=>oW P ops.toArray o ρ w fun ρ' w'=>(Qm p j = true → C w') ∧ I w' ∧ TGI P ops.toArray p C I Q n (R.filter fun i=>i != j) ρ' w'
  | none=>False
 | [],_,j,hj=>by cases hj
 | a :: l,h,j,hj=>by
  rcases List.mem_cons.1 hj with rfl | hj
  ·have h1:=h.1
   rw [List.getElem?_toArray]
   cases ho : ops[j]? with
   | none=>rw [ho] at h1; exact h1
   | some o=>rw [ho] at h1; exact h1.h
  ·exact TAI.get h.2 j hj
theorem TGI.fork {ρ : Env} {w : World} (n : Nat) (R av : List Nat) {R0 : List Nat} {n0 : Nat} (hn : n0 = n + 1) (hR : R0 = R) (hav : (R.filter fun j=>R.all fun i=>!waits p.M j i) = av) (hne : R ≠ [])
  (h : TAI P ops p C I Q n R ρ w av) : TGI P ops.toArray p C I Q n0 R0 ρ w:=by
 subst hn hR
 refine ⟨fun z=>absurd z hne,fun j hj hw=>h.get j ?_⟩
 rw [← hav,List.mem_filter,List.all_eq_true]
 exact ⟨hj,fun i hi=>by rw [hw i hi]; rfl⟩
theorem TGI.quietG {j : Nat} {o : Oper} {d : Nat} {v : Value} (ho : ops[j]? = some o) (hd : o.dst = some d) : ∀ (n : Nat) (R : List Nat) (ρ : Env) (w : World),I w → Quiet ops p R j o d → (R.filter fun i=>i != j).length ≤ n →
  (∀ w,I w → ∀ K,K (ZC ρ d v) w → OW P ops.toArray o ρ w K) → TGI P ops.toArray p C I Q n (R.filter fun i=>i != j) (ZC ρ d v) w → TGI P ops.toArray p C I Q (n + 1) R ρ w:=by
 intro n
 induction n with
 | zero=>
  intro R ρ w hI hQ hn hq h
  refine ⟨fun e=>(by rw [e] at hQ; exact absurd hQ.mem (by simp)),fun k hk hav=>?_⟩
  by_cases hkj : k = j
  ·subst hkj
   simp only [List.getElem?_toArray,ho]
   exact (hq w hI _ ⟨fun e=>(by rw [hQ.need] at e; cases e),hI,h⟩).h
  ·have : k ∈ R.filter fun i=>i != j:=List.mem_filter.2 ⟨hk,by simpa using hkj⟩
   have e0:=List.eq_nil_of_length_eq_zero (Nat.le_zero.1 hn)
   rw [e0] at this; cases this
 | succ n ih=>
  intro R ρ w hI hQ hn hq h
  refine ⟨fun e=>(by rw [e] at hQ; exact absurd hQ.mem (by simp)),fun k hk hav=>?_⟩
  by_cases hkj : k = j
  ·subst hkj
   simp only [List.getElem?_toArray,ho]
   exact (hq w hI _ ⟨fun e=>(by rw [hQ.need] at e; cases e),hI,h⟩).h
  ·have hk' : k ∈ R.filter fun i=>i != j:=List.mem_filter.2 ⟨hk,by simpa using hkj⟩
   have h2:=h.2 k hk' fun i hi=>hav i (List.mem_filter.1 hi).1
   simp only [List.getElem?_toArray] at h2 ⊢
   cases hok : ops[k]? with
   | none=>rw [hok] at h2; exact h2
   | some q=>
    rw [hok] at h2
    simp only at h2 ⊢
    obtain ⟨q1,q2,q3,q4⟩:=hQ.other k hk hkj q hok
    have hdl : ¬ d ∈ q.looksAt ops.toArray:=fun hl=>by rw [hav j hQ.mem] at q2; cases q2 hl
    refine QQ q4 (fun t ht=>ZcU (ρ:=ρ) (v:=v) (show t ≠ d from fun e=>hdl (by rw [← e]; exact ht))) (fun x w' hK=>⟨hK.1,hK.2.1,?_⟩) h2
    have hcm : YP (ZC ρ d v) q.dst x = ZC (YP ρ q.dst x) d v:=by
     cases hqd : q.dst with
     | none=>rfl
     | some t=>exact Zjf fun e=>q1 (by rw [hqd,e])
    have hlo : ∀ t,t ∈ o.looksAt ops.toArray → ρ t = YP ρ q.dst x t:=fun t ht=>by
     cases hqd : q.dst with
     | none=>rfl
     | some t'=>exact (ZcU (ρ:=ρ) (v:=x) (show t ≠ t' from fun e=>q3 t' hqd (by rw [← e]; exact ht))).symm
    have hff : (R.filter fun i=>i != k).filter (fun i=>i != j) = (R.filter fun i=>i != j).filter fun i=>i != k:=by
     rw [List.filter_filter,List.filter_filter]; congr 1; funext i; exact Bool.and_comm _ _
    refine ih _ _ w' hK.2.1 ⟨List.mem_filter.2 ⟨hQ.mem,by simpa using Ne.symm hkj⟩,fun i hi=>hQ.av i (List.mem_filter.1 hi).1,hQ.need,hQ.sel,fun i hi=>hQ.other i (List.mem_filter.1 hi).1⟩ ?_ (fun w2 hI2 K hK2=>⟨?_⟩) ?_
    ·rw [hff]
     have h3 : ((R.filter fun i=>i != j).filter fun i=>i != k).length < (R.filter fun i=>i != j).length:=List.length_filter_lt_length_iff_exists.2 ⟨k,hk',by simp⟩
     omega
    ·refine QQ (K:=fun r w3=>r = ZC ρ d v ∧ w3 = w2) hQ.sel hlo (fun y w3 hy=>?_) (hq w2 hI2 _ ⟨rfl,rfl⟩).h
     rw [hd] at hy ⊢
     obtain ⟨e1,rfl⟩:=hy
     have e2 : y = v:=by have:=congrFun e1 d; simp only [YP,Zjg] at this; exact this
     subst e2; exact hK2
    ·rw [hff,← hcm]; exact hK.2.2
theorem TGI.quiet {ρ : Env} {w : World} (n : Nat) (R : List Nat) (j : Nat) {o : Oper} {d : Nat} {v : Value} {R0 : List Nat} {n0 : Nat} (hn : n0 = n + 1) (hR : R0 = R) (ho : ops[j]? = some o) (hd : o.dst = some d) (hb : Zgs ops p R j = true) (hl : (R.filter fun i=>i != j).length ≤ n) (hI : I w)
  (hq : ∀ w,I w → ∀ K,K (ZC ρ d v) w → OW P ops.toArray o ρ w K) (h : TGI P ops.toArray p C I Q n (R.filter fun i=>i != j) (ZC ρ d v) w) : TGI P ops.toArray p C I Q n0 R0 ρ w:=by
 subst hn hR; exact TGI.quietG ho hd _ _ _ _ hI (ZhJ ho hd hb) hl hq h
theorem TGI.fin {ρ : Env} {w : World} {n : Nat} {R0 : List Nat} (hR : R0 = []) (h : Q .normal ρ w) : TGI P ops.toArray p C I Q n R0 ρ w:=by
 subst hR
 cases n with
 | zero=>exact fun _=>h
 | succ n=>exact ⟨fun _=>h,fun j hj=>by cases hj⟩
theorem GH.In.down {G G' : GH} {w : World} (h : G'.In w) (k : G.le G') : G.In w:=fun b o e=>h b o (k b o e)
end
end Go.Civ
