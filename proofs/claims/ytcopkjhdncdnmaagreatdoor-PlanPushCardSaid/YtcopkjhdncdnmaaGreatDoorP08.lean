/- Lemmas. -/
import Derived.Test.YtcopkjhdncdnmaaGreatDoorP07
import Derived.Laws.Cover3
set_option linter.unusedSimpArgs false
namespace Go.Civ
open Go.RowKit
set_option linter.unusedVariables false
abbrev OB:=Option (Nat × TypeId × List Value)
def blk : OB → List Nat | none=>[] | some p=>[p.1]
def ZdY (w w' : World) (G : GH) (o : OB) : Prop:=∀ p,o = some p → w.heap.size ≤ p.1 ∧ w'.heap[p.1]? = some (ZlB p.2) ∧ G p.1 = none
def XK (w : World) (G : GH) (o : OB) : Prop:=∀ p,o = some p → w.heap[p.1]? = some (ZlB p.2) ∧ G p.1 = none
theorem FnI2.up {P : Program} {α β : Type} {A : GH → Value → α → Prop} {B : GH → Value → β → Prop} {fid : Nat} {cap : Array Value} {G G' : GH} {on : α → β → Prop} {pf : α → β → Int} (h : FnI2 P A B fid cap G on pf) (k : G.le G') : FnI2 P A B fid cap G' on pf:=
 ⟨h.body,fun G2 w' v u x y hle=>h.call G2 w' v u x y (k.trans hle)⟩
theorem FnB2.up {P : Program} {α β : Type} {A : GH → Value → α → Prop} {B : GH → Value → β → Prop} {fid : Nat} {cap : Array Value} {G G' : GH} {on : α → β → Prop} {pf : α → β → Bool} (h : FnB2 P A B fid cap G on pf) (k : G.le G') : FnB2 P A B fid cap G' on pf:=
 ⟨h.body,fun G2 w' v u x y hle=>h.call G2 w' v u x y (k.trans hle)⟩
section
variable {w0 w w' : World} {X : List Nat} {G0 G G' : GH} {L : Own} {o : OB}
theorem St.freshAt (h : St w0 [] G0 G L w) (i : Nat) (hi : L[i]? = some o) : ZdY w0 w G o:=fun p hp=>by
 subst hp; exact ⟨h.mine hi,h.own i p hi,(h.sep i p hi).2⟩
theorem St.lentAt (h : St w0 X G0 G L w) (i : Nat) (hi : L[i]? = some o) : XK w G o:=fun p hp=>by
 subst hp; exact ⟨h.own i p hi,(h.sep i p hi).2⟩
theorem St.adoptO (h : St w0 X G0 G L w) (r : Res [] w G w' G') (ho : ZdY w w' G' o) : St w0 X G0 G' (o :: L) w':=by
 cases o with
 | none=>exact (h.call r).pad
 | some p=>
  obtain ⟨b,e,cs⟩:=p
  obtain ⟨h1,h2,h3⟩:=ho _ rfl
  exact h.adopt r h2 h1 h3
theorem St.lentO (h : G.In w) (ho : XK w G o) : St w (blk o) G G [o] w:=by
 cases o with
 | none=>exact (St.start h).pad
 | some p=>
  obtain ⟨b,e,cs⟩:=p
  obtain ⟨h1,h2⟩:=ho _ rfl
  exact St.lent h h1 h2
theorem St.callRow (h : St w0 X G0 G L w) (i : Nat) (hi : L[i]? = some o) {o' : OB} (r : Res (blk o) w G w' G') {α : Type} {E : Enc α} {by_ : Nat} {e : TypeId} {v : Value} {l l' : List α}
  (h1 : YH E by_ e G v l o) (h2 : YH E by_ e G' v l' o') (hl : XK w' G' o') : St w0 X G0 G' (L.set i o') w':=by
 rcases h1 with ⟨rfl,rfl,rfl⟩ | ⟨b,cs,cap,xs,rfl,rfl,_⟩
 ·rcases h2 with ⟨rfl,_,rfl⟩ | ⟨b,cs,cap,xs,rfl,hv,_⟩
  ·exact (h.call r).drop i
  ·simp at hv
 ·rcases h2 with ⟨rfl,hv,rfl⟩ | ⟨b',cs',cap',xs',rfl,hv,_⟩
  ·simp at hv
  ·simp at hv
   obtain ⟨rfl,_⟩:=hv
   exact h.callX i hi cs' r (hl _ rfl).1
theorem YH.cells1 {α : Type} {E : Enc α} {by_ : Nat} {e : TypeId} {v : Value} {l : List α} (h : YH E by_ e G v l o) : v.cells = [v].toArray:=by obtain ⟨a,cap,rfl⟩:=h.shape; rfl
theorem ElPtr.inj {α : Type} {E : Enc α} {v : Value} {n : Nat} {p q : Addr} (h : ElPtr E v n p) (k : ElPtr E v n q) : p = q:=by
 obtain ⟨a,l,c,rfl,_,rfl⟩:=h.ex
 obtain ⟨a',l',c',e,_,rfl⟩:=k.ex
 simp at e; rw [e.1]
theorem Sl.oneC {α : Type} {E : Enc α} {by_ : Nat} {v : Value} {l : List α} (h : Sl E by_ G v l) : v.oneCell' = true:=by obtain ⟨a,cap,rfl,_⟩:=h; rfl
theorem YH.oneC {α : Type} {E : Enc α} {by_ : Nat} {e : TypeId} {v : Value} {l : List α} (h : YH E by_ e G v l o) : v.oneCell' = true:=by obtain ⟨a,cap,rfl⟩:=h.shape; rfl
theorem YH.len {α : Type} {E : Enc α} {by_ : Nat} {e : TypeId} {v : Value} {l l' : List α} {o' : OB} (h1 : YH E by_ e G v l o) (h2 : YH E by_ e G' v l' o') : l'.length = l.length:=by
 obtain ⟨a,c,h⟩:=h1.shape
 obtain ⟨a',c',h'⟩:=h2.shape
 rw [h] at h'; simp at h'; omega
end
section
variable {P : Program} {N : Nat} {Q : Exit → Env → World → Prop} {ρ : Env} {w : World} {ops : Array Oper} {rest : List Oper} {K : Env → World → Prop}
variable {d : Nat} {ty : TypeId} {pos : String} {af : Array Edge} {g : Option (Nat × Bool)} {G : GH}
theorem WL.addN {t ty' : TypeId} {x y : Operand} (a b : Nat) (hn : a + b ≤ 4 * reach)
  (hw : Region.wanted ⟨some d, .binOp .add t x y ty',ty,pos,af,g⟩ (ZI ops ρ) = true) (hx : ev ρ x = .int .i64 (a : Int)) (hy : ev ρ y = .int .i64 (b : Int))
  (kk : K (Yq ρ d (.int .i64 ((a + b : Nat) : Int))) w) : OW P ops ⟨some d, .binOp .add t x y ty',ty,pos,af,g⟩ ρ w K:=by
 refine WL.ar .add rfl a b hw hx hy ⟨?_,?_⟩ kk
 ·simp only [Ar.f]; omega
 ·simp only [Ar.f,reach] at *; omega
theorem Zhg (op : BinOp) (t : TypeId) (x y : Operand) (a b : Option Addr) (l c m n : Nat) : (eqGuard op t x y (.slice a l c) (.slice b m n)).run P w = .ok () w:=by
 unfold eqGuard; split <;> simp
theorem Zjw {α : Type} {E : Enc α} {by_ : Nat} {t e ty' : TypeId} {x y : Operand} {v : Value} {l : List α} (hs : Sl E by_ G v l) (hu : P.underlying t = some (.slice e))
  (hw : Region.wanted ⟨some d, .binOp .eql t x y ty',ty,pos,af,g⟩ (ZI ops ρ) = true) (hx : ev ρ x = v) (hy : ev ρ y = .slice none 0 0)
  (kN : l = [] → K (Yq ρ d (.bool true)) w) (kS : K (Yq ρ d (.bool false)) w) : OW P ops ⟨some d, .binOp .eql t x y ty',ty,pos,af,g⟩ ρ w K:=by
 obtain ⟨a,cap,rfl,h1,h2,h3,h4⟩:=hs
 have run : (binOp .eql t (.slice a l.length cap) (.slice none 0 0)).run P w = .ok (.bool a.isNone) w:=by
  simp only [binOp]
  simp [run_equal_slice_nil w t e a l.length cap hu]
 have go : ∀ b,a.isNone = b → K (Yq ρ d (.bool b)) w → OW P ops ⟨some d, .binOp .eql t x y ty',ty,pos,af,g⟩ ρ w K:=fun b hb kk=>by
  subst hb
  refine WL.val hw ?_ rfl kk
  simp [execOp,hx,hy,Zhg,run,Result.andThen]
 cases a with
 | some a=>exact go false rfl kS
 | none=>
  refine go true rfl (kN ?_)
  cases l with
  | nil=>rfl
  | cons x l=>obtain ⟨p,hp,_⟩:=h4 0 x rfl; cases hp
end
end Go.Civ
namespace Go.Civ
set_option linter.unusedVariables false
section
variable {α : Type}
theorem Zjx {l : List α} {i : Nat} {x : α} (h : l[i]? = some x) (y : α) : (x :: l.set i y).Perm (y :: l):=by
 induction l generalizing i with
 | nil=>simp at h
 | cons z l ih=>
  cases i with
  | zero=>simp at h; subst h; exact List.Perm.swap _ _ _
  | succ i=>
   have:=ih (i:=i) (by simpa using h)
   simp only [List.set_cons_succ]
   exact (List.Perm.swap _ _ _).trans ((this.cons z).trans (List.Perm.swap _ _ _))
theorem Zis {l : List α} {i j : Nat} {x y : α} (hij : i ≠ j) (hi : l[i]? = some x) (hj : l[j]? = some y) : ((l.set i y).set j x).Perm l:=by
 have h1:=Zjx hi y
 have hj' : (l.set i y)[j]? = some y:=by rw [List.getElem?_set]; rw [if_neg hij]; exact hj
 have h2:=Zjx hj' x
 exact (List.perm_cons y).1 (h2.trans h1)
def Asc (pf : α → α → Int) (L : List α) (a i : Nat) : Prop:=∀ p q x y,a ≤ p → p < q → q < i → L[p]? = some x → L[q]? = some y → ¬ pf y x < 0
structure Ins (pf : α → α → Int) (l L : List α) (a b i : Nat) : Prop where
 perm : L.Perm l
 frame : ∀ p,p < a ∨ b ≤ p → L[p]? = l[p]?
 asc : Asc pf L a i
structure Ins2 (pf : α → α → Int) (l L : List α) (a b i j : Nat) : Prop where
 perm : L.Perm l
 frame : ∀ p,p < a ∨ b ≤ p → L[p]? = l[p]?
 inv : ∀ p q x y,a ≤ p → p < q → q ≤ i → q ≠ j → L[p]? = some x → L[q]? = some y → ¬ pf y x < 0
variable {pf : α → α → Int} {l L : List α} {a b i j : Nat}
theorem Ins.len (h : Ins pf l L a b i) : L.length = l.length:=h.perm.length_eq
theorem Ins2.len (h : Ins2 pf l L a b i j) : L.length = l.length:=h.perm.length_eq
theorem Ins.start : Ins pf l l a b (a + 1):=⟨List.Perm.refl _,fun _ _=>rfl,fun p q x y h1 h2 h3=>by omega⟩
theorem Ins.enter (h : Ins pf l L a b i) : Ins2 pf l L a b i i:=⟨h.perm,h.frame,fun p q x y h1 h2 h3 h4=>h.asc p q x y h1 h2 (by omega)⟩
theorem Ins2.step (h : Ins2 pf l L a b i j) (hA : ∀ x ∈ l,∀ y ∈ l,pf x y < 0 → ¬ pf y x < 0) (haj : a < j) (hji : j ≤ i) (hib : i < b) {x y : α} (hx : L[j]? = some x) (hy : L[j - 1]? = some y) (hlt : pf x y < 0) :
  Ins2 pf l ((L.set j y).set (j - 1) x) a b i (j - 1):=by
 have hjl : j < L.length:=(List.getElem?_eq_some_iff.1 hx).1
 have get : ∀ p,((L.set j y).set (j - 1) x)[p]? = if p = j - 1 then some x else if p = j then some y else L[p]? :=fun p=>by
  rw [List.getElem?_set]
  by_cases h1 : j - 1 = p
  ·subst h1; rw [if_pos rfl,if_pos (by simp; omega),if_pos rfl]
  ·rw [if_neg h1,if_neg (Ne.symm h1),List.getElem?_set]
   by_cases h2 : j = p
   ·subst h2; rw [if_pos rfl,if_pos hjl,if_pos rfl]
   ·rw [if_neg h2,if_neg (Ne.symm h2)]
 refine ⟨(Zis (by omega) hx hy).trans h.perm,fun p hp=>?_,fun p q u v h1 h2 h3 h4 hu hv=>?_⟩
 ·rw [get,if_neg (by omega),if_neg (by omega)]; exact h.frame p hp
 ·rw [get] at hu hv
  rw [if_neg (by omega)] at hv
  by_cases hq : q = j
  ·subst hq
   rw [if_pos rfl] at hv; obtain rfl:=Option.some.inj hv
   by_cases hp : p = q - 1
   ·rw [if_pos hp] at hu; obtain rfl:=Option.some.inj hu
    exact hA _ (h.perm.mem_iff.1 (List.mem_of_getElem? hx)) _ (h.perm.mem_iff.1 (List.mem_of_getElem? hy)) hlt
   ·rw [if_neg hp,if_neg (by omega)] at hu
    exact h.inv p (q - 1) u y h1 (by omega) (by omega) (by omega) hu hy
  ·rw [if_neg hq] at hv
   by_cases hp : p = j - 1
   ·subst hp; rw [if_pos rfl] at hu; obtain rfl:=Option.some.inj hu
    exact h.inv j q x v (by omega) (by omega) h3 hq hx hv
   ·rw [if_neg hp] at hu
    by_cases hp2 : p = j
    ·subst hp2; rw [if_pos rfl] at hu; obtain rfl:=Option.some.inj hu
     exact h.inv (p - 1) q y v (by omega) (by omega) h3 hq hy hv
    ·rw [if_neg hp2] at hu
     exact h.inv p q u v h1 h2 h3 hq hu hv
theorem Ins2.first (h : Ins2 pf l L a b i j) (hj : j ≤ a) : Ins pf l L a b (i + 1):=
 ⟨h.perm,h.frame,fun p q x y h1 h2 h3=>h.inv p q x y h1 h2 (by omega) (by omega)⟩
theorem Ins.zero {n : Nat} : Ins pf l l 0 n 0:=⟨List.Perm.refl _,fun _ _=>rfl,fun p q x y h1 h2 h3=>by omega⟩
end
end Go.Civ
