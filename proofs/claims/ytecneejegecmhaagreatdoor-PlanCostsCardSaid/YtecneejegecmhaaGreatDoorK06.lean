/- Lemmas. -/
import Derived.Test.YtecneejegecmhaaGreatDoorK05
import Derived.Deep.Slices
import Derived.SizedLaws
import Derived.OpenShut
import Derived.Laws.StructEq
import Derived.Laws.Cover3
set_option linter.unusedVariables false
set_option linter.unusedSimpArgs false
set_option linter.unnecessarySimpa false
namespace Go.Civ
open Go.RowKit Go.ChangeShapes Go.Deep
set_option linter.unusedVariables false
def GW (w : World) : GH:=fun b=>w.heap[b]?
theorem ZxD (w : World) : (GW w).In w:=fun _ _ h=>h
section
variable {H : Type} {enc : TypeId × Value → H} {P : Program} {w : World}
def ZeK (P : Program) (t : TypeId) (d : DataW H) : Prop:=∀ x ∈ DataW.weights P t d,x ≤ reachBytes
def Xl {α : Type} (enc : TypeId × Value → H) (P : Program) (w : World) (t : TypeId) (E : Enc α) : Prop:=
 ∀ fuel cs d pl,DataW.trod enc P w 0 (fun _=>true) true fuel t cs = some (d,pl) → ZeK P t d → ∃ x,E.rep (GW w) x cs
theorem Q7 {t : TypeId} (hu : P.underlying t = some (.int .i64)) : Xl enc P w t Enc.int:=fun fuel cs d pl h hl=>by
 obtain ⟨n,rfl,_,wf⟩:=DataW.trod_int hu h
 exact ⟨n,rfl,bounds_i64 wf⟩
theorem ZbP {t : TypeId} (hu : P.underlying t = some .string) : Xl enc P w t Enc.str:=fun fuel cs d pl h hl=>by
 obtain ⟨s,rfl,hd,_⟩:=DataW.trod_string hu h
 simp only [Prod.mk.injEq] at hd
 obtain ⟨rfl,_⟩:=hd
 have h1 : s.data.toList.length ≤ reachBytes:=hl _ (by simp [DataW.weights])
 refine ⟨s.data.toList,?_,Nat.le_trans h1 (by simp [reachBytes,reach])⟩
 simp [Za]
theorem Zve {t : TypeId} {f0 f1 : Field} {d0 d1 : DataW H} (hu : P.underlying t = some (.struct #[f0,f1])) (h : ZeK P t (.agg [d0,d1])) : ZeK P f0.type d0 ∧ ZeK P f1.type d1:=by
 have e : DataW.weights P t (.agg [d0,d1]) = d0.weights P f0.type ++ (d1.weights P f1.type ++ []):=by
  rw [DataW.weights,hu]; simp [DataW.weightsEach]
 refine ⟨fun x hx=>h x (by rw [e]; simp [hx]),fun x hx=>h x (by rw [e]; simp [hx])⟩
theorem ZeL {α β γ : Type} {A : Enc α} {B : Enc β} {f : γ → α × β} {g : α × β → γ} {t : TypeId} {f0 f1 : Field} (surj : ∀ p,f (g p) = p) (hu : P.underlying t = some (.struct #[f0,f1])) (o0 : f0.offset = 0) (c0 : P.cellsOf f0.type = A.n) (o1 : f1.offset = A.n) (c1 : P.cellsOf f1.type = B.n)
  (ct : P.cellsOf t = A.n + B.n) (hA : Xl enc P w f0.type A) (hB : Xl enc P w f1.type B) : Xl enc P w t ((Enc.pair A B).via f):=fun fuel cs d pl h hl=>by
 obtain ⟨y0,y1,n,hx,hlen,h0,h1⟩:=trod_struct2 hu h
 simp only [Prod.mk.injEq] at hx
 obtain ⟨rfl,_⟩:=hx
 obtain ⟨l0,l1⟩:=Zve hu hl
 rw [o0,c0,List.drop_zero] at h0
 rw [o1,c1] at h1
 obtain ⟨x0,r0⟩:=hA _ _ _ _ h0 l0
 obtain ⟨x1,r1⟩:=hB _ _ _ _ h1 l1
 rw [List.take_of_length_le (by rw [List.length_drop,hlen,ct]; omega)] at r1
 exact ⟨g (x0,x1),by show (Enc.pair A B).rep _ (f (g (x0,x1))) _; rw [surj]; exact ⟨_,_,(List.take_append_drop A.n cs).symm,r0,r1⟩⟩
theorem Zj4 {base : Nat} {spare : Nat → Bool} {held : Bool} {t : TypeId} {f0 f1 f2 : Field} {fuel : Nat} {cs : List Value} {x : DataW H × List MemPlace} (ht : P.underlying t = some (.struct #[f0,f1,f2])) (h : DataW.trod enc P w base spare held fuel t cs = some x) :
  ∃ y0 y1 y2 n,x = (.agg [y0.1,y1.1,y2.1],y0.2 ++ (y1.2 ++ y2.2)) ∧ cs.length = P.cellsOf t ∧ DataW.trod enc P w base spare held n f0.type ((cs.drop f0.offset).take (P.cellsOf f0.type)) = some y0 ∧
   DataW.trod enc P w base spare held n f1.type ((cs.drop f1.offset).take (P.cellsOf f1.type)) = some y1 ∧ DataW.trod enc P w base spare held n f2.type ((cs.drop f2.offset).take (P.cellsOf f2.type)) = some y2:=by
 obtain ⟨xs,n,_,rfl,hl,hlen,hf⟩:=DataW.trod_struct ht h
 match xs,hlen with
 | [y0,y1,y2],_=>exact ⟨y0,y1,y2,n,by simp,hl,by simpa using hf 0 f0 rfl,by simpa using hf 1 f1 rfl,by simpa using hf 2 f2 rfl⟩
theorem ZlU {α β γ δ : Type} {A : Enc α} {B : Enc β} {C : Enc γ} {f : δ → α × β × γ} {g : α × β × γ → δ} {t : TypeId} {f0 f1 f2 : Field} (surj : ∀ p,f (g p) = p) (hu : P.underlying t = some (.struct #[f0,f1,f2])) (o0 : f0.offset = 0) (c0 : P.cellsOf f0.type = A.n) (o1 : f1.offset = A.n) (c1 : P.cellsOf f1.type = B.n)
  (o2 : f2.offset = A.n + B.n) (c2 : P.cellsOf f2.type = C.n) (ct : P.cellsOf t = A.n + (B.n + C.n)) (hA : Xl enc P w f0.type A) (hB : Xl enc P w f1.type B) (hC : Xl enc P w f2.type C) : Xl enc P w t ((Enc.pair A (Enc.pair B C)).via f):=fun fuel cs d pl h hl=>by
 obtain ⟨y0,y1,y2,n,hx,hlen,h0,h1,h2⟩:=Zj4 hu h
 simp only [Prod.mk.injEq] at hx
 obtain ⟨rfl,_⟩:=hx
 have e : DataW.weights P t (.agg [y0.1,y1.1,y2.1]) = y0.1.weights P f0.type ++ (y1.1.weights P f1.type ++ (y2.1.weights P f2.type ++ [])):=by
  rw [DataW.weights,hu]; simp [DataW.weightsEach]
 rw [o0,c0,List.drop_zero] at h0
 rw [o1,c1] at h1
 rw [o2,c2] at h2
 obtain ⟨x0,r0⟩:=hA _ _ _ _ h0 fun x hx=>hl x (by rw [e]; simp [hx])
 obtain ⟨x1,r1⟩:=hB _ _ _ _ h1 fun x hx=>hl x (by rw [e]; simp [hx])
 obtain ⟨x2,r2⟩:=hC _ _ _ _ h2 fun x hx=>hl x (by rw [e]; simp [hx])
 rw [List.take_of_length_le (by rw [List.length_drop,hlen,ct]; omega)] at r2
 refine ⟨g (x0,x1,x2),?_⟩
 show (Enc.pair A (Enc.pair B C)).rep _ (f (g (x0,x1,x2))) _
 rw [surj]
 refine ⟨_,_,(List.take_append_drop A.n cs).symm,r0,(cs.drop A.n).take B.n,cs.drop (A.n + B.n),?_,r1,r2⟩
 rw [← List.drop_drop,List.take_append_drop]
theorem Za4 {e : TypeId} {d : DataW H} {x : Nat} : ∀ {ds : List (DataW H)},d ∈ ds → x ∈ d.weights P e → x ∈ DataW.weightsAll P e ds
 | [],h,_=>by simp at h
 | y :: ds,h,hx=>by
  rw [DataW.weightsAll]
  rcases List.mem_cons.1 h with rfl | h
  ·exact List.mem_append_left _ hx
  ·exact List.mem_append_right _ (Za4 h hx)
theorem Znh {α : Type} {A : Enc α} {t e : TypeId} (hu : P.underlying t = some (.array 2 e)) (ce : P.cellsOf e = A.n) (ct : P.cellsOf t = A.n + A.n) (hA : Xl enc P w e A) : Xl enc P w t (Enc.pair A A):=fun fuel cs d pl h hl=>by
 obtain ⟨xs,n,_,hx,hlen,hn,hf⟩:=DataW.trod_array hu h
 match xs,hn with
 | [y0,y1],_=>
  simp only [Prod.mk.injEq] at hx
  obtain ⟨rfl,_⟩:=hx
  have e' : DataW.weights P t (.agg [y0.1,y1.1]) = DataW.weightsAll P e [y0.1,y1.1]:=by rw [DataW.weights,hu]
  have h0:=hf 0 (by omega)
  have h1:=hf 1 (by omega)
  rw [ce,Nat.zero_mul,List.drop_zero] at h0
  rw [ce,Nat.one_mul] at h1
  obtain ⟨x0,r0⟩:=hA _ _ _ _ h0 fun x hx=>hl x (by show x ∈ DataW.weights P t (.agg [y0.1,y1.1]); rw [e']; exact Za4 (d:=y0.1) (by simp) hx)
  obtain ⟨x1,r1⟩:=hA _ _ _ _ h1 fun x hx=>hl x (by show x ∈ DataW.weights P t (.agg [y0.1,y1.1]); rw [e']; exact Za4 (d:=y1.1) (by simp) hx)
  rw [List.take_of_length_le (by rw [List.length_drop,hlen,ct]; omega)] at r1
  exact ⟨(x0,x1),_,_,(List.take_append_drop A.n cs).symm,r0,r1⟩
theorem Zi0 {α : Type} {p : Nat → α → Prop} : ∀ n,(∀ i,i < n → ∃ x,p i x) → ∃ l : List α,l.length = n ∧ ∀ (i : Nat) x,l[i]? = some x → p i x
 | 0,_=>⟨[],rfl,fun i x h=>by simp at h⟩
 | n + 1,h=>by
  obtain ⟨l,hl,hp⟩:=Zi0 n fun i hi=>h i (by omega)
  obtain ⟨y,hy⟩:=h n (by omega)
  refine ⟨l ++ [y],by simp [hl],fun i x hx=>?_⟩
  rw [List.getElem?_append] at hx
  split at hx
  ·exact hp i x hx
  ·rename_i hi
   have : i = n:=by
    have h1:=(List.getElem?_eq_some_iff.1 hx).1
    simp at h1; omega
   subst this
   rw [hl,Nat.sub_self] at hx
   simp at hx; subst hx; exact hy
theorem Zk3 {a : Addr} {n : Nat} {cs : List Value} (hs : a.spot = none) (h : w.cells? 0 a n = some cs) (hn : 0 < n) : Xh (GW w) a cs:=by
 obtain ⟨_,hl,hc⟩:=World.cells?_some h
 have key : ∀ (j : Nat) v,cs[j]? = some v → w.cell? ⟨a.block,a.off + j,none⟩ = some v:=fun j v hv=>by
  have hj : j < n:=by have:=(List.getElem?_eq_some_iff.1 hv).1; omega
  have:=hc j hj
  rw [YC _ _ hs,hv] at this; exact this
 obtain ⟨v0,hv0⟩ : ∃ v,cs[0]? = some v:=⟨_,List.getElem?_eq_getElem (by omega)⟩
 have h0:=key 0 v0 hv0
 unfold World.cell? at h0
 split at h0
 ·rename_i c e fz hb
  refine ⟨hs,c,e,fz,hb,fun j v hv=>?_⟩
  have:=key j v hv
  unfold World.cell? at this
  rw [hb] at this
  simpa using this
 ·simp at h0
theorem Zc7 {α : Type} {E : Enc α} {by_ : Nat} {t e : TypeId} (ht : P.underlying t = some (.slice e)) (hc : P.cellsOf e = E.n) (hn : 0 < E.n) (hby : P.bytesOf e = by_) (hb1 : 0 < by_) (hE : Xl enc P w e E) : Xl enc P w t (E.slice by_):=fun fuel cs d pl h hl=>by
 rcases open_slice ht h with ⟨rfl,hx⟩ | ⟨a,len,cap,m,n,D,Pl,rfl,hb',hlc,hm,hmm,hx,hel⟩
 ·exact ⟨[], .slice none 0 0,rfl,Sl.nil E by_ (GW w)⟩
 ·simp only [if_true] at hmm
  subst hmm
  simp only [Prod.mk.injEq] at hx
  obtain ⟨rfl,_⟩:=hx
  have ew : DataW.weights P t (.slice ((List.range len).map D) ((List.range (m - len)).map fun j=>D (len + j))) = (len + (m - len)) * by_ :: (DataW.weightsAll P e ((List.range len).map D) ++ DataW.weightsAll P e ((List.range (m - len)).map fun j=>D (len + j))):=by
   rw [DataW.weights,ht]; simp [hby]
  have hw : (len + (m - len)) * by_ ≤ reachBytes:=hl _ (by rw [ew]; simp)
  have hlen : len * by_ ≤ reach:=by
   have h1 : len * by_ ≤ (len + (m - len)) * by_:=Nat.mul_le_mul_right _ (by omega)
   have h2 : reachBytes ≤ reach:=by simp [reachBytes,reach]
   omega
  have hlen1 : len ≤ reach:=Nat.le_trans (Nat.le_mul_of_pos_right _ hb1) hlen
  rcases Nat.eq_zero_or_pos len with h0 | hpos
  ·subst h0
   exact ⟨[], .slice (some a) 0 m,rfl,some a,m,rfl,Nat.zero_le _,by simp,by simp,fun i x hx=>by simp at hx⟩
  ·have hspot : a.spot = none:=by
    obtain ⟨cs',h1,_⟩:=hel 0 (by omega)
    rw [hc] at h1
    obtain ⟨_,hl',hcc⟩:=World.cells?_some h1
    have:=hcc 0 hn
    obtain ⟨v0,hv0⟩ : ∃ v,cs'[0]? = some v:=⟨_,List.getElem?_eq_getElem (by omega)⟩
    rw [hv0] at this
    have:=World.cell?_spot this
    simpa [Addr.add] using this
   obtain ⟨l,hll,hp⟩:=Zi0 (α:=α) (p:=fun i x=>ZeD E (GW w) (a.add (i * E.n)) x) len fun i hi=>by
    obtain ⟨cs',h1,h2⟩:=hel i (by omega)
    obtain ⟨x,hx⟩:=hE _ _ _ _ h2 fun y hy=>hl y (by rw [ew]; exact List.mem_cons_of_mem _ (List.mem_append_left _ (Za4 (List.mem_map.2 ⟨i,List.mem_range.2 hi,rfl⟩) hy)))
    rw [hc] at h1
    exact ⟨x,cs',Zk3 (by rw [YC _ _ hspot]) h1 hn,hx⟩
   subst hll
   exact ⟨l,_,rfl,some a,m,rfl,hlc,hlen,hlen1,fun i x hx=>⟨a,rfl,hspot,hp i x hx⟩⟩
theorem Zni {α : Type} {E : Enc α} {t : TypeId} {v : Value} {d : DataW H} {p : List MemPlace} (hO : Xl enc P w t E) (hv : ∃ cs : Array Value,v = .agg cs) (h : DataW.Trod enc P w 0 (fun _=>true) true t v d p) (hl : ZeK P t d) : ∃ x cs,v = .agg cs.toArray ∧ E.rep (GW w) x cs:=by
 obtain ⟨fuel,hf⟩:=h
 obtain ⟨cs,rfl⟩:=hv
 obtain ⟨x,hx⟩:=hO _ _ _ _ hf hl
 exact ⟨x,cs.toList,by simp,hx⟩
theorem Zh5 {t : TypeId} {ts : List TypeId} {d : DataW H} {ds : List (DataW H)} (h : (DataW.weightsEach P (t :: ts) (d :: ds)).all (fun x=>decide (x ≤ reachBytes)) = true) : ZeK P t d ∧ (DataW.weightsEach P ts ds).all (fun x=>decide (x ≤ reachBytes)) = true:=by
 rw [DataW.weightsEach,List.all_append,Bool.and_eq_true] at h
 exact ⟨fun x hx=>by have:=List.all_eq_true.1 h.1 x hx; simpa using this,h.2⟩
end
end Go.Civ
namespace Go.Civ
set_option linter.unusedVariables false
def sgn (a b : Int) : Int:=if a < b then -1 else if b < a then 1 else 0
def cmpS (a b : List UInt8) : Int:=if Op.bytesLess a b then -1 else if a = b then 0 else 1
def cmpV (x y : Val) : Int:=if sgn x.k y.k ≠ 0 then sgn x.k y.k else if sgn x.n y.n ≠ 0 then sgn x.n y.n else cmpS x.s y.s
def okC (c : UInt8) : Bool:=decide (32 ≤ c.toNat) && decide (c.toNat ≤ 126)
def Yo (x : Val) : Bool:=
 if x.k = 1 then decide (x.s = [])
 else if x.k = 2 then decide (x.n = 0) && decide (x.s.length ≤ 30) && x.s.all okC
 else if x.k = 3 then decide (x.s = []) && (decide (x.n = 0) || decide (x.n = 1))
 else if x.k = 4 then decide (x.s = []) && decide (-62135596800 ≤ x.n) && decide (x.n ≤ 253402300800)
 else false
def ZaQ {α β : Type} (f : α → β → Int) : List α → List β → Int
 | [],[]=>0
 | [],_ :: _=>-1
 | _ :: _,[]=>1
 | x :: a,y :: b=>if f x y ≠ 0 then f x y else ZaQ f a b
def Zec (a b : List Val) : Int:=if a.all Yo && b.all Yo then ZaQ cmpV a b else 0
def eqF {α β : Type} (f : α → β → Bool) : List α → List β → Bool
 | [],[]=>true
 | x :: a,y :: b=>f x y && eqF f a b
 | _,_=>false
def ZjA (x : Int) : Bool:=decide (-4398046511104 ≤ x) && decide (x ≤ 4398046511104)
def Zd9 (s : Span) : Bool:=ZjA s.a && ZjA s.b && decide (s.a < s.b)
def ZF (s : Span) : Bool:=decide (-62135596800 ≤ s.a) && decide (s.a < s.b) && decide (s.b ≤ 253402300800)
theorem Zmj {G : GH} (x : Col) (h1 : x.name.length ≤ reach) (h2 : Zj x.kind) : ColE.rep G x [Za x.name, .int .i64 x.kind]:=⟨_,_,rfl,⟨rfl,h1⟩,rfl,h2⟩
theorem YX.bound {α : Type} {E : Enc α} {by_ : Nat} {e : TypeId} {G : GH} {v : Value} {l : List α} {o : Option (Nat × TypeId × List Value)} (h : YX E by_ e G v l o) : l.length ≤ reach:=by
 rcases h with ⟨_,_,rfl⟩ | ⟨b,cs,cap,xs,_,_,_,_,_,_,_,_,h9⟩
 ·simp [reach]
 ·exact h9
theorem Ys {α : Type} {P : α → Prop} {l : List α} {k : Nat} {y : α} (h : ∀ j,j < k → ∀ x,l[j]? = some x → P x) (hk : l[k]? = some y) (hy : P y) : ∀ j,j < k + 1 → ∀ x,l[j]? = some x → P x:=fun j hj x hx=>by
 by_cases e : j = k
 ·subst e; rw [hk] at hx; obtain rfl:=Option.some.inj hx; exact hy
 ·exact h j (by omega) x hx
theorem Zvf {α : Type} {P : α → Prop} {l : List α} {k : Nat} (h : ∀ j,j < k → ∀ x,l[j]? = some x → P x) (hk : l.length ≤ k) : ∀ x ∈ l,P x:=fun x hx=>by
 obtain ⟨j,hj⟩:=List.getElem?_of_mem hx
 exact h j (Nat.lt_of_lt_of_le (List.getElem?_eq_some_iff.1 hj).1 hk) x hj
theorem ZaB {α : Type} {p : α → Bool} {l : List α} {k : Nat} (h : ∀ j,j < k → ∀ x,l[j]? = some x → p x = false) (hk : l.length ≤ k) : Qi p l = -1:=
 Zo0 fun j x hj=>h j (Nat.lt_of_lt_of_le (List.getElem?_eq_some_iff.1 hj).1 hk) x hj
theorem Zew {α : Type} {p : α → Bool} {l : List α} {k : Nat} {x : α} (hk : l[k]? = some x) (hx : p x = false) : l.all p = false:=by
 rw [List.all_eq_false]; exact ⟨x,List.mem_of_getElem? hk,by simp [hx]⟩
theorem Zbk {α : Type} {p : α → Bool} {l : List α} {k : Nat} (h : ∀ j,j < k → ∀ x,l[j]? = some x → p x = true) (hk : l.length ≤ k) : l.all p = true:=by
 rw [List.all_eq_true]; exact Zvf h hk
theorem Zo1 {x : Val} (h2 : x.k = 2) (hn : x.n = 0) (hl : x.s.length ≤ 30) (hs : x.s.all okC = true) : Yo x = true:=by
 unfold Yo; rw [if_neg (by omega),if_pos h2]; simp [hn,hl,hs]
theorem Zk4 {x : Val} {k : Nat} {c : UInt8} (h2 : x.k = 2) (hk : x.s[k]? = some c) (hc : okC c = false) : Yo x = false:=by
 unfold Yo; rw [if_neg (by omega),if_pos h2,Zew hk hc]; simp
section
open Go.RowKit
variable {P : Program} {N : Nat} {Q : Exit → Env → World → Prop} {ρ : Env} {w : World} {ops : Array Oper} {rest : List Oper} {K : Env → World → Prop}
variable {d : Nat} {ty : TypeId} {pos : String} {af : Array Edge} {g : Option (Nat × Bool)}
theorem ZaC {t ty' : TypeId} {x y : Operand} {X Y : Array Value} {b : Bool} (h : ∀ w,(Op.equalIn 10000 t (.agg X) (.agg Y)).run P w = .ok b w) (hg : P.eqGuardType P.depth t = false)
  (hw : Region.wanted ⟨some d, .binOp .eql t x y ty',ty,pos,af,g⟩ (Zu ops ρ) = true) (hx : ev ρ x = .agg X) (hy : ev ρ y = .agg Y)
  (kk : K (ZQ ρ d (.bool b)) w) : OW P ops ⟨some d, .binOp .eql t x y ty',ty,pos,af,g⟩ ρ w K:=by
 refine WL.val hw ?_ rfl kk
 simp [execOp,hx,hy,run_eqGuard_agg w _ t _ _ X Y hg,run_eql_struct,h,Result.andThen]
theorem ZaZ {t ty' : TypeId} {x y : Operand} {X Y : Array Value} {b : Bool} (h : ∀ w,(Op.equalIn 10000 t (.agg X) (.agg Y)).run P w = .ok b w) (hg : P.eqGuardType P.depth t = false)
  (hw : Region.wanted ⟨some d, .binOp .neq t x y ty',ty,pos,af,g⟩ (Zu ops ρ) = true) (hx : ev ρ x = .agg X) (hy : ev ρ y = .agg Y)
  (kk : K (ZQ ρ d (.bool (!b))) w) : OW P ops ⟨some d, .binOp .neq t x y ty',ty,pos,af,g⟩ ρ w K:=by
 refine WL.val hw ?_ rfl kk
 simp [execOp,hx,hy,run_eqGuard_agg w _ t _ _ X Y hg,run_neq_struct,h,Result.andThen]
theorem Zjb {t ty' : TypeId} {x y : Operand} {X Y : Array Value} {b : Bool} (r : Bool) (h : ∀ w,(Op.equalIn 10000 t (.agg X) (.agg Y)).run P w = .ok b w) (hg : P.eqGuardType P.depth t = false) (hr : b = r)
  (hw : Region.wanted ⟨some d, .binOp .eql t x y ty',ty,pos,af,g⟩ (Zu ops ρ) = true) (hx : ev ρ x = .agg X) (hy : ev ρ y = .agg Y)
  (kk : K (ZQ ρ d (.bool r)) w) : OW P ops ⟨some d, .binOp .eql t x y ty',ty,pos,af,g⟩ ρ w K:=by
 subst hr; exact ZaC h hg hw hx hy kk
theorem Zbl {t ty' : TypeId} {x y : Operand} {X Y : Array Value} {b : Bool} (r : Bool) (h : ∀ w,(Op.equalIn 10000 t (.agg X) (.agg Y)).run P w = .ok b w) (hg : P.eqGuardType P.depth t = false) (hr : (!b) = r)
  (hw : Region.wanted ⟨some d, .binOp .neq t x y ty',ty,pos,af,g⟩ (Zu ops ρ) = true) (hx : ev ρ x = .agg X) (hy : ev ρ y = .agg Y)
  (kk : K (ZQ ρ d (.bool r)) w) : OW P ops ⟨some d, .binOp .neq t x y ty',ty,pos,af,g⟩ ρ w K:=by
 subst hr; exact ZaZ h hg hw hx hy kk
end
end Go.Civ
namespace Go.Civ
open Go.RowKit
set_option linter.unusedVariables false
abbrev OB:=Option (Nat × TypeId × List Value)
def blk : OB → List Nat | none=>[] | some p=>[p.1]
def ZjB (w w' : World) (G : GH) (o : OB) : Prop:=∀ p,o = some p → w.heap.size ≤ p.1 ∧ w'.heap[p.1]? = some (Zna p.2) ∧ G p.1 = none
def QJ (w : World) (G : GH) (o : OB) : Prop:=∀ p,o = some p → w.heap[p.1]? = some (Zna p.2) ∧ G p.1 = none
theorem FnI2.up {P : Program} {α β : Type} {A : GH → Value → α → Prop} {B : GH → Value → β → Prop} {fid : Nat} {cap : Array Value} {G G' : GH} {on : α → β → Prop} {pf : α → β → Int} (h : FnI2 P A B fid cap G on pf) (k : G.le G') : FnI2 P A B fid cap G' on pf:=
 ⟨h.body,fun G2 w' v u x y hle=>h.call G2 w' v u x y (k.trans hle)⟩
theorem FnB2.up {P : Program} {α β : Type} {A : GH → Value → α → Prop} {B : GH → Value → β → Prop} {fid : Nat} {cap : Array Value} {G G' : GH} {on : α → β → Prop} {pf : α → β → Bool} (h : FnB2 P A B fid cap G on pf) (k : G.le G') : FnB2 P A B fid cap G' on pf:=
 ⟨h.body,fun G2 w' v u x y hle=>h.call G2 w' v u x y (k.trans hle)⟩
section
variable {w0 w w' : World} {X : List Nat} {G0 G G' : GH} {L : Own} {o : OB}
theorem St.freshAt (h : St w0 [] G0 G L w) (i : Nat) (hi : L[i]? = some o) : ZjB w0 w G o:=fun p hp=>by
 subst hp; exact ⟨h.mine hi,h.own i p hi,(h.sep i p hi).2⟩
theorem St.lentAt (h : St w0 X G0 G L w) (i : Nat) (hi : L[i]? = some o) : QJ w G o:=fun p hp=>by
 subst hp; exact ⟨h.own i p hi,(h.sep i p hi).2⟩
theorem St.adoptO (h : St w0 X G0 G L w) (r : Res [] w G w' G') (ho : ZjB w w' G' o) : St w0 X G0 G' (o :: L) w':=by
 cases o with
 | none=>exact (h.call r).pad
 | some p=>
  obtain ⟨b,e,cs⟩:=p
  obtain ⟨h1,h2,h3⟩:=ho _ rfl
  exact h.adopt r h2 h1 h3
theorem St.lentO (h : G.In w) (ho : QJ w G o) : St w (blk o) G G [o] w:=by
 cases o with
 | none=>exact (St.start h).pad
 | some p=>
  obtain ⟨b,e,cs⟩:=p
  obtain ⟨h1,h2⟩:=ho _ rfl
  exact St.lent h h1 h2
theorem YX.cells1 {α : Type} {E : Enc α} {by_ : Nat} {e : TypeId} {v : Value} {l : List α} (h : YX E by_ e G v l o) : v.cells = [v].toArray:=by obtain ⟨a,cap,rfl⟩:=h.shape; rfl
theorem ElPtr.inj {α : Type} {E : Enc α} {v : Value} {n : Nat} {p q : Addr} (h : ElPtr E v n p) (k : ElPtr E v n q) : p = q:=by
 obtain ⟨a,l,c,rfl,_,rfl⟩:=h.ex
 obtain ⟨a',l',c',e,_,rfl⟩:=k.ex
 simp at e; rw [e.1]
theorem Sl.oneC {α : Type} {E : Enc α} {by_ : Nat} {v : Value} {l : List α} (h : Sl E by_ G v l) : v.oneCell' = true:=by obtain ⟨a,cap,rfl,_⟩:=h; rfl
theorem YX.oneC {α : Type} {E : Enc α} {by_ : Nat} {e : TypeId} {v : Value} {l : List α} (h : YX E by_ e G v l o) : v.oneCell' = true:=by obtain ⟨a,cap,rfl⟩:=h.shape; rfl
theorem YX.len {α : Type} {E : Enc α} {by_ : Nat} {e : TypeId} {v : Value} {l l' : List α} {o' : OB} (h1 : YX E by_ e G v l o) (h2 : YX E by_ e G' v l' o') : l'.length = l.length:=by
 obtain ⟨a,c,h⟩:=h1.shape
 obtain ⟨a',c',h'⟩:=h2.shape
 rw [h] at h'; simp at h'; omega
end
section
variable {P : Program} {N : Nat} {Q : Exit → Env → World → Prop} {ρ : Env} {w : World} {ops : Array Oper} {rest : List Oper} {K : Env → World → Prop}
variable {d : Nat} {ty : TypeId} {pos : String} {af : Array Edge} {g : Option (Nat × Bool)} {G : GH}
theorem Zh6 (op : BinOp) (t : TypeId) (x y : Operand) (a b : Option Addr) (l c m n : Nat) : (eqGuard op t x y (.slice a l c) (.slice b m n)).run P w = .ok () w:=by
 unfold eqGuard; split <;> simp
theorem Zk5 {α : Type} {E : Enc α} {by_ : Nat} {t e ty' : TypeId} {x y : Operand} {v : Value} {l : List α} (hs : Sl E by_ G v l) (hu : P.underlying t = some (.slice e))
  (hw : Region.wanted ⟨some d, .binOp .eql t x y ty',ty,pos,af,g⟩ (Zu ops ρ) = true) (hx : ev ρ x = v) (hy : ev ρ y = .slice none 0 0)
  (kN : l = [] → K (ZQ ρ d (.bool true)) w) (kS : K (ZQ ρ d (.bool false)) w) : OW P ops ⟨some d, .binOp .eql t x y ty',ty,pos,af,g⟩ ρ w K:=by
 obtain ⟨a,cap,rfl,h1,h2,h3,h4⟩:=hs
 have run : (binOp .eql t (.slice a l.length cap) (.slice none 0 0)).run P w = .ok (.bool a.isNone) w:=by
  simp only [binOp]
  simp [run_equal_slice_nil w t e a l.length cap hu]
 have go : ∀ b,a.isNone = b → K (ZQ ρ d (.bool b)) w → OW P ops ⟨some d, .binOp .eql t x y ty',ty,pos,af,g⟩ ρ w K:=fun b hb kk=>by
  subst hb
  refine WL.val hw ?_ rfl kk
  simp [execOp,hx,hy,Zh6,run,Result.andThen]
 cases a with
 | some a=>exact go false rfl kS
 | none=>
  refine go true rfl (kN ?_)
  cases l with
  | nil=>rfl
  | cons x l=>obtain ⟨p,hp,_⟩:=h4 0 x rfl; cases hp
end
end Go.Civ
namespace Go.Civ
set_option linter.unusedVariables false
section
variable {α : Type}
theorem Zk6 {l : List α} {i : Nat} {x : α} (h : l[i]? = some x) (y : α) : (x :: l.set i y).Perm (y :: l):=by
 induction l generalizing i with
 | nil=>simp at h
 | cons z l ih=>
  cases i with
  | zero=>simp at h; subst h; exact List.Perm.swap _ _ _
  | succ i=>
   have:=ih (i:=i) (by simpa using h)
   simp only [List.set_cons_succ]
   exact (List.Perm.swap _ _ _).trans ((this.cons z).trans (List.Perm.swap _ _ _))
theorem Zjc {l : List α} {i j : Nat} {x y : α} (hij : i ≠ j) (hi : l[i]? = some x) (hj : l[j]? = some y) : ((l.set i y).set j x).Perm l:=by
 have h1:=Zk6 hi y
 have hj' : (l.set i y)[j]? = some y:=by rw [List.getElem?_set]; rw [if_neg hij]; exact hj
 have h2:=Zk6 hj' x
 exact (List.perm_cons y).1 (h2.trans h1)
def Asc (pf : α → α → Int) (L : List α) (a i : Nat) : Prop:=∀ p q x y,a ≤ p → p < q → q < i → L[p]? = some x → L[q]? = some y → ¬ pf y x < 0
structure Ins (pf : α → α → Int) (l L : List α) (a b i : Nat) : Prop where
 perm : L.Perm l
 frame : ∀ p,p < a ∨ b ≤ p → L[p]? = l[p]?
 asc : Asc pf L a i
structure Ins2 (pf : α → α → Int) (l L : List α) (a b i j : Nat) : Prop where
 perm : L.Perm l
 frame : ∀ p,p < a ∨ b ≤ p → L[p]? = l[p]?
 inv : ∀ p q x y,a ≤ p → p < q → q ≤ i → q ≠ j → L[p]? = some x → L[q]? = some y → ¬ pf y x < 0
variable {pf : α → α → Int} {l L : List α} {a b i j : Nat}
theorem Ins.len (h : Ins pf l L a b i) : L.length = l.length:=h.perm.length_eq
theorem Ins2.len (h : Ins2 pf l L a b i j) : L.length = l.length:=h.perm.length_eq
theorem Ins.start : Ins pf l l a b (a + 1):=⟨List.Perm.refl _,fun _ _=>rfl,fun p q x y h1 h2 h3=>by omega⟩
theorem Ins.enter (h : Ins pf l L a b i) : Ins2 pf l L a b i i:=⟨h.perm,h.frame,fun p q x y h1 h2 h3 h4=>h.asc p q x y h1 h2 (by omega)⟩
theorem Ins2.step (h : Ins2 pf l L a b i j) (hA : ∀ x ∈ l,∀ y ∈ l,pf x y < 0 → ¬ pf y x < 0) (haj : a < j) (hji : j ≤ i) (hib : i < b) {x y : α} (hx : L[j]? = some x) (hy : L[j - 1]? = some y) (hlt : pf x y < 0) :
  Ins2 pf l ((L.set j y).set (j - 1) x) a b i (j - 1):=by
 have hjl : j < L.length:=(List.getElem?_eq_some_iff.1 hx).1
 have get : ∀ p,((L.set j y).set (j - 1) x)[p]? = if p = j - 1 then some x else if p = j then some y else L[p]? :=fun p=>by
  rw [List.getElem?_set]
  by_cases h1 : j - 1 = p
  ·subst h1; rw [if_pos rfl,if_pos (by simp; omega),if_pos rfl]
  ·rw [if_neg h1,if_neg (Ne.symm h1),List.getElem?_set]
   by_cases h2 : j = p
   ·subst h2; rw [if_pos rfl,if_pos hjl,if_pos rfl]
   ·rw [if_neg h2,if_neg (Ne.symm h2)]
 refine ⟨(Zjc (by omega) hx hy).trans h.perm,fun p hp=>?_,fun p q u v h1 h2 h3 h4 hu hv=>?_⟩
 ·rw [get,if_neg (by omega),if_neg (by omega)]; exact h.frame p hp
 ·rw [get] at hu hv
  rw [if_neg (by omega)] at hv
  by_cases hq : q = j
  ·subst hq
   rw [if_pos rfl] at hv; obtain rfl:=Option.some.inj hv
   by_cases hp : p = q - 1
   ·rw [if_pos hp] at hu; obtain rfl:=Option.some.inj hu
    exact hA _ (h.perm.mem_iff.1 (List.mem_of_getElem? hx)) _ (h.perm.mem_iff.1 (List.mem_of_getElem? hy)) hlt
   ·rw [if_neg hp,if_neg (by omega)] at hu
    exact h.inv p (q - 1) u y h1 (by omega) (by omega) (by omega) hu hy
  ·rw [if_neg hq] at hv
   by_cases hp : p = j - 1
   ·subst hp; rw [if_pos rfl] at hu; obtain rfl:=Option.some.inj hu
    exact h.inv j q x v (by omega) (by omega) h3 hq hx hv
   ·rw [if_neg hp] at hu
    by_cases hp2 : p = j
    ·subst hp2; rw [if_pos rfl] at hu; obtain rfl:=Option.some.inj hu
     exact h.inv (p - 1) q y v (by omega) (by omega) h3 hq hy hv
    ·rw [if_neg hp2] at hu
     exact h.inv p q u v h1 h2 h3 hq hu hv
theorem Ins2.first (h : Ins2 pf l L a b i j) (hj : j ≤ a) : Ins pf l L a b (i + 1):=
 ⟨h.perm,h.frame,fun p q x y h1 h2 h3=>h.inv p q x y h1 h2 (by omega) (by omega)⟩
theorem Ins.zero {n : Nat} : Ins pf l l 0 n 0:=⟨List.Perm.refl _,fun _ _=>rfl,fun p q x y h1 h2 h3=>by omega⟩
end
end Go.Civ
