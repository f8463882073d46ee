/- Lemmas. -/
import Derived.Test.YthgeclodflmiaaaGreatD05
import Derived.Test.YthgeclodflmiaaaGreatD06
import Derived.Deep.Slices
import Derived.SizedLaws
import Derived.OpenShut
import Derived.Laws.Cover3
namespace Go.Civ
open Go.RowKit Go.ChangeShapes Go.Deep
set_option linter.unusedVariables false
def GW (w : World) : GH:=fun b=>w.heap[b]?
theorem Zyu (w : World) : (GW w).In w:=fun _ _ h=>h
section
variable {H : Type} {enc : TypeId × Value → H} {P : Program} {w : World}
def Zd1 (P : Program) (t : TypeId) (d : DataW H) : Prop:=∀ x ∈ DataW.weights P t d,x ≤ reachBytes
def Xn {α : Type} (enc : TypeId × Value → H) (P : Program) (w : World) (t : TypeId) (E : Enc α) : Prop:=
 ∀ fuel cs d pl,DataW.trod enc P w 0 (fun _=>true) true fuel t cs = some (d,pl) → Zd1 P t d → ∃ x,E.rep (GW w) x cs
theorem ZaB {t : TypeId} (hu : P.underlying t = some (.int .i64)) : Xn enc P w t Enc.int:=fun fuel cs d pl h hl=>by
 obtain ⟨n,rfl,_,wf⟩:=DataW.trod_int hu h
 exact ⟨n,rfl,bounds_i64 wf⟩
theorem Zbl {t : TypeId} (hu : P.underlying t = some .string) : Xn enc P w t Enc.str:=fun fuel cs d pl h hl=>by
 obtain ⟨s,rfl,hd,_⟩:=DataW.trod_string hu h
 simp only [Prod.mk.injEq] at hd
 obtain ⟨rfl,_⟩:=hd
 have h1 : s.data.toList.length ≤ reachBytes:=hl _ (by simp [DataW.weights])
 refine ⟨s.data.toList,?_,Nat.le_trans h1 (by simp [reachBytes,reach])⟩
 simp [Za]
theorem Zw9 {t : TypeId} {f0 f1 : Field} {d0 d1 : DataW H} (hu : P.underlying t = some (.struct #[f0,f1])) (h : Zd1 P t (.agg [d0,d1])) : Zd1 P f0.type d0 ∧ Zd1 P f1.type d1:=by
 have e : DataW.weights P t (.agg [d0,d1]) = d0.weights P f0.type ++ (d1.weights P f1.type ++ []):=by
  rw [DataW.weights,hu]; simp [DataW.weightsEach]
 refine ⟨fun x hx=>h x (by rw [e]; simp [hx]),fun x hx=>h x (by rw [e]; simp [hx])⟩
theorem Zcn {α β γ : Type} {A : Enc α} {B : Enc β} {f : γ → α × β} {g : α × β → γ} {t : TypeId} {f0 f1 : Field} (surj : ∀ p,f (g p) = p) (hu : P.underlying t = some (.struct #[f0,f1])) (o0 : f0.offset = 0) (c0 : P.cellsOf f0.type = A.n) (o1 : f1.offset = A.n) (c1 : P.cellsOf f1.type = B.n)
  (ct : P.cellsOf t = A.n + B.n) (hA : Xn enc P w f0.type A) (hB : Xn enc P w f1.type B) : Xn enc P w t ((Enc.pair A B).via f):=fun fuel cs d pl h hl=>by
 obtain ⟨y0,y1,n,hx,hlen,h0,h1⟩:=trod_struct2 hu h
 simp only [Prod.mk.injEq] at hx
 obtain ⟨rfl,_⟩:=hx
 obtain ⟨l0,l1⟩:=Zw9 hu hl
 rw [o0,c0,List.drop_zero] at h0
 rw [o1,c1] at h1
 obtain ⟨x0,r0⟩:=hA _ _ _ _ h0 l0
 obtain ⟨x1,r1⟩:=hB _ _ _ _ h1 l1
 rw [List.take_of_length_le (by rw [List.length_drop,hlen,ct]; omega)] at r1
 exact ⟨g (x0,x1),by show (Enc.pair A B).rep _ (f (g (x0,x1))) _; rw [surj]; exact ⟨_,_,(List.take_append_drop A.n cs).symm,r0,r1⟩⟩
theorem ZkL {base : Nat} {spare : Nat → Bool} {held : Bool} {t : TypeId} {f0 f1 f2 : Field} {fuel : Nat} {cs : List Value} {x : DataW H × List MemPlace} (ht : P.underlying t = some (.struct #[f0,f1,f2])) (h : DataW.trod enc P w base spare held fuel t cs = some x) :
  ∃ y0 y1 y2 n,x = (.agg [y0.1,y1.1,y2.1],y0.2 ++ (y1.2 ++ y2.2)) ∧ cs.length = P.cellsOf t ∧ DataW.trod enc P w base spare held n f0.type ((cs.drop f0.offset).take (P.cellsOf f0.type)) = some y0 ∧
   DataW.trod enc P w base spare held n f1.type ((cs.drop f1.offset).take (P.cellsOf f1.type)) = some y1 ∧ DataW.trod enc P w base spare held n f2.type ((cs.drop f2.offset).take (P.cellsOf f2.type)) = some y2:=by
 obtain ⟨xs,n,_,rfl,hl,hlen,hf⟩:=DataW.trod_struct ht h
 match xs,hlen with
 | [y0,y1,y2],_=>exact ⟨y0,y1,y2,n,by simp,hl,by simpa using hf 0 f0 rfl,by simpa using hf 1 f1 rfl,by simpa using hf 2 f2 rfl⟩
theorem Zhl {α β γ δ : Type} {A : Enc α} {B : Enc β} {C : Enc γ} {f : δ → α × β × γ} {g : α × β × γ → δ} {t : TypeId} {f0 f1 f2 : Field} (surj : ∀ p,f (g p) = p) (hu : P.underlying t = some (.struct #[f0,f1,f2])) (o0 : f0.offset = 0) (c0 : P.cellsOf f0.type = A.n) (o1 : f1.offset = A.n) (c1 : P.cellsOf f1.type = B.n)
  (o2 : f2.offset = A.n + B.n) (c2 : P.cellsOf f2.type = C.n) (ct : P.cellsOf t = A.n + (B.n + C.n)) (hA : Xn enc P w f0.type A) (hB : Xn enc P w f1.type B) (hC : Xn enc P w f2.type C) : Xn enc P w t ((Enc.pair A (Enc.pair B C)).via f):=fun fuel cs d pl h hl=>by
 obtain ⟨y0,y1,y2,n,hx,hlen,h0,h1,h2⟩:=ZkL hu h
 simp only [Prod.mk.injEq] at hx
 obtain ⟨rfl,_⟩:=hx
 have e : DataW.weights P t (.agg [y0.1,y1.1,y2.1]) = y0.1.weights P f0.type ++ (y1.1.weights P f1.type ++ (y2.1.weights P f2.type ++ [])):=by
  rw [DataW.weights,hu]; simp [DataW.weightsEach]
 rw [o0,c0,List.drop_zero] at h0
 rw [o1,c1] at h1
 rw [o2,c2] at h2
 obtain ⟨x0,r0⟩:=hA _ _ _ _ h0 fun x hx=>hl x (by rw [e]; simp [hx])
 obtain ⟨x1,r1⟩:=hB _ _ _ _ h1 fun x hx=>hl x (by rw [e]; simp [hx])
 obtain ⟨x2,r2⟩:=hC _ _ _ _ h2 fun x hx=>hl x (by rw [e]; simp [hx])
 rw [List.take_of_length_le (by rw [List.length_drop,hlen,ct]; omega)] at r2
 refine ⟨g (x0,x1,x2),?_⟩
 show (Enc.pair A (Enc.pair B C)).rep _ (f (g (x0,x1,x2))) _
 rw [surj]
 refine ⟨_,_,(List.take_append_drop A.n cs).symm,r0,(cs.drop A.n).take B.n,cs.drop (A.n + B.n),?_,r1,r2⟩
 rw [← List.drop_drop,List.take_append_drop]
theorem ZcI {e : TypeId} {d : DataW H} {x : Nat} : ∀ {ds : List (DataW H)},d ∈ ds → x ∈ d.weights P e → x ∈ DataW.weightsAll P e ds
 | [],h,_=>by simp at h
 | y :: ds,h,hx=>by
  rw [DataW.weightsAll]
  rcases List.mem_cons.1 h with rfl | h
  ·exact List.mem_append_left _ hx
  ·exact List.mem_append_right _ (ZcI h hx)
theorem Zji {α : Type} {p : Nat → α → Prop} : ∀ n,(∀ i,i < n → ∃ x,p i x) → ∃ l : List α,l.length = n ∧ ∀ (i : Nat) x,l[i]? = some x → p i x
 | 0,_=>⟨[],rfl,fun i x h=>by simp at h⟩
 | n + 1,h=>by
  obtain ⟨l,hl,hp⟩:=Zji n fun i hi=>h i (by omega)
  obtain ⟨y,hy⟩:=h n (by omega)
  refine ⟨l ++ [y],by simp [hl],fun i x hx=>?_⟩
  rw [List.getElem?_append] at hx
  split at hx
  ·exact hp i x hx
  ·rename_i hi
   have : i = n:=by
    have h1:=(List.getElem?_eq_some_iff.1 hx).1
    simp at h1; omega
   subst this
   rw [hl,Nat.sub_self] at hx
   simp at hx; subst hx; exact hy
theorem Zl7 {a : Addr} {n : Nat} {cs : List Value} (hs : a.spot = none) (h : w.cells? 0 a n = some cs) (hn : 0 < n) : XC (GW w) a cs:=by
 obtain ⟨_,hl,hc⟩:=World.cells?_some h
 have key : ∀ (j : Nat) v,cs[j]? = some v → w.cell? ⟨a.block,a.off + j,none⟩ = some v:=fun j v hv=>by
  have hj : j < n:=by have:=(List.getElem?_eq_some_iff.1 hv).1; omega
  have:=hc j hj
  rw [YJ _ _ hs,hv] at this; exact this
 obtain ⟨v0,hv0⟩ : ∃ v,cs[0]? = some v:=⟨_,List.getElem?_eq_getElem (by omega)⟩
 have h0:=key 0 v0 hv0
 unfold World.cell? at h0
 split at h0
 ·rename_i c e fz hb
  refine ⟨hs,c,e,fz,hb,fun j v hv=>?_⟩
  have:=key j v hv
  unfold World.cell? at this
  rw [hb] at this
  simpa using this
 ·simp at h0
theorem ZaV {α : Type} {E : Enc α} {by_ : Nat} {t e : TypeId} (ht : P.underlying t = some (.slice e)) (hc : P.cellsOf e = E.n) (hn : 0 < E.n) (hby : P.bytesOf e = by_) (hb1 : 0 < by_) (hE : Xn enc P w e E) : Xn enc P w t (E.slice by_):=fun fuel cs d pl h hl=>by
 rcases open_slice ht h with ⟨rfl,hx⟩ | ⟨a,len,cap,m,n,D,Pl,rfl,hb',hlc,hm,hmm,hx,hel⟩
 ·exact ⟨[], .slice none 0 0,rfl,Sl.nil E by_ (GW w)⟩
 ·simp only [if_true] at hmm
  subst hmm
  simp only [Prod.mk.injEq] at hx
  obtain ⟨rfl,_⟩:=hx
  have ew : DataW.weights P t (.slice ((List.range len).map D) ((List.range (m - len)).map fun j=>D (len + j))) = (len + (m - len)) * by_ :: (DataW.weightsAll P e ((List.range len).map D) ++ DataW.weightsAll P e ((List.range (m - len)).map fun j=>D (len + j))):=by
   rw [DataW.weights,ht]; simp [hby]
  have hw : (len + (m - len)) * by_ ≤ reachBytes:=hl _ (by rw [ew]; simp)
  have hlen : len * by_ ≤ reach:=by
   have h1 : len * by_ ≤ (len + (m - len)) * by_:=Nat.mul_le_mul_right _ (by omega)
   have h2 : reachBytes ≤ reach:=by simp [reachBytes,reach]
   omega
  have hlen1 : len ≤ reach:=Nat.le_trans (Nat.le_mul_of_pos_right _ hb1) hlen
  rcases Nat.eq_zero_or_pos len with h0 | hpos
  ·subst h0
   exact ⟨[], .slice (some a) 0 m,rfl,some a,m,rfl,Nat.zero_le _,by simp,by simp,fun i x hx=>by simp at hx⟩
  ·have hspot : a.spot = none:=by
    obtain ⟨cs',h1,_⟩:=hel 0 (by omega)
    rw [hc] at h1
    obtain ⟨_,hl',hcc⟩:=World.cells?_some h1
    have:=hcc 0 hn
    obtain ⟨v0,hv0⟩ : ∃ v,cs'[0]? = some v:=⟨_,List.getElem?_eq_getElem (by omega)⟩
    rw [hv0] at this
    have:=World.cell?_spot this
    simpa [Addr.add] using this
   obtain ⟨l,hll,hp⟩:=Zji (α:=α) (p:=fun i x=>ZeY E (GW w) (a.add (i * E.n)) x) len fun i hi=>by
    obtain ⟨cs',h1,h2⟩:=hel i (by omega)
    obtain ⟨x,hx⟩:=hE _ _ _ _ h2 fun y hy=>hl y (by rw [ew]; exact List.mem_cons_of_mem _ (List.mem_append_left _ (ZcI (List.mem_map.2 ⟨i,List.mem_range.2 hi,rfl⟩) hy)))
    rw [hc] at h1
    exact ⟨x,cs',Zl7 (by rw [YJ _ _ hspot]) h1 hn,hx⟩
   subst hll
   exact ⟨l,_,rfl,some a,m,rfl,hlc,hlen,hlen1,fun i x hx=>⟨a,rfl,hspot,hp i x hx⟩⟩
theorem ZpU {α : Type} {E : Enc α} {by_ : Nat} {t : TypeId} {v : Value} {d : DataW H} {p : List MemPlace} (hO : Xn enc P w t (E.slice by_)) (hv : ∃ a len cap,v = .slice a len cap) (h : DataW.Trod enc P w 0 (fun _=>true) true t v d p) (hl : Zd1 P t d) : ∃ l,Sl E by_ (GW w) v l:=by
 obtain ⟨fuel,hf⟩:=h
 obtain ⟨a,len,cap,rfl⟩:=hv
 obtain ⟨l,v,hcs,hs⟩:=hO _ _ _ _ hf hl
 simp [Value.cells] at hcs
 subst hcs
 exact ⟨l,hs⟩
theorem Zik {α : Type} {E : Enc α} {t : TypeId} {v : Value} {d : DataW H} {p : List MemPlace} (hO : Xn enc P w t E) (hv : ∃ cs : Array Value,v = .agg cs) (h : DataW.Trod enc P w 0 (fun _=>true) true t v d p) (hl : Zd1 P t d) : ∃ x cs,v = .agg cs.toArray ∧ E.rep (GW w) x cs:=by
 obtain ⟨fuel,hf⟩:=h
 obtain ⟨cs,rfl⟩:=hv
 obtain ⟨x,hx⟩:=hO _ _ _ _ hf hl
 exact ⟨x,cs.toList,by simp,hx⟩
theorem Zco {t : TypeId} {ts : List TypeId} {d : DataW H} {ds : List (DataW H)} (h : (DataW.weightsEach P (t :: ts) (d :: ds)).all (fun x=>decide (x ≤ reachBytes)) = true) : Zd1 P t d ∧ (DataW.weightsEach P ts ds).all (fun x=>decide (x ≤ reachBytes)) = true:=by
 rw [DataW.weightsEach,List.all_append,Bool.and_eq_true] at h
 exact ⟨fun x hx=>by have:=List.all_eq_true.1 h.1 x hx; simpa using this,h.2⟩
end
end Go.Civ
namespace Go.Civ
open Go.RowKit
set_option linter.unusedVariables false
abbrev OB:=Option (Nat × TypeId × List Value)
def QU : OB → List Nat | none=>[] | some p=>[p.1]
def Zff (w w' : World) (G : GH) (o : OB) : Prop:=∀ p,o = some p → w.heap.size ≤ p.1 ∧ w'.heap[p.1]? = some (Zbb p.2) ∧ G p.1 = none
def XP (w : World) (G : GH) (o : OB) : Prop:=∀ p,o = some p → w.heap[p.1]? = some (Zbb p.2) ∧ G p.1 = none
theorem FnI2.up {P : Program} {α β : Type} {A : GH → Value → α → Prop} {B : GH → Value → β → Prop} {fid : Nat} {cap : Array Value} {G G' : GH} {on : α → β → Prop} {pf : α → β → Int} (h : FnI2 P A B fid cap G on pf) (k : G.le G') : FnI2 P A B fid cap G' on pf:=
 ⟨h.body,fun G2 w' v u x y hle=>h.call G2 w' v u x y (k.trans hle)⟩
theorem FnB2.up {P : Program} {α β : Type} {A : GH → Value → α → Prop} {B : GH → Value → β → Prop} {fid : Nat} {cap : Array Value} {G G' : GH} {on : α → β → Prop} {pf : α → β → Bool} (h : FnB2 P A B fid cap G on pf) (k : G.le G') : FnB2 P A B fid cap G' on pf:=
 ⟨h.body,fun G2 w' v u x y hle=>h.call G2 w' v u x y (k.trans hle)⟩
section
variable {w0 w w' : World} {X : List Nat} {G0 G G' : GH} {L : Own} {o : OB}
theorem St.freshAt (h : St w0 [] G0 G L w) (i : Nat) (hi : L[i]? = some o) : Zff w0 w G o:=fun p hp=>by
 subst hp; exact ⟨h.mine hi,h.own i p hi,(h.sep i p hi).2⟩
theorem St.lentAt (h : St w0 X G0 G L w) (i : Nat) (hi : L[i]? = some o) : XP w G o:=fun p hp=>by
 subst hp; exact ⟨h.own i p hi,(h.sep i p hi).2⟩
theorem St.adoptO (h : St w0 X G0 G L w) (r : Res [] w G w' G') (ho : Zff w w' G' o) : St w0 X G0 G' (o :: L) w':=by
 cases o with
 | none=>exact (h.call r).pad
 | some p=>
  obtain ⟨b,e,cs⟩:=p
  obtain ⟨h1,h2,h3⟩:=ho _ rfl
  exact h.adopt r h2 h1 h3
theorem St.lentO (h : G.In w) (ho : XP w G o) : St w (QU o) G G [o] w:=by
 cases o with
 | none=>exact (St.start h).pad
 | some p=>
  obtain ⟨b,e,cs⟩:=p
  obtain ⟨h1,h2⟩:=ho _ rfl
  exact St.lent h h1 h2
theorem St.callRow (h : St w0 X G0 G L w) (i : Nat) (hi : L[i]? = some o) {o' : OB} (r : Res (QU o) w G w' G') {α : Type} {E : Enc α} {by_ : Nat} {e : TypeId} {v : Value} {l l' : List α}
  (h1 : ZS E by_ e G v l o) (h2 : ZS E by_ e G' v l' o') (hl : XP w' G' o') : St w0 X G0 G' (L.set i o') w':=by
 rcases h1 with ⟨rfl,rfl,rfl⟩ | ⟨b,cs,cap,xs,rfl,rfl,_⟩
 ·rcases h2 with ⟨rfl,_,rfl⟩ | ⟨b,cs,cap,xs,rfl,hv,_⟩
  ·exact (h.call r).drop i
  ·simp at hv
 ·rcases h2 with ⟨rfl,hv,rfl⟩ | ⟨b',cs',cap',xs',rfl,hv,_⟩
  ·simp at hv
  ·simp at hv
   obtain ⟨rfl,_⟩:=hv
   exact h.callX i hi cs' r (hl _ rfl).1
theorem ZS.cells1 {α : Type} {E : Enc α} {by_ : Nat} {e : TypeId} {v : Value} {l : List α} (h : ZS E by_ e G v l o) : v.cells = [v].toArray:=by obtain ⟨a,cap,rfl⟩:=h.shape; rfl
theorem ElPtr.inj {α : Type} {E : Enc α} {v : Value} {n : Nat} {p q : Addr} (h : ElPtr E v n p) (k : ElPtr E v n q) : p = q:=by
 obtain ⟨a,l,c,rfl,_,rfl⟩:=h.ex
 obtain ⟨a',l',c',e,_,rfl⟩:=k.ex
 simp at e; rw [e.1]
theorem Sl.oneC {α : Type} {E : Enc α} {by_ : Nat} {v : Value} {l : List α} (h : Sl E by_ G v l) : v.oneCell' = true:=by obtain ⟨a,cap,rfl,_⟩:=h; rfl
theorem ZS.oneC {α : Type} {E : Enc α} {by_ : Nat} {e : TypeId} {v : Value} {l : List α} (h : ZS E by_ e G v l o) : v.oneCell' = true:=by obtain ⟨a,cap,rfl⟩:=h.shape; rfl
theorem ZS.len {α : Type} {E : Enc α} {by_ : Nat} {e : TypeId} {v : Value} {l l' : List α} {o' : OB} (h1 : ZS E by_ e G v l o) (h2 : ZS E by_ e G' v l' o') : l'.length = l.length:=by
 obtain ⟨a,c,h⟩:=h1.shape
 obtain ⟨a',c',h'⟩:=h2.shape
 rw [h] at h'; simp at h'; omega
end
section
variable {P : Program} {N : Nat} {Q : Exit → Env → World → Prop} {ρ : Env} {w : World} {ops : Array Oper} {rest : List Oper} {K : Env → World → Prop}
variable {d : Nat} {ty : TypeId} {pos : String} {af : Array Edge} {g : Option (Nat × Bool)} {G : GH}
theorem WL.addN {t ty' : TypeId} {x y : Operand} (a b : Nat) (hn : a + b ≤ 4 * reach)
  (hw : Region.wanted ⟨some d, .binOp .add t x y ty',ty,pos,af,g⟩ (Zv ops ρ) = true) (hx : ev ρ x = .int .i64 (a : Int)) (hy : ev ρ y = .int .i64 (b : Int))
  (kk : K (ZB ρ d (.int .i64 ((a + b : Nat) : Int))) w) : OW P ops ⟨some d, .binOp .add t x y ty',ty,pos,af,g⟩ ρ w K:=by
 refine Zb0 .add rfl a b hw hx hy ⟨?_,?_⟩ kk
 ·simp only [Ar.f]; omega
 ·simp only [Ar.f,reach] at *; omega
theorem ZgF {t ty' : TypeId} {x y : Operand} (a b : Nat) (hn : a * b ≤ 4 * reach)
  (hw : Region.wanted ⟨some d, .binOp .mul t x y ty',ty,pos,af,g⟩ (Zv ops ρ) = true) (hx : ev ρ x = .int .i64 (a : Int)) (hy : ev ρ y = .int .i64 (b : Int))
  (kk : K (ZB ρ d (.int .i64 ((a * b : Nat) : Int))) w) : OW P ops ⟨some d, .binOp .mul t x y ty',ty,pos,af,g⟩ ρ w K:=by
 have e : ((a : Int) * (b : Int)) = ((a * b : Nat) : Int):=by simp
 refine Zb0 .mul rfl a b hw hx hy ⟨?_,?_⟩ (by simp only [Ar.f,e]; exact kk)
 ·simp only [Ar.f,e]; omega
 ·simp only [Ar.f,e,reach] at *; omega
theorem Zim (op : BinOp) (t : TypeId) (x y : Operand) (a b : Option Addr) (l c m n : Nat) : (eqGuard op t x y (.slice a l c) (.slice b m n)).run P w = .ok () w:=by
 unfold eqGuard; split <;> simp
theorem Zfg {α : Type} {E : Enc α} {by_ : Nat} {t e ty' : TypeId} {x y : Operand} {v : Value} {l : List α} (hs : Sl E by_ G v l) (hu : P.underlying t = some (.slice e))
  (hw : Region.wanted ⟨some d, .binOp .eql t x y ty',ty,pos,af,g⟩ (Zv ops ρ) = true) (hx : ev ρ x = v) (hy : ev ρ y = .slice none 0 0)
  (kN : l = [] → K (ZB ρ d (.bool true)) w) (kS : K (ZB ρ d (.bool false)) w) : OW P ops ⟨some d, .binOp .eql t x y ty',ty,pos,af,g⟩ ρ w K:=by
 obtain ⟨a,cap,rfl,h1,h2,h3,h4⟩:=hs
 have run : (binOp .eql t (.slice a l.length cap) (.slice none 0 0)).run P w = .ok (.bool a.isNone) w:=by
  simp only [binOp]
  simp [run_equal_slice_nil w t e a l.length cap hu]
 have go : ∀ b,a.isNone = b → K (ZB ρ d (.bool b)) w → OW P ops ⟨some d, .binOp .eql t x y ty',ty,pos,af,g⟩ ρ w K:=fun b hb kk=>by
  subst hb
  refine WL.val hw ?_ rfl kk
  simp [execOp,hx,hy,Zim,run,Result.andThen]
 cases a with
 | some a=>exact go false rfl kS
 | none=>
  refine go true rfl (kN ?_)
  cases l with
  | nil=>rfl
  | cons x l=>obtain ⟨p,hp,_⟩:=h4 0 x rfl; cases hp
end
end Go.Civ
namespace Go.Civ
set_option linter.unusedVariables false
section
variable {α : Type}
theorem ZlB {l : List α} {i : Nat} {x : α} (h : l[i]? = some x) (y : α) : (x :: l.set i y).Perm (y :: l):=by
 induction l generalizing i with
 | nil=>simp at h
 | cons z l ih=>
  cases i with
  | zero=>simp at h; subst h; exact List.Perm.swap _ _ _
  | succ i=>
   have:=ih (i:=i) (by simpa using h)
   simp only [List.set_cons_succ]
   exact (List.Perm.swap _ _ _).trans ((this.cons z).trans (List.Perm.swap _ _ _))
theorem ZjN {l : List α} {i j : Nat} {x y : α} (hij : i ≠ j) (hi : l[i]? = some x) (hj : l[j]? = some y) : ((l.set i y).set j x).Perm l:=by
 have h1:=ZlB hi y
 have hj' : (l.set i y)[j]? = some y:=by rw [List.getElem?_set]; rw [if_neg hij]; exact hj
 have h2:=ZlB hj' x
 exact (List.perm_cons y).1 (h2.trans h1)
def Asc (pf : α → α → Int) (L : List α) (a i : Nat) : Prop:=∀ p q x y,a ≤ p → p < q → q < i → L[p]? = some x → L[q]? = some y → ¬ pf y x < 0
structure Ins (pf : α → α → Int) (l L : List α) (a b i : Nat) : Prop where
 perm : L.Perm l
 frame : ∀ p,p < a ∨ b ≤ p → L[p]? = l[p]?
 asc : Asc pf L a i
structure Ins2 (pf : α → α → Int) (l L : List α) (a b i j : Nat) : Prop where
 perm : L.Perm l
 frame : ∀ p,p < a ∨ b ≤ p → L[p]? = l[p]?
 inv : ∀ p q x y,a ≤ p → p < q → q ≤ i → q ≠ j → L[p]? = some x → L[q]? = some y → ¬ pf y x < 0
variable {pf : α → α → Int} {l L : List α} {a b i j : Nat}
theorem Ins.len (h : Ins pf l L a b i) : L.length = l.length:=h.perm.length_eq
theorem Ins2.len (h : Ins2 pf l L a b i j) : L.length = l.length:=h.perm.length_eq
theorem Ins.start : Ins pf l l a b (a + 1):=⟨List.Perm.refl _,fun _ _=>rfl,fun p q x y h1 h2 h3=>by omega⟩
theorem Ins.enter (h : Ins pf l L a b i) : Ins2 pf l L a b i i:=⟨h.perm,h.frame,fun p q x y h1 h2 h3 h4=>h.asc p q x y h1 h2 (by omega)⟩
theorem Ins2.step (h : Ins2 pf l L a b i j) (hA : ∀ x ∈ l,∀ y ∈ l,pf x y < 0 → ¬ pf y x < 0) (haj : a < j) (hji : j ≤ i) (hib : i < b) {x y : α} (hx : L[j]? = some x) (hy : L[j - 1]? = some y) (hlt : pf x y < 0) :
  Ins2 pf l ((L.set j y).set (j - 1) x) a b i (j - 1):=by
 have hjl : j < L.length:=(List.getElem?_eq_some_iff.1 hx).1
 have get : ∀ p,((L.set j y).set (j - 1) x)[p]? = if p = j - 1 then some x else if p = j then some y else L[p]? :=fun p=>by
  rw [List.getElem?_set]
  by_cases h1 : j - 1 = p
  ·subst h1; rw [if_pos rfl,if_pos (by simp; omega),if_pos rfl]
  ·rw [if_neg h1,if_neg (Ne.symm h1),List.getElem?_set]
   by_cases h2 : j = p
   ·subst h2; rw [if_pos rfl,if_pos hjl,if_pos rfl]
   ·rw [if_neg h2,if_neg (Ne.symm h2)]
 refine ⟨(ZjN (by omega) hx hy).trans h.perm,fun p hp=>?_,fun p q u v h1 h2 h3 h4 hu hv=>?_⟩
 ·rw [get,if_neg (by omega),if_neg (by omega)]; exact h.frame p hp
 ·rw [get] at hu hv
  rw [if_neg (by omega)] at hv
  by_cases hq : q = j
  ·subst hq
   rw [if_pos rfl] at hv; obtain rfl:=Option.some.inj hv
   by_cases hp : p = q - 1
   ·rw [if_pos hp] at hu; obtain rfl:=Option.some.inj hu
    exact hA _ (h.perm.mem_iff.1 (List.mem_of_getElem? hx)) _ (h.perm.mem_iff.1 (List.mem_of_getElem? hy)) hlt
   ·rw [if_neg hp,if_neg (by omega)] at hu
    exact h.inv p (q - 1) u y h1 (by omega) (by omega) (by omega) hu hy
  ·rw [if_neg hq] at hv
   by_cases hp : p = j - 1
   ·subst hp; rw [if_pos rfl] at hu; obtain rfl:=Option.some.inj hu
    exact h.inv j q x v (by omega) (by omega) h3 hq hx hv
   ·rw [if_neg hp] at hu
    by_cases hp2 : p = j
    ·subst hp2; rw [if_pos rfl] at hu; obtain rfl:=Option.some.inj hu
     exact h.inv (p - 1) q y v (by omega) (by omega) h3 hq hy hv
    ·rw [if_neg hp2] at hu
     exact h.inv p q u v h1 h2 h3 hq hu hv
theorem Ins2.first (h : Ins2 pf l L a b i j) (hj : j ≤ a) : Ins pf l L a b (i + 1):=
 ⟨h.perm,h.frame,fun p q x y h1 h2 h3=>h.inv p q x y h1 h2 (by omega) (by omega)⟩
theorem Ins.zero {n : Nat} : Ins pf l l 0 n 0:=⟨List.Perm.refl _,fun _ _=>rfl,fun p q x y h1 h2 h3=>by omega⟩
end
end Go.Civ
