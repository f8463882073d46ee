/- Lemmas. -/
import Derived.Test.YtcopkjhdncdnmaaGreatDoorP06
import Derived.Deep.Slices
import Derived.SizedLaws
import Derived.OpenShut
set_option linter.unusedSimpArgs false
namespace Go.Civ
open Go.RowKit Go.ChangeShapes Go.Deep
set_option linter.unusedVariables false
def GW (w : World) : GH:=fun b=>w.heap[b]?
theorem Zsd (w : World) : (GW w).In w:=fun _ _ h=>h
section
variable {H : Type} {enc : TypeId × Value → H} {P : Program} {w : World}
def ZdW (P : Program) (t : TypeId) (d : DataW H) : Prop:=∀ x ∈ DataW.weights P t d,x ≤ reachBytes
def Xs {α : Type} (enc : TypeId × Value → H) (P : Program) (w : World) (t : TypeId) (E : Enc α) : Prop:=
 ∀ fuel cs d pl,DataW.trod enc P w 0 (fun _=>true) true fuel t cs = some (d,pl) → ZdW P t d → ∃ x,E.rep (GW w) x cs
theorem Q0 {t : TypeId} (hu : P.underlying t = some (.int .i64)) : Xs enc P w t Enc.int:=fun fuel cs d pl h hl=>by
 obtain ⟨n,rfl,_,wf⟩:=DataW.trod_int hu h
 exact ⟨n,rfl,bounds_i64 wf⟩
theorem Za3 {t : TypeId} (hu : P.underlying t = some .string) : Xs enc P w t Enc.str:=fun fuel cs d pl h hl=>by
 obtain ⟨s,rfl,hd,_⟩:=DataW.trod_string hu h
 simp only [Prod.mk.injEq] at hd
 obtain ⟨rfl,_⟩:=hd
 have h1 : s.data.toList.length ≤ reachBytes:=hl _ (by simp [DataW.weights])
 refine ⟨s.data.toList,?_,Nat.le_trans h1 (by simp [reachBytes,reach])⟩
 simp [Zb]
theorem ZqG {t : TypeId} {f0 f1 : Field} {d0 d1 : DataW H} (hu : P.underlying t = some (.struct #[f0,f1])) (h : ZdW P t (.agg [d0,d1])) : ZdW P f0.type d0 ∧ ZdW P f1.type d1:=by
 have e : DataW.weights P t (.agg [d0,d1]) = d0.weights P f0.type ++ (d1.weights P f1.type ++ []):=by
  rw [DataW.weights,hu]; simp [DataW.weightsEach]
 refine ⟨fun x hx=>h x (by rw [e]; simp [hx]),fun x hx=>h x (by rw [e]; simp [hx])⟩
theorem Zfc {α β γ : Type} {A : Enc α} {B : Enc β} {f : γ → α × β} {g : α × β → γ} {t : TypeId} {f0 f1 : Field} (surj : ∀ p,f (g p) = p) (hu : P.underlying t = some (.struct #[f0,f1])) (o0 : f0.offset = 0) (c0 : P.cellsOf f0.type = A.n) (o1 : f1.offset = A.n) (c1 : P.cellsOf f1.type = B.n)
  (ct : P.cellsOf t = A.n + B.n) (hA : Xs enc P w f0.type A) (hB : Xs enc P w f1.type B) : Xs enc P w t ((Enc.pair A B).via f):=fun fuel cs d pl h hl=>by
 obtain ⟨y0,y1,n,hx,hlen,h0,h1⟩:=trod_struct2 hu h
 simp only [Prod.mk.injEq] at hx
 obtain ⟨rfl,_⟩:=hx
 obtain ⟨l0,l1⟩:=ZqG hu hl
 rw [o0,c0,List.drop_zero] at h0
 rw [o1,c1] at h1
 obtain ⟨x0,r0⟩:=hA _ _ _ _ h0 l0
 obtain ⟨x1,r1⟩:=hB _ _ _ _ h1 l1
 rw [List.take_of_length_le (by rw [List.length_drop,hlen,ct]; omega)] at r1
 exact ⟨g (x0,x1),by show (Enc.pair A B).rep _ (f (g (x0,x1))) _; rw [surj]; exact ⟨_,_,(List.take_append_drop A.n cs).symm,r0,r1⟩⟩
theorem ZiI {base : Nat} {spare : Nat → Bool} {held : Bool} {t : TypeId} {f0 f1 f2 : Field} {fuel : Nat} {cs : List Value} {x : DataW H × List MemPlace} (ht : P.underlying t = some (.struct #[f0,f1,f2])) (h : DataW.trod enc P w base spare held fuel t cs = some x) :
  ∃ y0 y1 y2 n,x = (.agg [y0.1,y1.1,y2.1],y0.2 ++ (y1.2 ++ y2.2)) ∧ cs.length = P.cellsOf t ∧ DataW.trod enc P w base spare held n f0.type ((cs.drop f0.offset).take (P.cellsOf f0.type)) = some y0 ∧
   DataW.trod enc P w base spare held n f1.type ((cs.drop f1.offset).take (P.cellsOf f1.type)) = some y1 ∧ DataW.trod enc P w base spare held n f2.type ((cs.drop f2.offset).take (P.cellsOf f2.type)) = some y2:=by
 obtain ⟨xs,n,_,rfl,hl,hlen,hf⟩:=DataW.trod_struct ht h
 match xs,hlen with
 | [y0,y1,y2],_=>exact ⟨y0,y1,y2,n,by simp,hl,by simpa using hf 0 f0 rfl,by simpa using hf 1 f1 rfl,by simpa using hf 2 f2 rfl⟩
theorem ZkC {α β γ δ : Type} {A : Enc α} {B : Enc β} {C : Enc γ} {f : δ → α × β × γ} {g : α × β × γ → δ} {t : TypeId} {f0 f1 f2 : Field} (surj : ∀ p,f (g p) = p) (hu : P.underlying t = some (.struct #[f0,f1,f2])) (o0 : f0.offset = 0) (c0 : P.cellsOf f0.type = A.n) (o1 : f1.offset = A.n) (c1 : P.cellsOf f1.type = B.n)
  (o2 : f2.offset = A.n + B.n) (c2 : P.cellsOf f2.type = C.n) (ct : P.cellsOf t = A.n + (B.n + C.n)) (hA : Xs enc P w f0.type A) (hB : Xs enc P w f1.type B) (hC : Xs enc P w f2.type C) : Xs enc P w t ((Enc.pair A (Enc.pair B C)).via f):=fun fuel cs d pl h hl=>by
 obtain ⟨y0,y1,y2,n,hx,hlen,h0,h1,h2⟩:=ZiI hu h
 simp only [Prod.mk.injEq] at hx
 obtain ⟨rfl,_⟩:=hx
 have e : DataW.weights P t (.agg [y0.1,y1.1,y2.1]) = y0.1.weights P f0.type ++ (y1.1.weights P f1.type ++ (y2.1.weights P f2.type ++ [])):=by
  rw [DataW.weights,hu]; simp [DataW.weightsEach]
 rw [o0,c0,List.drop_zero] at h0
 rw [o1,c1] at h1
 rw [o2,c2] at h2
 obtain ⟨x0,r0⟩:=hA _ _ _ _ h0 fun x hx=>hl x (by rw [e]; simp [hx])
 obtain ⟨x1,r1⟩:=hB _ _ _ _ h1 fun x hx=>hl x (by rw [e]; simp [hx])
 obtain ⟨x2,r2⟩:=hC _ _ _ _ h2 fun x hx=>hl x (by rw [e]; simp [hx])
 rw [List.take_of_length_le (by rw [List.length_drop,hlen,ct]; omega)] at r2
 refine ⟨g (x0,x1,x2),?_⟩
 show (Enc.pair A (Enc.pair B C)).rep _ (f (g (x0,x1,x2))) _
 rw [surj]
 refine ⟨_,_,(List.take_append_drop A.n cs).symm,r0,(cs.drop A.n).take B.n,cs.drop (A.n + B.n),?_,r1,r2⟩
 rw [← List.drop_drop,List.take_append_drop]
theorem Zcv {e : TypeId} {d : DataW H} {x : Nat} : ∀ {ds : List (DataW H)},d ∈ ds → x ∈ d.weights P e → x ∈ DataW.weightsAll P e ds
 | [],h,_=>by simp at h
 | y :: ds,h,hx=>by
  rw [DataW.weightsAll]
  rcases List.mem_cons.1 h with rfl | h
  ·exact List.mem_append_left _ hx
  ·exact List.mem_append_right _ (Zcv h hx)
theorem ZhN {α : Type} {p : Nat → α → Prop} : ∀ n,(∀ i,i < n → ∃ x,p i x) → ∃ l : List α,l.length = n ∧ ∀ (i : Nat) x,l[i]? = some x → p i x
 | 0,_=>⟨[],rfl,fun i x h=>by simp at h⟩
 | n + 1,h=>by
  obtain ⟨l,hl,hp⟩:=ZhN n fun i hi=>h i (by omega)
  obtain ⟨y,hy⟩:=h n (by omega)
  refine ⟨l ++ [y],by simp [hl],fun i x hx=>?_⟩
  rw [List.getElem?_append] at hx
  split at hx
  ·exact hp i x hx
  ·rename_i hi
   have : i = n:=by
    have h1:=(List.getElem?_eq_some_iff.1 hx).1
    simp at h1; omega
   subst this
   rw [hl,Nat.sub_self] at hx
   simp at hx; subst hx; exact hy
theorem Zjv {a : Addr} {n : Nat} {cs : List Value} (hs : a.spot = none) (h : w.cells? 0 a n = some cs) (hn : 0 < n) : YC (GW w) a cs:=by
 obtain ⟨_,hl,hc⟩:=World.cells?_some h
 have key : ∀ (j : Nat) v,cs[j]? = some v → w.cell? ⟨a.block,a.off + j,none⟩ = some v:=fun j v hv=>by
  have hj : j < n:=by have:=(List.getElem?_eq_some_iff.1 hv).1; omega
  have:=hc j hj
  rw [X1 _ _ hs,hv] at this; exact this
 obtain ⟨v0,hv0⟩ : ∃ v,cs[0]? = some v:=⟨_,List.getElem?_eq_getElem (by omega)⟩
 have h0:=key 0 v0 hv0
 unfold World.cell? at h0
 split at h0
 ·rename_i c e fz hb
  refine ⟨hs,c,e,fz,hb,fun j v hv=>?_⟩
  have:=key j v hv
  unfold World.cell? at this
  rw [hb] at this
  simpa using this
 ·simp at h0
theorem Zc3 {α : Type} {E : Enc α} {by_ : Nat} {t e : TypeId} (ht : P.underlying t = some (.slice e)) (hc : P.cellsOf e = E.n) (hn : 0 < E.n) (hby : P.bytesOf e = by_) (hb1 : 0 < by_) (hE : Xs enc P w e E) : Xs enc P w t (E.slice by_):=fun fuel cs d pl h hl=>by
 rcases open_slice ht h with ⟨rfl,hx⟩ | ⟨a,len,cap,m,n,D,Pl,rfl,hb',hlc,hm,hmm,hx,hel⟩
 ·exact ⟨[], .slice none 0 0,rfl,Sl.nil E by_ (GW w)⟩
 ·simp only [if_true] at hmm
  subst hmm
  simp only [Prod.mk.injEq] at hx
  obtain ⟨rfl,_⟩:=hx
  have ew : DataW.weights P t (.slice ((List.range len).map D) ((List.range (m - len)).map fun j=>D (len + j))) = (len + (m - len)) * by_ :: (DataW.weightsAll P e ((List.range len).map D) ++ DataW.weightsAll P e ((List.range (m - len)).map fun j=>D (len + j))):=by
   rw [DataW.weights,ht]; simp [hby]
  have hw : (len + (m - len)) * by_ ≤ reachBytes:=hl _ (by rw [ew]; simp)
  have hlen : len * by_ ≤ reach:=by
   have h1 : len * by_ ≤ (len + (m - len)) * by_:=Nat.mul_le_mul_right _ (by omega)
   have h2 : reachBytes ≤ reach:=by simp [reachBytes,reach]
   omega
  have hlen1 : len ≤ reach:=Nat.le_trans (Nat.le_mul_of_pos_right _ hb1) hlen
  rcases Nat.eq_zero_or_pos len with h0 | hpos
  ·subst h0
   exact ⟨[], .slice (some a) 0 m,rfl,some a,m,rfl,Nat.zero_le _,by simp,by simp,fun i x hx=>by simp at hx⟩
  ·have hspot : a.spot = none:=by
    obtain ⟨cs',h1,_⟩:=hel 0 (by omega)
    rw [hc] at h1
    obtain ⟨_,hl',hcc⟩:=World.cells?_some h1
    have:=hcc 0 hn
    obtain ⟨v0,hv0⟩ : ∃ v,cs'[0]? = some v:=⟨_,List.getElem?_eq_getElem (by omega)⟩
    rw [hv0] at this
    have:=World.cell?_spot this
    simpa [Addr.add] using this
   obtain ⟨l,hll,hp⟩:=ZhN (α:=α) (p:=fun i x=>ZeW E (GW w) (a.add (i * E.n)) x) len fun i hi=>by
    obtain ⟨cs',h1,h2⟩:=hel i (by omega)
    obtain ⟨x,hx⟩:=hE _ _ _ _ h2 fun y hy=>hl y (by rw [ew]; exact List.mem_cons_of_mem _ (List.mem_append_left _ (Zcv (List.mem_map.2 ⟨i,List.mem_range.2 hi,rfl⟩) hy)))
    rw [hc] at h1
    exact ⟨x,cs',Zjv (by rw [X1 _ _ hspot]) h1 hn,hx⟩
   subst hll
   exact ⟨l,_,rfl,some a,m,rfl,hlc,hlen,hlen1,fun i x hx=>⟨a,rfl,hspot,hp i x hx⟩⟩
theorem ZmJ {α : Type} {E : Enc α} {by_ : Nat} {t : TypeId} {v : Value} {d : DataW H} {p : List MemPlace} (hO : Xs enc P w t (E.slice by_)) (hv : ∃ a len cap,v = .slice a len cap) (h : DataW.Trod enc P w 0 (fun _=>true) true t v d p) (hl : ZdW P t d) : ∃ l,Sl E by_ (GW w) v l:=by
 obtain ⟨fuel,hf⟩:=h
 obtain ⟨a,len,cap,rfl⟩:=hv
 obtain ⟨l,v,hcs,hs⟩:=hO _ _ _ _ hf hl
 simp [Value.cells] at hcs
 subst hcs
 exact ⟨l,hs⟩
theorem Zhe {t : TypeId} {ts : List TypeId} {d : DataW H} {ds : List (DataW H)} (h : (DataW.weightsEach P (t :: ts) (d :: ds)).all (fun x=>decide (x ≤ reachBytes)) = true) : ZdW P t d ∧ (DataW.weightsEach P ts ds).all (fun x=>decide (x ≤ reachBytes)) = true:=by
 rw [DataW.weightsEach,List.all_append,Bool.and_eq_true] at h
 exact ⟨fun x hx=>by have:=List.all_eq_true.1 h.1 x hx; simpa using this,h.2⟩
end
end Go.Civ
