/- Lemmas. -/
import Derived.Test.YthgeclodflmiaaaGreatK06
import Derived.Test.YthgeclodflmiaaaGreatK08
import Derived.Test.YthgeclodflmiaaaGreatK10
import Derived.Deep.Slices
import Derived.SizedLaws
import Derived.OpenShut
import Derived.Lib.SlicesCompact
import Derived.Shelf.Sort.Plain
namespace Go.Civ
open Go.RowKit Go.ChangeShapes Go.Deep
set_option linter.unusedVariables false
def GW (w : World) : GH:=fun b=>w.heap[b]?
theorem GW_in (w : World) : (GW w).In w:=fun _ _ h=>h
section
variable {H : Type} {enc : TypeId × Value → H} {P : Program} {w : World}
def Light (P : Program) (t : TypeId) (d : DataW H) : Prop:=∀ x ∈ DataW.weights P t d,x ≤ reachBytes
def Opens {α : Type} (enc : TypeId × Value → H) (P : Program) (w : World) (t : TypeId) (E : Enc α) : Prop:=
  ∀ fuel cs d pl,DataW.trod enc P w 0 (fun _=>true) true fuel t cs = some (d,pl) → Light P t d → ∃ x,E.rep (GW w) x cs
theorem opens_int {t : TypeId} (hu : P.underlying t = some (.int .i64)) : Opens enc P w t Enc.int:=fun fuel cs d pl h hl=>by
  obtain ⟨n,rfl,_,wf⟩:=DataW.trod_int hu h
  exact ⟨n,rfl,bounds_i64 wf⟩
theorem opens_str {t : TypeId} (hu : P.underlying t = some .string) : Opens enc P w t Enc.str:=fun fuel cs d pl h hl=>by
  obtain ⟨s,rfl,hd,_⟩:=DataW.trod_string hu h
  simp only [Prod.mk.injEq] at hd
  obtain ⟨rfl,_⟩:=hd
  have h1 : s.data.toList.length ≤ reachBytes:=hl _ (by simp [DataW.weights])
  refine ⟨s.data.toList,?_,Nat.le_trans h1 (by simp [reachBytes,reach])⟩
  simp [strV]
theorem light2 {t : TypeId} {f0 f1 : Field} {d0 d1 : DataW H} (hu : P.underlying t = some (.struct #[f0,f1])) (h : Light P t (.agg [d0,d1])) : Light P f0.type d0 ∧ Light P f1.type d1:=by
  have e : DataW.weights P t (.agg [d0,d1]) = d0.weights P f0.type ++ (d1.weights P f1.type ++ []):=by
    rw [DataW.weights,hu]; simp [DataW.weightsEach]
  refine ⟨fun x hx=>h x (by rw [e]; simp [hx]),fun x hx=>h x (by rw [e]; simp [hx])⟩
theorem opens_pair {α β γ : Type} {A : Enc α} {B : Enc β} {f : γ → α × β} {g : α × β → γ} {t : TypeId} {f0 f1 : Field} (surj : ∀ p,f (g p) = p) (hu : P.underlying t = some (.struct #[f0,f1])) (o0 : f0.offset = 0) (c0 : P.cellsOf f0.type = A.n) (o1 : f1.offset = A.n) (c1 : P.cellsOf f1.type = B.n)
    (ct : P.cellsOf t = A.n + B.n) (hA : Opens enc P w f0.type A) (hB : Opens enc P w f1.type B) : Opens enc P w t ((Enc.pair A B).via f):=fun fuel cs d pl h hl=>by
  obtain ⟨y0,y1,n,hx,hlen,h0,h1⟩:=trod_struct2 hu h
  simp only [Prod.mk.injEq] at hx
  obtain ⟨rfl,_⟩:=hx
  obtain ⟨l0,l1⟩:=light2 hu hl
  rw [o0,c0,List.drop_zero] at h0
  rw [o1,c1] at h1
  obtain ⟨x0,r0⟩:=hA _ _ _ _ h0 l0
  obtain ⟨x1,r1⟩:=hB _ _ _ _ h1 l1
  rw [List.take_of_length_le (by rw [List.length_drop,hlen,ct]; omega)] at r1
  exact ⟨g (x0,x1),by show (Enc.pair A B).rep _ (f (g (x0,x1))) _; rw [surj]; exact ⟨_,_,(List.take_append_drop A.n cs).symm,r0,r1⟩⟩
theorem trod_struct3' {base : Nat} {spare : Nat → Bool} {held : Bool} {t : TypeId} {f0 f1 f2 : Field} {fuel : Nat} {cs : List Value} {x : DataW H × List MemPlace} (ht : P.underlying t = some (.struct #[f0,f1,f2])) (h : DataW.trod enc P w base spare held fuel t cs = some x) :
    ∃ y0 y1 y2 n,x = (.agg [y0.1,y1.1,y2.1],y0.2 ++ (y1.2 ++ y2.2)) ∧ cs.length = P.cellsOf t ∧ DataW.trod enc P w base spare held n f0.type ((cs.drop f0.offset).take (P.cellsOf f0.type)) = some y0 ∧
      DataW.trod enc P w base spare held n f1.type ((cs.drop f1.offset).take (P.cellsOf f1.type)) = some y1 ∧ DataW.trod enc P w base spare held n f2.type ((cs.drop f2.offset).take (P.cellsOf f2.type)) = some y2:=by
  obtain ⟨xs,n,_,rfl,hl,hlen,hf⟩:=DataW.trod_struct ht h
  match xs,hlen with
  | [y0,y1,y2],_=>exact ⟨y0,y1,y2,n,by simp,hl,by simpa using hf 0 f0 rfl,by simpa using hf 1 f1 rfl,by simpa using hf 2 f2 rfl⟩
theorem opens_three {α β γ δ : Type} {A : Enc α} {B : Enc β} {C : Enc γ} {f : δ → α × β × γ} {g : α × β × γ → δ} {t : TypeId} {f0 f1 f2 : Field} (surj : ∀ p,f (g p) = p) (hu : P.underlying t = some (.struct #[f0,f1,f2])) (o0 : f0.offset = 0) (c0 : P.cellsOf f0.type = A.n) (o1 : f1.offset = A.n) (c1 : P.cellsOf f1.type = B.n)
    (o2 : f2.offset = A.n + B.n) (c2 : P.cellsOf f2.type = C.n) (ct : P.cellsOf t = A.n + (B.n + C.n)) (hA : Opens enc P w f0.type A) (hB : Opens enc P w f1.type B) (hC : Opens enc P w f2.type C) : Opens enc P w t ((Enc.pair A (Enc.pair B C)).via f):=fun fuel cs d pl h hl=>by
  obtain ⟨y0,y1,y2,n,hx,hlen,h0,h1,h2⟩:=trod_struct3' hu h
  simp only [Prod.mk.injEq] at hx
  obtain ⟨rfl,_⟩:=hx
  have e : DataW.weights P t (.agg [y0.1,y1.1,y2.1]) = y0.1.weights P f0.type ++ (y1.1.weights P f1.type ++ (y2.1.weights P f2.type ++ [])):=by
    rw [DataW.weights,hu]; simp [DataW.weightsEach]
  rw [o0,c0,List.drop_zero] at h0
  rw [o1,c1] at h1
  rw [o2,c2] at h2
  obtain ⟨x0,r0⟩:=hA _ _ _ _ h0 fun x hx=>hl x (by rw [e]; simp [hx])
  obtain ⟨x1,r1⟩:=hB _ _ _ _ h1 fun x hx=>hl x (by rw [e]; simp [hx])
  obtain ⟨x2,r2⟩:=hC _ _ _ _ h2 fun x hx=>hl x (by rw [e]; simp [hx])
  rw [List.take_of_length_le (by rw [List.length_drop,hlen,ct]; omega)] at r2
  refine ⟨g (x0,x1,x2),?_⟩
  show (Enc.pair A (Enc.pair B C)).rep _ (f (g (x0,x1,x2))) _
  rw [surj]
  refine ⟨_,_,(List.take_append_drop A.n cs).symm,r0,(cs.drop A.n).take B.n,cs.drop (A.n + B.n),?_,r1,r2⟩
  rw [← List.drop_drop,List.take_append_drop]
theorem weightsAll_mem {e : TypeId} {d : DataW H} {x : Nat} : ∀ {ds : List (DataW H)},d ∈ ds → x ∈ d.weights P e → x ∈ DataW.weightsAll P e ds
  | [],h,_=>by simp at h
  | y :: ds,h,hx=>by
    rw [DataW.weightsAll]
    rcases List.mem_cons.1 h with rfl | h
    · exact List.mem_append_left _ hx
    · exact List.mem_append_right _ (weightsAll_mem h hx)
theorem list_of {α : Type} {p : Nat → α → Prop} : ∀ n,(∀ i,i < n → ∃ x,p i x) → ∃ l : List α,l.length = n ∧ ∀ (i : Nat) x,l[i]? = some x → p i x
  | 0,_=>⟨[],rfl,fun i x h=>by simp at h⟩
  | n + 1,h=>by
    obtain ⟨l,hl,hp⟩:=list_of n fun i hi=>h i (by omega)
    obtain ⟨y,hy⟩:=h n (by omega)
    refine ⟨l ++ [y],by simp [hl],fun i x hx=>?_⟩
    rw [List.getElem?_append] at hx
    split at hx
    · exact hp i x hx
    · rename_i hi
      have : i = n:=by
        have h1:=(List.getElem?_eq_some_iff.1 hx).1
        simp at h1; omega
      subst this
      rw [hl,Nat.sub_self] at hx
      simp at hx; subst hx; exact hy
theorem cells_of {a : Addr} {n : Nat} {cs : List Value} (hs : a.spot = none) (h : w.cells? 0 a n = some cs) (hn : 0 < n) : Cells (GW w) a cs:=by
  obtain ⟨_,hl,hc⟩:=World.cells?_some h
  have key : ∀ (j : Nat) v,cs[j]? = some v → w.cell? ⟨a.block,a.off + j,none⟩ = some v:=fun j v hv=>by
    have hj : j < n:=by have:=(List.getElem?_eq_some_iff.1 hv).1; omega
    have:=hc j hj
    rw [addr_add _ _ hs,hv] at this; exact this
  obtain ⟨v0,hv0⟩ : ∃ v,cs[0]? = some v:=⟨_,List.getElem?_eq_getElem (by omega)⟩
  have h0:=key 0 v0 hv0
  unfold World.cell? at h0
  split at h0
  · rename_i c e fz hb
    refine ⟨hs,c,e,fz,hb,fun j v hv=>?_⟩
    have:=key j v hv
    unfold World.cell? at this
    rw [hb] at this
    simpa using this
  · simp at h0
theorem opens_slice {α : Type} {E : Enc α} {by_ : Nat} {t e : TypeId} (ht : P.underlying t = some (.slice e)) (hc : P.cellsOf e = E.n) (hn : 0 < E.n) (hby : P.bytesOf e = by_) (hb1 : 0 < by_) (hE : Opens enc P w e E) : Opens enc P w t (E.slice by_):=fun fuel cs d pl h hl=>by
  rcases open_slice ht h with ⟨rfl,hx⟩ | ⟨a,len,cap,m,n,D,Pl,rfl,hb',hlc,hm,hmm,hx,hel⟩
  · exact ⟨[], .slice none 0 0,rfl,Sl.nil E by_ (GW w)⟩
  · simp only [if_true] at hmm
    subst hmm
    simp only [Prod.mk.injEq] at hx
    obtain ⟨rfl,_⟩:=hx
    have ew : DataW.weights P t (.slice ((List.range len).map D) ((List.range (m - len)).map fun j=>D (len + j))) = (len + (m - len)) * by_ :: (DataW.weightsAll P e ((List.range len).map D) ++ DataW.weightsAll P e ((List.range (m - len)).map fun j=>D (len + j))):=by
      rw [DataW.weights,ht]; simp [hby]
    have hw : (len + (m - len)) * by_ ≤ reachBytes:=hl _ (by rw [ew]; simp)
    have hlen : len * by_ ≤ reach:=by
      have h1 : len * by_ ≤ (len + (m - len)) * by_:=Nat.mul_le_mul_right _ (by omega)
      have h2 : reachBytes ≤ reach:=by simp [reachBytes,reach]
      omega
    have hlen1 : len ≤ reach:=Nat.le_trans (Nat.le_mul_of_pos_right _ hb1) hlen
    rcases Nat.eq_zero_or_pos len with h0 | hpos
    · subst h0
      exact ⟨[], .slice (some a) 0 m,rfl,some a,m,rfl,Nat.zero_le _,by simp,by simp,fun i x hx=>by simp at hx⟩
    · have hspot : a.spot = none:=by
        obtain ⟨cs',h1,_⟩:=hel 0 (by omega)
        rw [hc] at h1
        obtain ⟨_,hl',hcc⟩:=World.cells?_some h1
        have:=hcc 0 hn
        obtain ⟨v0,hv0⟩ : ∃ v,cs'[0]? = some v:=⟨_,List.getElem?_eq_getElem (by omega)⟩
        rw [hv0] at this
        have:=World.cell?_spot this
        simpa [Addr.add] using this
      obtain ⟨l,hll,hp⟩:=list_of (α:=α) (p:=fun i x=>ElAt E (GW w) (a.add (i * E.n)) x) len fun i hi=>by
        obtain ⟨cs',h1,h2⟩:=hel i (by omega)
        obtain ⟨x,hx⟩:=hE _ _ _ _ h2 fun y hy=>hl y (by rw [ew]; exact List.mem_cons_of_mem _ (List.mem_append_left _ (weightsAll_mem (List.mem_map.2 ⟨i,List.mem_range.2 hi,rfl⟩) hy)))
        rw [hc] at h1
        exact ⟨x,cs',cells_of (by rw [addr_add _ _ hspot]) h1 hn,hx⟩
      subst hll
      exact ⟨l,_,rfl,some a,m,rfl,hlc,hlen,hlen1,fun i x hx=>⟨a,rfl,hspot,hp i x hx⟩⟩
theorem arg_struct {α : Type} {E : Enc α} {t : TypeId} {v : Value} {d : DataW H} {p : List MemPlace} (hO : Opens enc P w t E) (hv : ∃ cs : Array Value,v = .agg cs) (h : DataW.Trod enc P w 0 (fun _=>true) true t v d p) (hl : Light P t d) : ∃ x cs,v = .agg cs.toArray ∧ E.rep (GW w) x cs:=by
  obtain ⟨fuel,hf⟩:=h
  obtain ⟨cs,rfl⟩:=hv
  obtain ⟨x,hx⟩:=hO _ _ _ _ hf hl
  exact ⟨x,cs.toList,by simp,hx⟩
theorem light_each {t : TypeId} {ts : List TypeId} {d : DataW H} {ds : List (DataW H)} (h : (DataW.weightsEach P (t :: ts) (d :: ds)).all (fun x=>decide (x ≤ reachBytes)) = true) : Light P t d ∧ (DataW.weightsEach P ts ds).all (fun x=>decide (x ≤ reachBytes)) = true:=by
  rw [DataW.weightsEach,List.all_append,Bool.and_eq_true] at h
  exact ⟨fun x hx=>by have:=List.all_eq_true.1 h.1 x hx; simpa using this,h.2⟩
end
end Go.Civ
namespace Go.Civ
set_option linter.unusedVariables false
open Go.Lib (compact compactUpTo keeps)
structure CInv (z : List Int) (m : Nat) (c : List Int) : Prop where
  inc : c.Pairwise (· < ·)
  mem : ∀ x,x ∈ c ↔ ∃ j,j < m ∧ z[j]? = some x
theorem compactUpTo_inv {z : List Int} (hs : z.Pairwise (· ≤ ·)) : ∀ m,m ≤ z.length → CInv z m (compactUpTo z.toArray m)
  | 0,_=>⟨by simp [compactUpTo],fun x=>by simp [compactUpTo]⟩
  | m + 1,hm=>by
    have ih:=compactUpTo_inv hs m (by omega)
    have hlt : m < z.length:=by omega
    have hz : z.toArray[m]! = z[m]:=by rw [getElem!_pos z.toArray m (by simpa using hlt)]; simp
    have hzm : z[m]? = some z[m]:=List.getElem?_eq_getElem hlt
    rw [Go.Lib.compactUpTo_succ]
    cases hk : keeps z.toArray m with
    | true=>
      simp only [if_true,hz]
      refine ⟨List.pairwise_append.2 ⟨ih.inc,by simp,fun a ha b hb=>?_⟩,fun x=>?_⟩
      · obtain rfl:=List.mem_singleton.1 hb
        obtain ⟨j,hj,hja⟩:=(ih.mem a).1 ha
        have hm0 : 0 < m:=by omega
        have hz1 : z.toArray[m - 1]! = z[m - 1]:=by rw [getElem!_pos z.toArray (m - 1) (by simp; omega)]; simp
        have hne : z[m] ≠ z[m - 1]:=by
          unfold keeps at hk
          simp only [decide_eq_true_eq] at hk
          rcases hk with h | h
          · omega
          · rwa [hz,hz1] at h
        obtain ⟨hjl,rfl⟩:=List.getElem?_eq_some_iff.1 hja
        have h1 : z[m - 1] ≤ z[m]:=List.pairwise_iff_getElem.1 hs (m - 1) m (by omega) hlt (by omega)
        have h2 : z[j] ≤ z[m - 1]:=by
          by_cases e : j = m - 1
          · subst e; exact Int.le_refl _
          · exact List.pairwise_iff_getElem.1 hs j (m - 1) hjl (by omega) (by omega)
        omega
      · rw [List.mem_append,ih.mem,List.mem_singleton]
        constructor
        · rintro (⟨j,hj,h⟩ | rfl)
          · exact ⟨j,by omega,h⟩
          · exact ⟨m,by omega,hzm⟩
        · rintro ⟨j,hj,h⟩
          by_cases e : j = m
          · subst e; rw [hzm] at h; exact .inr (Option.some.inj h).symm
          · exact .inl ⟨j,by omega,h⟩
    | false=>
      have h:=hk
      unfold keeps at h
      simp only [decide_eq_false_iff_not,not_or,Classical.not_not] at h
      have hz1 : z.toArray[m - 1]! = z[m - 1]:=by rw [getElem!_pos z.toArray (m - 1) (by simp; omega)]; simp
      rw [hz,hz1] at h
      simp only [Bool.false_eq_true,if_false,List.append_nil]
      refine ⟨ih.inc,fun x=>?_⟩
      rw [ih.mem]
      constructor
      · rintro ⟨j,hj,h⟩; exact ⟨j,by omega,h⟩
      · rintro ⟨j,hj,hx⟩
        by_cases e : j = m
        · subst e
          rw [hzm] at hx
          obtain rfl:=Option.some.inj hx
          exact ⟨j - 1,by omega,by rw [List.getElem?_eq_getElem (by omega),h.2]⟩
        · exact ⟨j,by omega,hx⟩
theorem compact_inv {z : List Int} (hs : z.Pairwise (· ≤ ·)) : CInv z z.length (compact z):=compactUpTo_inv hs _ (Nat.le_refl _)
theorem compact_mem {z : List Int} (hs : z.Pairwise (· ≤ ·)) {x : Int} : x ∈ compact z ↔ x ∈ z:=by
  rw [(compact_inv hs).mem]
  constructor
  · rintro ⟨j,_,h⟩; exact List.mem_of_getElem? h
  · intro h
    obtain ⟨j,hj⟩:=List.getElem?_of_mem h
    exact ⟨j,(List.getElem?_eq_some_iff.1 hj).1,hj⟩
theorem compact_len (z : List Int) : (compact z).length ≤ z.length:=by
  unfold compact compactUpTo
  rw [List.length_map]
  exact Nat.le_trans (List.length_filter_le _ _) (by simp)
def sortZ (l : List Int) : List Int:=l.mergeSort fun x y=>decide (x ≤ y)
theorem sortZ_asc (l : List Int) : (sortZ l).Pairwise (· ≤ ·):=by
  have:=List.pairwise_mergeSort (le:=fun (x y : Int)=>decide (x ≤ y)) (fun a b c h1 h2=>by simp at *; omega) (fun a b=>by simp; omega) l
  exact this.imp fun h=>by simpa using h
theorem sortZ_perm (l : List Int) : (sortZ l).Perm l:=List.mergeSort_perm _ _
def sortedB : List Int → Bool
  | x :: y :: r=>decide (x ≤ y) && sortedB (y :: r)
  | _=>true
theorem sortedB_yes : ∀ {l : List Int},(∀ (k : Nat) x y,l[k]? = some y → l[k + 1]? = some x → y ≤ x) → sortedB l = true
  | a :: b :: r,h=>by
    simp only [sortedB,Bool.and_eq_true,decide_eq_true_eq]
    exact ⟨h 0 b a rfl rfl,sortedB_yes fun k x y h1 h2=>h (k + 1) x y (by simpa using h1) (by simpa using h2)⟩
  | [],_=>rfl
  | [_],_=>rfl
def SortFrom (l : List Int) (j : Int) : Prop:=∀ (q : Nat) (x y : Int),j ≤ q → l[q]? = some y → l[q + 1]? = some x → y ≤ x
theorem SortFrom.start {l : List Int} {j : Int} (h : (l.length : Int) - 1 ≤ j) : SortFrom l j:=fun q x y hq h1 h2=>by
  have:=(List.getElem?_eq_some_iff.1 h2).1; omega
theorem SortFrom.step {l : List Int} {j x y : Int} (h : SortFrom l j) (hj : 0 < j) (h1 : l[j.toNat]? = some x) (h2 : l[(j - 1).toNat]? = some y) (hxy : decide (x < y) = false) : SortFrom l (j - 1):=fun q u v hq k1 k2=>by
  by_cases e : (q : Int) = j - 1
  · have e1 : q = (j - 1).toNat:=by omega
    have e2 : q + 1 = j.toNat:=by omega
    rw [e2,h1] at k2
    rw [e1,h2] at k1
    obtain rfl:=Option.some.inj k1
    obtain rfl:=Option.some.inj k2
    have:=of_decide_eq_false hxy; omega
  · exact h q u v (by omega) k1 k2
theorem SortFrom.yes {l : List Int} {j : Int} (h : SortFrom l j) (hj : j ≤ 0) : sortedB l = true:=sortedB_yes fun k x y h1 h2=>h k x y (by omega) h1 h2
end Go.Civ
set_option linter.unusedVariables false
namespace Go.Civ
open Go.Proofs Go.Shelf Go.RowKit Go.Lib Go.Sort
theorem flatInt {G : GH} : ∀ (l : List Int),(∀ x ∈ l,I64 x) → Flat Enc.int G l (l.map (Value.int .i64))
  | [],_=>rfl
  | x :: l,h=>⟨[.int .i64 x],l.map (Value.int .i64),rfl,⟨rfl,h x (by simp)⟩,flatInt l fun y hy=>h y (by simp [hy])⟩
theorem flatInt_cells {G : GH} : ∀ (l : List Int) (xs : List Value),Flat Enc.int G l xs → xs = l.map (Value.int .i64) ∧ ∀ x ∈ l,I64 x
  | [],xs,h=>⟨h,by simp⟩
  | x :: l,xs,⟨c,r,h1,h2,h3⟩=>by
    obtain ⟨rfl,hb⟩:=h2
    obtain ⟨rfl,h4⟩:=flatInt_cells l r h3
    refine ⟨h1,fun y hy=>?_⟩
    rcases List.mem_cons.1 hy with rfl | hy
    · exact hb
    · exact h4 y hy
def sortI (l : List Int) : List Int:=l.mergeSort fun x y=>decide (x ≤ y)
set_option maxHeartbeats 1000000 in
theorem c_SortI {G : GH} {w : World} (hG : G.In w) (l : List Int) (vd : Value) (od : OB) (hvd : Row Enc.int 8 (nat_lit 3) G vd l od) (hod : Lent w G od) :
    Calls Tryz.prog (nat_lit 145) #[vd] w fun e w'=>∃ r G',e = .returned r ∧ Res (blk od) w G w' G' ∧ r = .tuple #[] ∧ ∃ (l' : List Int) (o' : OB),Row Enc.int 8 (nat_lit 3) G' vd l' o' ∧ Lent w' G' o' ∧ l' = sortI l:=by
  rcases hvd with ⟨rfl,rfl,rfl⟩ | ⟨b,cs,cap,xs,rfl,rfl,h3,h4,h5,h6,h7,h8,h9⟩
  · exact (Any.slices_Sort_int_none Tryz.laysSort none 0 w).mono fun e w' ⟨he,hw⟩=>by
      subst hw
      exact ⟨_,G,he,Res.refl hG,rfl,[],none, .inl ⟨rfl,rfl,rfl⟩,fun p hp=>(by cases hp),by simp [sortI]⟩
  · obtain ⟨hb1,hb2⟩:=hod _ rfl
    obtain ⟨rfl,hI⟩:=flatInt_cells l xs h6
    have hE : Enc.int.n = 1:=rfl
    rw [hE,Nat.mul_one] at h5 h7
    have hcell : ∀ t,t < l.length → cs[t]? = some (.int .i64 l[t]!):=fun t ht=>by
      have:=congrArg (·[t]?) h7
      simp only [List.getElem?_take,if_pos ht,List.getElem?_map] at this
      rw [this,List.getElem?_eq_getElem ht,getElem!_pos l t ht]; rfl
    have hH : Holds (Value.int .i64) w b 0 l.toArray:=fun t ht=>by
      have ht' : t < l.length:=by simpa using ht
      refine ⟨?_,?_⟩
      · rw [Nat.zero_add]
        simp only [World.cell?,hb1,objOf]
        have:=hcell t ht'
        rw [getElem!_pos l t ht'] at this
        rw [getElem!_pos l.toArray t ht]
        simpa using this
      · simp [World.frozen?,hb1,objOf]
    have hcon:=Any.slices_Sort_int Tryz.laysSort b 0 cap l w hH (Array.getElem?_eq_some_iff.1 hb1).1 (by unfold reach at h9; omega)
    refine hcon.mono fun e w' ⟨he,n,os,hw⟩=>?_
    have hperm : (sortI l).Perm l:=List.mergeSort_perm _ _
    have hlen : (sortI l).length = l.length:=hperm.length_eq
    have hbl : b < w.heap.size:=(Array.getElem?_eq_some_iff.1 hb1).1
    obtain ⟨cs',hcs'⟩ : ∃ cs' : List Value,cs' = (putCells (Value.int .i64) 0 (sortI l).toArray cs.toArray).toList:=⟨_,rfl⟩
    have hget : ∀ k,w'.heap[k]? = if k < w.heap.size then (if b = k then some (.cells cs'.toArray (nat_lit 3) (0,0)) else w.heap[k]?) else os[k - w.heap.size]? :=fun k=>by
      subst hw
      have hah : (Go.Sort.ahead w n).heap = w.heap:=rfl
      simp only [putRow,mapBlock,grow,hah]
      rw [Array.getElem?_append]
      simp only [Array.size_modify]
      by_cases hk : k < w.heap.size
      · rw [if_pos hk,if_pos hk,Array.getElem?_modify]
        by_cases hkb : b = k
        · subst hkb
          rw [if_pos rfl,if_pos rfl,hb1]
          simp [objOf,onCells,hcs',sortI]
        · rw [if_neg hkb,if_neg hkb]
      · rw [if_neg hk,if_neg hk]
    have hres : Res [b] w G w' G:=by
      refine ⟨?_,G.le_refl,fun _ _=>rfl,fun k o hk=>?_⟩
      · refine ⟨by subst hw; rfl,by subst hw; rfl,by subst hw; rfl,by subst hw; exact Nat.le_add_right _ _,?_,fun k hk hkb=>?_⟩
        · subst hw
          have hah : (Go.Sort.ahead w n).heap = w.heap:=rfl
          simp [putRow,mapBlock,grow]
          try simp [hah]
        · rw [hget,if_pos hk,if_neg (by simpa [eq_comm] using hkb)]
      · have hk1:=hG.lt hk
        have hkb : b ≠ k:=fun e=>by subst e; simp only at hb2; rw [hb2] at hk; cases hk
        rw [hget,if_pos hk1,if_neg hkb]; exact hG k o hk
    have hI' : ∀ x ∈ sortI l,I64 x:=fun x hx=>hI x (hperm.mem_iff.1 hx)
    refine ⟨_,G,he,hres,rfl,sortI l,some (b,nat_lit 3,cs'), .inr ⟨b,cs',cap,(sortI l).map (Value.int .i64),rfl,by rw [hlen],by rw [hlen]; exact h3,h4,?_,flatInt _ hI',?_,by rw [hlen]; exact h8,by rw [hlen]; exact h9⟩,fun p hp=>?_,rfl⟩
    · subst hcs'; rw [hE]; simpa [putCells] using h5
    · rw [hE,Nat.mul_one]
      apply List.ext_getElem?
      intro t
      rw [List.getElem?_take]
      by_cases ht : t < (sortI l).length
      · have htc : t < cs.length:=by omega
        rw [if_pos ht,hcs']
        simp only [putCells,Array.getElem?_toList,Array.getElem?_mapIdx]
        simp only [List.getElem?_toArray]
        rw [List.getElem?_eq_getElem htc,List.getElem?_map,List.getElem?_eq_getElem ht]
        simp [ht]
      · rw [if_neg ht,List.getElem?_eq_none]
        simp; omega
    · obtain rfl:=Option.some.inj hp
      exact ⟨by rw [hget,if_pos hbl,if_pos rfl]; rfl,hb2⟩
end Go.Civ
