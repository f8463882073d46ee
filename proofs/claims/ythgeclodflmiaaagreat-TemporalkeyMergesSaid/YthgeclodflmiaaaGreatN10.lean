/- Lemmas. -/
import Derived.Test.YthgeclodflmiaaaGreatN03
import Derived.Test.YthgeclodflmiaaaGreatN04
import Derived.Test.YthgeclodflmiaaaGreatN08
import Derived.Test.YthgeclodflmiaaaGreatN09
import Derived.Lib.SlicesCompact
import Derived.Shelf.Sort.Plain
import Derived.Shelf.Small.Strs
import Derived.Ground.NamesProg
import Derived.Test.YthgeclodflmiaaaGreatProg
namespace Go.Civ
set_option linter.unusedVariables false
open Go.Lib (compact compactUpTo keeps)
structure CInv (z : List Int) (m : Nat) (c : List Int) : Prop where
 inc : c.Pairwise (· < ·)
 mem : ∀ x,x ∈ c ↔ ∃ j,j < m ∧ z[j]? = some x
theorem Zdh {z : List Int} (hs : z.Pairwise (· ≤ ·)) : ∀ m,m ≤ z.length → CInv z m (compactUpTo z.toArray m)
 | 0,_=>⟨by simp [compactUpTo],fun x=>by simp [compactUpTo]⟩
 | m + 1,hm=>by
  have ih:=Zdh hs m (by omega)
  have hlt : m < z.length:=by omega
  have hz : z.toArray[m]! = z[m]:=by rw [getElem!_pos z.toArray m (by simpa using hlt)]; simp
  have hzm : z[m]? = some z[m]:=List.getElem?_eq_getElem hlt
  rw [Go.Lib.compactUpTo_succ]
  cases hk : keeps z.toArray m with
  | true=>
   simp only [if_true,hz]
   refine ⟨List.pairwise_append.2 ⟨ih.inc,by simp,fun a ha b hb=>?_⟩,fun x=>?_⟩
   ·obtain rfl:=List.mem_singleton.1 hb
    obtain ⟨j,hj,hja⟩:=(ih.mem a).1 ha
    have hm0 : 0 < m:=by omega
    have hz1 : z.toArray[m - 1]! = z[m - 1]:=by rw [getElem!_pos z.toArray (m - 1) (by simp; omega)]; simp
    have hne : z[m] ≠ z[m - 1]:=by
     unfold keeps at hk
     simp only [decide_eq_true_eq] at hk
     rcases hk with h | h
     ·omega
     ·rwa [hz,hz1] at h
    obtain ⟨hjl,rfl⟩:=List.getElem?_eq_some_iff.1 hja
    have h1 : z[m - 1] ≤ z[m]:=List.pairwise_iff_getElem.1 hs (m - 1) m (by omega) hlt (by omega)
    have h2 : z[j] ≤ z[m - 1]:=by
     by_cases e : j = m - 1
     ·subst e; exact Int.le_refl _
     ·exact List.pairwise_iff_getElem.1 hs j (m - 1) hjl (by omega) (by omega)
    omega
   ·rw [List.mem_append,ih.mem,List.mem_singleton]
    constructor
    ·rintro (⟨j,hj,h⟩ | rfl)
     ·exact ⟨j,by omega,h⟩
     ·exact ⟨m,by omega,hzm⟩
    ·rintro ⟨j,hj,h⟩
     by_cases e : j = m
     ·subst e; rw [hzm] at h; exact .inr (Option.some.inj h).symm
     ·exact .inl ⟨j,by omega,h⟩
  | false=>
   have h:=hk
   unfold keeps at h
   simp only [decide_eq_false_iff_not,not_or,Classical.not_not] at h
   have hz1 : z.toArray[m - 1]! = z[m - 1]:=by rw [getElem!_pos z.toArray (m - 1) (by simp; omega)]; simp
   rw [hz,hz1] at h
   simp only [Bool.false_eq_true,if_false,List.append_nil]
   refine ⟨ih.inc,fun x=>?_⟩
   rw [ih.mem]
   constructor
   ·rintro ⟨j,hj,h⟩; exact ⟨j,by omega,h⟩
   ·rintro ⟨j,hj,hx⟩
    by_cases e : j = m
    ·subst e
     rw [hzm] at hx
     obtain rfl:=Option.some.inj hx
     exact ⟨j - 1,by omega,by rw [List.getElem?_eq_getElem (by omega),h.2]⟩
    ·exact ⟨j,by omega,hx⟩
theorem Zgd {z : List Int} (hs : z.Pairwise (· ≤ ·)) : CInv z z.length (compact z):=Zdh hs _ (Nat.le_refl _)
theorem Zlv {z : List Int} (hs : z.Pairwise (· ≤ ·)) {x : Int} : x ∈ compact z ↔ x ∈ z:=by
 rw [(Zgd hs).mem]
 constructor
 ·rintro ⟨j,_,h⟩; exact List.mem_of_getElem? h
 ·intro h
  obtain ⟨j,hj⟩:=List.getElem?_of_mem h
  exact ⟨j,(List.getElem?_eq_some_iff.1 hj).1,hj⟩
theorem Zlw (z : List Int) : (compact z).length ≤ z.length:=by
 unfold compact compactUpTo
 rw [List.length_map]
 exact Nat.le_trans (List.length_filter_le _ _) (by simp)
def Zj0 (l : List Int) : List Int:=l.mergeSort fun x y=>decide (x ≤ y)
theorem Zi4 (l : List Int) : (Zj0 l).Pairwise (· ≤ ·):=by
 have:=List.pairwise_mergeSort (le:=fun (x y : Int)=>decide (x ≤ y)) (fun a b c h1 h2=>by simp at *; omega) (fun a b=>by simp; omega) l
 exact this.imp fun h=>by simpa using h
theorem Znb (l : List Int) : (Zj0 l).Perm l:=List.mergeSort_perm _ _
def ZfI : List Int → Bool
 | x :: y :: r=>decide (x ≤ y) && ZfI (y :: r)
 | _=>true
theorem Zge : ∀ {l : List Int},(∀ (k : Nat) x y,l[k]? = some y → l[k + 1]? = some x → y ≤ x) → ZfI l = true
 | a :: b :: r,h=>by
  simp only [ZfI,Bool.and_eq_true,decide_eq_true_eq]
  exact ⟨h 0 b a rfl rfl,Zge fun k x y h1 h2=>h (k + 1) x y (by simpa using h1) (by simpa using h2)⟩
 | [],_=>rfl
 | [_],_=>rfl
def Zey (l : List Int) (j : Int) : Prop:=∀ (q : Nat) (x y : Int),j ≤ q → l[q]? = some y → l[q + 1]? = some x → y ≤ x
theorem Zey.start {l : List Int} {j : Int} (h : (l.length : Int) - 1 ≤ j) : Zey l j:=fun q x y hq h1 h2=>by
 have:=(List.getElem?_eq_some_iff.1 h2).1; omega
theorem Zey.step {l : List Int} {j x y : Int} (h : Zey l j) (hj : 0 < j) (h1 : l[j.toNat]? = some x) (h2 : l[(j - 1).toNat]? = some y) (hxy : decide (x < y) = false) : Zey l (j - 1):=fun q u v hq k1 k2=>by
 by_cases e : (q : Int) = j - 1
 ·have e1 : q = (j - 1).toNat:=by omega
  have e2 : q + 1 = j.toNat:=by omega
  rw [e2,h1] at k2
  rw [e1,h2] at k1
  obtain rfl:=Option.some.inj k1
  obtain rfl:=Option.some.inj k2
  have:=of_decide_eq_false hxy; omega
 ·exact h q u v (by omega) k1 k2
theorem Zey.yes {l : List Int} {j : Int} (h : Zey l j) (hj : j ≤ 0) : ZfI l = true:=Zge fun k x y h1 h2=>h k x y (by omega) h1 h2
end Go.Civ
namespace Go.Civ
open Go.RowKit
set_option linter.unusedVariables false
theorem Zup {n : Int} (h0 : 0 ≤ n) (h : n ≤ 9223372036854775807) : IntKind.u64.wrap n = n:=by
 simp only [IntKind.wrap,IntKind.signed,IntKind.bits]
 simp
 omega
section
variable {P : Program} {Q : Exit → Env → World → Prop} {ρ : Env} {w : World} {ops : Array Oper} {rest : List Oper} {K : Env → World → Prop}
variable {d : Nat} {ty : TypeId} {pos : String} {af : Array Edge} {g : Option (Nat × Bool)} {G : GH}
theorem Zuq {t t' : TypeId} {x : Operand} (n : Nat) {k : IntKind} (hs : P.underlying t = some (.int k)) (h : P.underlying t' = some (.int .u64)) (hb : n ≤ 4 * reach)
  (hw : Region.wanted ⟨some d, .convert t t' x,ty,pos,af,g⟩ (Zp ops ρ) = true) (hx : ev ρ x = .int .i64 (n : Int))
  (kk : K (ZE ρ d (.int .u64 (n : Int))) w) : OW P ops ⟨some d, .convert t t' x,ty,pos,af,g⟩ ρ w K:=by
 refine WL.val hw ?_ rfl kk
 have e : IntKind.u64.wrap (n : Int) = (n : Int):=Zup (by omega) (by unfold reach at hb; omega)
 simp [execOp,hx,convert,ZW hs,ZW h,Conv.intToInt,Result.andThen,e]
theorem ZsF {t ty' : TypeId} {x y : Operand} (n : Nat)
  (hw : Region.wanted ⟨some d, .binOp .shr t x y ty',ty,pos,af,g⟩ (Zp ops ρ) = true) (hx : ev ρ x = .int .u64 (n : Int)) (hy : ev ρ y = .int .u64 1)
  (kk : K (ZE ρ d (.int .u64 ((n / 2 : Nat) : Int))) w) : OW P ops ⟨some d, .binOp .shr t x y ty',ty,pos,af,g⟩ ρ w K:=by
 refine WL.val hw ?_ rfl kk
 have e : (Op.shift .shr .u64 (n : Int) .u64 1) = pure (.int .u64 ((n / 2 : Nat) : Int)):=by
  rw [shift_shr .u64 .u64 (n : Int) 1 (by decide) (by decide)]; simp
 simp [execOp,hx,hy,binOp,eqGuard,e]
theorem Zur {t t' : TypeId} {x : Operand} (n : Nat) {k : IntKind} (hs : P.underlying t = some (.int k)) (h : P.underlying t' = some (.int .i64)) (hb : n ≤ 4 * reach)
  (hw : Region.wanted ⟨some d, .convert t t' x,ty,pos,af,g⟩ (Zp ops ρ) = true) (hx : ev ρ x = .int .u64 (n : Int))
  (kk : K (ZE ρ d (.int .i64 (n : Int))) w) : OW P ops ⟨some d, .convert t t' x,ty,pos,af,g⟩ ρ w K:=
 Zm1 (n : Int) hs h ⟨by omega,by unfold reach at hb; omega⟩ hw hx kk
end
section
variable {α : Type} {pf : α → α → Int} {l L M : List α}
def LoF (l : List α) (i lo : Nat) (p : α → Prop) : Prop:=i = lo ∨ ∃ y,l[i - 1]? = some y ∧ p y
def HiF (l : List α) (j hi : Nat) (p : α → Prop) : Prop:=j = hi ∨ ∃ y,l[j]? = some y ∧ p y
def C1F (pf : α → α → Int) (l : List α) (s lo n : Nat) : Prop:=s = lo ∨ ∃ u v,l[s - 1]? = some u ∧ l[n - s]? = some v ∧ ¬ pf v u < 0
def C2F (pf : α → α → Int) (l : List α) (r hi n : Nat) : Prop:=r = hi ∨ ∃ u v,l[r]? = some u ∧ l[n - r - 1]? = some v ∧ pf v u < 0
theorem LoF.start {i lo : Nat} {p : α → Prop} (h : i = lo) : LoF l i lo p:= .inl h
theorem HiF.start {i lo : Nat} {p : α → Prop} (h : i = lo) : HiF l i lo p:= .inl h
theorem C1F.start {s n : Nat} : C1F pf l s s n:= .inl rfl
theorem C2F.start {s n : Nat} : C2F pf l s s n:= .inl rfl
theorem LoF.step {h lo : Nat} {y : α} {p : α → Prop} (hy : l[h]? = some y) (hp : p y) : LoF l (h + 1) lo p:= .inr ⟨y,hy,hp⟩
theorem HiF.step {h hi : Nat} {y : α} {p : α → Prop} (hy : l[h]? = some y) (hp : p y) : HiF l h hi p:= .inr ⟨y,hy,hp⟩
theorem C1F.step {c n lo : Nat} {u v : α} (hu : l[c]? = some u) (hv : l[n - 1 - c]? = some v) (h : 0 ≤ pf v u) : C1F pf l (c + 1) lo n:=
 .inr ⟨u,v,hu,by rw [show n - (c + 1) = n - 1 - c by omega]; exact hv,by omega⟩
theorem C2F.step {c n hi : Nat} {u v : α} (hu : l[c]? = some u) (hv : l[n - 1 - c]? = some v) (h : pf v u < 0) : C2F pf l c hi n:=
 .inr ⟨u,v,hu,by rw [show n - c - 1 = n - 1 - c by omega]; exact hv,h⟩
inductive Blks (pf : α → α → Int) (L : List α) (bs n : Nat) : Nat → Prop
 | fin {a : Nat} : n ≤ a → Blks pf L bs n a
 | step {a : Nat} : Asc pf L a (min (a + bs) n) → Blks pf L bs n (a + bs) → Blks pf L bs n a
inductive Done (pf : α → α → Int) (L : List α) (bs : Nat) : Nat → Prop
 | zero : Done pf L bs 0
 | snoc {a : Nat} : Done pf L bs a → Asc pf L a (a + bs) → Done pf L bs (a + bs)
variable {bs n a : Nat}
theorem Blks.frame (h : Blks pf L bs n a) (k : ∀ p,a ≤ p → M[p]? = L[p]?) : Blks pf M bs n a:=by
 induction h with
 | fin h=>exact .fin h
 | step h1 h2 ih=>exact .step (h1.frame fun p hp _=>k p hp) (ih fun p hp=>k p (by omega))
theorem Done.frame (h : Done pf L bs a) (k : ∀ p,p < a → M[p]? = L[p]?) : Done pf M bs a:=by
 induction h with
 | zero=>exact .zero
 | snoc h1 h2 ih=>exact .snoc (ih fun p hp=>k p (by omega)) (h2.frame fun p _ hp=>k p hp)
theorem Done.blks (h : Done pf L bs a) (ha : a ≤ n) (k : Blks pf L bs n a) : Blks pf L bs n 0:=by
 induction h with
 | zero=>exact k
 | snoc h1 h2 ih=>exact ih (by omega) (.step (by rw [Nat.min_eq_left ha]; exact h2) k)
theorem Blks.head (h : Blks pf L bs n a) (ha : a < n) : Asc pf L a (min (a + bs) n) ∧ Blks pf L bs n (a + bs):=by
 cases h with
 | fin h=>omega
 | step h1 h2=>exact ⟨h1,h2⟩
theorem Blks.last (h : Asc pf L a n) (ha : n ≤ a + bs) : Blks pf L bs n a:= .step (by rw [Nat.min_eq_right ha]; exact h) (.fin ha)
theorem Blks.rest (h : Blks pf L bs n a) (h2 : a + bs < n) (h3 : n < a + 2 * bs) : Asc pf L a (a + bs) ∧ Asc pf L (a + bs) n:=by
 obtain ⟨k1,k2⟩:=h.head (by omega)
 obtain ⟨k3,_⟩:=k2.head h2
 rw [Nat.min_eq_left (by omega)] at k1
 rw [Nat.min_eq_right (by omega)] at k3
 exact ⟨k1,k3⟩
theorem Blks.one (h : Blks pf L bs n a) (h2 : n ≤ a + bs) : Asc pf L a n:=by
 rcases Nat.lt_or_ge a n with k | k
 ·have:=(h.head k).1
  rwa [Nat.min_eq_right h2] at this
 ·exact Asc.empty (by omega)
theorem Done.ins (h : Done pf L bs a) (k : Ins pf L M a (a + bs) (a + bs)) : Done pf M bs (a + bs):= .snoc (h.frame fun p hp=>k.frame p (by omega)) k.asc
theorem Done.last (h : Done pf L bs a) (k : Ins pf L M a n n) (ha : a ≤ n) (hn : n ≤ a + bs) : Blks pf M bs n 0:=(h.frame (M:=M) fun p hp=>k.frame p (by omega)).blks ha (.last k.asc hn)
end
end Go.Civ
set_option linter.unusedVariables false
namespace Go.Civ
open Go.Proofs Go.Shelf Go.RowKit Go.Lib Go.Sort
theorem Zib {G : GH} : ∀ (l : List Int),(∀ x ∈ l,Zv x) → Xq Enc.int G l (l.map (Value.int .i64))
 | [],_=>rfl
 | x :: l,h=>⟨[.int .i64 x],l.map (Value.int .i64),rfl,⟨rfl,h x (by simp)⟩,Zib l fun y hy=>h y (by simp [hy])⟩
theorem Zcw {G : GH} : ∀ (l : List Int) (xs : List Value),Xq Enc.int G l xs → xs = l.map (Value.int .i64) ∧ ∀ x ∈ l,Zv x
 | [],xs,h=>⟨h,by simp⟩
 | x :: l,xs,⟨c,r,h1,h2,h3⟩=>by
  obtain ⟨rfl,hb⟩:=h2
  obtain ⟨rfl,h4⟩:=Zcw l r h3
  refine ⟨h1,fun y hy=>?_⟩
  rcases List.mem_cons.1 hy with rfl | hy
  ·exact hb
  ·exact h4 y hy
def ZbE (l : List Int) : List Int:=l.mergeSort fun x y=>decide (x ≤ y)
set_option maxHeartbeats 1000000 in
theorem Ztd {G : GH} {w : World} (hG : G.In w) (l : List Int) (vd : Value) (od : OB) (hvd : Yf Enc.int 8 (nat_lit 3) G vd l od) (hod : QW w G od) :
  Calls Tryz.prog (nat_lit 145) #[vd] w fun e w'=>∃ r G',e = .returned r ∧ Res (QL od) w G w' G' ∧ r = .tuple #[] ∧ ∃ (l' : List Int) (o' : OB),Yf Enc.int 8 (nat_lit 3) G' vd l' o' ∧ QW w' G' o' ∧ l' = ZbE l:=by
 rcases hvd with ⟨rfl,rfl,rfl⟩ | ⟨b,cs,cap,xs,rfl,rfl,h3,h4,h5,h6,h7,h8,h9⟩
 ·exact (Any.slices_Sort_int_none Tryz.laysSort none 0 w).mono fun e w' ⟨he,hw⟩=>by
   subst hw
   exact ⟨_,G,he,Res.refl hG,rfl,[],none, .inl ⟨rfl,rfl,rfl⟩,fun p hp=>(by cases hp),by simp [ZbE]⟩
 ·obtain ⟨hb1,hb2⟩:=hod _ rfl
  obtain ⟨rfl,hI⟩:=Zcw l xs h6
  have hE : Enc.int.n = 1:=rfl
  rw [hE,Nat.mul_one] at h5 h7
  have hcell : ∀ t,t < l.length → cs[t]? = some (.int .i64 l[t]!):=fun t ht=>by
   have:=congrArg (·[t]?) h7
   simp only [List.getElem?_take,if_pos ht,List.getElem?_map] at this
   rw [this,List.getElem?_eq_getElem ht,getElem!_pos l t ht]; rfl
  have hH : Holds (Value.int .i64) w b 0 l.toArray:=fun t ht=>by
   have ht' : t < l.length:=by simpa using ht
   refine ⟨?_,?_⟩
   ·rw [Nat.zero_add]
    simp only [World.cell?,hb1,Zan]
    have:=hcell t ht'
    rw [getElem!_pos l t ht'] at this
    rw [getElem!_pos l.toArray t ht]
    simpa using this
   ·simp [World.frozen?,hb1,Zan]
  have hcon:=Any.slices_Sort_int Tryz.laysSort b 0 cap l w hH (Array.getElem?_eq_some_iff.1 hb1).1 (by unfold reach at h9; omega)
  refine hcon.mono fun e w' ⟨he,n,os,hw⟩=>?_
  have hperm : (ZbE l).Perm l:=List.mergeSort_perm _ _
  have hlen : (ZbE l).length = l.length:=hperm.length_eq
  have hbl : b < w.heap.size:=(Array.getElem?_eq_some_iff.1 hb1).1
  obtain ⟨cs',hcs'⟩ : ∃ cs' : List Value,cs' = (putCells (Value.int .i64) 0 (ZbE l).toArray cs.toArray).toList:=⟨_,rfl⟩
  have hget : ∀ k,w'.heap[k]? = if k < w.heap.size then (if b = k then some (.cells cs'.toArray (nat_lit 3) (0,0)) else w.heap[k]?) else os[k - w.heap.size]? :=fun k=>by
   subst hw
   have hah : (Go.Sort.ahead w n).heap = w.heap:=rfl
   simp only [putRow,mapBlock,grow,hah]
   rw [Array.getElem?_append]
   simp only [Array.size_modify]
   by_cases hk : k < w.heap.size
   ·rw [if_pos hk,if_pos hk,Array.getElem?_modify]
    by_cases hkb : b = k
    ·subst hkb
     rw [if_pos rfl,if_pos rfl,hb1]
     simp [Zan,onCells,hcs',ZbE]
    ·rw [if_neg hkb,if_neg hkb]
   ·rw [if_neg hk,if_neg hk]
  have hres : Res [b] w G w' G:=by
   refine ⟨?_,G.le_refl,fun _ _=>rfl,fun k o hk=>?_⟩
   ·refine ⟨by subst hw; rfl,by subst hw; rfl,by subst hw; rfl,by subst hw; exact Nat.le_add_right _ _,?_,fun k hk hkb=>?_⟩
    ·subst hw
     have hah : (Go.Sort.ahead w n).heap = w.heap:=rfl
     simp [putRow,mapBlock,grow]
     try simp [hah]
    ·rw [hget,if_pos hk,if_neg (by simpa [eq_comm] using hkb)]
   ·have hk1:=hG.lt hk
    have hkb : b ≠ k:=fun e=>by subst e; simp only at hb2; rw [hb2] at hk; cases hk
    rw [hget,if_pos hk1,if_neg hkb]; exact hG k o hk
  have hI' : ∀ x ∈ ZbE l,Zv x:=fun x hx=>hI x (hperm.mem_iff.1 hx)
  refine ⟨_,G,he,hres,rfl,ZbE l,some (b,nat_lit 3,cs'), .inr ⟨b,cs',cap,(ZbE l).map (Value.int .i64),rfl,by rw [hlen],by rw [hlen]; exact h3,h4,?_,Zib _ hI',?_,by rw [hlen]; exact h8,by rw [hlen]; exact h9⟩,fun p hp=>?_,rfl⟩
  ·subst hcs'; rw [hE]; simpa [putCells] using h5
  ·rw [hE,Nat.mul_one]
   apply List.ext_getElem?
   intro t
   rw [List.getElem?_take]
   by_cases ht : t < (ZbE l).length
   ·have htc : t < cs.length:=by omega
    rw [if_pos ht,hcs']
    simp only [putCells,Array.getElem?_toList,Array.getElem?_mapIdx]
    simp only [List.getElem?_toArray]
    rw [List.getElem?_eq_getElem htc,List.getElem?_map,List.getElem?_eq_getElem ht]
    simp [ht]
   ·rw [if_neg ht,List.getElem?_eq_none]
    simp; omega
  ·obtain rfl:=Option.some.inj hp
   exact ⟨by rw [hget,if_pos hbl,if_pos rfl]; rfl,hb2⟩
end Go.Civ
namespace Go.Proofs
open Go.Shelf
def Tryz.ixByte_ren : Go.Shelf.Ren:=⟨fun | 137=>172 | 217=>211 | 266=>245 | n=>n,fun | 9=>9 | 5=>5 | 3=>3 | n=>n,fun | n=>n⟩
theorem Tryz.ixByte : Go.Proofs.Lays.n137 Tryz.prog Tryz.ixByte_ren:={
 mixed:=by kernel_rfl
 f137:=Tryz.func172.trans (congrArg some (by kernel_rfl))
 f217:=Tryz.func211.trans (congrArg some (by kernel_rfl))
 f266:=Tryz.func245.trans (congrArg some (by kernel_rfl))
 t3:=Tryz.underlying3
 a3:=Tryz.isAgg3
 z3:=Tryz.sizeOf3
 v3:=Tryz.zeroValue3
 t5:=Tryz.underlying5
 a5:=Tryz.isAgg5
 z5:=Tryz.sizeOf5
 v5:=Tryz.zeroValue5
 t9:=Tryz.underlying9
 a9:=Tryz.isAgg9
 z9:=Tryz.sizeOf9
 v9:=Tryz.zeroValue9 }
end Go.Proofs
set_option linter.unusedVariables false
namespace Go.Civ
open Go.Proofs Go.Shelf Go.RowKit
theorem ZlA {G : GH} {w : World} (hG : G.In w) (s : List UInt8) (c : Int) : Calls Tryz.prog (nat_lit 172) #[Zb s, .int .u8 c] w fun e w'=>∃ r G',e = .returned r ∧ Res [] w G w' G' ∧ r = .int .i64 (Lib.indexByte s c.toNat.toUInt8):=by
 refine (Any.strings_IndexByte Tryz.ixByte ⟨s.toArray⟩ c w).mono ?_
 rintro e w' ⟨rfl,rfl⟩
 exact ⟨_,G,rfl,Res.refl hG,rfl⟩
end Go.Civ
namespace Go.Civ
open Go.RowKit
set_option linter.unusedVariables false
def TGI (P : Program) (ops : Array Oper) (p : Plan) (C I : World → Prop) (Q : Exit → Env → World → Prop) : Nat → List Nat → Env → World → Prop
 | 0,R,ρ,w=>R = [] → Q .normal ρ w
 | n + 1,R,ρ,w=>(R = [] → Q .normal ρ w) ∧ ∀ j ∈ R,(∀ i ∈ R,waits p.M j i = false) → match ops[j]? with
  | some o=>oW P ops o ρ w fun ρ' w'=>(Qj p j = true → C w') ∧ I w' ∧ TGI P ops p C I Q n (R.filter fun i=>i != j) ρ' w'
  | none=>False
section
variable {P : Program} {N : Nat} {ops : List Oper} {p : Plan} {C I : World → Prop} {Q : Exit → Env → World → Prop} {ρH : Env}
theorem TGI.toTG : ∀ (n : Nat) (R : List Nat) (ρ : Env) (w : World),TGI P ops.toArray p C I Q n R ρ w → TG P ops.toArray p C Q n R ρ w
 | 0,R,ρ,w,h=>h
 | n + 1,R,ρ,w,h=>⟨h.1,fun j hj hw=>by
  have h2:=h.2 j hj hw
  simp only [List.getElem?_toArray] at h2 ⊢
  cases ho : ops[j]? with
  | none=>rw [ho] at h2; exact h2
  | some o=>
   rw [ho] at h2
   exact oW.mono (fun ρ' w' k=>⟨k.1,TGI.toTG n _ _ _ k.2.2⟩) h2⟩
abbrev ANI (I : World → Prop) (K : Env → World → Prop) : Env → World → Prop:=fun ρ w=>I w ∧ K ρ w
def TAI (P : Program) (ops : List Oper) (p : Plan) (C I : World → Prop) (Q : Exit → Env → World → Prop) (n : Nat) (R : List Nat) (ρ : Env) (w : World) : List Nat → Prop
 | []=>True
 | j :: r=>(match ops[j]? with
  | some o=>OW P ops.toArray o ρ w (AN (Qj p j) C (ANI I (TGI P ops.toArray p C I Q n (R.filter fun i=>i != j))))
  | none=>False) ∧ TAI P ops p C I Q n R ρ w r
theorem TAI.nil {n : Nat} {R : List Nat} {ρ : Env} {w : World} : TAI P ops p C I Q n R ρ w []:=trivial
theorem TAI.cons {n j : Nat} {R r : List Nat} {ρ : Env} {w : World} {o : Oper} (ho : ops[j]? = some o)
  (h : OW P ops.toArray o ρ w (AN (Qj p j) C (ANI I (TGI P ops.toArray p C I Q n (R.filter fun i=>i != j))))) (hr : TAI P ops p C I Q n R ρ w r) : TAI P ops p C I Q n R ρ w (j :: r):=by
 simp only [TAI,ho]; exact ⟨h,hr⟩
theorem TAI.get {n : Nat} {R : List Nat} {ρ : Env} {w : World} : ∀ {l : List Nat},TAI P ops p C I Q n R ρ w l → ∀ j ∈ l,match ops.toArray[j]? with
  | some o=>oW P ops.toArray o ρ w fun ρ' w'=>(Qj p j = true → C w') ∧ I w' ∧ TGI P ops.toArray p C I Q n (R.filter fun i=>i != j) ρ' w'
  | none=>False
 | [],_,j,hj=>by cases hj
 | a :: l,h,j,hj=>by
  rcases List.mem_cons.1 hj with rfl | hj
  ·have h1:=h.1
   rw [List.getElem?_toArray]
   cases ho : ops[j]? with
   | none=>rw [ho] at h1; exact h1
   | some o=>rw [ho] at h1; exact h1.h
  ·exact TAI.get h.2 j hj
theorem TGI.fork {ρ : Env} {w : World} (n : Nat) (R av : List Nat) {R0 : List Nat} {n0 : Nat} (hn : n0 = n + 1) (hR : R0 = R) (hav : (R.filter fun j=>R.all fun i=>!waits p.M j i) = av) (hne : R ≠ [])
  (h : TAI P ops p C I Q n R ρ w av) : TGI P ops.toArray p C I Q n0 R0 ρ w:=by
 subst hn hR
 refine ⟨fun z=>absurd z hne,fun j hj hw=>h.get j ?_⟩
 rw [← hav,List.mem_filter,List.all_eq_true]
 exact ⟨hj,fun i hi=>by rw [hw i hi]; rfl⟩
theorem TGI.quietG {j : Nat} {o : Oper} {d : Nat} {v : Value} (ho : ops[j]? = some o) (hd : o.dst = some d) : ∀ (n : Nat) (R : List Nat) (ρ : Env) (w : World),I w → Quiet ops p R j o d → (R.filter fun i=>i != j).length ≤ n →
  (∀ w,I w → ∀ K,K (ZE ρ d v) w → OW P ops.toArray o ρ w K) → TGI P ops.toArray p C I Q n (R.filter fun i=>i != j) (ZE ρ d v) w → TGI P ops.toArray p C I Q (n + 1) R ρ w:=by
 intro n
 induction n with
 | zero=>
  intro R ρ w hI hQ hn hq h
  refine ⟨fun e=>(by rw [e] at hQ; exact absurd hQ.mem (by simp)),fun k hk hav=>?_⟩
  by_cases hkj : k = j
  ·subst hkj
   simp only [List.getElem?_toArray,ho]
   exact (hq w hI _ ⟨fun e=>(by rw [hQ.need] at e; cases e),hI,h⟩).h
  ·have : k ∈ R.filter fun i=>i != j:=List.mem_filter.2 ⟨hk,by simpa using hkj⟩
   have e0:=List.eq_nil_of_length_eq_zero (Nat.le_zero.1 hn)
   rw [e0] at this; cases this
 | succ n ih=>
  intro R ρ w hI hQ hn hq h
  refine ⟨fun e=>(by rw [e] at hQ; exact absurd hQ.mem (by simp)),fun k hk hav=>?_⟩
  by_cases hkj : k = j
  ·subst hkj
   simp only [List.getElem?_toArray,ho]
   exact (hq w hI _ ⟨fun e=>(by rw [hQ.need] at e; cases e),hI,h⟩).h
  ·have hk' : k ∈ R.filter fun i=>i != j:=List.mem_filter.2 ⟨hk,by simpa using hkj⟩
   have h2:=h.2 k hk' fun i hi=>hav i (List.mem_filter.1 hi).1
   simp only [List.getElem?_toArray] at h2 ⊢
   cases hok : ops[k]? with
   | none=>rw [hok] at h2; exact h2
   | some q=>
    rw [hok] at h2
    simp only at h2 ⊢
    obtain ⟨q1,q2,q3,q4⟩:=hQ.other k hk hkj q hok
    have hdl : ¬ d ∈ q.looksAt ops.toArray:=fun hl=>by rw [hav j hQ.mem] at q2; cases q2 hl
    refine QV q4 (fun t ht=>Zdc (ρ:=ρ) (v:=v) (show t ≠ d from fun e=>hdl (by rw [← e]; exact ht))) (fun x w' hK=>⟨hK.1,hK.2.1,?_⟩) h2
    have hcm : YW (ZE ρ d v) q.dst x = ZE (YW ρ q.dst x) d v:=by
     cases hqd : q.dst with
     | none=>rfl
     | some t=>exact ZjN fun e=>q1 (by rw [hqd,e])
    have hlo : ∀ t,t ∈ o.looksAt ops.toArray → ρ t = YW ρ q.dst x t:=fun t ht=>by
     cases hqd : q.dst with
     | none=>rfl
     | some t'=>exact (Zdc (ρ:=ρ) (v:=x) (show t ≠ t' from fun e=>q3 t' hqd (by rw [← e]; exact ht))).symm
    have hff : (R.filter fun i=>i != k).filter (fun i=>i != j) = (R.filter fun i=>i != j).filter fun i=>i != k:=by
     rw [List.filter_filter,List.filter_filter]; congr 1; funext i; exact Bool.and_comm _ _
    refine ih _ _ w' hK.2.1 ⟨List.mem_filter.2 ⟨hQ.mem,by simpa using Ne.symm hkj⟩,fun i hi=>hQ.av i (List.mem_filter.1 hi).1,hQ.need,hQ.sel,fun i hi=>hQ.other i (List.mem_filter.1 hi).1⟩ ?_ (fun w2 hI2 K hK2=>⟨?_⟩) ?_
    ·rw [hff]
     have h3 : ((R.filter fun i=>i != j).filter fun i=>i != k).length < (R.filter fun i=>i != j).length:=List.length_filter_lt_length_iff_exists.2 ⟨k,hk',by simp⟩
     omega
    ·refine QV (K:=fun r w3=>r = ZE ρ d v ∧ w3 = w2) hQ.sel hlo (fun y w3 hy=>?_) (hq w2 hI2 _ ⟨rfl,rfl⟩).h
     rw [hd] at hy ⊢
     obtain ⟨e1,rfl⟩:=hy
     have e2 : y = v:=by have:=congrFun e1 d; simp only [YW,ZjO] at this; exact this
     subst e2; exact hK2
    ·rw [hff,← hcm]; exact hK.2.2
theorem TGI.quiet {ρ : Env} {w : World} (n : Nat) (R : List Nat) (j : Nat) {o : Oper} {d : Nat} {v : Value} {R0 : List Nat} {n0 : Nat} (hn : n0 = n + 1) (hR : R0 = R) (ho : ops[j]? = some o) (hd : o.dst = some d) (hb : ZgP ops p R j = true) (hl : (R.filter fun i=>i != j).length ≤ n) (hI : I w)
  (hq : ∀ w,I w → ∀ K,K (ZE ρ d v) w → OW P ops.toArray o ρ w K) (h : TGI P ops.toArray p C I Q n (R.filter fun i=>i != j) (ZE ρ d v) w) : TGI P ops.toArray p C I Q n0 R0 ρ w:=by
 subst hn hR; exact TGI.quietG ho hd _ _ _ _ hI (Ziw ho hd hb) hl hq h
theorem TGI.fin {ρ : Env} {w : World} {n : Nat} {R0 : List Nat} (hR : R0 = []) (h : Q .normal ρ w) : TGI P ops.toArray p C I Q n R0 ρ w:=by
 subst hR
 cases n with
 | zero=>exact fun _=>h
 | succ n=>exact ⟨fun _=>h,fun j hj=>by cases hj⟩
theorem GH.In.down {G G' : GH} {w : World} (h : G'.In w) (k : G.le G') : G.In w:=fun b o e=>h b o (k b o e)
end
end Go.Civ
