/- Lemmas. -/
import Derived.Test.YthgeclodflmiaaaGreatP03
import Derived.Test.YthgeclodflmiaaaGreatP05
import Derived.Test.YthgeclodflmiaaaGreatP08
import Derived.Test.YthgeclodflmiaaaGreatP11
import Derived.Lib.SlicesCompact
import Derived.Shelf.Sort.Plain
import Derived.WalkKit
import Derived.KernelRfl
namespace Go.Civ
set_option linter.unusedVariables false
open Go.Lib (compact compactUpTo keeps)
structure CInv (z : List Int) (m : Nat) (c : List Int) : Prop where
 inc : c.Pairwise (· < ·)
 mem : ∀ x,x ∈ c ↔ ∃ j,j < m ∧ z[j]? = some x
theorem Zc7 {z : List Int} (hs : z.Pairwise (· ≤ ·)) : ∀ m,m ≤ z.length → CInv z m (compactUpTo z.toArray m)
 | 0,_=>⟨by simp [compactUpTo],fun x=>by simp [compactUpTo]⟩
 | m + 1,hm=>by
  have ih:=Zc7 hs m (by omega)
  have hlt : m < z.length:=by omega
  have hz : z.toArray[m]! = z[m]:=by rw [getElem!_pos z.toArray m (by simpa using hlt)]; simp
  have hzm : z[m]? = some z[m]:=List.getElem?_eq_getElem hlt
  rw [Go.Lib.compactUpTo_succ]
  cases hk : keeps z.toArray m with
  | true=>
   simp only [if_true,hz]
   refine ⟨List.pairwise_append.2 ⟨ih.inc,by simp,fun a ha b hb=>?_⟩,fun x=>?_⟩
   ·obtain rfl:=List.mem_singleton.1 hb
    obtain ⟨j,hj,hja⟩:=(ih.mem a).1 ha
    have hm0 : 0 < m:=by omega
    have hz1 : z.toArray[m - 1]! = z[m - 1]:=by rw [getElem!_pos z.toArray (m - 1) (by simp; omega)]; simp
    have hne : z[m] ≠ z[m - 1]:=by
     unfold keeps at hk
     simp only [decide_eq_true_eq] at hk
     rcases hk with h | h
     ·omega
     ·rwa [hz,hz1] at h
    obtain ⟨hjl,rfl⟩:=List.getElem?_eq_some_iff.1 hja
    have h1 : z[m - 1] ≤ z[m]:=List.pairwise_iff_getElem.1 hs (m - 1) m (by omega) hlt (by omega)
    have h2 : z[j] ≤ z[m - 1]:=by
     by_cases e : j = m - 1
     ·subst e; exact Int.le_refl _
     ·exact List.pairwise_iff_getElem.1 hs j (m - 1) hjl (by omega) (by omega)
    omega
   ·rw [List.mem_append,ih.mem,List.mem_singleton]
    constructor
    ·rintro (⟨j,hj,h⟩ | rfl)
     ·exact ⟨j,by omega,h⟩
     ·exact ⟨m,by omega,hzm⟩
    ·rintro ⟨j,hj,h⟩
     by_cases e : j = m
     ·subst e; rw [hzm] at h; exact .inr (Option.some.inj h).symm
     ·exact .inl ⟨j,by omega,h⟩
  | false=>
   have h:=hk
   unfold keeps at h
   simp only [decide_eq_false_iff_not,not_or,Classical.not_not] at h
   have hz1 : z.toArray[m - 1]! = z[m - 1]:=by rw [getElem!_pos z.toArray (m - 1) (by simp; omega)]; simp
   rw [hz,hz1] at h
   simp only [Bool.false_eq_true,if_false,List.append_nil]
   refine ⟨ih.inc,fun x=>?_⟩
   rw [ih.mem]
   constructor
   ·rintro ⟨j,hj,h⟩; exact ⟨j,by omega,h⟩
   ·rintro ⟨j,hj,hx⟩
    by_cases e : j = m
    ·subst e
     rw [hzm] at hx
     obtain rfl:=Option.some.inj hx
     exact ⟨j - 1,by omega,by rw [List.getElem?_eq_getElem (by omega),h.2]⟩
    ·exact ⟨j,by omega,hx⟩
theorem ZcR {z : List Int} (hs : z.Pairwise (· ≤ ·)) : CInv z z.length (compact z):=Zc7 hs _ (Nat.le_refl _)
theorem Zfj {z : List Int} (hs : z.Pairwise (· ≤ ·)) {x : Int} : x ∈ compact z ↔ x ∈ z:=by
 rw [(ZcR hs).mem]
 constructor
 ·rintro ⟨j,_,h⟩; exact List.mem_of_getElem? h
 ·intro h
  obtain ⟨j,hj⟩:=List.getElem?_of_mem h
  exact ⟨j,(List.getElem?_eq_some_iff.1 hj).1,hj⟩
theorem Zfk (z : List Int) : (compact z).length ≤ z.length:=by
 unfold compact compactUpTo
 rw [List.length_map]
 exact Nat.le_trans (List.length_filter_le _ _) (by simp)
def X2 (l : List Int) : List Int:=l.mergeSort fun x y=>decide (x ≤ y)
theorem Zc8 (l : List Int) : (X2 l).Pairwise (· ≤ ·):=by
 have:=List.pairwise_mergeSort (le:=fun (x y : Int)=>decide (x ≤ y)) (fun a b c h1 h2=>by simp at *; omega) (fun a b=>by simp; omega) l
 exact this.imp fun h=>by simpa using h
theorem Zdw (l : List Int) : (X2 l).Perm l:=List.mergeSort_perm _ _
def ZeU : List Int → Bool
 | x :: y :: r=>decide (x ≤ y) && ZeU (y :: r)
 | _=>true
theorem Zfl : ∀ {l : List Int},(∀ (k : Nat) x y,l[k]? = some y → l[k + 1]? = some x → y ≤ x) → ZeU l = true
 | a :: b :: r,h=>by
  simp only [ZeU,Bool.and_eq_true,decide_eq_true_eq]
  exact ⟨h 0 b a rfl rfl,Zfl fun k x y h1 h2=>h (k + 1) x y (by simpa using h1) (by simpa using h2)⟩
 | [],_=>rfl
 | [_],_=>rfl
def Zdx (l : List Int) (j : Int) : Prop:=∀ (q : Nat) (x y : Int),j ≤ q → l[q]? = some y → l[q + 1]? = some x → y ≤ x
theorem Zdx.start {l : List Int} {j : Int} (h : (l.length : Int) - 1 ≤ j) : Zdx l j:=fun q x y hq h1 h2=>by
 have:=(List.getElem?_eq_some_iff.1 h2).1; omega
theorem Zdx.step {l : List Int} {j x y : Int} (h : Zdx l j) (hj : 0 < j) (h1 : l[j.toNat]? = some x) (h2 : l[(j - 1).toNat]? = some y) (hxy : decide (x < y) = false) : Zdx l (j - 1):=fun q u v hq k1 k2=>by
 by_cases e : (q : Int) = j - 1
 ·have e1 : q = (j - 1).toNat:=by omega
  have e2 : q + 1 = j.toNat:=by omega
  rw [e2,h1] at k2
  rw [e1,h2] at k1
  obtain rfl:=Option.some.inj k1
  obtain rfl:=Option.some.inj k2
  have:=of_decide_eq_false hxy; omega
 ·exact h q u v (by omega) k1 k2
theorem Zdx.yes {l : List Int} {j : Int} (h : Zdx l j) (hj : j ≤ 0) : ZeU l = true:=Zfl fun k x y h1 h2=>h k x y (by omega) h1 h2
end Go.Civ
set_option linter.unusedVariables false
namespace Go.Civ
open Go.Proofs Go.Shelf Go.RowKit Go.Lib Go.Sort
theorem Zhb {G : GH} : ∀ (l : List Int),(∀ x ∈ l,Zy x) → YS Enc.int G l (l.map (Value.int .i64))
 | [],_=>rfl
 | x :: l,h=>⟨[.int .i64 x],l.map (Value.int .i64),rfl,⟨rfl,h x (by simp)⟩,Zhb l fun y hy=>h y (by simp [hy])⟩
theorem ZbN {G : GH} : ∀ (l : List Int) (xs : List Value),YS Enc.int G l xs → xs = l.map (Value.int .i64) ∧ ∀ x ∈ l,Zy x
 | [],xs,h=>⟨h,by simp⟩
 | x :: l,xs,⟨c,r,h1,h2,h3⟩=>by
  obtain ⟨rfl,hb⟩:=h2
  obtain ⟨rfl,h4⟩:=ZbN l r h3
  refine ⟨h1,fun y hy=>?_⟩
  rcases List.mem_cons.1 hy with rfl | hy
  ·exact hb
  ·exact h4 y hy
def ZaU (l : List Int) : List Int:=l.mergeSort fun x y=>decide (x ≤ y)
set_option maxHeartbeats 1000000 in
theorem Zk0 {G : GH} {w : World} (hG : G.In w) (l : List Int) (vd : Value) (od : OB) (hvd : ZS Enc.int 8 (nat_lit 3) G vd l od) (hod : QW w G od) :
  Calls Tryz.prog (nat_lit 145) #[vd] w fun e w'=>∃ r G',e = .returned r ∧ Res (blk od) w G w' G' ∧ r = .tuple #[] ∧ ∃ (l' : List Int) (o' : OB),ZS Enc.int 8 (nat_lit 3) G' vd l' o' ∧ QW w' G' o' ∧ l' = ZaU l:=by
 rcases hvd with ⟨rfl,rfl,rfl⟩ | ⟨b,cs,cap,xs,rfl,rfl,h3,h4,h5,h6,h7,h8,h9⟩
 ·exact (Any.slices_Sort_int_none Tryz.laysSort none 0 w).mono fun e w' ⟨he,hw⟩=>by
   subst hw
   exact ⟨_,G,he,Res.refl hG,rfl,[],none, .inl ⟨rfl,rfl,rfl⟩,fun p hp=>(by cases hp),by simp [ZaU]⟩
 ·obtain ⟨hb1,hb2⟩:=hod _ rfl
  obtain ⟨rfl,hI⟩:=ZbN l xs h6
  have hE : Enc.int.n = 1:=rfl
  rw [hE,Nat.mul_one] at h5 h7
  have hcell : ∀ t,t < l.length → cs[t]? = some (.int .i64 l[t]!):=fun t ht=>by
   have:=congrArg (·[t]?) h7
   simp only [List.getElem?_take,if_pos ht,List.getElem?_map] at this
   rw [this,List.getElem?_eq_getElem ht,getElem!_pos l t ht]; rfl
  have hH : Holds (Value.int .i64) w b 0 l.toArray:=fun t ht=>by
   have ht' : t < l.length:=by simpa using ht
   refine ⟨?_,?_⟩
   ·rw [Nat.zero_add]
    simp only [World.cell?,hb1,Zac]
    have:=hcell t ht'
    rw [getElem!_pos l t ht'] at this
    rw [getElem!_pos l.toArray t ht]
    simpa using this
   ·simp [World.frozen?,hb1,Zac]
  have hcon:=Any.slices_Sort_int Tryz.laysSort b 0 cap l w hH (Array.getElem?_eq_some_iff.1 hb1).1 (by unfold reach at h9; omega)
  refine hcon.mono fun e w' ⟨he,n,os,hw⟩=>?_
  have hperm : (ZaU l).Perm l:=List.mergeSort_perm _ _
  have hlen : (ZaU l).length = l.length:=hperm.length_eq
  have hbl : b < w.heap.size:=(Array.getElem?_eq_some_iff.1 hb1).1
  obtain ⟨cs',hcs'⟩ : ∃ cs' : List Value,cs' = (putCells (Value.int .i64) 0 (ZaU l).toArray cs.toArray).toList:=⟨_,rfl⟩
  have hget : ∀ k,w'.heap[k]? = if k < w.heap.size then (if b = k then some (.cells cs'.toArray (nat_lit 3) (0,0)) else w.heap[k]?) else os[k - w.heap.size]? :=fun k=>by
   subst hw
   have hah : (Go.Sort.ahead w n).heap = w.heap:=rfl
   simp only [putRow,mapBlock,grow,hah]
   rw [Array.getElem?_append]
   simp only [Array.size_modify]
   by_cases hk : k < w.heap.size
   ·rw [if_pos hk,if_pos hk,Array.getElem?_modify]
    by_cases hkb : b = k
    ·subst hkb
     rw [if_pos rfl,if_pos rfl,hb1]
     simp [Zac,onCells,hcs',ZaU]
    ·rw [if_neg hkb,if_neg hkb]
   ·rw [if_neg hk,if_neg hk]
  have hres : Res [b] w G w' G:=by
   refine ⟨?_,G.le_refl,fun _ _=>rfl,fun k o hk=>?_⟩
   ·refine ⟨by subst hw; rfl,by subst hw; rfl,by subst hw; rfl,by subst hw; exact Nat.le_add_right _ _,?_,fun k hk hkb=>?_⟩
    ·subst hw
     have hah : (Go.Sort.ahead w n).heap = w.heap:=rfl
     simp [putRow,mapBlock,grow]
     try simp [hah]
    ·rw [hget,if_pos hk,if_neg (by simpa [eq_comm] using hkb)]
   ·have hk1:=hG.lt hk
    have hkb : b ≠ k:=fun e=>by subst e; simp only at hb2; rw [hb2] at hk; cases hk
    rw [hget,if_pos hk1,if_neg hkb]; exact hG k o hk
  have hI' : ∀ x ∈ ZaU l,Zy x:=fun x hx=>hI x (hperm.mem_iff.1 hx)
  refine ⟨_,G,he,hres,rfl,ZaU l,some (b,nat_lit 3,cs'), .inr ⟨b,cs',cap,(ZaU l).map (Value.int .i64),rfl,by rw [hlen],by rw [hlen]; exact h3,h4,?_,Zhb _ hI',?_,by rw [hlen]; exact h8,by rw [hlen]; exact h9⟩,fun p hp=>?_,rfl⟩
  ·subst hcs'; rw [hE]; simpa [putCells] using h5
  ·rw [hE,Nat.mul_one]
   apply List.ext_getElem?
   intro t
   rw [List.getElem?_take]
   by_cases ht : t < (ZaU l).length
   ·have htc : t < cs.length:=by omega
    rw [if_pos ht,hcs']
    simp only [putCells,Array.getElem?_toList,Array.getElem?_mapIdx]
    simp only [List.getElem?_toArray]
    rw [List.getElem?_eq_getElem htc,List.getElem?_map,List.getElem?_eq_getElem ht]
    simp [ht]
   ·rw [if_neg ht,List.getElem?_eq_none]
    simp; omega
  ·obtain rfl:=Option.some.inj hp
   exact ⟨by rw [hget,if_pos hbl,if_pos rfl]; rfl,hb2⟩
end Go.Civ
set_option linter.unusedVariables false
namespace Go.Civ
open Go.Proofs Go.Shelf Go.RowKit Go.Lib Go.Sort
theorem ZhJ {α : Type} (enc : α → List Value) (k : Nat) (hk0 : 0 < k) (hk : ∀ x,(enc x).length = k) : ∀ (l : List α) (t : Nat),(l.flatMap enc)[t]? = (l[t / k]?).bind fun x=>(enc x)[t % k]?
 | [],t=>by simp
 | x :: l,t=>by
  rw [List.flatMap_cons,List.getElem?_append]
  by_cases ht : t < k
  ·rw [if_pos (by rw [hk]; exact ht),Nat.div_eq_of_lt ht,Nat.mod_eq_of_lt ht]; rfl
  ·rw [if_neg (by rw [hk]; exact ht),hk,ZhJ enc k hk0 hk l (t - k),Nat.div_eq_sub_div (a:=t) hk0 (by omega),Nat.mod_eq_sub_mod (a:=t) (by omega),List.getElem?_cons_succ]
theorem ZhK {α : Type} [Inhabited α] (enc : α → List Value) (k : Nat) (hk0 : 0 < k) (hk : ∀ x,(enc x).length = k) (d : Array α) (t : Nat) (ht : t < d.size * k) : (d.toList.flatMap enc)[t]? = some ((flatK enc k d)[t]!):=by
 rw [ZhJ enc k hk0 hk,get_flatK enc k d t ht]
 have hd : t / k < d.size:=(Nat.div_lt_iff_lt_mul hk0).2 ht
 have e : d.toList[t / k]? = some d[t / k]! :=by
  rw [getElem!_pos d (t / k) hd,Array.getElem?_toList,Array.getElem?_eq_getElem hd]
 rw [e]
 simp only [Option.bind_some]
 have hl : t % k < (enc d[t / k]!).length:=by rw [hk]; exact Nat.mod_lt _ hk0
 rw [List.getElem?_eq_getElem hl,getElem!_pos (enc d[t / k]!) (t % k) hl]
abbrev Elt {α : Type} (E : Enc α) (G : GH) (V : α → Prop):={ p : α × List Value // E.rep G p.1 p.2 ∧ V p.1 }
section
variable {α : Type} {E : Enc α} {G : GH} {V : α → Prop}
theorem ZhL : ∀ (l : List α) (xs : List Value),YS E G l xs → (∀ x ∈ l,V x) → ∃ dl : List (Elt E G V),dl.map (·.1.1) = l ∧ dl.flatMap (·.1.2) = xs
 | [],xs,h,_=>⟨[],rfl,by simpa using h.symm⟩
 | x :: l,xs,⟨c,r,h1,h2,h3⟩,hV=>by
  obtain ⟨dl,k1,k2⟩:=ZhL l r h3 fun y hy=>hV y (by simp [hy])
  exact ⟨⟨(x,c),h2,hV x (by simp)⟩ :: dl,by simp [k1],by simp [k2,h1]⟩
theorem Ze9 : ∀ (dl : List (Elt E G V)),YS E G (dl.map (·.1.1)) (dl.flatMap (·.1.2))
 | []=>rfl
 | x :: l=>⟨x.1.2,_,rfl,x.2.1,Ze9 l⟩
theorem Kept.grow {w w' : World} (h : Kept [] w w') : ∃ q os',w' = grow (w.drewN q) os':=by
 refine ⟨w'.drawn - w.drawn,w'.heap.extract w.heap.size w'.heap.size,?_⟩
 obtain ⟨h1,h2,h3,h4,h5,h6⟩:=h
 obtain ⟨heap,tape,drawn,os,output⟩:=w
 obtain ⟨heap',tape',drawn',os',output'⟩:=w'
 simp only at h1 h2 h3 h4 h5 h6
 subst h1 h2 h3
 simp only [Go.Sort.grow,World.drewN]
 have e1 : drawn + (drawn' - drawn) = drawn':=by omega
 have e2 : heap ++ heap'.extract heap.size heap'.size = heap':=by
  apply Array.ext_getElem?
  intro i
  rw [Array.getElem?_append]
  split
  ·rename_i hi; exact (h6 i hi (by simp)).symm
  ·rename_i hi
   rw [Array.getElem?_extract]
   split
   ·congr 1; omega
   ·rw [Array.getElem?_eq_none]; omega
 rw [e1,e2]
end
theorem ZeA {β : Type} [Inhabited β] (enc : β → List Value) (k : Nat) (w : World) (b n : Nat) (d : Array β) (os : Array Obj) {cs : List Value} {tid : TypeId} (hb : w.heap[b]? = some (.cells cs.toArray tid (0,0))) (i : Nat) :
  (sortWorldK enc k w b 0 n d os).heap[i]? = if i < w.heap.size then (if b = i then some (.cells (putCells id 0 (flatK enc k d) cs.toArray) tid (0,0)) else w.heap[i]?) else os[i - w.heap.size]? :=by
 have hah : (Go.Sort.ahead w n).heap = w.heap:=rfl
 simp only [sortWorldK,putRowK,putRow,mapBlock,Go.Sort.grow,hah]
 rw [Array.getElem?_append]
 simp only [Array.size_modify]
 by_cases hk : i < w.heap.size
 ·rw [if_pos hk,if_pos hk,Array.getElem?_modify]
  by_cases hkb : b = i
  ·subst hkb
   rw [if_pos rfl,if_pos rfl,hb]
   simp [onCells]
  ·rw [if_neg hkb,if_neg hkb]
 ·rw [if_neg hk,if_neg hk]
theorem ZjA {β : Type} [Inhabited β] (enc : β → List Value) (k : Nat) {w : World} {G : GH} (hG : G.In w) (b n : Nat) (d : Array β) (os : Array Obj) {cs : List Value} {tid : TypeId} (hb : w.heap[b]? = some (.cells cs.toArray tid (0,0))) (hg : G b = none) :
  Res [b] w G (sortWorldK enc k w b 0 n d os) G:=by
 refine ⟨⟨rfl,rfl,rfl,Nat.le_add_right _ _,?_,fun i hi hkb=>?_⟩,G.le_refl,fun _ _=>rfl,fun i o hk=>?_⟩
 ·have hah : (Go.Sort.ahead w n).heap = w.heap:=rfl
  simp [sortWorldK,putRowK,putRow,mapBlock,Go.Sort.grow]
  try simp [hah]
 ·rw [ZeA enc k w b n d os hb,if_pos hi,if_neg (by simpa [eq_comm] using hkb)]
 ·have hk1:=hG.lt hk
  have hkb : b ≠ i:=fun e=>by subst e; rw [hg] at hk; cases hk
  rw [ZeA enc k w b n d os hb,if_pos hk1,if_neg hkb]; exact hG i o hk
set_option maxHeartbeats 2000000 in
theorem Zk8 {P : Program} {ρr : Ren} (Ls : SlLaysF0.n6 P ρr) {α : Type} {E : Enc α} {by_ : Nat} {tid : TypeId} (hk0 : 0 < E.n) (aE : ∀ w,(isAgg (ρr.t 24)).run P w = .ok true w) (zE : ∀ w,(Go.sizeOf (ρr.t 24)).run P w = .ok E.n w)
  (cf : α → α → Int) (V : α → Prop) (hirr : ∀ x,V x → ¬ cf x x < 0) (htr : ∀ x y z,V x → V y → V z → cf x y < 0 → cf y z < 0 → cf x z < 0) (hnt : ∀ x y z,V x → V y → V z → ¬ cf x y < 0 → ¬ cf y z < 0 → ¬ cf x z < 0)
  (gf : Nat) (eg : ∀ args w,(callFunc gf args).run P w = .ok (.enter gf args) w) {G : GH} {w : World} (hG : G.In w)
  (hcl : ∀ W,G.In W → ∀ x y cx cy,V x → V y → E.rep G x cx → E.rep G y cy → Calls P gf #[.agg cx.toArray, .agg cy.toArray] W fun e w'=>∃ r G',e = .returned r ∧ Res [] W G w' G' ∧ r = .int .i64 (cf x y))
  (x0 : α) (c0 : List Value) (h0 : E.rep G x0 c0) (hV0 : V x0) (l : List α) (hV : ∀ x ∈ l,V x) (vd : Value) (od : OB) (hvd : ZS E by_ tid G vd l od) (hod : QW w G od) :
  Calls P (ρr.f 6) #[vd, .func (.func gf) #[] #[]] w fun e w'=>∃ r G',e = .returned r ∧ Res (blk od) w G w' G' ∧ r = .tuple #[] ∧ ∃ (l' : List α) (o' : OB),ZS E by_ tid G' vd l' o' ∧ QW w' G' o' ∧ (l'.Perm l ∧ l'.Pairwise fun x y=>¬ cf y x < 0):=by
 rcases hvd with ⟨rfl,rfl,rfl⟩ | ⟨b,cs,cap,xs,rfl,rfl,h3,h4,h5,h6,h7,h8,h9⟩
 ·exact (AnyF.slices_SortFunc_none (P:=P) (ρ:=ρr) { Ls with } none 0 (.func (.func gf) #[] #[]) w).mono fun e w' ⟨he,hw⟩=>by
   subst hw
   exact ⟨_,G,he,Res.refl hG,rfl,[],none, .inl ⟨rfl,rfl,rfl⟩,fun p hp=>(by cases hp),List.Perm.refl _,List.Pairwise.nil⟩
 ·obtain ⟨hb1,hb2⟩:=hod _ rfl
  simp only [Zac] at hb1
  obtain ⟨dl,rfl,rfl⟩:=ZhL l xs h6 hV
  letI : Inhabited (Elt E G V):=⟨⟨(x0,c0),h0,hV0⟩⟩
  have hkE : ∀ x : Elt E G V,(x.1.2).length = E.n:=fun x=>E.len x.2.1
  have hsz : dl.toArray.size = (dl.map (·.1.1)).length:=by simp
  have hcell : ∀ t,t < dl.toArray.size * E.n → cs[t]? = some ((flatK (fun x : Elt E G V=>x.1.2) E.n dl.toArray)[t]!):=fun t ht=>by
   rw [← ZhK (fun x : Elt E G V=>x.1.2) E.n hk0 hkE dl.toArray t ht]
   have e7:=congrArg (·[t]?) h7
   rw [List.getElem?_take,if_pos (by rw [← hsz]; exact ht)] at e7
   exact e7
  have hH : HoldsK (fun x : Elt E G V=>x.1.2) E.n w b 0 dl.toArray:=fun t ht=>by
   rw [size_flatK] at ht
   refine ⟨?_,?_⟩
   ·rw [Nat.zero_add]
    simp only [World.cell?,hb1]
    have:=hcell t ht
    simpa using this
   ·simp [World.frozen?,hb1]
  have hO : SWO (ltOf fun x y : Elt E G V=>cf x.1.1 y.1.1):=
   ⟨fun x=>decide_eq_false (hirr _ x.2.2),fun x y z p q=>decide_eq_true (htr _ _ _ x.2.2 y.2.2 z.2.2 (of_decide_eq_true p) (of_decide_eq_true q)),fun x y z p q=>decide_eq_false (hnt _ _ _ x.2.2 y.2.2 z.2.2 (of_decide_eq_false p) (of_decide_eq_false q))⟩
  have hcon:=AnyQ.slices_SortFunc Ls E.n aE zE (fun x : Elt E G V=>x.1.2) hkE (fun x v hv=>E.one x.2.1 v hv) (fun x y=>cf x.1.1 y.1.1) hO gf #[] b 0 cap dl.toArray w eg
   (fun m os dk _ x y=>(hcl _ (ZjA _ _ hG b m dk os hb1 hb2).imm x.1.1 y.1.1 x.1.2 y.1.2 x.2.2 y.2.2 x.2.1 y.2.1).mono fun e w' ⟨r,G',he,hres,hr⟩=>⟨by rw [he,hr],hres.kept.grow⟩)
   hH (Array.getElem?_eq_some_iff.1 hb1).1 (by rw [hsz]; unfold reach at h9; omega)
  rw [hsz] at hcon
  refine hcon.mono fun e w' ⟨he,d',n,os,hp,hs,hw⟩=>?_
  obtain ⟨hp1,hp2,hp3⟩:=hp
  have hd' : d'.size = dl.length:=by simpa using hp1
  have hperm : d'.toList.Perm dl:=by
   have e1 : d'.extract 0 dl.toArray.size = d':=by rw [← hp1]; simp
   have e2 : dl.toArray.extract 0 dl.toArray.size = dl.toArray:=by simp
   rw [hsz.symm,e1,e2] at hp3; simpa using hp3
  have hbl : b < w.heap.size:=(Array.getElem?_eq_some_iff.1 hb1).1
  subst hw
  obtain ⟨cs',hcs'⟩ : ∃ cs' : List Value,cs' = (putCells id 0 (flatK (fun x : Elt E G V=>x.1.2) E.n d') cs.toArray).toList:=⟨_,rfl⟩
  have hres:=ZjA (fun x : Elt E G V=>x.1.2) E.n hG b n d' os hb1 hb2
  have hlen : (d'.toList.map (·.1.1)).length = (dl.map (·.1.1)).length:=by simp [hd']
  have hln : (dl.map (·.1.1)).length = dl.length:=by simp
  have h5' : cs.length = cap * E.n:=h5
  have hfl : (d'.toList.flatMap (·.1.2)).length = d'.size * E.n:=by
   have:=YS.len (Ze9 d'.toList); simpa using this
  have hcapd : d'.size * E.n ≤ cs.length:=by
   rw [h5']; exact Nat.mul_le_mul_right _ (by omega)
  refine ⟨_,G,he,hres,rfl,d'.toList.map (·.1.1),some (b,tid,cs'), .inr ⟨b,cs',cap,d'.toList.flatMap (·.1.2),rfl,by rw [hlen],by rw [hlen]; exact h3,h4,?_,Ze9 _,?_,by rw [hlen]; exact h8,by rw [hlen]; exact h9⟩,fun p hp=>?_,?_,?_⟩
  ·subst hcs'; simpa [putCells] using h5
  ·apply List.ext_getElem?
   intro t
   rw [List.getElem?_take]
   have hn2 : (d'.toList.map (·.1.1)).length * E.n = d'.size * E.n:=by simp
   rw [hn2]
   by_cases ht : t < d'.size * E.n
   ·have htc : t < cs.length:=by omega
    rw [if_pos ht,ZhK (fun x : Elt E G V=>x.1.2) E.n hk0 hkE d' t ht,hcs']
    simp only [putCells,Array.getElem?_toList,Array.getElem?_mapIdx,size_flatK]
    simp only [List.getElem?_toArray]
    rw [List.getElem?_eq_getElem htc]
    simp [ht]
   ·rw [if_neg ht,List.getElem?_eq_none]; omega
  ·obtain rfl:=Option.some.inj hp
   refine ⟨?_,hb2⟩
   rw [ZeA _ _ w b n d' os hb1,if_pos hbl,if_pos rfl,hcs']; rfl
  ·exact hperm.map _
  ·rw [List.pairwise_map,List.pairwise_iff_getElem]
   intro i j hi hj hij
   have h:=hs i j (by omega) hij (by rw [← hsz,← hp1]; simpa using hj)
   have hi' : i < d'.size:=by simpa using hi
   have hj' : j < d'.size:=by simpa using hj
   rw [getElem!_pos d' i hi',getElem!_pos d' j hj'] at h
   have:=of_decide_eq_false h
   simpa only [Array.getElem_toList] using this
end Go.Civ
