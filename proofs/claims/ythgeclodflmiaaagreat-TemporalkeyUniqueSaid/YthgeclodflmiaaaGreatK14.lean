/- Lemmas. -/
import Derived.Test.YthgeclodflmiaaaGreatK03
import Derived.Test.YthgeclodflmiaaaGreatK05
import Derived.Test.YthgeclodflmiaaaGreatK08
import Derived.Test.YthgeclodflmiaaaGreatK12
import Derived.Test.YthgeclodflmiaaaGreatK13
import Derived.WalkKit
import Derived.KernelRfl
namespace Go.Civ
set_option linter.unusedVariables false

theorem cmpS_cons (x y : UInt8) (a b : List UInt8) : cmpS (x :: a) (y :: b) = if x = y then cmpS a b else sgn (x.toNat : Int) (y.toNat : Int) := by
  unfold cmpS
  by_cases e : x = y
  · subst e
    rw [if_pos rfl]
    simp [Op.bytesLess]
  · rw [if_neg e]
    have hn : x.toNat ≠ y.toNat := fun q => e (UInt8.toNat_inj.1 q)
    simp only [Op.bytesLess, List.cons.injEq, e, false_and, if_false]
    have hbe : (x == y) = false := by simpa using e
    rw [hbe]
    simp only [Bool.false_and, Bool.or_false, decide_eq_true_eq]
    unfold sgn
    by_cases k : x < y
    · rw [if_pos k, if_pos (by rw [UInt8.lt_iff_toNat_lt] at k; omega)]
    · rw [if_neg k, if_neg (by rw [UInt8.lt_iff_toNat_lt] at k; omega), if_pos (by rw [UInt8.lt_iff_toNat_lt] at k; omega)]
theorem cmpS_at : ∀ {a b : List UInt8} {k : Nat} {x y : UInt8}, (∀ j, j < k → ∀ c d, a[j]? = some c → b[j]? = some d → c = d) → a[k]? = some x → b[k]? = some y → (x.toNat : Int) ≠ (y.toNat : Int) → cmpS a b = sgn (x.toNat : Int) (y.toNat : Int)
  | c :: a, d :: b, 0, x, y, _, h1, h2, h => by
    simp at h1 h2; subst h1 h2
    rw [cmpS_cons, if_neg fun e => h (by rw [e])]
  | c :: a, d :: b, k + 1, x, y, h0, h1, h2, h => by
    have e := h0 0 (by omega) c d rfl rfl
    rw [cmpS_cons, if_pos e]
    exact cmpS_at (k := k) (fun j hj c d hc hd => h0 (j + 1) (by omega) c d (by simpa using hc) (by simpa using hd)) (by simpa using h1) (by simpa using h2) h
  | [], _, _, _, _, _, h1, _, _ => by simp at h1
  | _ :: _, [], _, _, _, _, _, h2, _ => by simp at h2
theorem cmpS_end : ∀ {a b : List UInt8} {k : Nat}, (∀ j, j < k → ∀ c d, a[j]? = some c → b[j]? = some d → c = d) → (a.length ≤ k ∨ b.length ≤ k) → cmpS a b = sgn (a.length : Int) (b.length : Int)
  | [], [], _, _, _ => by simp [cmpS, Op.bytesLess, sgn]
  | [], _ :: _, _, _, _ => by unfold sgn; rw [if_pos (by simp only [List.length_nil, List.length_cons]; omega)]; simp [cmpS, Op.bytesLess]
  | _ :: _, [], _, _, _ => by unfold sgn; rw [if_neg (by simp only [List.length_nil, List.length_cons]; omega), if_pos (by simp only [List.length_nil, List.length_cons]; omega)]; simp [cmpS, Op.bytesLess]
  | c :: a, d :: b, k, h0, h => by
    have hk : 0 < k := by simp at h; omega
    have e := h0 0 hk c d rfl rfl
    rw [cmpS_cons, if_pos e, cmpS_end (k := k - 1) (fun j hj c d hc hd => h0 (j + 1) (by omega) c d (by simpa using hc) (by simpa using hd)) (by simp at h; omega)]
    unfold sgn; simp only [List.length_cons]
    split <;> split <;> (try split) <;> (try split) <;> omega
theorem sgn_ne {a b : Int} (h : a ≠ b) : sgn a b ≠ 0 := fun e => h ((sgn_ord.eq a b).1 e)
theorem cmpV_k {x y : Val} (h : x.k ≠ y.k) : cmpV x y = sgn x.k y.k := by unfold cmpV; rw [if_pos (sgn_ne h)]
theorem cmpV_n {x y : Val} (h : x.k = y.k) (h2 : x.n ≠ y.n) : cmpV x y = sgn x.n y.n := by
  unfold cmpV; rw [if_neg (by rw [h, sgn_ord.refl]; simp), if_pos (sgn_ne h2)]
theorem cmpV_s {x y : Val} (h : x.k = y.k) (h2 : x.n = y.n) : cmpV x y = cmpS x.s y.s := by
  unfold cmpV; rw [if_neg (by rw [h, sgn_ord.refl]; simp), if_neg (by rw [h2, sgn_ord.refl]; simp)]
theorem cmpL_end' {α β : Type} {f : α → β → Int} {a : List α} {b : List β} {k : Nat} (h : ∀ j, j < k → ∀ x y, a[j]? = some x → b[j]? = some y → f x y = 0) (hk : a.length ≤ k ∨ b.length ≤ k) : cmpL f a b = sgn (a.length : Int) (b.length : Int) :=
  cmpL_end fun j x y hx hy => h j (by have := (List.getElem?_eq_some_iff.1 hx).1; have := (List.getElem?_eq_some_iff.1 hy).1; omega) x y hx hy

abbrev VV := List (List Val)
def posV : VV → List Val → Nat
  | [], _ => 0
  | u :: r, v => if cmpL cmpV u v < 0 then posV r v + 1 else 0
theorem posV_at : ∀ {out : VV} {v : List Val} {k : Nat}, k ≤ out.length → (∀ j, j < k → ∀ u, out[j]? = some u → cmpL cmpV u v < 0) → (∀ u, out[k]? = some u → ¬ cmpL cmpV u v < 0) → posV out v = k
  | [], v, k, hk, _, _ => by simp at hk; simp [posV, hk]
  | u :: r, v, 0, _, _, h => by simp only [posV]; rw [if_neg (h u rfl)]
  | u :: r, v, k + 1, hk, h0, h => by
    simp only [posV]; rw [if_pos (h0 0 (by omega) u rfl), posV_at (k := k) (by simpa using hk) (fun j hj u hu => h0 (j + 1) (by omega) u (by simpa using hu)) (fun u hu => h u (by simpa using hu))]
theorem posV_is : ∀ (out : VV) (v : List Val), posV out v ≤ out.length ∧ (∀ j, j < posV out v → ∀ u, out[j]? = some u → cmpL cmpV u v < 0) ∧ (∀ u, out[posV out v]? = some u → ¬ cmpL cmpV u v < 0)
  | [], v => ⟨by simp [posV], fun j hj => by simp [posV] at hj, fun u hu => by simp at hu⟩
  | u :: r, v => by
    obtain ⟨h1, h2, h3⟩ := posV_is r v
    simp only [posV]
    split
    · rename_i hu
      refine ⟨by simpa using h1, fun j hj w hw => ?_, fun w hw => h3 w (by simpa using hw)⟩
      cases j with
      | zero => simp at hw; subst hw; exact hu
      | succ j => exact h2 j (by omega) w (by simpa using hw)
    · rename_i hu
      exact ⟨by omega, fun j hj => absurd hj (by omega), fun w hw => by simp at hw; subst hw; exact hu⟩
def insV (out : VV) (v : List Val) : VV := if out[posV out v]? = some v then out else out.take (posV out v) ++ [v] ++ out.drop (posV out v)
theorem insV_len (out : VV) (v : List Val) : (insV out v).length ≤ out.length + 1 := by
  unfold insV; split
  · omega
  · have := (posV_is out v).1; simp; omega
theorem insV_mem {out : VV} {v u : List Val} : u ∈ insV out v ↔ u ∈ out ∨ u = v := by
  unfold insV
  split
  · rename_i h
    constructor
    · exact .inl
    · rintro (h1 | rfl)
      · exact h1
      · exact List.mem_of_getElem? h
  · rw [List.mem_append, List.mem_append, List.mem_singleton]
    constructor
    · rintro ((h | h) | h)
      · exact .inl (List.mem_of_mem_take h)
      · exact .inr h
      · exact .inl (List.mem_of_mem_drop h)
    · rintro (h | h)
      · rw [← List.take_append_drop (posV out v) out] at h
        rcases List.mem_append.1 h with k | k
        · exact .inl (.inl k)
        · exact .inr k
      · exact .inl (.inr h)
def IncV (l : VV) : Prop := l.Pairwise fun x y => cmpL cmpV x y < 0
theorem insV_inc {out : VV} {v : List Val} (h : IncV out) : IncV (insV out v) := by
  unfold insV
  split
  · exact h
  · rename_i hne
    obtain ⟨hp1, hp2, hp3⟩ := posV_is out v
    generalize posV out v = i at *
    have low : ∀ u ∈ out.take i, cmpL cmpV u v < 0 := fun u hu => by
      obtain ⟨j, hj, rfl⟩ := List.getElem_of_mem hu
      simp only [List.length_take] at hj
      rw [List.getElem_take]
      exact hp2 j (by omega) _ (List.getElem?_eq_getElem (by omega))
    have up : ∀ u ∈ out.drop i, cmpL cmpV v u < 0 := fun u hu => by
      obtain ⟨j, hj, rfl⟩ := List.getElem_of_mem hu
      simp only [List.length_drop] at hj
      rw [List.getElem_drop]
      have h0 := hp3 out[i] (List.getElem?_eq_getElem (by omega))
      have hn : out[i] ≠ v := fun e => hne (by rw [List.getElem?_eq_getElem (by omega), e])
      have h1 : cmpL cmpV v out[i] < 0 := by
        rcases Int.lt_or_le (cmpL cmpV v out[i]) 0 with k | k
        · exact k
        · exfalso
          by_cases e : cmpL cmpV v out[i] = 0
          · exact hn ((ord.eq _ _).1 e).symm
          · exact h0 ((ord.swap _ _).2 (by omega))
      by_cases e : j = 0
      · subst e; simpa using h1
      · exact ord.trans _ _ _ h1 (List.pairwise_iff_getElem.1 h i (i + j) (by omega) (by omega) (by omega))
    unfold IncV
    rw [List.pairwise_append, List.pairwise_append]
    refine ⟨⟨List.Pairwise.sublist (List.take_sublist _ _) h, by simp, fun y hy z hz => ?_⟩, List.Pairwise.sublist (List.drop_sublist _ _) h, fun y hy z hz => ?_⟩
    · rw [List.mem_singleton.1 hz]; exact low y hy
    · rcases List.mem_append.1 hy with hy | hy
      · exact ord.trans _ _ _ (low y hy) (up z hz)
      · rw [List.mem_singleton.1 hy]; exact up z hz
theorem vals_found {out : VV} {v : List Val} {k : Nat} (hk : k ≤ out.length) (h0 : ∀ j, j < k → ∀ u, out[j]? = some u → cmpL cmpV u v < 0) {u : List Val} (h1 : out[k]? = some u) (h2 : ¬ cmpL cmpV u v < 0) (h3 : u = v) : insV out v = out := by
  subst h3
  unfold insV
  rw [posV_at hk h0 (fun w hw => by rw [h1] at hw; obtain rfl := Option.some.inj hw; exact h2), if_pos h1]
theorem vals_put {out : VV} {v : List Val} {k : Nat} (hk : k ≤ out.length) (h0 : ∀ j, j < k → ∀ u, out[j]? = some u → cmpL cmpV u v < 0) (h2 : ∀ u, out[k]? = some u → ¬ cmpL cmpV u v < 0) (h3 : out[k]? ≠ some v) : insV out v = out.take k ++ [v] ++ out.drop k := by
  unfold insV
  rw [posV_at hk h0 h2, if_neg h3]
structure Shift (out M : VV) (j : Nat) : Prop where
  len : M.length = out.length + 1
  low : ∀ i, i < j → M[i]? = out[i]?
  high : ∀ i, j < i → i ≤ out.length → M[i]? = out[i - 1]?
theorem Shift.start {out : VV} {u : List Val} : Shift out (out ++ [u]) out.length :=
  ⟨by simp, fun i hi => List.getElem?_append_left hi, fun i h1 h2 => by omega⟩
theorem Shift.step {out M : VV} {j : Nat} {x : List Val} (h : Shift out M j) (hj : 0 < j) (hx : M[j - 1]? = some x) : Shift out (M.set j x) (j - 1) := by
  have hjl : j - 1 < M.length := (List.getElem?_eq_some_iff.1 hx).1
  refine ⟨by rw [List.length_set]; exact h.len, fun i hi => ?_, fun i h1 h2 => ?_⟩
  · rw [List.getElem?_set, if_neg (by omega)]; exact h.low i (by omega)
  · rw [List.getElem?_set]
    by_cases e : j = i
    · subst e
      rw [if_pos rfl]
      split
      · rw [← hx]; exact h.low _ (by omega)
      · have := h.len; omega
    · rw [if_neg e]; exact h.high i (by omega) h2
theorem Shift.done {out M : VV} {k : Nat} {v : List Val} (h : Shift out M k) (hk : k ≤ out.length) : M.set k v = out.take k ++ [v] ++ out.drop k := by
  apply List.ext_getElem?
  intro i
  have hl := h.len
  rw [List.getElem?_set, List.append_assoc, List.getElem?_append, List.length_take, Nat.min_eq_left hk]
  by_cases e : k = i
  · subst e
    rw [if_pos rfl, if_pos (by omega), if_neg (by omega)]; simp
  · rw [if_neg e]
    by_cases q : i < k
    · rw [if_pos q, List.getElem?_take, if_pos q]; exact h.low i q
    · rw [if_neg q, List.getElem?_append, if_neg (by simp; omega), List.getElem?_drop]
      rcases Nat.lt_or_ge out.length i with r | r
      · rw [List.getElem?_eq_none (by omega), List.getElem?_eq_none (by simp; omega)]
      · rw [h.high i (by omega) r]; congr 1; simp; omega

theorem spanB_V {s : Span} (h : spanB s = true) : spanV s = true := by
  have hp := spanB_pos h
  unfold spanB at h
  simp only [Bool.and_eq_true, decide_eq_true_eq] at h
  rw [spanV_B s h.1.1 h.2]; exact decide_eq_true hp
theorem u8_eq {c d : UInt8} (h : (c.toNat : Int) = (d.toNat : Int)) : c = d := UInt8.toNat_inj.1 (by omega)
end Go.Civ
set_option linter.unusedVariables false
namespace Go.Civ
open Go.Proofs Go.Shelf Go.RowKit Go.Lib Go.Sort
theorem flat_getK {α : Type} (enc : α → List Value) (k : Nat) (hk0 : 0 < k) (hk : ∀ x,(enc x).length = k) : ∀ (l : List α) (t : Nat),(l.flatMap enc)[t]? = (l[t / k]?).bind fun x=>(enc x)[t % k]?
  | [],t=>by simp
  | x :: l,t=>by
    rw [List.flatMap_cons,List.getElem?_append]
    by_cases ht : t < k
    · rw [if_pos (by rw [hk]; exact ht),Nat.div_eq_of_lt ht,Nat.mod_eq_of_lt ht]; rfl
    · rw [if_neg (by rw [hk]; exact ht),hk,flat_getK enc k hk0 hk l (t - k),Nat.div_eq_sub_div (a:=t) hk0 (by omega),Nat.mod_eq_sub_mod (a:=t) (by omega),List.getElem?_cons_succ]
theorem flatK_atK {α : Type} [Inhabited α] (enc : α → List Value) (k : Nat) (hk0 : 0 < k) (hk : ∀ x,(enc x).length = k) (d : Array α) (t : Nat) (ht : t < d.size * k) : (d.toList.flatMap enc)[t]? = some ((flatK enc k d)[t]!):=by
  rw [flat_getK enc k hk0 hk,get_flatK enc k d t ht]
  have hd : t / k < d.size:=(Nat.div_lt_iff_lt_mul hk0).2 ht
  have e : d.toList[t / k]? = some d[t / k]! :=by
    rw [getElem!_pos d (t / k) hd,Array.getElem?_toList,Array.getElem?_eq_getElem hd]
  rw [e]
  simp only [Option.bind_some]
  have hl : t % k < (enc d[t / k]!).length:=by rw [hk]; exact Nat.mod_lt _ hk0
  rw [List.getElem?_eq_getElem hl,getElem!_pos (enc d[t / k]!) (t % k) hl]
abbrev Elt {α : Type} (E : Enc α) (G : GH) (V : α → Prop):={ p : α × List Value // E.rep G p.1 p.2 ∧ V p.1 }
section
variable {α : Type} {E : Enc α} {G : GH} {V : α → Prop}
theorem flat_elts : ∀ (l : List α) (xs : List Value),Flat E G l xs → (∀ x ∈ l,V x) → ∃ dl : List (Elt E G V),dl.map (·.1.1) = l ∧ dl.flatMap (·.1.2) = xs
  | [],xs,h,_=>⟨[],rfl,by simpa using h.symm⟩
  | x :: l,xs,⟨c,r,h1,h2,h3⟩,hV=>by
    obtain ⟨dl,k1,k2⟩:=flat_elts l r h3 fun y hy=>hV y (by simp [hy])
    exact ⟨⟨(x,c),h2,hV x (by simp)⟩ :: dl,by simp [k1],by simp [k2,h1]⟩
theorem elts_flat : ∀ (dl : List (Elt E G V)),Flat E G (dl.map (·.1.1)) (dl.flatMap (·.1.2))
  | []=>rfl
  | x :: l=>⟨x.1.2,_,rfl,x.2.1,elts_flat l⟩
theorem Kept.grow {w w' : World} (h : Kept [] w w') : ∃ q os',w' = grow (w.drewN q) os':=by
  refine ⟨w'.drawn - w.drawn,w'.heap.extract w.heap.size w'.heap.size,?_⟩
  obtain ⟨h1,h2,h3,h4,h5,h6⟩:=h
  obtain ⟨heap,tape,drawn,os,output⟩:=w
  obtain ⟨heap',tape',drawn',os',output'⟩:=w'
  simp only at h1 h2 h3 h4 h5 h6
  subst h1 h2 h3
  simp only [Go.Sort.grow,World.drewN]
  have e1 : drawn + (drawn' - drawn) = drawn':=by omega
  have e2 : heap ++ heap'.extract heap.size heap'.size = heap':=by
    apply Array.ext_getElem?
    intro i
    rw [Array.getElem?_append]
    split
    · rename_i hi; exact (h6 i hi (by simp)).symm
    · rename_i hi
      rw [Array.getElem?_extract]
      split
      · congr 1; omega
      · rw [Array.getElem?_eq_none]; omega
  rw [e1,e2]
end
theorem sort_heap {β : Type} [Inhabited β] (enc : β → List Value) (k : Nat) (w : World) (b n : Nat) (d : Array β) (os : Array Obj) {cs : List Value} {tid : TypeId} (hb : w.heap[b]? = some (.cells cs.toArray tid (0,0))) (i : Nat) :
    (sortWorldK enc k w b 0 n d os).heap[i]? = if i < w.heap.size then (if b = i then some (.cells (putCells id 0 (flatK enc k d) cs.toArray) tid (0,0)) else w.heap[i]?) else os[i - w.heap.size]? :=by
  have hah : (Go.Sort.ahead w n).heap = w.heap:=rfl
  simp only [sortWorldK,putRowK,putRow,mapBlock,Go.Sort.grow,hah]
  rw [Array.getElem?_append]
  simp only [Array.size_modify]
  by_cases hk : i < w.heap.size
  · rw [if_pos hk,if_pos hk,Array.getElem?_modify]
    by_cases hkb : b = i
    · subst hkb
      rw [if_pos rfl,if_pos rfl,hb]
      simp [onCells]
    · rw [if_neg hkb,if_neg hkb]
  · rw [if_neg hk,if_neg hk]
theorem sort_res {β : Type} [Inhabited β] (enc : β → List Value) (k : Nat) {w : World} {G : GH} (hG : G.In w) (b n : Nat) (d : Array β) (os : Array Obj) {cs : List Value} {tid : TypeId} (hb : w.heap[b]? = some (.cells cs.toArray tid (0,0))) (hg : G b = none) :
    Res [b] w G (sortWorldK enc k w b 0 n d os) G:=by
  refine ⟨⟨rfl,rfl,rfl,Nat.le_add_right _ _,?_,fun i hi hkb=>?_⟩,G.le_refl,fun _ _=>rfl,fun i o hk=>?_⟩
  · have hah : (Go.Sort.ahead w n).heap = w.heap:=rfl
    simp [sortWorldK,putRowK,putRow,mapBlock,Go.Sort.grow]
    try simp [hah]
  · rw [sort_heap enc k w b n d os hb,if_pos hi,if_neg (by simpa [eq_comm] using hkb)]
  · have hk1:=hG.lt hk
    have hkb : b ≠ i:=fun e=>by subst e; rw [hg] at hk; cases hk
    rw [sort_heap enc k w b n d os hb,if_pos hk1,if_neg hkb]; exact hG i o hk
set_option maxHeartbeats 2000000 in
theorem sortRow {P : Program} {ρr : Ren} (Ls : SlLaysF0.n6 P ρr) {α : Type} {E : Enc α} {by_ : Nat} {tid : TypeId} (hk0 : 0 < E.n) (aE : ∀ w,(isAgg (ρr.t 24)).run P w = .ok true w) (zE : ∀ w,(Go.sizeOf (ρr.t 24)).run P w = .ok E.n w)
    (cf : α → α → Int) (V : α → Prop) (hirr : ∀ x,V x → ¬ cf x x < 0) (htr : ∀ x y z,V x → V y → V z → cf x y < 0 → cf y z < 0 → cf x z < 0) (hnt : ∀ x y z,V x → V y → V z → ¬ cf x y < 0 → ¬ cf y z < 0 → ¬ cf x z < 0)
    (gf : Nat) (eg : ∀ args w,(callFunc gf args).run P w = .ok (.enter gf args) w) {G : GH} {w : World} (hG : G.In w)
    (hcl : ∀ W,G.In W → ∀ x y cx cy,V x → V y → E.rep G x cx → E.rep G y cy → Calls P gf #[.agg cx.toArray, .agg cy.toArray] W fun e w'=>∃ r G',e = .returned r ∧ Res [] W G w' G' ∧ r = .int .i64 (cf x y))
    (x0 : α) (c0 : List Value) (h0 : E.rep G x0 c0) (hV0 : V x0) (l : List α) (hV : ∀ x ∈ l,V x) (vd : Value) (od : OB) (hvd : Row E by_ tid G vd l od) (hod : Lent w G od) :
    Calls P (ρr.f 6) #[vd, .func (.func gf) #[] #[]] w fun e w'=>∃ r G',e = .returned r ∧ Res (blk od) w G w' G' ∧ r = .tuple #[] ∧ ∃ (l' : List α) (o' : OB),Row E by_ tid G' vd l' o' ∧ Lent w' G' o' ∧ (l'.Perm l ∧ l'.Pairwise fun x y=>¬ cf y x < 0):=by
  rcases hvd with ⟨rfl,rfl,rfl⟩ | ⟨b,cs,cap,xs,rfl,rfl,h3,h4,h5,h6,h7,h8,h9⟩
  · exact (AnyF.slices_SortFunc_none (P:=P) (ρ:=ρr) { Ls with } none 0 (.func (.func gf) #[] #[]) w).mono fun e w' ⟨he,hw⟩=>by
      subst hw
      exact ⟨_,G,he,Res.refl hG,rfl,[],none, .inl ⟨rfl,rfl,rfl⟩,fun p hp=>(by cases hp),List.Perm.refl _,List.Pairwise.nil⟩
  · obtain ⟨hb1,hb2⟩:=hod _ rfl
    simp only [objOf] at hb1
    obtain ⟨dl,rfl,rfl⟩:=flat_elts l xs h6 hV
    letI : Inhabited (Elt E G V):=⟨⟨(x0,c0),h0,hV0⟩⟩
    have hkE : ∀ x : Elt E G V,(x.1.2).length = E.n:=fun x=>E.len x.2.1
    have hsz : dl.toArray.size = (dl.map (·.1.1)).length:=by simp
    have hcell : ∀ t,t < dl.toArray.size * E.n → cs[t]? = some ((flatK (fun x : Elt E G V=>x.1.2) E.n dl.toArray)[t]!):=fun t ht=>by
      rw [← flatK_atK (fun x : Elt E G V=>x.1.2) E.n hk0 hkE dl.toArray t ht]
      have e7:=congrArg (·[t]?) h7
      rw [List.getElem?_take,if_pos (by rw [← hsz]; exact ht)] at e7
      exact e7
    have hH : HoldsK (fun x : Elt E G V=>x.1.2) E.n w b 0 dl.toArray:=fun t ht=>by
      rw [size_flatK] at ht
      refine ⟨?_,?_⟩
      · rw [Nat.zero_add]
        simp only [World.cell?,hb1]
        have:=hcell t ht
        simpa using this
      · simp [World.frozen?,hb1]
    have hO : SWO (ltOf fun x y : Elt E G V=>cf x.1.1 y.1.1):=
      ⟨fun x=>decide_eq_false (hirr _ x.2.2),fun x y z p q=>decide_eq_true (htr _ _ _ x.2.2 y.2.2 z.2.2 (of_decide_eq_true p) (of_decide_eq_true q)),fun x y z p q=>decide_eq_false (hnt _ _ _ x.2.2 y.2.2 z.2.2 (of_decide_eq_false p) (of_decide_eq_false q))⟩
    have hcon:=AnyQ.slices_SortFunc Ls E.n aE zE (fun x : Elt E G V=>x.1.2) hkE (fun x v hv=>E.one x.2.1 v hv) (fun x y=>cf x.1.1 y.1.1) hO gf #[] b 0 cap dl.toArray w eg
      (fun m os dk _ x y=>(hcl _ (sort_res _ _ hG b m dk os hb1 hb2).imm x.1.1 y.1.1 x.1.2 y.1.2 x.2.2 y.2.2 x.2.1 y.2.1).mono fun e w' ⟨r,G',he,hres,hr⟩=>⟨by rw [he,hr],hres.kept.grow⟩)
      hH (Array.getElem?_eq_some_iff.1 hb1).1 (by rw [hsz]; unfold reach at h9; omega)
    rw [hsz] at hcon
    refine hcon.mono fun e w' ⟨he,d',n,os,hp,hs,hw⟩=>?_
    obtain ⟨hp1,hp2,hp3⟩:=hp
    have hd' : d'.size = dl.length:=by simpa using hp1
    have hperm : d'.toList.Perm dl:=by
      have e1 : d'.extract 0 dl.toArray.size = d':=by rw [← hp1]; simp
      have e2 : dl.toArray.extract 0 dl.toArray.size = dl.toArray:=by simp
      rw [hsz.symm,e1,e2] at hp3; simpa using hp3
    have hbl : b < w.heap.size:=(Array.getElem?_eq_some_iff.1 hb1).1
    subst hw
    obtain ⟨cs',hcs'⟩ : ∃ cs' : List Value,cs' = (putCells id 0 (flatK (fun x : Elt E G V=>x.1.2) E.n d') cs.toArray).toList:=⟨_,rfl⟩
    have hres:=sort_res (fun x : Elt E G V=>x.1.2) E.n hG b n d' os hb1 hb2
    have hlen : (d'.toList.map (·.1.1)).length = (dl.map (·.1.1)).length:=by simp [hd']
    have hln : (dl.map (·.1.1)).length = dl.length:=by simp
    have h5' : cs.length = cap * E.n:=h5
    have hfl : (d'.toList.flatMap (·.1.2)).length = d'.size * E.n:=by
      have:=Flat.len (elts_flat d'.toList); simpa using this
    have hcapd : d'.size * E.n ≤ cs.length:=by
      rw [h5']; exact Nat.mul_le_mul_right _ (by omega)
    refine ⟨_,G,he,hres,rfl,d'.toList.map (·.1.1),some (b,tid,cs'), .inr ⟨b,cs',cap,d'.toList.flatMap (·.1.2),rfl,by rw [hlen],by rw [hlen]; exact h3,h4,?_,elts_flat _,?_,by rw [hlen]; exact h8,by rw [hlen]; exact h9⟩,fun p hp=>?_,?_,?_⟩
    · subst hcs'; simpa [putCells] using h5
    · apply List.ext_getElem?
      intro t
      rw [List.getElem?_take]
      have hn2 : (d'.toList.map (·.1.1)).length * E.n = d'.size * E.n:=by simp
      rw [hn2]
      by_cases ht : t < d'.size * E.n
      · have htc : t < cs.length:=by omega
        rw [if_pos ht,flatK_atK (fun x : Elt E G V=>x.1.2) E.n hk0 hkE d' t ht,hcs']
        simp only [putCells,Array.getElem?_toList,Array.getElem?_mapIdx,size_flatK]
        simp only [List.getElem?_toArray]
        rw [List.getElem?_eq_getElem htc]
        simp [ht]
      · rw [if_neg ht,List.getElem?_eq_none]; omega
    · obtain rfl:=Option.some.inj hp
      refine ⟨?_,hb2⟩
      rw [sort_heap _ _ w b n d' os hb1,if_pos hbl,if_pos rfl,hcs']; rfl
    · exact hperm.map _
    · rw [List.pairwise_map,List.pairwise_iff_getElem]
      intro i j hi hj hij
      have h:=hs i j (by omega) hij (by rw [← hsz,← hp1]; simpa using hj)
      have hi' : i < d'.size:=by simpa using hi
      have hj' : j < d'.size:=by simpa using hj
      rw [getElem!_pos d' i hi',getElem!_pos d' j hj'] at h
      have:=of_decide_eq_false h
      simpa only [Array.getElem_toList] using this
end Go.Civ
