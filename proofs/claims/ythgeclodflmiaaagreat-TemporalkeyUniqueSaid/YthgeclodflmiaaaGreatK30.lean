/- Lemmas. -/
import Derived.Test.YthgeclodflmiaaaGreatK21
import Derived.Test.YthgeclodflmiaaaGreatK28
import Derived.Test.YthgeclodflmiaaaGreatK29
import Derived.Test.YthgeclodflmiaaaGreatProg
import Derived.KernelRfl
import Derived.WalkKit
namespace Go.Civ
open Go.RowKit
set_option linter.unusedVariables false
section
variable {G : GH} {cs : List Value}
def PtE : Enc Pt:=(Enc.pair .int (Enc.pair .int (ValE.slice 32))).via fun x=>(x.tx,x.vd,x.v)
theorem PtE_open {x : Pt} (h : PtE.rep G x cs) : ∃ v,cs = [.int .i64 x.tx, .int .i64 x.vd,v] ∧ I64 x.tx ∧ I64 x.vd ∧ Sl ValE 32 G v x.v:=by
  obtain ⟨c1,c2,rfl,⟨rfl,h1⟩,c3,c4,rfl,⟨rfl,h2⟩,v,rfl,h3⟩:=h
  exact ⟨v,rfl,h1,h2,h3⟩
theorem PtE_mk (x : Pt) {v : Value} (h1 : I64 x.tx) (h2 : I64 x.vd) (h3 : Sl ValE 32 G v x.v) : PtE.rep G x [.int .i64 x.tx, .int .i64 x.vd,v]:=
  ⟨_,_,rfl,⟨rfl,h1⟩,_,_,rfl,⟨rfl,h2⟩,v,rfl,h3⟩
end
def befP (x y : Pt) : Int:=if sgn x.tx y.tx ≠ 0 then sgn x.tx y.tx else if sgn x.vd y.vd ≠ 0 then sgn x.vd y.vd else ordV x.v y.v
def bef2 (x y : Int × List Val) : Int:=if sgn x.1 y.1 ≠ 0 then sgn x.1 y.1 else cmpL cmpV x.2 y.2
def befL (x y : Pt) : Int:=if sgn x.tx y.tx ≠ 0 then sgn x.tx y.tx else bef2 (x.vd,x.v) (y.vd,y.v)
theorem bef2_ord : TOrd bef2:=TOrd.lex (f:=Prod.fst) (g:=Prod.snd) sgn_ord (cmpL_ord cmpV_ord) fun x y h1 h2=>Prod.ext h1 h2
theorem befL_ord : TOrd befL:=TOrd.lex (f:=Pt.tx) (g:=fun x : Pt=>(x.vd,x.v)) sgn_ord bef2_ord fun x y h1 h2=>by
  cases x; cases y; simp at h1 h2; simp [h1,h2]
theorem bef_L {x y : Pt} (hx : x.v.all valB = true) (hy : y.v.all valB = true) : befP x y = befL x y:=by
  unfold befP befL bef2; rw [ordV_valid hx hy]
def VP (l : List Pt) : Prop:=∀ p ∈ l,p.v.all valB = true
def pickP (m q : Pt) : Pt:=if befP q m < 0 then q else m
def zeroPt : Pt:=⟨0,0,[]⟩
def minP : List Pt → Pt
  | []=>zeroPt
  | p :: r=>r.foldl pickP p
theorem pick_first : ∀ (r : List Pt) (p : Pt),p.v.all valB = true → VP r → (r.foldl pickP p = p ∨ r.foldl pickP p ∈ r) ∧ ¬ befP p (r.foldl pickP p) < 0 ∧ ∀ q ∈ r,¬ befP q (r.foldl pickP p) < 0
  | [],p,hp,_=>⟨.inl rfl,by show ¬ befP p p < 0; rw [bef_L hp hp,befL_ord.refl]; omega,fun q hq=>by cases hq⟩
  | x :: r,p,hp,hr=>by
    have hx:=hr x (by simp)
    have hr2 : VP r:=fun q hq=>hr q (by simp [hq])
    by_cases e : befP x p < 0
    · have e1 : pickP p x = x:=if_pos e
      obtain ⟨h1,h2,h3⟩:=pick_first r x hx hr2
      rw [List.foldl_cons,e1]
      have hm : (r.foldl pickP x).v.all valB = true:=by rcases h1 with h | h; (rw [h]; exact hx); exact hr2 _ h
      refine ⟨.inr ?_,?_,fun q hq=>?_⟩
      · rcases h1 with h | h
        · rw [h]; simp
        · exact List.mem_cons_of_mem _ h
      · intro k
        rw [bef_L hp hm] at k; rw [bef_L hx hp] at e; rw [bef_L hx hm] at h2
        exact h2 (befL_ord.trans _ _ _ e k)
      · rcases List.mem_cons.1 hq with rfl | hq
        · exact h2
        · exact h3 q hq
    · have e1 : pickP p x = p:=if_neg e
      obtain ⟨h1,h2,h3⟩:=pick_first r p hp hr2
      rw [List.foldl_cons,e1]
      have hm : (r.foldl pickP p).v.all valB = true:=by rcases h1 with h | h; (rw [h]; exact hp); exact hr2 _ h
      refine ⟨?_,h2,fun q hq=>?_⟩
      · rcases h1 with h | h
        · exact .inl h
        · exact .inr (List.mem_cons_of_mem _ h)
      · rcases List.mem_cons.1 hq with rfl | hq
        · rw [bef_L hx hm]; rw [bef_L hx hp] at e; rw [bef_L hp hm] at h2
          exact befL_ord.le_trans h2 e
        · exact h3 q hq
theorem minP_first {l : List Pt} (hV : VP l) (hne : l ≠ []) : minP l ∈ l ∧ ∀ q ∈ l,¬ befP q (minP l) < 0:=by
  cases l with
  | nil=>exact absurd rfl hne
  | cons p r=>
    obtain ⟨h1,h2,h3⟩:=pick_first r p (hV p (by simp)) fun q hq=>hV q (by simp [hq])
    refine ⟨?_,fun q hq=>?_⟩
    · show r.foldl pickP p ∈ _
      rcases h1 with h | h
      · rw [h]; simp
      · exact List.mem_cons_of_mem _ h
    · rcases List.mem_cons.1 hq with rfl | hq
      · exact h2
      · exact h3 q hq
theorem bef_anti {x y : Pt} (hx : x.v.all valB = true) (hy : y.v.all valB = true) (h1 : ¬ befP x y < 0) (h2 : ¬ befP y x < 0) : x = y:=by
  rw [bef_L hx hy] at h1; rw [bef_L hy hx] at h2
  refine (befL_ord.eq x y).1 ?_
  have:=befL_ord.swap y x
  have:=befL_ord.swap x y
  omega
theorem bef_lex {q m : Pt} (h : ¬ befP q m < 0) : ¬ lexLt q.tx q.vd m.tx m.vd:=by
  intro k
  apply h
  unfold befP sgn
  unfold lexLt at k
  rcases k with k | ⟨k1,k2⟩
  · rw [if_pos k]; simp
  · rw [k1,if_neg (Int.lt_irrefl _),if_neg (Int.lt_irrefl _),if_pos k2]; simp
def ptO : Option Pt → Pt
  | none=>zeroPt
  | some p=>p
def rowO : Option Pt → HRow
  | none=>⟨[],⟨⟨0,0⟩,⟨0,0⟩⟩⟩
  | some p=>⟨p.v,⟨⟨p.vd,p.vd + 1⟩,⟨p.tx,p.tx + 1⟩⟩⟩
def violF (k : Nat) (l : List HRow) : Option Pt:=match ptsOf k l with
  | []=>none
  | q :: r=>some ⟨(minP (q :: r)).tx,(minP (q :: r)).vd,(clashAt k l (minP (q :: r)).tx (minP (q :: r)).vd).getD []⟩
def violT (t : Table) : Option Pt:=violF t.s.key.toNat t.rows
def uniqB (t : Table) : Bool:=validT t && (violT t).isNone
def uniqR (t : Table) : HRow:=if validT t then rowO (violT t) else rowO none
def ptsTo (k : Nat) (l : List HRow) (i : Nat) : List Pt:=(List.range i).flatMap (ptsAt k l)
def ptsIn (k : Nat) (a : HRow) (m : List HRow) : List Pt:=(m.filter (ovB k a)).map (ptOf a)
section
variable {k i j : Nat} {l m : List HRow} {a b : HRow}
theorem ptsTo_step (h : l[i]? = some a) : ptsTo k l (i + 1) = ptsTo k l i ++ ptsIn k a (l.take i):=by
  unfold ptsTo ptsIn
  rw [List.range_succ,List.flatMap_append]
  congr 1
  simp [ptsAt,h]
theorem ptsTo_all (h : l.length ≤ i) : ptsTo k l i = ptsOf k l:=by
  unfold ptsTo ptsOf
  obtain ⟨d,rfl⟩ : ∃ d,i = l.length + d:=⟨i - l.length,by omega⟩
  induction d with
  | zero=>rfl
  | succ d ih=>
    rw [← Nat.add_assoc,List.range_succ,List.flatMap_append,ih (by omega)]
    simp [ptsAt]
theorem ptsIn_len : (ptsIn k a m).length ≤ m.length:=by unfold ptsIn; rw [List.length_map]; exact List.length_filter_le _ _
theorem ptsTo_len (hl : l.length ≤ 500) : ∀ i,(ptsTo k l i).length ≤ 500 * i
  | 0=>by simp [ptsTo]
  | i + 1=>by
    have ih:=ptsTo_len hl i
    unfold ptsTo at ih ⊢
    rw [List.range_succ,List.flatMap_append,List.length_append]
    have : ([i].flatMap (ptsAt k l)).length ≤ 500:=by
      simp only [List.flatMap_cons,List.flatMap_nil,List.append_nil]
      unfold ptsAt
      split
      · rename_i x _
        have h1:=ptsIn_len (k:=k) (a:=x) (m:=l.take i)
        have h2:=List.length_take_le' i l
        unfold ptsIn at h1
        omega
      · simp
    omega
theorem ptsIn_yes (hb : m[j]? = some b) (h1 : inS (max a.r.x.a b.r.x.a) a.r.x = true) (h2 : inS (max a.r.x.a b.r.x.a) b.r.x = true) (h3 : inS (max a.r.d.a b.r.d.a) a.r.d = true) (h4 : inS (max a.r.d.a b.r.d.a) b.r.d = true)
    (h5 : decide (a.v.take k = b.v.take k) = true) : ptsIn k a (m.take (j + 1)) = ptsIn k a (m.take j) ++ [ptOf a b]:=by
  unfold ptsIn
  rw [List.take_add_one,hb,List.filter_append,List.map_append]
  have : ovB k a b = true:=by unfold ovB; rw [h1,h2,h3,h4,h5]; rfl
  simp [this]
theorem ptsIn_no (hb : m[j]? = some b) (h : inS (max a.r.x.a b.r.x.a) a.r.x = false ∨ inS (max a.r.x.a b.r.x.a) b.r.x = false ∨ inS (max a.r.d.a b.r.d.a) a.r.d = false ∨ inS (max a.r.d.a b.r.d.a) b.r.d = false ∨ decide (a.v.take k = b.v.take k) = false) :
    ptsIn k a (m.take (j + 1)) = ptsIn k a (m.take j):=by
  unfold ptsIn
  rw [List.take_add_one,hb,List.filter_append,List.map_append]
  have : ovB k a b = false:=by unfold ovB; rcases h with h | h | h | h | h <;> rw [h] <;> simp
  simp [this]
theorem ptOf_lt (h : ordV b.v a.v < 0) : ptOf a b = ⟨max a.r.x.a b.r.x.a,max a.r.d.a b.r.d.a,b.v⟩:=by unfold ptOf; rw [if_pos h]
theorem ptOf_ge (h : 0 ≤ ordV b.v a.v) : ptOf a b = ⟨max a.r.x.a b.r.x.a,max a.r.d.a b.r.d.a,a.v⟩:=by unfold ptOf; rw [if_neg (by omega)]
theorem pts_VP (hg : GoodH l) : VP (ptsOf k l):=fun p hp=>by
  obtain ⟨i,j,a,b,ha,hb,_,_,rfl⟩:=pts_mem.1 hp
  have h1:=(goodB_parts (hg a (List.mem_of_getElem? ha))).1
  have h2:=(goodB_parts (hg b (List.mem_of_getElem? hb))).1
  unfold ptOf
  simp only
  split
  · exact h2
  · exact h1
end
section
variable {k : Nat} {l : List HRow} {q : List Pt} {x : Pt}
theorem viol_min (hg : GoodH l) (hp : q.Perm (ptsOf k l)) (hs : q.Pairwise fun x y=>¬ befP y x < 0) (h0 : q[0]? = some x) : x = minP (ptsOf k l) ∧ ptsOf k l ≠ [] ∧ x ∈ ptsOf k l:=by
  have hx : x ∈ ptsOf k l:=hp.subset (List.mem_of_getElem? h0)
  have hne : ptsOf k l ≠ []:=fun e=>by rw [e] at hx; cases hx
  have hV:=pts_VP (k:=k) hg
  obtain ⟨h1,h2⟩:=minP_first hV hne
  refine ⟨?_,hne,hx⟩
  cases q with
  | nil=>cases h0
  | cons y r=>
    obtain rfl:=Option.some.inj h0
    have hmin : ∀ z ∈ y :: r,¬ befP z y < 0:=fun z hz=>by
      rcases List.mem_cons.1 hz with rfl | hz
      · rw [bef_L (hV _ hx) (hV _ hx),befL_ord.refl]; omega
      · exact (List.pairwise_cons.1 hs).1 z hz
    exact bef_anti (hV _ hx) (hV _ h1) (h2 _ hx) (hmin _ (hp.symm.subset h1))
theorem violF_none (h : ptsOf k l = []) : violF k l = none:=by unfold violF; rw [h]
theorem violF_some (h : ptsOf k l ≠ []) : violF k l = some ⟨(minP (ptsOf k l)).tx,(minP (ptsOf k l)).vd,(clashAt k l (minP (ptsOf k l)).tx (minP (ptsOf k l)).vd).getD []⟩:=by
  unfold violF
  cases e : ptsOf k l with
  | nil=>exact absurd e h
  | cons a r=>rfl
theorem dup_at {k j : Nat} {v : List Val} : ∀ {l : VV},(∀ i,i < j → ∀ x,l[i]? = some x → (l.drop (i + 1)).any (fun y=>decide (x.take k = y.take k)) = false) → l[j]? = some v → (∃ w ∈ l.drop (j + 1),v.take k = w.take k) → dupV k l = some v
  | [],_,h,_=>by cases h
  | x :: r,h1,h2,⟨w,hw,e⟩=>by
    unfold dupV
    cases j with
    | zero=>
      obtain rfl:=Option.some.inj h2
      rw [if_pos]
      rw [List.any_eq_true]
      exact ⟨w,by simpa using hw,decide_eq_true e.symm⟩
    | succ j=>
      have h0:=h1 0 (by omega) x rfl
      rw [if_neg]
      · exact dup_at (j:=j) (fun i hi y hy=>by simpa using h1 (i + 1) (by omega) y (by simpa using hy)) (by simpa using h2) ⟨w,by simpa using hw,e⟩
      · rw [List.any_eq_true]
        rintro ⟨y,hy,e2⟩
        rw [List.any_eq_false] at h0
        exact h0 y (by simpa using hy) (by have:=of_decide_eq_true e2; exact decide_eq_true this.symm)
theorem dup_no {k : Nat} : ∀ {l : VV},(∀ i x,l[i]? = some x → (l.drop (i + 1)).any (fun y=>decide (x.take k = y.take k)) = false) → dupV k l = none
  | [],_=>rfl
  | x :: r,h=>by
    unfold dupV
    have h0:=h 0 x rfl
    rw [if_neg]
    · exact dup_no fun i y hy=>by simpa using h (i + 1) y (by simpa using hy)
    · rw [List.any_eq_true]
      rintro ⟨y,hy,e2⟩
      rw [List.any_eq_false] at h0
      exact h0 y (by simpa using hy) (by have:=of_decide_eq_true e2; exact decide_eq_true this.symm)
end
section
variable {t : Table} {q : List Pt} {x : Pt}
theorem viol_inst (hv : validT t = true) {p : Pt} (hp : p ∈ ptsOf t.s.key.toNat t.rows) : instB p.tx = true ∧ instB p.vd = true:=by
  obtain ⟨hg,_,_,hn⟩:=validT_good hv
  obtain ⟨_,⟨r,hr,e1⟩,s,hs,e2⟩:=pts_clash hg hn hp
  have a:=(goodB_parts (hg r hr)).2.2
  have b:=(goodB_parts (hg s hs)).2.1
  unfold spanB at a b
  simp at a b
  unfold instB
  simp only [Bool.and_eq_true,decide_eq_true_eq]
  omega
theorem viol_done (hv : validT t = true) (hp : q.Perm (ptsOf t.s.key.toNat t.rows)) (hs : q.Pairwise fun x y=>¬ befP y x < 0) (h0 : q[0]? = some x) :
    instB x.tx = true ∧ instB x.vd = true ∧ (∀ v,dupV t.s.key.toNat (snapH t x.vd x.tx) = some v → violT t = some ⟨x.tx,x.vd,v⟩) ∧ dupV t.s.key.toNat (snapH t x.vd x.tx) ≠ none:=by
  obtain ⟨hg,_,_,hn⟩:=validT_good hv
  obtain ⟨e,hne,hx⟩:=viol_min hg hp hs h0
  obtain ⟨i1,i2⟩:=viol_inst hv hx
  have hsn : snapH t x.vd x.tx = snapOf t.rows x.vd x.tx:=by unfold snapH; rw [hv,i1,i2]; rfl
  have hd : dupV t.s.key.toNat (snapH t x.vd x.tx) = clashAt t.s.key.toNat t.rows x.tx x.vd:=by rw [hsn,dup_clash (snap_inc hg _ _)]; rfl
  refine ⟨i1,i2,fun v h=>?_,?_⟩
  · unfold violT
    rw [violF_some hne,← e,← hd,h]; rfl
  · rw [hd]; exact (pts_clash hg hn hx).1
theorem key_len (hv : validT t = true) : ∀ r ∈ t.rows,t.s.key ≤ r.v.length:=fun r hr=>by
  have h:=validT_row1 hv hr
  have hs : schB t.s = true:=by rw [validT_is] at hv; unfold validA at hv; simp only [Bool.and_eq_true] at hv; exact hv.1.1.1.1.1
  unfold schB schA at hs
  simp only [Bool.and_eq_true,decide_eq_true_eq] at hs
  rw [h.2.2.2.1]; exact hs.1.1.1.2
theorem key_pos (hv : validT t = true) : 1 ≤ t.s.key:=by
  have hs : schB t.s = true:=by rw [validT_is] at hv; unfold validA at hv; simp only [Bool.and_eq_true] at hv; exact hv.1.1.1.1.1
  unfold schB schA at hs
  simp only [Bool.and_eq_true,decide_eq_true_eq] at hs
  exact hs.1.1.1.1.2
theorem snap_key (hv : validT t = true) {a y : Int} (hy : instB y = true) (ha : instB a = true) : ∀ v ∈ snapH t a y,t.s.key ≤ v.length:=fun v h=>by
  rw [snapH_iff hv ha hy] at h
  obtain ⟨r,hr,rfl,_⟩:=h
  exact key_len hv r hr
theorem viol_0 {k : Nat} (h : ((ptsTo t.s.key.toNat t.rows k).length : Int) = 0) (hk : t.rows.length ≤ k) : Pt.mk 0 0 [] = ptO (violT t) ∧ false = (violT t).isSome:=by
  rw [ptsTo_all hk] at h
  have : violT t = none:=violF_none (List.length_eq_zero_iff.1 (by omega))
  rw [this]; exact ⟨rfl,rfl⟩
theorem viol_1 {v : List Val} (h : instB x.tx = true ∧ instB x.vd = true ∧ (∀ v,dupV t.s.key.toNat (snapH t x.vd x.tx) = some v → violT t = some ⟨x.tx,x.vd,v⟩) ∧ dupV t.s.key.toNat (snapH t x.vd x.tx) ≠ none) (hd : dupV t.s.key.toNat (snapH t x.vd x.tx) = some v) : Pt.mk x.tx x.vd v = ptO (violT t) ∧ true = (violT t).isSome:=by
  rw [h.2.2.1 v hd]; exact ⟨rfl,rfl⟩
theorem anyF_no {α : Type} {p : α → Bool} {l : List α} {k : Nat} (h : ∀ j,j < k → ∀ x,l[j]? = some x → p x = false) (hk : l.length ≤ k) : l.any p = false:=by
  rw [List.any_eq_false]
  intro x hx
  obtain ⟨i,hi⟩:=List.getElem?_of_mem hx
  obtain ⟨hlt,_⟩:=List.getElem?_eq_some_iff.1 hi
  rw [h i (by omega) x hi]; simp
theorem dup_no' {k j : Nat} {l : VV} (h : ∀ i,i < j → ∀ x,l[i]? = some x → (l.drop (i + 1)).any (fun y=>decide (x.take k = y.take k)) = false) (hj : l.length ≤ j) : dupV k l = none:=
  dup_no fun i x hx=>by
    obtain ⟨hlt,_⟩:=List.getElem?_eq_some_iff.1 hx
    exact h i (by omega) x hx
theorem violT_none (h : ptsOf t.s.key.toNat t.rows = []) : violT t = none:=violF_none h
end
end Go.Civ
set_option linter.unusedVariables false
set_option linter.unusedSimpArgs false
set_option maxRecDepth 100000
set_option maxHeartbeats 4000000
namespace Go.Civ
open Go.Proofs
theorem c_hnormal {G : GH} {w : World} (hG : G.In w) (l : List HRow) (vl : Value) (hvl : Sl HRowE 56 G vl l) (hgood : GoodH l) (hlen : ∀ r ∈ l,r.v.length ≤ 1000) (hl : l.length ≤ 2000) : CL Tryz.prog (nat_lit 66) #[vl] [] w G fun G' _ r=>Sl HRowE 56 G' r (normH l):=by
 refine calls_of_go ft [] Tryz.func66 rfl rfl ?_
 have hS:=St.start (X:=[]) hG
 refine WL.cA hS hb86 rfl rfl rfl (c_groups hS.imm l _ hvl hgood hlen hl) (fun w1 G1 r1 hpost1 hS1 hle1=>?_)
 have bd1:=hpost1.bound
 refine WL.lenSl hpost1 ul133 rfl rfl ?_
 have hS3:=hS1.pad
 refine LP.go ft [] (fun m ρ1 w1=>∃ (k1 : Nat),∃ (v1 : Value) (o1 : OB),∃ (G2 : GH),m = (grpH l).length - k1 ∧ G1.le G2 ∧ St w [] G G2 [o1] w1 ∧ Row HRowE 56 37 G2 v1 (normP ((grpH l).take k1)) o1 ∧ FR ρ1 [(3,v1),(7,r1),(8, .int .i64 (((grpH l).length : Nat) : Int)),(9, .int .i64 (k1 : Int))] ∧ k1 ≤ (grpH l).length) _ ⟨0,(.slice none 0 0),none,G1,rfl,(G1.le_refl),hS3,(Row.nil HRowE 56 37 G1),⟨rfl,rfl,rfl,rfl,trivial⟩,(by omega)⟩ ?_
 rintro m ρ1 w2 ⟨k1,v1,o1,G2,rfl,hle2,hS2,hr1,hF9,f1⟩
 refine hF9.set ?_
 clear hF9
 have hgl:=@grpH_len l
 have hpl:=normP_takeLen (k:=k1) (fun g hg=>Nat.le_trans (grpH_t g hg) hl) (Nat.le_trans hgl hl)
 refine WL.lssS (k1 : Int) (((grpH l).length : Nat) : Int) rfl rfl rfl (fun h1=>?_) (fun h1=>?_)
 ·refine WL.indexAddr (hpost1.mono hle2) k1 (by omega) ul133 ti136 rfl rfl rfl rfl (fun p1 x1 hx1 he1=>?_)
  obtain ⟨cs1,hc1,hr2⟩:=he1
  obtain ⟨v2,v3,rfl,hs1,hs2⟩:=HGrpE_open hr2
  refine WL.loadGAt hS2 hc1 [v2,v3] ti136 rfl rfl rfl rfl rfl ?_
  refine WL.alloc hS2 ti136 rfl rfl (fun b1 w3 hn1 hS4=>?_)
  refine WL.store hS4 0 _ _ _ 0 _ [v2,v3] [v2,v3] _ rfl rfl ti136 rfl (Nat.le_of_ble_eq_true rfl) (by simp only [List.all_cons,List.all_nil,hs1.oneC,hs2.oneC,Bool.true_and] <;> rfl) rfl rfl rfl rfl rfl (fun w4 hS5=>?_)
  obtain ⟨G3,hle3,hc2,hS6⟩:=hS5.shutB hn1
  have hok:=grpH_ok hgood hl (by assumption : (grpH l)[k1]? = some _); have hgn:=normG_len hok.2
  refine WL.loadGAt hS6 hc2 [v2,v3] ti136 rfl rfl rfl rfl rfl ?_
  refine WL.cA hS6 hb128 rfl rfl rfl (c_gnormal hS6.imm x1 _ (HGrpE_mk x1 (hs1.mono hle3) (hs2.mono hle3)) hok.1 hok.2) (fun w5 G4 r2 hpost2 hS7 hle4=>?_)
  refine WL.pushSl sl26 rfl rfl rfl (hr1.mono (hle3.trans hle4)) hS7 0 rfl hpost2 (by have hreach : reach = 140737488355328:=rfl; (show _ * 56 ≤ _; omega)) (by have hreach : reach = 140737488355328:=rfl; omega) rfl rfl rfl (fun v4 o2 w6 hr3 hS8=>?_)
  refine WL.incr k1 (by have hreach : reach = 140737488355328:=rfl; omega) rfl rfl rfl ?_
  exact BK.mk' _ ⟨k1 + 1,v4,o2,G4,rfl,(hle2.trans (hle3.trans hle4)),hS8,(Row.cast hr3 (by (rw [normP_take (by assumption)]))),⟨rfl,rfl,rfl,rfl,trivial⟩,(by omega)⟩ (show (grpH l).length - (k1 + 1) < (grpH l).length - k1 by omega)
 obtain ⟨G5,hle5,hs3,hS9⟩:=Row.freeze hr1 hS2 0 rfl
 exact RT hS9 rfl (Sl.cast hs3 (by rw [List.take_of_length_le (by omega)]; rfl))
theorem c_IndexR {G : GH} {w : World} (hG : G.In w) (l : List HRow) (pf : HRow → Bool) (vl : Value) (hvl : Sl HRowE 56 G vl l) (fid : Nat) (fcap : Array Value) (hf : FnB Tryz.prog (Is HRowE) fid fcap G (fun x=>x ∈ l) pf) : CL Tryz.prog (nat_lit 113) #[vl, .func (.func fid) #[] fcap] [] w G fun _ _ r=>r = .int .i64 (idxF pf l):=by
 refine calls_of_go ft [] Tryz.func113 rfl rfl ?_
 have hS:=St.start (X:=[]) hG
 have bd1:=hvl.bound
 refine WL.lenSl hvl ul26 rfl rfl ?_
 refine LP.go ft [] (fun m ρ1 w1=>∃ (k1 : Nat),∃ (G1 : GH),m = l.length - k1 ∧ G.le G1 ∧ St w [] G G1 [] w1 ∧ FR ρ1 [(0,vl),(1, .func (.func fid) #[] fcap),(7, .int .i64 (l.length : Int)),(8, .int .i64 (k1 : Int))] ∧ k1 ≤ l.length ∧ ∀ j,j < k1 → ∀ x,l[j]? = some x → pf x = false) _ ⟨0,G,rfl,(G.le_refl),hS,⟨rfl,rfl,rfl,rfl,trivial⟩,(by omega),(by intro j hj; omega)⟩ ?_
 rintro m ρ1 w1 ⟨k1,G1,rfl,hle1,hS1,hF9,f1,f2⟩
 refine hF9.set ?_
 clear hF9
 refine WL.lssS (k1 : Int) (l.length : Int) rfl rfl rfl (fun h1=>?_) (fun h1=>?_)
 ·refine WL.indexAddr (hvl.mono hle1) k1 (by omega) ul26 ti37 rfl rfl rfl rfl (fun p1 x1 hx1 he1=>?_)
  obtain ⟨cs1,hc1,hr1⟩:=he1
  obtain ⟨v1,rfl,hs1,hb1,hb2,hb3,hb4⟩:=HRowE_open hr1
  refine WL.loadGAt hS1 hc1 [v1, .int .i64 x1.r.d.a, .int .i64 x1.r.d.b, .int .i64 x1.r.x.a, .int .i64 x1.r.x.b] ti37 rfl rfl rfl rfl rfl ?_
  refine WL.cV hS1 hf.body rfl rfl rfl (hf.call _ _ (.agg #[v1, .int .i64 x1.r.d.a, .int .i64 x1.r.d.b, .int .i64 x1.r.x.a, .int .i64 x1.r.x.b]) x1 hle1 hS1.imm (List.mem_of_getElem? hx1) ⟨_,rfl,(HRowE_mk x1 hs1 hb1 hb2 hb3 hb4)⟩) (fun w2 G2 hS2 hle2=>?_)
  refine WL.split (fun (h2 : (pf x1) = true)=>?_) (fun (h2 : (pf x1) = false)=>?_)
  ·exact RI hS2 rfl (by exact (idxF_some _ (by assumption) (by assumption) (by assumption)).symm)
  refine WL.incr k1 (by have hreach : reach = 140737488355328:=rfl; omega) rfl rfl rfl ?_
  exact BK.mk' _ ⟨k1 + 1,G2,rfl,(hle1.trans hle2),hS2,⟨rfl,rfl,rfl,rfl,trivial⟩,(by omega),(by exact lt_step (by assumption) (by assumption) (by assumption))⟩ (show l.length - (k1 + 1) < l.length - k1 by omega)
 exact RI hS1 rfl (by exact (idxF_none' (by assumption) (by omega)).symm)
theorem c_ContainsR {G : GH} {w : World} (hG : G.In w) (l : List HRow) (pf : HRow → Bool) (vl : Value) (hvl : Sl HRowE 56 G vl l) (fid : Nat) (fcap : Array Value) (hf : FnB Tryz.prog (Is HRowE) fid fcap G (fun x=>x ∈ l) pf) : CL Tryz.prog (nat_lit 58) #[vl, .func (.func fid) #[] fcap] [] w G fun _ _ r=>r = .bool (l.any pf):=by
 refine calls_of_go ft [] Tryz.func58 rfl rfl ?_
 have hS:=St.start (X:=[]) hG
 refine WL.cV hS hb113 rfl rfl rfl (c_IndexR hS.imm l pf _ hvl fid fcap (hf.up (G.le_refl))) (fun w1 G1 hS1 hle1=>?_)
 refine WL.cmp .geq rfl .i64 (idxF pf l) 0 rfl rfl rfl ?_
 exact RB hS1 rfl (by exact idxF_any _ _)
theorem c_hgood1 {G : GH} {w : World} (hG : G.In w) (x : Val) (cx : List Value) (hcx : ValE.rep G x cx) : CL Tryz.prog (nat_lit 127) #[.agg cx.toArray] [] w G fun _ _ r=>r = .bool (!valB x):=by
 refine calls_of_go ft [] Tryz.func127 rfl rfl ?_
 have hS:=St.start (X:=[]) hG
 obtain ⟨rfl,hb1,hb2,hb3⟩:=ValE_open hcx
 refine WL.boxG [.int .i64 x.k, .int .i64 x.n,strV x.s] _ hS rfl rfl rfl (fun p1 w1 G1 hle1 hsp1 hc1 hS1=>?_)
 refine WL.loadGAt hS1 hc1 [.int .i64 x.k, .int .i64 x.n,strV x.s] ti58 rfl rfl rfl rfl rfl ?_
 refine WL.cV hS1 hb124 rfl rfl rfl (c_vValid hS1.imm x _ (ValE_mk x hb1 hb2 hb3)) (fun w2 G2 hS2 hle2=>?_)
 exact RB hS2 rfl (by rfl)
theorem c_hgood {G : GH} {w : World} (hG : G.In w) (x : HRow) (cx : List Value) (hcx : HRowE.rep G x cx) : CL Tryz.prog (nat_lit 64) #[.agg cx.toArray] [] w G fun _ _ r=>r = .bool (goodB x):=by
 refine calls_of_go ft [] Tryz.func64 rfl rfl ?_
 have hS:=St.start (X:=[]) hG
 obtain ⟨v1,rfl,hs1,hb1,hb2,hb3,hb4⟩:=HRowE_open hcx
 refine WL.boxG [v1, .int .i64 x.r.d.a, .int .i64 x.r.d.b, .int .i64 x.r.x.a, .int .i64 x.r.x.b] _ hS rfl rfl rfl (fun p1 w1 G1 hle1 hsp1 hc1 hS1=>?_)
 refine WL.loadG1 hS1 (Cells.drop 0 hc1) ti31 rfl rfl rfl ?_
 refine WL.cV hS1 hb122 rfl rfl rfl (c_ContainsV hS1.imm x.v (fun x8=>!valB x8) _ (hs1.mono hle1) 127 #[] ⟨hb127,fun G8 w8 v8 x8 hle8 hG8 hon8 hA8=>by obtain ⟨cs_x8,rfl,hr_x8⟩:=hA8; exact c_hgood1 hG8 x8 cs_x8 hr_x8⟩) (fun w2 G2 hS2 hle2=>?_)
 refine WL.split (fun (h1 : (x.v.any (fun x8=>!valB x8)) = true)=>?_) (fun (h1 : (x.v.any (fun x8=>!valB x8)) = false)=>?_)
 ·exact RB hS2 rfl (by exact goodB_1 (by assumption))
 refine WL.loadGAt hS2 (Cells.drop 0 (Cells.drop 1 (hc1.mono hle2))) [.int .i64 x.r.d.a, .int .i64 x.r.d.b] ti33 rfl rfl rfl rfl rfl ?_
 refine WL.cV hS2 hb77 rfl rfl rfl (c_hspan hS2.imm x.r.d _ (SpanE_mk x.r.d hb1 hb2)) (fun w3 G3 hS3 hle3=>?_)
 refine WL.split (fun (h2 : (spanB x.r.d) = true)=>?_) (fun (h2 : (spanB x.r.d) = false)=>?_)
 ·refine WL.loadGAt hS3 (Cells.drop 2 (Cells.drop 1 (hc1.mono (hle2.trans hle3)))) [.int .i64 x.r.x.a, .int .i64 x.r.x.b] ti33 rfl rfl rfl rfl rfl ?_
  refine WL.cV hS3 hb77 rfl rfl rfl (c_hspan hS3.imm x.r.x _ (SpanE_mk x.r.x hb3 hb4)) (fun w4 G4 hS4 hle4=>?_)
  exact RB hS4 rfl (by exact goodB_3 (by assumption) (by assumption))
 exact RB hS3 rfl (by exact goodB_2 (by assumption) (by assumption))
theorem c_hNormal1 {G : GH} {w : World} (hG : G.In w) (x : HRow) (cx : List Value) (hcx : HRowE.rep G x cx) : CL Tryz.prog (nat_lit 132) #[.agg cx.toArray] [] w G fun _ _ r=>r = .bool (!goodB x):=by
 refine calls_of_go ft [] Tryz.func132 rfl rfl ?_
 have hS:=St.start (X:=[]) hG
 obtain ⟨v1,rfl,hs1,hb1,hb2,hb3,hb4⟩:=HRowE_open hcx
 refine WL.boxG [v1, .int .i64 x.r.d.a, .int .i64 x.r.d.b, .int .i64 x.r.x.a, .int .i64 x.r.x.b] _ hS rfl rfl rfl (fun p1 w1 G1 hle1 hsp1 hc1 hS1=>?_)
 refine WL.loadGAt hS1 hc1 [v1, .int .i64 x.r.d.a, .int .i64 x.r.d.b, .int .i64 x.r.x.a, .int .i64 x.r.x.b] ti37 rfl rfl rfl rfl rfl ?_
 refine WL.cV hS1 hb64 rfl rfl rfl (c_hgood hS1.imm x _ (HRowE_mk x (hs1.mono hle1) hb1 hb2 hb3 hb4)) (fun w2 G2 hS2 hle2=>?_)
 exact RB hS2 rfl (by rfl)
theorem c_hequal {G : GH} {w : World} (hG : G.In w) (x y : HRow) (cx : List Value) (hcx : HRowE.rep G x cx) (cy : List Value) (hcy : HRowE.rep G y cy) : CL Tryz.prog (nat_lit 67) #[.agg cx.toArray, .agg cy.toArray] [] w G fun _ _ r=>r = .bool (decide (x = y)):=by
 refine calls_of_go ft [] Tryz.func67 rfl rfl ?_
 have hS:=St.start (X:=[]) hG
 obtain ⟨v1,rfl,hs1,hb1,hb2,hb3,hb4⟩:=HRowE_open hcx
 obtain ⟨v2,rfl,hs2,hb5,hb6,hb7,hb8⟩:=HRowE_open hcy
 refine WL.boxG [v1, .int .i64 x.r.d.a, .int .i64 x.r.d.b, .int .i64 x.r.x.a, .int .i64 x.r.x.b] _ hS rfl rfl rfl (fun p1 w1 G1 hle1 hsp1 hc1 hS1=>?_)
 refine WL.boxG [v2, .int .i64 y.r.d.a, .int .i64 y.r.d.b, .int .i64 y.r.x.a, .int .i64 y.r.x.b] _ hS1 rfl rfl rfl (fun p2 w2 G2 hle2 hsp2 hc2 hS2=>?_)
 refine WL.loadG1 hS2 (Cells.drop 0 (hc1.mono hle2)) ti31 rfl rfl rfl <| WL.loadG1 hS2 (Cells.drop 0 hc2) ti31 rfl rfl rfl ?_
 refine WL.cV hS2 hb24 rfl rfl rfl (c_vSame hS2.imm x.v y.v _ (hs1.mono (hle1.trans hle2)) _ (hs2.mono (hle1.trans hle2))) (fun w3 G3 hS3 hle3=>?_)
 refine WL.split (fun (h1 : (decide (x.v = y.v)) = true)=>?_) (fun (h1 : (decide (x.v = y.v)) = false)=>?_)
 ·refine WL.loadGAt hS3 (Cells.drop 1 (hc1.mono (hle2.trans hle3))) [.int .i64 x.r.d.a, .int .i64 x.r.d.b, .int .i64 x.r.x.a, .int .i64 x.r.x.b] ti35 rfl rfl rfl rfl rfl <| WL.loadGAt hS3 (Cells.drop 1 (hc2.mono hle3)) [.int .i64 y.r.d.a, .int .i64 y.r.d.b, .int .i64 y.r.x.a, .int .i64 y.r.x.b] ti35 rfl rfl rfl rfl rfl <| WL.aggEq (RectEq35 x.r y.r) eqg35 rfl rfl rfl ?_
  exact RB hS3 rfl (by exact hrow_eq_r (by assumption))
 exact RB hS3 rfl (by exact hrow_eq_v (by assumption))
theorem c_EqualR {G : GH} {w : World} (hG : G.In w) (a b : List HRow) (pf : HRow → HRow → Bool) (va : Value) (hva : Sl HRowE 56 G va a) (vb : Value) (hvb : Sl HRowE 56 G vb b) (fid : Nat) (fcap : Array Value) (hf : FnB2 Tryz.prog (Is HRowE) (Is HRowE) fid fcap G (fun x y=>x ∈ a ∧ y ∈ b) pf) : CL Tryz.prog (nat_lit 65) #[va,vb, .func (.func fid) #[] fcap] [] w G fun _ _ r=>r = .bool (eqF pf a b):=by
 refine calls_of_go ft [] Tryz.func65 rfl rfl ?_
 have hS:=St.start (X:=[]) hG
 have bd1:=hva.bound
 refine WL.lenSl hva ul26 rfl rfl ?_
 have bd2:=hvb.bound
 refine WL.lenSl hvb ul26 rfl rfl ?_
 refine WL.neqS (a.length : Int) (b.length : Int) rfl rfl rfl (fun h1=>?_) (fun h1=>?_)
 ·exact RB hS rfl (by exact (eqF_len (by omega)).symm)
 have bd3:=hva.bound
 refine WL.lenSl hva ul26 rfl rfl ?_
 refine LP.go ft [] (fun m ρ1 w1=>∃ (k1 : Nat),∃ (G1 : GH),m = a.length - k1 ∧ G.le G1 ∧ St w [] G G1 [] w1 ∧ FR ρ1 [(1,vb),(2, .func (.func fid) #[] fcap),(15,va),(16, .int .i64 (a.length : Int)),(17, .int .i64 (k1 : Int))] ∧ k1 ≤ a.length ∧ ∀ j,j < k1 → ∀ x y,a[j]? = some x → b[j]? = some y → pf x y = true) _ ⟨0,G,rfl,(G.le_refl),hS,⟨rfl,rfl,rfl,rfl,rfl,trivial⟩,(by omega),(by intro j hj; omega)⟩ ?_
 rintro m ρ1 w1 ⟨k1,G1,rfl,hle1,hS1,hF9,f1,f2⟩
 refine hF9.set ?_
 clear hF9
 refine WL.lssS (k1 : Int) (a.length : Int) rfl rfl rfl (fun h2=>?_) (fun h2=>?_)
 ·refine WL.indexAddr (hva.mono hle1) k1 (by omega) ul26 ti37 rfl rfl rfl rfl (fun p1 x1 hx1 he1=>?_)
  obtain ⟨cs1,hc1,hr1⟩:=he1
  obtain ⟨v1,rfl,hs1,hb1,hb2,hb3,hb4⟩:=HRowE_open hr1
  refine WL.loadGAt hS1 hc1 [v1, .int .i64 x1.r.d.a, .int .i64 x1.r.d.b, .int .i64 x1.r.x.a, .int .i64 x1.r.x.b] ti37 rfl rfl rfl rfl rfl ?_
  refine WL.alloc hS1 ti37 rfl rfl (fun b1 w2 hn1 hS2=>?_)
  refine WL.store hS2 0 _ _ _ 0 _ [v1, .int .i64 x1.r.d.a, .int .i64 x1.r.d.b, .int .i64 x1.r.x.a, .int .i64 x1.r.x.b] [v1, .int .i64 x1.r.d.a, .int .i64 x1.r.d.b, .int .i64 x1.r.x.a, .int .i64 x1.r.x.b] _ rfl rfl ti37 rfl (Nat.le_of_ble_eq_true rfl) (by simp only [List.all_cons,List.all_nil,hs1.oneC,Bool.true_and] <;> rfl) rfl rfl rfl rfl rfl (fun w3 hS3=>?_)
  obtain ⟨G2,hle2,hc2,hS4⟩:=hS3.shutB hn1
  refine WL.indexAddr (hvb.mono (hle1.trans hle2)) k1 (by omega) ul26 ti37 rfl rfl rfl rfl (fun p2 x2 hx2 he2=>?_)
  obtain ⟨cs2,hc3,hr2⟩:=he2
  obtain ⟨v2,rfl,hs2,hb5,hb6,hb7,hb8⟩:=HRowE_open hr2
  refine WL.loadGAt hS4 hc3 [v2, .int .i64 x2.r.d.a, .int .i64 x2.r.d.b, .int .i64 x2.r.x.a, .int .i64 x2.r.x.b] ti37 rfl rfl rfl rfl rfl ?_
  refine WL.alloc hS4 ti37 rfl rfl (fun b2 w4 hn2 hS5=>?_)
  refine WL.store hS5 0 _ _ _ 0 _ [v2, .int .i64 x2.r.d.a, .int .i64 x2.r.d.b, .int .i64 x2.r.x.a, .int .i64 x2.r.x.b] [v2, .int .i64 x2.r.d.a, .int .i64 x2.r.d.b, .int .i64 x2.r.x.a, .int .i64 x2.r.x.b] _ rfl rfl ti37 rfl (Nat.le_of_ble_eq_true rfl) (by simp only [List.all_cons,List.all_nil,hs2.oneC,Bool.true_and] <;> rfl) rfl rfl rfl rfl rfl (fun w5 hS6=>?_)
  obtain ⟨G3,hle3,hc4,hS7⟩:=hS6.shutB hn2
  refine WL.loadGAt hS7 (hc2.mono hle3) [v1, .int .i64 x1.r.d.a, .int .i64 x1.r.d.b, .int .i64 x1.r.x.a, .int .i64 x1.r.x.b] ti37 rfl rfl rfl rfl rfl <| WL.loadGAt hS7 hc4 [v2, .int .i64 x2.r.d.a, .int .i64 x2.r.d.b, .int .i64 x2.r.x.a, .int .i64 x2.r.x.b] ti37 rfl rfl rfl rfl rfl ?_
  refine WL.cV hS7 hf.body rfl rfl rfl (hf.call _ _ (.agg #[v1, .int .i64 x1.r.d.a, .int .i64 x1.r.d.b, .int .i64 x1.r.x.a, .int .i64 x1.r.x.b]) (.agg #[v2, .int .i64 x2.r.d.a, .int .i64 x2.r.d.b, .int .i64 x2.r.x.a, .int .i64 x2.r.x.b]) x1 x2 ((hle1.trans hle2).trans hle3) hS7.imm ⟨(List.mem_of_getElem? hx1),(List.mem_of_getElem? hx2)⟩ ⟨_,rfl,(HRowE_mk x1 (hs1.mono (hle2.trans hle3)) hb1 hb2 hb3 hb4)⟩ ⟨_,rfl,(HRowE_mk x2 (hs2.mono hle3) hb5 hb6 hb7 hb8)⟩) (fun w6 G4 hS8 hle4=>?_)
  refine WL.split (fun (h3 : (pf x1 x2) = true)=>?_) (fun (h3 : (pf x1 x2) = false)=>?_)
  ·refine WL.incr k1 (by have hreach : reach = 140737488355328:=rfl; omega) rfl rfl rfl ?_
   exact BK.mk' _ ⟨k1 + 1,G4,rfl,(hle1.trans ((hle2.trans hle3).trans hle4)),hS8,⟨rfl,rfl,rfl,rfl,rfl,trivial⟩,(by omega),(by exact lt_step2 (by assumption) (by assumption) (by assumption) (by simp_all))⟩ (show a.length - (k1 + 1) < a.length - k1 by omega)
  exact RB hS8 rfl (by exact (eqF_no (by assumption) (by assumption) (by simp_all)).symm)
 exact RB hS1 rfl (by exact (eqF_yes (by omega) (by assumption) (by omega)).symm)
theorem c_instant {G : GH} {w : World} (hG : G.In w) (x : Int) : CL Tryz.prog (nat_lit 85) #[.int .i64 x] [] w G fun _ _ r=>r = .bool (instB x):=by
 refine calls_of_go ft [] Tryz.func85 rfl rfl ?_
 have hS:=St.start (X:=[]) hG
 refine WL.geqS x (-62135596800) rfl rfl rfl (fun h1=>?_) (fun h1=>?_)
 ·refine WL.cmp .lss rfl .i64 x 253402300800 rfl rfl rfl ?_
  exact RB hS rfl (by unfold instB; simp_all [Cmp.b] <;> (first | omega | (intros; omega) | (rw [Bool.eq_iff_iff]; simp <;> omega) | (rw [Bool.eq_iff_iff]; simp_all <;> omega)))
 exact RB hS rfl (by unfold instB; simp_all [Cmp.b] <;> (omega))
end Go.Civ
