/- Lemmas: Wn2, Civ67, Civ69, Ll. -/
import Derived.Test.YtjjkgobhlfmhhaaGreatK28
import Derived.Test.YtjjkgobhlfmhhaaGreatK37
import Derived.Test.YtjjkgobhlfmhhaaGreatK45
import Derived.Test.YtjjkgobhlfmhhaaGreatProg
import Derived.KernelRfl
import Derived.WalkKit
set_option linter.unusedVariables false
set_option linter.unusedSimpArgs false
set_option maxRecDepth 100000
set_option maxHeartbeats 4000000
namespace Go.Civ
open Go.Proofs
theorem c_EqualLL {G : GH} {w : World} (hG : G.In w) (a b : List (List Val)) (pf : (List Val) → (List Val) → Bool) (va : Value) (hva : Sl (ValE.slice 32) 24 G va a) (vb : Value) (hvb : Sl (ValE.slice 32) 24 G vb b) (fid : Nat) (fcap : Array Value) (hf : FnB2 Tryz.prog (Sl ValE 32) (Sl ValE 32) fid fcap G (fun x y=>x ∈ a ∧ y ∈ b) pf) : CL Tryz.prog (nat_lit 95) #[va,vb, .func (.func fid) #[] fcap] [] w G fun _ _ r=>r = .bool (eqF pf a b):=by
 refine calls_of_go ft [] Tryz.func95 rfl rfl ?_
 have hS:=St.start (X:=[]) hG
 have bd1:=hva.bound
 refine WL.lenSl hva ul56 rfl rfl ?_
 have bd2:=hvb.bound
 refine WL.lenSl hvb ul56 rfl rfl ?_
 refine WL.neqS (a.length : Int) (b.length : Int) rfl rfl rfl (fun h1=>?_) (fun h1=>?_)
 ·exact RB hS rfl (by exact (eqF_len (by omega)).symm)
 have bd3:=hva.bound
 refine WL.lenSl hva ul56 rfl rfl ?_
 refine LP.go ft [] (fun m ρ1 w1=>∃ (k1 : Nat),∃ (G1 : GH),m = a.length - k1 ∧ G.le G1 ∧ St w [] G G1 [] w1 ∧ FR ρ1 [(1,vb),(2, .func (.func fid) #[] fcap),(15,va),(16, .int .i64 (a.length : Int)),(17, .int .i64 (k1 : Int))] ∧ k1 ≤ a.length ∧ ∀ j,j < k1 → ∀ x y,a[j]? = some x → b[j]? = some y → pf x y = true) _ ⟨0,G,rfl,(G.le_refl),hS,⟨rfl,rfl,rfl,rfl,rfl,trivial⟩,(by omega),(by intro j hj; omega)⟩ ?_
 rintro m ρ1 w1 ⟨k1,G1,rfl,hle1,hS1,hF9,f1,f2⟩
 refine hF9.set ?_
 clear hF9
 refine WL.lssS (k1 : Int) (a.length : Int) rfl rfl rfl (fun h2=>?_) (fun h2=>?_)
 ·refine WL.indexAddr (hva.mono hle1) k1 (by omega) ul56 ti36 rfl rfl rfl rfl (fun p1 x1 hx1 he1=>?_)
  obtain ⟨cs1,hc1,hr1⟩:=he1
  obtain ⟨v1,rfl,hs1⟩:=hr1
  refine WL.loadG1 hS1 hc1 ti36 rfl rfl rfl ?_
  refine WL.indexAddr (hvb.mono hle1) k1 (by omega) ul56 ti36 rfl rfl rfl rfl (fun p2 x2 hx2 he2=>?_)
  obtain ⟨cs2,hc2,hr2⟩:=he2
  obtain ⟨v2,rfl,hs2⟩:=hr2
  refine WL.loadG1 hS1 hc2 ti36 rfl rfl rfl ?_
  refine WL.cV hS1 hf.body rfl rfl rfl (hf.call _ _ v1 v2 x1 x2 hle1 hS1.imm ⟨(List.mem_of_getElem? hx1),(List.mem_of_getElem? hx2)⟩ hs1 hs2) (fun w2 G2 hS2 hle2=>?_)
  refine WL.split (fun (h3 : (pf x1 x2) = true)=>?_) (fun (h3 : (pf x1 x2) = false)=>?_)
  ·refine WL.incr k1 (by have hreach : reach = 140737488355328:=rfl; omega) rfl rfl rfl ?_
   exact BK.mk' _ ⟨k1 + 1,G2,rfl,(hle1.trans hle2),hS2,⟨rfl,rfl,rfl,rfl,rfl,trivial⟩,(by omega),(by exact lt_step2 (by assumption) (by assumption) (by assumption) (by simp_all))⟩ (show a.length - (k1 + 1) < a.length - k1 by omega)
  exact RB hS2 rfl (by exact (eqF_no (by assumption) (by assumption) (by simp_all)).symm)
 exact RB hS1 rfl (by exact (eqF_yes (by omega) (by assumption) (by omega)).symm)
theorem c_lsame {G : GH} {w : World} (hG : G.In w) (a b : VV) (va : Value) (hva : Sl (ValE.slice 32) 24 G va a) (vb : Value) (hvb : Sl (ValE.slice 32) 24 G vb b) : CL Tryz.prog (nat_lit 32) #[va,vb] [] w G fun _ _ r=>r = .bool (decide (a = b)):=by
 refine calls_of_go ft [] Tryz.func32 rfl rfl ?_
 have hS:=St.start (X:=[]) hG
 refine WL.cV hS hb95 rfl rfl rfl (c_EqualLL hS.imm a b (fun x8 y8=>decide (x8 = y8)) _ hva _ hvb 46 #[] ⟨hb46,fun G8 w8 v8 u8 x8 y8 hle8 hG8 hon8 hA8 hB8=>by exact c_vSame hG8 x8 y8 v8 hA8 u8 hB8⟩) (fun w1 G1 hS1 hle1=>?_)
 exact RB hS1 rfl (by exact eqF_eq)
end Go.Civ
namespace Go.Civ
open Go.RowKit
set_option linter.unusedVariables false
theorem snapH_of {t : Table} (h : validT t = true) {a x : Int} (ha : instB a = true) (hx : instB x = true) : snapH t a x = snapOf t.rows a x := by unfold snapH; rw [h, ha, hx]; rfl
section
variable {hl : List Val → Bool} {nx : List Val → Option (List Val)} {tx : Int} {d : Span} {s : Schema} {r : HRow} {last : Int} {u : List Val} {a y : Int}
end
end Go.Civ
namespace Go.Civ
open Go.RowKit
set_option linter.unusedVariables false
def inS (a : Int) (s : Span) : Bool := decide (s.a ≤ a) && decide (a < s.b)
def ffL (l : List Fact) (a : Int) : VV := (l.filter fun f => inS a f.t).map Fact.v
def rrL (l : List HRow) (a x : Int) : VV := (hereH l a x).map HRow.v
theorem ffL_yes {l : List Fact} {k : Nat} {f : Fact} {a : Int} (h : l[k]? = some f) (h1 : f.t.a ≤ a) (h2 : a < f.t.b) : ffL (l.take (k + 1)) a = ffL (l.take k) a ++ [f.v] := by
  rw [List.take_add_one, h]; simp [ffL, inS, h1, h2]
theorem ffL_no {l : List Fact} {k : Nat} {f : Fact} {a : Int} (h : l[k]? = some f) (h1 : a < f.t.a ∨ f.t.b ≤ a) : ffL (l.take (k + 1)) a = ffL (l.take k) a := by
  have : inS a f.t = false := by unfold inS; rw [Bool.eq_false_iff]; simp; omega
  rw [List.take_add_one, h]; simp [ffL, this]
theorem ffL_len (l : List Fact) (a : Int) (k : Nat) : (ffL (l.take k) a).length ≤ l.length := by unfold ffL; rw [List.length_map]; exact Nat.le_trans (List.length_filter_le _ _) (List.length_take_le' _ _)
theorem rrL_yes {l : List HRow} {k : Nat} {r : HRow} {a x : Int} (h : l[k]? = some r) (h1 : r.r.d.a ≤ a) (h2 : a < r.r.d.b) (h3 : r.r.x.a ≤ x) (h4 : x < r.r.x.b) : rrL (l.take (k + 1)) a x = rrL (l.take k) a x ++ [r.v] := by
  unfold rrL; rw [hereH_yes h h1 h2 h3 h4]; simp
theorem rrL_no {l : List HRow} {k : Nat} {r : HRow} {a x : Int} (h : l[k]? = some r) (h1 : a < r.r.d.a ∨ r.r.d.b ≤ a ∨ x < r.r.x.a ∨ r.r.x.b ≤ x) : rrL (l.take (k + 1)) a x = rrL (l.take k) a x := by
  unfold rrL; rw [hereH_no h h1]
theorem rrL_len (l : List HRow) (a x : Int) (k : Nat) : (rrL (l.take k) a x).length ≤ l.length := by unfold rrL; rw [List.length_map]; exact hereH_len l a x k
theorem can_filter {α : Type} {v : α} {a : Int} : ∀ {l : List Span}, Can l → (l.filter (inS a)).map (fun _ => v) = if inR l a then [v] else []
  | [], _ => rfl
  | s :: l, h => by
    have ih := can_filter (v := v) (a := a) h.tail
    rw [List.filter_cons]
    have ec : inR (s :: l) a = (inS a s || inR l a) := rfl
    cases hs : inS a s with
    | true =>
      have h2 : inR l a = false := by
        rw [Bool.eq_false_iff]; intro e
        have := h.above (inR_iff.1 e)
        unfold inS at hs; simp at hs; omega
      rw [h2] at ih
      rw [ec, hs, h2, if_pos rfl, List.map_cons, ih]; rfl
    | false =>
      rw [ec, hs, Bool.false_or]
      exact ih
theorem flat_cong {α β : Type} {f g : α → List β} : ∀ {l : List α}, (∀ x ∈ l, f x = g x) → l.flatMap f = l.flatMap g
  | [], _ => rfl
  | x :: l, h => by rw [List.flatMap_cons, List.flatMap_cons, h x (by simp), flat_cong fun y hy => h y (by simp [hy])]
theorem flat_if {α β : Type} {p : α → Bool} {f : α → β} : ∀ (l : List α), (l.flatMap fun g => if p g then [f g] else []) = (l.filter p).map f
  | [] => rfl
  | x :: l => by
    rw [List.flatMap_cons, flat_if l, List.filter_cons]
    cases p x <;> rfl
theorem facts_flat {l : List HRow} (hg : GoodH l) (a x : Int) : ffL (factsOf l x) a = snapOf l a x := by
  unfold ffL factsOf snapOf
  rw [List.filter_flatMap, List.map_flatMap, ← flat_if]
  refine flat_cong fun g hgm => ?_
  rw [← can_filter (timesH_can (grpH_good hg g hgm) x), List.filter_map, List.map_map]
  rfl
theorem rr_one {v : List Val} {a x : Int} : ∀ {m : List HRow}, (∀ r ∈ m, r.v = v) → (m.filter (hereB a x)).map HRow.v = ((spansH m x).filter (inS a)).map fun _ => v
  | [], _ => rfl
  | r :: m, h => by
    have ih := rr_one (a := a) (x := x) (m := m) fun q hq => h q (by simp [hq])
    have hv := h r (by simp)
    have e : hereB a x r = (inS a r.r.d && liveB x r) := rfl
    unfold spansH at ih ⊢
    rw [List.filter_cons, List.filter_cons, e]
    cases h1 : liveB x r with
    | true =>
      rw [if_pos rfl, List.map_cons, List.filter_cons, Bool.and_true]
      cases h2 : inS a r.r.d with
      | true => rw [if_pos rfl, if_pos rfl, List.map_cons, List.map_cons, ih, hv]
      | false => exact ih
    | false => rw [Bool.and_false]; exact ih
theorem rows_flat {l : List HRow} (hg : GoodH l) (a x : Int) : rrL (normH l) a x = snapOf l a x := by
  unfold rrL hereH snapOf grpH
  rw [normH_is, List.filter_flatMap, List.map_flatMap, List.filter_map, List.map_map]
  have e : (HGrp.v ∘ fun v => (⟨v, ofV l v⟩ : HGrp)) = id := rfl
  rw [e, ← flat_if]
  refine flat_cong fun v hv => ?_
  rw [rr_one fun r hr => (nv_row hr).1]
  have e2 : spansH (nvH l v) x = timesH (ofV l v) x := norm_run (hg.of v) v x
  rw [e2, can_filter (timesH_can (hg.of v) x)]
  rfl
theorem at_len {t : Table} (h : validT t = true) (x : Int) : (atH t x).length ≤ 250000 := by
  unfold atH
  split
  · have h2 := factsP_takeLen (l := t.rows) (k := (grpH t.rows).length) (tx := x) (validT_good h).2.1
    rwa [List.take_length] at h2
  · exact Nat.zero_le _
theorem facts_law {t : Table} {a x : Int} (h : validT t = true) (ha : instB a = true) (hx : instB x = true) : ffL (atH t x) a = snapH t a x ∧ rrL t.rows a x = snapH t a x := by
  have hg := (validT_good h).1
  have e := (validT_good h).2.2.2
  rw [snapH_of h ha hx]
  constructor
  · unfold atH; rw [h, hx]; exact facts_flat hg a x
  · have := rows_flat hg a x
    rwa [← e] at this
end Go.Civ
set_option linter.unusedVariables false
set_option linter.unusedSimpArgs false
set_option maxRecDepth 100000
set_option maxHeartbeats 4000000
namespace Go.Civ
open Go.Proofs
theorem c_HistoryFacts {G : GH} {w : World} (hG : G.In w) (t : Table) (a x : Int) (ct : List Value) (hct : TableE.rep G t ct) : CL Tryz.prog (nat_lit 6) #[.agg ct.toArray, .int .i64 a, .int .i64 x] [] w G fun _ _ r=>r = .bool true:=by
 refine calls_of_go ft [] Tryz.func6 rfl rfl ?_
 have hS:=St.start (X:=[]) hG
 obtain ⟨v1,v2,v3,rfl,hb1,hs1,hb2,hs2,hs3,hb3⟩:=TableE_open hct
 refine WL.boxG [strV t.s.name,v1, .int .i64 t.s.key,v2,v3, .int .i64 t.last] _ hS rfl rfl rfl (fun p1 w1 G1 hle1 hsp1 hc1 hS1=>?_)
 refine WL.cV hS1 hb13 rfl rfl rfl (c_awake hS1.imm) (fun w2 G2 hS2 hle2=>?_)
 refine WL.loadG1 hS2 (Cells.drop 4 (hc1.mono hle2)) ti26 rfl rfl rfl ?_
 refine WL.cV hS2 hb14 rfl rfl rfl (c_great hS2.imm t.rows _ (hs3.mono (hle1.trans hle2))) (fun w3 G3 hS3 hle3=>?_)
 refine WL.split (fun (h1 : (greatH t.rows) = true)=>?_) (fun (h1 : (greatH t.rows) = false)=>?_)
 ·exact RB hS3 rfl (by with_reducible rfl)
 refine WL.loadGAt hS3 (hc1.mono (hle2.trans hle3)) [strV t.s.name,v1, .int .i64 t.s.key,v2,v3, .int .i64 t.last] ti28 rfl rfl rfl rfl rfl ?_
 refine WL.cV hS3 hb15 rfl rfl rfl (c_hValid hS3.imm t _ (TableE_mk t hb1 (hs1.mono ((hle1.trans hle2).trans hle3)) hb2 (hs2.mono ((hle1.trans hle2).trans hle3)) (hs3.mono ((hle1.trans hle2).trans hle3)) hb3)) (fun w4 G4 hS4 hle4=>?_)
 refine WL.split (fun (h2 : (validT t) = true)=>?_) (fun (h2 : (validT t) = false)=>?_)
 ·refine WL.cV hS4 hb23 rfl rfl rfl (c_rTime hS4.imm a) (fun w5 G5 hS5 hle5=>?_)
  refine WL.split (fun (h3 : (instB a) = true)=>?_) (fun (h3 : (instB a) = false)=>?_)
  ·refine WL.cV hS5 hb23 rfl rfl rfl (c_rTime hS5.imm x) (fun w6 G6 hS6 hle6=>?_)
   refine WL.split (fun (h4 : (instB x) = true)=>?_) (fun (h4 : (instB x) = false)=>?_)
   ·have hfl:=facts_law (a:=a) (x:=x) (by assumption : validT t = true) (by assumption) (by assumption)
    have hal:=at_len (by assumption : validT t = true) x
    have h5r:=(validT_good (by assumption : validT t = true)).2.1
    refine WL.loadGAt hS6 (hc1.mono ((((hle2.trans hle3).trans hle4).trans hle5).trans hle6)) [strV t.s.name,v1, .int .i64 t.s.key,v2,v3, .int .i64 t.last] ti28 rfl rfl rfl rfl rfl ?_
    refine WL.cA hS6 hb30 rfl rfl rfl (c_hAt hS6.imm t x _ (TableE_mk t hb1 (hs1.mono (((((hle1.trans hle2).trans hle3).trans hle4).trans hle5).trans hle6)) hb2 (hs2.mono (((((hle1.trans hle2).trans hle3).trans hle4).trans hle5).trans hle6)) (hs3.mono (((((hle1.trans hle2).trans hle3).trans hle4).trans hle5).trans hle6)) hb3)) (fun w7 G7 r1 hpost1 hS7 hle7=>?_)
    have bd1:=hpost1.bound
    refine WL.lenSl hpost1 ul57 rfl rfl ?_
    have hS9:=hS7.pad
    refine LP.go ft [] (fun m ρ1 w1=>∃ (k1 : Nat),∃ (v4 : Value) (o1 : OB),∃ (G9 : GH),m = (atH t x).length - k1 ∧ G7.le G9 ∧ St w [] G G9 [o1] w1 ∧ Row (ValE.slice 32) 24 36 G9 v4 (ffL ((atH t x).take k1) a) o1 ∧ FR ρ1 [(1, .int .i64 a),(2, .int .i64 x),(3, .pointer (some p1)),(7,v4),(8, .slice none 0 0),(36,r1),(37, .int .i64 (((atH t x).length : Nat) : Int)),(38, .int .i64 (k1 : Int))] ∧ k1 ≤ (atH t x).length) _ ⟨0,(.slice none 0 0),none,G7,rfl,(G7.le_refl),hS9,(Row.cast (Row.nil (ValE.slice 32) 24 36 G7) (by rfl)),⟨rfl,rfl,rfl,rfl,rfl,rfl,rfl,rfl,trivial⟩,(by omega)⟩ ?_
    rintro m ρ1 w9 ⟨k1,v4,o1,G9,rfl,hle9,hS8,hr1,hF9,f1⟩
    refine hF9.set ?_
    clear hF9
    have hf1:=ffL_len (atH t x) a k1
    refine WL.lssS (k1 : Int) (((atH t x).length : Nat) : Int) rfl rfl rfl (fun h5=>?_) (fun h5=>?_)
    ·refine WL.indexAddr (hpost1.mono hle9) k1 (by omega) ul57 ti60 rfl rfl rfl rfl (fun p2 x1 hx1 he1=>?_)
     obtain ⟨cs1,hc2,hr2⟩:=he1
     obtain ⟨v5,rfl,hs4,hb4,hb5⟩:=FactE_open hr2
     refine WL.loadGAt hS8 hc2 [v5, .int .i64 x1.t.a, .int .i64 x1.t.b] ti60 rfl rfl rfl rfl rfl ?_
     refine WL.alloc hS8 ti60 rfl rfl (fun b1 w10 hn1 hS10=>?_)
     refine WL.store hS10 0 _ _ _ 0 _ [v5, .int .i64 x1.t.a, .int .i64 x1.t.b] [v5, .int .i64 x1.t.a, .int .i64 x1.t.b] _ rfl rfl ti60 rfl (Nat.le_of_ble_eq_true rfl) (by simp only [List.all_cons,List.all_nil,hs4.oneC,Bool.true_and] <;> rfl) rfl rfl rfl rfl rfl (fun w11 hS11=>?_)
     obtain ⟨G10,hle10,hc3,hS12⟩:=hS11.shutB hn1
     refine WL.loadG1 hS12 (Cells.drop 0 (Cells.drop 1 hc3)) ti3 rfl rfl rfl ?_
     refine WL.leqS x1.t.a a rfl rfl rfl (fun h6=>?_) (fun h6=>?_)
     ·refine WL.loadG1 hS12 (Cells.drop 1 (Cells.drop 1 hc3)) ti3 rfl rfl rfl ?_
      refine WL.lssS a x1.t.b rfl rfl rfl (fun h7=>?_) (fun h7=>?_)
      ·refine WL.loadG1 hS12 (Cells.drop 0 hc3) ti36 rfl rfl rfl ?_
       refine WL.buildSlice _ [(0,[v5])] [v5] hS12 sl56 rfl rfl rfl (by show [(0,(v5 : Value).cells.toList)] = _; simp only [(hs4.mono hle10).cells1] <;> rfl) (fun z hz=>by match z,hz with | [z0],_=>rfl) (fun b2 w12 hn2 hS13=>?_)
       refine WL.push (m:=([x1.v] : List (List Val))) sl56 rfl rfl rfl (hr1.mono hle10) hS13 1 rfl 0 _ _ _ _ _ rfl ⟨[v5],_,rfl,⟨_,rfl,(hs4.mono hle10)⟩,rfl⟩ rfl (by have hreach : reach = 140737488355328:=rfl; simp only [List.length_append,List.length_map,List.length_cons,List.length_nil]; omega) (by have hreach : reach = 140737488355328:=rfl; simp only [List.length_append,List.length_map,List.length_cons,List.length_nil]; omega) rfl rfl rfl (fun v6 o2 w13 hr3 hS14=>?_)
       have hS15:=hS14.tail
       refine WL.incr k1 (by have hreach : reach = 140737488355328:=rfl; omega) rfl rfl rfl ?_
       exact BK.mk' _ ⟨k1 + 1,v6,o2,G10,rfl,(hle9.trans hle10),hS15,(Row.cast hr3 (by (exact (ffL_yes (by assumption) (by omega) (by omega)).symm))),⟨rfl,rfl,rfl,rfl,rfl,rfl,rfl,rfl,trivial⟩,(by omega)⟩ (show (atH t x).length - (k1 + 1) < (atH t x).length - k1 by omega)
      refine WL.incr k1 (by have hreach : reach = 140737488355328:=rfl; omega) rfl rfl rfl ?_
      exact BK.mk' _ ⟨k1 + 1,v4,o1,G10,rfl,(hle9.trans hle10),hS12,(Row.cast (hr1.mono hle10) (by (exact (ffL_no (by assumption) (by omega)).symm))),⟨rfl,rfl,rfl,rfl,rfl,rfl,rfl,rfl,trivial⟩,(by omega)⟩ (show (atH t x).length - (k1 + 1) < (atH t x).length - k1 by omega)
     refine WL.incr k1 (by have hreach : reach = 140737488355328:=rfl; omega) rfl rfl rfl ?_
     exact BK.mk' _ ⟨k1 + 1,v4,o1,G10,rfl,(hle9.trans hle10),hS12,(Row.cast (hr1.mono hle10) (by (exact (ffL_no (by assumption) (by omega)).symm))),⟨rfl,rfl,rfl,rfl,rfl,rfl,rfl,rfl,trivial⟩,(by omega)⟩ (show (atH t x).length - (k1 + 1) < (atH t x).length - k1 by omega)
    refine WL.loadG1 hS8 (Cells.drop 4 (hc1.mono ((((((hle2.trans hle3).trans hle4).trans hle5).trans hle6).trans hle7).trans hle9))) ti26 rfl rfl rfl ?_
    have bd2:=hs3.bound
    refine WL.lenSl (hs3.mono (((((((hle1.trans hle2).trans hle3).trans hle4).trans hle5).trans hle6).trans hle7).trans hle9)) ul26 rfl rfl ?_
    have hS17:=hS8.pad
    refine LP.go ft [] (fun m ρ1 w1=>∃ (k2 : Nat),∃ (v7 : Value) (o3 : OB),∃ (G11 : GH),m = t.rows.length - k2 ∧ G9.le G11 ∧ St w [] G G11 [o3,o1] w1 ∧ Row (ValE.slice 32) 24 36 G11 v7 (rrL (t.rows.take k2) a x) o3 ∧ FR ρ1 [(1, .int .i64 a),(2, .int .i64 x),(3, .pointer (some p1)),(7,v4),(8,v7),(61,v3),(62, .int .i64 (t.rows.length : Int)),(63, .int .i64 (k2 : Int))] ∧ k2 ≤ t.rows.length) _ ⟨0,(.slice none 0 0),none,G9,rfl,(G9.le_refl),hS17,(Row.cast (Row.nil (ValE.slice 32) 24 36 G9) (by rfl)),⟨rfl,rfl,rfl,rfl,rfl,rfl,rfl,rfl,trivial⟩,(by omega)⟩ ?_
    rintro m ρ1 w14 ⟨k2,v7,o3,G11,rfl,hle11,hS16,hr4,hF9,f2⟩
    refine hF9.set ?_
    clear hF9
    have hf2:=rrL_len t.rows a x k2
    refine WL.lssS (k2 : Int) (t.rows.length : Int) rfl rfl rfl (fun h8=>?_) (fun h8=>?_)
    ·refine WL.indexAddr (hs3.mono ((((((((hle1.trans hle2).trans hle3).trans hle4).trans hle5).trans hle6).trans hle7).trans hle9).trans hle11)) k2 (by omega) ul26 ti64 rfl rfl rfl rfl (fun p3 x2 hx2 he2=>?_)
     obtain ⟨cs2,hc4,hr5⟩:=he2
     obtain ⟨v9,rfl,hs5,hb6,hb7,hb8,hb9⟩:=HRowE_open hr5
     refine WL.loadGAt hS16 hc4 [v9, .int .i64 x2.r.d.a, .int .i64 x2.r.d.b, .int .i64 x2.r.x.a, .int .i64 x2.r.x.b] ti64 rfl rfl rfl rfl rfl ?_
     refine WL.alloc hS16 ti64 rfl rfl (fun b3 w15 hn3 hS18=>?_)
     refine WL.store hS18 0 _ _ _ 0 _ [v9, .int .i64 x2.r.d.a, .int .i64 x2.r.d.b, .int .i64 x2.r.x.a, .int .i64 x2.r.x.b] [v9, .int .i64 x2.r.d.a, .int .i64 x2.r.d.b, .int .i64 x2.r.x.a, .int .i64 x2.r.x.b] _ rfl rfl ti64 rfl (Nat.le_of_ble_eq_true rfl) (by simp only [List.all_cons,List.all_nil,hs5.oneC,Bool.true_and] <;> rfl) rfl rfl rfl rfl rfl (fun w16 hS19=>?_)
     obtain ⟨G12,hle12,hc5,hS20⟩:=hS19.shutB hn3
     refine WL.loadG1 hS20 (Cells.drop 0 (Cells.drop 0 (Cells.drop 1 hc5))) ti3 rfl rfl rfl ?_
     refine WL.leqS x2.r.d.a a rfl rfl rfl (fun h9=>?_) (fun h9=>?_)
     ·refine WL.loadG1 hS20 (Cells.drop 1 (Cells.drop 0 (Cells.drop 1 hc5))) ti3 rfl rfl rfl ?_
      refine WL.lssS a x2.r.d.b rfl rfl rfl (fun h10=>?_) (fun h10=>?_)
      ·refine WL.loadG1 hS20 (Cells.drop 0 (Cells.drop 2 (Cells.drop 1 hc5))) ti3 rfl rfl rfl ?_
       refine WL.leqS x2.r.x.a x rfl rfl rfl (fun h11=>?_) (fun h11=>?_)
       ·refine WL.loadG1 hS20 (Cells.drop 1 (Cells.drop 2 (Cells.drop 1 hc5))) ti3 rfl rfl rfl ?_
        refine WL.lssS x x2.r.x.b rfl rfl rfl (fun h12=>?_) (fun h12=>?_)
        ·refine WL.loadG1 hS20 (Cells.drop 0 hc5) ti36 rfl rfl rfl ?_
         refine WL.buildSlice _ [(0,[v9])] [v9] hS20 sl56 rfl rfl rfl (by show [(0,(v9 : Value).cells.toList)] = _; simp only [(hs5.mono hle12).cells1] <;> rfl) (fun z hz=>by match z,hz with | [z0],_=>rfl) (fun b4 w17 hn4 hS21=>?_)
         refine WL.push (m:=([x2.v] : List (List Val))) sl56 rfl rfl rfl (hr4.mono hle12) hS21 1 rfl 0 _ _ _ _ _ rfl ⟨[v9],_,rfl,⟨_,rfl,(hs5.mono hle12)⟩,rfl⟩ rfl (by have hreach : reach = 140737488355328:=rfl; simp only [List.length_append,List.length_map,List.length_cons,List.length_nil]; omega) (by have hreach : reach = 140737488355328:=rfl; simp only [List.length_append,List.length_map,List.length_cons,List.length_nil]; omega) rfl rfl rfl (fun v10 o4 w18 hr6 hS22=>?_)
         have hS23:=hS22.tail
         refine WL.incr k2 (by have hreach : reach = 140737488355328:=rfl; omega) rfl rfl rfl ?_
         exact BK.mk' _ ⟨k2 + 1,v10,o4,G12,rfl,(hle11.trans hle12),hS23,(Row.cast hr6 (by (exact (rrL_yes (by assumption) (by omega) (by omega) (by omega) (by omega)).symm))),⟨rfl,rfl,rfl,rfl,rfl,rfl,rfl,rfl,trivial⟩,(by omega)⟩ (show t.rows.length - (k2 + 1) < t.rows.length - k2 by omega)
        refine WL.incr k2 (by have hreach : reach = 140737488355328:=rfl; omega) rfl rfl rfl ?_
        exact BK.mk' _ ⟨k2 + 1,v7,o3,G12,rfl,(hle11.trans hle12),hS20,(Row.cast (hr4.mono hle12) (by (exact (rrL_no (by assumption) (by omega)).symm))),⟨rfl,rfl,rfl,rfl,rfl,rfl,rfl,rfl,trivial⟩,(by omega)⟩ (show t.rows.length - (k2 + 1) < t.rows.length - k2 by omega)
       refine WL.incr k2 (by have hreach : reach = 140737488355328:=rfl; omega) rfl rfl rfl ?_
       exact BK.mk' _ ⟨k2 + 1,v7,o3,G12,rfl,(hle11.trans hle12),hS20,(Row.cast (hr4.mono hle12) (by (exact (rrL_no (by assumption) (by omega)).symm))),⟨rfl,rfl,rfl,rfl,rfl,rfl,rfl,rfl,trivial⟩,(by omega)⟩ (show t.rows.length - (k2 + 1) < t.rows.length - k2 by omega)
      refine WL.incr k2 (by have hreach : reach = 140737488355328:=rfl; omega) rfl rfl rfl ?_
      exact BK.mk' _ ⟨k2 + 1,v7,o3,G12,rfl,(hle11.trans hle12),hS20,(Row.cast (hr4.mono hle12) (by (exact (rrL_no (by assumption) (by omega)).symm))),⟨rfl,rfl,rfl,rfl,rfl,rfl,rfl,rfl,trivial⟩,(by omega)⟩ (show t.rows.length - (k2 + 1) < t.rows.length - k2 by omega)
     refine WL.incr k2 (by have hreach : reach = 140737488355328:=rfl; omega) rfl rfl rfl ?_
     exact BK.mk' _ ⟨k2 + 1,v7,o3,G12,rfl,(hle11.trans hle12),hS20,(Row.cast (hr4.mono hle12) (by (exact (rrL_no (by assumption) (by omega)).symm))),⟨rfl,rfl,rfl,rfl,rfl,rfl,rfl,rfl,trivial⟩,(by omega)⟩ (show t.rows.length - (k2 + 1) < t.rows.length - k2 by omega)
    refine WL.loadGAt hS16 (hc1.mono (((((((hle2.trans hle3).trans hle4).trans hle5).trans hle6).trans hle7).trans hle9).trans hle11)) [strV t.s.name,v1, .int .i64 t.s.key,v2,v3, .int .i64 t.last] ti28 rfl rfl rfl rfl rfl ?_
    refine WL.cA hS16 hb31 rfl rfl rfl (c_Snapshot hS16.imm t a x _ (TableE_mk t hb1 (hs1.mono ((((((((hle1.trans hle2).trans hle3).trans hle4).trans hle5).trans hle6).trans hle7).trans hle9).trans hle11)) hb2 (hs2.mono ((((((((hle1.trans hle2).trans hle3).trans hle4).trans hle5).trans hle6).trans hle7).trans hle9).trans hle11)) (hs3.mono ((((((((hle1.trans hle2).trans hle3).trans hle4).trans hle5).trans hle6).trans hle7).trans hle9).trans hle11)) hb3)) (fun w19 G13 r2 hpost2 hS24 hle13=>?_)
    obtain ⟨G14,hle14,hs6,hS25⟩:=Row.freeze (hr1.mono (hle11.trans hle13)) hS24 1 rfl
    refine WL.cV hS25 hb32 rfl rfl rfl (c_lsame hS25.imm (snapH t a x) (ffL ((atH t x).take k1) a) _ (hpost2.mono hle14) _ hs6) (fun w20 G15 hS26 hle15=>?_)
    refine WL.split (fun (h13 : (decide ((snapH t a x) = (ffL ((atH t x).take k1) a))) = true)=>?_) (fun (h13 : (decide ((snapH t a x) = (ffL ((atH t x).take k1) a))) = false)=>?_)
    ·obtain ⟨G16,hle16,hs7,hS27⟩:=Row.freeze (hr4.mono ((hle13.trans hle14).trans hle15)) hS26 0 rfl
     refine WL.cV hS27 hb32 rfl rfl rfl (c_lsame hS27.imm (snapH t a x) (rrL (t.rows.take k2) a x) _ (hpost2.mono ((hle14.trans hle15).trans hle16)) _ hs7) (fun w21 G17 hS28 hle17=>?_)
     exact RB hS28 rfl (by (rw [List.take_of_length_le (by omega)] at *; first | exact absurd hfl.1.symm (of_decide_eq_false (by assumption)) | exact decide_eq_true hfl.2.symm))
    exact RB hS26 rfl (by (rw [List.take_of_length_le (by omega)] at *; first | exact absurd hfl.1.symm (of_decide_eq_false (by assumption)) | exact decide_eq_true hfl.2.symm))
   exact RB hS6 rfl (by with_reducible rfl)
  exact RB hS5 rfl (by with_reducible rfl)
 exact RB hS4 rfl (by with_reducible rfl)
end Go.Civ
