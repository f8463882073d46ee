/- Lemmas: Wa, Civ58. -/
import Derived.Test.YtjjkgobhlfmhhaaGreatR25
import Derived.Test.YtjjkgobhlfmhhaaGreatR26
import Derived.Test.YtjjkgobhlfmhhaaGreatProg
import Derived.KernelRfl
import Derived.WalkKit
set_option linter.unusedVariables false
set_option linter.unusedSimpArgs false
set_option maxRecDepth 100000
set_option maxHeartbeats 4000000
namespace Go.Civ
open Go.Proofs
theorem c_isNaN {G : GH} {w : World} (hG : G.In w) (a : Int) : CL Tryz.prog (nat_lit 189) #[.int .i64 a] [] w G fun _ _ r=>r = .bool false:=by
 refine calls_of_go ft [] Tryz.func189 rfl rfl ?_
 have hS:=St.start (X:=[]) hG
 refine WL.cmp .neq rfl .i64 a a rfl rfl rfl ?_
 exact RB hS rfl (by simp [Cmp.b])
theorem c_Compare {G : GH} {w : World} (hG : G.In w) (a b : Int) : CL Tryz.prog (nat_lit 157) #[.int .i64 a, .int .i64 b] [] w G fun _ _ r=>r = .int .i64 (sgn a b):=by
 refine calls_of_go ft [] Tryz.func157 rfl rfl ?_
 have hS:=St.start (X:=[]) hG
 refine WL.cV hS hb189 rfl rfl rfl (c_isNaN hS.imm a) (fun w1 G1 hS1 hle1=>?_)
 refine WL.cV hS1 hb189 rfl rfl rfl (c_isNaN hS1.imm b) (fun w2 G2 hS2 hle2=>?_)
 refine WL.lssS a b rfl rfl rfl (fun h1=>?_) (fun h1=>?_)
 ·exact RI hS2 rfl (by unfold sgn; split <;> (try split) <;> rfl)
 refine WL.gtrS a b rfl rfl rfl (fun h2=>?_) (fun h2=>?_)
 ·exact RI hS2 rfl (by unfold sgn; split <;> (try split) <;> omega)
 exact RI hS2 rfl (by unfold sgn; split <;> (try split) <;> omega)
theorem c_isNaNs {G : GH} {w : World} (hG : G.In w) (a : List UInt8) : CL Tryz.prog (nat_lit 190) #[strV a] [] w G fun _ _ r=>r = .bool false:=by
 refine calls_of_go ft [] Tryz.func190 rfl rfl ?_
 have hS:=St.start (X:=[]) hG
 refine WL.strCmp .neq rfl a a rfl rfl rfl ?_
 exact RB hS rfl (by simp [SCmp.b])
theorem c_CompareS {G : GH} {w : World} (hG : G.In w) (a b : List UInt8) : CL Tryz.prog (nat_lit 158) #[strV a,strV b] [] w G fun _ _ r=>r = .int .i64 (cmpS a b):=by
 refine calls_of_go ft [] Tryz.func158 rfl rfl ?_
 have hS:=St.start (X:=[]) hG
 refine WL.cV hS hb190 rfl rfl rfl (c_isNaNs hS.imm a) (fun w1 G1 hS1 hle1=>?_)
 refine WL.cV hS1 hb190 rfl rfl rfl (c_isNaNs hS1.imm b) (fun w2 G2 hS2 hle2=>?_)
 refine WL.strCmp .lss rfl a b rfl rfl rfl ?_
 refine WL.split (fun (h1 : (SCmp.b .lss a b) = true)=>?_) (fun (h1 : (SCmp.b .lss a b) = false)=>?_)
 ·exact RI hS2 rfl (by unfold cmpS; simp_all [SCmp.b])
 refine WL.strCmp .gtr rfl a b rfl rfl rfl ?_
 refine WL.split (fun (h2 : (SCmp.b .gtr a b) = true)=>?_) (fun (h2 : (SCmp.b .gtr a b) = false)=>?_)
 ·exact RI hS2 rfl (by unfold cmpS; simp_all [SCmp.b])
 exact RI hS2 rfl (by unfold cmpS; simp_all [SCmp.b])
theorem c_Or {G : GH} {w : World} (hG : G.In w) (l : List Int) (vl : Value) (hvl : Sl Enc.int 8 G vl l) : CL Tryz.prog (nat_lit 156) #[vl] [] w G fun _ _ r=>r = .int .i64 (cmpOr l):=by
 refine calls_of_go ft [] Tryz.func156 rfl rfl ?_
 have hS:=St.start (X:=[]) hG
 have bd1:=hvl.bound
 refine WL.lenSl hvl ul135 rfl rfl ?_
 refine LP.go ft [] (fun m ρ1 w1=>∃ (k1 : Nat),∃ (G1 : GH),m = l.length - k1 ∧ G.le G1 ∧ St w [] G G1 [] w1 ∧ FR ρ1 [(3, .int .i64 0),(6,vl),(7, .int .i64 (l.length : Int)),(8, .int .i64 (k1 : Int))] ∧ k1 ≤ l.length ∧ ∀ j,j < k1 → ∀ x,l[j]? = some x → x = 0) _ ⟨0,G,rfl,(G.le_refl),hS,⟨rfl,rfl,rfl,rfl,trivial⟩,(by omega),(by intro j hj; omega)⟩ ?_
 rintro m ρ1 w1 ⟨k1,G1,rfl,hle1,hS1,hF9,f1,f2⟩
 refine hF9.set ?_
 clear hF9
 refine WL.lssS (k1 : Int) (l.length : Int) rfl rfl rfl (fun h1=>?_) (fun h1=>?_)
 ·refine WL.indexAddr (hvl.mono hle1) k1 (by omega) ul135 ti3 rfl rfl rfl rfl (fun p1 x1 hx1 he1=>?_)
  obtain ⟨cs1,hc1,hr1⟩:=he1
  obtain ⟨rfl,hb1⟩:=hr1
  refine WL.loadG1 hS1 hc1 ti3 rfl rfl rfl ?_
  refine WL.neqS x1 0 rfl rfl rfl (fun h2=>?_) (fun h2=>?_)
  ·exact RI hS1 rfl (by exact (cmpOr_at (by assumption) (by assumption) (by assumption)).symm)
  refine WL.incr k1 (by have hreach : reach = 140737488355328:=rfl; omega) rfl rfl rfl ?_
  exact BK.mk' _ ⟨k1 + 1,G1,rfl,hle1,hS1,⟨rfl,rfl,rfl,rfl,trivial⟩,(by omega),(by exact lt_step (by assumption) (by assumption) (by assumption))⟩ (show l.length - (k1 + 1) < l.length - k1 by omega)
 exact RI hS1 rfl (by exact (cmpOr_none (by assumption) (by omega)).symm)
theorem c_order {G : GH} {w : World} (hG : G.In w) (x y : Val) (cx : List Value) (hcx : ValE.rep G x cx) (cy : List Value) (hcy : ValE.rep G y cy) : CL Tryz.prog (nat_lit 118) #[.agg cx.toArray, .agg cy.toArray] [] w G fun _ _ r=>r = .int .i64 (cmpV x y):=by
 refine calls_of_go ft [] Tryz.func118 rfl rfl ?_
 have hS:=St.start (X:=[]) hG
 obtain ⟨rfl,hb1,hb2,hb3⟩:=ValE_open hcx
 obtain ⟨rfl,hb4,hb5,hb6⟩:=ValE_open hcy
 refine WL.boxG [.int .i64 x.k, .int .i64 x.n,strV x.s] _ hS rfl rfl rfl (fun p1 w1 G1 hle1 hsp1 hc1 hS1=>?_)
 refine WL.boxG [.int .i64 y.k, .int .i64 y.n,strV y.s] _ hS1 rfl rfl rfl (fun p2 w2 G2 hle2 hsp2 hc2 hS2=>?_)
 refine dr [(15,false),(16,false),(17,false)] [(6, .int .i64 x.k),(8, .int .i64 y.k),(9, .int .i64 (sgn x.k y.k)),(11, .int .i64 x.n),(13, .int .i64 y.n),(14, .int .i64 (sgn x.n y.n)),(16,strV x.s),(18,strV y.s),(19, .int .i64 (cmpS x.s y.s))] hS2 ⟨fun _ hSw=>WL.loadG1 hSw (Cells.drop 0 (hc1.mono hle2)) ti3 rfl rfl rfl <| nu rfl rfl,fun _ hSw=>WL.loadG1 hSw (Cells.drop 0 hc2) ti3 rfl rfl rfl <| nu rfl rfl,fun _ hSw=>WL.callD hSw hb157 rfl rfl rfl (c_Compare hSw.imm x.k y.k) rfl,fun _ hSw=>WL.loadG1 hSw (Cells.drop 1 (hc1.mono hle2)) ti3 rfl rfl rfl <| nu rfl rfl,fun _ hSw=>WL.loadG1 hSw (Cells.drop 1 hc2) ti3 rfl rfl rfl <| nu rfl rfl,fun _ hSw=>WL.callD hSw hb157 rfl rfl rfl (c_Compare hSw.imm x.n y.n) rfl,fun _ hSw=>WL.loadG1 hSw (Cells.drop 2 (hc1.mono hle2)) ti9 rfl rfl rfl <| nu rfl rfl,fun _ hSw=>WL.loadG1 hSw (Cells.drop 2 hc2) ti9 rfl rfl rfl <| nu rfl rfl,fun _ hSw=>WL.callD hSw hb158 rfl rfl rfl (c_CompareS hSw.imm x.s y.s) rfl,trivial⟩ (fun w3 hS3=>?_)
 refine WL.buildSlice _ [(0,[.int .i64 (sgn x.k y.k)]),(1,[.int .i64 (sgn x.n y.n)]),(2,[.int .i64 (cmpS x.s y.s)])] [.int .i64 (sgn x.k y.k), .int .i64 (sgn x.n y.n), .int .i64 (cmpS x.s y.s)] hS3 sl135 rfl rfl rfl rfl (fun z hz=>by match z,hz with | [z0,z1,z2],_=>rfl) (fun b1 w4 hn1 hS4=>?_)
 obtain ⟨G3,hle3,hs1,hS5⟩:=St.sealSl (E:=Enc.int) (by_:=8) (l:=([(sgn x.k y.k),(sgn x.n y.n),(cmpS x.s y.s)] : List Int)) hS4 hn1 ⟨[.int .i64 (sgn x.k y.k)],_,rfl,⟨rfl,I64_sgn x.k y.k⟩,⟨[.int .i64 (sgn x.n y.n)],_,rfl,⟨rfl,I64_sgn x.n y.n⟩,⟨[.int .i64 (cmpS x.s y.s)],_,rfl,⟨rfl,I64_cmpS x.s y.s⟩,rfl⟩⟩⟩ rfl (by simp [reach]) (by simp [reach])
 refine WL.cV hS5 hb156 rfl rfl rfl (c_Or hS5.imm [(sgn x.k y.k),(sgn x.n y.n),(cmpS x.s y.s)] _ hs1) (fun w5 G4 hS6 hle4=>?_)
 exact RI hS6 rfl (by exact cmpOr3 _ _ _)
theorem c_IndexV {G : GH} {w : World} (hG : G.In w) (l : List Val) (pf : Val → Bool) (vl : Value) (hvl : Sl ValE 32 G vl l) (fid : Nat) (fcap : Array Value) (hf : FnB Tryz.prog (Is ValE) fid fcap G (fun x=>x ∈ l) pf) : CL Tryz.prog (nat_lit 126) #[vl, .func (.func fid) #[] fcap] [] w G fun _ _ r=>r = .int .i64 (idxF pf l):=by
 refine calls_of_go ft [] Tryz.func126 rfl rfl ?_
 have hS:=St.start (X:=[]) hG
 have bd1:=hvl.bound
 refine WL.lenSl hvl ul36 rfl rfl ?_
 refine LP.go ft [] (fun m ρ1 w1=>∃ (k1 : Nat),∃ (G1 : GH),m = l.length - k1 ∧ G.le G1 ∧ St w [] G G1 [] w1 ∧ FR ρ1 [(0,vl),(1, .func (.func fid) #[] fcap),(7, .int .i64 (l.length : Int)),(8, .int .i64 (k1 : Int))] ∧ k1 ≤ l.length ∧ ∀ j,j < k1 → ∀ x,l[j]? = some x → pf x = false) _ ⟨0,G,rfl,(G.le_refl),hS,⟨rfl,rfl,rfl,rfl,trivial⟩,(by omega),(by intro j hj; omega)⟩ ?_
 rintro m ρ1 w1 ⟨k1,G1,rfl,hle1,hS1,hF9,f1,f2⟩
 refine hF9.set ?_
 clear hF9
 refine WL.lssS (k1 : Int) (l.length : Int) rfl rfl rfl (fun h1=>?_) (fun h1=>?_)
 ·refine WL.indexAddr (hvl.mono hle1) k1 (by omega) ul36 ti48 rfl rfl rfl rfl (fun p1 x1 hx1 he1=>?_)
  obtain ⟨cs1,hc1,hr1⟩:=he1
  obtain ⟨rfl,hb1,hb2,hb3⟩:=ValE_open hr1
  refine WL.loadGAt hS1 hc1 [.int .i64 x1.k, .int .i64 x1.n,strV x1.s] ti48 rfl rfl rfl rfl rfl ?_
  refine WL.cV hS1 hf.body rfl rfl rfl (hf.call _ _ (.agg #[.int .i64 x1.k, .int .i64 x1.n,strV x1.s]) x1 hle1 hS1.imm (List.mem_of_getElem? hx1) ⟨_,rfl,(ValE_mk x1 hb1 hb2 hb3)⟩) (fun w2 G2 hS2 hle2=>?_)
  refine WL.split (fun (h2 : (pf x1) = true)=>?_) (fun (h2 : (pf x1) = false)=>?_)
  ·exact RI hS2 rfl (by exact (idxF_some _ (by assumption) (by assumption) (by assumption)).symm)
  refine WL.incr k1 (by have hreach : reach = 140737488355328:=rfl; omega) rfl rfl rfl ?_
  exact BK.mk' _ ⟨k1 + 1,G2,rfl,(hle1.trans hle2),hS2,⟨rfl,rfl,rfl,rfl,trivial⟩,(by omega),(by exact lt_step (by assumption) (by assumption) (by assumption))⟩ (show l.length - (k1 + 1) < l.length - k1 by omega)
 exact RI hS1 rfl (by exact (idxF_none' (by assumption) (by omega)).symm)
theorem c_ContainsV {G : GH} {w : World} (hG : G.In w) (l : List Val) (pf : Val → Bool) (vl : Value) (hvl : Sl ValE 32 G vl l) (fid : Nat) (fcap : Array Value) (hf : FnB Tryz.prog (Is ValE) fid fcap G (fun x=>x ∈ l) pf) : CL Tryz.prog (nat_lit 79) #[vl, .func (.func fid) #[] fcap] [] w G fun _ _ r=>r = .bool (l.any pf):=by
 refine calls_of_go ft [] Tryz.func79 rfl rfl ?_
 have hS:=St.start (X:=[]) hG
 refine WL.cV hS hb126 rfl rfl rfl (c_IndexV hS.imm l pf _ hvl fid fcap (hf.up (G.le_refl))) (fun w1 G1 hS1 hle1=>?_)
 refine WL.cmp .geq rfl .i64 (idxF pf l) 0 rfl rfl rfl ?_
 exact RB hS1 rfl (by exact idxF_any _ _)
end Go.Civ
namespace Go.Civ
open Go.RowKit
set_option linter.unusedVariables false
structure FnO (P : Program) {α : Type} (A : GH → Value → α → Prop) (fid : Nat) (cap : Array Value) (G : GH) (on : α → Prop) (nx : α → Option (List Val)) : Prop where
  body : HasBody P fid
  call : ∀ (G' : GH) (w' : World) (v : Value) (x : α), G.le G' → G'.In w' → on x → A G' v x →
    Calls P fid ([v] ++ cap.toList).toArray w' fun e w'' => ∃ r G'', e = .returned r ∧ Res [] w' G' w'' G'' ∧ ∃ r0 r1, r = .tuple #[r0, r1] ∧ Sl ValE 32 G'' r0 ((nx x).getD []) ∧ r1 = .bool (nx x).isSome
theorem FnO.up {P : Program} {α : Type} {A : GH → Value → α → Prop} {fid : Nat} {cap : Array Value} {G G' : GH} {on : α → Prop} {nx : α → Option (List Val)} (h : FnO P A fid cap G on nx) (k : G.le G') : FnO P A fid cap G' on nx :=
  ⟨h.body, fun G2 w' v x hle => h.call G2 w' v x (k.trans hle)⟩
theorem can_one {s : Span} (h : s.a < s.b) : Can [s] := ⟨by simp, by simpa using h⟩
def piecesS (r d : Span) : List Span := (if r.a < d.a then [⟨r.a, d.a⟩] else []) ++ (if d.b < r.b then [⟨d.b, r.b⟩] else [])
theorem pieces_can {r d : Span} (hr : r.a < r.b) (hd : d.a < d.b) (h1 : r.a < d.b) (h2 : d.a < r.b) : Can (piecesS r d) := by
  unfold piecesS
  by_cases c1 : r.a < d.a <;> by_cases c2 : d.b < r.b <;> simp only [c1, c2, if_true, if_false, List.nil_append, List.append_nil]
  · exact ⟨by simp; omega, fun s hs => by simp at hs; rcases hs with rfl | rfl <;> simp <;> omega⟩
  · exact can_one c1
  · exact can_one c2
  · exact ⟨List.Pairwise.nil, by simp⟩
theorem comb_one {r d : Span} (hr : r.a < r.b) (hd : d.a < d.b) (h1 : r.a < d.b) (h2 : d.a < r.b) : combR 3 [r] [d] = piecesS r d := by
  have h := combR_inv (kind := 3) (a := [r]) (b := [d]) rfl (by simpa using hr) (by simpa using hd)
  refine Can.unique h.1 (pieces_can hr hd h1 h2) fun x => ?_
  rw [h.2]
  have e : keepB 3 (inR [r] x) (inR [d] x) = true ↔ ((r.a ≤ x ∧ x < r.b) ∧ ¬ (d.a ≤ x ∧ x < d.b)) := by
    unfold keepB inR; simp; omega
  rw [e]
  unfold piecesS
  by_cases c1 : r.a < d.a <;> by_cases c2 : d.b < r.b <;> simp only [c1, c2, if_true, if_false, List.nil_append, List.append_nil, List.cons_append, cover_cons] <;> simp [cover] <;> omega
theorem pieces_good {r d : Span} (hr : spanB r = true) (hd : spanB d = true) (h1 : r.a < d.b) (h2 : d.a < r.b) : ∀ s ∈ piecesS r d, spanB s = true := fun s hs => by
  unfold spanB at hr hd ⊢
  simp at hr hd ⊢
  unfold piecesS at hs
  rcases List.mem_append.1 hs with hs | hs
  · split at hs
    · obtain rfl := List.mem_singleton.1 hs; simp only; omega
    · cases hs
  · split at hs
    · obtain rfl := List.mem_singleton.1 hs; simp only; omega
    · cases hs
theorem pieces_len (r d : Span) : (piecesS r d).length ≤ 2 := by unfold piecesS; rw [List.length_append]; split <;> split <;> simp
theorem touch_comb {r d : Span} (hr : spanB r = true) (hd : spanB d = true) (h1 : r.a < d.b) (h2 : d.a < r.b) : combR 3 [r] [d] = piecesS r d := comb_one (spanB_pos hr) (spanB_pos hd) h1 h2
theorem part_good {r d : Span} (hr : spanB r = true) (hd : spanB d = true) (h1 : r.a < d.b) (h2 : d.a < r.b) : spanB (partS r d) = true := by
  unfold spanB at hr hd ⊢
  unfold partS
  simp at hr hd ⊢
  omega
def NxOk (nx : List Val → Option (List Val)) (l : List HRow) : Prop := ∀ r ∈ l, ∀ u, nx r.v = some u → u.all valB = true ∧ u.length ≤ 8
structure ChgOk (t : Table) (tx : Int) (d : Span) (nx : List Val → Option (List Val)) : Prop where
  valid : validT t = true
  span : spanB d = true
  inst : instB tx = true
  late : t.last < tx
  next : NxOk nx t.rows
section
variable {t : Table} {tx : Int} {d : Span} {nx : List Val → Option (List Val)} {hl : List Val → Bool}
theorem validT_row1 (h : validT t = true) {r : HRow} (hr : r ∈ t.rows) : goodB r = true ∧ r.v.length ≤ 8 ∧ r.r.x.a ≤ t.last ∧ r.v.length = t.s.cols.length ∧ r.v.all valB = true ∧ t.s.cols.length ≤ 8 := by
  rw [validT_is] at h
  simp only [Bool.and_eq_true] at h
  have h1 := List.all_eq_true.1 h.1.2 r hr
  unfold rowOk at h1
  simp only [Bool.and_eq_true, decide_eq_true_eq] at h1
  obtain ⟨a, b, c, _⟩ := rowE_len h1.1.1.1
  exact ⟨h1.1.1.2, a, h1.1.2, c, b, by omega⟩
theorem chgOf_len (hc : ChgOk t tx d nx) {r : HRow} (hr : r ∈ t.rows) : (chgOf hl nx tx d r).length ≤ 4 := by
  unfold chgOf
  split
  · rename_i h
    simp only [Bool.and_eq_true] at h
    unfold touchB at h
    simp only [Bool.and_eq_true, decide_eq_true_eq] at h
    have hg := goodB_parts (validT_row1 hc.valid hr).1
    rw [touch_comb hg.2.1 hc.span h.1.1.2 h.1.2]
    have := pieces_len r.r.d d
    have h2 : (lastN (nx r.v) r.r.d d tx).length ≤ 1 := by unfold lastN; split <;> simp
    simp only [List.length_append, outN_len, List.length_cons, List.length_nil]
    omega
  · simp
theorem chgRows_len (hc : ChgOk t tx d nx) : ∀ k, (chgRows hl nx tx d (t.rows.take k)).length ≤ 4 * k
  | 0 => by simp [chgRows]
  | k + 1 => by
    have ih := chgRows_len hc k
    cases e : t.rows[k]? with
    | none => rw [List.take_add_one, e]; simp only [Option.toList, List.append_nil]; omega
    | some r =>
      rw [chgRows_take e, List.length_append]
      have := chgOf_len (hl := hl) hc (List.mem_of_getElem? e)
      omega
theorem chgOf_good (hc : ChgOk t tx d nx) {r : HRow} (hr : r ∈ t.rows) : ∀ q ∈ chgOf hl nx tx d r, goodB q = true ∧ q.v.length ≤ 1000 := by
  obtain ⟨g1, g2, g3, _⟩ := validT_row1 hc.valid hr
  have hg := goodB_parts g1
  have ht := instB_parts hc.inst
  have hl := hc.late
  have mk : ∀ (v : List Val) (a b : Span), v.all valB = true → spanB a = true → spanB b = true → goodB ⟨v, ⟨a, b⟩⟩ = true := fun v a b h1 h2 h3 => by unfold goodB; simp only; rw [h1, h2, h3]; rfl
  have hx := hg.2.2
  unfold spanB at hx
  simp at hx
  have hT : spanB ⟨tx, 253402300800⟩ = true := by unfold spanB; simp; omega
  unfold chgOf
  split
  · rename_i h
    simp only [Bool.and_eq_true] at h
    unfold touchB at h
    simp only [Bool.and_eq_true, decide_eq_true_eq] at h
    rw [touch_comb hg.2.1 hc.span h.1.1.2 h.1.2]
    intro q hq
    rcases List.mem_append.1 hq with hq | hq
    · rcases List.mem_append.1 hq with hq | hq
      · rw [List.mem_singleton.1 hq]
        exact ⟨mk _ _ _ hg.1 hg.2.1 (by unfold spanB; simp; omega), Nat.le_trans g2 (by decide)⟩
      · unfold outN at hq
        obtain ⟨s, hs, rfl⟩ := List.mem_map.1 hq
        exact ⟨mk _ _ _ hg.1 (pieces_good hg.2.1 hc.span h.1.1.2 h.1.2 s hs) hT, Nat.le_trans g2 (by decide)⟩
    · unfold lastN at hq
      split at hq
      · rename_i u hu
        rw [List.mem_singleton.1 hq]
        obtain ⟨u1, u2⟩ := hc.next r hr u hu
        exact ⟨mk _ _ _ u1 (part_good hg.2.1 hc.span h.1.1.2 h.1.2) hT, Nat.le_trans u2 (by decide)⟩
      · cases hq
  · intro q hq
    rw [List.mem_singleton.1 hq]; exact ⟨g1, Nat.le_trans g2 (by decide)⟩
theorem chgRows_good (hc : ChgOk t tx d nx) : GoodH (chgRows hl nx tx d t.rows) ∧ (∀ r ∈ chgRows hl nx tx d t.rows, r.v.length ≤ 1000) ∧ (chgRows hl nx tx d t.rows).length ≤ 2000 := by
  refine ⟨fun q hq => ?_, fun q hq => ?_, ?_⟩
  · obtain ⟨r, hr, h⟩ := List.mem_flatMap.1 hq; exact (chgOf_good hc hr q h).1
  · obtain ⟨r, hr, h⟩ := List.mem_flatMap.1 hq; exact (chgOf_good hc hr q h).2
  · have h1 := chgRows_len (hl := hl) hc t.rows.length
    rw [List.take_length] at h1
    have := (validT_good hc.valid).2.1
    omega
end
end Go.Civ
namespace Go.Civ
theorem chg_yes {L : List HRow} {q : HRow} {v : List Val} {ss : List Span} {k : Nat} {tx : Int} {nx : Option (List Val)} {r d : Span} (hk : ss.length ≤ k) (h : nx.isSome = true) :
    ((L ++ [q]) ++ outN v (ss.take k) tx 253402300800) ++ [⟨nx.getD [], ⟨⟨max r.a d.a, min r.b d.b⟩, ⟨tx, 253402300800⟩⟩⟩] = L ++ ([q] ++ outN v ss tx 253402300800 ++ lastN nx r d tx) := by
  rw [List.take_of_length_le hk]
  cases nx with
  | none => cases h
  | some u => simp [lastN, partS]
theorem chg_no {L : List HRow} {q : HRow} {v : List Val} {ss : List Span} {k : Nat} {tx : Int} {nx : Option (List Val)} {r d : Span} (hk : ss.length ≤ k) (h : nx.isSome = false) :
    (L ++ [q]) ++ outN v (ss.take k) tx 253402300800 = L ++ ([q] ++ outN v ss tx 253402300800 ++ lastN nx r d tx) := by
  rw [List.take_of_length_le hk]
  cases nx with
  | none => simp [lastN]
  | some u => cases h
end Go.Civ
namespace Go.Civ
end Go.Civ
