/- Lemmas: Wa, Sq. -/
import Derived.Test.YtjjkgobhlfmhhaaGreatK06
import Derived.Test.YtjjkgobhlfmhhaaGreatK08
import Derived.Test.YtjjkgobhlfmhhaaGreatK14
import Derived.Test.YtjjkgobhlfmhhaaGreatProg
import Derived.KernelRfl
import Derived.WalkKit
set_option linter.unusedVariables false
set_option linter.unusedSimpArgs false
set_option maxRecDepth 100000
set_option maxHeartbeats 4000000
namespace Go.Civ
open Go.Proofs
theorem c_isNaN {G : GH} {w : World} (hG : G.In w) (a : Int) : CL Tryz.prog (nat_lit 189) #[.int .i64 a] [] w G fun _ _ r=>r = .bool false:=by
 refine calls_of_go ft [] Tryz.func189 rfl rfl ?_
 have hS:=St.start (X:=[]) hG
 refine WL.cmp .neq rfl .i64 a a rfl rfl rfl ?_
 exact RB hS rfl (by simp [Cmp.b])
theorem c_Compare {G : GH} {w : World} (hG : G.In w) (a b : Int) : CL Tryz.prog (nat_lit 157) #[.int .i64 a, .int .i64 b] [] w G fun _ _ r=>r = .int .i64 (sgn a b):=by
 refine calls_of_go ft [] Tryz.func157 rfl rfl ?_
 have hS:=St.start (X:=[]) hG
 refine WL.cV hS hb189 rfl rfl rfl (c_isNaN hS.imm a) (fun w1 G1 hS1 hle1=>?_)
 refine WL.cV hS1 hb189 rfl rfl rfl (c_isNaN hS1.imm b) (fun w2 G2 hS2 hle2=>?_)
 refine WL.lssS a b rfl rfl rfl (fun h1=>?_) (fun h1=>?_)
 ·exact RI hS2 rfl (by unfold sgn; split <;> (try split) <;> rfl)
 refine WL.gtrS a b rfl rfl rfl (fun h2=>?_) (fun h2=>?_)
 ·exact RI hS2 rfl (by unfold sgn; split <;> (try split) <;> omega)
 exact RI hS2 rfl (by unfold sgn; split <;> (try split) <;> omega)
theorem c_isNaNs {G : GH} {w : World} (hG : G.In w) (a : List UInt8) : CL Tryz.prog (nat_lit 190) #[strV a] [] w G fun _ _ r=>r = .bool false:=by
 refine calls_of_go ft [] Tryz.func190 rfl rfl ?_
 have hS:=St.start (X:=[]) hG
 refine WL.strCmp .neq rfl a a rfl rfl rfl ?_
 exact RB hS rfl (by simp [SCmp.b])
theorem c_CompareS {G : GH} {w : World} (hG : G.In w) (a b : List UInt8) : CL Tryz.prog (nat_lit 158) #[strV a,strV b] [] w G fun _ _ r=>r = .int .i64 (cmpS a b):=by
 refine calls_of_go ft [] Tryz.func158 rfl rfl ?_
 have hS:=St.start (X:=[]) hG
 refine WL.cV hS hb190 rfl rfl rfl (c_isNaNs hS.imm a) (fun w1 G1 hS1 hle1=>?_)
 refine WL.cV hS1 hb190 rfl rfl rfl (c_isNaNs hS1.imm b) (fun w2 G2 hS2 hle2=>?_)
 refine WL.strCmp .lss rfl a b rfl rfl rfl ?_
 refine WL.split (fun (h1 : (SCmp.b .lss a b) = true)=>?_) (fun (h1 : (SCmp.b .lss a b) = false)=>?_)
 ·exact RI hS2 rfl (by unfold cmpS; simp_all [SCmp.b])
 refine WL.strCmp .gtr rfl a b rfl rfl rfl ?_
 refine WL.split (fun (h2 : (SCmp.b .gtr a b) = true)=>?_) (fun (h2 : (SCmp.b .gtr a b) = false)=>?_)
 ·exact RI hS2 rfl (by unfold cmpS; simp_all [SCmp.b])
 exact RI hS2 rfl (by unfold cmpS; simp_all [SCmp.b])
theorem c_Or {G : GH} {w : World} (hG : G.In w) (l : List Int) (vl : Value) (hvl : Sl Enc.int 8 G vl l) : CL Tryz.prog (nat_lit 156) #[vl] [] w G fun _ _ r=>r = .int .i64 (cmpOr l):=by
 refine calls_of_go ft [] Tryz.func156 rfl rfl ?_
 have hS:=St.start (X:=[]) hG
 have bd1:=hvl.bound
 refine WL.lenSl hvl ul135 rfl rfl ?_
 refine LP.go ft [] (fun m ρ1 w1=>∃ (k1 : Nat),∃ (G1 : GH),m = l.length - k1 ∧ G.le G1 ∧ St w [] G G1 [] w1 ∧ FR ρ1 [(3, .int .i64 0),(6,vl),(7, .int .i64 (l.length : Int)),(8, .int .i64 (k1 : Int))] ∧ k1 ≤ l.length ∧ ∀ j,j < k1 → ∀ x,l[j]? = some x → x = 0) _ ⟨0,G,rfl,(G.le_refl),hS,⟨rfl,rfl,rfl,rfl,trivial⟩,(by omega),(by intro j hj; omega)⟩ ?_
 rintro m ρ1 w1 ⟨k1,G1,rfl,hle1,hS1,hF9,f1,f2⟩
 refine hF9.set ?_
 clear hF9
 refine WL.lssS (k1 : Int) (l.length : Int) rfl rfl rfl (fun h1=>?_) (fun h1=>?_)
 ·refine WL.indexAddr (hvl.mono hle1) k1 (by omega) ul135 ti3 rfl rfl rfl rfl (fun p1 x1 hx1 he1=>?_)
  obtain ⟨cs1,hc1,hr1⟩:=he1
  obtain ⟨rfl,hb1⟩:=hr1
  refine WL.loadG1 hS1 hc1 ti3 rfl rfl rfl ?_
  refine WL.neqS x1 0 rfl rfl rfl (fun h2=>?_) (fun h2=>?_)
  ·exact RI hS1 rfl (by exact (cmpOr_at (by assumption) (by assumption) (by assumption)).symm)
  refine WL.incr k1 (by have hreach : reach = 140737488355328:=rfl; omega) rfl rfl rfl ?_
  exact BK.mk' _ ⟨k1 + 1,G1,rfl,hle1,hS1,⟨rfl,rfl,rfl,rfl,trivial⟩,(by omega),(by exact lt_step (by assumption) (by assumption) (by assumption))⟩ (show l.length - (k1 + 1) < l.length - k1 by omega)
 exact RI hS1 rfl (by exact (cmpOr_none (by assumption) (by omega)).symm)
theorem c_order {G : GH} {w : World} (hG : G.In w) (x y : Val) (cx : List Value) (hcx : ValE.rep G x cx) (cy : List Value) (hcy : ValE.rep G y cy) : CL Tryz.prog (nat_lit 118) #[.agg cx.toArray, .agg cy.toArray] [] w G fun _ _ r=>r = .int .i64 (cmpV x y):=by
 refine calls_of_go ft [] Tryz.func118 rfl rfl ?_
 have hS:=St.start (X:=[]) hG
 obtain ⟨rfl,hb1,hb2,hb3⟩:=ValE_open hcx
 obtain ⟨rfl,hb4,hb5,hb6⟩:=ValE_open hcy
 refine WL.boxG [.int .i64 x.k, .int .i64 x.n,strV x.s] _ hS rfl rfl rfl (fun p1 w1 G1 hle1 hsp1 hc1 hS1=>?_)
 refine WL.boxG [.int .i64 y.k, .int .i64 y.n,strV y.s] _ hS1 rfl rfl rfl (fun p2 w2 G2 hle2 hsp2 hc2 hS2=>?_)
 refine dr [(15,false),(16,false),(17,false)] [(6, .int .i64 x.k),(8, .int .i64 y.k),(9, .int .i64 (sgn x.k y.k)),(11, .int .i64 x.n),(13, .int .i64 y.n),(14, .int .i64 (sgn x.n y.n)),(16,strV x.s),(18,strV y.s),(19, .int .i64 (cmpS x.s y.s))] hS2 ⟨fun _ hSw=>WL.loadG1 hSw (Cells.drop 0 (hc1.mono hle2)) ti3 rfl rfl rfl <| nu rfl rfl,fun _ hSw=>WL.loadG1 hSw (Cells.drop 0 hc2) ti3 rfl rfl rfl <| nu rfl rfl,fun _ hSw=>WL.callD hSw hb157 rfl rfl rfl (c_Compare hSw.imm x.k y.k) rfl,fun _ hSw=>WL.loadG1 hSw (Cells.drop 1 (hc1.mono hle2)) ti3 rfl rfl rfl <| nu rfl rfl,fun _ hSw=>WL.loadG1 hSw (Cells.drop 1 hc2) ti3 rfl rfl rfl <| nu rfl rfl,fun _ hSw=>WL.callD hSw hb157 rfl rfl rfl (c_Compare hSw.imm x.n y.n) rfl,fun _ hSw=>WL.loadG1 hSw (Cells.drop 2 (hc1.mono hle2)) ti9 rfl rfl rfl <| nu rfl rfl,fun _ hSw=>WL.loadG1 hSw (Cells.drop 2 hc2) ti9 rfl rfl rfl <| nu rfl rfl,fun _ hSw=>WL.callD hSw hb158 rfl rfl rfl (c_CompareS hSw.imm x.s y.s) rfl,trivial⟩ (fun w3 hS3=>?_)
 refine WL.buildSlice _ [(0,[.int .i64 (sgn x.k y.k)]),(1,[.int .i64 (sgn x.n y.n)]),(2,[.int .i64 (cmpS x.s y.s)])] [.int .i64 (sgn x.k y.k), .int .i64 (sgn x.n y.n), .int .i64 (cmpS x.s y.s)] hS3 sl135 rfl rfl rfl rfl (fun z hz=>by match z,hz with | [z0,z1,z2],_=>rfl) (fun b1 w4 hn1 hS4=>?_)
 obtain ⟨G3,hle3,hs1,hS5⟩:=St.sealSl (E:=Enc.int) (by_:=8) (l:=([(sgn x.k y.k),(sgn x.n y.n),(cmpS x.s y.s)] : List Int)) hS4 hn1 ⟨[.int .i64 (sgn x.k y.k)],_,rfl,⟨rfl,I64_sgn x.k y.k⟩,⟨[.int .i64 (sgn x.n y.n)],_,rfl,⟨rfl,I64_sgn x.n y.n⟩,⟨[.int .i64 (cmpS x.s y.s)],_,rfl,⟨rfl,I64_cmpS x.s y.s⟩,rfl⟩⟩⟩ rfl (by simp [reach]) (by simp [reach])
 refine WL.cV hS5 hb156 rfl rfl rfl (c_Or hS5.imm [(sgn x.k y.k),(sgn x.n y.n),(cmpS x.s y.s)] _ hs1) (fun w5 G4 hS6 hle4=>?_)
 exact RI hS6 rfl (by exact cmpOr3 _ _ _)
theorem c_IndexV {G : GH} {w : World} (hG : G.In w) (l : List Val) (pf : Val → Bool) (vl : Value) (hvl : Sl ValE 32 G vl l) (fid : Nat) (fcap : Array Value) (hf : FnB Tryz.prog (Is ValE) fid fcap G (fun x=>x ∈ l) pf) : CL Tryz.prog (nat_lit 126) #[vl, .func (.func fid) #[] fcap] [] w G fun _ _ r=>r = .int .i64 (idxF pf l):=by
 refine calls_of_go ft [] Tryz.func126 rfl rfl ?_
 have hS:=St.start (X:=[]) hG
 have bd1:=hvl.bound
 refine WL.lenSl hvl ul36 rfl rfl ?_
 refine LP.go ft [] (fun m ρ1 w1=>∃ (k1 : Nat),∃ (G1 : GH),m = l.length - k1 ∧ G.le G1 ∧ St w [] G G1 [] w1 ∧ FR ρ1 [(0,vl),(1, .func (.func fid) #[] fcap),(7, .int .i64 (l.length : Int)),(8, .int .i64 (k1 : Int))] ∧ k1 ≤ l.length ∧ ∀ j,j < k1 → ∀ x,l[j]? = some x → pf x = false) _ ⟨0,G,rfl,(G.le_refl),hS,⟨rfl,rfl,rfl,rfl,trivial⟩,(by omega),(by intro j hj; omega)⟩ ?_
 rintro m ρ1 w1 ⟨k1,G1,rfl,hle1,hS1,hF9,f1,f2⟩
 refine hF9.set ?_
 clear hF9
 refine WL.lssS (k1 : Int) (l.length : Int) rfl rfl rfl (fun h1=>?_) (fun h1=>?_)
 ·refine WL.indexAddr (hvl.mono hle1) k1 (by omega) ul36 ti48 rfl rfl rfl rfl (fun p1 x1 hx1 he1=>?_)
  obtain ⟨cs1,hc1,hr1⟩:=he1
  obtain ⟨rfl,hb1,hb2,hb3⟩:=ValE_open hr1
  refine WL.loadGAt hS1 hc1 [.int .i64 x1.k, .int .i64 x1.n,strV x1.s] ti48 rfl rfl rfl rfl rfl ?_
  refine WL.cV hS1 hf.body rfl rfl rfl (hf.call _ _ (.agg #[.int .i64 x1.k, .int .i64 x1.n,strV x1.s]) x1 hle1 hS1.imm (List.mem_of_getElem? hx1) ⟨_,rfl,(ValE_mk x1 hb1 hb2 hb3)⟩) (fun w2 G2 hS2 hle2=>?_)
  refine WL.split (fun (h2 : (pf x1) = true)=>?_) (fun (h2 : (pf x1) = false)=>?_)
  ·exact RI hS2 rfl (by exact (idxF_some _ (by assumption) (by assumption) (by assumption)).symm)
  refine WL.incr k1 (by have hreach : reach = 140737488355328:=rfl; omega) rfl rfl rfl ?_
  exact BK.mk' _ ⟨k1 + 1,G2,rfl,(hle1.trans hle2),hS2,⟨rfl,rfl,rfl,rfl,trivial⟩,(by omega),(by exact lt_step (by assumption) (by assumption) (by assumption))⟩ (show l.length - (k1 + 1) < l.length - k1 by omega)
 exact RI hS1 rfl (by exact (idxF_none' (by assumption) (by omega)).symm)
theorem c_ContainsV {G : GH} {w : World} (hG : G.In w) (l : List Val) (pf : Val → Bool) (vl : Value) (hvl : Sl ValE 32 G vl l) (fid : Nat) (fcap : Array Value) (hf : FnB Tryz.prog (Is ValE) fid fcap G (fun x=>x ∈ l) pf) : CL Tryz.prog (nat_lit 79) #[vl, .func (.func fid) #[] fcap] [] w G fun _ _ r=>r = .bool (l.any pf):=by
 refine calls_of_go ft [] Tryz.func79 rfl rfl ?_
 have hS:=St.start (X:=[]) hG
 refine WL.cV hS hb126 rfl rfl rfl (c_IndexV hS.imm l pf _ hvl fid fcap (hf.up (G.le_refl))) (fun w1 G1 hS1 hle1=>?_)
 refine WL.cmp .geq rfl .i64 (idxF pf l) 0 rfl rfl rfl ?_
 exact RB hS1 rfl (by exact idxF_any _ _)
end Go.Civ
set_option linter.unusedVariables false
namespace Go.Civ
open Go.Proofs Go.Shelf Go.RowKit Go.Lib Go.Sort

abbrev BSpan := { s : Span // -4398046511104 ≤ s.a ∧ s.a ≤ 4398046511104 }
instance : Inhabited BSpan := ⟨⟨⟨0, 0⟩, by decide⟩⟩
def encB (x : BSpan) : List Value := [.int .i64 x.1.a, .int .i64 x.1.b]
def cfB (x y : BSpan) : Int := x.1.a - y.1.a

set_option maxHeartbeats 1000000 in
theorem closure176 (x y : BSpan) (W : World) : Calls Tryz.prog 176 #[.agg #[.int .i64 x.1.a, .int .i64 x.1.b], .agg #[.int .i64 y.1.a, .int .i64 y.1.b]] W fun e w' => e = .returned (.int .i64 (cfB x y)) ∧ ∃ q os', w' = grow (W.drewN q) os' := by
  obtain ⟨⟨xa, xb⟩, hx⟩ := x
  obtain ⟨⟨ya, yb⟩, hy⟩ := y
  simp only [cfB]
  have hw : IntKind.wrap .i64 (xa - ya) = xa - ya := wrap_in ⟨by simp at hx hy; omega, by simp at hx hy; omega⟩
  go_enter Tryz.func176, Tryz.ntmps176
  go_wp2
  go_ret
  exact ⟨rfl, 0, _, by rw [alloc_eq_grow, alloc_eq_grow, grow_grow]; rfl⟩
theorem swoB : SWO (ltOf cfB) where
  irrefl x := decide_eq_false (show ¬ x.1.a - x.1.a < 0 by omega)
  trans x y z h1 h2 := by
    have h1' : x.1.a - y.1.a < 0 := of_decide_eq_true h1
    have h2' : y.1.a - z.1.a < 0 := of_decide_eq_true h2
    exact decide_eq_true (show x.1.a - z.1.a < 0 by omega)
  ntrans x y z h1 h2 := by
    have h1' : ¬ x.1.a - y.1.a < 0 := of_decide_eq_false h1
    have h2' : ¬ y.1.a - z.1.a < 0 := of_decide_eq_false h2
    exact decide_eq_false (show ¬ x.1.a - z.1.a < 0 by omega)

theorem flat_get {α : Type} (enc : α → List Value) (h2 : ∀ x, (enc x).length = 2) : ∀ (l : List α) (t : Nat), (l.flatMap enc)[t]? = (l[t / 2]?).bind fun x => (enc x)[t % 2]?
  | [], t => by simp
  | x :: l, t => by
    rw [List.flatMap_cons, List.getElem?_append]
    by_cases ht : t < 2
    · rw [if_pos (by rw [h2]; exact ht), show t / 2 = 0 by omega, Nat.mod_eq_of_lt ht]; rfl
    · rw [if_neg (by rw [h2]; exact ht), h2, flat_get enc h2 l (t - 2), show (t - 2) / 2 = t / 2 - 1 by omega, show (t - 2) % 2 = t % 2 by omega]
      obtain ⟨m, hm⟩ : ∃ m, t / 2 = m + 1 := ⟨t / 2 - 1, by omega⟩
      rw [hm]; simp
theorem flatK_at {α : Type} [Inhabited α] (enc : α → List Value) (h2 : ∀ x, (enc x).length = 2) (d : Array α) (t : Nat) (ht : t < d.size * 2) : (d.toList.flatMap enc)[t]? = some ((flatK enc 2 d)[t]!) := by
  rw [flat_get enc h2, get_flatK enc 2 d t ht]
  have hd : t / 2 < d.size := by omega
  have e : d.toList[t / 2]? = some d[t / 2]! := by
    rw [getElem!_pos d (t / 2) hd, Array.getElem?_toList, Array.getElem?_eq_getElem hd]
  rw [e]
  simp only [Option.bind_some]
  have hl : t % 2 < (enc d[t / 2]!).length := by rw [h2]; omega
  rw [List.getElem?_eq_getElem hl, getElem!_pos (enc d[t / 2]!) (t % 2) hl]

theorem flatSpan {G : GH} : ∀ (l : List BSpan), (∀ x ∈ l, I64 x.1.b) → Flat SpanE G (l.map (·.1)) (l.flatMap encB)
  | [], _ => rfl
  | x :: l, h => ⟨encB x, l.flatMap encB, rfl, SpanE_mk x.1 ⟨by have := x.2; omega, by have := x.2; omega⟩ (h x (by simp)), flatSpan l fun y hy => h y (by simp [hy])⟩
theorem flat_cells {G : GH} : ∀ (l : List BSpan) (xs : List Value), Flat SpanE G (l.map (·.1)) xs → xs = l.flatMap encB ∧ ∀ x ∈ l, I64 x.1.b
  | [], xs, h => ⟨h, by simp⟩
  | x :: l, xs, ⟨c, r, h1, h2, h3⟩ => by
    obtain ⟨rfl, _, hb⟩ := SpanE_open h2
    obtain ⟨rfl, h4⟩ := flat_cells l r h3
    refine ⟨h1, fun y hy => ?_⟩
    rcases List.mem_cons.1 hy with rfl | hy
    · exact hb
    · exact h4 y hy

theorem attach_list : ∀ (l : List Span), (∀ s ∈ l, -4398046511104 ≤ s.a ∧ s.a ≤ 4398046511104) → ∃ d : List BSpan, d.map (·.1) = l
  | [], _ => ⟨[], rfl⟩
  | s :: l, h => by
    obtain ⟨d, hd⟩ := attach_list l fun x hx => h x (by simp [hx])
    exact ⟨⟨s, h s (by simp)⟩ :: d, by simp [hd]⟩

set_option maxHeartbeats 1000000 in
theorem c_SortS {G : GH} {w : World} (hG : G.In w) (l : List Span) (vd : Value) (od : OB) (hvd : Row SpanE 16 (nat_lit 38) G vd l od) (hod : Lent w G od) (hB : ∀ s ∈ l, -4398046511104 ≤ s.a ∧ s.a ≤ 4398046511104) :
    Calls Tryz.prog (nat_lit 175) #[vd, .func (.func 176) #[] #[]] w fun e w' => ∃ r G', e = .returned r ∧ Res (blk od) w G w' G' ∧ r = .tuple #[] ∧ ∃ (l' : List Span) (o' : OB), Row SpanE 16 (nat_lit 38) G' vd l' o' ∧ Lent w' G' o' ∧ (l'.Perm l ∧ AscA l') := by
  rcases hvd with ⟨rfl, rfl, rfl⟩ | ⟨b, cs, cap, xs, rfl, rfl, h3, h4, h5, h6, h7, h8, h9⟩
  · exact (AnyF.slices_SortFunc_none (P := Tryz.prog) (ρ := Tryz.sortSp_ren) { Tryz.sortSp with } none 0 (.func (.func 176) #[] #[]) w).mono fun e w' ⟨he, hw⟩ => by
      subst hw
      exact ⟨_, G, he, Res.refl hG, rfl, [], none, .inl ⟨rfl, rfl, rfl⟩, fun p hp => (by cases hp), List.Perm.refl _, List.Pairwise.nil⟩
  · obtain ⟨hb1, hb2⟩ := hod _ rfl
    obtain ⟨dl, rfl⟩ := attach_list l hB
    obtain ⟨rfl, hI⟩ := flat_cells dl xs h6
    have hsz : dl.toArray.size = (dl.map (·.1)).length := by simp
    have hcell : ∀ t, t < dl.toArray.size * 2 → cs[t]? = some ((flatK encB 2 dl.toArray)[t]!) := fun t ht => by
      rw [← flatK_at encB (fun _ => rfl) dl.toArray t ht]
      rw [← h7, List.getElem?_take, if_pos (by rw [← hsz]; exact ht)]
    have hH : HoldsK encB 2 w b 0 dl.toArray := fun t ht => by
      rw [size_flatK] at ht
      refine ⟨?_, ?_⟩
      · rw [Nat.zero_add]
        simp only [World.cell?, hb1, objOf]
        have := hcell t ht
        simpa using this
      · simp [World.frozen?, hb1, objOf]
    have hcon := AnyQ.slices_SortFunc Tryz.sortSp 2 Tryz.isAgg38 Tryz.sizeOf38 encB (fun _ => rfl) (fun x v hv => by simp [encB] at hv; rcases hv with rfl | rfl <;> rfl) cfB swoB 176 #[] b 0 cap dl.toArray w
      (enters_of Tryz.func176 (by kernel_rfl) rfl) (fun _ _ _ _ x y => closure176 x y _) hH (Array.getElem?_eq_some_iff.1 hb1).1 (by rw [hsz]; unfold reach at h9; omega)
    rw [hsz] at hcon
    refine hcon.mono fun e w' ⟨he, d', n, os, hp, hs, hw⟩ => ?_
    obtain ⟨hp1, hp2, hp3⟩ := hp
    have hd' : d'.size = dl.length := by simpa using hp1
    have hperm : d'.toList.Perm dl := by
      have e1 : d'.extract 0 dl.toArray.size = d' := by rw [← hp1]; simp
      have e2 : dl.toArray.extract 0 dl.toArray.size = dl.toArray := by simp
      rw [hsz.symm, e1, e2] at hp3; simpa using hp3
    have hbl : b < w.heap.size := (Array.getElem?_eq_some_iff.1 hb1).1
    subst hw
    
    obtain ⟨cs', hcs'⟩ : ∃ cs' : List Value, cs' = (putCells id 0 (flatK encB 2 d') cs.toArray).toList := ⟨_, rfl⟩
    have hget : ∀ k, (sortWorldK encB 2 w b 0 n d' os).heap[k]? = if k < w.heap.size then (if b = k then some (.cells cs'.toArray (nat_lit 38) (0, 0)) else w.heap[k]?) else os[k - w.heap.size]? := fun k => by
      have hah : (Go.Sort.ahead w n).heap = w.heap := rfl
      simp only [sortWorldK, putRowK, putRow, mapBlock, grow, hah]
      rw [Array.getElem?_append]
      simp only [Array.size_modify]
      by_cases hk : k < w.heap.size
      · rw [if_pos hk, if_pos hk, Array.getElem?_modify]
        by_cases hkb : b = k
        · subst hkb
          rw [if_pos rfl, if_pos rfl, hb1]
          simp [objOf, onCells, hcs']
        · rw [if_neg hkb, if_neg hkb]
      · rw [if_neg hk, if_neg hk]
    have hres : Res [b] w G (sortWorldK encB 2 w b 0 n d' os) G := by
      refine ⟨⟨rfl, rfl, rfl, Nat.le_add_right _ _, ?_, fun k hk hkb => ?_⟩, G.le_refl, fun _ _ => rfl, fun k o hk => ?_⟩
      · have hah : (Go.Sort.ahead w n).heap = w.heap := rfl
        simp [sortWorldK, putRowK, putRow, mapBlock, grow]
        try simp [hah]
      · rw [hget, if_pos hk, if_neg (by simpa [eq_comm] using hkb)]
      · have hk1 := hG.lt hk
        have hkb : b ≠ k := fun e => by subst e; simp only at hb2; rw [hb2] at hk; cases hk
        rw [hget, if_pos hk1, if_neg hkb]; exact hG k o hk
    have hI' : ∀ x ∈ d'.toList, I64 x.1.b := fun x hx => hI x (hperm.mem_iff.1 hx)
    have hlen : (d'.toList.map (·.1)).length = (dl.map (·.1)).length := by simp [hd']
    have hln : (dl.map (·.1)).length = dl.length := by simp
    refine ⟨_, G, he, hres, rfl, d'.toList.map (·.1), some (b, nat_lit 38, cs'), .inr ⟨b, cs', cap, d'.toList.flatMap encB, rfl, by rw [hlen], by rw [hlen]; exact h3, h4, ?_, flatSpan _ hI', ?_, by rw [hlen]; exact h8, by rw [hlen]; exact h9⟩, fun p hp => ?_, ?_, ?_⟩
    · subst hcs'; simpa [putCells] using h5
    · 
      have h5' : cs.length = cap * 2 := h5
      apply List.ext_getElem?
      intro t
      rw [List.getElem?_take]
      have hn2 : (d'.toList.map (·.1)).length * SpanE.n = d'.size * 2 := by simp; rfl
      rw [hn2]
      by_cases ht : t < d'.size * 2
      · have htc : t < cs.length := by rw [h5']; rw [hln] at h3; omega
        rw [if_pos ht, flatK_at encB (fun _ => rfl) d' t ht, hcs']
        simp only [putCells, Array.getElem?_toList, Array.getElem?_mapIdx, size_flatK]
        simp only [List.getElem?_toArray]
        rw [List.getElem?_eq_getElem htc]
        simp [ht]
      · rw [if_neg ht, List.getElem?_eq_none]
        have := Flat.len (flatSpan (G := G) d'.toList hI')
        omega
    · obtain rfl := Option.some.inj hp
      exact ⟨by rw [hget, if_pos hbl, if_pos rfl]; rfl, hb2⟩
    · exact hperm.map _
    · unfold AscA
      rw [List.pairwise_map, List.pairwise_iff_getElem]
      intro i j hi hj hij
      have h := hs i j (by omega) hij (by rw [← hsz, ← hp1]; simpa using hj)
      have hi' : i < d'.size := by simpa using hi
      have hj' : j < d'.size := by simpa using hj
      rw [getElem!_pos d' i hi', getElem!_pos d' j hj'] at h
      have := of_decide_eq_false h
      simp only [cfB] at this
      simp only [Array.getElem_toList]
      omega
end Go.Civ
