/- Lemmas: Wa, Civ35. -/
import Derived.Test.YtjjkgobhlfmhhaaGreatQ15
import Derived.Test.YtjjkgobhlfmhhaaGreatQ19
import Derived.Test.YtjjkgobhlfmhhaaGreatProg
import Derived.KernelRfl
import Derived.WalkKit
import Derived.Maps.Own
import Derived.Laws.StructEq
set_option linter.unusedVariables false
set_option linter.unusedSimpArgs false
set_option maxRecDepth 100000
set_option maxHeartbeats 4000000
namespace Go.Civ
open Go.Proofs
theorem c_isNaN {G : GH} {w : World} (hG : G.In w) (a : Int) : CL Tryz.prog (nat_lit 189) #[.int .i64 a] [] w G fun _ _ r=>r = .bool false:=by
 refine calls_of_go ft [] Tryz.func189 rfl rfl ?_
 have hS:=St.start (X:=[]) hG
 refine WL.cmp .neq rfl .i64 a a rfl rfl rfl ?_
 exact RB hS rfl (by simp [Cmp.b])
theorem c_Compare {G : GH} {w : World} (hG : G.In w) (a b : Int) : CL Tryz.prog (nat_lit 157) #[.int .i64 a, .int .i64 b] [] w G fun _ _ r=>r = .int .i64 (sgn a b):=by
 refine calls_of_go ft [] Tryz.func157 rfl rfl ?_
 have hS:=St.start (X:=[]) hG
 refine WL.cV hS hb189 rfl rfl rfl (c_isNaN hS.imm a) (fun w1 G1 hS1 hle1=>?_)
 refine WL.cV hS1 hb189 rfl rfl rfl (c_isNaN hS1.imm b) (fun w2 G2 hS2 hle2=>?_)
 refine WL.lssS a b rfl rfl rfl (fun h1=>?_) (fun h1=>?_)
 ·exact RI hS2 rfl (by unfold sgn; split <;> (try split) <;> rfl)
 refine WL.gtrS a b rfl rfl rfl (fun h2=>?_) (fun h2=>?_)
 ·exact RI hS2 rfl (by unfold sgn; split <;> (try split) <;> omega)
 exact RI hS2 rfl (by unfold sgn; split <;> (try split) <;> omega)
theorem c_isNaNs {G : GH} {w : World} (hG : G.In w) (a : List UInt8) : CL Tryz.prog (nat_lit 190) #[strV a] [] w G fun _ _ r=>r = .bool false:=by
 refine calls_of_go ft [] Tryz.func190 rfl rfl ?_
 have hS:=St.start (X:=[]) hG
 refine WL.strCmp .neq rfl a a rfl rfl rfl ?_
 exact RB hS rfl (by simp [SCmp.b])
theorem c_CompareS {G : GH} {w : World} (hG : G.In w) (a b : List UInt8) : CL Tryz.prog (nat_lit 158) #[strV a,strV b] [] w G fun _ _ r=>r = .int .i64 (cmpS a b):=by
 refine calls_of_go ft [] Tryz.func158 rfl rfl ?_
 have hS:=St.start (X:=[]) hG
 refine WL.cV hS hb190 rfl rfl rfl (c_isNaNs hS.imm a) (fun w1 G1 hS1 hle1=>?_)
 refine WL.cV hS1 hb190 rfl rfl rfl (c_isNaNs hS1.imm b) (fun w2 G2 hS2 hle2=>?_)
 refine WL.strCmp .lss rfl a b rfl rfl rfl ?_
 refine WL.split (fun (h1 : (SCmp.b .lss a b) = true)=>?_) (fun (h1 : (SCmp.b .lss a b) = false)=>?_)
 ·exact RI hS2 rfl (by unfold cmpS; simp_all [SCmp.b])
 refine WL.strCmp .gtr rfl a b rfl rfl rfl ?_
 refine WL.split (fun (h2 : (SCmp.b .gtr a b) = true)=>?_) (fun (h2 : (SCmp.b .gtr a b) = false)=>?_)
 ·exact RI hS2 rfl (by unfold cmpS; simp_all [SCmp.b])
 exact RI hS2 rfl (by unfold cmpS; simp_all [SCmp.b])
theorem c_Or {G : GH} {w : World} (hG : G.In w) (l : List Int) (vl : Value) (hvl : Sl Enc.int 8 G vl l) : CL Tryz.prog (nat_lit 156) #[vl] [] w G fun _ _ r=>r = .int .i64 (cmpOr l):=by
 refine calls_of_go ft [] Tryz.func156 rfl rfl ?_
 have hS:=St.start (X:=[]) hG
 have bd1:=hvl.bound
 refine WL.lenSl hvl ul135 rfl rfl ?_
 refine LP.go ft [] (fun m ρ1 w1=>∃ (k1 : Nat),∃ (G1 : GH),m = l.length - k1 ∧ G.le G1 ∧ St w [] G G1 [] w1 ∧ FR ρ1 [(3, .int .i64 0),(6,vl),(7, .int .i64 (l.length : Int)),(8, .int .i64 (k1 : Int))] ∧ k1 ≤ l.length ∧ ∀ j,j < k1 → ∀ x,l[j]? = some x → x = 0) _ ⟨0,G,rfl,(G.le_refl),hS,⟨rfl,rfl,rfl,rfl,trivial⟩,(by omega),(by intro j hj; omega)⟩ ?_
 rintro m ρ1 w1 ⟨k1,G1,rfl,hle1,hS1,hF9,f1,f2⟩
 refine hF9.set ?_
 clear hF9
 refine WL.lssS (k1 : Int) (l.length : Int) rfl rfl rfl (fun h1=>?_) (fun h1=>?_)
 ·refine WL.indexAddr (hvl.mono hle1) k1 (by omega) ul135 ti3 rfl rfl rfl rfl (fun p1 x1 hx1 he1=>?_)
  obtain ⟨cs1,hc1,hr1⟩:=he1
  obtain ⟨rfl,hb1⟩:=hr1
  refine WL.loadG1 hS1 hc1 ti3 rfl rfl rfl ?_
  refine WL.neqS x1 0 rfl rfl rfl (fun h2=>?_) (fun h2=>?_)
  ·exact RI hS1 rfl (by exact (cmpOr_at (by assumption) (by assumption) (by assumption)).symm)
  refine WL.incr k1 (by have hreach : reach = 140737488355328:=rfl; omega) rfl rfl rfl ?_
  exact BK.mk' _ ⟨k1 + 1,G1,rfl,hle1,hS1,⟨rfl,rfl,rfl,rfl,trivial⟩,(by omega),(by exact lt_step (by assumption) (by assumption) (by assumption))⟩ (show l.length - (k1 + 1) < l.length - k1 by omega)
 exact RI hS1 rfl (by exact (cmpOr_none (by assumption) (by omega)).symm)
theorem c_order {G : GH} {w : World} (hG : G.In w) (x y : Val) (cx : List Value) (hcx : ValE.rep G x cx) (cy : List Value) (hcy : ValE.rep G y cy) : CL Tryz.prog (nat_lit 118) #[.agg cx.toArray, .agg cy.toArray] [] w G fun _ _ r=>r = .int .i64 (cmpV x y):=by
 refine calls_of_go ft [] Tryz.func118 rfl rfl ?_
 have hS:=St.start (X:=[]) hG
 obtain ⟨rfl,hb1,hb2,hb3⟩:=ValE_open hcx
 obtain ⟨rfl,hb4,hb5,hb6⟩:=ValE_open hcy
 refine WL.boxG [.int .i64 x.k, .int .i64 x.n,strV x.s] _ hS rfl rfl rfl (fun p1 w1 G1 hle1 hsp1 hc1 hS1=>?_)
 refine WL.boxG [.int .i64 y.k, .int .i64 y.n,strV y.s] _ hS1 rfl rfl rfl (fun p2 w2 G2 hle2 hsp2 hc2 hS2=>?_)
 refine dr [(15,false),(16,false),(17,false)] [(6, .int .i64 x.k),(8, .int .i64 y.k),(9, .int .i64 (sgn x.k y.k)),(11, .int .i64 x.n),(13, .int .i64 y.n),(14, .int .i64 (sgn x.n y.n)),(16,strV x.s),(18,strV y.s),(19, .int .i64 (cmpS x.s y.s))] hS2 ⟨fun _ hSw=>WL.loadG1 hSw (Cells.drop 0 (hc1.mono hle2)) ti3 rfl rfl rfl <| nu rfl rfl,fun _ hSw=>WL.loadG1 hSw (Cells.drop 0 hc2) ti3 rfl rfl rfl <| nu rfl rfl,fun _ hSw=>WL.callD hSw hb157 rfl rfl rfl (c_Compare hSw.imm x.k y.k) rfl,fun _ hSw=>WL.loadG1 hSw (Cells.drop 1 (hc1.mono hle2)) ti3 rfl rfl rfl <| nu rfl rfl,fun _ hSw=>WL.loadG1 hSw (Cells.drop 1 hc2) ti3 rfl rfl rfl <| nu rfl rfl,fun _ hSw=>WL.callD hSw hb157 rfl rfl rfl (c_Compare hSw.imm x.n y.n) rfl,fun _ hSw=>WL.loadG1 hSw (Cells.drop 2 (hc1.mono hle2)) ti9 rfl rfl rfl <| nu rfl rfl,fun _ hSw=>WL.loadG1 hSw (Cells.drop 2 hc2) ti9 rfl rfl rfl <| nu rfl rfl,fun _ hSw=>WL.callD hSw hb158 rfl rfl rfl (c_CompareS hSw.imm x.s y.s) rfl,trivial⟩ (fun w3 hS3=>?_)
 refine WL.buildSlice _ [(0,[.int .i64 (sgn x.k y.k)]),(1,[.int .i64 (sgn x.n y.n)]),(2,[.int .i64 (cmpS x.s y.s)])] [.int .i64 (sgn x.k y.k), .int .i64 (sgn x.n y.n), .int .i64 (cmpS x.s y.s)] hS3 sl135 rfl rfl rfl rfl (fun z hz=>by match z,hz with | [z0,z1,z2],_=>rfl) (fun b1 w4 hn1 hS4=>?_)
 obtain ⟨G3,hle3,hs1,hS5⟩:=St.sealSl (E:=Enc.int) (by_:=8) (l:=([(sgn x.k y.k),(sgn x.n y.n),(cmpS x.s y.s)] : List Int)) hS4 hn1 ⟨[.int .i64 (sgn x.k y.k)],_,rfl,⟨rfl,I64_sgn x.k y.k⟩,⟨[.int .i64 (sgn x.n y.n)],_,rfl,⟨rfl,I64_sgn x.n y.n⟩,⟨[.int .i64 (cmpS x.s y.s)],_,rfl,⟨rfl,I64_cmpS x.s y.s⟩,rfl⟩⟩⟩ rfl (by simp [reach]) (by simp [reach])
 refine WL.cV hS5 hb156 rfl rfl rfl (c_Or hS5.imm [(sgn x.k y.k),(sgn x.n y.n),(cmpS x.s y.s)] _ hs1) (fun w5 G4 hS6 hle4=>?_)
 exact RI hS6 rfl (by exact cmpOr3 _ _ _)
theorem c_IndexV {G : GH} {w : World} (hG : G.In w) (l : List Val) (pf : Val → Bool) (vl : Value) (hvl : Sl ValE 32 G vl l) (fid : Nat) (fcap : Array Value) (hf : FnB Tryz.prog (Is ValE) fid fcap G (fun x=>x ∈ l) pf) : CL Tryz.prog (nat_lit 126) #[vl, .func (.func fid) #[] fcap] [] w G fun _ _ r=>r = .int .i64 (idxF pf l):=by
 refine calls_of_go ft [] Tryz.func126 rfl rfl ?_
 have hS:=St.start (X:=[]) hG
 have bd1:=hvl.bound
 refine WL.lenSl hvl ul36 rfl rfl ?_
 refine LP.go ft [] (fun m ρ1 w1=>∃ (k1 : Nat),∃ (G1 : GH),m = l.length - k1 ∧ G.le G1 ∧ St w [] G G1 [] w1 ∧ FR ρ1 [(0,vl),(1, .func (.func fid) #[] fcap),(7, .int .i64 (l.length : Int)),(8, .int .i64 (k1 : Int))] ∧ k1 ≤ l.length ∧ ∀ j,j < k1 → ∀ x,l[j]? = some x → pf x = false) _ ⟨0,G,rfl,(G.le_refl),hS,⟨rfl,rfl,rfl,rfl,trivial⟩,(by omega),(by intro j hj; omega)⟩ ?_
 rintro m ρ1 w1 ⟨k1,G1,rfl,hle1,hS1,hF9,f1,f2⟩
 refine hF9.set ?_
 clear hF9
 refine WL.lssS (k1 : Int) (l.length : Int) rfl rfl rfl (fun h1=>?_) (fun h1=>?_)
 ·refine WL.indexAddr (hvl.mono hle1) k1 (by omega) ul36 ti48 rfl rfl rfl rfl (fun p1 x1 hx1 he1=>?_)
  obtain ⟨cs1,hc1,hr1⟩:=he1
  obtain ⟨rfl,hb1,hb2,hb3⟩:=ValE_open hr1
  refine WL.loadGAt hS1 hc1 [.int .i64 x1.k, .int .i64 x1.n,strV x1.s] ti48 rfl rfl rfl rfl rfl ?_
  refine WL.cV hS1 hf.body rfl rfl rfl (hf.call _ _ (.agg #[.int .i64 x1.k, .int .i64 x1.n,strV x1.s]) x1 hle1 hS1.imm (List.mem_of_getElem? hx1) ⟨_,rfl,(ValE_mk x1 hb1 hb2 hb3)⟩) (fun w2 G2 hS2 hle2=>?_)
  refine WL.split (fun (h2 : (pf x1) = true)=>?_) (fun (h2 : (pf x1) = false)=>?_)
  ·exact RI hS2 rfl (by exact (idxF_some _ (by assumption) (by assumption) (by assumption)).symm)
  refine WL.incr k1 (by have hreach : reach = 140737488355328:=rfl; omega) rfl rfl rfl ?_
  exact BK.mk' _ ⟨k1 + 1,G2,rfl,(hle1.trans hle2),hS2,⟨rfl,rfl,rfl,rfl,trivial⟩,(by omega),(by exact lt_step (by assumption) (by assumption) (by assumption))⟩ (show l.length - (k1 + 1) < l.length - k1 by omega)
 exact RI hS1 rfl (by exact (idxF_none' (by assumption) (by omega)).symm)
theorem c_ContainsV {G : GH} {w : World} (hG : G.In w) (l : List Val) (pf : Val → Bool) (vl : Value) (hvl : Sl ValE 32 G vl l) (fid : Nat) (fcap : Array Value) (hf : FnB Tryz.prog (Is ValE) fid fcap G (fun x=>x ∈ l) pf) : CL Tryz.prog (nat_lit 79) #[vl, .func (.func fid) #[] fcap] [] w G fun _ _ r=>r = .bool (l.any pf):=by
 refine calls_of_go ft [] Tryz.func79 rfl rfl ?_
 have hS:=St.start (X:=[]) hG
 refine WL.cV hS hb126 rfl rfl rfl (c_IndexV hS.imm l pf _ hvl fid fcap (hf.up (G.le_refl))) (fun w1 G1 hS1 hle1=>?_)
 refine WL.cmp .geq rfl .i64 (idxF pf l) 0 rfl rfl rfl ?_
 exact RB hS1 rfl (by exact idxF_any _ _)
end Go.Civ
namespace Go.Civ
open Go.RowKit Go.Maps
set_option linter.unusedVariables false

structure Apart (w0 : World) (G : GH) (L : Own) (b : Nat) : Prop where
  new : w0.heap.size ≤ b
  gh : G b = none
  own : ∀ (i : Nat) p, L[i]? = some (some p) → p.1 ≠ b
section
variable {P : Program} {N : Nat} {Q : Exit → Env → World → Prop} {ρ : Env} {w w0 : World} {ops : Array Oper} {rest : List Oper} {K KK : Env → World → Prop} {d : Nat} {ty : TypeId} {pos : String} {af : Array Edge} {g : Option (Nat × Bool)}
variable {X : List Nat} {G0 G : GH} {L : Own} {b : Nat}
theorem ownsMap_update {H : Type} {R : Value → Option (DataW H × List MemPlace)} {kt t e : TypeId} {n : Nat} {D : DataW H} (h : w.ownsMap P kt R b n D) (K : Keyed P kt) (ht : P.underlying t = some (.map kt e)) (hn : n < maxLen) {key val : Value} {kl : Lit} {dd : DataW H} {ps : List MemPlace}
    (hkey : keyOf P kt key = some kl) (hv : R val = some (dd, ps)) : ∃ w', (Instr.mapUpdate t (.map (some b)) key val).run P w = .ok () w' ∧ w'.ownsMap P kt R b (n + 1) (D.put kl dd) ∧ w.grownBy w' (some b) ∧ w.drawn ≤ w'.drawn := by
  obtain ⟨w', h1, h2, h3⟩ := World.ownsMap.update h K ht hn hkey hv
  obtain ⟨es, clock, hb, F, hs, rfl⟩ := h
  obtain ⟨es', clock', hrun, _⟩ := Maps.fit_store (R' := R) K ht hb F (Nat.lt_of_le_of_lt hs hn) (fun _ _ _ _ hz => hz) hkey hv
  refine ⟨w', h1, h2, h3, ?_⟩
  rw [hrun] at h1
  injection h1 with _ e
  subst e
  exact Nat.le_refl _
theorem St.grown (h : St w0 X G0 G L w) (ha : Apart w0 G L b) {w' : World} (hg : w.grownBy w' (some b)) (hd : w.drawn ≤ w'.drawn) : St w0 X G0 G L w' := by
  have blk : ∀ k, k < w.heap.size → k ≠ b → w'.heap[k]? = w.heap[k]? := fun k hk hne => hg.block k hk (fun e => hne (Option.some.inj e))
  refine ⟨⟨hg.os.trans h.kept.os, hg.tape.trans h.kept.tape, hg.output.trans h.kept.output, Nat.le_trans h.kept.drawn hd, Nat.le_trans h.kept.size hg.size, fun k hk hX => ?_⟩, h.le, h.new, fun k o hk => ?_, fun i p hp => ?_, h.sep, h.nd⟩
  · rw [blk k (Nat.lt_of_lt_of_le hk h.kept.size) (by have := ha.new; omega)]; exact h.kept.block k hk hX
  · have hne : k ≠ b := fun e => by subst e; rw [ha.gh] at hk; cases hk
    rw [blk k (h.imm.lt hk) hne]; exact h.imm k o hk
  · rw [blk p.1 (h.ownLt hp) (ha.own i p hp)]; exact h.own i p hp
abbrev IMap (P : Program) (K E : TypeId) (w : World) (b n : Nat) (D : DataW Unit) : Prop := w.ownsMap P K (plainElem P E) b n D
theorem WL.makeMapI {t : TypeId} (K E : TypeId) (hS : St w0 X G0 G L w) (hw : Region.wanted ⟨some d, .makeMap t none, ty, pos, af, g⟩ (yieldE ops ρ) = true)
    (k : ∀ b w', IMap P K E w' b 0 (.map []) → Apart w0 G L b → St w0 X G0 G L w' → KK (upd ρ d (.map (some b))) w') : OW P ops ⟨some d, .makeMap t none, ty, pos, af, g⟩ ρ w KK := by
  refine WL.val (v := .map (some w.heap.size)) (w' := w.alloc (.map #[] 0)) hw ?_ rfl (k _ _ (World.ownsMap_made w P K _) ⟨h1, hS.imm.fresh (Nat.le_refl _), fun i p hp e => ?_⟩ ?_)
  · simp [execOp, run_makeMap, Result.andThen]
  · have := hS.ownLt hp; omega
  · exact hS.call (Res.alloc hS.imm _)
where h1 := hS.kept.size
theorem WL.insertI {t K E : TypeId} {m x y : Operand} {n : Nat} {D : DataW Unit} (ki vi : Int) (hS : St w0 X G0 G L w) (ho : IMap P K E w b n D) (ha : Apart w0 G L b) (ht : P.underlying t = some (.map K E)) (uK : P.underlying K = some (.int .i64)) (uE : P.underlying E = some (.int .i64))
    (hk : I64 ki) (hv : I64 vi) (hn : n < 1000) (hw : Region.wanted ⟨none, .insert t m x y, ty, pos, af, g⟩ (yieldE ops ρ) = true) (hm : ev ρ m = .map (some b)) (hx : ev ρ x = .int .i64 ki) (hy : ev ρ y = .int .i64 vi)
    (k : ∀ w', IMap P K E w' b (n + 1) (D.put (.int .i64 ki) (.lit (.int .i64 vi))) → St w0 X G0 G L w' → KK ρ w') : OW P ops ⟨none, .insert t m x y, ty, pos, af, g⟩ ρ w KK := by
  have wf : ∀ {z : Int}, I64 z → (Lit.int .i64 z).wf = true := fun {z} h => by
    simp [Lit.wf, IntKind.min, IntKind.max, IntKind.signed, IntKind.bits]; exact ⟨h.1, by have := h.2; omega⟩
  have hkey : keyOf P K (.int .i64 ki) = some (.int .i64 ki) := by unfold keyOf; rw [uK]; simp [mapKey, uK, wf hk]
  obtain ⟨w', hrun, ho', hg, hdr⟩ := ownsMap_update ho (int_keyed uK) ht (by simp [maxLen]; omega) hkey (plainElem_int uE (wf hv))
  have := k w' ho' (hS.grown ha hg hdr)
  exact WL.eff (w' := w') hw (by simp [execOp, hm, hx, hy, hrun, Result.andThen]) rfl this
theorem WL.lookupI {t K E : TypeId} {m x : Operand} {n : Nat} {D : DataW Unit} (ki : Int) (ho : IMap P K E w b n D) (ht : P.underlying t = some (.map K E)) (uK : P.underlying K = some (.int .i64)) (uE : P.underlying E = some (.int .i64))
    (hk : I64 ki) (hz : (zeroValue E).run P w = .ok (.int .i64 0) w) (hw : Region.wanted ⟨some d, .lookup t m x false, ty, pos, af, g⟩ (yieldE ops ρ) = true) (hm : ev ρ m = .map (some b)) (hx : ev ρ x = .int .i64 ki)
    (k : ∀ c, D.atKey (.int .i64 ki) (.lit (.int .i64 0)) = .lit (.int .i64 c) → KK (upd ρ d (.int .i64 c)) w) : OW P ops ⟨some d, .lookup t m x false, ty, pos, af, g⟩ ρ w KK := by
  have wf : (Lit.int .i64 ki).wf = true := by
    simp [Lit.wf, IntKind.min, IntKind.max, IntKind.signed, IntKind.bits]; exact ⟨hk.1, by have := hk.2; omega⟩
  have hkey : keyOf P K (.int .i64 ki) = some (.int .i64 ki) := by unfold keyOf; rw [uK]; simp [mapKey, uK, wf]
  obtain ⟨c, hrun, hat, _⟩ := World.ownsMap.lookup_int ho (int_keyed uK) ht uE hz hkey
  refine WL.val hw ?_ rfl (k c hat)
  simp [execOp, hm, hx, hrun, Result.andThen]
end
theorem plain_no3 {c : Cond} (hk : c.kind = 1 ∨ c.kind = 2) (h : (SCmp.b .eql c.oth [] != valB c.v) = true) : plainB c = false := by
  have h1 : isCmp c = true := by unfold isCmp; rcases hk with h | h <;> rw [h] <;> rfl
  unfold plainB
  rw [h1]
  simp only [SCmp.b] at h
  by_cases g : c.oth = []
  · rw [decide_eq_true g] at h ⊢
    cases hv : valB c.v with
    | true => rw [hv] at h; cases h
    | false => simp
  · rw [decide_eq_false g] at h ⊢
    have hv : valB c.v = true := by cases hv : valB c.v with | true => rfl | false => rw [hv] at h; cases h
    have hz : c.v ≠ zeroV := fun e => by rw [e] at hv; exact absurd hv (by decide)
    rw [decide_eq_false hz]; simp
theorem node_c1 {c : Cond} (hk : c.kind = 1 ∨ c.kind = 2) (hc : c.col ≠ []) (ho : c.oth = []) (hb : (SCmp.b .eql c.oth [] != valB c.v) = false) : plainB c = decide ((c.l.length : Int) = 0) := by
  have h1 : isCmp c = true := by unfold isCmp; rcases hk with h | h <;> rw [h] <;> rfl
  simp only [SCmp.b] at hb
  rw [decide_eq_true ho] at hb
  have hv : valB c.v = true := by cases hv : valB c.v with | true => rfl | false => rw [hv] at hb; cases hb
  unfold plainB; rw [h1, decide_eq_false hc, decide_eq_true ho, hv]
  rw [Bool.eq_iff_iff]; simp
theorem node_c2 {c : Cond} (hk : c.kind = 1 ∨ c.kind = 2) (hc : c.col ≠ []) (ho : c.oth ≠ []) (hv : c.v = zeroV) : plainB c = decide ((c.l.length : Int) = 0) := by
  have h1 : isCmp c = true := by unfold isCmp; rcases hk with h | h <;> rw [h] <;> rfl
  unfold plainB; rw [h1, decide_eq_false hc, decide_eq_false ho, decide_eq_true hv]
  rw [Bool.eq_iff_iff]; simp
theorem node_op {c : Cond} {op : Int} (hk : c.kind = 3 ∨ c.kind = 4 ∨ c.kind = 5 ∨ c.kind = 6) (h1 : c.col = []) (h2 : c.oth = []) (h3 : c.v = zeroV) (h : op = (arity c.kind : Int)) : plainB c = decide ((c.l.length : Int) = op) := by
  have g1 : isCmp c = false := by unfold isCmp; rw [decide_eq_false (by omega), decide_eq_false (by omega)]; rfl
  have g2 : isOp c = true := by unfold isOp; rcases hk with h | h | h | h <;> rw [h] <;> rfl
  unfold plainB; rw [g1, g2, decide_eq_true h1, decide_eq_true h2, decide_eq_true h3, h]
  rw [Bool.eq_iff_iff]; simp; omega
def arMap : DataW Unit := (((DataW.map []).put (.int .i64 4) (.lit (.int .i64 1))).put (.int .i64 5) (.lit (.int .i64 2))).put (.int .i64 6) (.lit (.int .i64 2))
theorem mapAr3 {k c : Int} (h : k = 3) (hat : arMap.atKey (.int .i64 k) (.lit (.int .i64 0)) = .lit (.int .i64 c)) : c = (arity k : Int) := by
  subst h
  have e : arMap.atKey (.int .i64 3) (.lit (.int .i64 0)) = .lit (.int .i64 0) := by rfl
  rw [e] at hat; injection hat with h1; injection h1 with _ h2; rw [← h2]; rfl
theorem mapAr4 {k c : Int} (h : k = 4) (hat : arMap.atKey (.int .i64 k) (.lit (.int .i64 0)) = .lit (.int .i64 c)) : c = (arity k : Int) := by
  subst h
  have e : arMap.atKey (.int .i64 4) (.lit (.int .i64 0)) = .lit (.int .i64 1) := by rfl
  rw [e] at hat; injection hat with h1; injection h1 with _ h2; rw [← h2]; rfl
theorem mapAr5 {k c : Int} (h : k = 5) (hat : arMap.atKey (.int .i64 k) (.lit (.int .i64 0)) = .lit (.int .i64 c)) : c = (arity k : Int) := by
  subst h
  have e : arMap.atKey (.int .i64 5) (.lit (.int .i64 0)) = .lit (.int .i64 2) := by rfl
  rw [e] at hat; injection hat with h1; injection h1 with _ h2; rw [← h2]; rfl
theorem mapAr6 {k c : Int} (h : k = 6) (hat : arMap.atKey (.int .i64 k) (.lit (.int .i64 0)) = .lit (.int .i64 c)) : c = (arity k : Int) := by
  subst h
  have e : arMap.atKey (.int .i64 6) (.lit (.int .i64 0)) = .lit (.int .i64 2) := by rfl
  rw [e] at hat; injection hat with h1; injection h1 with _ h2; rw [← h2]; rfl
end Go.Civ
