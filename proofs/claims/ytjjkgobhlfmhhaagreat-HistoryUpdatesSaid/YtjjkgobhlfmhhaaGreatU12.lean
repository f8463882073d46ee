/- Lemmas: Wa, Civ17, Civ22, Civ35. -/
import Derived.Test.YtjjkgobhlfmhhaaGreatU07
import Derived.Test.YtjjkgobhlfmhhaaGreatU09
import Derived.Test.YtjjkgobhlfmhhaaGreatU11
import Derived.Test.YtjjkgobhlfmhhaaGreatProg
import Derived.KernelRfl
import Derived.WalkKit
import Derived.Laws.Slices
import Derived.Laws.Small
import Derived.Maps.Own
import Derived.Laws.StructEq
set_option linter.unusedVariables false
set_option linter.unusedSimpArgs false
set_option maxRecDepth 100000
set_option maxHeartbeats 4000000
namespace Go.Civ
open Go.Proofs
theorem c_isNaN {G : GH} {w : World} (hG : G.In w) (a : Int) : CL Tryz.prog (nat_lit 189) #[.int .i64 a] [] w G fun _ _ r=>r = .bool false:=by
 refine calls_of_go ft [] Tryz.func189 rfl rfl ?_
 have hS:=St.start (X:=[]) hG
 refine WL.cmp .neq rfl .i64 a a rfl rfl rfl ?_
 exact RB hS rfl (by simp [Cmp.b])
theorem c_Compare {G : GH} {w : World} (hG : G.In w) (a b : Int) : CL Tryz.prog (nat_lit 157) #[.int .i64 a, .int .i64 b] [] w G fun _ _ r=>r = .int .i64 (sgn a b):=by
 refine calls_of_go ft [] Tryz.func157 rfl rfl ?_
 have hS:=St.start (X:=[]) hG
 refine WL.cV hS hb189 rfl rfl rfl (c_isNaN hS.imm a) (fun w1 G1 hS1 hle1=>?_)
 refine WL.cV hS1 hb189 rfl rfl rfl (c_isNaN hS1.imm b) (fun w2 G2 hS2 hle2=>?_)
 refine WL.lssS a b rfl rfl rfl (fun h1=>?_) (fun h1=>?_)
 ·exact RI hS2 rfl (by unfold sgn; split <;> (try split) <;> rfl)
 refine WL.gtrS a b rfl rfl rfl (fun h2=>?_) (fun h2=>?_)
 ·exact RI hS2 rfl (by unfold sgn; split <;> (try split) <;> omega)
 exact RI hS2 rfl (by unfold sgn; split <;> (try split) <;> omega)
theorem c_isNaNs {G : GH} {w : World} (hG : G.In w) (a : List UInt8) : CL Tryz.prog (nat_lit 190) #[strV a] [] w G fun _ _ r=>r = .bool false:=by
 refine calls_of_go ft [] Tryz.func190 rfl rfl ?_
 have hS:=St.start (X:=[]) hG
 refine WL.strCmp .neq rfl a a rfl rfl rfl ?_
 exact RB hS rfl (by simp [SCmp.b])
theorem c_CompareS {G : GH} {w : World} (hG : G.In w) (a b : List UInt8) : CL Tryz.prog (nat_lit 158) #[strV a,strV b] [] w G fun _ _ r=>r = .int .i64 (cmpS a b):=by
 refine calls_of_go ft [] Tryz.func158 rfl rfl ?_
 have hS:=St.start (X:=[]) hG
 refine WL.cV hS hb190 rfl rfl rfl (c_isNaNs hS.imm a) (fun w1 G1 hS1 hle1=>?_)
 refine WL.cV hS1 hb190 rfl rfl rfl (c_isNaNs hS1.imm b) (fun w2 G2 hS2 hle2=>?_)
 refine WL.strCmp .lss rfl a b rfl rfl rfl ?_
 refine WL.split (fun (h1 : (SCmp.b .lss a b) = true)=>?_) (fun (h1 : (SCmp.b .lss a b) = false)=>?_)
 ·exact RI hS2 rfl (by unfold cmpS; simp_all [SCmp.b])
 refine WL.strCmp .gtr rfl a b rfl rfl rfl ?_
 refine WL.split (fun (h2 : (SCmp.b .gtr a b) = true)=>?_) (fun (h2 : (SCmp.b .gtr a b) = false)=>?_)
 ·exact RI hS2 rfl (by unfold cmpS; simp_all [SCmp.b])
 exact RI hS2 rfl (by unfold cmpS; simp_all [SCmp.b])
theorem c_Or {G : GH} {w : World} (hG : G.In w) (l : List Int) (vl : Value) (hvl : Sl Enc.int 8 G vl l) : CL Tryz.prog (nat_lit 156) #[vl] [] w G fun _ _ r=>r = .int .i64 (cmpOr l):=by
 refine calls_of_go ft [] Tryz.func156 rfl rfl ?_
 have hS:=St.start (X:=[]) hG
 have bd1:=hvl.bound
 refine WL.lenSl hvl ul135 rfl rfl ?_
 refine LP.go ft [] (fun m ρ1 w1=>∃ (k1 : Nat),∃ (G1 : GH),m = l.length - k1 ∧ G.le G1 ∧ St w [] G G1 [] w1 ∧ FR ρ1 [(3, .int .i64 0),(6,vl),(7, .int .i64 (l.length : Int)),(8, .int .i64 (k1 : Int))] ∧ k1 ≤ l.length ∧ ∀ j,j < k1 → ∀ x,l[j]? = some x → x = 0) _ ⟨0,G,rfl,(G.le_refl),hS,⟨rfl,rfl,rfl,rfl,trivial⟩,(by omega),(by intro j hj; omega)⟩ ?_
 rintro m ρ1 w1 ⟨k1,G1,rfl,hle1,hS1,hF9,f1,f2⟩
 refine hF9.set ?_
 clear hF9
 refine WL.lssS (k1 : Int) (l.length : Int) rfl rfl rfl (fun h1=>?_) (fun h1=>?_)
 ·refine WL.indexAddr (hvl.mono hle1) k1 (by omega) ul135 ti3 rfl rfl rfl rfl (fun p1 x1 hx1 he1=>?_)
  obtain ⟨cs1,hc1,hr1⟩:=he1
  obtain ⟨rfl,hb1⟩:=hr1
  refine WL.loadG1 hS1 hc1 ti3 rfl rfl rfl ?_
  refine WL.neqS x1 0 rfl rfl rfl (fun h2=>?_) (fun h2=>?_)
  ·exact RI hS1 rfl (by exact (cmpOr_at (by assumption) (by assumption) (by assumption)).symm)
  refine WL.incr k1 (by have hreach : reach = 140737488355328:=rfl; omega) rfl rfl rfl ?_
  exact BK.mk' _ ⟨k1 + 1,G1,rfl,hle1,hS1,⟨rfl,rfl,rfl,rfl,trivial⟩,(by omega),(by exact lt_step (by assumption) (by assumption) (by assumption))⟩ (show l.length - (k1 + 1) < l.length - k1 by omega)
 exact RI hS1 rfl (by exact (cmpOr_none (by assumption) (by omega)).symm)
theorem c_order {G : GH} {w : World} (hG : G.In w) (x y : Val) (cx : List Value) (hcx : ValE.rep G x cx) (cy : List Value) (hcy : ValE.rep G y cy) : CL Tryz.prog (nat_lit 118) #[.agg cx.toArray, .agg cy.toArray] [] w G fun _ _ r=>r = .int .i64 (cmpV x y):=by
 refine calls_of_go ft [] Tryz.func118 rfl rfl ?_
 have hS:=St.start (X:=[]) hG
 obtain ⟨rfl,hb1,hb2,hb3⟩:=ValE_open hcx
 obtain ⟨rfl,hb4,hb5,hb6⟩:=ValE_open hcy
 refine WL.boxG [.int .i64 x.k, .int .i64 x.n,strV x.s] _ hS rfl rfl rfl (fun p1 w1 G1 hle1 hsp1 hc1 hS1=>?_)
 refine WL.boxG [.int .i64 y.k, .int .i64 y.n,strV y.s] _ hS1 rfl rfl rfl (fun p2 w2 G2 hle2 hsp2 hc2 hS2=>?_)
 refine dr [(15,false),(16,false),(17,false)] [(6, .int .i64 x.k),(8, .int .i64 y.k),(9, .int .i64 (sgn x.k y.k)),(11, .int .i64 x.n),(13, .int .i64 y.n),(14, .int .i64 (sgn x.n y.n)),(16,strV x.s),(18,strV y.s),(19, .int .i64 (cmpS x.s y.s))] hS2 ⟨fun _ hSw=>WL.loadG1 hSw (Cells.drop 0 (hc1.mono hle2)) ti3 rfl rfl rfl <| nu rfl rfl,fun _ hSw=>WL.loadG1 hSw (Cells.drop 0 hc2) ti3 rfl rfl rfl <| nu rfl rfl,fun _ hSw=>WL.callD hSw hb157 rfl rfl rfl (c_Compare hSw.imm x.k y.k) rfl,fun _ hSw=>WL.loadG1 hSw (Cells.drop 1 (hc1.mono hle2)) ti3 rfl rfl rfl <| nu rfl rfl,fun _ hSw=>WL.loadG1 hSw (Cells.drop 1 hc2) ti3 rfl rfl rfl <| nu rfl rfl,fun _ hSw=>WL.callD hSw hb157 rfl rfl rfl (c_Compare hSw.imm x.n y.n) rfl,fun _ hSw=>WL.loadG1 hSw (Cells.drop 2 (hc1.mono hle2)) ti9 rfl rfl rfl <| nu rfl rfl,fun _ hSw=>WL.loadG1 hSw (Cells.drop 2 hc2) ti9 rfl rfl rfl <| nu rfl rfl,fun _ hSw=>WL.callD hSw hb158 rfl rfl rfl (c_CompareS hSw.imm x.s y.s) rfl,trivial⟩ (fun w3 hS3=>?_)
 refine WL.buildSlice _ [(0,[.int .i64 (sgn x.k y.k)]),(1,[.int .i64 (sgn x.n y.n)]),(2,[.int .i64 (cmpS x.s y.s)])] [.int .i64 (sgn x.k y.k), .int .i64 (sgn x.n y.n), .int .i64 (cmpS x.s y.s)] hS3 sl135 rfl rfl rfl rfl (fun z hz=>by match z,hz with | [z0,z1,z2],_=>rfl) (fun b1 w4 hn1 hS4=>?_)
 obtain ⟨G3,hle3,hs1,hS5⟩:=St.sealSl (E:=Enc.int) (by_:=8) (l:=([(sgn x.k y.k),(sgn x.n y.n),(cmpS x.s y.s)] : List Int)) hS4 hn1 ⟨[.int .i64 (sgn x.k y.k)],_,rfl,⟨rfl,I64_sgn x.k y.k⟩,⟨[.int .i64 (sgn x.n y.n)],_,rfl,⟨rfl,I64_sgn x.n y.n⟩,⟨[.int .i64 (cmpS x.s y.s)],_,rfl,⟨rfl,I64_cmpS x.s y.s⟩,rfl⟩⟩⟩ rfl (by simp [reach]) (by simp [reach])
 refine WL.cV hS5 hb156 rfl rfl rfl (c_Or hS5.imm [(sgn x.k y.k),(sgn x.n y.n),(cmpS x.s y.s)] _ hs1) (fun w5 G4 hS6 hle4=>?_)
 exact RI hS6 rfl (by exact cmpOr3 _ _ _)
theorem c_IndexV {G : GH} {w : World} (hG : G.In w) (l : List Val) (pf : Val → Bool) (vl : Value) (hvl : Sl ValE 32 G vl l) (fid : Nat) (fcap : Array Value) (hf : FnB Tryz.prog (Is ValE) fid fcap G (fun x=>x ∈ l) pf) : CL Tryz.prog (nat_lit 126) #[vl, .func (.func fid) #[] fcap] [] w G fun _ _ r=>r = .int .i64 (idxF pf l):=by
 refine calls_of_go ft [] Tryz.func126 rfl rfl ?_
 have hS:=St.start (X:=[]) hG
 have bd1:=hvl.bound
 refine WL.lenSl hvl ul36 rfl rfl ?_
 refine LP.go ft [] (fun m ρ1 w1=>∃ (k1 : Nat),∃ (G1 : GH),m = l.length - k1 ∧ G.le G1 ∧ St w [] G G1 [] w1 ∧ FR ρ1 [(0,vl),(1, .func (.func fid) #[] fcap),(7, .int .i64 (l.length : Int)),(8, .int .i64 (k1 : Int))] ∧ k1 ≤ l.length ∧ ∀ j,j < k1 → ∀ x,l[j]? = some x → pf x = false) _ ⟨0,G,rfl,(G.le_refl),hS,⟨rfl,rfl,rfl,rfl,trivial⟩,(by omega),(by intro j hj; omega)⟩ ?_
 rintro m ρ1 w1 ⟨k1,G1,rfl,hle1,hS1,hF9,f1,f2⟩
 refine hF9.set ?_
 clear hF9
 refine WL.lssS (k1 : Int) (l.length : Int) rfl rfl rfl (fun h1=>?_) (fun h1=>?_)
 ·refine WL.indexAddr (hvl.mono hle1) k1 (by omega) ul36 ti48 rfl rfl rfl rfl (fun p1 x1 hx1 he1=>?_)
  obtain ⟨cs1,hc1,hr1⟩:=he1
  obtain ⟨rfl,hb1,hb2,hb3⟩:=ValE_open hr1
  refine WL.loadGAt hS1 hc1 [.int .i64 x1.k, .int .i64 x1.n,strV x1.s] ti48 rfl rfl rfl rfl rfl ?_
  refine WL.cV hS1 hf.body rfl rfl rfl (hf.call _ _ (.agg #[.int .i64 x1.k, .int .i64 x1.n,strV x1.s]) x1 hle1 hS1.imm (List.mem_of_getElem? hx1) ⟨_,rfl,(ValE_mk x1 hb1 hb2 hb3)⟩) (fun w2 G2 hS2 hle2=>?_)
  refine WL.split (fun (h2 : (pf x1) = true)=>?_) (fun (h2 : (pf x1) = false)=>?_)
  ·exact RI hS2 rfl (by exact (idxF_some _ (by assumption) (by assumption) (by assumption)).symm)
  refine WL.incr k1 (by have hreach : reach = 140737488355328:=rfl; omega) rfl rfl rfl ?_
  exact BK.mk' _ ⟨k1 + 1,G2,rfl,(hle1.trans hle2),hS2,⟨rfl,rfl,rfl,rfl,trivial⟩,(by omega),(by exact lt_step (by assumption) (by assumption) (by assumption))⟩ (show l.length - (k1 + 1) < l.length - k1 by omega)
 exact RI hS1 rfl (by exact (idxF_none' (by assumption) (by omega)).symm)
theorem c_ContainsV {G : GH} {w : World} (hG : G.In w) (l : List Val) (pf : Val → Bool) (vl : Value) (hvl : Sl ValE 32 G vl l) (fid : Nat) (fcap : Array Value) (hf : FnB Tryz.prog (Is ValE) fid fcap G (fun x=>x ∈ l) pf) : CL Tryz.prog (nat_lit 79) #[vl, .func (.func fid) #[] fcap] [] w G fun _ _ r=>r = .bool (l.any pf):=by
 refine calls_of_go ft [] Tryz.func79 rfl rfl ?_
 have hS:=St.start (X:=[]) hG
 refine WL.cV hS hb126 rfl rfl rfl (c_IndexV hS.imm l pf _ hvl fid fcap (hf.up (G.le_refl))) (fun w1 G1 hS1 hle1=>?_)
 refine WL.cmp .geq rfl .i64 (idxF pf l) 0 rfl rfl rfl ?_
 exact RB hS1 rfl (by exact idxF_any _ _)
end Go.Civ
namespace Go.Civ
open Go.RowKit
set_option linter.unusedVariables false

def resR (P : Program) : List ResultVar → Env → World → List Value → Prop
  | [], _, _, vs => vs = []
  | .tmp t :: r, ρ, w, vs => ∃ vs', vs = ρ t :: vs' ∧ resR P r ρ w vs'
  | .cell a t :: r, ρ, w, vs => ∃ v vs' p, vs = v :: vs' ∧ ρ a = .pointer (some p) ∧ (loadVar t p).run P w = .ok v w ∧ resR P r ρ w vs'
def tup : List Value → Value
  | [v] => v
  | vs => .tuple vs.toArray
def retR (P : Program) (rs : List ResultVar) (R : Ending → World → Prop) : Exit → Env → World → Prop
  | .normal, ρ, w | .ret, ρ, w => ∃ vs, resR P rs ρ w vs ∧ R (.returned (tup vs)) w
  | _, _, _ => False
section
variable {P : Program} {N : Nat} {Q : Exit → Env → World → Prop} {ρ : Env} {w : World}
theorem resR_run (rs : List ResultVar) (tmps : Array Value) {vs : List Value} (h : ∀ t, tmps.getD t undef = ρ t) (hv : resR P rs ρ w vs) :
    (rs.mapM (rv tmps)).run P w = .ok vs w := by
  induction rs generalizing vs with
  | nil => simp only [resR] at hv; subst hv; simp
  | cons r rs ih =>
    cases r with
    | tmp t =>
      obtain ⟨vs', rfl, h1⟩ := hv
      have := ih h1
      simp only [List.mapM_cons]
      simp only [Sem.run_bind, this, Result.andThen, Sem.run_pure, rv, h]
    | cell a t =>
      obtain ⟨v, vs', p, rfl, h1, h2, h3⟩ := hv
      have := ih h3
      simp only [List.mapM_cons]
      simp only [Sem.run_bind, this, Result.andThen, Sem.run_pure, rv, h, h1, asAddr, h2]
theorem resultsR_run {fn : Func} {a : Act} {vs : List Value} (ha : Fits N a ρ) (hv : resR P fn.results.toList ρ w vs) : (results fn a.tmps).run P w = .ok (tup vs) w := by
  have h := resR_run fn.results.toList a.tmps ha.get hv
  rw [results_rv, Array.mapM_eq_mapM_toList, Sem.run_bind, Sem.run_map, h]
  match vs with
  | [] => simp [Result.andThen, tup]
  | [x] => simp [Result.andThen, tup]
  | x :: y :: z => simp [Result.andThen, tup]
theorem calls_of_WCR {f : FuncId} {fn : Func} {c : Code} {args : Array Value} {R : Ending → World → Prop}
    (hf : P.funcs[f]? = some fn) (hb : fn.body = some c) (hN : fn.ntmps = N) (hle : Nat.ble args.size N = true)
    (h : WC P N c (retR P fn.results.toList R) (fun t => args.getD t undef) w) : Calls P f args w R := by
  refine calls_of_wp hf hb ?_
  have hle' : args.size ≤ N := by simpa using hle
  have ha : Fits N { tmps := args ++ Array.replicate (fn.ntmps - args.size) undef, defers := [] } (fun t => args.getD t undef) := by
    refine ⟨by simp [hN]; omega, fun t => ?_, rfl⟩
    simp only [Array.getD_eq_getD_getElem?, Array.getElem?_append, Array.getElem?_replicate, hN]
    split
    · rfl
    · rename_i hlt
      rw [Array.getElem?_eq_none (xs := args) (by omega)]
      split <;> rfl
  refine wp_mono (h _ ha) ?_
  rintro e a' w' ⟨ρ', hf', hq⟩
  cases e with
  | normal => obtain ⟨v, hv, hR⟩ := hq; exact ⟨hf'.defers, _, resultsR_run hf' hv, hR⟩
  | ret => obtain ⟨v, hv, hR⟩ := hq; exact ⟨hf'.defers, _, resultsR_run hf' hv, hR⟩
  | exit id => exact hq.elim
  | goto l => exact hq.elim
  | panic ch => exact hq.elim
  | outgrown => exact hq.elim
structure RQR (P : Program) (rs : List ResultVar) (R : Ending → World → Prop) (ρ : Env) (w : World) : Prop where
  h : ∃ vs, resR P rs ρ w vs ∧ R (.returned (tup vs)) w
def retGR (P : Program) (rs : List ResultVar) (R : Ending → World → Prop) : Exit → Env → World → Prop
  | .normal, ρ, w => RQR P rs R ρ w
  | .ret, ρ, w => RQR P rs R ρ w
  | _, _, _ => False
theorem calls_of_goR {f : FuncId} {fn : Func} {c : Code} {args : Array Value} {R : Ending → World → Prop} (F : FTab P) (J : List Nat)
    (hf : P.funcs[f]? = some fn) (hb : fn.body = some c) (hle : Nat.ble args.size fn.ntmps = true)
    (h : goC F fn.ntmps J c (retGR P fn.results.toList R) (fun t => args.getD t undef) w) (hok : okD fn.ntmps c = true := by kernel_rfl) : Calls P f args w R := by
  refine calls_of_WCR (N := fn.ntmps) hf hb rfl hle ((goC.ok hok h).mono fun e ρ w hq => ?_)
  cases e with
  | normal => exact hq.h
  | ret => exact hq.h
  | _ => exact hq.elim
theorem RTR {rs : List ResultVar} {w0 : World} {X : List Nat} {G0 G : GH} {L : Own} {B : GH → World → Value → Prop} (vs : List Value) (hS : St w0 X G0 G L w) (hv : resR P rs ρ w vs) (hB : B G w (tup vs)) :
    RQR P rs (fun e w' => ∃ r G', e = .returned r ∧ Res X w0 G0 w' G' ∧ B G' w' r) ρ w := ⟨vs, hv, _, G, rfl, hS.res, hB⟩
end
section
variable {P : Program} {w0 w w' : World} {X : List Nat} {G0 G G' : GH} {L : Own} {o : OB}
theorem St.loadA {t : TypeId} {ti : TI} (hS : St w0 X G0 G L w) (i : Nat) (b : Nat) (e : TypeId) (cs : List Value) (off : Nat) (vs : List Value) (hi : L[i]? = some (some (b, e, cs))) (hv : (cs.drop off).take ti.size = vs) (hn : vs.length = ti.size)
    (ht : tinfo P t = some ti) (ha : ti.agg = true) : (loadVar t ⟨b, off, none⟩).run P w = .ok (.agg vs.toArray) w := by
  have hc : ∀ (j : Nat) v, vs[j]? = some v → w.cell? ((⟨b, off, none⟩ : Addr).add j) = some v := fun j v h => by
    rw [addr_add _ _ rfl]
    refine hS.cell i hi ?_
    subst hv
    rw [List.getElem?_take] at h
    split at h
    · rwa [List.getElem?_drop] at h
    · cases h
  simp [loadVar, run_isAgg' ht, ha, run_sizeOf' ht, run_loadCells' hn hc, Result.andThen]
theorem St.loadC {t : TypeId} {ti : TI} {p : Addr} {cs : List Value} (hS : St w0 X G0 G L w) (hc : Cells G p cs) (ht : tinfo P t = some ti) (ha : ti.agg = true) (hn : cs.length = ti.size) : (loadVar t p).run P w = .ok (.agg cs.toArray) w := by
  simp [loadVar, run_isAgg' ht, ha, run_sizeOf' ht, run_loadCells' hn (fun _ _ h => hc.cell hS.imm h), Result.andThen]
theorem St.sealAt {b : Nat} {e : TypeId} {cs : List Value} (h : St w0 X G0 G L w) (i : Nat) (hi : L[i]? = some (some (b, e, cs))) (hb : w0.heap.size ≤ b) : ∃ G', G.le G' ∧ Cells G' ⟨b, 0, none⟩ cs ∧ St w0 X G0 G' (L.set i none) w := by
  have f := h.freeze i (b := b) (e := e) (cs := cs) hi hb
  have hG : G b = none := (h.sep i _ hi).2
  exact ⟨_, G.add_le _ hG, ⟨rfl, _, _, _, GH.add_at _ _ _, fun j v hv => by simpa using hv⟩, f⟩
theorem St.sealSlAt {α : Type} {E : Enc α} {by_ : Nat} {l : List α} {b : Nat} {e : TypeId} {cs : List Value} (h : St w0 X G0 G L w) (i : Nat) (hi : L[i]? = some (some (b, e, cs))) (hb : w0.heap.size ≤ b) (hf : Flat E G l cs) {n : Nat} (hn : n = l.length) (hby : n * by_ ≤ reach) (hlen : n ≤ reach) :
    ∃ G', G.le G' ∧ Sl E by_ G' (.slice (some ⟨b, 0, none⟩) n n) l ∧ St w0 X G0 G' (L.set i none) w := by
  obtain ⟨G', h1, h2, h3⟩ := h.sealAt i hi hb
  subst hn
  refine ⟨G', h1, ⟨some ⟨b, 0, none⟩, l.length, rfl, Nat.le_refl _, hby, hlen, fun i x hx => ⟨_, rfl, rfl, ?_⟩⟩, h3⟩
  exact (hf.mono h1).rows h2 i x hx
theorem St.callRowR (h : St w0 X G0 G L w) (i : Nat) (hi : L[i]? = some o) {o' : OB} (r : Res (blk o) w G w' G') {α : Type} {E : Enc α} {by_ : Nat} {e : TypeId} {v v' : Value} {l l' : List α}
    (h1 : Row E by_ e G v l o) (h2 : Row E by_ e G' v' l' o') (hl : Lent w' G' o') (hb : blk o' = blk o) : St w0 X G0 G' (L.set i o') w' := by
  cases o with
  | none =>
    cases o' with
    | none => exact (h.call r).drop i
    | some p => simp [blk] at hb
  | some p =>
    cases o' with
    | none => simp [blk] at hb
    | some q =>
      obtain ⟨b, e1, cs⟩ := p
      obtain ⟨b', e2, cs'⟩ := q
      simp [blk] at hb
      subst hb
      have e1e : e1 = e := by rcases h1 with ⟨h0, _⟩ | ⟨_, _, _, _, h0, _⟩ <;> simp at h0; exact h0.2.1
      have e2e : e2 = e := by rcases h2 with ⟨h0, _⟩ | ⟨_, _, _, _, h0, _⟩ <;> simp at h0; exact h0.2.1
      subst e1e; subst e2e
      exact h.callX i hi cs' r (hl _ rfl).1
end
section
variable {P : Program} {Q : Exit → Env → World → Prop} {ρ : Env} {w : World} {ops : Array Oper} {rest : List Oper} {K : Env → World → Prop}
variable {d : Nat} {ty : TypeId} {pos : String} {af : Array Edge} {g : Option (Nat × Bool)}
end
end Go.Civ
namespace Go.Civ
open Go.RowKit
set_option linter.unusedVariables false

theorem Sl.takeV {α : Type} {E : Enc α} {by_ : Nat} {G : GH} {a : Option Addr} {n len cap : Nat} {l : List α} (h : Sl E by_ G (.slice a len cap) l) (hn : n ≤ l.length) : Sl E by_ G (sliced a 0 n cap E.n) (l.take n) := by
  obtain ⟨a', cap', e, h2, h3, h4, h5⟩ := h
  simp only [Value.slice.injEq] at e
  obtain ⟨rfl, rfl, rfl⟩ := e
  have hl : (l.take n).length = n := by rw [List.length_take]; omega
  have ev : sliced a 0 n cap E.n = .slice a n cap := by
    unfold sliced
    cases a <;> simp [Addr.add]
  rw [ev]
  refine ⟨a, cap, by rw [hl], by omega, ?_, by omega, fun i x hx => ?_⟩
  · rw [hl]; exact Nat.le_trans (Nat.mul_le_mul_right _ hn) h3
  · rw [List.getElem?_take] at hx
    split at hx
    · exact h5 i x hx
    · cases hx
theorem Sl.dropV {α : Type} {E : Enc α} {by_ : Nat} {G : GH} {a : Option Addr} {n len cap : Nat} {l : List α} (h : Sl E by_ G (.slice a len cap) l) (hn : n ≤ l.length) : Sl E by_ G (sliced a n len cap E.n) (l.drop n) := by
  obtain ⟨a', cap', e, h2, h3, h4, h5⟩ := h
  simp only [Value.slice.injEq] at e
  obtain ⟨rfl, rfl, rfl⟩ := e
  have hl : (l.drop n).length = l.length - n := by rw [List.length_drop]
  unfold sliced
  by_cases hc : cap = n
  · rw [if_pos hc]
    refine ⟨a, cap - n, by rw [hl], by omega, ?_, by omega, fun i x hx => ?_⟩
    · rw [hl]; exact Nat.le_trans (Nat.mul_le_mul_right _ (by omega)) h3
    · have := (List.getElem?_eq_some_iff.1 hx).1
      rw [hl] at this; omega
  · rw [if_neg hc]
    refine ⟨a.map fun p => p.add (n * E.n), cap - n, by rw [hl], by omega, ?_, by omega, fun i x hx => ?_⟩
    · rw [hl]; exact Nat.le_trans (Nat.mul_le_mul_right _ (by omega)) h3
    · rw [List.getElem?_drop] at hx
      obtain ⟨p, rfl, hp, hel⟩ := h5 (n + i) x hx
      refine ⟨p.add (n * E.n), rfl, by rw [addr_add _ _ hp], ?_⟩
      have e1 : (p.add (n * E.n)).add (i * E.n) = p.add ((n + i) * E.n) := by
        rw [addr_add _ _ (by rw [addr_add _ _ hp]), addr_add _ _ hp, addr_add _ _ hp, Nat.add_mul, Nat.add_assoc]
      rw [e1]; exact hel

section
variable {P : Program} {Q : Exit → Env → World → Prop} {ρ : Env} {w : World} {ops : Array Oper} {rest : List Oper} {K : Env → World → Prop}
variable {d : Nat} {ty : TypeId} {pos : String} {af : Array Edge} {g : Option (Nat × Bool)} {G : GH}
theorem elem_of {t e : TypeId} (hu : P.underlying t = some (.slice e)) : P.elem t = e := by simp [Program.elem, hu]
theorem WL.sliceHi {α : Type} {E : Enc α} {by_ : Nat} {t e : TypeId} {x hi : Operand} {v : Value} {l : List α} {ti : TI} (hs : Sl E by_ G v l) (n : Nat) (hn : n ≤ l.length) (hu : P.underlying t = some (.slice e)) (ht : tinfo P e = some ti) (hE : ti.size = E.n)
    (hw : Region.wanted ⟨some d, .slice t x none (some hi) none, ty, pos, af, g⟩ (yieldE ops ρ) = true) (hx : ev ρ x = v) (hh : ev ρ hi = .int .i64 (n : Int))
    (k : ∀ v', Sl E by_ G v' (l.take n) → K (upd ρ d v') w) : OW P ops ⟨some d, .slice t x none (some hi) none, ty, pos, af, g⟩ ρ w K := by
  obtain ⟨a, cap, rfl, h2, _⟩ := id hs
  have he := elem_of hu
  have hu' : P.underlying t = some (.slice (P.elem t)) := by rw [he]; exact hu
  have run : (Instr.sliceAt t (.slice a l.length cap) none (some (.int .i64 (n : Int))) none).run P w = .ok (sliced a 0 n cap E.n) w := by
    rw [run_sliceAt_slice w t _ _ _ _ hu', run_slice_h w t a l.length cap hu' .i64 (n : Int) (by omega) (by omega), he, run_sizeOf' ht, hE]; rfl
  refine WL.val hw ?_ rfl (k _ (hs.takeV hn))
  simp [execOp, hx, hh, run, Result.andThen]
theorem WL.sliceLo {α : Type} {E : Enc α} {by_ : Nat} {t e : TypeId} {x lo : Operand} {v : Value} {l : List α} {ti : TI} (hs : Sl E by_ G v l) (n : Nat) (hn : n ≤ l.length) (hu : P.underlying t = some (.slice e)) (ht : tinfo P e = some ti) (hE : ti.size = E.n)
    (hw : Region.wanted ⟨some d, .slice t x (some lo) none none, ty, pos, af, g⟩ (yieldE ops ρ) = true) (hx : ev ρ x = v) (hh : ev ρ lo = .int .i64 (n : Int))
    (k : ∀ v', Sl E by_ G v' (l.drop n) → K (upd ρ d v') w) : OW P ops ⟨some d, .slice t x (some lo) none none, ty, pos, af, g⟩ ρ w K := by
  obtain ⟨a, cap, rfl, h2, _⟩ := id hs
  have he := elem_of hu
  have hu' : P.underlying t = some (.slice (P.elem t)) := by rw [he]; exact hu
  have run : (Instr.sliceAt t (.slice a l.length cap) (some (.int .i64 (n : Int))) none none).run P w = .ok (sliced a n l.length cap E.n) w := by
    rw [run_sliceAt_slice w t _ _ _ _ hu', run_slice_l w t a l.length cap hu' .i64 (n : Int) (by omega) (by omega), he, run_sizeOf' ht, hE]; rfl
  refine WL.val hw ?_ rfl (k _ (hs.dropV hn))
  simp [execOp, hx, hh, run, Result.andThen]
theorem run_guard_bool (op : BinOp) (t : TypeId) (x y : Operand) (a b : Bool) : (eqGuard op t x y (.bool a) (.bool b)).run P w = .ok () w := by
  unfold eqGuard; split <;> simp
theorem WL.boolEq {t ty' : TypeId} {x y : Operand} (a b : Bool) (hu : P.underlying t = some .bool)
    (hw : Region.wanted ⟨some d, .binOp .eql t x y ty', ty, pos, af, g⟩ (yieldE ops ρ) = true) (hx : ev ρ x = .bool a) (hy : ev ρ y = .bool b)
    (kk : K (upd ρ d (.bool (a == b))) w) : OW P ops ⟨some d, .binOp .eql t x y ty', ty, pos, af, g⟩ ρ w K := by
  refine WL.val hw ?_ rfl kk
  simp [execOp, hx, hy, run_guard_bool, run_eql_bool w t a b hu, Result.andThen]
theorem WL.boolNe {t ty' : TypeId} {x y : Operand} (a b : Bool) (hu : P.underlying t = some .bool)
    (hw : Region.wanted ⟨some d, .binOp .neq t x y ty', ty, pos, af, g⟩ (yieldE ops ρ) = true) (hx : ev ρ x = .bool a) (hy : ev ρ y = .bool b)
    (kk : K (upd ρ d (.bool (!(a == b)))) w) : OW P ops ⟨some d, .binOp .neq t x y ty', ty, pos, af, g⟩ ρ w K := by
  refine WL.val hw ?_ rfl kk
  simp [execOp, hx, hy, run_guard_bool, run_neq_bool w t a b hu, Result.andThen]
end
section
variable {w0 w w' : World} {X : List Nat} {G0 G G' : GH} {L : Own} {o o' : OB}
def RowOut (w w' : World) (G' : GH) (o o' : OB) : Prop := ∀ p, o' = some p → (w.heap.size ≤ p.1 ∨ p.1 ∈ blk o) ∧ w'.heap[p.1]? = some (objOf p.2) ∧ G' p.1 = none
theorem St.rowOut (h : St w0 (blk o) G0 G L w) (i : Nat) (hi : L[i]? = some o') : RowOut w0 w G o o' := fun p hp => by
  subst hp; exact ⟨(h.sep i p hi).1, h.own i p hi, (h.sep i p hi).2⟩
theorem St.callRowO (h : St w0 X G0 G L w) (i : Nat) (hi : L[i]? = some o) (r : Res (blk o) w G w' G') (ho : RowOut w w' G' o o') : St w0 X G0 G' (L.set i o') w' := by
  have hil : i < L.length := (List.getElem?_eq_some_iff.1 hi).1
  have inb : ∀ b, b ∈ blk o → ∃ p, o = some p ∧ p.1 = b := fun b hb => by
    cases o with
    | none => simp [blk] at hb
    | some p => simp [blk] at hb; exact ⟨p, rfl, hb.symm⟩
  have look : ∀ (j : Nat) p, (L.set i o')[j]? = some (some p) → (j = i ∧ o' = some p) ∨ (j ≠ i ∧ L[j]? = some (some p) ∧ p.1 ∉ blk o) := fun j p hj => by
    rw [List.getElem?_set] at hj
    split at hj
    · rename_i hji; subst hji; first | exact .inl ⟨rfl, Option.some.inj hj⟩ | (rw [if_pos hil] at hj; exact .inl ⟨rfl, Option.some.inj hj⟩)
    · rename_i hji
      refine .inr ⟨Ne.symm hji, hj, fun hb => ?_⟩
      obtain ⟨q, rfl, e⟩ := inb _ hb
      exact hji (h.nd _ _ _ _ hi hj e)
  refine ⟨h.kept.step r.kept (fun y hy => ?_), h.le.trans r.le, fun b hb => (r.new b (Nat.lt_of_lt_of_le hb h.kept.size)).trans (h.new b hb), r.imm, fun j p hp => ?_, fun j p hp => ?_, fun j k p q hp hq he => ?_⟩
  · obtain ⟨q, rfl, rfl⟩ := inb _ hy; exact (h.sep _ _ hi).1
  · rcases look j p hp with ⟨rfl, e⟩ | ⟨_, hp, hne⟩
    · exact (ho p e).2.1
    · rw [r.kept.block _ (h.ownLt hp) hne]; exact h.own j p hp
  · rcases look j p hp with ⟨rfl, e⟩ | ⟨_, hp, hne⟩
    · refine ⟨?_, (ho p e).2.2⟩
      rcases (ho p e).1 with k | k
      · exact .inl (Nat.le_trans h.kept.size k)
      · obtain ⟨q, rfl, e2⟩ := inb _ k; rw [← e2]; exact (h.sep _ _ hi).1
    · exact ⟨(h.sep j p hp).1, by rw [r.new _ (h.ownLt hp)]; exact (h.sep j p hp).2⟩
  · rcases look j p hp with ⟨rfl, e⟩ | ⟨_, hp2, hne⟩ <;> rcases look k q hq with ⟨rfl, e2⟩ | ⟨_, hq2, hne'⟩
    · rfl
    · exfalso
      rcases (ho p e).1 with k1 | k1
      · have := h.ownLt hq2; omega
      · rw [he] at k1; exact hne' k1
    · exfalso
      rcases (ho q e2).1 with k1 | k1
      · have := h.ownLt hp2; omega
      · rw [← he] at k1; exact hne k1
    · exact h.nd _ _ _ _ hp2 hq2 he
end
end Go.Civ
namespace Go.Civ
open Go.RowKit Go.Maps
set_option linter.unusedVariables false

structure Apart (w0 : World) (G : GH) (L : Own) (b : Nat) : Prop where
  new : w0.heap.size ≤ b
  gh : G b = none
  own : ∀ (i : Nat) p, L[i]? = some (some p) → p.1 ≠ b
section
variable {P : Program} {N : Nat} {Q : Exit → Env → World → Prop} {ρ : Env} {w w0 : World} {ops : Array Oper} {rest : List Oper} {K KK : Env → World → Prop} {d : Nat} {ty : TypeId} {pos : String} {af : Array Edge} {g : Option (Nat × Bool)}
variable {X : List Nat} {G0 G : GH} {L : Own} {b : Nat}
theorem ownsMap_update {H : Type} {R : Value → Option (DataW H × List MemPlace)} {kt t e : TypeId} {n : Nat} {D : DataW H} (h : w.ownsMap P kt R b n D) (K : Keyed P kt) (ht : P.underlying t = some (.map kt e)) (hn : n < maxLen) {key val : Value} {kl : Lit} {dd : DataW H} {ps : List MemPlace}
    (hkey : keyOf P kt key = some kl) (hv : R val = some (dd, ps)) : ∃ w', (Instr.mapUpdate t (.map (some b)) key val).run P w = .ok () w' ∧ w'.ownsMap P kt R b (n + 1) (D.put kl dd) ∧ w.grownBy w' (some b) ∧ w.drawn ≤ w'.drawn := by
  obtain ⟨w', h1, h2, h3⟩ := World.ownsMap.update h K ht hn hkey hv
  obtain ⟨es, clock, hb, F, hs, rfl⟩ := h
  obtain ⟨es', clock', hrun, _⟩ := Maps.fit_store (R' := R) K ht hb F (Nat.lt_of_le_of_lt hs hn) (fun _ _ _ _ hz => hz) hkey hv
  refine ⟨w', h1, h2, h3, ?_⟩
  rw [hrun] at h1
  injection h1 with _ e
  subst e
  exact Nat.le_refl _
theorem St.grown (h : St w0 X G0 G L w) (ha : Apart w0 G L b) {w' : World} (hg : w.grownBy w' (some b)) (hd : w.drawn ≤ w'.drawn) : St w0 X G0 G L w' := by
  have blk : ∀ k, k < w.heap.size → k ≠ b → w'.heap[k]? = w.heap[k]? := fun k hk hne => hg.block k hk (fun e => hne (Option.some.inj e))
  refine ⟨⟨hg.os.trans h.kept.os, hg.tape.trans h.kept.tape, hg.output.trans h.kept.output, Nat.le_trans h.kept.drawn hd, Nat.le_trans h.kept.size hg.size, fun k hk hX => ?_⟩, h.le, h.new, fun k o hk => ?_, fun i p hp => ?_, h.sep, h.nd⟩
  · rw [blk k (Nat.lt_of_lt_of_le hk h.kept.size) (by have := ha.new; omega)]; exact h.kept.block k hk hX
  · have hne : k ≠ b := fun e => by subst e; rw [ha.gh] at hk; cases hk
    rw [blk k (h.imm.lt hk) hne]; exact h.imm k o hk
  · rw [blk p.1 (h.ownLt hp) (ha.own i p hp)]; exact h.own i p hp
abbrev IMap (P : Program) (K E : TypeId) (w : World) (b n : Nat) (D : DataW Unit) : Prop := w.ownsMap P K (plainElem P E) b n D
theorem WL.makeMapI {t : TypeId} (K E : TypeId) (hS : St w0 X G0 G L w) (hw : Region.wanted ⟨some d, .makeMap t none, ty, pos, af, g⟩ (yieldE ops ρ) = true)
    (k : ∀ b w', IMap P K E w' b 0 (.map []) → Apart w0 G L b → St w0 X G0 G L w' → KK (upd ρ d (.map (some b))) w') : OW P ops ⟨some d, .makeMap t none, ty, pos, af, g⟩ ρ w KK := by
  refine WL.val (v := .map (some w.heap.size)) (w' := w.alloc (.map #[] 0)) hw ?_ rfl (k _ _ (World.ownsMap_made w P K _) ⟨h1, hS.imm.fresh (Nat.le_refl _), fun i p hp e => ?_⟩ ?_)
  · simp [execOp, run_makeMap, Result.andThen]
  · have := hS.ownLt hp; omega
  · exact hS.call (Res.alloc hS.imm _)
where h1 := hS.kept.size
theorem WL.insertI {t K E : TypeId} {m x y : Operand} {n : Nat} {D : DataW Unit} (ki vi : Int) (hS : St w0 X G0 G L w) (ho : IMap P K E w b n D) (ha : Apart w0 G L b) (ht : P.underlying t = some (.map K E)) (uK : P.underlying K = some (.int .i64)) (uE : P.underlying E = some (.int .i64))
    (hk : I64 ki) (hv : I64 vi) (hn : n < 1000) (hw : Region.wanted ⟨none, .insert t m x y, ty, pos, af, g⟩ (yieldE ops ρ) = true) (hm : ev ρ m = .map (some b)) (hx : ev ρ x = .int .i64 ki) (hy : ev ρ y = .int .i64 vi)
    (k : ∀ w', IMap P K E w' b (n + 1) (D.put (.int .i64 ki) (.lit (.int .i64 vi))) → St w0 X G0 G L w' → KK ρ w') : OW P ops ⟨none, .insert t m x y, ty, pos, af, g⟩ ρ w KK := by
  have wf : ∀ {z : Int}, I64 z → (Lit.int .i64 z).wf = true := fun {z} h => by
    simp [Lit.wf, IntKind.min, IntKind.max, IntKind.signed, IntKind.bits]; exact ⟨h.1, by have := h.2; omega⟩
  have hkey : keyOf P K (.int .i64 ki) = some (.int .i64 ki) := by unfold keyOf; rw [uK]; simp [mapKey, uK, wf hk]
  obtain ⟨w', hrun, ho', hg, hdr⟩ := ownsMap_update ho (int_keyed uK) ht (by simp [maxLen]; omega) hkey (plainElem_int uE (wf hv))
  have := k w' ho' (hS.grown ha hg hdr)
  exact WL.eff (w' := w') hw (by simp [execOp, hm, hx, hy, hrun, Result.andThen]) rfl this
theorem WL.lookupI {t K E : TypeId} {m x : Operand} {n : Nat} {D : DataW Unit} (ki : Int) (ho : IMap P K E w b n D) (ht : P.underlying t = some (.map K E)) (uK : P.underlying K = some (.int .i64)) (uE : P.underlying E = some (.int .i64))
    (hk : I64 ki) (hz : (zeroValue E).run P w = .ok (.int .i64 0) w) (hw : Region.wanted ⟨some d, .lookup t m x false, ty, pos, af, g⟩ (yieldE ops ρ) = true) (hm : ev ρ m = .map (some b)) (hx : ev ρ x = .int .i64 ki)
    (k : ∀ c, D.atKey (.int .i64 ki) (.lit (.int .i64 0)) = .lit (.int .i64 c) → KK (upd ρ d (.int .i64 c)) w) : OW P ops ⟨some d, .lookup t m x false, ty, pos, af, g⟩ ρ w KK := by
  have wf : (Lit.int .i64 ki).wf = true := by
    simp [Lit.wf, IntKind.min, IntKind.max, IntKind.signed, IntKind.bits]; exact ⟨hk.1, by have := hk.2; omega⟩
  have hkey : keyOf P K (.int .i64 ki) = some (.int .i64 ki) := by unfold keyOf; rw [uK]; simp [mapKey, uK, wf]
  obtain ⟨c, hrun, hat, _⟩ := World.ownsMap.lookup_int ho (int_keyed uK) ht uE hz hkey
  refine WL.val hw ?_ rfl (k c hat)
  simp [execOp, hm, hx, hrun, Result.andThen]
end
theorem plain_no3 {c : Cond} (hk : c.kind = 1 ∨ c.kind = 2) (h : (SCmp.b .eql c.oth [] != valB c.v) = true) : plainB c = false := by
  have h1 : isCmp c = true := by unfold isCmp; rcases hk with h | h <;> rw [h] <;> rfl
  unfold plainB
  rw [h1]
  simp only [SCmp.b] at h
  by_cases g : c.oth = []
  · rw [decide_eq_true g] at h ⊢
    cases hv : valB c.v with
    | true => rw [hv] at h; cases h
    | false => simp
  · rw [decide_eq_false g] at h ⊢
    have hv : valB c.v = true := by cases hv : valB c.v with | true => rfl | false => rw [hv] at h; cases h
    have hz : c.v ≠ zeroV := fun e => by rw [e] at hv; exact absurd hv (by decide)
    rw [decide_eq_false hz]; simp
theorem node_c1 {c : Cond} (hk : c.kind = 1 ∨ c.kind = 2) (hc : c.col ≠ []) (ho : c.oth = []) (hb : (SCmp.b .eql c.oth [] != valB c.v) = false) : plainB c = decide ((c.l.length : Int) = 0) := by
  have h1 : isCmp c = true := by unfold isCmp; rcases hk with h | h <;> rw [h] <;> rfl
  simp only [SCmp.b] at hb
  rw [decide_eq_true ho] at hb
  have hv : valB c.v = true := by cases hv : valB c.v with | true => rfl | false => rw [hv] at hb; cases hb
  unfold plainB; rw [h1, decide_eq_false hc, decide_eq_true ho, hv]
  rw [Bool.eq_iff_iff]; simp
theorem node_c2 {c : Cond} (hk : c.kind = 1 ∨ c.kind = 2) (hc : c.col ≠ []) (ho : c.oth ≠ []) (hv : c.v = zeroV) : plainB c = decide ((c.l.length : Int) = 0) := by
  have h1 : isCmp c = true := by unfold isCmp; rcases hk with h | h <;> rw [h] <;> rfl
  unfold plainB; rw [h1, decide_eq_false hc, decide_eq_false ho, decide_eq_true hv]
  rw [Bool.eq_iff_iff]; simp
theorem node_op {c : Cond} {op : Int} (hk : c.kind = 3 ∨ c.kind = 4 ∨ c.kind = 5 ∨ c.kind = 6) (h1 : c.col = []) (h2 : c.oth = []) (h3 : c.v = zeroV) (h : op = (arity c.kind : Int)) : plainB c = decide ((c.l.length : Int) = op) := by
  have g1 : isCmp c = false := by unfold isCmp; rw [decide_eq_false (by omega), decide_eq_false (by omega)]; rfl
  have g2 : isOp c = true := by unfold isOp; rcases hk with h | h | h | h <;> rw [h] <;> rfl
  unfold plainB; rw [g1, g2, decide_eq_true h1, decide_eq_true h2, decide_eq_true h3, h]
  rw [Bool.eq_iff_iff]; simp; omega
def arMap : DataW Unit := (((DataW.map []).put (.int .i64 4) (.lit (.int .i64 1))).put (.int .i64 5) (.lit (.int .i64 2))).put (.int .i64 6) (.lit (.int .i64 2))
theorem mapAr3 {k c : Int} (h : k = 3) (hat : arMap.atKey (.int .i64 k) (.lit (.int .i64 0)) = .lit (.int .i64 c)) : c = (arity k : Int) := by
  subst h
  have e : arMap.atKey (.int .i64 3) (.lit (.int .i64 0)) = .lit (.int .i64 0) := by rfl
  rw [e] at hat; injection hat with h1; injection h1 with _ h2; rw [← h2]; rfl
theorem mapAr4 {k c : Int} (h : k = 4) (hat : arMap.atKey (.int .i64 k) (.lit (.int .i64 0)) = .lit (.int .i64 c)) : c = (arity k : Int) := by
  subst h
  have e : arMap.atKey (.int .i64 4) (.lit (.int .i64 0)) = .lit (.int .i64 1) := by rfl
  rw [e] at hat; injection hat with h1; injection h1 with _ h2; rw [← h2]; rfl
theorem mapAr5 {k c : Int} (h : k = 5) (hat : arMap.atKey (.int .i64 k) (.lit (.int .i64 0)) = .lit (.int .i64 c)) : c = (arity k : Int) := by
  subst h
  have e : arMap.atKey (.int .i64 5) (.lit (.int .i64 0)) = .lit (.int .i64 2) := by rfl
  rw [e] at hat; injection hat with h1; injection h1 with _ h2; rw [← h2]; rfl
theorem mapAr6 {k c : Int} (h : k = 6) (hat : arMap.atKey (.int .i64 k) (.lit (.int .i64 0)) = .lit (.int .i64 c)) : c = (arity k : Int) := by
  subst h
  have e : arMap.atKey (.int .i64 6) (.lit (.int .i64 0)) = .lit (.int .i64 2) := by rfl
  rw [e] at hat; injection hat with h1; injection h1 with _ h2; rw [← h2]; rfl
end Go.Civ
