/- A map that the call makes for itself: whole numbers by whole numbers. -/
import Derived.Test.YtapjalhjfblonaaGreatMCiv34
import Derived.Maps.Own
import Derived.Laws.StructEq
import Derived.Test.YtapjalhjfblonaaGreatProg
import Derived.KernelRfl
import Derived.WalkKit
import Derived.Test.YtapjalhjfblonaaGreatMWz2
import Derived.Test.YtapjalhjfblonaaGreatMCiv39
namespace Go.Civ
open Go.RowKit Go.Maps
set_option linter.unusedVariables false

/-- A block that is neither owned by the list nor frozen, and younger than the call. -/
structure Apart (w0 : World) (G : GH) (L : Own) (b : Nat) : Prop where
  new : w0.heap.size ≤ b
  gh : G b = none
  own : ∀ (i : Nat) p, L[i]? = some (some p) → p.1 ≠ b
section
variable {P : Program} {N : Nat} {Q : Exit → Env → World → Prop} {ρ : Env} {w w0 : World} {ops : Array Oper} {rest : List Oper} {K KK : Env → World → Prop} {d : Nat} {ty : TypeId} {pos : String} {af : Array Edge} {g : Option (Nat × Bool)}
variable {X : List Nat} {G0 G : GH} {L : Own} {b : Nat}
theorem St.grown (h : St w0 X G0 G L w) (ha : Apart w0 G L b) {w' : World} (hg : w.grownBy w' (some b)) : St w0 X G0 G L w' := by
  have blk : ∀ k, k < w.heap.size → k ≠ b → w'.heap[k]? = w.heap[k]? := fun k hk hne => hg.block k hk (fun e => hne (Option.some.inj e))
  refine ⟨⟨hg.os.trans h.kept.os, hg.tape.trans h.kept.tape, hg.output.trans h.kept.output, Nat.le_trans h.kept.size hg.size, fun k hk hX => ?_⟩, h.le, h.new, fun k o hk => ?_, fun i p hp => ?_, h.sep, h.nd⟩
  · rw [blk k (Nat.lt_of_lt_of_le hk h.kept.size) (by have := ha.new; omega)]; exact h.kept.block k hk hX
  · have hne : k ≠ b := fun e => by subst e; rw [ha.gh] at hk; cases hk
    rw [blk k (h.imm.lt hk) hne]; exact h.imm k o hk
  · rw [blk p.1 (h.ownLt hp) (ha.own i p hp)]; exact h.own i p hp
theorem WL.neqB {t ty' : TypeId} {x y : Operand} (a b : Bool) (ht : P.underlying t = some .bool) (hw : Region.wanted ⟨some d, .binOp .neq t x y ty', ty, pos, af, g⟩ (yieldE ops ρ) = true) (hx : ev ρ x = .bool a) (hy : ev ρ y = .bool b)
    (kk : K (upd ρ d (.bool (a != b))) w) : OW P ops ⟨some d, .binOp .neq t x y ty', ty, pos, af, g⟩ ρ w K := by
  refine WL.val hw ?_ rfl kk
  have e : (Op.equalIn Op.maxDepth t (.bool a) (.bool b)).run P w = .ok (a == b) w := run_equalIn_bool' w 9999 t a b ht
  have h1 : (binOp .neq t (.bool a) (.bool b)).run P w = .ok (.bool (a != b)) w := by
    simp [binOp, Op.equal, e, Result.andThen]; cases a <;> cases b <;> rfl
  have h2 : (eqGuard .neq t x y (.bool a) (.bool b)).run P w = .ok () w := by unfold eqGuard; split <;> simp
  simp [execOp, hx, hy, h1, h2, Result.andThen]
abbrev IMap (P : Program) (K E : TypeId) (w : World) (b n : Nat) (D : DataW Unit) : Prop := w.ownsMap P K (plainElem P E) b n D
theorem WL.makeMapI {t : TypeId} (K E : TypeId) (hS : St w0 X G0 G L w) (hw : Region.wanted ⟨some d, .makeMap t none, ty, pos, af, g⟩ (yieldE ops ρ) = true)
    (k : ∀ b w', IMap P K E w' b 0 (.map []) → Apart w0 G L b → St w0 X G0 G L w' → KK (upd ρ d (.map (some b))) w') : OW P ops ⟨some d, .makeMap t none, ty, pos, af, g⟩ ρ w KK := by
  refine WL.val (v := .map (some w.heap.size)) (w' := w.alloc (.map #[] 0)) hw ?_ rfl (k _ _ (World.ownsMap_made w P K _) ⟨h1, hS.imm.fresh (Nat.le_refl _), fun i p hp e => ?_⟩ ?_)
  · simp [execOp, run_makeMap, Result.andThen]
  · have := hS.ownLt hp; omega
  · exact hS.call (Res.alloc hS.imm _)
where h1 := hS.kept.size
theorem WL.insertI {t K E : TypeId} {m x y : Operand} {n : Nat} {D : DataW Unit} (ki vi : Int) (hS : St w0 X G0 G L w) (ho : IMap P K E w b n D) (ha : Apart w0 G L b) (ht : P.underlying t = some (.map K E)) (uK : P.underlying K = some (.int .i64)) (uE : P.underlying E = some (.int .i64))
    (hk : I64 ki) (hv : I64 vi) (hn : n < 1000) (hw : Region.wanted ⟨none, .insert t m x y, ty, pos, af, g⟩ (yieldE ops ρ) = true) (hm : ev ρ m = .map (some b)) (hx : ev ρ x = .int .i64 ki) (hy : ev ρ y = .int .i64 vi)
    (k : ∀ w', IMap P K E w' b (n + 1) (D.put (.int .i64 ki) (.lit (.int .i64 vi))) → St w0 X G0 G L w' → KK ρ w') : OW P ops ⟨none, .insert t m x y, ty, pos, af, g⟩ ρ w KK := by
  have wf : ∀ {z : Int}, I64 z → (Lit.int .i64 z).wf = true := fun {z} h => by
    simp [Lit.wf, IntKind.min, IntKind.max, IntKind.signed, IntKind.bits]; exact ⟨h.1, by have := h.2; omega⟩
  have hkey : keyOf P K (.int .i64 ki) = some (.int .i64 ki) := by unfold keyOf; rw [uK]; simp [mapKey, uK, wf hk]
  obtain ⟨w', hrun, ho', hg⟩ := World.ownsMap.update ho (int_keyed uK) ht (by simp [maxLen]; omega) hkey (plainElem_int uE (wf hv))
  have := k w' ho' (hS.grown ha hg)
  exact WL.eff (w' := w') hw (by simp [execOp, hm, hx, hy, hrun, Result.andThen]) rfl this
theorem WL.lookupI {t K E : TypeId} {m x : Operand} {n : Nat} {D : DataW Unit} (ki : Int) (ho : IMap P K E w b n D) (ht : P.underlying t = some (.map K E)) (uK : P.underlying K = some (.int .i64)) (uE : P.underlying E = some (.int .i64))
    (hk : I64 ki) (hz : (zeroValue E).run P w = .ok (.int .i64 0) w) (hw : Region.wanted ⟨some d, .lookup t m x false, ty, pos, af, g⟩ (yieldE ops ρ) = true) (hm : ev ρ m = .map (some b)) (hx : ev ρ x = .int .i64 ki)
    (k : ∀ c, D.atKey (.int .i64 ki) (.lit (.int .i64 0)) = .lit (.int .i64 c) → KK (upd ρ d (.int .i64 c)) w) : OW P ops ⟨some d, .lookup t m x false, ty, pos, af, g⟩ ρ w KK := by
  have wf : (Lit.int .i64 ki).wf = true := by
    simp [Lit.wf, IntKind.min, IntKind.max, IntKind.signed, IntKind.bits]; exact ⟨hk.1, by have := hk.2; omega⟩
  have hkey : keyOf P K (.int .i64 ki) = some (.int .i64 ki) := by unfold keyOf; rw [uK]; simp [mapKey, uK, wf]
  obtain ⟨c, hrun, hat, _⟩ := World.ownsMap.lookup_int ho (int_keyed uK) ht uE hz hkey
  refine WL.val hw ?_ rfl (k c hat)
  simp [execOp, hm, hx, hrun, Result.andThen]
end
theorem plain_no1 {c : Cond} (hk : c.kind = 1 ∨ c.kind = 2) (h : c.l.length ≠ 0) : plainB c = false := by
  have : isCmp c = true := by unfold isCmp; rcases hk with h | h <;> rw [h] <;> rfl
  unfold plainB; rw [this, decide_eq_false h]; simp
theorem plain_no2 {c : Cond} (hk : c.kind = 3 ∨ c.kind = 4 ∨ c.kind = 5 ∨ c.kind = 6) (h : c.l.length ≠ arity c.kind) : plainB c = false := by
  have h1 : isCmp c = false := by unfold isCmp; rw [decide_eq_false (by omega), decide_eq_false (by omega)]; rfl
  unfold plainB; rw [h1, decide_eq_false h]; simp
theorem plain_no3 {c : Cond} (hk : c.kind = 1 ∨ c.kind = 2) (h : (SCmp.b .eql c.oth [] != valB c.v) = true) : plainB c = false := by
  have h1 : isCmp c = true := by unfold isCmp; rcases hk with h | h <;> rw [h] <;> rfl
  unfold plainB
  rw [h1]
  simp only [SCmp.b] at h
  by_cases g : c.oth = []
  · rw [decide_eq_true g] at h ⊢
    cases hv : valB c.v with
    | true => rw [hv] at h; cases h
    | false => simp
  · rw [decide_eq_false g] at h ⊢
    have hv : valB c.v = true := by cases hv : valB c.v with | true => rfl | false => rw [hv] at h; cases h
    have hz : c.v ≠ zeroV := fun e => by rw [e] at hv; exact absurd hv (by decide)
    rw [decide_eq_false hz]; simp
theorem plain_yes2 {c : Cond} (hk : c.kind = 3 ∨ c.kind = 4 ∨ c.kind = 5 ∨ c.kind = 6) (h1 : c.col = []) (h2 : c.oth = []) (h3 : c.v = zeroV) (h : c.l.length = arity c.kind) : plainB c = true := by
  have g1 : isCmp c = false := by unfold isCmp; rw [decide_eq_false (by omega), decide_eq_false (by omega)]; rfl
  have g2 : isOp c = true := by unfold isOp; rcases hk with h | h | h | h <;> rw [h] <;> rfl
  unfold plainB; rw [g1, g2, decide_eq_true h1, decide_eq_true h2, decide_eq_true h3, decide_eq_true h]; rfl
theorem node_c1 {c : Cond} (hk : c.kind = 1 ∨ c.kind = 2) (hc : c.col ≠ []) (ho : c.oth = []) (hb : (SCmp.b .eql c.oth [] != valB c.v) = false) : plainB c = decide ((c.l.length : Int) = 0) := by
  have h1 : isCmp c = true := by unfold isCmp; rcases hk with h | h <;> rw [h] <;> rfl
  simp only [SCmp.b] at hb
  rw [decide_eq_true ho] at hb
  have hv : valB c.v = true := by cases hv : valB c.v with | true => rfl | false => rw [hv] at hb; cases hb
  unfold plainB; rw [h1, decide_eq_false hc, decide_eq_true ho, hv]
  rw [Bool.eq_iff_iff]; simp
theorem node_c2 {c : Cond} (hk : c.kind = 1 ∨ c.kind = 2) (hc : c.col ≠ []) (ho : c.oth ≠ []) (hv : c.v = zeroV) : plainB c = decide ((c.l.length : Int) = 0) := by
  have h1 : isCmp c = true := by unfold isCmp; rcases hk with h | h <;> rw [h] <;> rfl
  unfold plainB; rw [h1, decide_eq_false hc, decide_eq_false ho, decide_eq_true hv]
  rw [Bool.eq_iff_iff]; simp
theorem node_op {c : Cond} {op : Int} (hk : c.kind = 3 ∨ c.kind = 4 ∨ c.kind = 5 ∨ c.kind = 6) (h1 : c.col = []) (h2 : c.oth = []) (h3 : c.v = zeroV) (h : op = (arity c.kind : Int)) : plainB c = decide ((c.l.length : Int) = op) := by
  have g1 : isCmp c = false := by unfold isCmp; rw [decide_eq_false (by omega), decide_eq_false (by omega)]; rfl
  have g2 : isOp c = true := by unfold isOp; rcases hk with h | h | h | h <;> rw [h] <;> rfl
  unfold plainB; rw [g1, g2, decide_eq_true h1, decide_eq_true h2, decide_eq_true h3, h]
  rw [Bool.eq_iff_iff]; simp; omega
def arMap : DataW Unit := (((DataW.map []).put (.int .i64 4) (.lit (.int .i64 1))).put (.int .i64 5) (.lit (.int .i64 2))).put (.int .i64 6) (.lit (.int .i64 2))
theorem mapAr3 {k c : Int} (h : k = 3) (hat : arMap.atKey (.int .i64 k) (.lit (.int .i64 0)) = .lit (.int .i64 c)) : c = (arity k : Int) := by
  subst h
  have e : arMap.atKey (.int .i64 3) (.lit (.int .i64 0)) = .lit (.int .i64 0) := by rfl
  rw [e] at hat; injection hat with h1; injection h1 with _ h2; rw [← h2]; rfl
theorem mapAr4 {k c : Int} (h : k = 4) (hat : arMap.atKey (.int .i64 k) (.lit (.int .i64 0)) = .lit (.int .i64 c)) : c = (arity k : Int) := by
  subst h
  have e : arMap.atKey (.int .i64 4) (.lit (.int .i64 0)) = .lit (.int .i64 1) := by rfl
  rw [e] at hat; injection hat with h1; injection h1 with _ h2; rw [← h2]; rfl
theorem mapAr5 {k c : Int} (h : k = 5) (hat : arMap.atKey (.int .i64 k) (.lit (.int .i64 0)) = .lit (.int .i64 c)) : c = (arity k : Int) := by
  subst h
  have e : arMap.atKey (.int .i64 5) (.lit (.int .i64 0)) = .lit (.int .i64 2) := by rfl
  rw [e] at hat; injection hat with h1; injection h1 with _ h2; rw [← h2]; rfl
theorem mapAr6 {k c : Int} (h : k = 6) (hat : arMap.atKey (.int .i64 k) (.lit (.int .i64 0)) = .lit (.int .i64 c)) : c = (arity k : Int) := by
  subst h
  have e : arMap.atKey (.int .i64 6) (.lit (.int .i64 0)) = .lit (.int .i64 2) := by rfl
  rw [e] at hat; injection hat with h1; injection h1 with _ h2; rw [← h2]; rfl
end Go.Civ
set_option linter.unusedVariables false
set_option linter.unusedSimpArgs false
set_option maxRecDepth 100000
set_option maxHeartbeats 4000000
namespace Go.Civ
open Go.Proofs


theorem c_count (d : Nat) : ∀ {G : GH} {w : World} (hG : G.In w) (c : Cond) (n : Int) (cc : List Value) (hcc : (CondE d).rep G c cc) (pb : Nat) (hpb : Lent w G (some (pb, (nat_lit 3), [.int .i64 n]))) (pf : Addr) (hpf : Cells G pf [.func (.func 65) #[] #[.pointer (some ⟨pb, 0, none⟩), .pointer (some pf)]]) (hn : 0 ≤ n ∧ n ≤ 99), CL Tryz.prog (nat_lit 65) #[.agg cc.toArray, .pointer (some ⟨pb, 0, none⟩), .pointer (some pf)] [pb] w G fun G' w' r => (r = .tuple #[]) ∧ Lent w' G' (some (pb, (nat_lit 3), [.int .i64 (cntF d c n)])) := by
  induction d
  · intro G w hG c n cc hcc pb hpb pf hpf hn; exact (CondE_zero hcc).elim
  rename_i d ih
  intro G w hG c n cc hcc pb hpb pf hpf hn
  refine calls_of_go ft [] Tryz.func65 rfl rfl ?_
  have hn64 : I64 n := ⟨by omega, by omega⟩
  have hS := St.lentO hG hpb
  obtain ⟨lv1, rfl, hb1, hb2, hb3, hb4, hb5, hb6, ho1⟩ := CondE_step hcc
  refine WL.boxG [.int .i64 c.kind, strV c.col, strV c.oth, .int .i64 c.v.k, .int .i64 c.v.n, strV c.v.s, lv1] _ hS rfl rfl rfl (fun p1 w1 G1 hle1 hsp1 hc1 hS1 => ?_)
  refine WL.loadO1 hS1 0 _ _ _ 0 _ rfl rfl ti3 rfl rfl rfl ?_
  have hi1 : I64 (n + 1) := by  have := hn64.1; have := hn64.2; constructor <;> omega
  refine WL.ar .add rfl n 1 rfl rfl rfl hi1 ?_
  refine WL.store hS1 0 _ _ _ 0 _ [.int .i64 (n + 1)] [.int .i64 (n + 1)] _ rfl rfl ti3 rfl (Nat.le_of_ble_eq_true rfl) rfl rfl rfl rfl rfl rfl (fun w2 hS2 => ?_)
  refine WL.loadG1 hS2 (Cells.drop 6 hc1) ti35 rfl rfl rfl ?_
  have bd1 := ho1.bound
  refine WL.lenSl (ho1.mono hle1) ul35 rfl rfl ?_
  refine LP.go ft [] (fun m ρ1 w1 => ∃ (k1 : Nat), ∃ (mm : Int), ∃ (G2 : GH), m = c.l.length - k1 ∧ G1.le G2 ∧ St w [pb] G G2 [some (pb, (nat_lit 3), [.int .i64 mm])] w1 ∧ FR ρ1 [(1, .pointer (some ⟨pb, 0, none⟩)), (2, .pointer (some pf)), (9, lv1), (10, .int .i64 (c.l.length : Int)), (11, .int .i64 (k1 : Int))] ∧ k1 ≤ c.l.length ∧ mm = cntL (fun x m => cntF d x m) (c.l.take k1) (n + 1) ∧ 0 ≤ mm ∧ mm ≤ 100) _ ⟨0, (n + 1), G1, rfl, (G1.le_refl), hS2, ⟨rfl, rfl, rfl, rfl, rfl, trivial⟩, (by omega), (by rfl), (by omega)⟩ ?_
  rintro m ρ1 w3 ⟨k1, mm, G2, rfl, hle2, hS3, hF9, f1, f2, f3⟩
  refine hF9.set ?_
  clear hF9
  have hm64 : I64 mm := ⟨by omega, by omega⟩
  refine WL.lssS (k1 : Int) (c.l.length : Int) rfl rfl rfl (fun h1 => ?_) (fun h1 => ?_)
  · refine WL.indexAddr (ho1.mono (hle1.trans hle2)) k1 (by omega) ul35 ti37 rfl rfl rfl rfl (fun p2 x1 hx1 he1 => ?_)
    obtain ⟨cs1, hc2, hr1⟩ := he1
    obtain ⟨lv2, rfl, hb7, hb8, hb9, hb10, hb11, hb12, ho2⟩ := CondE_open hr1
    refine WL.loadGAt hS3 hc2 [.int .i64 x1.kind, strV x1.col, strV x1.oth, .int .i64 x1.v.k, .int .i64 x1.v.n, strV x1.v.s, lv2] ti37 rfl rfl rfl rfl rfl ?_
    refine WL.alloc hS3 ti37 rfl rfl (fun b1 w4 hn1 hS4 => ?_)
    refine WL.store hS4 0 _ _ _ 0 _ [.int .i64 x1.kind, strV x1.col, strV x1.oth, .int .i64 x1.v.k, .int .i64 x1.v.n, strV x1.v.s, lv2] [.int .i64 x1.kind, strV x1.col, strV x1.oth, .int .i64 x1.v.k, .int .i64 x1.v.n, strV x1.v.s, lv2] _ rfl rfl ti37 rfl (Nat.le_of_ble_eq_true rfl) (by simp only [List.all_cons, List.all_nil, ho2, Bool.true_and] <;> rfl) rfl rfl rfl rfl rfl (fun w5 hS5 => ?_)
    obtain ⟨G3, hle3, hc3, hS6⟩ := hS5.shutB hn1
    refine WL.loadO1 hS6 0 _ _ _ 0 _ rfl rfl ti3 rfl rfl rfl ?_
    refine WL.lssS mm 100 rfl rfl rfl (fun h2 => ?_) (fun h2 => ?_)
    · refine WL.loadG1 hS6 (hpf.mono ((hle1.trans hle2).trans hle3)) ti100 rfl rfl rfl ?_
      refine WL.loadGAt hS6 hc3 [.int .i64 x1.kind, strV x1.col, strV x1.oth, .int .i64 x1.v.k, .int .i64 x1.v.n, strV x1.v.s, lv2] ti37 rfl rfl rfl rfl rfl ?_
      refine WL.cR hb65 rfl rfl rfl (ih hS6.imm x1 mm _ ((CondE _).mono hle3 hr1) _ (hS6.lentAt 0 rfl)  _ (hpf.mono ((hle1.trans hle2).trans hle3)) (by omega)) (fun w6 G4 r1 hres1 ⟨hpost1, hlc1⟩ => ?_)
      have hS7 : St w [pb] G G4 [some (pb, (nat_lit 3), [.int .i64 (cntF d x1 mm)])] w6 := hS6.callX 0 rfl [.int .i64 (cntF d x1 mm)] hres1 (hlc1 _ rfl).1
      have hle4 := hres1.le
      subst hpost1
      refine WL.incr k1 (by have hreach : reach = 140737488355328 := rfl; omega) rfl rfl rfl ?_
      exact BK.mk' _ ⟨k1 + 1, cntF d x1 mm, G4, rfl, (hle2.trans (hle3.trans hle4)), hS7, ⟨rfl, rfl, rfl, rfl, rfl, trivial⟩, (by omega), (by first | exact cntL_take (by assumption) (by assumption) (if_pos (by assumption)).symm | exact cntL_take (by assumption) (by assumption) (if_neg (by omega)).symm), (by first | exact cntF_bd _ _ _ (by omega) (by omega) | omega)⟩ (show c.l.length - (k1 + 1) < c.l.length - k1 by omega)
    refine WL.incr k1 (by have hreach : reach = 140737488355328 := rfl; omega) rfl rfl rfl ?_
    exact BK.mk' _ ⟨k1 + 1, mm, G3, rfl, (hle2.trans hle3), hS6, ⟨rfl, rfl, rfl, rfl, rfl, trivial⟩, (by omega), (by first | exact cntL_take (by assumption) (by assumption) (if_pos (by assumption)).symm | exact cntL_take (by assumption) (by assumption) (if_neg (by omega)).symm), (by first | exact cntF_bd _ _ _ (by omega) (by omega) | omega)⟩ (show c.l.length - (k1 + 1) < c.l.length - k1 by omega)
  exact RT hS3 rfl ⟨rfl, (hS3.lentAt 0 rfl).cast (by rw [cnt_all (by assumption) (by omega)])⟩

theorem c_deep {G : GH} {w : World} (hG : G.In w) (d : Nat) (c : Cond) (cc : List Value) (hcc : (CondE d).rep G c cc)  : CL Tryz.prog (nat_lit 16) #[.agg cc.toArray] [] w G fun _ _ r => r = .bool (decide (20 < cntF d c 0)) := by
  refine calls_of_go ft [] Tryz.func16 rfl rfl ?_
  have hS := St.start (X := []) hG
  obtain ⟨lv1, rfl, hb1, hb2, hb3, hb4, hb5, hb6, ho1⟩ := CondE_open hcc
  refine WL.boxG [.int .i64 c.kind, strV c.col, strV c.oth, .int .i64 c.v.k, .int .i64 c.v.n, strV c.v.s, lv1] _ hS rfl rfl rfl (fun p1 w1 G1 hle1 hsp1 hc1 hS1 => ?_)
  refine WL.alloc hS1 ti3 rfl rfl (fun b1 w2 hn1 hS2 => ?_)
  refine WL.store hS2 0 _ _ _ 0 _ [.int .i64 0] [.int .i64 0] _ rfl rfl ti3 rfl (Nat.le_of_ble_eq_true rfl) rfl rfl rfl rfl rfl rfl (fun w3 hS3 => ?_)
  refine WL.alloc hS3 ti100 rfl rfl (fun b2 w4 hn2 hS4 => ?_)
  refine WL.store hS4 0 _ _ _ 0 _ [.func (.func 65) #[] #[.pointer (some ⟨b1, 0, none⟩), .pointer (some ⟨b2, 0, none⟩)]] [.func (.func 65) #[] #[.pointer (some ⟨b1, 0, none⟩), .pointer (some ⟨b2, 0, none⟩)]] _ rfl rfl ti100 rfl (Nat.le_of_ble_eq_true rfl) rfl rfl rfl rfl rfl rfl (fun w5 hS5 => ?_)
  obtain ⟨G2, hle2, hc2, hS6⟩ := hS5.shutB hn2
  refine WL.loadG1 hS6 hc2 ti100 rfl rfl rfl ?_
  refine WL.loadGAt hS6 (hc1.mono hle2) [.int .i64 c.kind, strV c.col, strV c.oth, .int .i64 c.v.k, .int .i64 c.v.n, strV c.v.s, lv1] ti37 rfl rfl rfl rfl rfl ?_
  refine WL.cR hb65 rfl rfl rfl (c_count _ hS6.imm c 0 _ ((CondE _).mono (hle1.trans hle2) hcc) _ (hS6.lentAt 0 rfl)  _ hc2 (by omega)) (fun w6 G3 r1 hres1 ⟨hpost1, hlc1⟩ => ?_)
  have hS7 : St w [] G G3 [some (b1, 3, [.int .i64 (cntF d c 0)])] w6 := hS6.callX 0 rfl [.int .i64 (cntF d c 0)] hres1 (hlc1 _ rfl).1
  have hle3 := hres1.le
  subst hpost1
  refine WL.loadO1 hS7 0 _ _ _ 0 _ rfl rfl ti3 rfl rfl rfl ?_
  refine WL.cmp .gtr rfl .i64 (cntF d c 0) 20 rfl rfl rfl ?_
  exact RB hS7 rfl (by simp [Cmp.b])
end Go.Civ
