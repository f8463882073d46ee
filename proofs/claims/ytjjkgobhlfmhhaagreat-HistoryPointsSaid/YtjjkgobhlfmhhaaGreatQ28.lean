/- Lemmas: Civ58, Wd. -/
import Derived.Test.YtjjkgobhlfmhhaaGreatQ23
import Derived.Test.YtjjkgobhlfmhhaaGreatQ26
import Derived.Test.YtjjkgobhlfmhhaaGreatQ27
import Derived.Test.YtjjkgobhlfmhhaaGreatProg
import Derived.KernelRfl
import Derived.WalkKit
namespace Go.Civ
open Go.RowKit
set_option linter.unusedVariables false
structure FnO (P : Program) {α : Type} (A : GH → Value → α → Prop) (fid : Nat) (cap : Array Value) (G : GH) (on : α → Prop) (nx : α → Option (List Val)) : Prop where
  body : HasBody P fid
  call : ∀ (G' : GH) (w' : World) (v : Value) (x : α), G.le G' → G'.In w' → on x → A G' v x →
    Calls P fid ([v] ++ cap.toList).toArray w' fun e w'' => ∃ r G'', e = .returned r ∧ Res [] w' G' w'' G'' ∧ ∃ r0 r1, r = .tuple #[r0, r1] ∧ Sl ValE 32 G'' r0 ((nx x).getD []) ∧ r1 = .bool (nx x).isSome
theorem FnO.up {P : Program} {α : Type} {A : GH → Value → α → Prop} {fid : Nat} {cap : Array Value} {G G' : GH} {on : α → Prop} {nx : α → Option (List Val)} (h : FnO P A fid cap G on nx) (k : G.le G') : FnO P A fid cap G' on nx :=
  ⟨h.body, fun G2 w' v x hle => h.call G2 w' v x (k.trans hle)⟩
theorem can_one {s : Span} (h : s.a < s.b) : Can [s] := ⟨by simp, by simpa using h⟩
def piecesS (r d : Span) : List Span := (if r.a < d.a then [⟨r.a, d.a⟩] else []) ++ (if d.b < r.b then [⟨d.b, r.b⟩] else [])
theorem pieces_can {r d : Span} (hr : r.a < r.b) (hd : d.a < d.b) (h1 : r.a < d.b) (h2 : d.a < r.b) : Can (piecesS r d) := by
  unfold piecesS
  by_cases c1 : r.a < d.a <;> by_cases c2 : d.b < r.b <;> simp only [c1, c2, if_true, if_false, List.nil_append, List.append_nil]
  · exact ⟨by simp; omega, fun s hs => by simp at hs; rcases hs with rfl | rfl <;> simp <;> omega⟩
  · exact can_one c1
  · exact can_one c2
  · exact ⟨List.Pairwise.nil, by simp⟩
theorem comb_one {r d : Span} (hr : r.a < r.b) (hd : d.a < d.b) (h1 : r.a < d.b) (h2 : d.a < r.b) : combR 3 [r] [d] = piecesS r d := by
  have h := combR_inv (kind := 3) (a := [r]) (b := [d]) rfl (by simpa using hr) (by simpa using hd)
  refine Can.unique h.1 (pieces_can hr hd h1 h2) fun x => ?_
  rw [h.2]
  have e : keepB 3 (inR [r] x) (inR [d] x) = true ↔ ((r.a ≤ x ∧ x < r.b) ∧ ¬ (d.a ≤ x ∧ x < d.b)) := by
    unfold keepB inR; simp; omega
  rw [e]
  unfold piecesS
  by_cases c1 : r.a < d.a <;> by_cases c2 : d.b < r.b <;> simp only [c1, c2, if_true, if_false, List.nil_append, List.append_nil, List.cons_append, cover_cons] <;> simp [cover] <;> omega
theorem pieces_good {r d : Span} (hr : spanB r = true) (hd : spanB d = true) (h1 : r.a < d.b) (h2 : d.a < r.b) : ∀ s ∈ piecesS r d, spanB s = true := fun s hs => by
  unfold spanB at hr hd ⊢
  simp at hr hd ⊢
  unfold piecesS at hs
  rcases List.mem_append.1 hs with hs | hs
  · split at hs
    · obtain rfl := List.mem_singleton.1 hs; simp only; omega
    · cases hs
  · split at hs
    · obtain rfl := List.mem_singleton.1 hs; simp only; omega
    · cases hs
theorem pieces_len (r d : Span) : (piecesS r d).length ≤ 2 := by unfold piecesS; rw [List.length_append]; split <;> split <;> simp
theorem touch_comb {r d : Span} (hr : spanB r = true) (hd : spanB d = true) (h1 : r.a < d.b) (h2 : d.a < r.b) : combR 3 [r] [d] = piecesS r d := comb_one (spanB_pos hr) (spanB_pos hd) h1 h2
theorem part_good {r d : Span} (hr : spanB r = true) (hd : spanB d = true) (h1 : r.a < d.b) (h2 : d.a < r.b) : spanB (partS r d) = true := by
  unfold spanB at hr hd ⊢
  unfold partS
  simp at hr hd ⊢
  omega
def NxOk (nx : List Val → Option (List Val)) (l : List HRow) : Prop := ∀ r ∈ l, ∀ u, nx r.v = some u → u.all valB = true ∧ u.length ≤ 8
structure ChgOk (t : Table) (tx : Int) (d : Span) (nx : List Val → Option (List Val)) : Prop where
  valid : validT t = true
  span : spanB d = true
  inst : instB tx = true
  late : t.last < tx
  next : NxOk nx t.rows
section
variable {t : Table} {tx : Int} {d : Span} {nx : List Val → Option (List Val)} {hl : List Val → Bool}
theorem validT_row1 (h : validT t = true) {r : HRow} (hr : r ∈ t.rows) : goodB r = true ∧ r.v.length ≤ 8 ∧ r.r.x.a ≤ t.last ∧ r.v.length = t.s.cols.length ∧ r.v.all valB = true ∧ t.s.cols.length ≤ 8 := by
  rw [validT_is] at h
  simp only [Bool.and_eq_true] at h
  have h1 := List.all_eq_true.1 h.1.2 r hr
  unfold rowOk at h1
  simp only [Bool.and_eq_true, decide_eq_true_eq] at h1
  obtain ⟨a, b, c, _⟩ := rowE_len h1.1.1.1
  exact ⟨h1.1.1.2, a, h1.1.2, c, b, by omega⟩
theorem chgOf_len (hc : ChgOk t tx d nx) {r : HRow} (hr : r ∈ t.rows) : (chgOf hl nx tx d r).length ≤ 4 := by
  unfold chgOf
  split
  · rename_i h
    simp only [Bool.and_eq_true] at h
    unfold touchB at h
    simp only [Bool.and_eq_true, decide_eq_true_eq] at h
    have hg := goodB_parts (validT_row1 hc.valid hr).1
    rw [touch_comb hg.2.1 hc.span h.1.1.2 h.1.2]
    have := pieces_len r.r.d d
    have h2 : (lastN (nx r.v) r.r.d d tx).length ≤ 1 := by unfold lastN; split <;> simp
    simp only [List.length_append, outN_len, List.length_cons, List.length_nil]
    omega
  · simp
theorem chgRows_len (hc : ChgOk t tx d nx) : ∀ k, (chgRows hl nx tx d (t.rows.take k)).length ≤ 4 * k
  | 0 => by simp [chgRows]
  | k + 1 => by
    have ih := chgRows_len hc k
    cases e : t.rows[k]? with
    | none => rw [List.take_add_one, e]; simp only [Option.toList, List.append_nil]; omega
    | some r =>
      rw [chgRows_take e, List.length_append]
      have := chgOf_len (hl := hl) hc (List.mem_of_getElem? e)
      omega
theorem chgOf_good (hc : ChgOk t tx d nx) {r : HRow} (hr : r ∈ t.rows) : ∀ q ∈ chgOf hl nx tx d r, goodB q = true ∧ q.v.length ≤ 1000 := by
  obtain ⟨g1, g2, g3, _⟩ := validT_row1 hc.valid hr
  have hg := goodB_parts g1
  have ht := instB_parts hc.inst
  have hl := hc.late
  have mk : ∀ (v : List Val) (a b : Span), v.all valB = true → spanB a = true → spanB b = true → goodB ⟨v, ⟨a, b⟩⟩ = true := fun v a b h1 h2 h3 => by unfold goodB; simp only; rw [h1, h2, h3]; rfl
  have hx := hg.2.2
  unfold spanB at hx
  simp at hx
  have hT : spanB ⟨tx, 253402300800⟩ = true := by unfold spanB; simp; omega
  unfold chgOf
  split
  · rename_i h
    simp only [Bool.and_eq_true] at h
    unfold touchB at h
    simp only [Bool.and_eq_true, decide_eq_true_eq] at h
    rw [touch_comb hg.2.1 hc.span h.1.1.2 h.1.2]
    intro q hq
    rcases List.mem_append.1 hq with hq | hq
    · rcases List.mem_append.1 hq with hq | hq
      · rw [List.mem_singleton.1 hq]
        exact ⟨mk _ _ _ hg.1 hg.2.1 (by unfold spanB; simp; omega), Nat.le_trans g2 (by decide)⟩
      · unfold outN at hq
        obtain ⟨s, hs, rfl⟩ := List.mem_map.1 hq
        exact ⟨mk _ _ _ hg.1 (pieces_good hg.2.1 hc.span h.1.1.2 h.1.2 s hs) hT, Nat.le_trans g2 (by decide)⟩
    · unfold lastN at hq
      split at hq
      · rename_i u hu
        rw [List.mem_singleton.1 hq]
        obtain ⟨u1, u2⟩ := hc.next r hr u hu
        exact ⟨mk _ _ _ u1 (part_good hg.2.1 hc.span h.1.1.2 h.1.2) hT, Nat.le_trans u2 (by decide)⟩
      · cases hq
  · intro q hq
    rw [List.mem_singleton.1 hq]; exact ⟨g1, Nat.le_trans g2 (by decide)⟩
theorem chgRows_good (hc : ChgOk t tx d nx) : GoodH (chgRows hl nx tx d t.rows) ∧ (∀ r ∈ chgRows hl nx tx d t.rows, r.v.length ≤ 1000) ∧ (chgRows hl nx tx d t.rows).length ≤ 2000 := by
  refine ⟨fun q hq => ?_, fun q hq => ?_, ?_⟩
  · obtain ⟨r, hr, h⟩ := List.mem_flatMap.1 hq; exact (chgOf_good hc hr q h).1
  · obtain ⟨r, hr, h⟩ := List.mem_flatMap.1 hq; exact (chgOf_good hc hr q h).2
  · have h1 := chgRows_len (hl := hl) hc t.rows.length
    rw [List.take_length] at h1
    have := (validT_good hc.valid).2.1
    omega
end
theorem maskV_len : ∀ (v s : List Val) (m : List Bool), (maskV v s m).length = v.length
  | [], s, m => by simp [maskV]
  | x :: v, [], m => by simp [maskV]
  | x :: v, y :: s, [] => by simp [maskV]
  | x :: v, y :: s, b :: m => by simp [maskV, maskV_len v s m]
theorem maskV_nil (v s : List Val) : maskV v s [] = v := by cases v <;> cases s <;> rfl
theorem maskV_no : ∀ {v s : List Val} {m : List Bool} {k : Nat}, m[k]? = some false → maskV v s (m.take (k + 1)) = maskV v s (m.take k)
  | [], s, m, k, _ => by simp [maskV]
  | x :: v, [], m, k, _ => by cases m.take (k + 1) <;> cases m.take k <;> simp [maskV]
  | x :: v, y :: s, [], k, h => by simp at h
  | x :: v, y :: s, b :: m, 0, h => by simp at h; subst h; simp [maskV, maskV_nil]
  | x :: v, y :: s, b :: m, k + 1, h => by
    simp only [List.take_succ_cons, maskV]
    rw [maskV_no (by simpa using h)]
theorem maskV_yes : ∀ {v s : List Val} {m : List Bool} {k : Nat} {z : Val}, m[k]? = some true → s[k]? = some z → k < v.length → maskV v s (m.take (k + 1)) = (maskV v s (m.take k)).set k z
  | [], s, m, k, z, _, _, h => by simp at h
  | x :: v, [], m, k, z, _, h, _ => by simp at h
  | x :: v, y :: s, [], k, z, h, _, _ => by simp at h
  | x :: v, y :: s, b :: m, 0, z, h, h2, _ => by simp at h h2; subst h h2; simp [maskV, maskV_nil]
  | x :: v, y :: s, b :: m, k + 1, z, h, h2, h3 => by
    simp only [List.take_succ_cons, maskV, List.set_cons_succ]
    rw [maskV_yes (by simpa using h) (by simpa using h2) (by simpa using h3)]
theorem mask_all {m : List Bool} {k : Nat} (h : m.length ≤ k) (v s : List Val) : maskV v s (m.take k) = maskV v s m := by rw [List.take_of_length_le h]
end Go.Civ
namespace Go.Civ
theorem chg_yes {L : List HRow} {q : HRow} {v : List Val} {ss : List Span} {k : Nat} {tx : Int} {nx : Option (List Val)} {r d : Span} (hk : ss.length ≤ k) (h : nx.isSome = true) :
    ((L ++ [q]) ++ outN v (ss.take k) tx 253402300800) ++ [⟨nx.getD [], ⟨⟨max r.a d.a, min r.b d.b⟩, ⟨tx, 253402300800⟩⟩⟩] = L ++ ([q] ++ outN v ss tx 253402300800 ++ lastN nx r d tx) := by
  rw [List.take_of_length_le hk]
  cases nx with
  | none => cases h
  | some u => simp [lastN, partS]
theorem chg_no {L : List HRow} {q : HRow} {v : List Val} {ss : List Span} {k : Nat} {tx : Int} {nx : Option (List Val)} {r d : Span} (hk : ss.length ≤ k) (h : nx.isSome = false) :
    (L ++ [q]) ++ outN v (ss.take k) tx 253402300800 = L ++ ([q] ++ outN v ss tx 253402300800 ++ lastN nx r d tx) := by
  rw [List.take_of_length_le hk]
  cases nx with
  | none => simp [lastN]
  | some u => cases h
end Go.Civ
namespace Go.Civ
theorem mask_no {v s : List Val} {m : List Bool} {k : Nat} {b : Bool} (h : m[k]? = some b) (hb : b = false) : maskV v s (m.take (k + 1)) = maskV v s (m.take k) := by subst hb; exact maskV_no h
theorem mask_yes {v s : List Val} {m : List Bool} {k : Nat} {b : Bool} {z : Val} (h : m[k]? = some b) (hb : b = true) (hs : s[k]? = some z) (hk : k < v.length) : maskV v s (m.take (k + 1)) = (maskV v s (m.take k)).set k z := by subst hb; exact maskV_yes h hs hk
end Go.Civ
set_option linter.unusedVariables false
set_option linter.unusedSimpArgs false
set_option maxRecDepth 100000
set_option maxHeartbeats 4000000
namespace Go.Civ
open Go.Proofs
theorem c_Encode {G : GH} {w : World} (hG : G.In w) (l : List Val) (vl : Value) (hvl : Sl ValE 32 G vl l) : CL Tryz.prog (nat_lit 169) #[vl] [] w G fun G' _ r=>∃ r0 r1,r = .tuple #[r0,r1] ∧ Sl Enc.u8 1 G' r0 (keyE l) ∧ r1 = .int .i64 (encE l):=by
 refine calls_of_go ft [] Tryz.func169 rfl rfl ?_
 have hS:=St.start (X:=[]) hG
 have bd1:=hvl.bound
 refine WL.lenSl hvl ul36 rfl rfl ?_
 refine WL.gtrS (l.length : Int) 1000 rfl rfl rfl (fun h1=>?_) (fun h1=>?_)
 ·exact RT hS rfl ⟨_,_,rfl,(Sl.cast (Sl.nil Enc.u8 1 G) (by exact (keyE_no1 (by omega)).symm)),(congrArg (Value.int .i64) (by exact (encE_5 (by omega)).symm))⟩
 refine WL.cV hS hb113 rfl rfl rfl (c_all hS.imm l _ hvl) (fun w1 G1 hS1 hle1=>?_)
 refine WL.split (fun (h2 : (l.all valB) = true)=>?_) (fun (h2 : (l.all valB) = false)=>?_)
 ·have hbl:=(by assumption : Sl ValE 32 G _ l).bound
  have bd2:=hvl.bound
  refine WL.lenSl (hvl.mono hle1) ul36 rfl rfl ?_
  refine WL.mulN 9 l.length (by have hreach : reach = 140737488355328:=rfl; omega) rfl rfl rfl ?_
  refine WL.makeRow (E:=Enc.u8) (by_:=1) sl199 rfl rfl (9 * l.length) (by have hreach : reach = 140737488355328:=rfl; omega) (by have hreach : reach = 140737488355328:=rfl; omega) hS1 rfl rfl rfl (fun v1 o1 w2 hr1 hS2=>?_)
  have bd3:=hvl.bound
  refine WL.lenSl (hvl.mono hle1) ul36 rfl rfl ?_
  refine LP.go ft [] (fun m ρ1 w1=>∃ (k1 : Nat),∃ (v2 : Value) (o2 : OB),∃ (G2 : GH),m = l.length - k1 ∧ G1.le G2 ∧ St w [] G G2 [o2] w1 ∧ Row Enc.u8 1 5 G2 v2 (encL (l.take k1)) o2 ∧ FR ρ1 [(4,v2),(19,vl),(20, .int .i64 (l.length : Int)),(21, .int .i64 (k1 : Int))] ∧ k1 ≤ l.length) _ ⟨0,v1,o1,G1,rfl,(G1.le_refl),hS2,(Row.cast hr1 (by rfl)),⟨rfl,rfl,rfl,rfl,trivial⟩,(by omega)⟩ ?_
  rintro m ρ1 w3 ⟨k1,v2,o2,G2,rfl,hle2,hS3,hr2,hF9,f1⟩
  refine hF9.set ?_
  clear hF9
  refine WL.lssS (k1 : Int) (l.length : Int) rfl rfl rfl (fun h3=>?_) (fun h3=>?_)
  ·refine WL.indexAddr (hvl.mono (hle1.trans hle2)) k1 (by omega) ul36 ti48 rfl rfl rfl rfl (fun p1 x1 hx1 he1=>?_)
   obtain ⟨cs1,hc1,hr3⟩:=he1
   obtain ⟨rfl,hb1,hb2,hb3⟩:=ValE_open hr3
   refine WL.loadGAt hS3 hc1 [.int .i64 x1.k, .int .i64 x1.n,strV x1.s] ti48 rfl rfl rfl rfl rfl ?_
   refine WL.alloc hS3 ti48 rfl rfl (fun b1 w4 hn1 hS4=>?_)
   refine WL.store hS4 0 _ _ _ 0 _ [.int .i64 x1.k, .int .i64 x1.n,strV x1.s] [.int .i64 x1.k, .int .i64 x1.n,strV x1.s] _ rfl rfl ti48 rfl (Nat.le_of_ble_eq_true rfl) rfl rfl rfl rfl rfl rfl (fun w5 hS5=>?_)
   obtain ⟨G3,hle3,hc2,hS6⟩:=hS5.shutB hn1
   have hvx:=all_at (by assumption : l.all valB = true) (by assumption : l[k1]? = some _)
   obtain ⟨hvk,hvb,hvt⟩:=valB_u8 hvx
   have hel:=encT_len (k:=k1) (by assumption : l.all valB = true) (by assumption)
   refine WL.loadG1 hS6 (Cells.drop 0 hc2) ti3 rfl rfl rfl ?_
   refine WL.toU8 x1.k (by assumption) ul3 ul5 rfl rfl ?_
   refine WL.buildSlice _ [(0,[.int .u8 ((UInt8.ofNat x1.k.toNat).toNat : Int)])] [.int .u8 ((UInt8.ofNat x1.k.toNat).toNat : Int)] hS6 sl199 rfl rfl rfl rfl (fun z hz=>by match z,hz with | [z0],_=>rfl) (fun b2 w6 hn2 hS7=>?_)
   refine WL.push (m:=([(UInt8.ofNat x1.k.toNat)] : List UInt8)) sl199 rfl rfl rfl (hr2.mono hle3) hS7 1 rfl 0 _ _ _ _ _ rfl ⟨[.int .u8 ((UInt8.ofNat x1.k.toNat).toNat : Int)],_,rfl,rfl,rfl⟩ rfl (by have hreach : reach = 140737488355328:=rfl; (simp only [List.length_append,List.length_cons,List.length_nil]; omega)) (by have hreach : reach = 140737488355328:=rfl; (simp only [List.length_append,List.length_cons,List.length_nil]; omega)) rfl rfl rfl (fun v3 o3 w7 hr4 hS8=>?_)
   have hS9:=hS8.tail
   refine WL.loadG1 hS9 (Cells.drop 0 hc2) ti3 rfl rfl rfl ?_
   refine WL.eqlS x1.k 2 rfl rfl rfl (fun h4=>?_) (fun h4=>?_)
   ·refine WL.loadG1 hS9 (Cells.drop 2 hc2) ti9 rfl rfl rfl ?_
    refine WL.pushStr sl199 ul9 rfl rfl rfl hr4 hS9 0 rfl (by simp) (by have hreach : reach = 140737488355328:=rfl; (simp only [List.length_append,List.length_cons,List.length_nil]; omega)) rfl rfl rfl (fun v4 o4 w9 hr5 hS10=>?_)
    refine WL.buildSlice _ [(0,[.int .u8 0])] [.int .u8 0] hS10 sl199 rfl rfl rfl rfl (fun z hz=>by match z,hz with | [z0],_=>rfl) (fun b3 w10 hn3 hS11=>?_)
    refine WL.push (m:=([(0 : UInt8)] : List UInt8)) sl199 rfl rfl rfl hr5 hS11 1 rfl 0 _ _ _ _ _ rfl ⟨[.int .u8 0],_,rfl,rfl,rfl⟩ rfl (by have hreach : reach = 140737488355328:=rfl; (simp only [List.length_append,List.length_cons,List.length_nil]; omega)) (by have hreach : reach = 140737488355328:=rfl; (simp only [List.length_append,List.length_cons,List.length_nil]; omega)) rfl rfl rfl (fun v5 o5 w11 hr6 hS12=>?_)
    have hS13:=hS12.tail
    refine WL.incr k1 (by have hreach : reach = 140737488355328:=rfl; omega) rfl rfl rfl ?_
    exact BK.mk' _ ⟨k1 + 1,v5,o5,G3,rfl,(hle2.trans hle3),hS13,(Row.cast hr6 (by (rw [encL_take (by assumption)]; (rw [encV_text (by assumption)]; simp only [List.append_assoc])))),⟨rfl,rfl,rfl,rfl,trivial⟩,(by omega)⟩ (show l.length - (k1 + 1) < l.length - k1 by omega)
   refine WL.eqlS x1.k 3 rfl rfl rfl (fun h5=>?_) (fun h5=>?_)
   ·refine WL.loadG1 hS9 (Cells.drop 1 hc2) ti3 rfl rfl rfl ?_
    refine WL.toU8 x1.n (by exact hvb (by assumption)) ul3 ul5 rfl rfl ?_
    refine WL.buildSlice _ [(0,[.int .u8 ((UInt8.ofNat x1.n.toNat).toNat : Int)])] [.int .u8 ((UInt8.ofNat x1.n.toNat).toNat : Int)] hS9 sl199 rfl rfl rfl rfl (fun z hz=>by match z,hz with | [z0],_=>rfl) (fun b4 w12 hn4 hS14=>?_)
    refine WL.push (m:=([(UInt8.ofNat x1.n.toNat)] : List UInt8)) sl199 rfl rfl rfl hr4 hS14 1 rfl 0 _ _ _ _ _ rfl ⟨[.int .u8 ((UInt8.ofNat x1.n.toNat).toNat : Int)],_,rfl,rfl,rfl⟩ rfl (by have hreach : reach = 140737488355328:=rfl; (simp only [List.length_append,List.length_cons,List.length_nil]; omega)) (by have hreach : reach = 140737488355328:=rfl; (simp only [List.length_append,List.length_cons,List.length_nil]; omega)) rfl rfl rfl (fun v6 o6 w13 hr7 hS15=>?_)
    have hS16:=hS15.tail
    refine WL.incr k1 (by have hreach : reach = 140737488355328:=rfl; omega) rfl rfl rfl ?_
    exact BK.mk' _ ⟨k1 + 1,v6,o6,G3,rfl,(hle2.trans hle3),hS16,(Row.cast hr7 (by (rw [encL_take (by assumption)]; (rw [encV_bool (by assumption)]; simp only [List.append_assoc])))),⟨rfl,rfl,rfl,rfl,trivial⟩,(by omega)⟩ (show l.length - (k1 + 1) < l.length - k1 by omega)
   refine WL.loadG1 hS9 (Cells.drop 1 hc2) ti3 rfl rfl rfl <| WL.toU64m x1.n ul3 ul189 rfl rfl <| WL.xorU x1.n hb2 rfl rfl rfl ?_
   refine LP.go ft [] (fun m ρ1 w1=>∃ (j : Nat),∃ (i : Int),∃ (v7 : Value) (o7 : OB),∃ (G4 : GH),m = (8 - j) ∧ G3.le G4 ∧ St w [] G G4 [o7] w1 ∧ Row Enc.u8 1 5 G4 v7 ((encL (l.take k1) ++ [UInt8.ofNat x1.k.toNat]) ++ encP x1.n j) o7 ∧ FR ρ1 [(4,v7),(7, .int .u64 ((u63 x1.n : Nat) : Int)),(8, .int .i64 i),(19,vl),(20, .int .i64 (l.length : Int)),(21, .int .i64 (k1 : Int))] ∧ j ≤ 8 ∧ i = 56 - 8 * (j : Int)) _ ⟨0,56,v3,o3,G3,rfl,(G3.le_refl),hS9,(Row.cast hr4 (by simp [encP])),⟨rfl,rfl,rfl,rfl,rfl,rfl,trivial⟩,(by omega),(by omega)⟩ ?_
   rintro m ρ1 w14 ⟨j,i,v7,o7,G4,rfl,hle4,hS17,hr8,hF9,f2,f3⟩
   refine hF9.set ?_
   clear hF9
   have hpl:=@encP_len x1.n j
   refine WL.geqS i 0 rfl rfl rfl (fun h6=>?_) (fun h6=>?_)
   ·refine WL.shrU (u63 x1.n) i (by omega) (by omega) rfl rfl rfl ?_
    refine WL.toU8 ((((u63 x1.n) / 2 ^ i.toNat) : Nat) : Int) (by exact Int.natCast_nonneg _) ul189 ul5 rfl rfl ?_
    refine WL.buildSlice _ [(0,[.int .u8 ((UInt8.ofNat ((((u63 x1.n) / 2 ^ i.toNat) : Nat) : Int).toNat).toNat : Int)])] [.int .u8 ((UInt8.ofNat ((((u63 x1.n) / 2 ^ i.toNat) : Nat) : Int).toNat).toNat : Int)] hS17 sl199 rfl rfl rfl rfl (fun z hz=>by match z,hz with | [z0],_=>rfl) (fun b5 w15 hn5 hS18=>?_)
    refine WL.push (m:=([(UInt8.ofNat ((((u63 x1.n) / 2 ^ i.toNat) : Nat) : Int).toNat)] : List UInt8)) sl199 rfl rfl rfl hr8 hS18 1 rfl 0 _ _ _ _ _ rfl ⟨[.int .u8 ((UInt8.ofNat ((((u63 x1.n) / 2 ^ i.toNat) : Nat) : Int).toNat).toNat : Int)],_,rfl,rfl,rfl⟩ rfl (by have hreach : reach = 140737488355328:=rfl; (simp only [List.length_append,List.length_cons,List.length_nil]; omega)) (by have hreach : reach = 140737488355328:=rfl; (simp only [List.length_append,List.length_cons,List.length_nil]; omega)) rfl rfl rfl (fun v9 o8 w16 hr9 hS19=>?_)
    have hS20:=hS19.tail
    have hi1 : I64 (i - 8):=by constructor <;> omega
    refine WL.ar .sub rfl i 8 rfl rfl rfl hi1 ?_
    exact BK.mk' _ ⟨j + 1,(i - 8),v9,o8,G4,rfl,hle4,hS20,(Row.cast hr9 (by (rw [encP_step (by assumption) (by assumption)]; simp only [List.append_assoc]))),⟨rfl,rfl,rfl,rfl,rfl,rfl,trivial⟩,(by omega),(by omega)⟩ (show (8 - (j + 1)) < (8 - j) by omega)
   refine WL.incr k1 (by have hreach : reach = 140737488355328:=rfl; omega) rfl rfl rfl ?_
   exact BK.mk' _ ⟨k1 + 1,v7,o7,G4,rfl,(hle2.trans (hle3.trans hle4)),hS17,(Row.cast hr8 (by (rw [encL_take (by assumption)]; (rw [encV_num (by assumption) (by assumption),encP_all (by omega)]; simp only [List.append_assoc])))),⟨rfl,rfl,rfl,rfl,trivial⟩,(by omega)⟩ (show l.length - (k1 + 1) < l.length - k1 by omega)
  obtain ⟨G5,hle5,hs1,hS21⟩:=Row.freeze hr2 hS3 0 rfl
  exact RT hS21 rfl ⟨_,_,rfl,(Sl.cast hs1 (by (rw [List.take_of_length_le (by omega)]; exact (keyE_yes (by omega) (by assumption)).symm))),(congrArg (Value.int .i64) (by exact (encE_0 (by omega) (by assumption)).symm))⟩
 exact RT hS1 rfl ⟨_,_,rfl,(Sl.cast (Sl.nil Enc.u8 1 G1) (by exact (keyE_no2 (by assumption)).symm)),(congrArg (Value.int .i64) (by exact (encE_1 (by omega) (by assumption)).symm))⟩
theorem c_key {G : GH} {w : World} (hG : G.In w) (l : List Val) (vl : Value) (hvl : Sl ValE 32 G vl l) : CL Tryz.prog (nat_lit 130) #[vl] [] w G fun _ _ r=>r = strV (keyE l):=by
 refine calls_of_go ft [] Tryz.func130 rfl rfl ?_
 have hS:=St.start (X:=[]) hG
 refine WL.cA hS hb169 rfl rfl rfl (c_Encode hS.imm l _ hvl) ?_
 rintro w1 G1 _ ⟨r2,_,rfl,hs1,rfl⟩ hS1 hle1
 refine WL.bytesStr hs1 hS1 ul199 ul5 ul9 rfl rfl ?_
 exact RT hS1 rfl (congrArg strV (by rfl))
end Go.Civ
