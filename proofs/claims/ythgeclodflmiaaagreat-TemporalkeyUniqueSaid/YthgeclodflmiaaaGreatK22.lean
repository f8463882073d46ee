/- Lemmas. -/
import Derived.Test.YthgeclodflmiaaaGreatK21
import Derived.Test.YthgeclodflmiaaaGreatRows
set_option linter.unusedVariables false
namespace Go.Civ
open Go.Proofs
section
variable {H : Type} {enc : TypeId × Value → H} {w : World}
theorem opSpan : Opens enc Tryz.prog w 33 SpanE:=opens_pair (g:=fun p=>⟨p.1,p.2⟩) (fun _=>rfl) Tryz.underlying33 rfl (by kernel_rfl) rfl (by kernel_rfl) (by kernel_rfl) (opens_int Tryz.underlying3) (opens_int Tryz.underlying3)
theorem opVal : Opens enc Tryz.prog w 58 ValE:=opens_three (g:=fun p=>⟨p.1,p.2.1,p.2.2⟩) (fun _=>rfl) Tryz.underlying58 rfl (by kernel_rfl) rfl (by kernel_rfl) rfl (by kernel_rfl) (by kernel_rfl) (opens_int Tryz.underlying3) (opens_int Tryz.underlying3) (opens_str Tryz.underlying9)
theorem opVals : Opens enc Tryz.prog w 31 (ValE.slice 32):=opens_slice Tryz.underlying31 (by kernel_rfl) (by decide) (by kernel_rfl) (by decide) opVal
theorem opRect : Opens enc Tryz.prog w 35 RectE:=opens_pair (g:=fun p=>⟨p.1,p.2⟩) (fun _=>rfl) Tryz.underlying35 rfl (by kernel_rfl) rfl (by kernel_rfl) (by kernel_rfl) opSpan opSpan
theorem opRow : Opens enc Tryz.prog w 37 HRowE:=opens_pair (g:=fun p=>⟨p.1,p.2⟩) (fun _=>rfl) Tryz.underlying37 rfl (by kernel_rfl) rfl (by kernel_rfl) (by kernel_rfl) opVals opRect
theorem opRows : Opens enc Tryz.prog w 26 (HRowE.slice 56):=opens_slice Tryz.underlying26 (by kernel_rfl) (by decide) (by kernel_rfl) (by decide) opRow
theorem opCol : Opens enc Tryz.prog w 130 ColE:=opens_pair (g:=fun p=>⟨p.1,p.2⟩) (fun _=>rfl) Tryz.underlying130 rfl (by kernel_rfl) rfl (by kernel_rfl) (by kernel_rfl) (opens_str Tryz.underlying9) (opens_int Tryz.underlying3)
theorem opCols : Opens enc Tryz.prog w 22 (ColE.slice 24):=opens_slice Tryz.underlying22 (by kernel_rfl) (by decide) (by kernel_rfl) (by decide) opCol
theorem opStrs : Opens enc Tryz.prog w 48 (Enc.str.slice 16):=opens_slice Tryz.underlying48 (by kernel_rfl) (by decide) (by kernel_rfl) (by decide) (opens_str Tryz.underlying9)
theorem opForeign : Opens enc Tryz.prog w 50 ForeignE:=opens_pair (g:=fun p=>⟨p.1,p.2⟩) (fun _=>rfl) Tryz.underlying50 rfl (by kernel_rfl) rfl (by kernel_rfl) (by kernel_rfl) opStrs (opens_str Tryz.underlying9)
theorem opForeigns : Opens enc Tryz.prog w 23 (ForeignE.slice 40):=opens_slice Tryz.underlying23 (by kernel_rfl) (by decide) (by kernel_rfl) (by decide) opForeign
theorem opSchema : Opens enc Tryz.prog w 25 SchemaE:=opens_four (g:=fun p=>⟨p.1,p.2.1,p.2.2.1,p.2.2.2⟩) (fun _=>rfl) Tryz.underlying25 rfl (by kernel_rfl) rfl (by kernel_rfl) rfl (by kernel_rfl) rfl (by kernel_rfl) (by kernel_rfl) (opens_str Tryz.underlying9) opCols (opens_int Tryz.underlying3) opForeigns
theorem opTable : Opens enc Tryz.prog w 28 TableE:=opens_three (g:=fun p=>⟨p.1,p.2.1,p.2.2⟩) (fun _=>rfl) Tryz.underlying28 rfl (by kernel_rfl) rfl (by kernel_rfl) rfl (by kernel_rfl) (by kernel_rfl) opSchema opRows (opens_int Tryz.underlying3)
end
theorem ownT : ownKnob Tryz.prog.godebug = none:=by kernel_rfl
theorem laidOutT : laidOutB Tryz.prog = true:=by kernel_rfl
end Go.Civ
namespace Go.Civ
open Go.RowKit
set_option linter.unusedVariables false
def validA (t : Table) : Bool:=schB t.s && decide (-62135596801 ≤ t.last) && decide (t.last < 253402300800) && decide (t.rows.length ≤ 500)
theorem validA_yes {t : Table} (h1 : schB t.s = true) (h2 : -62135596801 ≤ t.last) (h3 : t.last < 253402300800) (h4 : (t.rows.length : Int) ≤ 500) : validA t = true:=by
  unfold validA; rw [h1,decide_eq_true h2,decide_eq_true h3,decide_eq_true (show t.rows.length ≤ 500 by omega)]; rfl
theorem validT_is (t : Table) : validT t = ((validA t && t.rows.all (rowOk t.s t.last)) && decide (t.rows = normH t.rows)):=rfl
theorem validT_a {t : Table} (h : validA t = false) : false = validT t:=by rw [validT_is,h]; rfl
theorem validA_1 {t : Table} (h : schB t.s = false) : validA t = false:=by unfold validA; rw [h]; rfl
theorem validA_2 {t : Table} (h : t.last < -62135596801) : validA t = false:=by unfold validA; rw [decide_eq_false (show ¬ -62135596801 ≤ t.last by omega)]; simp
theorem validA_3 {t : Table} (h : 253402300800 ≤ t.last) : validA t = false:=by unfold validA; rw [decide_eq_false (show ¬ t.last < 253402300800 by omega)]; simp
theorem validA_4 {t : Table} (h : 500 < (t.rows.length : Int)) : validA t = false:=by unfold validA; rw [decide_eq_false (show ¬ t.rows.length ≤ 500 by omega)]; simp
theorem validT_row {t : Table} {k : Nat} {x : HRow} (h : t.rows[k]? = some x) (hx : rowOk t.s t.last x = false) : false = validT t:=by
  rw [validT_is,all_no h hx]; simp
theorem validT_eq {t : Table} (h1 : validA t = true) (h2 : t.rows.all (rowOk t.s t.last) = true) : eqF (fun x y=>decide (x = y)) t.rows (normH t.rows) = validT t:=by
  rw [validT_is,h1,h2,eqF_eq]; rfl
theorem rowOk_1 {s : Schema} {last : Int} {x : HRow} (h : rowE s x.v ≠ 0) : rowOk s last x = false:=by unfold rowOk; rw [decide_eq_false h]; rfl
theorem rowOk_2 {s : Schema} {last : Int} {x : HRow} (h : goodB x = false) : rowOk s last x = false:=by unfold rowOk; rw [h]; simp
theorem rowOk_3 {s : Schema} {last : Int} {x : HRow} (h : last < x.r.x.a) : rowOk s last x = false:=by unfold rowOk; rw [decide_eq_false (show ¬ x.r.x.a ≤ last by omega)]; simp
theorem rowOk_4 {s : Schema} {last : Int} {x : HRow} (h : last < x.r.x.b) (h2 : x.r.x.b ≠ 253402300800) : rowOk s last x = false:=by unfold rowOk; rw [decide_eq_false (show ¬ x.r.x.b ≤ last by omega),decide_eq_false h2]; simp
theorem rowOk_y {s : Schema} {last : Int} {x : HRow} (h1 : rowE s x.v = 0) (h2 : goodB x = true) (h3 : x.r.x.a ≤ last) (h4 : x.r.x.b ≤ last ∨ x.r.x.b = 253402300800) : rowOk s last x = true:=by
  unfold rowOk; rw [decide_eq_true h1,h2,decide_eq_true h3]
  rcases h4 with h4 | h4
  · rw [decide_eq_true h4]; rfl
  · rw [decide_eq_true h4]; simp
theorem rows_good {s : Schema} {last : Int} {l : List HRow} (h : l.all (rowOk s last) = true) : GoodH l ∧ ∀ r ∈ l,r.v.length ≤ 8:=by
  rw [List.all_eq_true] at h
  refine ⟨fun r hr=>?_,fun r hr=>?_⟩
  · have:=h r hr; unfold rowOk at this; simp only [Bool.and_eq_true,decide_eq_true_eq] at this; exact this.1.1.2
  · have:=h r hr; unfold rowOk at this; simp only [Bool.and_eq_true,decide_eq_true_eq] at this; exact (rowE_len this.1.1.1).1
theorem le1000 {l : List HRow} (h : ∀ r ∈ l,r.v.length ≤ 8) : ∀ r ∈ l,r.v.length ≤ 1000:=fun r hr=>Nat.le_trans (h r hr) (by decide)
theorem done_yes {t : Table} {tx : Int} {l : List HRow} (h : ((normH l).length : Int) ≤ 500) : (⟨t.s,normH l,tx⟩ : Table) = doneT t tx l ∧ 0 = doneTE l:=by
  unfold doneT doneTE; rw [if_pos (by omega),if_pos (by omega)]; exact ⟨rfl,rfl⟩
theorem done_no {t : Table} {tx : Int} {l : List HRow} (h : 500 < ((normH l).length : Int)) : noT = doneT t tx l ∧ 5 = doneTE l:=by
  unfold doneT doneTE; rw [if_neg (by omega),if_neg (by omega)]; exact ⟨rfl,rfl⟩
theorem timE_1 {t : Table} {tx : Int} (h : instB tx = false) : 2 = timE t tx:=by unfold timE; rw [h]; rfl
theorem timE_2 {t : Table} {tx : Int} (h : instB tx = true) (h2 : tx ≤ t.last) : 6 = timE t tx:=by unfold timE; rw [h,if_pos rfl,if_pos h2]
theorem timE_3 {t : Table} {tx : Int} (h : instB tx = true) (h2 : t.last < tx) : 0 = timE t tx:=by unfold timE; rw [h,if_pos rfl,if_neg (by omega)]
theorem I64_timE (t : Table) (tx : Int) : I64 (timE t tx):=by unfold timE; split <;> (try split) <;> constructor <;> decide
theorem cmpOr2 (a b : Int) : cmpOr [a,b] = or2 a b:=by
  unfold cmpOr or2
  by_cases ha : a = 0
  · by_cases hb : b = 0 <;> simp [ha,hb]
  · simp [ha]
theorem or2_0 {a b : Int} (h : or2 a b = 0) : a = 0 ∧ b = 0:=by unfold or2 at h; split at h <;> omega
theorem timE_0 {t : Table} {tx : Int} (h : timE t tx = 0) : instB tx = true ∧ t.last < tx:=by
  unfold timE at h
  split at h
  · rename_i h1; split at h <;> first | omega | exact ⟨h1,by omega⟩
  · omega
theorem instB_parts {x : Int} (h : instB x = true) : -62135596800 ≤ x ∧ x < 253402300800:=by unfold instB at h; simpa using h
theorem insOk_1 {t : Table} {d : Span} (h : validT t = false) : insOk t d = false:=by unfold insOk; rw [h]; rfl
theorem insOk_2 {t : Table} {d : Span} (h : spanB d = false) : insOk t d = false:=by unfold insOk; rw [h]; simp
theorem insOk_y {t : Table} {d : Span} (h1 : validT t = true) (h2 : spanB d = true) : insOk t d = true:=by unfold insOk; rw [h1,h2]; rfl
theorem ins_1 {t : Table} {tx : Int} {v : List Val} {d : Span} (h : insOk t d = false) : noT = insT t tx v d ∧ 1 = insE_ t tx v d:=by
  have : insErr t tx v d = 1:=by unfold insErr; rw [h]; rfl
  unfold insT insE_; rw [this]; exact ⟨rfl,rfl⟩
theorem insErr_is {t : Table} {tx : Int} {v : List Val} {d : Span} (h : insOk t d = true) : insErr t tx v d = or2 (rowE t.s v) (timE t tx):=by unfold insErr; rw [h]; rfl
theorem ins_2 {t : Table} {tx : Int} {v : List Val} {d : Span} (h : insOk t d = true) (h2 : cmpOr [rowE t.s v,timE t tx] ≠ 0) : noT = insT t tx v d ∧ cmpOr [rowE t.s v,timE t tx] = insE_ t tx v d:=by
  rw [cmpOr2] at *
  unfold insT insE_; rw [insErr_is h,if_neg h2,if_neg h2]; exact ⟨rfl,rfl⟩
theorem ins_3 {t : Table} {tx : Int} {v : List Val} {d : Span} (h : insOk t d = true) (h2 : cmpOr [rowE t.s v,timE t tx] = 0) : doneT t tx (insRows t tx v d) = insT t tx v d ∧ doneTE (insRows t tx v d) = insE_ t tx v d:=by
  rw [cmpOr2] at *
  unfold insT insE_; rw [insErr_is h,if_pos h2,if_pos h2]; exact ⟨rfl,rfl⟩
theorem insRows_good {t : Table} {tx : Int} {v : List Val} {d : Span} (h : validT t = true) (hd : spanB d = true) (h2 : cmpOr [rowE t.s v,timE t tx] = 0) :
    GoodH (insRows t tx v d) ∧ (∀ r ∈ insRows t tx v d,r.v.length ≤ 1000) ∧ (insRows t tx v d).length ≤ 501:=by
  obtain ⟨g1,g2,g3,_⟩:=validT_good h
  rw [cmpOr2] at h2
  obtain ⟨e1,e2⟩:=or2_0 h2
  obtain ⟨e3,e4⟩:=timE_0 e2
  have e5:=instB_parts e3
  obtain ⟨r1,r2,_,_⟩:=rowE_len e1
  unfold insRows
  refine ⟨fun r hr=>?_,fun r hr=>?_,by simp; omega⟩
  · rcases List.mem_append.1 hr with hr | hr
    · exact g1 r hr
    · rw [List.mem_singleton.1 hr]
      unfold goodB
      simp only [r2,hd,Bool.true_and]
      unfold spanB
      simp; omega
  · rcases List.mem_append.1 hr with hr | hr
    · exact Nat.le_trans (g3 r hr) (by decide)
    · rw [List.mem_singleton.1 hr]; exact Nat.le_trans r1 (by decide)
def snapP (gs : List HGrp) (at_ tx : Int) : List (List Val):=(gs.filter fun g=>inR (timesH g.t tx) at_).map HGrp.v
theorem snapP_yes {gs : List HGrp} {k : Nat} {g : HGrp} {at_ tx : Int} (h : gs[k]? = some g) (hi : inR (timesH g.t tx) at_ = true) : snapP (gs.take (k + 1)) at_ tx = snapP (gs.take k) at_ tx ++ [g.v]:=by
  rw [List.take_add_one,h]; unfold snapP; simp [hi]
theorem snapP_no {gs : List HGrp} {k : Nat} {g : HGrp} {at_ tx : Int} (h : gs[k]? = some g) (hi : inR (timesH g.t tx) at_ = false) : snapP (gs.take (k + 1)) at_ tx = snapP (gs.take k) at_ tx:=by
  rw [List.take_add_one,h]; unfold snapP; simp [hi]
theorem snapP_len (gs : List HGrp) (k : Nat) (at_ tx : Int) : (snapP (gs.take k) at_ tx).length ≤ gs.length:=by
  unfold snapP; rw [List.length_map]; exact Nat.le_trans (List.length_filter_le _ _) (List.length_take_le' _ _)
theorem snap_1 {t : Table} {at_ tx : Int} (h : validT t = false) : [] = snapH t at_ tx:=by unfold snapH; rw [h]; rfl
theorem snap_2 {t : Table} {at_ tx : Int} (h : instB at_ = false) : [] = snapH t at_ tx:=by unfold snapH; rw [h]; simp
theorem snap_3 {t : Table} {at_ tx : Int} (h : instB tx = false) : [] = snapH t at_ tx:=by unfold snapH; rw [h]; simp
theorem snap_y {t : Table} {at_ tx : Int} {k : Nat} (h1 : validT t = true) (h2 : instB at_ = true) (h3 : instB tx = true) (hk : (grpH t.rows).length ≤ k) : snapP ((grpH t.rows).take k) at_ tx = snapH t at_ tx:=by
  unfold snapH; rw [h1,h2,h3,List.take_of_length_le hk]; rfl
def factsP (gs : List HGrp) (tx : Int) : List Fact:=gs.flatMap fun g=>(timesH g.t tx).map (Fact.mk g.v)
theorem factsP_take {gs : List HGrp} {k : Nat} {g : HGrp} {tx : Int} (h : gs[k]? = some g) : factsP (gs.take (k + 1)) tx = factsP (gs.take k) tx ++ (timesH g.t tx).map (Fact.mk g.v):=by
  rw [List.take_add_one,h]; simp [factsP]
theorem factsP_len {gs : List HGrp} {tx : Int} (h : ∀ g ∈ gs,g.t.length ≤ 500) : (factsP gs tx).length ≤ gs.length * 500:=by
  induction gs with
  | nil=>simp [factsP]
  | cons g gs ih=>
    have h1:=Nat.le_trans (timesH_len g.t tx) (h g (by simp))
    have h2:=ih fun x hx=>h x (by simp [hx])
    simp only [factsP,List.flatMap_cons,List.length_append,List.length_cons,List.length_map] at *
    rw [Nat.add_mul]; omega
theorem factsP_takeLen {l : List HRow} {k : Nat} {tx : Int} (hl : l.length ≤ 500) : (factsP ((grpH l).take k) tx).length ≤ 250000:=by
  have h1:=factsP_len (gs:=(grpH l).take k) (tx:=tx) fun g hg=>Nat.le_trans (grpH_t g (List.mem_of_mem_take hg)) hl
  have h2:=List.length_take_le' k (grpH l)
  have h3:=@grpH_len l
  exact Nat.le_trans h1 (Nat.le_trans (Nat.mul_le_mul_right 500 (show ((grpH l).take k).length ≤ 500 by omega)) (by decide))
theorem at_1 {t : Table} {tx : Int} (h : validT t = false) : [] = atH t tx:=by unfold atH; rw [h]; rfl
theorem at_2 {t : Table} {tx : Int} (h : instB tx = false) : [] = atH t tx:=by unfold atH; rw [h]; simp
theorem at_y {t : Table} {tx : Int} {k : Nat} (h1 : validT t = true) (h3 : instB tx = true) (hk : (grpH t.rows).length ≤ k) : factsP ((grpH t.rows).take k) tx = atH t tx:=by
  unfold atH; rw [h1,h3,List.take_of_length_le hk]; rfl
theorem mapT_take {α β : Type} {f : α → β} {l : List α} {k : Nat} {x : α} (h : l[k]? = some x) : (l.take (k + 1)).map f = (l.take k).map f ++ [f x]:=by rw [List.take_add_one,h]; simp
end Go.Civ
namespace Go.Civ
def newT (s : Schema) : Table:=if schB s then ⟨s,[], -62135596801⟩ else noT
def newE (s : Schema) : Int:=if schB s then 0 else 1
theorem new_y {s : Schema} (h : schB s = true) : (⟨s,[], -62135596801⟩ : Table) = newT s ∧ 0 = newE s:=by unfold newT newE; rw [h]; exact ⟨rfl,rfl⟩
theorem new_n {s : Schema} (h : schB s = false) : noT = newT s ∧ 1 = newE s:=by unfold newT newE; rw [h]; exact ⟨rfl,rfl⟩
end Go.Civ
namespace Go.Civ
theorem mapT_all {α β : Type} {f : α → β} {l : List α} {k : Nat} (h : l.length ≤ k) : (l.take k).map f = l.map f:=by rw [List.take_of_length_le h]
end Go.Civ
namespace Go.Civ
open Go.RowKit
set_option linter.unusedVariables false
structure FnO (P : Program) {α : Type} (A : GH → Value → α → Prop) (fid : Nat) (cap : Array Value) (G : GH) (on : α → Prop) (nx : α → Option (List Val)) : Prop where
  body : HasBody P fid
  call : ∀ (G' : GH) (w' : World) (v : Value) (x : α),G.le G' → G'.In w' → on x → A G' v x →
    Calls P fid ([v] ++ cap.toList).toArray w' fun e w''=>∃ r G'',e = .returned r ∧ Res [] w' G' w'' G'' ∧ ∃ r0 r1,r = .tuple #[r0,r1] ∧ Sl ValE 32 G'' r0 ((nx x).getD []) ∧ r1 = .bool (nx x).isSome
theorem FnO.up {P : Program} {α : Type} {A : GH → Value → α → Prop} {fid : Nat} {cap : Array Value} {G G' : GH} {on : α → Prop} {nx : α → Option (List Val)} (h : FnO P A fid cap G on nx) (k : G.le G') : FnO P A fid cap G' on nx:=
  ⟨h.body,fun G2 w' v x hle=>h.call G2 w' v x (k.trans hle)⟩
theorem can_one {s : Span} (h : s.a < s.b) : Can [s]:=⟨by simp,by simpa using h⟩
def piecesS (r d : Span) : List Span:=(if r.a < d.a then [⟨r.a,d.a⟩] else []) ++ (if d.b < r.b then [⟨d.b,r.b⟩] else [])
theorem pieces_can {r d : Span} (hr : r.a < r.b) (hd : d.a < d.b) (h1 : r.a < d.b) (h2 : d.a < r.b) : Can (piecesS r d):=by
  unfold piecesS
  by_cases c1 : r.a < d.a <;> by_cases c2 : d.b < r.b <;> simp only [c1,c2,if_true,if_false,List.nil_append,List.append_nil]
  · exact ⟨by simp; omega,fun s hs=>by simp at hs; rcases hs with rfl | rfl <;> simp <;> omega⟩
  · exact can_one c1
  · exact can_one c2
  · exact ⟨List.Pairwise.nil,by simp⟩
theorem comb_one {r d : Span} (hr : r.a < r.b) (hd : d.a < d.b) (h1 : r.a < d.b) (h2 : d.a < r.b) : combR 3 [r] [d] = piecesS r d:=by
  have h:=combR_inv (kind:=3) (a:=[r]) (b:=[d]) rfl (by simpa using hr) (by simpa using hd)
  refine Can.unique h.1 (pieces_can hr hd h1 h2) fun x=>?_
  rw [h.2]
  have e : keepB 3 (inR [r] x) (inR [d] x) = true ↔ ((r.a ≤ x ∧ x < r.b) ∧ ¬ (d.a ≤ x ∧ x < d.b)):=by
    unfold keepB inR; simp; omega
  rw [e]
  unfold piecesS
  by_cases c1 : r.a < d.a <;> by_cases c2 : d.b < r.b <;> simp only [c1,c2,if_true,if_false,List.nil_append,List.append_nil,List.cons_append,cover_cons] <;> simp [cover] <;> omega
theorem pieces_good {r d : Span} (hr : spanB r = true) (hd : spanB d = true) (h1 : r.a < d.b) (h2 : d.a < r.b) : ∀ s ∈ piecesS r d,spanB s = true:=fun s hs=>by
  unfold spanB at hr hd ⊢
  simp at hr hd ⊢
  unfold piecesS at hs
  rcases List.mem_append.1 hs with hs | hs
  · split at hs
    · obtain rfl:=List.mem_singleton.1 hs; simp only; omega
    · cases hs
  · split at hs
    · obtain rfl:=List.mem_singleton.1 hs; simp only; omega
    · cases hs
theorem pieces_len (r d : Span) : (piecesS r d).length ≤ 2:=by unfold piecesS; rw [List.length_append]; split <;> split <;> simp
theorem touch_comb {r d : Span} (hr : spanB r = true) (hd : spanB d = true) (h1 : r.a < d.b) (h2 : d.a < r.b) : combR 3 [r] [d] = piecesS r d:=comb_one (spanB_pos hr) (spanB_pos hd) h1 h2
theorem part_good {r d : Span} (hr : spanB r = true) (hd : spanB d = true) (h1 : r.a < d.b) (h2 : d.a < r.b) : spanB (partS r d) = true:=by
  unfold spanB at hr hd ⊢
  unfold partS
  simp at hr hd ⊢
  omega
def NxOk (nx : List Val → Option (List Val)) (l : List HRow) : Prop:=∀ r ∈ l,∀ u,nx r.v = some u → u.all valB = true ∧ u.length ≤ 8
structure ChgOk (t : Table) (tx : Int) (d : Span) (nx : List Val → Option (List Val)) : Prop where
  valid : validT t = true
  span : spanB d = true
  inst : instB tx = true
  late : t.last < tx
  next : NxOk nx t.rows
section
variable {t : Table} {tx : Int} {d : Span} {nx : List Val → Option (List Val)} {hl : List Val → Bool}
theorem validT_row1 (h : validT t = true) {r : HRow} (hr : r ∈ t.rows) : goodB r = true ∧ r.v.length ≤ 8 ∧ r.r.x.a ≤ t.last ∧ r.v.length = t.s.cols.length ∧ r.v.all valB = true ∧ t.s.cols.length ≤ 8:=by
  rw [validT_is] at h
  simp only [Bool.and_eq_true] at h
  have h1:=List.all_eq_true.1 h.1.2 r hr
  unfold rowOk at h1
  simp only [Bool.and_eq_true,decide_eq_true_eq] at h1
  obtain ⟨a,b,c,_⟩:=rowE_len h1.1.1.1
  exact ⟨h1.1.1.2,a,h1.1.2,c,b,by omega⟩
theorem chgOf_len (hc : ChgOk t tx d nx) {r : HRow} (hr : r ∈ t.rows) : (chgOf hl nx tx d r).length ≤ 4:=by
  unfold chgOf
  split
  · rename_i h
    simp only [Bool.and_eq_true] at h
    unfold touchB at h
    simp only [Bool.and_eq_true,decide_eq_true_eq] at h
    have hg:=goodB_parts (validT_row1 hc.valid hr).1
    rw [touch_comb hg.2.1 hc.span h.1.1.2 h.1.2]
    have:=pieces_len r.r.d d
    have h2 : (lastN (nx r.v) r.r.d d tx).length ≤ 1:=by unfold lastN; split <;> simp
    simp only [List.length_append,outN_len,List.length_cons,List.length_nil]
    omega
  · simp
theorem chgRows_len (hc : ChgOk t tx d nx) : ∀ k,(chgRows hl nx tx d (t.rows.take k)).length ≤ 4 * k
  | 0=>by simp [chgRows]
  | k + 1=>by
    have ih:=chgRows_len hc k
    cases e : t.rows[k]? with
    | none=>rw [List.take_add_one,e]; simp only [Option.toList,List.append_nil]; omega
    | some r=>
      rw [chgRows_take e,List.length_append]
      have:=chgOf_len (hl:=hl) hc (List.mem_of_getElem? e)
      omega
theorem chgOf_good (hc : ChgOk t tx d nx) {r : HRow} (hr : r ∈ t.rows) : ∀ q ∈ chgOf hl nx tx d r,goodB q = true ∧ q.v.length ≤ 1000:=by
  obtain ⟨g1,g2,g3,_⟩:=validT_row1 hc.valid hr
  have hg:=goodB_parts g1
  have ht:=instB_parts hc.inst
  have hl:=hc.late
  have mk : ∀ (v : List Val) (a b : Span),v.all valB = true → spanB a = true → spanB b = true → goodB ⟨v,⟨a,b⟩⟩ = true:=fun v a b h1 h2 h3=>by unfold goodB; simp only; rw [h1,h2,h3]; rfl
  have hx:=hg.2.2
  unfold spanB at hx
  simp at hx
  have hT : spanB ⟨tx,253402300800⟩ = true:=by unfold spanB; simp; omega
  unfold chgOf
  split
  · rename_i h
    simp only [Bool.and_eq_true] at h
    unfold touchB at h
    simp only [Bool.and_eq_true,decide_eq_true_eq] at h
    rw [touch_comb hg.2.1 hc.span h.1.1.2 h.1.2]
    intro q hq
    rcases List.mem_append.1 hq with hq | hq
    · rcases List.mem_append.1 hq with hq | hq
      · rw [List.mem_singleton.1 hq]
        exact ⟨mk _ _ _ hg.1 hg.2.1 (by unfold spanB; simp; omega),Nat.le_trans g2 (by decide)⟩
      · unfold outN at hq
        obtain ⟨s,hs,rfl⟩:=List.mem_map.1 hq
        exact ⟨mk _ _ _ hg.1 (pieces_good hg.2.1 hc.span h.1.1.2 h.1.2 s hs) hT,Nat.le_trans g2 (by decide)⟩
    · unfold lastN at hq
      split at hq
      · rename_i u hu
        rw [List.mem_singleton.1 hq]
        obtain ⟨u1,u2⟩:=hc.next r hr u hu
        exact ⟨mk _ _ _ u1 (part_good hg.2.1 hc.span h.1.1.2 h.1.2) hT,Nat.le_trans u2 (by decide)⟩
      · cases hq
  · intro q hq
    rw [List.mem_singleton.1 hq]; exact ⟨g1,Nat.le_trans g2 (by decide)⟩
theorem chgRows_good (hc : ChgOk t tx d nx) : GoodH (chgRows hl nx tx d t.rows) ∧ (∀ r ∈ chgRows hl nx tx d t.rows,r.v.length ≤ 1000) ∧ (chgRows hl nx tx d t.rows).length ≤ 2000:=by
  refine ⟨fun q hq=>?_,fun q hq=>?_,?_⟩
  · obtain ⟨r,hr,h⟩:=List.mem_flatMap.1 hq; exact (chgOf_good hc hr q h).1
  · obtain ⟨r,hr,h⟩:=List.mem_flatMap.1 hq; exact (chgOf_good hc hr q h).2
  · have h1:=chgRows_len (hl:=hl) hc t.rows.length
    rw [List.take_length] at h1
    have:=(validT_good hc.valid).2.1
    omega
end
end Go.Civ
namespace Go.Civ
end Go.Civ
namespace Go.Civ
end Go.Civ
namespace Go.Civ
open Go.RowKit
set_option linter.unusedVariables false
section
variable {d : Nat} {t : Table} {tx : Int} {c : Cond} {p : Span} {set : List Val} {mask : List Bool}
theorem insOk_parts (h : insOk t p = true) : validT t = true ∧ spanB p = true:=by unfold insOk at h; simpa using h
end
section
variable {cols : List Col} {set : List Val} {mask : List Bool} {j : Nat}
end
section
variable {t : Table} {a b : Int}
end
end Go.Civ
namespace Go.Civ
open Go.RowKit
set_option linter.unusedVariables false
def UpV (out : VV) (v : List Val) (k : Nat) : Prop:=∀ j,k ≤ j → ∀ u,out[j]? = some u → 0 < cmpL cmpV u v
theorem UpV.start {out : VV} {v : List Val} : UpV out v out.length:=fun j hj u hu=>by have:=(List.getElem?_eq_some_iff.1 hu).1; omega
theorem UpV.step {out : VV} {v u : List Val} {k : Nat} (h : UpV out v k) (hu : out[k - 1]? = some u) (h1 : 0 < cmpL cmpV u v) : UpV out v (k - 1):=fun j hj w hw=>by
  by_cases e : k ≤ j
  · exact h j e w hw
  · obtain rfl : j = k - 1:=by omega
    rw [hu] at hw; obtain rfl:=Option.some.inj hw; exact h1
theorem inc_low {out : VV} {v u : List Val} {k : Nat} (hi : IncV out) (hu : out[k]? = some u) (h : cmpL cmpV u v ≤ 0) : ∀ j,j < k → ∀ w,out[j]? = some w → cmpL cmpV w v < 0:=fun j hj w hw=>by
  obtain ⟨k1,rfl⟩:=List.getElem?_eq_some_iff.1 hu
  obtain ⟨j1,rfl⟩:=List.getElem?_eq_some_iff.1 hw
  have h1:=List.pairwise_iff_getElem.1 hi j k j1 k1 hj
  by_cases e : cmpL cmpV out[k] v = 0
  · rw [(ord.eq _ _).1 e] at h1; exact h1
  · exact ord.trans _ _ _ h1 (by omega)
theorem insV_at {out : VV} {v u : List Val} {k : Nat} (hi : IncV out) (hk : 0 < k) (hu : out[k - 1]? = some u) (h : cmpL cmpV u v = 0) : insV out v = out:=
  vals_found (Nat.le_of_lt (List.getElem?_eq_some_iff.1 hu).1) (inc_low hi hu (by omega)) hu (by omega) ((ord.eq _ _).1 h)
theorem insV_new {out : VV} {v : List Val} {k : Nat} (hi : IncV out) (hU : UpV out v k) (hk : k ≤ out.length) (h : k = 0 ∨ ∃ u,out[k - 1]? = some u ∧ cmpL cmpV u v < 0) : insV out v = out.take k ++ [v] ++ out.drop k:=by
  refine vals_put hk (fun j hj w hw=>?_) (fun w hw=>?_) (fun e=>?_)
  · rcases h with h | ⟨u,hu,h⟩
    · omega
    · by_cases e : j = k - 1
      · subst e; rw [hu] at hw; obtain rfl:=Option.some.inj hw; exact h
      · exact inc_low hi hu (by omega) j (by omega) w hw
  · have:=hU k (Nat.le_refl _) w hw; omega
  · have:=hU k (Nat.le_refl _) v e; rw [ord.refl] at this; omega
theorem insV_put0 {out : VV} {v : List Val} {k : Nat} (hi : IncV out) (hU : UpV out v k) (hk : k ≤ out.length) (h : k = 0) : (([] ++ out.take k) ++ [v]) ++ out.drop k = insV out v:=by rw [insV_new hi hU hk (.inl h)]; simp
theorem insV_put1 {out : VV} {v u : List Val} {k : Nat} (hi : IncV out) (hU : UpV out v k) (hk : k ≤ out.length) (hu : out[k - 1]? = some u) (h1 : cmpL cmpV u v ≤ 0) (h2 : cmpL cmpV u v ≠ 0) : (([] ++ out.take k) ++ [v]) ++ out.drop k = insV out v:=by
  rw [insV_new hi hU hk (.inr ⟨u,hu,by omega⟩)]; simp
theorem combR_len {kind : Int} {a b : List Span} : (combR kind a b).length ≤ 2 * (a.length + b.length):=by
  have h:=endsR_len (a ++ b)
  rw [List.length_append] at h
  unfold combR
  exact Nat.le_trans (combS_len _) (by omega)
theorem some_at' {α : Type} {l : List α} {k : Nat} (h : k < l.length) : ∃ x,l[k]? = some x:=⟨_,List.getElem?_eq_getElem h⟩
end Go.Civ
namespace Go.Civ
end Go.Civ
namespace Go.Civ
end Go.Civ
namespace Go.Civ
open Go.RowKit
set_option linter.unusedVariables false
def hereB (at_ tx : Int) (r : HRow) : Bool:=decide (r.r.d.a ≤ at_) && decide (at_ < r.r.d.b) && liveB tx r
def hereH (l : List HRow) (at_ tx : Int) : List HRow:=l.filter (hereB at_ tx)
def rsnapH (l : List HRow) (at_ tx : Int) : VV:=valsH (hereH l at_ tx)
def ratH (l : List HRow) (tx : Int) (vs : VV) : List Fact:=vs.flatMap fun v=>(rtimesH l v tx).map (Fact.mk v)
theorem hereH_yes {l : List HRow} {k : Nat} {x : HRow} {at_ tx : Int} (h : l[k]? = some x) (h1 : x.r.d.a ≤ at_) (h2 : at_ < x.r.d.b) (h3 : x.r.x.a ≤ tx) (h4 : tx < x.r.x.b) : hereH (l.take (k + 1)) at_ tx = hereH (l.take k) at_ tx ++ [x]:=by
  rw [List.take_add_one,h]; unfold hereH hereB liveB; simp [h1,h2,h3,h4]
theorem hereH_no {l : List HRow} {k : Nat} {x : HRow} {at_ tx : Int} (h : l[k]? = some x) (h1 : at_ < x.r.d.a ∨ x.r.d.b ≤ at_ ∨ tx < x.r.x.a ∨ x.r.x.b ≤ tx) : hereH (l.take (k + 1)) at_ tx = hereH (l.take k) at_ tx:=by
  rw [List.take_add_one,h]; unfold hereH
  have : hereB at_ tx x = false:=by
    rw [Bool.eq_false_iff]; unfold hereB liveB; simp only [ne_eq,Bool.and_eq_true,decide_eq_true_eq]; omega
  simp [this]
theorem hereH_len (l : List HRow) (at_ tx : Int) (k : Nat) : (hereH (l.take k) at_ tx).length ≤ l.length:=Nat.le_trans (List.length_filter_le _ _) (List.length_take_le' _ _)
section
variable {hl : List Val → Bool} {nx : List Val → Option (List Val)} {tx : Int} {d : Span} {l : List HRow} {k : Nat} {r : HRow}
end
end Go.Civ
namespace Go.Civ
open Go.RowKit
set_option linter.unusedVariables false
section
variable {t : Table} {tx : Int} {v : List Val} {d : Span} {rows : List HRow}
end
section
variable {k : Nat} {t : Table} {tx : Int} {c : Cond} {d : Span}
end
section
variable {k : Nat} {t : Table} {tx : Int} {c : Cond} {set : List Val} {mask : List Bool} {d : Span}
end
theorem newT_valid {s : Schema} (h : schB s = true) : validT (newT s) = true:=by
  unfold newT; rw [if_pos h]
  unfold validT; simp only [h]; rfl
theorem newT_yes {s : Schema} (h : schB s = true) : newT s = ⟨s,[], -62135596801⟩ ∧ newE s = 0:=⟨(new_y h).1.symm,(new_y h).2.symm⟩
end Go.Civ
namespace Go.Civ
end Go.Civ
