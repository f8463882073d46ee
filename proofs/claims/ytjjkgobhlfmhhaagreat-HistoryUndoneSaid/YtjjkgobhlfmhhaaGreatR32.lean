/- Lemmas: Wr, Wm0, We, Sp, Wg2, Civ63, Civ64. -/
import Derived.Test.YtjjkgobhlfmhhaaGreatR16
import Derived.Test.YtjjkgobhlfmhhaaGreatR22
import Derived.Test.YtjjkgobhlfmhhaaGreatR24
import Derived.Test.YtjjkgobhlfmhhaaGreatR28
import Derived.Test.YtjjkgobhlfmhhaaGreatR29
import Derived.Test.YtjjkgobhlfmhhaaGreatR31
import Derived.Test.YtjjkgobhlfmhhaaGreatProg
import Derived.KernelRfl
import Derived.WalkKit
set_option linter.unusedVariables false
set_option linter.unusedSimpArgs false
set_option maxRecDepth 100000
set_option maxHeartbeats 4000000
namespace Go.Civ
open Go.Proofs
theorem c_groups1 {G : GH} {w : World} (hG : G.In w) (x y : HGrp) (cx : List Value) (hcx : HGrpE.rep G x cx) (cy : List Value) (hcy : HGrpE.rep G y cy) : CL Tryz.prog (nat_lit 132) #[.agg cx.toArray, .agg cy.toArray] [] w G fun _ _ r=>r = .int .i64 (ordV x.v y.v):=by
 refine calls_of_go ft [] Tryz.func132 rfl rfl ?_
 have hS:=St.start (X:=[]) hG
 obtain ⟨v1,v2,rfl,hs1,hs2⟩:=HGrpE_open hcx
 obtain ⟨v3,v4,rfl,hs3,hs4⟩:=HGrpE_open hcy
 refine WL.boxG [v1,v2] _ hS rfl rfl rfl (fun p1 w1 G1 hle1 hsp1 hc1 hS1=>?_)
 refine WL.boxG [v3,v4] _ hS1 rfl rfl rfl (fun p2 w2 G2 hle2 hsp2 hc2 hS2=>?_)
 refine WL.loadG1 hS2 (Cells.drop 0 (hc1.mono hle2)) ti36 rfl rfl rfl <| WL.loadG1 hS2 (Cells.drop 0 hc2) ti36 rfl rfl rfl ?_
 refine WL.cV hS2 hb58 rfl rfl rfl (c_Order hS2.imm x.v y.v _ (hs1.mono (hle1.trans hle2)) _ (hs3.mono (hle1.trans hle2))) (fun w3 G3 hS3 hle3=>?_)
 exact RI hS3 rfl (by rfl)
end Go.Civ
set_option linter.unusedVariables false
namespace Go.Civ
open Go.Proofs Go.Shelf Go.RowKit Go.Lib Go.Sort
theorem c_SortG {G : GH} {w : World} (hG : G.In w) (l : List HGrp) (vd : Value) (od : OB) (hvd : Row HGrpE 48 (nat_lit 128) G vd l od) (hod : Lent w G od) (hV : ∀ g ∈ l, g.v.all valB = true) :
    Calls Tryz.prog (nat_lit 131) #[vd, .func (.func 132) #[] #[]] w fun e w' => ∃ r G', e = .returned r ∧ Res (blk od) w G w' G' ∧ r = .tuple #[] ∧ ∃ (l' : List HGrp) (o' : OB), Row HGrpE 48 (nat_lit 128) G' vd l' o' ∧ Lent w' G' o' ∧ (l'.Perm l ∧ l'.Pairwise fun x y => ¬ ordV y.v x.v < 0) :=
  sortRow Tryz.sortGr (E := HGrpE) (by decide) Tryz.isAgg128 Tryz.sizeOf128 (fun x y => ordV x.v y.v) (fun g => g.v.all valB = true)
    (fun x hx => by rw [ordV_valid hx hx, ord.refl]; omega)
    (fun x y z hx hy hz p q => by rw [ordV_valid hx hy] at p; rw [ordV_valid hy hz] at q; rw [ordV_valid hx hz]; exact ord.trans _ _ _ p q)
    (fun x y z hx hy hz p q => by rw [ordV_valid hx hy] at p; rw [ordV_valid hy hz] at q; rw [ordV_valid hx hz]; exact ord.le_trans q p)
    132 (enters_of Tryz.func132 (by kernel_rfl) rfl) hG (fun W hW x y cx cy hx hy rx ry => c_groups1 hW x y cx rx cy ry)
    ⟨[], []⟩ _ (HGrpE_mk ⟨[], []⟩ (Sl.nil _ _ _) (Sl.nil _ _ _)) rfl l hV vd od hvd hod
end Go.Civ
set_option linter.unusedVariables false
set_option linter.unusedSimpArgs false
set_option maxRecDepth 100000
set_option maxHeartbeats 4000000
namespace Go.Civ
open Go.Proofs
theorem c_CloneVs {G : GH} {w : World} (hG : G.In w) (l : List Val) (vl : Value) (hvl : Sl ValE 32 G vl l) : CL Tryz.prog (nat_lit 54) #[vl] [] w G fun G' _ r=>Sl ValE 32 G' r l:=by
 refine calls_of_go ft [] Tryz.func54 rfl rfl ?_
 have hS:=St.start (X:=[]) hG
 refine WL.nilEq hvl ul36 rfl rfl rfl (fun h1=>?_) ?_
 ·exact RT hS rfl (Sl.cast (Sl.nil ValE 32 G) (by exact Eq.symm (by assumption)))
 refine WL.buildSlice _ [] [] hS sl36 rfl rfl rfl rfl (fun z hz=>by match z,hz with | [],_=>rfl) (fun b1 w1 hn1 hS1=>?_)
 have hr1:=Row.empty ValE 32 48 G b1
 refine WL.pushSl sl36 rfl rfl rfl hr1 hS1 0 rfl hvl (by have hreach : reach = 140737488355328:=rfl; have:=hvl.bytes; have:=hvl.bound; simp only [List.length_nil,Nat.zero_add]; omega) (by have hreach : reach = 140737488355328:=rfl; have:=hvl.bytes; have:=hvl.bound; simp only [List.length_nil,Nat.zero_add]; omega) rfl rfl rfl (fun v1 o1 w2 hr2 hS2=>?_)
 obtain ⟨G1,hle1,hs1,hS3⟩:=Row.freeze hr2 hS2 0 rfl
 exact RT hS3 rfl (Sl.cast hs1 (by rfl))
theorem c_flush {w0 : World} {G0 G : GH} {w : World} {R : Own} (v : List Val) (fr c : Int) (l : List HRow) (nw : List Span) (bn bo bf : Nat) (nv vo : Value) (ro : OB) (hnv : Sl SpanE 16 G nv nw) (hvo : Row HRowE 56 (nat_lit 64) G vo l ro) (hS : St w0 [] G0 G (some (bn,(nat_lit 129),[nv]) :: some (bo,(nat_lit 26),[vo]) :: some (bf,(nat_lit 3),[.int .i64 fr]) :: ro :: R) w) (gv : Value) (hgv : Sl ValE 32 G gv v) (gt : Value) (pg : Addr) (hpg : Cells G pg [gv,gt]) (hc64 : I64 c) (hf64 : I64 fr) (hb : l.length + nw.length ≤ 1000000000) : Calls Tryz.prog (nat_lit 161) #[.int .i64 c, .pointer (some ⟨bn,0,none⟩), .pointer (some ⟨bo,0,none⟩), .pointer (some pg), .pointer (some ⟨bf,0,none⟩)] w fun e9 w9=>∃ (G9 : GH) (v9 : Value) (o9 : OB),e9 = .returned (.tuple #[]) ∧ G.le G9 ∧ St w0 [] G0 G9 (some (bn,(nat_lit 129),[nv]) :: some (bo,(nat_lit 26),[v9]) :: some (bf,(nat_lit 3),[.int .i64 fr]) :: o9 :: R) w9 ∧ Row HRowE 56 (nat_lit 64) G9 v9 (l ++ outN v nw fr c) o9:=by
 refine calls_of_go ft [] Tryz.func161 rfl rfl ?_
 refine WL.loadO1 hS 0 _ _ _ 0 _ rfl rfl ti129 rfl rfl rfl ?_
 have bd1:=hnv.bound
 refine WL.lenSl hnv ul129 rfl rfl ?_
 refine LP.go ft [] (fun m ρ1 w1=>∃ (k1 : Nat),∃ (v1 : Value) (o1 : OB),∃ (G1 : GH),m = nw.length - k1 ∧ G.le G1 ∧ St w0 [] G0 G1 (some (bn,(nat_lit 129),[nv]) :: some (bo,(nat_lit 26),[v1]) :: some (bf,(nat_lit 3),[.int .i64 fr]) :: o1 :: R) w1 ∧ Row HRowE 56 64 G1 v1 (l ++ outN v (nw.take k1) fr c) o1 ∧ FR ρ1 [(0, .int .i64 c),(2, .pointer (some ⟨bo,0,none⟩)),(3, .pointer (some pg)),(4, .pointer (some ⟨bf,0,none⟩)),(8,nv),(9, .int .i64 (nw.length : Int)),(10, .int .i64 (k1 : Int))] ∧ k1 ≤ nw.length) _ ⟨0,vo,ro,G,rfl,(G.le_refl),hS,(Row.cast hvo (by simp [outN])),⟨rfl,rfl,rfl,rfl,rfl,rfl,rfl,trivial⟩,(by omega)⟩ ?_
 rintro m ρ1 w1 ⟨k1,v1,o1,G1,rfl,hle1,hS1,hr1,hF9,f1⟩
 refine hF9.set ?_
 clear hF9
 have hol:=outN_len v (nw.take k1) fr c
 have hot:=List.length_take_le' k1 nw
 refine WL.lssS (k1 : Int) (nw.length : Int) rfl rfl rfl (fun h1=>?_) (fun h1=>?_)
 ·refine WL.indexAddr (hnv.mono hle1) k1 (by omega) ul129 ti38 rfl rfl rfl rfl (fun p1 x1 hx1 he1=>?_)
  obtain ⟨cs1,hc1,hr2⟩:=he1
  obtain ⟨rfl,hb1,hb2⟩:=SpanE_open hr2
  refine WL.loadGAt hS1 hc1 [.int .i64 x1.a, .int .i64 x1.b] ti38 rfl rfl rfl rfl rfl ?_
  refine WL.alloc hS1 ti38 rfl rfl (fun b1 w2 hn1 hS2=>?_)
  refine WL.store hS2 0 _ _ _ 0 _ [.int .i64 x1.a, .int .i64 x1.b] [.int .i64 x1.a, .int .i64 x1.b] _ rfl rfl ti38 rfl (Nat.le_of_ble_eq_true rfl) rfl rfl rfl rfl rfl rfl (fun w3 hS3=>?_)
  obtain ⟨G2,hle2,hc2,hS4⟩:=hS3.shutB hn1
  refine dr [(3,true),(9,true),(10,true),(11,false),(12,false)] [(14,v1),(16,gv),(18, .agg #[.int .i64 x1.a, .int .i64 x1.b]),(19, .int .i64 fr),(21, .agg #[.int .i64 fr, .int .i64 c]),(22, .agg #[.int .i64 x1.a, .int .i64 x1.b, .int .i64 fr, .int .i64 c])] hS4 ⟨fun _ hSw=>WL.loadO1 hSw 1 _ _ _ 0 _ rfl rfl ti26 rfl rfl rfl <| nu rfl rfl,fun _ hSw=>WL.loadG1 hSw (Cells.drop 0 (hpg.mono (hle1.trans hle2))) ti36 rfl rfl rfl <| nu rfl rfl,fun _ hSw=>WL.loadGAt hSw hc2 [.int .i64 x1.a, .int .i64 x1.b] ti38 rfl rfl rfl rfl rfl <| nu rfl rfl,fun _ hSw=>WL.loadO1 hSw 2 _ _ _ 0 _ rfl rfl ti3 rfl rfl rfl <| nu rfl rfl,fun _=>WL.build _ [(0,[.int .i64 fr]),(1,[.int .i64 c])] [.int .i64 fr, .int .i64 c] ti38 rfl fl38 rfl rfl rfl rfl <| nu rfl rfl,fun _=>WL.build _ [(0,[.int .i64 x1.a, .int .i64 x1.b]),(1,[.int .i64 fr, .int .i64 c])] [.int .i64 x1.a, .int .i64 x1.b, .int .i64 fr, .int .i64 c] ti62 rfl fl62 rfl rfl rfl rfl <| nu rfl rfl,trivial⟩ (fun w4 hS5=>?_)
  refine WL.cA hS5 hb54 rfl rfl rfl (c_CloneVs hS5.imm v _ (hgv.mono (hle1.trans hle2))) (fun w5 G3 r1 hpost1 hS6 hle3=>?_)
  refine ⟨hS6.down hS5.le hle3,?_⟩
  refine WL.build _ [(0,[r1]),(1,[.int .i64 x1.a, .int .i64 x1.b, .int .i64 fr, .int .i64 c])] [r1, .int .i64 x1.a, .int .i64 x1.b, .int .i64 fr, .int .i64 c] ti64 rfl fl64 rfl rfl (by show [(0,(r1 : Value).cells.toList),(1,(.agg #[.int .i64 x1.a, .int .i64 x1.b, .int .i64 fr, .int .i64 c] : Value).cells.toList)] = _; simp only [hpost1.cells1] <;> rfl) rfl ?_
  refine ⟨hS6.down hS5.le hle3,?_⟩
  refine WL.buildSlice _ [(0,[r1, .int .i64 x1.a, .int .i64 x1.b, .int .i64 fr, .int .i64 c])] [r1, .int .i64 x1.a, .int .i64 x1.b, .int .i64 fr, .int .i64 c] hS6 sl26 rfl rfl rfl rfl (fun z hz=>by match z,hz with | [z0,z1,z2,z3,z4],_=>rfl) (fun b2 w6 hn2 hS7=>?_)
  refine ⟨hS7.tail.down hS5.le hle3,?_⟩
  refine WL.push (m:=([(HRow.mk v (Rect.mk x1 (Span.mk fr c)))] : List HRow)) sl26 rfl rfl rfl (hr1.mono (hle2.trans hle3)) hS7 4 rfl 0 _ _ _ _ _ rfl ⟨[r1, .int .i64 x1.a, .int .i64 x1.b, .int .i64 fr, .int .i64 c],_,rfl,(HRowE_mk (HRow.mk v (Rect.mk x1 (Span.mk fr c))) hpost1 hb1 hb2 hf64 hc64),rfl⟩ rfl (by have hreach : reach = 140737488355328:=rfl; simp only [List.length_append,List.length_cons,List.length_nil]; omega) (by have hreach : reach = 140737488355328:=rfl; simp only [List.length_append,List.length_cons,List.length_nil]; omega) rfl rfl rfl (fun v2 o2 w7 hr3 hS8=>?_)
  have hS9:=hS8.tail
  refine WL.store hS9 1 _ _ _ 0 _ [v2] [v2] _ rfl hr3.cells1 ti26 rfl (Nat.le_of_ble_eq_true rfl) (by simp only [List.all_cons,List.all_nil,hr3.oneC,Bool.true_and] <;> rfl) rfl rfl rfl rfl rfl (fun w9 hS10=>?_)
  refine WL.incr k1 (by have hreach : reach = 140737488355328:=rfl; omega) rfl rfl rfl ?_
  exact BK.mk' _ ⟨k1 + 1,v2,o2,G3,rfl,(hle1.trans (hle2.trans hle3)),hS10,(Row.cast hr3 (by (rw [outN_take (by assumption),List.append_assoc]))),⟨rfl,rfl,rfl,rfl,rfl,rfl,rfl,trivial⟩,(by omega)⟩ (show nw.length - (k1 + 1) < nw.length - k1 by omega)
 exact ⟨_,rfl,G1,v1,o1,rfl,hle1,hS1,(Row.cast hr1 (by rw [outN_all (by omega)]))⟩
end Go.Civ
namespace Go.Civ
open Go.RowKit
set_option linter.unusedVariables false
theorem IncV.unique : ∀ {a b : VV}, IncV a → IncV b → (∀ x, x ∈ a ↔ x ∈ b) → a = b
  | [], [], _, _, _ => rfl
  | [], y :: b, _, _, h => absurd ((h y).2 (by simp)) (by simp)
  | x :: a, [], _, _, h => absurd ((h x).1 (by simp)) (by simp)
  | x :: a, y :: b, ha, hb, h => by
    obtain ⟨ha1, ha2⟩ := List.pairwise_cons.1 ha
    obtain ⟨hb1, hb2⟩ := List.pairwise_cons.1 hb
    have e : x = y := by
      rcases List.mem_cons.1 ((h x).1 (by simp)) with e | e
      · exact e
      · rcases List.mem_cons.1 ((h y).2 (by simp)) with e' | e'
        · exact e'.symm
        · have h1 := hb1 x e
          have h2 := ord.trans _ _ _ h1 (by have := ha1 y e'; omega)
          rw [ord.refl] at h2; omega
    subst e
    rw [IncV.unique ha2 hb2 fun z => ?_]
    have hz := h z
    constructor
    · intro hm
      rcases List.mem_cons.1 (hz.1 (by simp [hm])) with e | e
      · subst e; have := ha1 z hm; rw [ord.refl] at this; omega
      · exact e
    · intro hm
      rcases List.mem_cons.1 (hz.2 (by simp [hm])) with e | e
      · subst e; have := hb1 z hm; rw [ord.refl] at this; omega
      · exact e
theorem snap_r {l : List HRow} (hg : GoodH l) (at_ tx : Int) : snapOf l at_ tx = (valsH l).filter fun v => inR (rtimesH l v tx) at_ := by
  unfold snapOf grpH
  rw [List.filter_map, List.map_map]
  have e : (HGrp.v ∘ fun v => (⟨v, ofV l v⟩ : HGrp)) = id := rfl
  rw [e, List.map_id]
  congr 1
  funext v
  simp only [Function.comp, rtimes_eq hg]
theorem times_in {l : List HRow} (hg : GoodH l) (v : List Val) (at_ tx : Int) : inR (rtimesH l v tx) at_ = true ↔ ∃ r ∈ l, r.v = v ∧ hereB at_ tx r = true := by
  rw [rtimes_eq hg, inR_iff]
  unfold timesH
  rw [(canon_inv fun s hs => spanB_pos (spansH_good (hg.of v).d tx s hs)).cov]
  unfold cover spansH ofV hereB
  constructor
  · rintro ⟨s, hs, h1, h2⟩
    obtain ⟨r, hr, rfl⟩ := List.mem_map.1 hs
    rw [List.mem_filter, List.mem_filter] at hr
    exact ⟨r, hr.1.1, by simpa using hr.1.2, by simp [h1, h2, hr.2]⟩
  · rintro ⟨r, hr, hv, hh⟩
    simp only [Bool.and_eq_true, decide_eq_true_eq] at hh
    exact ⟨r.r.d, List.mem_map.2 ⟨r, List.mem_filter.2 ⟨List.mem_filter.2 ⟨hr, by simpa using hv⟩, hh.2⟩, rfl⟩, hh.1.1, hh.1.2⟩
theorem snap_here {l : List HRow} (hg : GoodH l) (at_ tx : Int) : snapOf l at_ tx = rsnapH l at_ tx := by
  rw [snap_r hg]
  refine IncV.unique ((valsH_inc l).filter _) (valsH_inc _) fun v => ?_
  rw [List.mem_filter, times_in hg, rsnapH, valsH_mem, valsH_mem]
  unfold hereH
  constructor
  · rintro ⟨_, r, hr, hv, hh⟩; exact ⟨r, List.mem_filter.2 ⟨hr, hh⟩, hv⟩
  · rintro ⟨r, hr, hv⟩
    rw [List.mem_filter] at hr
    exact ⟨⟨r, hr.1, hv⟩, r, hr.1, hv, hr.2⟩
def awV : List Val := [⟨1, 5, []⟩]
def awT1 : Table := ⟨colT, [⟨awV, ⟨⟨0, 100⟩, ⟨10, 253402300800⟩⟩⟩], 10⟩
def awR2 : List HRow := [⟨awV, ⟨⟨0, 100⟩, ⟨10, 20⟩⟩⟩, ⟨awV, ⟨⟨0, 40⟩, ⟨20, 253402300800⟩⟩⟩, ⟨awV, ⟨⟨60, 100⟩, ⟨20, 253402300800⟩⟩⟩]
def awT2 : Table := ⟨colT, awR2, 20⟩
def awC0 : Cond := ⟨3, [], [], ⟨0, 0, []⟩, []⟩
theorem awS : schB colT = true := by decide
theorem aw_new : newT colT = ⟨colT, [], -62135596801⟩ ∧ newE colT = 0 := newT_yes awS
theorem goodL {l : List HRow} (h : l.all goodB = true) : GoodH l := fun r hr => List.all_eq_true.1 h r hr
theorem awV1 : validT ⟨colT, [], -62135596801⟩ = true := by rw [← aw_new.1]; exact newT_valid awS
theorem aw_n1 : normH (insRows ⟨colT, [], -62135596801⟩ 10 awV ⟨0, 100⟩) = awT1.rows := by
  rw [norm_eq (goodL (by decide))]; decide
theorem aw_ins : insT ⟨colT, [], -62135596801⟩ 10 awV ⟨0, 100⟩ = awT1 ∧ insE_ ⟨colT, [], -62135596801⟩ 10 awV ⟨0, 100⟩ = 0 := by
  have h := ins_3 (t := ⟨colT, [], -62135596801⟩) (tx := 10) (v := awV) (d := ⟨0, 100⟩) (insOk_y awV1 (by decide)) (by decide)
  rw [← h.1, ← h.2]; unfold doneT doneTE; rw [aw_n1]; decide
theorem awV2 : validT awT1 = true := by rw [← lvalid_eq]; decide
theorem aw_chg : delRows 1 awT1 20 awC0 ⟨40, 60⟩ = awR2 := by decide
theorem aw_n2 : normH (delRows 1 awT1 20 awC0 ⟨40, 60⟩) = awR2 := by
  rw [aw_chg, norm_eq (goodL (by decide))]; decide
theorem aw_del : delT 1 awT1 20 awC0 ⟨40, 60⟩ = awT2 ∧ delE 1 awT1 20 awC0 ⟨40, 60⟩ = 0 := by
  have h := del_3 (d := 1) (t := awT1) (tx := 20) (c := awC0) (p := ⟨40, 60⟩) (insOk_y awV2 (by decide)) (by decide)
  rw [← h.1, ← h.2]; unfold doneT doneTE; rw [aw_n2]; decide
theorem awV3 : validT awT2 = true := by rw [← lvalid_eq]; decide
theorem aw_snap (x : Int) (h : instB x = true) : snapH awT2 50 x = rsnapH awR2 50 x := by
  unfold snapH; rw [awV3, h]
  exact snap_here (goodL (by decide)) _ _
theorem aw_s15 : snapH awT2 50 15 = [awV] := by rw [aw_snap _ (by decide)]; decide
theorem aw_s25 : snapH awT2 50 25 = [] := by rw [aw_snap _ (by decide)]; decide
abbrev awI : Table := insT (newT colT) 10 [(Val.mk 1 5 [])] (Span.mk 0 100)
abbrev awD : Table := delT 1 awI 20 (Cond.mk 3 [] [] (Val.mk 0 0 []) []) (Span.mk 40 60)
theorem awI_1 : awI = awT1 ∧ insE_ (newT colT) 10 [(Val.mk 1 5 [])] (Span.mk 0 100) = 0 := by unfold awI; rw [aw_new.1]; exact aw_ins
theorem awD_1 : awD = awT2 ∧ delE 1 awI 20 (Cond.mk 3 [] [] (Val.mk 0 0 []) []) (Span.mk 40 60) = 0 := by unfold awD; rw [awI_1.1]; exact aw_del
theorem awL : ((awD.rows.length : Nat) : Int) = 3 := by rw [awD_1.1]; rfl
theorem aw15 : (((snapH awD 50 15).length : Nat) : Int) = 1 := by rw [awD_1.1, aw_s15]; rfl
theorem aw25 : (((snapH awD 50 25).length : Nat) : Int) = 0 := by rw [awD_1.1, aw_s25]; rfl
theorem awLa : Cmp.b .eql awD.last 20 = true := by rw [awD_1.1]; rfl
end Go.Civ
