/- Lemmas. -/
import Derived.Test.YthgeclodflmiaaaGreatK27
import Derived.Test.YthgeclodflmiaaaGreatK33
import Derived.Test.YthgeclodflmiaaaGreatK35
import Derived.Test.YthgeclodflmiaaaGreatProg
import Derived.KernelRfl
import Derived.WalkKit
namespace Go.Civ
open Go.RowKit
set_option linter.unusedVariables false
def keyT (t : Table) (e : Int) : Table:=if e = 0 then (if (violT t).isSome then noT else t) else noT
def keyX (t : Table) (e : Int) : Int:=if e = 0 then (if (violT t).isSome then 14 else 0) else e
section
variable {t : Table} {e : Int}
theorem key_1 (h : e ≠ 0) : noT = keyT t e ∧ e = keyX t e:=by unfold keyT keyX; rw [if_neg h,if_neg h]; exact ⟨rfl,rfl⟩
theorem key_2 (h : e = 0) (h2 : (violT t).isSome = true) : noT = keyT t e ∧ 14 = keyX t e:=by unfold keyT keyX; rw [if_pos h,if_pos h,h2]; exact ⟨rfl,rfl⟩
theorem key_3 (h : e = 0) (h2 : (violT t).isSome = false) : t = keyT t e ∧ 0 = keyX t e:=by unfold keyT keyX; rw [if_pos h,if_pos h,h2]; exact ⟨rfl,rfl⟩
end
def kinsT (t : Table) (tx : Int) (v : List Val) (d : Span) : Table:=if uniqB t then keyT (insT t tx v d) (insE_ t tx v d) else noT
def kinsE (t : Table) (tx : Int) (v : List Val) (d : Span) : Int:=if uniqB t then keyX (insT t tx v d) (insE_ t tx v d) else 1
section
variable {t : Table} {tx : Int} {v set : List Val} {d : Span} {k : Nat} {c : Cond} {mask : List Bool}
theorem kins_1 (h : uniqB t = false) : noT = kinsT t tx v d ∧ 1 = kinsE t tx v d:=by unfold kinsT kinsE; rw [h]; exact ⟨rfl,rfl⟩
theorem kins_2 (h : uniqB t = true) : keyT (insT t tx v d) (insE_ t tx v d) = kinsT t tx v d ∧ keyX (insT t tx v d) (insE_ t tx v d) = kinsE t tx v d:=by unfold kinsT kinsE; rw [h]; exact ⟨rfl,rfl⟩
theorem ins_valid (h : insE_ t tx v d = 0) : validT (insT t tx v d) = true:=(ins_parts h).new.valid
end
theorem uniq_1 {t : Table} (h : validT t = false) : HRow.mk [] (Rect.mk (Span.mk 0 0) (Span.mk 0 0)) = uniqR t ∧ false = uniqB t:=by unfold uniqR uniqB; rw [h]; exact ⟨rfl,rfl⟩
theorem uniq_2 {t : Table} (h : validT t = true) (h2 : (violT t).isSome = true) : rowO (some (ptO (violT t))) = uniqR t ∧ false = uniqB t:=by
  unfold uniqR uniqB; rw [h]
  cases e : violT t with
  | none=>rw [e] at h2; cases h2
  | some p=>exact ⟨rfl,rfl⟩
theorem uniq_3 {t : Table} (h : validT t = true) (h2 : (violT t).isSome = false) : HRow.mk [] (Rect.mk (Span.mk 0 0) (Span.mk 0 0)) = uniqR t ∧ true = uniqB t:=by
  unfold uniqR uniqB; rw [h]
  cases e : violT t with
  | none=>exact ⟨rfl,rfl⟩
  | some p=>rw [e] at h2; cases h2
theorem violT_inst {t : Table} (hv : validT t = true) (h : (violT t).isSome = true) : instB (ptO (violT t)).tx = true ∧ instB (ptO (violT t)).vd = true:=by
  by_cases e : ptsOf t.s.key.toNat t.rows = []
  · rw [violT_none e] at h; cases h
  · have hm:=minP_first (pts_VP (k:=t.s.key.toNat) (validT_good hv).1) e
    unfold violT
    rw [violF_some e]
    have h9:=viol_inst hv hm.1
    exact h9
def personV (nm : List UInt8) : List Val:=[⟨1,1,[]⟩,⟨2,0,nm⟩]
abbrev peopS : Schema:=⟨[112,101,111,112,108,101],[⟨[105,100],1⟩,⟨[110,97,109,101],2⟩],1,[]⟩
def peopR : List HRow:=[⟨personV [97],⟨⟨0,10⟩,⟨5,253402300800⟩⟩⟩]
def peopT : Table:=⟨peopS,peopR,5⟩
def peopR2 : List HRow:=[⟨personV [97],⟨⟨0,10⟩,⟨5,253402300800⟩⟩⟩,⟨personV [98],⟨⟨5,20⟩,⟨6,253402300800⟩⟩⟩]
def peopR3 : List HRow:=[⟨personV [97],⟨⟨0,10⟩,⟨5,6⟩⟩⟩,⟨personV [97],⟨⟨0,5⟩,⟨6,253402300800⟩⟩⟩,⟨personV [98],⟨⟨5,20⟩,⟨6,253402300800⟩⟩⟩]
theorem peoS : schB peopS = true:=by decide
theorem peo_new : newT peopS = ⟨peopS,[], -62135596801⟩ ∧ newE peopS = 0:=newT_yes peoS
theorem peoV1 : validT ⟨peopS,[], -62135596801⟩ = true:=by rw [← peo_new.1]; exact newT_valid peoS
theorem peo_n1 : normH (insRows ⟨peopS,[], -62135596801⟩ 5 (personV [97]) ⟨0,10⟩) = peopR:=by rw [norm_eq (goodL (by decide))]; decide
theorem peo_ins : insT ⟨peopS,[], -62135596801⟩ 5 (personV [97]) ⟨0,10⟩ = peopT ∧ insE_ ⟨peopS,[], -62135596801⟩ 5 (personV [97]) ⟨0,10⟩ = 0:=by
  have h:=ins_3 (t:=⟨peopS,[], -62135596801⟩) (tx:=5) (v:=personV [97]) (d:=⟨0,10⟩) (insOk_y peoV1 (by decide)) (by decide)
  rw [← h.1,← h.2]; unfold doneT doneTE; rw [peo_n1]; decide
theorem peo_u0 : uniqB ⟨peopS,[], -62135596801⟩ = true:=by unfold uniqB; rw [peoV1]; rfl
theorem peo_v1 : violT peopT = none:=violT_none (by decide)
theorem peo_k1 : kinsT (newT peopS) 5 (personV [97]) ⟨0,10⟩ = peopT ∧ kinsE (newT peopS) 5 (personV [97]) ⟨0,10⟩ = 0:=by
  rw [peo_new.1]
  have h:=kins_2 (t:=⟨peopS,[], -62135596801⟩) (tx:=5) (v:=personV [97]) (d:=⟨0,10⟩) peo_u0
  rw [← h.1,← h.2,peo_ins.1,peo_ins.2]
  unfold keyT keyX; rw [peo_v1]; exact ⟨rfl,rfl⟩
theorem peoV2 : validT peopT = true:=by rw [← lvalid_eq]; decide
theorem peo_u1 : uniqB peopT = true:=by unfold uniqB; rw [peoV2,peo_v1]; rfl
theorem peo_n2 : normH (insRows peopT 6 (personV [98]) ⟨5,20⟩) = peopR2:=by rw [norm_eq (goodL (by decide))]; decide
theorem peo_ins2 : insT peopT 6 (personV [98]) ⟨5,20⟩ = ⟨peopS,peopR2,6⟩ ∧ insE_ peopT 6 (personV [98]) ⟨5,20⟩ = 0:=by
  have h:=ins_3 (t:=peopT) (tx:=6) (v:=personV [98]) (d:=⟨5,20⟩) (insOk_y peoV2 (by decide)) (by decide)
  rw [← h.1,← h.2]; unfold doneT doneTE; rw [peo_n2]; decide
theorem peo_v2 : (violT ⟨peopS,peopR2,6⟩).isSome = true:=by unfold violT; rw [violF_some (by decide)]; rfl
theorem peo_k2 : kinsE peopT 6 (personV [98]) ⟨5,20⟩ = 14:=by
  have h:=kins_2 (t:=peopT) (tx:=6) (v:=personV [98]) (d:=⟨5,20⟩) peo_u1
  rw [← h.2,peo_ins2.1,peo_ins2.2]
  unfold keyX; rw [peo_v2]; rfl
theorem peo_n3 : normH (mrgL peopT 6 (personV [98]) ⟨5,20⟩) = peopR3:=by unfold mrgL; rw [norm_eq (goodL (by decide))]; decide
theorem peo_m : MrgP peopT 6 (personV [98]) ⟨5,20⟩:=mrg_parts peo_u1 peo_ins2.2 (by rw [peo_n3]; decide) (by decide)
theorem peo_mT : mrgT peopT 6 (personV [98]) ⟨5,20⟩ = ⟨peopS,peopR3,6⟩:=by rw [peo_m.is,peo_n3]; rfl
theorem peo_at : atH (mrgT peopT 6 (personV [98]) ⟨5,20⟩) 6 = [⟨personV [97],⟨0,5⟩⟩,⟨personV [98],⟨5,20⟩⟩]:=by
  rw [at_law peo_m.valid (by decide),peo_mT]; decide
theorem peo_len : (((atH (mrgT peopT 6 (personV [98]) ⟨5,20⟩) 6).length : Nat) : Int) = 2:=by rw [peo_at]; rfl
theorem peo_0 {x : Fact} (h : (atH (mrgT peopT 6 (personV [98]) ⟨5,20⟩) 6)[0]? = some x) : x.t = ⟨0,5⟩:=by rw [peo_at] at h; obtain rfl:=Option.some.inj h; rfl
theorem peo_1 {x : Fact} (h : (atH (mrgT peopT 6 (personV [98]) ⟨5,20⟩) 6)[1]? = some x) : x.t = ⟨5,20⟩:=by rw [peo_at] at h; obtain rfl:=Option.some.inj h; rfl
end Go.Civ
namespace Go.Civ
open Go.RowKit
set_option linter.unusedVariables false
def mrgTo (K : Nat) (l : List HRow) (tx : Int) (v : List Val) (d : Span) (k : Nat) : List HRow:=⟨v,⟨d,⟨tx,253402300800⟩⟩⟩ :: (l.take k).flatMap (mrgOf K v tx d)
section
variable {K k : Nat} {l : List HRow} {tx : Int} {v : List Val} {d : Span} {r : HRow}
theorem mrgTo_step (h : l[k]? = some r) : mrgTo K l tx v d (k + 1) = mrgTo K l tx v d k ++ mrgOf K v tx d r:=by
  unfold mrgTo
  rw [List.take_add_one,h]; simp
theorem mrgTo_no (h : l[k]? = some r) (hc : r.r.x.b ≠ 253402300800 ∨ decide (r.v.take K = v.take K) = false ∨ decide (combR 3 [r.r.d] [d] = [r.r.d]) = true) : mrgTo K l tx v d (k + 1) = mrgTo K l tx v d k ++ [r]:=by
  rw [mrgTo_step h]
  unfold mrgOf
  rw [if_neg]
  rintro ⟨z1,z2,z3⟩
  rcases hc with hc | hc | hc
  · exact hc z1
  · unfold keyB at z2; rw [z2] at hc; cases hc
  · exact z3 (of_decide_eq_true hc)
theorem mrgTo_yes (h : l[k]? = some r) (h1 : r.r.x.b = 253402300800) (h2 : decide (r.v.take K = v.take K) = true) (h3 : decide (combR 3 [r.r.d] [d] = [r.r.d]) = false) :
    mrgTo K l tx v d (k + 1) = (mrgTo K l tx v d k ++ outN r.v (combR 3 [r.r.d] [d]) tx 253402300800) ++ [⟨r.v,⟨r.r.d,⟨r.r.x.a,tx⟩⟩⟩]:=by
  rw [mrgTo_step h,List.append_assoc]
  unfold mrgOf
  rw [if_pos ⟨h1,h2,of_decide_eq_false h3⟩]
theorem mrgTo_all (h : l.length ≤ k) : mrgTo K l tx v d k = mrgRows K l tx v d:=by unfold mrgTo mrgRows; rw [List.take_of_length_le h]
theorem mrgTo_len (hg : GoodH l) (hd : spanB d = true) : (mrgTo K l tx v d k).length ≤ 3 * k + 1:=by
  unfold mrgTo
  rw [List.length_cons]
  have:=mrg_len (k:=K) (v:=v) (tx:=tx) hg hd k
  omega
theorem diff_len {r : HRow} (hr : goodB r = true) (hd : spanB d = true) : (combR 3 [r.r.d] [d]).length ≤ 4:=by
  have h:=combR_len (kind:=3) (a:=[r.r.d]) (b:=[d])
  simpa using h
theorem set_same {α : Type} {l : List α} {x : α} (h : l[k]? = some x) : l.set k x = l:=by
  obtain ⟨h1,h2⟩:=List.getElem?_eq_some_iff.1 h
  rw [← h2]; exact List.set_getElem_self h1
theorem ins_vlen {t : Table} (H : InsOk t tx v d) : t.s.key ≤ v.length:=by
  have h1:=rowE_len H.row
  have h2:=sch_parts (validT_parts H.valid).1
  omega
theorem mrg_v8 {t : Table} (H : InsOk t tx v d) : ∀ r ∈ mrgRows K t.rows tx v d,r.v.length ≤ 1000:=fun r hr=>by
  have h:=mrg_rowOk H r hr
  exact Nat.le_trans (rowE_len (rowOk_parts h).1).1 (by decide)
end
end Go.Civ
namespace Go.Civ
open Go.RowKit
set_option linter.unusedVariables false
def long20 (x : HRow) : Bool:=decide (20 < (x.v.length : Int))
def smallT (t : Table) : Bool:=decide ((t.rows.length : Int) ≤ 24) && decide ((t.s.cols.length : Int) ≤ 10) && decide ((t.s.fks.length : Int) ≤ 10) && !t.rows.any long20
theorem peo_fin : Cmp.b .eql (((kinsT (newT peopS) 5 (personV [97]) ⟨0,10⟩).rows.length : Nat) : Int) 1 = true:=by rw [peo_k1.1]; rfl
end Go.Civ
set_option linter.unusedVariables false
set_option linter.unusedSimpArgs false
set_option maxRecDepth 100000
set_option maxHeartbeats 4000000
namespace Go.Civ
open Go.Proofs
theorem c_rSnapshot {G : GH} {w : World} (hG : G.In w) (l : List HRow) (at_ tx : Int) (vl : Value) (hvl : Sl HRowE 56 G vl l) (hl : l.length ≤ 2000) : CL Tryz.prog (nat_lit 70) #[vl, .int .i64 at_, .int .i64 tx] [] w G fun G' _ r=>Sl (ValE.slice 32) 24 G' r (rsnapH l at_ tx):=by
 refine calls_of_go ft [] Tryz.func70 rfl rfl ?_
 have hS:=St.start (X:=[]) hG
 have hS2:=hS.pad
 refine LP.go ft [] (fun m ρ1 w1=>∃ (k1 : Nat),∃ (v1 : Value) (o1 : OB),∃ (G1 : GH),m = l.length - k1 ∧ G.le G1 ∧ St w [] G G1 [o1] w1 ∧ Row HRowE 56 37 G1 v1 (hereH (l.take k1) at_ tx) o1 ∧ FR ρ1 [(0,vl),(1, .int .i64 at_),(2, .int .i64 tx),(7,v1),(8, .int .i64 (k1 : Int))] ∧ k1 ≤ l.length) _ ⟨0,(.slice none 0 0),none,G,rfl,(G.le_refl),hS2,(Row.cast (Row.nil HRowE 56 37 G) (by rfl)),⟨rfl,rfl,rfl,rfl,rfl,trivial⟩,(by omega)⟩ ?_
 rintro m ρ1 w1 ⟨k1,v1,o1,G1,rfl,hle1,hS1,hr1,hF9,f1⟩
 refine hF9.set ?_
 clear hF9
 have hhl:=hereH_len l at_ tx k1
 have bd1:=hvl.bound
 refine WL.lenSl (hvl.mono hle1) ul26 rfl rfl ?_
 refine WL.lssS (k1 : Int) (l.length : Int) rfl rfl rfl (fun h1=>?_) (fun h1=>?_)
 ·refine WL.indexAddr (hvl.mono hle1) k1 (by omega) ul26 ti37 rfl rfl rfl rfl (fun p1 x1 hx1 he1=>?_)
  obtain ⟨cs1,hc1,hr2⟩:=he1
  obtain ⟨v2,rfl,hs1,hb1,hb2,hb3,hb4⟩:=HRowE_open hr2
  refine WL.loadGAt hS1 (Cells.drop 1 hc1) [.int .i64 x1.r.d.a, .int .i64 x1.r.d.b, .int .i64 x1.r.x.a, .int .i64 x1.r.x.b] ti35 rfl rfl rfl rfl rfl ?_
  refine WL.alloc hS1 ti35 rfl rfl (fun b1 w2 hn1 hS3=>?_)
  refine WL.store hS3 0 _ _ _ 0 _ [.int .i64 x1.r.d.a, .int .i64 x1.r.d.b, .int .i64 x1.r.x.a, .int .i64 x1.r.x.b] [.int .i64 x1.r.d.a, .int .i64 x1.r.d.b, .int .i64 x1.r.x.a, .int .i64 x1.r.x.b] _ rfl rfl ti35 rfl (Nat.le_of_ble_eq_true rfl) rfl rfl rfl rfl rfl rfl (fun w3 hS4=>?_)
  obtain ⟨G2,hle2,hc2,hS5⟩:=hS4.shutB hn1
  refine WL.loadG1 hS5 (Cells.drop 0 (Cells.drop 0 hc2)) ti3 rfl rfl rfl ?_
  refine WL.leqS x1.r.d.a at_ rfl rfl rfl (fun h2=>?_) (fun h2=>?_)
  ·refine WL.loadG1 hS5 (Cells.drop 1 (Cells.drop 0 hc2)) ti3 rfl rfl rfl ?_
   refine WL.lssS at_ x1.r.d.b rfl rfl rfl (fun h3=>?_) (fun h3=>?_)
   ·refine WL.loadG1 hS5 (Cells.drop 0 (Cells.drop 2 hc2)) ti3 rfl rfl rfl ?_
    refine WL.leqS x1.r.x.a tx rfl rfl rfl (fun h4=>?_) (fun h4=>?_)
    ·refine WL.loadG1 hS5 (Cells.drop 1 (Cells.drop 2 hc2)) ti3 rfl rfl rfl ?_
     refine WL.lssS tx x1.r.x.b rfl rfl rfl (fun h5=>?_) (fun h5=>?_)
     ·refine WL.indexAddr (hvl.mono (hle1.trans hle2)) k1 (by omega) ul26 ti37 rfl rfl rfl rfl (fun p2 x2 hx2 he2=>?_)
      obtain rfl : x1 = x2:=Option.some.inj (hx1.symm.trans hx2)
      obtain ⟨cs2,hc3,hr3⟩:=he2
      obtain ⟨v3,rfl,hs2,hb5,hb6,hb7,hb8⟩:=HRowE_open hr3
      refine WL.loadGAt hS5 hc3 [v3, .int .i64 x1.r.d.a, .int .i64 x1.r.d.b, .int .i64 x1.r.x.a, .int .i64 x1.r.x.b] ti37 rfl rfl rfl rfl rfl ?_
      refine WL.buildSlice _ [(0,[v3, .int .i64 x1.r.d.a, .int .i64 x1.r.d.b, .int .i64 x1.r.x.a, .int .i64 x1.r.x.b])] [v3, .int .i64 x1.r.d.a, .int .i64 x1.r.d.b, .int .i64 x1.r.x.a, .int .i64 x1.r.x.b] hS5 sl26 rfl rfl rfl rfl (fun z hz=>by match z,hz with | [z0,z1,z2,z3,z4],_=>rfl) (fun b2 w4 hn2 hS6=>?_)
      refine WL.push (m:=([x1] : List HRow)) sl26 rfl rfl rfl (hr1.mono hle2) hS6 1 rfl 0 _ _ _ _ _ rfl ⟨[v3, .int .i64 x1.r.d.a, .int .i64 x1.r.d.b, .int .i64 x1.r.x.a, .int .i64 x1.r.x.b],_,rfl,(HRowE_mk x1 hs2 hb5 hb6 hb7 hb8),rfl⟩ rfl (by have hreach : reach = 140737488355328:=rfl; simp only [List.length_append,List.length_map,List.length_cons,List.length_nil]; omega) (by have hreach : reach = 140737488355328:=rfl; simp only [List.length_append,List.length_map,List.length_cons,List.length_nil]; omega) rfl rfl rfl (fun v4 o2 w5 hr4 hS7=>?_)
      have hS8:=hS7.tail
      refine WL.incr k1 (by have hreach : reach = 140737488355328:=rfl; omega) rfl rfl rfl ?_
      exact BK.mk' _ ⟨k1 + 1,v4,o2,G2,rfl,(hle1.trans hle2),hS8,(Row.cast hr4 (by (exact (hereH_yes (by assumption) (by assumption) (by assumption) (by assumption) (by assumption)).symm))),⟨rfl,rfl,rfl,rfl,rfl,trivial⟩,(by omega)⟩ (show l.length - (k1 + 1) < l.length - k1 by omega)
     refine WL.incr k1 (by have hreach : reach = 140737488355328:=rfl; omega) rfl rfl rfl ?_
     exact BK.mk' _ ⟨k1 + 1,v1,o1,G2,rfl,(hle1.trans hle2),hS5,(Row.cast (hr1.mono hle2) (by (exact (hereH_no (by assumption) (by omega)).symm))),⟨rfl,rfl,rfl,rfl,rfl,trivial⟩,(by omega)⟩ (show l.length - (k1 + 1) < l.length - k1 by omega)
    refine WL.incr k1 (by have hreach : reach = 140737488355328:=rfl; omega) rfl rfl rfl ?_
    exact BK.mk' _ ⟨k1 + 1,v1,o1,G2,rfl,(hle1.trans hle2),hS5,(Row.cast (hr1.mono hle2) (by (exact (hereH_no (by assumption) (by omega)).symm))),⟨rfl,rfl,rfl,rfl,rfl,trivial⟩,(by omega)⟩ (show l.length - (k1 + 1) < l.length - k1 by omega)
   refine WL.incr k1 (by have hreach : reach = 140737488355328:=rfl; omega) rfl rfl rfl ?_
   exact BK.mk' _ ⟨k1 + 1,v1,o1,G2,rfl,(hle1.trans hle2),hS5,(Row.cast (hr1.mono hle2) (by (exact (hereH_no (by assumption) (by omega)).symm))),⟨rfl,rfl,rfl,rfl,rfl,trivial⟩,(by omega)⟩ (show l.length - (k1 + 1) < l.length - k1 by omega)
  refine WL.incr k1 (by have hreach : reach = 140737488355328:=rfl; omega) rfl rfl rfl ?_
  exact BK.mk' _ ⟨k1 + 1,v1,o1,G2,rfl,(hle1.trans hle2),hS5,(Row.cast (hr1.mono hle2) (by (exact (hereH_no (by assumption) (by omega)).symm))),⟨rfl,rfl,rfl,rfl,rfl,trivial⟩,(by omega)⟩ (show l.length - (k1 + 1) < l.length - k1 by omega)
 obtain ⟨G3,hle3,hs3,hS9⟩:=Row.freeze hr1 hS1 0 rfl
 refine WL.cA hS9 hb129 rfl rfl rfl (c_rlists hS9.imm (hereH (l.take k1) at_ tx) _ hs3 (by omega)) (fun w6 G4 r1 hpost1 hS10 hle4=>?_)
 exact RT hS10 rfl (Sl.cast hpost1 (by rw [List.take_of_length_le (by omega)]; rfl))
end Go.Civ
namespace Go.Civ
open Go.RowKit
set_option linter.unusedVariables false
theorem tf {b : Bool} {P : Prop} (h : b = true) (k : b = false) : P:=Bool.noConfusion (h.symm.trans k)
section
variable {t o : Table} {f : Foreign} {tx : Int} {v : List Val} {d : Span}
theorem uniq_eqB (h : validT t = true) : (uniqB t == !(rviolT t).isSome) = true:=by rw [(uniq_ok h).1]; exact beq_self_eq_true _
end
end Go.Civ
