/- Lemmas: Wm1, Wj1, Wl0, Sx, Sy. -/
import Derived.Test.YtjjkgobhlfmhhaaGreatQ12
import Derived.Test.YtjjkgobhlfmhhaaGreatQ32
import Derived.Test.YtjjkgobhlfmhhaaGreatQ39
import Derived.Test.YtjjkgobhlfmhhaaGreatQ41
import Derived.Test.YtjjkgobhlfmhhaaGreatProg
import Derived.KernelRfl
import Derived.WalkKit
set_option linter.unusedVariables false
set_option linter.unusedSimpArgs false
set_option maxRecDepth 100000
set_option maxHeartbeats 4000000
namespace Go.Civ
open Go.Proofs
theorem c_Snapshot {G : GH} {w : World} (hG : G.In w) (t : Table) (at_ tx : Int) (ct : List Value) (hct : TableE.rep G t ct) : CL Tryz.prog (nat_lit 31) #[.agg ct.toArray, .int .i64 at_, .int .i64 tx] [] w G fun G' _ r=>Sl (ValE.slice 32) 24 G' r (snapH t at_ tx):=by
 refine calls_of_go ft [] Tryz.func31 rfl rfl ?_
 have hS:=St.start (X:=[]) hG
 obtain ⟨v1,v2,v3,rfl,hb1,hs1,hb2,hs2,hs3,hb3⟩:=TableE_open hct
 refine WL.boxG [strV t.s.name,v1, .int .i64 t.s.key,v2,v3, .int .i64 t.last] _ hS rfl rfl rfl (fun p1 w1 G1 hle1 hsp1 hc1 hS1=>?_)
 refine WL.loadGAt hS1 hc1 [strV t.s.name,v1, .int .i64 t.s.key,v2,v3, .int .i64 t.last] ti28 rfl rfl rfl rfl rfl ?_
 refine WL.cV hS1 hb15 rfl rfl rfl (c_hValid hS1.imm t _ (TableE_mk t hb1 (hs1.mono hle1) hb2 (hs2.mono hle1) (hs3.mono hle1) hb3)) (fun w2 G2 hS2 hle2=>?_)
 refine WL.split (fun (h1 : (validT t) = true)=>?_) (fun (h1 : (validT t) = false)=>?_)
 ·refine WL.cV hS2 hb91 rfl rfl rfl (c_instant hS2.imm at_) (fun w3 G3 hS3 hle3=>?_)
  refine WL.split (fun (h2 : (instB at_) = true)=>?_) (fun (h2 : (instB at_) = false)=>?_)
  ·refine WL.cV hS3 hb91 rfl rfl rfl (c_instant hS3.imm tx) (fun w4 G4 hS4 hle4=>?_)
   refine WL.split (fun (h3 : (instB tx) = true)=>?_) (fun (h3 : (instB tx) = false)=>?_)
   ·obtain ⟨hg9,hn9,h89,_⟩:=validT_good (by assumption : validT t = true)
    have hgl:=@grpH_len t.rows
    refine WL.loadG1 hS4 (Cells.drop 4 (hc1.mono ((hle2.trans hle3).trans hle4))) ti26 rfl rfl rfl ?_
    refine WL.cA hS4 hb92 rfl rfl rfl (c_groups hS4.imm t.rows _ (hs3.mono (((hle1.trans hle2).trans hle3).trans hle4)) hg9 (le1000 h89) (Nat.le_trans hn9 (by decide))) (fun w5 G5 r1 hpost1 hS5 hle5=>?_)
    have bd1:=hpost1.bound
    refine WL.lenSl hpost1 ul125 rfl rfl ?_
    have hS7:=hS5.pad
    refine LP.go ft [] (fun m ρ1 w1=>∃ (k1 : Nat),∃ (v4 : Value) (o1 : OB),∃ (G6 : GH),m = (grpH t.rows).length - k1 ∧ G5.le G6 ∧ St w [] G G6 [o1] w1 ∧ Row (ValE.slice 32) 24 36 G6 v4 (snapP ((grpH t.rows).take k1) at_ tx) o1 ∧ FR ρ1 [(1, .int .i64 at_),(2, .int .i64 tx),(7,v4),(25,r1),(26, .int .i64 (((grpH t.rows).length : Nat) : Int)),(27, .int .i64 (k1 : Int))] ∧ k1 ≤ (grpH t.rows).length) _ ⟨0,(.slice none 0 0),none,G5,rfl,(G5.le_refl),hS7,(Row.cast (Row.nil (ValE.slice 32) 24 36 G5) (by rfl)),⟨rfl,rfl,rfl,rfl,rfl,rfl,trivial⟩,(by omega)⟩ ?_
    rintro m ρ1 w6 ⟨k1,v4,o1,G6,rfl,hle6,hS6,hr1,hF9,f1⟩
    refine hF9.set ?_
    clear hF9
    have hsl:=snapP_len (grpH t.rows) k1 at_ tx
    refine WL.lssS (k1 : Int) (((grpH t.rows).length : Nat) : Int) rfl rfl rfl (fun h4=>?_) (fun h4=>?_)
    ·refine WL.indexAddr (hpost1.mono hle6) k1 (by omega) ul125 ti128 rfl rfl rfl rfl (fun p2 x1 hx1 he1=>?_)
     obtain ⟨cs1,hc2,hr2⟩:=he1
     obtain ⟨v5,v6,rfl,hs4,hs5⟩:=HGrpE_open hr2
     refine WL.loadGAt hS6 hc2 [v5,v6] ti128 rfl rfl rfl rfl rfl ?_
     refine WL.alloc hS6 ti128 rfl rfl (fun b1 w7 hn1 hS8=>?_)
     refine WL.store hS8 0 _ _ _ 0 _ [v5,v6] [v5,v6] _ rfl rfl ti128 rfl (Nat.le_of_ble_eq_true rfl) (by simp only [List.all_cons,List.all_nil,hs4.oneC,hs5.oneC,Bool.true_and] <;> rfl) rfl rfl rfl rfl rfl (fun w9 hS9=>?_)
     obtain ⟨G7,hle7,hc3,hS10⟩:=hS9.shutB hn1
     have hok9:=grpH_ok hg9 (Nat.le_trans hn9 (by decide)) (by assumption : (grpH t.rows)[k1]? = some _)
     refine WL.loadG1 hS10 (Cells.drop 1 hc3) ti26 rfl rfl rfl ?_
     refine WL.cA hS10 hb93 rfl rfl rfl (c_htimes hS10.imm x1.t tx _ (hs5.mono hle7) hok9.1 hok9.2) (fun w10 G9 r2 hpost2 hS11 hle9=>?_)
     refine WL.cV hS11 hb94 rfl rfl rfl (c_runsHas hS11.imm (timesH x1.t tx) at_ _ hpost2 (timesH_can hok9.1 _) (timesH_V hok9.1 _) (Nat.le_trans (timesH_len _ _) hok9.2)) (fun w11 G10 hS12 hle10=>?_)
     refine WL.split (fun (h5 : (inR (timesH x1.t tx) at_) = true)=>?_) (fun (h5 : (inR (timesH x1.t tx) at_) = false)=>?_)
     ·refine WL.loadG1 hS12 (Cells.drop 0 (hc3.mono (hle9.trans hle10))) ti36 rfl rfl rfl ?_
      refine WL.cA hS12 hb54 rfl rfl rfl (c_CloneVs hS12.imm x1.v _ (hs4.mono ((hle7.trans hle9).trans hle10))) (fun w12 G11 r3 hpost3 hS13 hle11=>?_)
      refine WL.buildSlice _ [(0,[r3])] [r3] hS13 sl56 rfl rfl rfl (by show [(0,(r3 : Value).cells.toList)] = _; simp only [hpost3.cells1] <;> rfl) (fun z hz=>by match z,hz with | [z0],_=>rfl) (fun b2 w13 hn2 hS14=>?_)
      refine WL.push (m:=([x1.v] : List (List Val))) sl56 rfl rfl rfl (hr1.mono (((hle7.trans hle9).trans hle10).trans hle11)) hS14 1 rfl 0 _ _ _ _ _ rfl ⟨[r3],_,rfl,⟨_,rfl,hpost3⟩,rfl⟩ rfl (by have hreach : reach = 140737488355328:=rfl; simp only [List.length_append,List.length_cons,List.length_nil]; omega) (by have hreach : reach = 140737488355328:=rfl; simp only [List.length_append,List.length_cons,List.length_nil]; omega) rfl rfl rfl (fun v7 o2 w14 hr3 hS15=>?_)
      have hS16:=hS15.tail
      refine WL.incr k1 (by have hreach : reach = 140737488355328:=rfl; omega) rfl rfl rfl ?_
      exact BK.mk' _ ⟨k1 + 1,v7,o2,G11,rfl,(hle6.trans (((hle7.trans hle9).trans hle10).trans hle11)),hS16,(Row.cast hr3 (by (exact (snapP_yes (by assumption) (by assumption)).symm))),⟨rfl,rfl,rfl,rfl,rfl,rfl,trivial⟩,(by omega)⟩ (show (grpH t.rows).length - (k1 + 1) < (grpH t.rows).length - k1 by omega)
     refine WL.incr k1 (by have hreach : reach = 140737488355328:=rfl; omega) rfl rfl rfl ?_
     exact BK.mk' _ ⟨k1 + 1,v4,o1,G10,rfl,(hle6.trans ((hle7.trans hle9).trans hle10)),hS12,(Row.cast (hr1.mono ((hle7.trans hle9).trans hle10)) (by (exact (snapP_no (by assumption) (by assumption)).symm))),⟨rfl,rfl,rfl,rfl,rfl,rfl,trivial⟩,(by omega)⟩ (show (grpH t.rows).length - (k1 + 1) < (grpH t.rows).length - k1 by omega)
    obtain ⟨G12,hle12,hs6,hS17⟩:=Row.freeze hr1 hS6 0 rfl
    exact RT hS17 rfl (Sl.cast hs6 (by exact snap_y (by assumption) (by assumption) (by assumption) (by omega)))
   exact RT hS4 rfl (Sl.cast (Sl.nil (ValE.slice 32) 24 G4) (by exact snap_3 (by assumption)))
  exact RT hS3 rfl (Sl.cast (Sl.nil (ValE.slice 32) 24 G3) (by exact snap_2 (by assumption)))
 exact RT hS2 rfl (Sl.cast (Sl.nil (ValE.slice 32) 24 G2) (by exact snap_1 (by assumption)))
end Go.Civ
set_option linter.unusedVariables false
namespace Go.Civ
open Go.Proofs Go.Shelf Go.RowKit Go.Lib Go.Sort

set_option maxHeartbeats 2000000 in
theorem sortRowH {P : Program} {fS : Nat} {α : Type} {E : Enc α} {by_ : Nat} {tid : TypeId} (hk0 : 0 < E.n) (cf : α → α → Int) (V : α → Prop) (gf : Nat) {G : GH} {w : World} (hG : G.In w)
    (hnone : ∀ w, Calls P fS #[.slice none 0 0, .func (.func gf) #[] #[]] w fun e w' => e = .returned (.tuple #[]) ∧ w' = w)
    (hlaw : ∀ [Inhabited (Elt E G V)] (b cap : Nat) (d : Array (Elt E G V)) (cs : List Value) (ty : TypeId), w.heap[b]? = some (.cells cs.toArray ty (0, 0)) → G b = none → HoldsK (fun x : Elt E G V => x.1.2) E.n w b 0 d → b < w.heap.size → d.size < 4611686018427387904 →
      Calls P fS #[.slice (some ⟨b, 0, none⟩) d.size cap, .func (.func gf) #[] #[]] w fun e w' => e = .returned (.tuple #[]) ∧ ∃ d' n os, PermIn 0 d.size d d' ∧ SortedIn (ltOf fun x y : Elt E G V => cf x.1.1 y.1.1) 0 d.size d' ∧ w' = sortWorldK (fun x : Elt E G V => x.1.2) E.n w b 0 n d' os)
    (x0 : α) (c0 : List Value) (h0 : E.rep G x0 c0) (hV0 : V x0) (l : List α) (hV : ∀ x ∈ l, V x) (vd : Value) (od : OB) (hvd : Row E by_ tid G vd l od) (hod : Lent w G od) :
    Calls P fS #[vd, .func (.func gf) #[] #[]] w fun e w' => ∃ r G', e = .returned r ∧ Res (blk od) w G w' G' ∧ r = .tuple #[] ∧ ∃ (l' : List α) (o' : OB), Row E by_ tid G' vd l' o' ∧ Lent w' G' o' ∧ (l'.Perm l ∧ l'.Pairwise fun x y => ¬ cf y x < 0) := by
  rcases hvd with ⟨rfl, rfl, rfl⟩ | ⟨b, cs, cap, xs, rfl, rfl, h3, h4, h5, h6, h7, h8, h9⟩
  · exact (hnone w).mono fun e w' ⟨he, hw⟩ => by
      subst hw
      exact ⟨_, G, he, Res.refl hG, rfl, [], none, .inl ⟨rfl, rfl, rfl⟩, fun p hp => (by cases hp), List.Perm.refl _, List.Pairwise.nil⟩
  · obtain ⟨hb1, hb2⟩ := hod _ rfl
    simp only [objOf] at hb1
    obtain ⟨dl, rfl, rfl⟩ := flat_elts l xs h6 hV
    letI : Inhabited (Elt E G V) := ⟨⟨(x0, c0), h0, hV0⟩⟩
    have hkE : ∀ x : Elt E G V, (x.1.2).length = E.n := fun x => E.len x.2.1
    have hsz : dl.toArray.size = (dl.map (·.1.1)).length := by simp
    have hcell : ∀ t, t < dl.toArray.size * E.n → cs[t]? = some ((flatK (fun x : Elt E G V => x.1.2) E.n dl.toArray)[t]!) := fun t ht => by
      rw [← flatK_atK (fun x : Elt E G V => x.1.2) E.n hk0 hkE dl.toArray t ht]
      have e7 := congrArg (·[t]?) h7
      rw [List.getElem?_take, if_pos (by rw [← hsz]; exact ht)] at e7
      exact e7
    have hH : HoldsK (fun x : Elt E G V => x.1.2) E.n w b 0 dl.toArray := fun t ht => by
      rw [size_flatK] at ht
      refine ⟨?_, ?_⟩
      · rw [Nat.zero_add]
        simp only [World.cell?, hb1]
        have := hcell t ht
        simpa using this
      · simp [World.frozen?, hb1]
    have hcon := hlaw b cap dl.toArray _ _ hb1 hb2 hH (Array.getElem?_eq_some_iff.1 hb1).1 (by rw [hsz]; unfold reach at h9; omega)
    rw [hsz] at hcon
    refine hcon.mono fun e w' ⟨he, d', n, os, hp, hs, hw⟩ => ?_
    obtain ⟨hp1, hp2, hp3⟩ := hp
    have hd' : d'.size = dl.length := by simpa using hp1
    have hperm : d'.toList.Perm dl := by
      have e1 : d'.extract 0 dl.toArray.size = d' := by rw [← hp1]; simp
      have e2 : dl.toArray.extract 0 dl.toArray.size = dl.toArray := by simp
      rw [hsz.symm, e1, e2] at hp3; simpa using hp3
    have hbl : b < w.heap.size := (Array.getElem?_eq_some_iff.1 hb1).1
    subst hw
    obtain ⟨cs', hcs'⟩ : ∃ cs' : List Value, cs' = (putCells id 0 (flatK (fun x : Elt E G V => x.1.2) E.n d') cs.toArray).toList := ⟨_, rfl⟩
    have hres := sort_res (fun x : Elt E G V => x.1.2) E.n hG b n d' os hb1 hb2
    have hlen : (d'.toList.map (·.1.1)).length = (dl.map (·.1.1)).length := by simp [hd']
    have hln : (dl.map (·.1.1)).length = dl.length := by simp
    have h5' : cs.length = cap * E.n := h5
    have hfl : (d'.toList.flatMap (·.1.2)).length = d'.size * E.n := by
      have := Flat.len (elts_flat d'.toList); simpa using this
    have hcapd : d'.size * E.n ≤ cs.length := by
      rw [h5']; exact Nat.mul_le_mul_right _ (by omega)
    refine ⟨_, G, he, hres, rfl, d'.toList.map (·.1.1), some (b, tid, cs'), .inr ⟨b, cs', cap, d'.toList.flatMap (·.1.2), rfl, by rw [hlen], by rw [hlen]; exact h3, h4, ?_, elts_flat _, ?_, by rw [hlen]; exact h8, by rw [hlen]; exact h9⟩, fun p hp => ?_, ?_, ?_⟩
    · subst hcs'; simpa [putCells] using h5
    · apply List.ext_getElem?
      intro t
      rw [List.getElem?_take]
      have hn2 : (d'.toList.map (·.1.1)).length * E.n = d'.size * E.n := by simp
      rw [hn2]
      by_cases ht : t < d'.size * E.n
      · have htc : t < cs.length := by omega
        rw [if_pos ht, flatK_atK (fun x : Elt E G V => x.1.2) E.n hk0 hkE d' t ht, hcs']
        simp only [putCells, Array.getElem?_toList, Array.getElem?_mapIdx, size_flatK]
        simp only [List.getElem?_toArray]
        rw [List.getElem?_eq_getElem htc]
        simp [ht]
      · rw [if_neg ht, List.getElem?_eq_none]; omega
    · obtain rfl := Option.some.inj hp
      refine ⟨?_, hb2⟩
      rw [sort_heap _ _ w b n d' os hb1, if_pos hbl, if_pos rfl, hcs']; rfl
    · exact hperm.map _
    · rw [List.pairwise_map, List.pairwise_iff_getElem]
      intro i j hi hj hij
      have h := hs i j (by omega) hij (by rw [← hsz, ← hp1]; simpa using hj)
      have hi' : i < d'.size := by simpa using hi
      have hj' : j < d'.size := by simpa using hj
      rw [getElem!_pos d' i hi', getElem!_pos d' j hj'] at h
      have := of_decide_eq_false h
      simpa only [Array.getElem_toList] using this

section
variable {α : Type} {E : Enc α} {G : GH} {V : α → Prop}
def cell1 (x : Elt E G V) : Value := x.1.2.headD default
theorem cell1_is (h1 : E.n = 1) (x : Elt E G V) : x.1.2 = [cell1 x] := by
  have := E.len x.2.1
  rw [h1] at this
  obtain ⟨v, hv⟩ := List.length_eq_one_iff.1 this
  unfold cell1; rw [hv]; rfl
variable [Inhabited (Elt E G V)]
theorem flat1 (h1 : E.n = 1) (d : Array (Elt E G V)) (j : Nat) (hj : j < d.size) : (flatK (fun x : Elt E G V => x.1.2) E.n d)[j]! = cell1 d[j]! := by
  rw [get_flatK _ _ _ _ (by rw [h1]; omega), h1, Nat.div_one, Nat.mod_one, cell1_is h1]; rfl
theorem putCells1 (h1 : E.n = 1) (d : Array (Elt E G V)) (off : Nat) (c : Array Value) : putCells id off (flatK (fun x : Elt E G V => x.1.2) E.n d) c = putCells cell1 off d c := by
  unfold putCells
  apply Array.ext
  · simp
  · intro i hi hi2
    simp only [Array.getElem_mapIdx, size_flatK, h1, Nat.mul_one, id]
    split
    · rename_i h
      have := flat1 h1 d (i - off) (by omega)
      rw [h1] at this
      exact this
    · rfl
theorem world1 (h1 : E.n = 1) (w : World) (b off n : Nat) (d : Array (Elt E G V)) (os : Array Obj) : sortWorldK (fun x : Elt E G V => x.1.2) E.n w b off n d os = sortWorld cell1 w b off n d os := by
  unfold sortWorldK sortWorld putRowK putRow
  have : putCells id off (flatK (fun x : Elt E G V => x.1.2) E.n d) = putCells cell1 off d := funext fun c => putCells1 h1 d off c
  rw [this]
theorem holds1 (h1 : E.n = 1) {w : World} {b off : Nat} {d : Array (Elt E G V)} (h : HoldsK (fun x : Elt E G V => x.1.2) E.n w b off d) : Holds cell1 w b off d := fun j hj => by
  have h2 := h j (by rw [size_flatK, h1]; omega)
  rw [flat1 h1 d j hj] at h2
  exact h2
end
theorem sortRow1 {P : Program} {ρr : Ren} (Ls : SlLaysF.n6 P ρr) {α : Type} {E : Enc α} {by_ : Nat} {tid : TypeId} (h1 : E.n = 1)
    (cf : α → α → Int) (V : α → Prop) (hirr : ∀ x, V x → ¬ cf x x < 0) (htr : ∀ x y z, V x → V y → V z → cf x y < 0 → cf y z < 0 → cf x z < 0) (hnt : ∀ x y z, V x → V y → V z → ¬ cf x y < 0 → ¬ cf y z < 0 → ¬ cf x z < 0)
    (gf : Nat) (eg : ∀ args w, (callFunc gf args).run P w = .ok (.enter gf args) w) {G : GH} {w : World} (hG : G.In w)
    (hcl : ∀ W, G.In W → ∀ x y vx vy, V x → V y → E.rep G x [vx] → E.rep G y [vy] → Calls P gf #[vx, vy] W fun e w' => ∃ r G', e = .returned r ∧ Res [] W G w' G' ∧ r = .int .i64 (cf x y))
    (x0 : α) (c0 : List Value) (h0 : E.rep G x0 c0) (hV0 : V x0) (l : List α) (hV : ∀ x ∈ l, V x) (vd : Value) (od : OB) (hvd : Row E by_ tid G vd l od) (hod : Lent w G od) :
    Calls P (ρr.f 6) #[vd, .func (.func gf) #[] #[]] w fun e w' => ∃ r G', e = .returned r ∧ Res (blk od) w G w' G' ∧ r = .tuple #[] ∧ ∃ (l' : List α) (o' : OB), Row E by_ tid G' vd l' o' ∧ Lent w' G' o' ∧ (l'.Perm l ∧ l'.Pairwise fun x y => ¬ cf y x < 0) := by
  refine sortRowH (by omega) cf V gf hG (fun w => AnyF.slices_SortFunc_none (P := P) (ρ := ρr) { Ls with } none 0 (.func (.func gf) #[] #[]) w) ?_ x0 c0 h0 hV0 l hV vd od hvd hod
  intro _ b cap d cs ty hb1 hb2 hH hblk hsz
  have hO : SWO (ltOf fun x y : Elt E G V => cf x.1.1 y.1.1) :=
    ⟨fun x => decide_eq_false (hirr _ x.2.2), fun x y z p q => decide_eq_true (htr _ _ _ x.2.2 y.2.2 z.2.2 (of_decide_eq_true p) (of_decide_eq_true q)), fun x y z p q => decide_eq_false (hnt _ _ _ x.2.2 y.2.2 z.2.2 (of_decide_eq_false p) (of_decide_eq_false q))⟩
  have hoc : OneCell (cell1 : Elt E G V → Value) := fun x => E.one x.2.1 _ (by rw [cell1_is h1 x]; simp)
  refine (Any.slices_SortFunc Ls (cell1 : Elt E G V → Value) hoc (fun x y => cf x.1.1 y.1.1) hO gf #[] b 0 cap d w eg (fun m os dk _ x y => ?_) (holds1 h1 hH) hblk hsz).mono fun e w' ⟨he, d', n, os, hp, hs, hw⟩ => ⟨he, d', n, os, hp, hs, by rw [hw, world1 h1]⟩
  have hi := (sort_res (fun x : Elt E G V => x.1.2) E.n hG b m dk os hb1 hb2).imm
  rw [world1 h1] at hi
  have rx := x.2.1
  have ry := y.2.1
  rw [cell1_is h1 x] at rx
  rw [cell1_is h1 y] at ry
  exact (hcl _ hi x.1.1 y.1.1 _ _ x.2.2 y.2.2 rx ry).mono fun e w' ⟨r, G', he, hres, hr⟩ => ⟨by rw [he, hr], hres.kept.grow⟩
end Go.Civ
set_option linter.unusedVariables false
namespace Go.Civ
open Go.Proofs Go.Shelf Go.RowKit Go.Lib Go.Sort
theorem c_SortVV {G : GH} {w : World} (hG : G.In w) (l : VV) (vd : Value) (od : OB) (hvd : Row (ValE.slice 32) 24 (nat_lit 36) G vd l od) (hod : Lent w G od) (hV : ∀ u ∈ l, u.all valB = true) :
    Calls Tryz.prog (nat_lit 57) #[vd, .func (.func 58) #[] #[]] w fun e w' => ∃ r G', e = .returned r ∧ Res (blk od) w G w' G' ∧ r = .tuple #[] ∧ ∃ (l' : VV) (o' : OB), Row (ValE.slice 32) 24 (nat_lit 36) G' vd l' o' ∧ Lent w' G' o' ∧ (l'.Perm l ∧ l'.Pairwise fun x y => ¬ ordV y x < 0) :=
  sortRow1 Tryz.sortVV (E := ValE.slice 32) rfl ordV (fun u => u.all valB = true)
    (fun x hx => by rw [ordV_valid hx hx, ord.refl]; omega)
    (fun x y z hx hy hz p q => by rw [ordV_valid hx hy] at p; rw [ordV_valid hy hz] at q; rw [ordV_valid hx hz]; exact ord.trans _ _ _ p q)
    (fun x y z hx hy hz p q => by rw [ordV_valid hx hy] at p; rw [ordV_valid hy hz] at q; rw [ordV_valid hx hz]; exact ord.le_trans q p)
    58 (enters_of Tryz.func58 (by kernel_rfl) rfl) hG (fun W hW x y vx vy hx hy rx ry => by
      obtain ⟨ux, ex, sx⟩ := rx
      obtain ⟨uy, ey, sy⟩ := ry
      obtain rfl := (List.cons.inj ex).1
      obtain rfl := (List.cons.inj ey).1
      exact c_Order hW x y _ sx _ sy)
    [] _ ⟨.slice none 0 0, rfl, Sl.nil _ _ _⟩ rfl l hV vd od hvd hod
end Go.Civ
