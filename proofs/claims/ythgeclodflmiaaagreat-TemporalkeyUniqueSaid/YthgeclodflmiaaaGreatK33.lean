/- Lemmas. -/
import Derived.Test.YthgeclodflmiaaaGreatK14
import Derived.Test.YthgeclodflmiaaaGreatK16
import Derived.Test.YthgeclodflmiaaaGreatK22
import Derived.Test.YthgeclodflmiaaaGreatK24
import Derived.Test.YthgeclodflmiaaaGreatK27
import Derived.Test.YthgeclodflmiaaaGreatK29
import Derived.Test.YthgeclodflmiaaaGreatK30
import Derived.Test.YthgeclodflmiaaaGreatK32
import Derived.Test.YthgeclodflmiaaaGreatProg
import Derived.KernelRfl
import Derived.WalkKit
set_option linter.unusedVariables false
set_option linter.unusedSimpArgs false
set_option maxRecDepth 100000
set_option maxHeartbeats 4000000
namespace Go.Civ
open Go.Proofs
theorem c_before {G : GH} {w : World} (hG : G.In w) (x y : Pt) (cx : List Value) (hcx : PtE.rep G x cx) (cy : List Value) (hcy : PtE.rep G y cy) : CL Tryz.prog (nat_lit 117) #[.agg cx.toArray, .agg cy.toArray] [] w G fun _ _ r=>r = .int .i64 (befP x y):=by
 refine calls_of_go ft [] Tryz.func117 rfl rfl ?_
 have hS:=St.start (X:=[]) hG
 obtain ⟨v1,rfl,hb1,hb2,hs1⟩:=PtE_open hcx
 obtain ⟨v2,rfl,hb3,hb4,hs2⟩:=PtE_open hcy
 refine WL.boxG [.int .i64 x.tx, .int .i64 x.vd,v1] _ hS rfl rfl rfl (fun p1 w1 G1 hle1 hsp1 hc1 hS1=>?_)
 refine WL.boxG [.int .i64 y.tx, .int .i64 y.vd,v2] _ hS1 rfl rfl rfl (fun p2 w2 G2 hle2 hsp2 hc2 hS2=>?_)
 refine dr [(15,false),(16,false),(17,false)] [(6, .int .i64 x.tx),(8, .int .i64 y.tx),(9, .int .i64 (sgn x.tx y.tx)),(11, .int .i64 x.vd),(13, .int .i64 y.vd),(14, .int .i64 (sgn x.vd y.vd)),(16,v1),(18,v2),(19, .int .i64 (ordV x.v y.v))] hS2 ⟨fun _ hSw=>WL.loadG1 hSw (Cells.drop 0 (hc1.mono hle2)) ti3 rfl rfl rfl <| nu rfl rfl,fun _ hSw=>WL.loadG1 hSw (Cells.drop 0 hc2) ti3 rfl rfl rfl <| nu rfl rfl,fun _ hSw=>WL.callD hSw hb169 rfl rfl rfl (c_Compare hSw.imm x.tx y.tx) rfl,fun _ hSw=>WL.loadG1 hSw (Cells.drop 1 (hc1.mono hle2)) ti3 rfl rfl rfl <| nu rfl rfl,fun _ hSw=>WL.loadG1 hSw (Cells.drop 1 hc2) ti3 rfl rfl rfl <| nu rfl rfl,fun _ hSw=>WL.callD hSw hb169 rfl rfl rfl (c_Compare hSw.imm x.vd y.vd) rfl,fun _ hSw=>WL.loadG1 hSw (Cells.drop 2 (hc1.mono hle2)) ti31 rfl rfl rfl <| nu rfl rfl,fun _ hSw=>WL.loadG1 hSw (Cells.drop 2 hc2) ti31 rfl rfl rfl <| nu rfl rfl,fun _ hSw=>WL.callD hSw hb115 rfl rfl rfl (c_Order hSw.imm x.v y.v _ (hs1.mono (hle1.trans hle2)) _ (hs2.mono (hle1.trans hle2))) rfl,trivial⟩ (fun w3 hS3=>?_)
 refine WL.buildSlice _ [(0,[.int .i64 (sgn x.tx y.tx)]),(1,[.int .i64 (sgn x.vd y.vd)]),(2,[.int .i64 (ordV x.v y.v)])] [.int .i64 (sgn x.tx y.tx), .int .i64 (sgn x.vd y.vd), .int .i64 (ordV x.v y.v)] hS3 sl113 rfl rfl rfl rfl (fun z hz=>by match z,hz with | [z0,z1,z2],_=>rfl) (fun b1 w4 hn1 hS4=>?_)
 obtain ⟨G3,hle3,hs3,hS5⟩:=St.sealSl (E:=Enc.int) (by_:=8) (l:=([(sgn x.tx y.tx),(sgn x.vd y.vd),(ordV x.v y.v)] : List Int)) hS4 hn1 ⟨[.int .i64 (sgn x.tx y.tx)],_,rfl,⟨rfl,I64_sgn x.tx y.tx⟩,⟨[.int .i64 (sgn x.vd y.vd)],_,rfl,⟨rfl,I64_sgn x.vd y.vd⟩,⟨[.int .i64 (ordV x.v y.v)],_,rfl,⟨rfl,I64_ordV x.v y.v⟩,rfl⟩⟩⟩ rfl (by simp [reach]) (by simp [reach])
 refine WL.cV hS5 hb168 rfl rfl rfl (c_Or hS5.imm [(sgn x.tx y.tx),(sgn x.vd y.vd),(ordV x.v y.v)] _ hs3) (fun w5 G4 hS6 hle4=>?_)
 exact RI hS6 rfl (by exact cmpOr3 _ _ _)
theorem c_tin {G : GH} {w : World} (hG : G.In w) (s : Span) (x : Int) (cs : List Value) (hcs : SpanE.rep G s cs) : CL Tryz.prog (nat_lit 114) #[.agg cs.toArray, .int .i64 x] [] w G fun _ _ r=>r = .bool (inS x s):=by
 refine calls_of_go ft [] Tryz.func114 rfl rfl ?_
 have hS:=St.start (X:=[]) hG
 obtain ⟨rfl,hb1,hb2⟩:=SpanE_open hcs
 refine WL.boxG [.int .i64 s.a, .int .i64 s.b] _ hS rfl rfl rfl (fun p1 w1 G1 hle1 hsp1 hc1 hS1=>?_)
 refine WL.loadG1 hS1 (Cells.drop 0 hc1) ti3 rfl rfl rfl ?_
 refine WL.leqS s.a x rfl rfl rfl (fun h1=>?_) (fun h1=>?_)
 ·refine WL.loadG1 hS1 (Cells.drop 1 hc1) ti3 rfl rfl rfl <| WL.cmp .lss rfl .i64 x s.b rfl rfl rfl ?_
  exact RB hS1 rfl (by unfold inS; simp_all [Cmp.b] <;> (first | omega | (intros; omega) | (rw [Bool.eq_iff_iff]; simp <;> omega) | (rw [Bool.eq_iff_iff]; simp_all <;> omega)))
 exact RB hS1 rfl (by unfold inS; simp_all [Cmp.b] <;> (omega))
theorem c_ptrow {G : GH} {w : World} (hG : G.In w) (q : Pt) (cq : List Value) (hcq : PtE.rep G q cq) (h1 : instB q.tx = true) (h2 : instB q.vd = true) : CL Tryz.prog (nat_lit 61) #[.agg cq.toArray] [] w G fun G' _ r=>Is HRowE G' r (rowO (some q)):=by
 refine calls_of_goR ft [] Tryz.func61 rfl rfl ?_
 have hS:=St.start (X:=[]) hG
 obtain ⟨v1,rfl,hb1,hb2,hs1⟩:=PtE_open hcq
 refine WL.boxG [.int .i64 q.tx, .int .i64 q.vd,v1] _ hS rfl rfl rfl (fun p1 w1 G1 hle1 hsp1 hc1 hS1=>?_)
 refine WL.alloc hS1 ti37 rfl rfl (fun b1 w2 hn1 hS2=>?_)
 have hi1 : I64 (q.vd + 1):=by have b1:=instB_parts h1; have b2:=instB_parts h2; have:=hb2.1; have:=hb2.2; constructor <;> omega
 have hi2 : I64 (q.tx + 1):=by have b1:=instB_parts h1; have b2:=instB_parts h2; have:=hb1.1; have:=hb1.2; constructor <;> omega
 refine dr [(2,true),(16,false),(17,false)] [(4,v1),(7, .int .i64 q.vd),(9, .int .i64 q.vd),(10, .int .i64 (q.vd + 1)),(11, .agg #[.int .i64 q.vd, .int .i64 (q.vd + 1)]),(13, .int .i64 q.tx),(15, .int .i64 q.tx),(16, .int .i64 (q.tx + 1)),(17, .agg #[.int .i64 q.tx, .int .i64 (q.tx + 1)]),(18, .agg #[.int .i64 q.vd, .int .i64 (q.vd + 1), .int .i64 q.tx, .int .i64 (q.tx + 1)])] hS2 ⟨fun _ hSw=>WL.loadG1 hSw (Cells.drop 2 hc1) ti31 rfl rfl rfl <| nu rfl rfl,fun _ hSw=>WL.loadG1 hSw (Cells.drop 1 hc1) ti3 rfl rfl rfl <| nu rfl rfl,fun _ hSw=>WL.loadG1 hSw (Cells.drop 1 hc1) ti3 rfl rfl rfl <| nu rfl rfl,fun _=>WL.ar .add rfl q.vd 1 rfl rfl rfl hi1 <| nu rfl rfl,fun _=>WL.build _ [(0,[.int .i64 q.vd]),(1,[.int .i64 (q.vd + 1)])] [.int .i64 q.vd, .int .i64 (q.vd + 1)] ti33 rfl fl33 rfl rfl rfl rfl <| nu rfl rfl,fun _ hSw=>WL.loadG1 hSw (Cells.drop 0 hc1) ti3 rfl rfl rfl <| nu rfl rfl,fun _ hSw=>WL.loadG1 hSw (Cells.drop 0 hc1) ti3 rfl rfl rfl <| nu rfl rfl,fun _=>WL.ar .add rfl q.tx 1 rfl rfl rfl hi2 <| nu rfl rfl,fun _=>WL.build _ [(0,[.int .i64 q.tx]),(1,[.int .i64 (q.tx + 1)])] [.int .i64 q.tx, .int .i64 (q.tx + 1)] ti33 rfl fl33 rfl rfl rfl rfl <| nu rfl rfl,fun _=>WL.build _ [(0,[.int .i64 q.vd, .int .i64 (q.vd + 1)]),(1,[.int .i64 q.tx, .int .i64 (q.tx + 1)])] [.int .i64 q.vd, .int .i64 (q.vd + 1), .int .i64 q.tx, .int .i64 (q.tx + 1)] ti35 rfl fl35 rfl rfl rfl rfl <| nu rfl rfl,trivial⟩ (fun w3 hS3=>?_)
 refine WL.cA hS3 hb73 rfl rfl rfl (c_CloneVs hS3.imm q.v _ (hs1.mono hle1)) (fun w4 G2 r1 hpost1 hS4 hle2=>?_)
 refine ⟨hS4.down hS3.le hle2,?_⟩
 refine WL.build _ [(0,[r1]),(1,[.int .i64 q.vd, .int .i64 (q.vd + 1), .int .i64 q.tx, .int .i64 (q.tx + 1)])] [r1, .int .i64 q.vd, .int .i64 (q.vd + 1), .int .i64 q.tx, .int .i64 (q.tx + 1)] ti37 rfl fl37 rfl rfl (by show [(0,(r1 : Value).cells.toList),(1,(.agg #[.int .i64 q.vd, .int .i64 (q.vd + 1), .int .i64 q.tx, .int .i64 (q.tx + 1)] : Value).cells.toList)] = _; simp only [hpost1.cells1] <;> rfl) rfl ?_
 refine WL.store hS4 0 _ _ _ 0 _ [r1, .int .i64 q.vd, .int .i64 (q.vd + 1), .int .i64 q.tx, .int .i64 (q.tx + 1)] [r1, .int .i64 q.vd, .int .i64 (q.vd + 1), .int .i64 q.tx, .int .i64 (q.tx + 1)] _ rfl rfl ti37 rfl (Nat.le_of_ble_eq_true rfl) (by simp only [List.all_cons,List.all_nil,hpost1.oneC,Bool.true_and] <;> rfl) rfl rfl rfl rfl rfl (fun w5 hS5=>?_)
 obtain ⟨G3,hle3,hc2,hS6⟩:=hS5.shutB hn1
 exact RTR [.agg #[r1, .int .i64 q.vd, .int .i64 (q.vd + 1), .int .i64 q.tx, .int .i64 (q.tx + 1)]] hS6 ⟨_,_,_,rfl,rfl,hS6.loadC hc2 ti37 rfl rfl,rfl⟩ (Is.cast ⟨_,rfl,(HRowE_mk (HRow.mk q.v (Rect.mk (Span.mk q.vd (q.vd + 1)) (Span.mk q.tx (q.tx + 1)))) (hpost1.mono hle3) hb2 hi1 hb1 hi2)⟩ (by rfl))
end Go.Civ
set_option linter.unusedVariables false
namespace Go.Civ
open Go.Proofs Go.Shelf Go.RowKit Go.Lib Go.Sort
theorem c_SortP {G : GH} {w : World} (hG : G.In w) (l : List Pt) (vd : Value) (od : OB) (hvd : Row PtE 40 (nat_lit 105) G vd l od) (hod : Lent w G od) (hV : VP l) :
    Calls Tryz.prog (nat_lit 116) #[vd, .func (.func 117) #[] #[]] w fun e w'=>∃ r G',e = .returned r ∧ Res (blk od) w G w' G' ∧ r = .tuple #[] ∧ ∃ (l' : List Pt) (o' : OB),Row PtE 40 (nat_lit 105) G' vd l' o' ∧ Lent w' G' o' ∧ (l'.Perm l ∧ l'.Pairwise fun x y=>¬ befP y x < 0):=
  sortRow Tryz.sortPt (E:=PtE) (by decide) Tryz.isAgg105 Tryz.sizeOf105 befP (fun p=>p.v.all valB = true)
    (fun x hx=>by rw [bef_L hx hx,befL_ord.refl]; omega)
    (fun x y z hx hy hz p q=>by rw [bef_L hx hy] at p; rw [bef_L hy hz] at q; rw [bef_L hx hz]; exact befL_ord.trans _ _ _ p q)
    (fun x y z hx hy hz p q=>by rw [bef_L hx hy] at p; rw [bef_L hy hz] at q; rw [bef_L hx hz]; exact befL_ord.le_trans q p)
    117 (enters_of Tryz.func117 (by kernel_rfl) rfl) hG (fun W hW x y cx cy hx hy rx ry=>c_before hW x y cx rx cy ry)
    zeroPt _ (PtE_mk (v:= .slice none 0 0) zeroPt I64_0 I64_0 (Sl.nil _ _ _)) rfl l hV vd od hvd hod
end Go.Civ
namespace Go.Civ
open Go.RowKit
set_option linter.unusedVariables false
def keyB (k : Nat) (v u : List Val) : Bool:=decide (u.take k = v.take k)
def mrgOf (k : Nat) (v : List Val) (tx : Int) (d : Span) (r : HRow) : List HRow:=
  if r.r.x.b = 253402300800 ∧ keyB k v r.v = true ∧ combR 3 [r.r.d] [d] ≠ [r.r.d] then outN r.v (combR 3 [r.r.d] [d]) tx 253402300800 ++ [⟨r.v,⟨r.r.d,⟨r.r.x.a,tx⟩⟩⟩] else [r]
def mrgRows (k : Nat) (l : List HRow) (tx : Int) (v : List Val) (d : Span) : List HRow:=⟨v,⟨d,⟨tx,253402300800⟩⟩⟩ :: l.flatMap (mrgOf k v tx d)
theorem diff_same {p q : Span} (hp : p.a < p.b) (hq : q.a < q.b) : combR 3 [p] [q] = [p] ↔ ¬ (p.a < q.b ∧ q.a < p.b):=by
  constructor
  · intro e k
    have h:=cov_diff hp hq (a:=max p.a q.a)
    rw [e,cover_one] at h
    omega
  · intro k
    have h:=combR_inv (kind:=3) rfl (a:=[p]) (b:=[q]) (by simpa using hp) (by simpa using hq)
    refine Can.unique h.1 ⟨List.pairwise_singleton _ _,fun s hs=>by rw [List.mem_singleton.1 hs]; exact hp⟩ fun x=>?_
    rw [cov_diff hp hq,cover_one]
    constructor
    · exact fun z=>z.1
    · intro z; exact ⟨z,by omega⟩
section
variable {k : Nat} {l : List HRow} {tx : Int} {v u : List Val} {d : Span} {r : HRow} {a y : Int}
end
end Go.Civ
namespace Go.Civ
open Go.RowKit
set_option linter.unusedVariables false
def insI (x : Int) : List Int → List Int
  | []=>[x]
  | y :: r=>if y < x then y :: insI x r else if y = x then y :: r else x :: y :: r
def setL (l : List Int) : List Int:=l.foldl (fun out x=>insI x out) []
section
variable {x y : Int} {l out : List Int} {k : Nat}
theorem insI_mem : ∀ {l : List Int},y ∈ insI x l ↔ y = x ∨ y ∈ l
  | []=>by simp [insI]
  | z :: r=>by
    unfold insI
    split
    · rw [List.mem_cons,insI_mem,List.mem_cons]
      constructor
      · rintro (h | h | h)
        · exact .inr (.inl h)
        · exact .inl h
        · exact .inr (.inr h)
      · rintro (h | h | h)
        · exact .inr (.inl h)
        · exact .inl h
        · exact .inr (.inr h)
    · split
      · rename_i h
        constructor
        · exact .inr
        · rintro (rfl | q)
          · rw [h]; simp
          · exact q
      · simp
theorem insI_inc : ∀ {l : List Int},l.Pairwise (· < ·) → (insI x l).Pairwise (· < ·)
  | [],_=>by simp [insI]
  | z :: r,h=>by
    obtain ⟨h1,h2⟩:=List.pairwise_cons.1 h
    unfold insI
    split
    · rename_i hz
      refine List.pairwise_cons.2 ⟨fun w hw=>?_,insI_inc h2⟩
      rcases insI_mem.1 hw with rfl | hw
      · exact hz
      · exact h1 w hw
    · split
      · exact h
      · refine List.pairwise_cons.2 ⟨fun w hw=>?_,h⟩
        rcases List.mem_cons.1 hw with rfl | hw
        · omega
        · have:=h1 w hw; omega
theorem insI_len : ∀ {l : List Int},(insI x l).length ≤ l.length + 1
  | []=>by simp [insI]
  | z :: r=>by
    have:=insI_len (l:=r)
    unfold insI
    split
    · simp; omega
    · split <;> simp
theorem setL_gen : ∀ (l out : List Int),out.Pairwise (· < ·) → (l.foldl (fun out x=>insI x out) out).Pairwise (· < ·) ∧ ∀ y,y ∈ l.foldl (fun out x=>insI x out) out ↔ y ∈ l ∨ y ∈ out
  | [],out,h=>⟨h,fun y=>by simp⟩
  | x :: l,out,h=>by
    obtain ⟨h1,h2⟩:=setL_gen l (insI x out) (insI_inc h)
    refine ⟨h1,fun y=>(h2 y).trans ?_⟩
    rw [insI_mem,List.mem_cons]
    constructor
    · rintro (a | a | a)
      · exact .inl (.inr a)
      · exact .inl (.inl a)
      · exact .inr a
    · rintro ((a | a) | a)
      · exact .inr (.inl a)
      · exact .inl a
      · exact .inr (.inr a)
theorem setL_inc (l : List Int) : (setL l).Pairwise (· < ·):=(setL_gen l [] List.Pairwise.nil).1
theorem setL_mem : y ∈ setL l ↔ y ∈ l:=by unfold setL; rw [(setL_gen l [] List.Pairwise.nil).2 y]; simp
theorem setL_take (h : l[k]? = some x) : setL (l.take (k + 1)) = insI x (setL (l.take k)):=by
  unfold setL; rw [List.take_add_one,h]; simp [List.foldl_append]
theorem setL_len : ∀ (l : List Int),(setL l).length ≤ l.length:=by
  have : ∀ (l out : List Int),(l.foldl (fun out x=>insI x out) out).length ≤ out.length + l.length:=by
    intro l
    induction l with
    | nil=>intro out; simp
    | cons x l ih=>intro out; have:=ih (insI x out); have:=insI_len (x:=x) (l:=out); rw [List.foldl_cons,List.length_cons]; omega
  intro l
  have:=this l []
  simpa [setL] using this
theorem setL_takeLen (l : List Int) (k : Nat) : (setL (l.take k)).length ≤ l.length:=by
  have:=setL_len (l.take k)
  have:=List.length_take_le' k l
  omega
def DnI (out : List Int) (x : Int) (k : Nat) : Prop:=∀ j,j < k → ∀ u,out[j]? = some u → u < x
theorem DnI.step {u : Int} (h : DnI out x k) (hu : out[k]? = some u) (h1 : u < x) : DnI out x (k + 1):=fun j hj w hw=>by
  by_cases e : j = k
  · subst e; rw [hu] at hw; obtain rfl:=Option.some.inj hw; exact h1
  · exact h j (by omega) w hw
theorem insI_at : ∀ {out : List Int} {k : Nat} {u : Int},DnI out x k → out[k]? = some u → u = x → insI x out = out
  | [],k,u,_,h,_=>by cases h
  | z :: r,0,u,_,h,e=>by
    obtain rfl:=Option.some.inj h
    unfold insI
    rw [if_neg (by omega),if_pos e]
  | z :: r,k + 1,u,h1,h,e=>by
    have hz:=h1 0 (by omega) z rfl
    unfold insI
    rw [if_pos hz,insI_at (k:=k) (fun j hj w hw=>h1 (j + 1) (by omega) w (by simpa using hw)) (by simpa using h) e]
theorem insI_put : ∀ {out : List Int} {k : Nat},DnI out x k → k ≤ out.length → (∀ u,out[k]? = some u → x < u) → (([] ++ out.take k) ++ [x]) ++ out.drop k = insI x out
  | [],0,_,_,_=>by simp [insI]
  | z :: r,0,_,_,h=>by
    have:=h z rfl
    unfold insI
    rw [if_neg (by omega),if_neg (by omega)]; simp
  | [],k + 1,_,h,_=>by simp at h
  | z :: r,k + 1,h1,h2,h=>by
    have hz:=h1 0 (by omega) z rfl
    have ih:=insI_put (out:=r) (k:=k) (fun j hj w hw=>h1 (j + 1) (by omega) w (by simpa using hw)) (by simpa using h2) (fun u hu=>h u (by simpa using hu))
    unfold insI
    rw [if_pos hz,← ih]; simp
end
theorem findI_first {β : Type} {f : Int → Option β} {x : Int} {r : β} : ∀ {l : List Int},x ∈ l → l.Pairwise (· < ·) → (∀ y ∈ l,y < x → f y = none) → f x = some r → l.findSome? f = some r
  | [],h,_,_,_=>by cases h
  | z :: l,h,hp,hn,hf=>by
    obtain ⟨h1,h2⟩:=List.pairwise_cons.1 hp
    rcases List.mem_cons.1 h with rfl | h
    · rw [List.findSome?_cons,hf]
    · rw [List.findSome?_cons,hn z (by simp) (h1 x h)]
      exact findI_first h h2 (fun y hy=>hn y (by simp [hy])) hf
def rviolG (k : Nat) (l : List HRow) (ys : List Int) (x : Int) : Option Pt:=ys.findSome? fun y=>(clashV k (rsnapH l y x)).map fun v=>⟨x,y,v⟩
def rviol (k : Nat) (l : List HRow) : Option Pt:=(setL (l.map fun r=>r.r.x.a)).findSome? (rviolG k l (setL (l.map fun r=>r.r.d.a)))
def rviolT (t : Table) : Option Pt:=rviol t.s.key.toNat t.rows
theorem clash_r {k : Nat} {l : List HRow} (hg : GoodH l) (x y : Int) : clashV k (rsnapH l y x) = clashAt k l x y:=by unfold clashAt; rw [snap_here hg]
theorem findI_none {β : Type} {f : Int → Option β} {l : List Int} (h : ∀ x ∈ l,f x = none) : l.findSome? f = none:=by
  rw [List.findSome?_eq_none_iff]; exact h
theorem viol_eq {k : Nat} {l : List HRow} (hg : GoodH l) (hn : l = normH l) : rviol k l = violF k l:=by
  unfold rviol
  by_cases e : ptsOf k l = []
  · rw [violF_none e]
    refine findI_none fun x _=>findI_none fun y _=>?_
    rw [clash_r hg,viol_none hg e]; rfl
  · rw [violF_some e]
    obtain ⟨h1,h2⟩:=minP_first (pts_VP hg) e
    obtain ⟨c1,⟨r,hr,e1⟩,s,hs,e2⟩:=pts_clash hg hn h1
    obtain ⟨v,hv⟩:=Option.ne_none_iff_exists'.1 c1
    have hf:=fun {a b : Int} =>viol_first (tx:=a) (vd:=b) hg (fun q hq=>bef_lex (h2 q hq))
    refine findI_first (setL_mem.2 (List.mem_map.2 ⟨r,hr,e1⟩)) (setL_inc _) (fun x _ hx=>findI_none fun y _=>?_) (findI_first (setL_mem.2 (List.mem_map.2 ⟨s,hs,e2⟩)) (setL_inc _) (fun y _ hy=>?_) ?_)
    · rw [clash_r hg,hf (.inl hx)]; rfl
    · rw [clash_r hg,hf (.inr ⟨rfl,hy⟩)]; rfl
    · rw [clash_r hg,hv]; rfl
theorem violT_eq {t : Table} (h : validT t = true) : rviolT t = violT t:=viol_eq (validT_good h).1 (validT_good h).2.2.2
section
variable {k : Nat} {l : VV}
theorem clash_at {v w : List Val} : ∀ {l : VV} {j : Nat},(∀ i,i < j → ∀ x y,l[i]? = some x → l[i + 1]? = some y → decide (x.take k = y.take k) = false) → l[j]? = some v → l[j + 1]? = some w → decide (v.take k = w.take k) = true → clashV k l = some v
  | [],j,_,h,_,_=>by cases h
  | [a],j,_,_,h,_=>by simp at h
  | x :: y :: r,j,h1,h2,h3,h4=>by
    unfold clashV
    cases j with
    | zero=>
      obtain rfl:=Option.some.inj h2
      obtain rfl:=Option.some.inj h3
      rw [if_pos (of_decide_eq_true h4)]
    | succ j=>
      rw [if_neg (of_decide_eq_false (h1 0 (by omega) x y rfl rfl))]
      exact clash_at (j:=j) (fun i hi a b ha hb=>h1 (i + 1) (by omega) a b (by simpa using ha) (by simpa using hb)) (by simpa using h2) (by simpa using h3) h4
theorem clash_no : ∀ {l : VV} {j : Nat},(∀ i,i < j → ∀ x y,l[i]? = some x → l[i + 1]? = some y → decide (x.take k = y.take k) = false) → l.length ≤ j + 1 → clashV k l = none
  | [],j,_,_=>rfl
  | [a],j,_,_=>rfl
  | x :: y :: r,j,h1,h2=>by
    simp only [List.length_cons] at h2
    obtain ⟨j,rfl⟩ : ∃ i,j = i + 1:=⟨j - 1,by omega⟩
    unfold clashV
    rw [if_neg (of_decide_eq_false (h1 0 (by omega) x y rfl rfl))]
    exact clash_no (j:=j) (fun i hi a b ha hb=>h1 (i + 1) (by omega) a b (by simpa using ha) (by simpa using hb)) (by simp only [List.length_cons]; omega)
end
theorem findI_at {β : Type} {f : Int → Option β} {r : β} : ∀ {l : List Int} {j : Nat} {x : Int},(∀ i,i < j → ∀ y,l[i]? = some y → f y = none) → l[j]? = some x → f x = some r → l.findSome? f = some r
  | [],j,x,_,h,_=>by cases h
  | z :: l,j,x,h1,h2,hf=>by
    rw [List.findSome?_cons]
    cases j with
    | zero=>obtain rfl:=Option.some.inj h2; rw [hf]
    | succ j=>
      rw [h1 0 (by omega) z rfl]
      exact findI_at (j:=j) (fun i hi y hy=>h1 (i + 1) (by omega) y (by simpa using hy)) (by simpa using h2) hf
theorem findI_no {β : Type} {f : Int → Option β} {l : List Int} {j : Nat} (h : ∀ i,i < j → ∀ y,l[i]? = some y → f y = none) (hj : l.length ≤ j) : l.findSome? f = none:=
  findI_none fun x hx=>by
    obtain ⟨i,hi⟩:=List.getElem?_of_mem hx
    obtain ⟨hlt,_⟩:=List.getElem?_eq_some_iff.1 hi
    exact h i (by omega) x hi
def noneB (r : HRow) : Bool:=decide (r.v.length = 0) && decide (r.r = ⟨⟨0,0⟩,⟨0,0⟩⟩)
def rowsB (a b : HRow) : Bool:=decide (a.v = b.v) && decide (a.r = b.r)
theorem rows_refl (a : HRow) : rowsB a a = true:=by unfold rowsB; simp
section
variable {t : Table}
theorem uniq_bad (h : validT t = false) : uniqB t = false ∧ noneB (uniqR t) = true:=by
  unfold uniqB uniqR; rw [h]; exact ⟨rfl,(by decide : noneB (rowO none) = true)⟩
theorem uniq_ok (h : validT t = true) : uniqB t = (!(rviolT t).isSome) ∧ rowsB (uniqR t) (rowO (rviolT t)) = true:=by
  unfold uniqB uniqR
  rw [h,violT_eq h,if_pos rfl]
  refine ⟨?_,rows_refl _⟩
  cases violT t <;> rfl
end
end Go.Civ
namespace Go.Civ
open Go.RowKit
open Go.Lib (compact)
set_option linter.unusedVariables false
structure Link where
  t : Table
  o : Table
  f : Foreign
section
variable {G : GH} {cs : List Value}
end
theorem sch_key' {s : Schema} (h : schB s = true) : 1 ≤ s.key ∧ s.key ≤ s.cols.length:=by
  unfold schB schA at h
  simp only [Bool.and_eq_true,decide_eq_true_eq] at h
  obtain ⟨⟨⟨⟨⟨⟨_,h2⟩,h3⟩,h4⟩,h5⟩,h6⟩,h7⟩:=h.1
  exact ⟨h4,h5⟩
structure LinkOk (x : Link) : Prop where
  t : validT x.t = true
  o : validT x.o = true
  cols : ∀ c ∈ x.f.cols,0 ≤ ixS (x.t.s.cols.map Col.name) c
  key : (x.f.cols.length : Int) = x.o.s.key
section
variable {x : Link} {v : List Val} {r : HRow}
theorem LinkOk.len (h : LinkOk x) (hr : r ∈ x.t.rows) : x.t.s.cols.length ≤ r.v.length:=by
  have:=validT_row1 h.t hr
  have h4:=this.2.2.2.1
  omega
theorem LinkOk.olen (h : LinkOk x) (hr : r ∈ x.o.rows) : x.f.cols.length ≤ r.v.length:=by
  have h1:=validT_row1 h.o hr
  have h2:=sch_key' (validT_parts h.o).1
  have h3:=h.key
  have h4:=h1.2.2.2.1
  omega
end
section
variable {M : List Val → List Val → Bool} {l t : List HRow} {v : List Val} {x tx fr : Int} {r o : HRow} {k : Nat} {ts : List Int}
end
end Go.Civ
namespace Go.Civ
open Go.RowKit
open Go.Lib (compact)
section
variable {M : List Val → List Val → Bool} {l : List HRow} {r : HRow} {fr : Int}
end
end Go.Civ
namespace Go.Civ
open Go.RowKit
set_option linter.unusedVariables false
theorem insI_gt {out : List Int} {x u : Int} {k : Nat} (h : out[k]? = some u) (h1 : x < u) : ∀ w,out[k]? = some w → x < w:=fun w hw=>by rw [h] at hw; obtain rfl:=Option.some.inj hw; exact h1
theorem lt_stepC {l : VV} {k K : Nat} {x y : List Val} (h : ∀ i,i < k → ∀ x y,l[i]? = some x → l[i + 1]? = some y → decide (x.take K = y.take K) = false) (hx : l[k]? = some x) (hy : l[k + 1]? = some y) (hxy : decide (x.take K = y.take K) = false) :
    ∀ i,i < k + 1 → ∀ x y,l[i]? = some x → l[i + 1]? = some y → decide (x.take K = y.take K) = false:=fun i hi a b ha hb=>by
  by_cases e : i = k
  · subst e
    rw [hx] at ha; rw [hy] at hb
    obtain rfl:=Option.some.inj ha
    obtain rfl:=Option.some.inj hb
    exact hxy
  · exact h i (by omega) a b ha hb
theorem clash_1 {l : VV} {j K : Nat} {v w : List Val} (h1 : ∀ i,i < j → ∀ x y,l[i]? = some x → l[i + 1]? = some y → decide (x.take K = y.take K) = false) (h2 : l[j]? = some v) (h3 : l[j + 1]? = some w) (h4 : decide (v.take K = w.take K) = true) :
    v = (clashV K l).getD [] ∧ true = (clashV K l).isSome:=by rw [clash_at h1 h2 h3 h4]; exact ⟨rfl,rfl⟩
theorem clash_0 {l : VV} {j K : Nat} (h1 : ∀ i,i < j → ∀ x y,l[i]? = some x → l[i + 1]? = some y → decide (x.take K = y.take K) = false) (h2 : l.length ≤ j + 1) :
    [] = (clashV K l).getD [] ∧ false = (clashV K l).isSome:=by rw [clash_no h1 h2]; exact ⟨rfl,rfl⟩
theorem bd64 {x : Int} (h1 : -62135596800 ≤ x) (h2 : x ≤ 253402300800) : I64 x ∧ x ≤ 253402300800:=⟨by constructor <;> omega,h2⟩
section
variable {l o : List HRow} {k : Nat} {x fr : Int}
theorem good_bd (hg : GoodH l) {r : HRow} (hr : r ∈ l) : (I64 r.r.d.a ∧ r.r.d.a ≤ 253402300800) ∧ (I64 r.r.d.b ∧ r.r.d.b ≤ 253402300800) ∧ (I64 r.r.x.a ∧ r.r.x.a ≤ 253402300800) ∧ (I64 r.r.x.b ∧ r.r.x.b ≤ 253402300800):=by
  have h:=(goodB_parts (hg r hr)).2
  unfold spanB at h
  simp at h
  exact ⟨bd64 (by omega) (by omega),bd64 (by omega) (by omega),bd64 (by omega) (by omega),bd64 (by omega) (by omega)⟩
theorem startX (hg : GoodH l) (h : (setL (l.map (fun (r : HRow)=>r.r.x.a)))[k]? = some x) : I64 x ∧ x ≤ 253402300800:=by
  obtain ⟨r,hr,rfl⟩:=List.mem_map.1 (setL_mem.1 (List.mem_of_getElem? h))
  exact (good_bd hg hr).2.2.1
theorem startY (hg : GoodH l) (h : (setL (l.map (fun (r : HRow)=>r.r.d.a)))[k]? = some x) : I64 x ∧ x ≤ 253402300800:=by
  obtain ⟨r,hr,rfl⟩:=List.mem_map.1 (setL_mem.1 (List.mem_of_getElem? h))
  exact (good_bd hg hr).1
end
section
variable {t : Table} {x y : Int} {k : Nat}
theorem rsnap_key (hv : validT t = true) (y x : Int) : ∀ v ∈ rsnapH t.rows y x,t.s.key ≤ v.length:=fun v h=>by
  rw [← snap_here (validT_good hv).1,snap_iff (validT_good hv).1] at h
  obtain ⟨r,hr,rfl,_⟩:=h
  exact key_len hv r hr
theorem clash_none0 {K : Nat} {l : VV} {x y : Int} (h : (clashV K l).isSome = false) : ((clashV K l).map fun v=>Pt.mk x y v) = none:=by
  cases e : clashV K l with
  | none=>rfl
  | some v=>rw [e] at h; cases h
theorem rviol_row {K : Nat} {l : List HRow} {ys : List Int} {j : Nat} (h : ∀ i,i < j → ∀ y,ys[i]? = some y → ((clashV K (rsnapH l y x)).map fun v=>Pt.mk x y v) = none) (hj : ys.length ≤ j) : rviolG K l ys x = none:=findI_no h hj
theorem rviol_1 {i j : Nat} (h1 : ∀ i',i' < i → ∀ x,(setL (t.rows.map (fun (r : HRow)=>r.r.x.a)))[i']? = some x → rviolG t.s.key.toNat t.rows (setL (t.rows.map (fun (r : HRow)=>r.r.d.a))) x = none) (hx : (setL (t.rows.map (fun (r : HRow)=>r.r.x.a)))[i]? = some x)
    (h2 : ∀ i',i' < j → ∀ y,(setL (t.rows.map (fun (r : HRow)=>r.r.d.a)))[i']? = some y → ((clashV t.s.key.toNat (rsnapH t.rows y x)).map fun v=>Pt.mk x y v) = none) (hy : (setL (t.rows.map (fun (r : HRow)=>r.r.d.a)))[j]? = some y)
    (h : (clashV t.s.key.toNat (rsnapH t.rows y x)).isSome = true) : rowO (some (Pt.mk x y ((clashV t.s.key.toNat (rsnapH t.rows y x)).getD []))) = rowO (rviolT t) ∧ true = (rviolT t).isSome:=by
  cases e : clashV t.s.key.toNat (rsnapH t.rows y x) with
  | none=>rw [e] at h; cases h
  | some v=>
    have hG : rviolG t.s.key.toNat t.rows (setL (t.rows.map (fun (r : HRow)=>r.r.d.a))) x = some ⟨x,y,v⟩:=findI_at h2 hy (by rw [e]; rfl)
    have : rviolT t = some ⟨x,y,v⟩:=findI_at h1 hx hG
    rw [this]; exact ⟨rfl,rfl⟩
theorem rviol_0 {i : Nat} (h1 : ∀ i',i' < i → ∀ x,(setL (t.rows.map (fun (r : HRow)=>r.r.x.a)))[i']? = some x → rviolG t.s.key.toNat t.rows (setL (t.rows.map (fun (r : HRow)=>r.r.d.a))) x = none) (hi : (setL (t.rows.map (fun (r : HRow)=>r.r.x.a))).length ≤ i) :
    HRow.mk [] (Rect.mk (Span.mk 0 0) (Span.mk 0 0)) = rowO (rviolT t) ∧ false = (rviolT t).isSome:=by
  have : rviolT t = none:=findI_no h1 hi
  rw [this]; exact ⟨rfl,rfl⟩
end
end Go.Civ
