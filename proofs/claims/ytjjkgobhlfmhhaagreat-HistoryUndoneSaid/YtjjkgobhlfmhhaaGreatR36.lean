/- Lemmas: Wj0. -/
import Derived.Test.YtjjkgobhlfmhhaaGreatR13
import Derived.Test.YtjjkgobhlfmhhaaGreatR32
import Derived.Test.YtjjkgobhlfmhhaaGreatR35
import Derived.Test.YtjjkgobhlfmhhaaGreatProg
import Derived.KernelRfl
import Derived.WalkKit
set_option linter.unusedVariables false
set_option linter.unusedSimpArgs false
set_option maxRecDepth 100000
set_option maxHeartbeats 4000000
namespace Go.Civ
open Go.Proofs
theorem c_IndexC {G : GH} {w : World} (hG : G.In w) (l : List Col) (pf : Col → Bool) (vl : Value) (hvl : Sl ColE 24 G vl l) (fid : Nat) (fcap : Array Value) (hf : FnB Tryz.prog (Is ColE) fid fcap G (fun x=>x ∈ l) pf) : CL Tryz.prog (nat_lit 164) #[vl, .func (.func fid) #[] fcap] [] w G fun _ _ r=>r = .int .i64 (idxF pf l):=by
 refine calls_of_go ft [] Tryz.func164 rfl rfl ?_
 have hS:=St.start (X:=[]) hG
 have bd1:=hvl.bound
 refine WL.lenSl hvl ul22 rfl rfl ?_
 refine LP.go ft [] (fun m ρ1 w1=>∃ (k1 : Nat),∃ (G1 : GH),m = l.length - k1 ∧ G.le G1 ∧ St w [] G G1 [] w1 ∧ FR ρ1 [(0,vl),(1, .func (.func fid) #[] fcap),(7, .int .i64 (l.length : Int)),(8, .int .i64 (k1 : Int))] ∧ k1 ≤ l.length ∧ ∀ j,j < k1 → ∀ x,l[j]? = some x → pf x = false) _ ⟨0,G,rfl,(G.le_refl),hS,⟨rfl,rfl,rfl,rfl,trivial⟩,(by omega),(by intro j hj; omega)⟩ ?_
 rintro m ρ1 w1 ⟨k1,G1,rfl,hle1,hS1,hF9,f1,f2⟩
 refine hF9.set ?_
 clear hF9
 refine WL.lssS (k1 : Int) (l.length : Int) rfl rfl rfl (fun h1=>?_) (fun h1=>?_)
 ·refine WL.indexAddr (hvl.mono hle1) k1 (by omega) ul22 ti86 rfl rfl rfl rfl (fun p1 x1 hx1 he1=>?_)
  obtain ⟨cs1,hc1,hr1⟩:=he1
  obtain ⟨rfl,hb1,hb2⟩:=ColE_open hr1
  refine WL.loadGAt hS1 hc1 [strV x1.name, .int .i64 x1.kind] ti86 rfl rfl rfl rfl rfl ?_
  refine WL.cV hS1 hf.body rfl rfl rfl (hf.call _ _ (.agg #[strV x1.name, .int .i64 x1.kind]) x1 hle1 hS1.imm (List.mem_of_getElem? hx1) ⟨_,rfl,(ColE_mk x1 hb1 hb2)⟩) (fun w2 G2 hS2 hle2=>?_)
  refine WL.split (fun (h2 : (pf x1) = true)=>?_) (fun (h2 : (pf x1) = false)=>?_)
  ·exact RI hS2 rfl (by exact (idxF_some _ (by assumption) (by assumption) (by assumption)).symm)
  refine WL.incr k1 (by have hreach : reach = 140737488355328:=rfl; omega) rfl rfl rfl ?_
  exact BK.mk' _ ⟨k1 + 1,G2,rfl,(hle1.trans hle2),hS2,⟨rfl,rfl,rfl,rfl,trivial⟩,(by omega),(by exact lt_step (by assumption) (by assumption) (by assumption))⟩ (show l.length - (k1 + 1) < l.length - k1 by omega)
 exact RI hS1 rfl (by exact (idxF_none' (by assumption) (by omega)).symm)
theorem c_find1 {G : GH} {w : World} (hG : G.In w) (x : Col) (nm : List UInt8) (cx : List Value) (hcx : ColE.rep G x cx) (pn : Addr) (hpn : Cells G pn [strV nm]) : CL Tryz.prog (nat_lit 165) #[.agg cx.toArray, .pointer (some pn)] [] w G fun _ _ r=>r = .bool (decide (x.name = nm)):=by
 refine calls_of_go ft [] Tryz.func165 rfl rfl ?_
 have hS:=St.start (X:=[]) hG
 obtain ⟨rfl,hb1,hb2⟩:=ColE_open hcx
 refine WL.boxG [strV x.name, .int .i64 x.kind] _ hS rfl rfl rfl (fun p1 w1 G1 hle1 hsp1 hc1 hS1=>?_)
 refine WL.loadG1 hS1 (Cells.drop 0 hc1) ti9 rfl rfl rfl <| WL.loadG1 hS1 (hpn.mono hle1) ti9 rfl rfl rfl <| WL.strCmp .eql rfl x.name nm rfl rfl rfl ?_
 exact RB hS1 rfl (by simp [SCmp.b])
theorem c_find {G : GH} {w : World} (hG : G.In w) (l : List Col) (nm : List UInt8) (vl : Value) (hvl : Sl ColE 24 G vl l) : CL Tryz.prog (nat_lit 128) #[vl,strV nm] [] w G fun _ _ r=>r = .int .i64 (findC l nm):=by
 refine calls_of_go ft [] Tryz.func128 rfl rfl ?_
 have hS:=St.start (X:=[]) hG
 refine WL.boxG [strV nm] _ hS rfl rfl rfl (fun p1 w1 G1 hle1 hsp1 hc1 hS1=>?_)
 refine WL.cV hS1 hb164 rfl rfl rfl (c_IndexC hS1.imm l (fun x8=>decide (x8.name = nm)) _ (hvl.mono hle1) 165 #[.pointer (some p1)] ⟨hb165,fun G8 w8 v8 x8 hle8 hG8 hon8 hA8=>by obtain ⟨cs_x8,rfl,hr_x8⟩:=hA8; exact c_find1 hG8 x8 nm cs_x8 hr_x8 p1 (hc1.mono hle8)⟩) (fun w2 G2 hS2 hle2=>?_)
 exact RI hS2 rfl (by rfl)
theorem c_typed (d : Nat) : ∀ {G : GH} {w : World} (hG : G.In w) (c : Cond) (l : List Col) (cc : List Value) (hcc : (CondE d).rep G c cc) (vl : Value) (hvl : Sl ColE 24 G vl l),CL Tryz.prog (nat_lit 87) #[.agg cc.toArray,vl] [] w G fun _ _ r=>r = .int .i64 (typedF d c l):=by
 induction d
 ·intro G w hG c l cc hcc vl hvl; exact (CondE_zero hcc).elim
 rename_i d ih
 intro G w hG c l cc hcc vl hvl
 refine calls_of_go ft [13] Tryz.func87 rfl rfl ?_
 have hS:=St.start (X:=[]) hG
 obtain ⟨lv1,rfl,hb1,hb2,hb3,hb4,hb5,hb6,ho1⟩:=CondE_step hcc
 refine WL.boxG [.int .i64 c.kind,strV c.col,strV c.oth, .int .i64 c.v.k, .int .i64 c.v.n,strV c.v.s,lv1] _ hS rfl rfl rfl (fun p1 w1 G1 hle1 hsp1 hc1 hS1=>?_)
 refine JN.go ft [13] (fun ρ1 w1=>∃ (G2 : GH),G1.le G2 ∧ St w [] G G2 [] w1 ∧ FR ρ1 [(1,vl),(2, .pointer (some p1))] ∧ typ1 c l = 0) ?_ ?_
 ·refine WL.loadG1 hS1 (Cells.drop 0 hc1) ti3 rfl rfl rfl ?_
  refine WL.eqlS c.kind 1 rfl rfl rfl (fun h1=>?_) (fun h1=>?_)
  ·refine WL.loadG1 hS1 (Cells.drop 1 hc1) ti9 rfl rfl rfl ?_
   refine WL.cV hS1 hb128 rfl rfl rfl (c_find hS1.imm l c.col _ (hvl.mono hle1)) (fun w3 G3 hS3 hle3=>?_)
   have hf1:=findC_lt (l:=l) (nm:=c.col)
   refine WL.lssS (findC l c.col) 0 rfl rfl rfl (fun h2=>?_) (fun h2=>?_)
   ·exact RI hS3 rfl (by exact (typed_1 (typ_7 (by first | exact .inl (by assumption) | exact .inr (by assumption)) (by assumption)) (by decide)).symm)
   refine WL.loadG1 hS3 (Cells.drop 0 (Cells.drop 3 (hc1.mono hle3))) ti3 rfl rfl rfl <| WL.loadG1 hS3 (Cells.drop 2 (hc1.mono hle3)) ti9 rfl rfl rfl <| WL.strCmp .neq rfl c.oth [] rfl rfl rfl ?_
   refine WL.split (fun h0=>?_) (fun h0=>?_)
   ·have h3 : c.oth ≠ []:=by simpa [SCmp.b] using h0
    clear h0
    refine WL.loadG1 hS3 (Cells.drop 2 (hc1.mono hle3)) ti9 rfl rfl rfl ?_
    refine WL.cV hS3 hb128 rfl rfl rfl (c_find hS3.imm l c.oth _ (hvl.mono (hle1.trans hle3))) (fun w4 G4 hS4 hle4=>?_)
    have hf2:=findC_lt (l:=l) (nm:=c.oth)
    refine WL.lssS (findC l c.oth) 0 rfl rfl rfl (fun h4=>?_) (fun h4=>?_)
    ·exact RI hS4 rfl (by exact (typed_1 (typ_7o (by first | exact .inl (by assumption) | exact .inr (by assumption)) (by omega) (by assumption) (by assumption)) (by decide)).symm)
    refine WL.indexAddr (hvl.mono ((hle1.trans hle3).trans hle4)) (((findC l c.oth)).toNat) (by omega) ul22 ti86 rfl rfl rfl (congrArg (Value.int .i64) (Int.toNat_of_nonneg (by omega)).symm) (fun p2 x1 hx1 he1=>?_)
    obtain ⟨cs1,hc2,hr1⟩:=he1
    obtain ⟨rfl,hb7,hb8⟩:=ColE_open hr1
    refine WL.loadG1 hS4 (Cells.drop 1 hc2) ti3 rfl rfl rfl ?_
    refine WL.indexAddr (hvl.mono ((hle1.trans hle3).trans hle4)) (((findC l c.col)).toNat) (by omega) ul22 ti86 rfl rfl rfl (congrArg (Value.int .i64) (Int.toNat_of_nonneg (by omega)).symm) (fun p3 x2 hx2 he2=>?_)
    obtain ⟨cs2,hc3,hr2⟩:=he2
    obtain ⟨rfl,hb9,hb10⟩:=ColE_open hr2
    refine WL.loadG1 hS4 (Cells.drop 1 hc3) ti3 rfl rfl rfl ?_
    refine WL.neqS x1.kind x2.kind rfl rfl rfl (fun h5=>?_) (fun h5=>?_)
    ·exact RI hS4 rfl (by exact (typed_1 ((typ_o (by first | exact .inl (by assumption) | exact .inr (by assumption)) (by omega) (by assumption) (by omega) (by assumption) (by assumption)).trans (if_pos (by omega))) (by decide)).symm)
    exact ⟨G4,(hle3.trans hle4),hS4,⟨rfl,rfl,trivial⟩,(by exact (typ_o (by first | exact .inl (by assumption) | exact .inr (by assumption)) (by omega) (by assumption) (by omega) (by assumption) (by assumption)).trans (if_neg (by omega)))⟩
   have h3 : c.oth = []:=by simpa [SCmp.b] using h0
   clear h0
   refine WL.indexAddr (hvl.mono (hle1.trans hle3)) (((findC l c.col)).toNat) (by omega) ul22 ti86 rfl rfl rfl (congrArg (Value.int .i64) (Int.toNat_of_nonneg (by omega)).symm) (fun p4 x3 hx3 he3=>?_)
   obtain ⟨cs3,hc4,hr3⟩:=he3
   obtain ⟨rfl,hb11,hb12⟩:=ColE_open hr3
   refine WL.loadG1 hS3 (Cells.drop 1 hc4) ti3 rfl rfl rfl ?_
   refine WL.neqS c.v.k x3.kind rfl rfl rfl (fun h6=>?_) (fun h6=>?_)
   ·exact RI hS3 rfl (by exact (typed_1 ((typ_v (by first | exact .inl (by assumption) | exact .inr (by assumption)) (by omega) (by assumption) (by assumption)).trans (if_pos (by omega))) (by decide)).symm)
   exact ⟨G3,hle3,hS3,⟨rfl,rfl,trivial⟩,(by exact (typ_v (by first | exact .inl (by assumption) | exact .inr (by assumption)) (by omega) (by assumption) (by assumption)).trans (if_neg (by omega)))⟩
  refine WL.loadG1 hS1 (Cells.drop 0 hc1) ti3 rfl rfl rfl ?_
  refine WL.eqlS c.kind 2 rfl rfl rfl (fun h7=>?_) (fun h7=>?_)
  ·refine WL.loadG1 hS1 (Cells.drop 1 hc1) ti9 rfl rfl rfl ?_
   refine WL.cV hS1 hb128 rfl rfl rfl (c_find hS1.imm l c.col _ (hvl.mono hle1)) (fun w5 G5 hS5 hle5=>?_)
   have hf1:=findC_lt (l:=l) (nm:=c.col)
   refine WL.lssS (findC l c.col) 0 rfl rfl rfl (fun h8=>?_) (fun h8=>?_)
   ·exact RI hS5 rfl (by exact (typed_1 (typ_7 (by first | exact .inl (by assumption) | exact .inr (by assumption)) (by assumption)) (by decide)).symm)
   refine WL.loadG1 hS5 (Cells.drop 0 (Cells.drop 3 (hc1.mono hle5))) ti3 rfl rfl rfl <| WL.loadG1 hS5 (Cells.drop 2 (hc1.mono hle5)) ti9 rfl rfl rfl <| WL.strCmp .neq rfl c.oth [] rfl rfl rfl ?_
   refine WL.split (fun h0=>?_) (fun h0=>?_)
   ·have h9 : c.oth ≠ []:=by simpa [SCmp.b] using h0
    clear h0
    refine WL.loadG1 hS5 (Cells.drop 2 (hc1.mono hle5)) ti9 rfl rfl rfl ?_
    refine WL.cV hS5 hb128 rfl rfl rfl (c_find hS5.imm l c.oth _ (hvl.mono (hle1.trans hle5))) (fun w6 G6 hS6 hle6=>?_)
    have hf2:=findC_lt (l:=l) (nm:=c.oth)
    refine WL.lssS (findC l c.oth) 0 rfl rfl rfl (fun h10=>?_) (fun h10=>?_)
    ·exact RI hS6 rfl (by exact (typed_1 (typ_7o (by first | exact .inl (by assumption) | exact .inr (by assumption)) (by omega) (by assumption) (by assumption)) (by decide)).symm)
    refine WL.indexAddr (hvl.mono ((hle1.trans hle5).trans hle6)) (((findC l c.oth)).toNat) (by omega) ul22 ti86 rfl rfl rfl (congrArg (Value.int .i64) (Int.toNat_of_nonneg (by omega)).symm) (fun p5 x4 hx4 he4=>?_)
    obtain ⟨cs4,hc5,hr4⟩:=he4
    obtain ⟨rfl,hb13,hb14⟩:=ColE_open hr4
    refine WL.loadG1 hS6 (Cells.drop 1 hc5) ti3 rfl rfl rfl ?_
    refine WL.indexAddr (hvl.mono ((hle1.trans hle5).trans hle6)) (((findC l c.col)).toNat) (by omega) ul22 ti86 rfl rfl rfl (congrArg (Value.int .i64) (Int.toNat_of_nonneg (by omega)).symm) (fun p6 x5 hx5 he5=>?_)
    obtain ⟨cs5,hc6,hr5⟩:=he5
    obtain ⟨rfl,hb15,hb16⟩:=ColE_open hr5
    refine WL.loadG1 hS6 (Cells.drop 1 hc6) ti3 rfl rfl rfl ?_
    refine WL.neqS x4.kind x5.kind rfl rfl rfl (fun h11=>?_) (fun h11=>?_)
    ·exact RI hS6 rfl (by exact (typed_1 ((typ_o (by first | exact .inl (by assumption) | exact .inr (by assumption)) (by omega) (by assumption) (by omega) (by assumption) (by assumption)).trans (if_pos (by omega))) (by decide)).symm)
    exact ⟨G6,(hle5.trans hle6),hS6,⟨rfl,rfl,trivial⟩,(by exact (typ_o (by first | exact .inl (by assumption) | exact .inr (by assumption)) (by omega) (by assumption) (by omega) (by assumption) (by assumption)).trans (if_neg (by omega)))⟩
   have h9 : c.oth = []:=by simpa [SCmp.b] using h0
   clear h0
   refine WL.indexAddr (hvl.mono (hle1.trans hle5)) (((findC l c.col)).toNat) (by omega) ul22 ti86 rfl rfl rfl (congrArg (Value.int .i64) (Int.toNat_of_nonneg (by omega)).symm) (fun p7 x6 hx6 he6=>?_)
   obtain ⟨cs6,hc7,hr6⟩:=he6
   obtain ⟨rfl,hb17,hb18⟩:=ColE_open hr6
   refine WL.loadG1 hS5 (Cells.drop 1 hc7) ti3 rfl rfl rfl ?_
   refine WL.neqS c.v.k x6.kind rfl rfl rfl (fun h12=>?_) (fun h12=>?_)
   ·exact RI hS5 rfl (by exact (typed_1 ((typ_v (by first | exact .inl (by assumption) | exact .inr (by assumption)) (by omega) (by assumption) (by assumption)).trans (if_pos (by omega))) (by decide)).symm)
   exact ⟨G5,hle5,hS5,⟨rfl,rfl,trivial⟩,(by exact (typ_v (by first | exact .inl (by assumption) | exact .inr (by assumption)) (by omega) (by assumption) (by assumption)).trans (if_neg (by omega)))⟩
  exact ⟨G1,(G1.le_refl),hS1,⟨rfl,rfl,trivial⟩,(by exact typ_no (by assumption) (by assumption))⟩
 rintro ρ1 w2 ⟨G2,hle2,hS2,hF9,f1⟩
 refine hF9.set ?_
 have ht0:=(by assumption : typ1 c l = 0)
 refine WL.loadG1 hS2 (Cells.drop 6 (hc1.mono hle2)) ti49 rfl rfl rfl ?_
 have bd1:=ho1.bound
 refine WL.lenSl (ho1.mono (hle1.trans hle2)) ul49 rfl rfl ?_
 refine LP.go ft [13] (fun m ρ1 w1=>∃ (k1 : Nat),∃ (G7 : GH),m = c.l.length - k1 ∧ G2.le G7 ∧ St w [] G G7 [] w1 ∧ FR ρ1 [(1,vl),(50,lv1),(51, .int .i64 (c.l.length : Int)),(52, .int .i64 (k1 : Int))] ∧ k1 ≤ c.l.length ∧ ∀ j,j < k1 → ∀ y,c.l[j]? = some y → typedF d y l = 0) _ ⟨0,G2,rfl,(G2.le_refl),hS2,⟨rfl,rfl,rfl,rfl,trivial⟩,(by omega),(by intro j hj; omega)⟩ ?_
 rintro m ρ1 w7 ⟨k1,G7,rfl,hle7,hS7,hF9,f2,f3⟩
 refine hF9.set ?_
 clear hF9
 refine WL.lssS (k1 : Int) (c.l.length : Int) rfl rfl rfl (fun h13=>?_) (fun h13=>?_)
 ·refine WL.indexAddr (ho1.mono ((hle1.trans hle2).trans hle7)) k1 (by omega) ul49 ti51 rfl rfl rfl rfl (fun p8 x7 hx7 he7=>?_)
  obtain ⟨cs7,hc8,hr7⟩:=he7
  obtain ⟨lv2,rfl,hb19,hb20,hb21,hb22,hb23,hb24,ho2⟩:=CondE_open hr7
  refine WL.loadGAt hS7 hc8 [.int .i64 x7.kind,strV x7.col,strV x7.oth, .int .i64 x7.v.k, .int .i64 x7.v.n,strV x7.v.s,lv2] ti51 rfl rfl rfl rfl rfl ?_
  refine WL.alloc hS7 ti51 rfl rfl (fun b1 w9 hn1 hS8=>?_)
  refine WL.store hS8 0 _ _ _ 0 _ [.int .i64 x7.kind,strV x7.col,strV x7.oth, .int .i64 x7.v.k, .int .i64 x7.v.n,strV x7.v.s,lv2] [.int .i64 x7.kind,strV x7.col,strV x7.oth, .int .i64 x7.v.k, .int .i64 x7.v.n,strV x7.v.s,lv2] _ rfl rfl ti51 rfl (Nat.le_of_ble_eq_true rfl) (by simp only [List.all_cons,List.all_nil,ho2,Bool.true_and] <;> rfl) rfl rfl rfl rfl rfl (fun w10 hS9=>?_)
  obtain ⟨G9,hle9,hc9,hS10⟩:=hS9.shutB hn1
  refine WL.loadGAt hS10 hc9 [.int .i64 x7.kind,strV x7.col,strV x7.oth, .int .i64 x7.v.k, .int .i64 x7.v.n,strV x7.v.s,lv2] ti51 rfl rfl rfl rfl rfl ?_
  refine WL.cV hS10 hb87 rfl rfl rfl (ih hS10.imm x7 l _ ((CondE _).mono hle9 hr7) _ (hvl.mono (((hle1.trans hle2).trans hle7).trans hle9))) (fun w11 G10 hS11 hle10=>?_)
  refine WL.neqS (typedF d x7 l) 0 rfl rfl rfl (fun h14=>?_) (fun h14=>?_)
  ·exact RI hS11 rfl (by exact (typed_2 ht0 (by assumption) (by assumption) (by assumption)).symm)
  refine WL.incr k1 (by have hreach : reach = 140737488355328:=rfl; omega) rfl rfl rfl ?_
  exact BK.mk' _ ⟨k1 + 1,G10,rfl,(hle7.trans (hle9.trans hle10)),hS11,⟨rfl,rfl,rfl,rfl,trivial⟩,(by omega),(by exact lt_step (by assumption) (by assumption) (by assumption))⟩ (show c.l.length - (k1 + 1) < c.l.length - k1 by omega)
 exact RI hS7 rfl (by exact (typed_3 ht0 (by assumption) (by omega)).symm)
end Go.Civ
