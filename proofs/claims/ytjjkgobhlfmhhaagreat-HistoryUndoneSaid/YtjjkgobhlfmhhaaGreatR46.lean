/- Lemmas: Wl1. -/
import Derived.Test.YtjjkgobhlfmhhaaGreatR29
import Derived.Test.YtjjkgobhlfmhhaaGreatR30
import Derived.Test.YtjjkgobhlfmhhaaGreatR45
import Derived.Test.YtjjkgobhlfmhhaaGreatProg
import Derived.KernelRfl
import Derived.WalkKit
set_option linter.unusedVariables false
set_option linter.unusedSimpArgs false
set_option maxRecDepth 100000
set_option maxHeartbeats 4000000
namespace Go.Civ
open Go.Proofs
theorem c_put {w0 : World} {G0 G : GH} {w : World} {R : Own} (v : List Val) (a b : List Span) (tx : Span) (l : List HRow) (bo : Nat) (vo : Value) (ro : OB) (hvo : Row HRowE 56 (nat_lit 64) G vo l ro) (hS : St w0 [] G0 G (some (bo,(nat_lit 26),[vo]) :: ro :: R) w) (vv : Value) (hvv : Sl ValE 32 G vv v) (va : Value) (hva : Sl SpanE 16 G va a) (vb : Value) (hvb : Sl SpanE 16 G vb b) (ct : List Value) (hct : SpanE.rep G tx ct) (hCa : Can a) (hCb : Can b) (hVa : ∀ s ∈ a,spanV s = true) (hVb : ∀ s ∈ b,spanV s = true) (hla : a.length ≤ 1000) (hlb : b.length ≤ 1000) (hb : l.length + (combR 3 a b).length ≤ 1000000000) : Calls Tryz.prog (nat_lit 107) #[vv,va,vb, .agg ct.toArray, .pointer (some ⟨bo,0,none⟩)] w fun e9 w9=>∃ (G9 : GH) (v9 : Value) (o9 : OB),e9 = .returned (.tuple #[]) ∧ G.le G9 ∧ St w0 [] G0 G9 (some (bo,(nat_lit 26),[v9]) :: o9 :: R) w9 ∧ Row HRowE 56 (nat_lit 64) G9 v9 (l ++ outN v (combR 3 a b) tx.a tx.b) o9:=by
 refine calls_of_go ft [] Tryz.func107 rfl rfl ?_
 obtain ⟨rfl,hb1,hb2⟩:=SpanE_open hct
 refine WL.boxG [.int .i64 tx.a, .int .i64 tx.b] _ hS rfl rfl rfl (fun p1 w1 G1 hle1 hsp1 hc1 hS1=>?_)
 refine WL.cA hS1 hb108 rfl rfl rfl (c_Minus hS1.imm a b _ (hva.mono hle1) _ (hvb.mono hle1) hCa hCb hVa hVb hla hlb) ?_
 rintro w2 G2 _ ⟨r2,_,rfl,hs1,rfl⟩ hS2 hle2
 have bd1:=hs1.bound
 refine WL.lenSl hs1 ul129 rfl rfl ?_
 refine LP.go ft [] (fun m ρ1 w1=>∃ (k1 : Nat),∃ (v1 : Value) (o1 : OB),∃ (G3 : GH),m = (combR 3 a b).length - k1 ∧ G2.le G3 ∧ St w0 [] G0 G3 (some (bo,(nat_lit 26),[v1]) :: o1 :: R) w1 ∧ Row HRowE 56 64 G3 v1 (l ++ outN v ((combR 3 a b).take k1) tx.a tx.b) o1 ∧ FR ρ1 [(0,vv),(4, .pointer (some ⟨bo,0,none⟩)),(8, .pointer (some p1)),(19,r2),(20, .int .i64 (((combR 3 a b).length : Nat) : Int)),(21, .int .i64 (k1 : Int))] ∧ k1 ≤ (combR 3 a b).length) _ ⟨0,vo,ro,G2,rfl,(G2.le_refl),hS2,(Row.cast (hvo.mono (hle1.trans hle2)) (by simp [outN])),⟨rfl,rfl,rfl,rfl,rfl,rfl,trivial⟩,(by omega)⟩ ?_
 rintro m ρ1 w3 ⟨k1,v1,o1,G3,rfl,hle3,hS3,hr1,hF9,f1⟩
 refine hF9.set ?_
 clear hF9
 have hol:=outN_len v ((combR 3 a b).take k1) tx.a tx.b
 have hot:=List.length_take_le' k1 (combR 3 a b)
 refine WL.lssS (k1 : Int) (((combR 3 a b).length : Nat) : Int) rfl rfl rfl (fun h1=>?_) (fun h1=>?_)
 ·refine WL.indexAddr (hs1.mono hle3) k1 (by omega) ul129 ti38 rfl rfl rfl rfl (fun p2 x1 hx1 he1=>?_)
  obtain ⟨cs1,hc2,hr2⟩:=he1
  obtain ⟨rfl,hb3,hb4⟩:=SpanE_open hr2
  refine WL.loadGAt hS3 hc2 [.int .i64 x1.a, .int .i64 x1.b] ti38 rfl rfl rfl rfl rfl ?_
  refine WL.alloc hS3 ti38 rfl rfl (fun b1 w4 hn1 hS4=>?_)
  refine WL.store hS4 0 _ _ _ 0 _ [.int .i64 x1.a, .int .i64 x1.b] [.int .i64 x1.a, .int .i64 x1.b] _ rfl rfl ti38 rfl (Nat.le_of_ble_eq_true rfl) rfl rfl rfl rfl rfl rfl (fun w5 hS5=>?_)
  obtain ⟨G4,hle4,hc3,hS6⟩:=hS5.shutB hn1
  refine dr [(2,true),(6,true),(7,true),(8,false),(9,false)] [(25,v1),(28, .agg #[.int .i64 x1.a, .int .i64 x1.b]),(29, .agg #[.int .i64 tx.a, .int .i64 tx.b]),(30, .agg #[.int .i64 x1.a, .int .i64 x1.b, .int .i64 tx.a, .int .i64 tx.b])] hS6 ⟨fun _ hSw=>WL.loadO1 hSw 0 _ _ _ 0 _ rfl rfl ti26 rfl rfl rfl <| nu rfl rfl,fun _ hSw=>WL.loadGAt hSw hc3 [.int .i64 x1.a, .int .i64 x1.b] ti38 rfl rfl rfl rfl rfl <| nu rfl rfl,fun _ hSw=>WL.loadGAt hSw (hc1.mono ((hle2.trans hle3).trans hle4)) [.int .i64 tx.a, .int .i64 tx.b] ti38 rfl rfl rfl rfl rfl <| nu rfl rfl,fun _=>WL.build _ [(0,[.int .i64 x1.a, .int .i64 x1.b]),(1,[.int .i64 tx.a, .int .i64 tx.b])] [.int .i64 x1.a, .int .i64 x1.b, .int .i64 tx.a, .int .i64 tx.b] ti62 rfl fl62 rfl rfl rfl rfl <| nu rfl rfl,trivial⟩ (fun w6 hS7=>?_)
  refine WL.cA hS7 hb54 rfl rfl rfl (c_CloneVs hS7.imm v _ (hvv.mono (((hle1.trans hle2).trans hle3).trans hle4))) (fun w7 G5 r4 hpost2 hS8 hle5=>?_)
  refine ⟨hS8.down hS7.le hle5,?_⟩
  refine WL.build _ [(0,[r4]),(1,[.int .i64 x1.a, .int .i64 x1.b, .int .i64 tx.a, .int .i64 tx.b])] [r4, .int .i64 x1.a, .int .i64 x1.b, .int .i64 tx.a, .int .i64 tx.b] ti64 rfl fl64 rfl rfl (by show [(0,(r4 : Value).cells.toList),(1,(.agg #[.int .i64 x1.a, .int .i64 x1.b, .int .i64 tx.a, .int .i64 tx.b] : Value).cells.toList)] = _; simp only [hpost2.cells1] <;> rfl) rfl ?_
  refine ⟨hS8.down hS7.le hle5,?_⟩
  refine WL.buildSlice _ [(0,[r4, .int .i64 x1.a, .int .i64 x1.b, .int .i64 tx.a, .int .i64 tx.b])] [r4, .int .i64 x1.a, .int .i64 x1.b, .int .i64 tx.a, .int .i64 tx.b] hS8 sl26 rfl rfl rfl rfl (fun z hz=>by match z,hz with | [z0,z1,z2,z3,z4],_=>rfl) (fun b2 w9 hn2 hS9=>?_)
  refine ⟨hS9.tail.down hS7.le hle5,?_⟩
  refine WL.push (m:=([(HRow.mk v (Rect.mk x1 tx))] : List HRow)) sl26 rfl rfl rfl (hr1.mono (hle4.trans hle5)) hS9 2 rfl 0 _ _ _ _ _ rfl ⟨[r4, .int .i64 x1.a, .int .i64 x1.b, .int .i64 tx.a, .int .i64 tx.b],_,rfl,(HRowE_mk (HRow.mk v (Rect.mk x1 tx)) hpost2 hb3 hb4 hb1 hb2),rfl⟩ rfl (by have hreach : reach = 140737488355328:=rfl; simp only [List.length_append,List.length_cons,List.length_nil]; omega) (by have hreach : reach = 140737488355328:=rfl; simp only [List.length_append,List.length_cons,List.length_nil]; omega) rfl rfl rfl (fun v2 o2 w10 hr3 hS10=>?_)
  have hS11:=hS10.tail
  refine WL.store hS11 0 _ _ _ 0 _ [v2] [v2] _ rfl hr3.cells1 ti26 rfl (Nat.le_of_ble_eq_true rfl) (by simp only [List.all_cons,List.all_nil,hr3.oneC,Bool.true_and] <;> rfl) rfl rfl rfl rfl rfl (fun w11 hS12=>?_)
  refine WL.incr k1 (by have hreach : reach = 140737488355328:=rfl; omega) rfl rfl rfl ?_
  exact BK.mk' _ ⟨k1 + 1,v2,o2,G5,rfl,(hle3.trans (hle4.trans hle5)),hS12,(Row.cast hr3 (by (rw [outN_take (by assumption),List.append_assoc]))),⟨rfl,rfl,rfl,rfl,rfl,rfl,trivial⟩,(by omega)⟩ (show (combR 3 a b).length - (k1 + 1) < (combR 3 a b).length - k1 by omega)
 exact ⟨_,rfl,G3,v1,o1,rfl,((hle1.trans hle2).trans hle3),hS3,(Row.cast hr1 (by rw [outN_all (by omega)]))⟩
theorem c_hChanges {G : GH} {w : World} (hG : G.In w) (t : Table) (a b : Int) (ct : List Value) (hct : TableE.rep G t ct) (ha64 : I64 a) (hb64 : I64 b) : CL Tryz.prog (nat_lit 47) #[.agg ct.toArray, .int .i64 a, .int .i64 b] [] w G fun G' _ r=>∃ r0 r1,r = .tuple #[r0,r1] ∧ Sl HRowE 56 G' r0 (chgsH t a b) ∧ r1 = .int .i64 (chgsErr t a b):=by
 refine calls_of_go ft [11] Tryz.func47 rfl rfl ?_
 have hS:=St.start (X:=[]) hG
 obtain ⟨v1,v2,v3,rfl,hb1,hs1,hb2,hs2,hs3,hb3⟩:=TableE_open hct
 refine WL.boxG [strV t.s.name,v1, .int .i64 t.s.key,v2,v3, .int .i64 t.last] _ hS rfl rfl rfl (fun p1 w1 G1 hle1 hsp1 hc1 hS1=>?_)
 refine WL.loadGAt hS1 hc1 [strV t.s.name,v1, .int .i64 t.s.key,v2,v3, .int .i64 t.last] ti28 rfl rfl rfl rfl rfl ?_
 refine WL.cV hS1 hb15 rfl rfl rfl (c_hValid hS1.imm t _ (TableE_mk t hb1 (hs1.mono hle1) hb2 (hs2.mono hle1) (hs3.mono hle1) hb3)) (fun w2 G2 hS2 hle2=>?_)
 refine WL.split (fun (h1 : (validT t) = true)=>?_) (fun (h1 : (validT t) = false)=>?_)
 ·refine WL.cV hS2 hb91 rfl rfl rfl (c_instant hS2.imm a) (fun w3 G3 hS3 hle3=>?_)
  refine WL.split (fun (h2 : (instB a) = true)=>?_) (fun (h2 : (instB a) = false)=>?_)
  ·refine WL.cV hS3 hb91 rfl rfl rfl (c_instant hS3.imm b) (fun w4 G4 hS4 hle4=>?_)
   refine WL.split (fun (h3 : (instB b) = true)=>?_) (fun (h3 : (instB b) = false)=>?_)
   ·refine WL.geqS a b rfl rfl rfl (fun h4=>?_) (fun h4=>?_)
    ·exact RT hS4 rfl ⟨_,_,rfl,(Sl.cast (Sl.nil HRowE 56 G4) (by exact (chgs_2 (by assumption) (by first | exact .inl (by assumption) | exact .inr (.inl (by assumption)) | exact .inr (.inr (by omega)))).1)),(congrArg (Value.int .i64) (by exact (chgs_2 (by assumption) (by first | exact .inl (by assumption) | exact .inr (.inl (by assumption)) | exact .inr (.inr (by omega)))).2))⟩
    refine WL.alloc hS4 ti26 rfl rfl (fun b1 w5 hn1 hS5=>?_)
    obtain ⟨hg9,hn9,h89,_⟩:=validT_good (by assumption : validT t = true)
    have hgl:=@grpH_len t.rows
    have hab : a < b:=by omega
    have hia:=instB_parts (by assumption : instB a = true)
    have hib:=instB_parts (by assumption : instB b = true)
    have hS6:=hS5.pad
    refine WL.loadG1 hS6 (Cells.drop 4 (hc1.mono ((hle2.trans hle3).trans hle4))) ti26 rfl rfl rfl ?_
    refine WL.cA hS6 hb92 rfl rfl rfl (c_groups hS6.imm t.rows _ (hs3.mono (((hle1.trans hle2).trans hle3).trans hle4)) hg9 (le1000 h89) (Nat.le_trans hn9 (by decide))) (fun w6 G5 r1 hpost1 hS7 hle5=>?_)
    have bd1:=hpost1.bound
    refine WL.lenSl hpost1 ul125 rfl rfl ?_
    refine LP.go ft [11] (fun m ρ1 w1=>∃ (k1 : Nat),∃ (v4 : Value) (o1 : OB),∃ (G6 : GH),m = (grpH t.rows).length - k1 ∧ G5.le G6 ∧ St w [] G G6 [o1,some (b1,26,[v4])] w1 ∧ Row HRowE 56 64 G6 v4 (chgP ((grpH t.rows).take k1) a b) o1 ∧ FR ρ1 [(1, .int .i64 a),(2, .int .i64 b),(8, .pointer (some ⟨b1,0,none⟩)),(9, .func (.func 107) #[] #[.pointer (some ⟨b1,0,none⟩)]),(35,r1),(36, .int .i64 (((grpH t.rows).length : Nat) : Int)),(37, .int .i64 (k1 : Int))] ∧ k1 ≤ (grpH t.rows).length) _ ⟨0,(.slice none 0 0),none,G5,rfl,(G5.le_refl),hS7,(Row.cast ((Row.nil HRowE 56 64 G4).mono hle5) (by rfl)),⟨rfl,rfl,rfl,rfl,rfl,rfl,rfl,trivial⟩,(by omega)⟩ ?_
    rintro m ρ1 w7 ⟨k1,v4,o1,G6,rfl,hle6,hS8,hr1,hF9,f1⟩
    refine hF9.set ?_
    clear hF9
    have hcl:=chgP_takeLen (k:=k1) (a:=a) (b:=b) hn9
    refine WL.lssS (k1 : Int) (((grpH t.rows).length : Nat) : Int) rfl rfl rfl (fun h5=>?_) (fun h5=>?_)
    ·refine WL.indexAddr (hpost1.mono hle6) k1 (by omega) ul125 ti128 rfl rfl rfl rfl (fun p2 x1 hx1 he1=>?_)
     obtain ⟨cs1,hc2,hr2⟩:=he1
     obtain ⟨v5,v6,rfl,hs4,hs5⟩:=HGrpE_open hr2
     refine WL.loadGAt hS8 hc2 [v5,v6] ti128 rfl rfl rfl rfl rfl ?_
     refine WL.alloc hS8 ti128 rfl rfl (fun b2 w9 hn2 hS9=>?_)
     refine WL.store hS9 0 _ _ _ 0 _ [v5,v6] [v5,v6] _ rfl rfl ti128 rfl (Nat.le_of_ble_eq_true rfl) (by simp only [List.all_cons,List.all_nil,hs4.oneC,hs5.oneC,Bool.true_and] <;> rfl) rfl rfl rfl rfl rfl (fun w10 hS10=>?_)
     obtain ⟨G7,hle7,hc3,hS11⟩:=hS10.shutB hn2
     refine JN.go ft [11] (fun ρ1 w1=>∃ (vb9 : Value),∃ (vh9 : Value),∃ (G9 : GH),G7.le G9 ∧ St w [] G G9 [o1,some (b1,26,[v4])] w1 ∧ FR ρ1 [(1, .int .i64 a),(2, .int .i64 b),(8, .pointer (some ⟨b1,0,none⟩)),(9, .func (.func 107) #[] #[.pointer (some ⟨b1,0,none⟩)]),(11, .pointer (some (⟨b2,0,none⟩ : Addr))),(12,vb9),(13,vh9),(35,r1),(36, .int .i64 (((grpH t.rows).length : Nat) : Int)),(37, .int .i64 (k1 : Int))] ∧ Sl SpanE 16 G9 vb9 (timesH x1.t a) ∧ Sl SpanE 16 G9 vh9 (timesH x1.t b)) ?_ ?_
     ·have hok9:=grpH_ok hg9 (Nat.le_trans hn9 (by decide)) (by assumption : (grpH t.rows)[k1]? = some _)
      have hts : x1.t.length ≤ 500:=Nat.le_trans (grpH_t _ (List.mem_of_getElem? (by assumption : (grpH t.rows)[k1]? = some x1))) hn9
      refine dr [(3,true),(7,false),(8,false),(9,false)] [(42,v6),(46,v6)] hS11 ⟨fun _ hSw=>WL.loadG1 hSw (Cells.drop 1 hc3) ti26 rfl rfl rfl <| nu rfl rfl,fun _ hSw=>WL.loadG1 hSw (Cells.drop 1 hc3) ti26 rfl rfl rfl <| nu rfl rfl,trivial⟩ (fun w12 hS13=>?_)
      refine WL.cA hS13 hb93 rfl rfl rfl (c_htimes hS13.imm x1.t a _ (hs5.mono hle7) hok9.1 hok9.2) (fun w13 G10 r2 hpost2 hS14 hle10=>?_)
      refine ⟨hS14.down hS13.le hle10,?_⟩
      refine WL.cA hS14 hb93 rfl rfl rfl (c_htimes hS14.imm x1.t b _ (hs5.mono (hle7.trans hle10)) hok9.1 hok9.2) (fun w14 G11 r3 hpost3 hS15 hle11=>?_)
      exact ⟨r2,r3,G11,(hle10.trans hle11),hS15,⟨rfl,rfl,rfl,rfl,rfl,rfl,rfl,rfl,rfl,rfl,trivial⟩,((hpost2.mono hle11)),(hpost3)⟩
     rintro ρ1 w11 ⟨vb9,vh9,G9,hle9,hS12,hF9,f2,f3⟩
     refine hF9.set ?_
     have hok9:=grpH_ok hg9 (Nat.le_trans hn9 (by decide)) (by assumption : (grpH t.rows)[k1]? = some x1)
     have hts : x1.t.length ≤ 500:=Nat.le_trans (grpH_t _ (List.mem_of_getElem? (by assumption : (grpH t.rows)[k1]? = some x1))) hn9
     refine WL.loadG1 hS12 (Cells.drop 0 (hc3.mono hle9)) ti36 rfl rfl rfl <| WL.build _ [(0,[.int .i64 a]),(1,[.int .i64 b])] [.int .i64 a, .int .i64 b] ti38 rfl fl38 rfl rfl rfl rfl ?_
     have hP1 : St w [] G G9 [some (b1,26,[v4]),o1] w11:=hS12.pick [1,0]
     refine WL.callF [v5,vb9,vh9, .agg #[.int .i64 a, .int .i64 b], .pointer (some ⟨b1,0,none⟩)] #[.pointer (some ⟨b1,0,none⟩)] hb107 rfl rfl rfl ((c_put x1.v (timesH x1.t a) (timesH x1.t b) (Span.mk a b) (chgP ((grpH t.rows).take k1) a b) _ _ _ (hr1.mono (hle7.trans hle9)) hP1 _ (hs4.mono (hle7.trans hle9)) _ f2 _ f3 _ (SpanE_mk (Span.mk a b) ha64 hb64) (timesH_can hok9.1 _) (timesH_can hok9.1 _) (timesH_V hok9.1 _) (timesH_V hok9.1 _) (Nat.le_trans (timesH_len _ _) (Nat.le_trans hts (by decide))) (Nat.le_trans (timesH_len _ _) (Nat.le_trans hts (by decide))) (by have hq9:=comb_small (a:=a) (b:=b) hts; have hq8:=comb_small (a:=b) (b:=a) hts; omega)).mono ?_)
     rintro e18 w15 ⟨G12,v7,o2,rfl,hle12,hS16,hr3⟩
     refine ⟨_,rfl,?_⟩
     refine WL.loadG1 hS16 (Cells.drop 0 (hc3.mono (hle9.trans hle12))) ti36 rfl rfl rfl <| WL.build _ [(0,[.int .i64 b]),(1,[.int .i64 253402300800])] [.int .i64 b, .int .i64 253402300800] ti38 rfl fl38 rfl rfl rfl rfl ?_
     refine WL.callF [v5,vh9,vb9, .agg #[.int .i64 b, .int .i64 253402300800], .pointer (some ⟨b1,0,none⟩)] #[.pointer (some ⟨b1,0,none⟩)] hb107 rfl rfl rfl ((c_put x1.v (timesH x1.t b) (timesH x1.t a) (Span.mk b 253402300800) (chgP ((grpH t.rows).take k1) a b ++ outN x1.v (combR 3 (timesH x1.t a) (timesH x1.t b)) a b) _ _ _ hr3 hS16 _ (hs4.mono ((hle7.trans hle9).trans hle12)) _ (f3.mono hle12) _ (f2.mono hle12) _ (SpanE_mk (Span.mk b 253402300800) hb64 (show I64 253402300800 from by constructor <;> decide)) (timesH_can hok9.1 _) (timesH_can hok9.1 _) (timesH_V hok9.1 _) (timesH_V hok9.1 _) (Nat.le_trans (timesH_len _ _) (Nat.le_trans hts (by decide))) (Nat.le_trans (timesH_len _ _) (Nat.le_trans hts (by decide))) (by have hq9:=comb_small (a:=a) (b:=b) hts; have hq8:=comb_small (a:=b) (b:=a) hts; (simp only [List.length_append,outN_len]; omega))).mono ?_)
     rintro e19 w16 ⟨G13,v9,o3,rfl,hle13,hS17,hr4⟩
     refine ⟨_,rfl,?_⟩
     refine WL.incr k1 (by have hreach : reach = 140737488355328:=rfl; omega) rfl rfl rfl ?_
     have hP2 : St w [] G G13 [o3,some (b1,26,[v9])] w16:=hS17.pick [1,0]
     exact BK.mk' _ ⟨k1 + 1,v9,o3,G13,rfl,(hle6.trans (((hle7.trans hle9).trans hle12).trans hle13)),hP2,(Row.cast hr4 (by (rw [chgP_take (by assumption),List.append_assoc]; rfl))),⟨rfl,rfl,rfl,rfl,rfl,rfl,rfl,trivial⟩,(by omega)⟩ (show (grpH t.rows).length - (k1 + 1) < (grpH t.rows).length - k1 by omega)
    refine WL.loadO1 hS8 1 _ _ _ 0 _ rfl rfl ti26 rfl rfl rfl ?_
    have bd2:=hr1.bound
    refine WL.lenRow hr1 ul26 rfl rfl ?_
    refine WL.gtrS (((chgP ((grpH t.rows).take k1) a b).length : Nat) : Int) 1000 rfl rfl rfl (fun h6=>?_) (fun h6=>?_)
    ·exact RT hS8 rfl ⟨_,_,rfl,(Sl.cast (Sl.nil HRowE 56 G6) (by exact (chgs_3 (by assumption) (by assumption) (by assumption) hab (by rw [← chgP_all (k:=k1) (by omega)]; omega)).1)),(congrArg (Value.int .i64) (by exact (chgs_3 (by assumption) (by assumption) (by assumption) hab (by rw [← chgP_all (k:=k1) (by omega)]; omega)).2))⟩
    refine WL.loadO1 hS8 1 _ _ _ 0 _ rfl rfl ti26 rfl rfl rfl ?_
    obtain ⟨G14,hle14,hs6,hS18⟩:=Row.freeze hr1 hS8 0 rfl
    exact RT hS18 rfl ⟨_,_,rfl,(Sl.cast hs6 (by (rw [chgP_all (by omega)]; exact (chgs_4 (by assumption) (by assumption) (by assumption) hab (by rw [← chgP_all (k:=k1) (by omega)]; omega)).1))),(congrArg (Value.int .i64) (by exact (chgs_4 (by assumption) (by assumption) (by assumption) hab (by rw [← chgP_all (k:=k1) (by omega)]; omega)).2))⟩
   exact RT hS4 rfl ⟨_,_,rfl,(Sl.cast (Sl.nil HRowE 56 G4) (by exact (chgs_2 (by assumption) (by first | exact .inl (by assumption) | exact .inr (.inl (by assumption)) | exact .inr (.inr (by omega)))).1)),(congrArg (Value.int .i64) (by exact (chgs_2 (by assumption) (by first | exact .inl (by assumption) | exact .inr (.inl (by assumption)) | exact .inr (.inr (by omega)))).2))⟩
  exact RT hS3 rfl ⟨_,_,rfl,(Sl.cast (Sl.nil HRowE 56 G3) (by exact (chgs_2 (by assumption) (by first | exact .inl (by assumption) | exact .inr (.inl (by assumption)) | exact .inr (.inr (by omega)))).1)),(congrArg (Value.int .i64) (by exact (chgs_2 (by assumption) (by first | exact .inl (by assumption) | exact .inr (.inl (by assumption)) | exact .inr (.inr (by omega)))).2))⟩
 exact RT hS2 rfl ⟨_,_,rfl,(Sl.cast (Sl.nil HRowE 56 G2) (by exact (chgs_1 (by assumption)).1)),(congrArg (Value.int .i64) (by exact (chgs_1 (by assumption)).2))⟩
end Go.Civ
