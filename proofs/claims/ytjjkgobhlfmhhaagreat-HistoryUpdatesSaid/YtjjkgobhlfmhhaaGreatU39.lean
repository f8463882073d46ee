/- Lemmas: Wm3. -/
import Derived.Test.YtjjkgobhlfmhhaaGreatU36
import Derived.Test.YtjjkgobhlfmhhaaGreatProg
import Derived.KernelRfl
import Derived.WalkKit
set_option linter.unusedVariables false
set_option linter.unusedSimpArgs false
set_option maxRecDepth 100000
set_option maxHeartbeats 4000000
namespace Go.Civ
open Go.Proofs
theorem c_rholds {G : GH} {w : World} (hG : G.In w) (d : Nat) (c : Cond) (s : Schema) (v : List Val) (cc : List Value) (hcc : (CondE d).rep G c cc) (cs : List Value) (hcs : SchemaE.rep G s cs) (vv : Value) (hvv : Sl ValE 32 G vv v) : CL Tryz.prog (nat_lit 89) #[.agg cc.toArray, .agg cs.toArray,vv] [] w G fun _ _ r=>r = .bool (hldB d c (s.cols.map Col.name) v):=by
 refine calls_of_go ft [] Tryz.func89 rfl rfl ?_
 have hS:=St.start (X:=[]) hG
 obtain ⟨lv1,rfl,hb1,hb2,hb3,hb4,hb5,hb6,ho1⟩:=CondE_open hcc
 obtain ⟨v1,v2,rfl,hb7,hs1,hb8,hs2⟩:=SchemaE_open hcs
 refine WL.boxG [.int .i64 c.kind,strV c.col,strV c.oth, .int .i64 c.v.k, .int .i64 c.v.n,strV c.v.s,lv1] _ hS rfl rfl rfl (fun p1 w1 G1 hle1 hsp1 hc1 hS1=>?_)
 refine WL.boxG [strV s.name,v1, .int .i64 s.key,v2] _ hS1 rfl rfl rfl (fun p2 w2 G2 hle2 hsp2 hc2 hS2=>?_)
 have hS4:=hS2.pad
 refine LP.go ft [] (fun m ρ1 w1=>∃ (k1 : Nat),∃ (v3 : Value) (o1 : OB),∃ (G3 : GH),m = s.cols.length - k1 ∧ G2.le G3 ∧ St w [] G G3 [o1] w1 ∧ Row Enc.str 16 9 G3 v3 ((s.cols.take k1).map Col.name) o1 ∧ FR ρ1 [(2,vv),(3, .pointer (some p1)),(4, .pointer (some p2)),(7,v3),(8, .int .i64 (k1 : Int))] ∧ k1 ≤ s.cols.length) _ ⟨0,(.slice none 0 0),none,G2,rfl,(G2.le_refl),hS4,(Row.cast (Row.nil Enc.str 16 9 G2) (by simp)),⟨rfl,rfl,rfl,rfl,rfl,trivial⟩,(by omega)⟩ ?_
 rintro m ρ1 w3 ⟨k1,v3,o1,G3,rfl,hle3,hS3,hr1,hF9,f1⟩
 refine hF9.set ?_
 clear hF9
 have htk:=List.length_take_le k1 s.cols
 refine WL.loadG1 hS3 (Cells.drop 1 (hc2.mono hle3)) ti22 rfl rfl rfl ?_
 have bd1:=hs1.bound
 refine WL.lenSl (hs1.mono ((hle1.trans hle2).trans hle3)) ul22 rfl rfl ?_
 refine WL.lssS (k1 : Int) (s.cols.length : Int) rfl rfl rfl (fun h1=>?_) (fun h1=>?_)
 ·refine WL.loadG1 hS3 (Cells.drop 1 (hc2.mono hle3)) ti22 rfl rfl rfl ?_
  refine WL.indexAddr (hs1.mono ((hle1.trans hle2).trans hle3)) k1 (by omega) ul22 ti86 rfl rfl rfl rfl (fun p3 x1 hx1 he1=>?_)
  obtain ⟨cs1,hc3,hr2⟩:=he1
  obtain ⟨rfl,hb9,hb10⟩:=ColE_open hr2
  refine WL.loadG1 hS3 (Cells.drop 0 hc3) ti9 rfl rfl rfl ?_
  refine WL.buildSlice _ [(0,[strV x1.name])] [strV x1.name] hS3 sl89 rfl rfl rfl rfl (fun z hz=>by match z,hz with | [z0],_=>rfl) (fun b1 w4 hn1 hS5=>?_)
  refine WL.push (m:=([x1.name] : List (List UInt8))) sl89 rfl rfl rfl hr1 hS5 1 rfl 0 _ _ _ _ _ rfl ⟨[strV x1.name],_,rfl,⟨rfl,hb9⟩,rfl⟩ rfl (by have hreach : reach = 140737488355328:=rfl; have hby:=(by assumption : Sl ColE 24 G _ s.cols).bytes; simp only [List.length_append,List.length_cons,List.length_nil,List.length_map]; omega) (by have hreach : reach = 140737488355328:=rfl; have hby:=(by assumption : Sl ColE 24 G _ s.cols).bytes; simp only [List.length_append,List.length_cons,List.length_nil,List.length_map]; omega) rfl rfl rfl (fun v4 o2 w5 hr3 hS6=>?_)
  have hS7:=hS6.tail
  refine WL.incr k1 (by have hreach : reach = 140737488355328:=rfl; omega) rfl rfl rfl ?_
  exact BK.mk' _ ⟨k1 + 1,v4,o2,G3,rfl,hle3,hS7,(Row.cast hr3 (by (rw [mapT_take (by assumption)]))),⟨rfl,rfl,rfl,rfl,rfl,trivial⟩,(by omega)⟩ (show s.cols.length - (k1 + 1) < s.cols.length - k1 by omega)
 refine WL.loadGAt hS3 (hc1.mono (hle2.trans hle3)) [.int .i64 c.kind,strV c.col,strV c.oth, .int .i64 c.v.k, .int .i64 c.v.n,strV c.v.s,lv1] ti51 rfl rfl rfl rfl rfl ?_
 obtain ⟨G4,hle4,hs3,hS8⟩:=Row.freeze hr1 hS3 0 rfl
 refine WL.cA hS8 hb129 rfl rfl rfl (c_rHolds hS8.imm _ c ((s.cols.take k1).map Col.name) v _ ((CondE _).mono (((hle1.trans hle2).trans hle3).trans hle4) hcc) _ hs3 _ (hvv.mono (((hle1.trans hle2).trans hle3).trans hle4))) ?_
 rintro w6 G5 _ ⟨_,_,rfl,rfl,rfl⟩ hS9 hle5
 exact RB hS9 rfl (by rw [List.take_of_length_le (by omega)])
theorem c_rmasked {G : GH} {w : World} (hG : G.In w) (v set : List Val) (mask : List Bool) (vv : Value) (hvv : Sl ValE 32 G vv v) (vs : Value) (hvs : Sl ValE 32 G vs set) (vm : Value) (hvm : Sl Enc.bool 1 G vm mask) (hm : mask.length = v.length) (hs : set.length = v.length) : CL Tryz.prog (nat_lit 90) #[vv,vs,vm] [] w G fun G' _ r=>Sl ValE 32 G' r (maskV v set mask):=by
 refine calls_of_go ft [] Tryz.func90 rfl rfl ?_
 have hS:=St.start (X:=[]) hG
 have hS2:=hS.pad
 refine LP.go ft [] (fun m ρ1 w1=>∃ (k1 : Nat),∃ (v1 : Value) (o1 : OB),∃ (G1 : GH),m = v.length - k1 ∧ G.le G1 ∧ St w [] G G1 [o1] w1 ∧ Row ValE 32 48 G1 v1 (maskV (v.take k1) set mask) o1 ∧ FR ρ1 [(0,vv),(1,vs),(2,vm),(7,v1),(8, .int .i64 (k1 : Int))] ∧ k1 ≤ v.length) _ ⟨0,(.slice none 0 0),none,G,rfl,(G.le_refl),hS2,(Row.cast (Row.nil ValE 32 48 G) (by exact (maskV_nil0 _ _).symm)),⟨rfl,rfl,rfl,rfl,rfl,trivial⟩,(by omega)⟩ ?_
 rintro m ρ1 w1 ⟨k1,v1,o1,G1,rfl,hle1,hS1,hr1,hF9,f1⟩
 refine hF9.set ?_
 clear hF9
 have hml:=maskV_takeLen v set mask k1
 have hmk : (maskV (v.take k1) set mask).length ≤ k1:=by rw [maskV_len]; exact List.length_take_le _ _
 have bd1:=hvv.bound
 refine WL.lenSl (hvv.mono hle1) ul36 rfl rfl ?_
 refine WL.lssS (k1 : Int) (v.length : Int) rfl rfl rfl (fun h1=>?_) (fun h1=>?_)
 ·refine WL.indexAddr (hvm.mono hle1) k1 (by omega) ul83 ti4 rfl rfl rfl rfl (fun p1 x1 hx1 he1=>?_)
  obtain ⟨cs1,hc1,hr2⟩:=he1
  obtain rfl:=hr2
  refine WL.loadG1 hS1 hc1 ti4 rfl rfl rfl ?_
  refine setB (d:=18) rfl (fun (h2 : x1 = true)=>?_) (fun (h2 : x1 = false)=>?_)
  ·refine WL.indexAddr (hvs.mono hle1) k1 (by omega) ul36 ti48 rfl rfl rfl rfl (fun p2 x2 hx2 he2=>?_)
   obtain ⟨cs2,hc2,hr3⟩:=he2
   obtain ⟨rfl,hb1,hb2,hb3⟩:=ValE_open hr3
   refine WL.loadGAt hS1 hc2 [.int .i64 x2.k, .int .i64 x2.n,strV x2.s] ti48 rfl rfl rfl rfl rfl ?_
   refine WL.buildSlice _ [(0,[.int .i64 x2.k, .int .i64 x2.n,strV x2.s])] [.int .i64 x2.k, .int .i64 x2.n,strV x2.s] hS1 sl36 rfl rfl rfl rfl (fun z hz=>by match z,hz with | [z0,z1,z2],_=>rfl) (fun b1 w2 hn1 hS3=>?_)
   refine WL.push (m:=([x2] : List Val)) sl36 rfl rfl rfl hr1 hS3 1 rfl 0 _ _ _ _ _ rfl ⟨[.int .i64 x2.k, .int .i64 x2.n,strV x2.s],_,rfl,(ValE_mk x2 hb1 hb2 hb3),rfl⟩ rfl (by have hreach : reach = 140737488355328:=rfl; have hby:=(by assumption : Sl ValE 32 G _ v).bytes; simp only [List.length_append,List.length_cons,List.length_nil,List.length_map]; omega) (by have hreach : reach = 140737488355328:=rfl; have hby:=(by assumption : Sl ValE 32 G _ v).bytes; simp only [List.length_append,List.length_cons,List.length_nil,List.length_map]; omega) rfl rfl rfl (fun v2 o2 w3 hr4 hS4=>?_)
   have hS5:=hS4.tail
   refine WL.incr k1 (by have hreach : reach = 140737488355328:=rfl; omega) rfl rfl rfl ?_
   exact BK.mk' _ ⟨k1 + 1,v2,o2,G1,rfl,hle1,hS5,(Row.cast hr4 (by (exact (maskR_1 (by omega) (by assumption) (by assumption) (by assumption)).symm))),⟨rfl,rfl,rfl,rfl,rfl,trivial⟩,(by omega)⟩ (show v.length - (k1 + 1) < v.length - k1 by omega)
  refine WL.indexAddr (hvv.mono hle1) k1 (by omega) ul36 ti48 rfl rfl rfl rfl (fun p3 x3 hx3 he3=>?_)
  obtain ⟨cs3,hc3,hr5⟩:=he3
  obtain ⟨rfl,hb4,hb5,hb6⟩:=ValE_open hr5
  refine WL.loadGAt hS1 hc3 [.int .i64 x3.k, .int .i64 x3.n,strV x3.s] ti48 rfl rfl rfl rfl rfl ?_
  refine WL.buildSlice _ [(0,[.int .i64 x3.k, .int .i64 x3.n,strV x3.s])] [.int .i64 x3.k, .int .i64 x3.n,strV x3.s] hS1 sl36 rfl rfl rfl rfl (fun z hz=>by match z,hz with | [z0,z1,z2],_=>rfl) (fun b2 w4 hn2 hS6=>?_)
  refine WL.push (m:=([x3] : List Val)) sl36 rfl rfl rfl hr1 hS6 1 rfl 0 _ _ _ _ _ rfl ⟨[.int .i64 x3.k, .int .i64 x3.n,strV x3.s],_,rfl,(ValE_mk x3 hb4 hb5 hb6),rfl⟩ rfl (by have hreach : reach = 140737488355328:=rfl; have hby:=(by assumption : Sl ValE 32 G _ v).bytes; simp only [List.length_append,List.length_cons,List.length_nil,List.length_map]; omega) (by have hreach : reach = 140737488355328:=rfl; have hby:=(by assumption : Sl ValE 32 G _ v).bytes; simp only [List.length_append,List.length_cons,List.length_nil,List.length_map]; omega) rfl rfl rfl (fun v3 o3 w5 hr6 hS7=>?_)
  have hS8:=hS7.tail
  refine WL.incr k1 (by have hreach : reach = 140737488355328:=rfl; omega) rfl rfl rfl ?_
  exact BK.mk' _ ⟨k1 + 1,v3,o3,G1,rfl,hle1,hS8,(Row.cast hr6 (by (exact (maskR_2 (by omega) (by assumption) (by assumption) (by assumption)).symm))),⟨rfl,rfl,rfl,rfl,rfl,trivial⟩,(by omega)⟩ (show v.length - (k1 + 1) < v.length - k1 by omega)
 obtain ⟨G2,hle2,hs1,hS9⟩:=Row.freeze hr1 hS1 0 rfl
 exact RT hS9 rfl (Sl.cast hs1 (by rw [List.take_of_length_le (by omega)]))
theorem drC {N id : Nat} {Q : Exit → Env → World → Prop} {ρ : Env} {w : World} {ops : List Oper} {C : World → Prop} (hD : ∀ w,C w → C { w with drawn:=w.drawn + 1 }) (T : List (Nat × Bool)) (hv : List (Nat × Value)) (hS : C w) (ho : oblL Tryz.prog ops C (T.map (·.1)) hv (fillV ft ops (T.map (·.1)) hv 0 ops ρ) 0 ops)
  (hT : ∀ w,C w → goT ft ops C Q T (fillV ft ops (T.map (·.1)) hv 0 ops ρ) w) (hN : ops.all (dstB N) = true:=by kernel_rfl) (hp : planB ops (planOf ops (T.map (·.1))) = true:=by kernel_rfl)
  (hn : T.map (fun x=>needC (planOf ops (T.map (·.1))) x.1) = T.map (·.2):=by kernel_rfl) (ha : autoL ft ops (T.map (·.1)) hv (fillV ft ops (T.map (·.1)) hv 0 ops ρ) 0 ops = wantL (T.map (·.1)) hv (fillV ft ops (T.map (·.1)) hv 0 ops ρ) 0 ops:=by exact rfl) : DR Tryz.prog N id ops.toArray Q ρ w:=
 DR.go _ T hv mixed hN hp hn ha (hD _ hS) ho hT
theorem c_rmeet {G : GH} {w : World} (hG : G.In w) (a b : Span) (ca : List Value) (hca : SpanE.rep G a ca) (cb : List Value) (hcb : SpanE.rep G b cb) : CL Tryz.prog (nat_lit 88) #[.agg ca.toArray, .agg cb.toArray] [] w G fun G' _ r=>∃ r0 r1,r = .tuple #[r0,r1] ∧ Is SpanE G' r0 (Span.mk (max a.a b.a) (min a.b b.b)) ∧ r1 = .bool (decide (max a.a b.a < min a.b b.b)):=by
 refine calls_of_goR ft [] Tryz.func88 rfl rfl ?_
 have hS:=St.start (X:=[]) hG
 obtain ⟨rfl,hb1,hb2⟩:=SpanE_open hca
 obtain ⟨rfl,hb3,hb4⟩:=SpanE_open hcb
 refine WL.boxG [.int .i64 a.a, .int .i64 a.b] _ hS rfl rfl rfl (fun p1 w1 G1 hle1 hsp1 hc1 hS1=>?_)
 refine WL.boxG [.int .i64 b.a, .int .i64 b.b] _ hS1 rfl rfl rfl (fun p2 w2 G2 hle2 hsp2 hc2 hS2=>?_)
 refine WL.alloc hS2 ti38 rfl rfl (fun b1 w3 hn1 hS3=>?_)
 refine WL.loadGAt hS3 (hc1.mono hle2) [.int .i64 a.a, .int .i64 a.b] ti38 rfl rfl rfl rfl rfl ?_
 refine WL.alloc hS3 ti38 rfl rfl (fun b2 w4 hn2 hS4=>?_)
 refine WL.store hS4 0 _ _ _ 0 _ [.int .i64 a.a, .int .i64 a.b] [.int .i64 a.a, .int .i64 a.b] _ rfl rfl ti38 rfl (Nat.le_of_ble_eq_true rfl) rfl rfl rfl rfl rfl rfl (fun w5 hS5=>?_)
 refine WL.loadG1 hS5 (Cells.drop 0 hc2) ti3 rfl rfl rfl <| WL.loadO1 hS5 0 _ _ _ 0 _ rfl rfl ti3 rfl rfl rfl ?_
 refine WL.gtrS b.a a.a rfl rfl rfl (fun h1=>?_) (fun h1=>?_)
 ·refine WL.loadG1 hS5 (Cells.drop 0 hc2) ti3 rfl rfl rfl ?_
  refine WL.store hS5 0 _ _ _ 0 _ [.int .i64 b.a] [.int .i64 b.a, .int .i64 a.b] _ rfl rfl ti3 rfl (Nat.le_of_ble_eq_true rfl) rfl rfl rfl rfl rfl rfl (fun w6 hS6=>?_)
  refine WL.loadG1 hS6 (Cells.drop 1 hc2) ti3 rfl rfl rfl <| WL.loadO1 hS6 0 _ _ _ 1 _ rfl rfl ti3 rfl rfl rfl ?_
  refine WL.lssS b.b a.b rfl rfl rfl (fun h2=>?_) (fun h2=>?_)
  ·refine WL.loadG1 hS6 (Cells.drop 1 hc2) ti3 rfl rfl rfl ?_
   refine WL.store hS6 0 _ _ _ 1 _ [.int .i64 b.b] [.int .i64 b.a, .int .i64 b.b] _ rfl rfl ti3 rfl (Nat.le_of_ble_eq_true rfl) rfl rfl rfl rfl rfl rfl (fun w7 hS7=>?_)
   refine drC (C:=fun w9=>∃ c1 c2,St w [] G G2 [some (b2,(nat_lit 38),[.int .i64 b.a, .int .i64 b.b]),some (b1,(nat_lit 38),[c1,c2])] w9) (fun _ h9=>by obtain ⟨c1,c2,h9⟩:=h9; exact ⟨c1,c2,h9.draw⟩) [(6,true),(7,false)] [(24, .agg #[.int .i64 b.a, .int .i64 b.b]),(26, .int .i64 b.a),(28, .int .i64 b.b),(29, .bool (Cmp.b .lss b.a b.b))] ⟨_,_,hS7⟩ ⟨fun _ h9=>by obtain ⟨_,_,hSw⟩:=h9; exact WL.loadOA hSw 0 _ _ _ 0 [.int .i64 b.a, .int .i64 b.b] rfl rfl rfl ti38 rfl rfl rfl <| nu rfl rfl,fun _ h9=>by obtain ⟨_,_,hSw⟩:=h9; exact WL.loadO1 hSw 0 _ _ _ 0 _ rfl rfl ti3 rfl rfl rfl <| nu rfl rfl,fun _ h9=>by obtain ⟨_,_,hSw⟩:=h9; exact WL.loadO1 hSw 0 _ _ _ 1 _ rfl rfl ti3 rfl rfl rfl <| nu rfl rfl,fun _=>WL.cmp .lss rfl .i64 b.a b.b rfl rfl rfl <| nu rfl rfl,trivial⟩ ?_
   rintro w9 ⟨c1,c2,hS8⟩
   refine WL.store hS8 1 _ _ _ 0 _ [.int .i64 b.a, .int .i64 b.b] [.int .i64 b.a, .int .i64 b.b] _ rfl rfl ti38 rfl (Nat.le_of_ble_eq_true rfl) rfl rfl rfl rfl rfl rfl (fun w10 hS9=>?_)
   refine ⟨⟨_,_,hS9⟩,?_⟩
   exact RTR [.agg #[.int .i64 b.a, .int .i64 b.b], .bool (Cmp.b .lss b.a b.b)] hS9 ⟨_,_,_,rfl,rfl,hS9.loadA 1 _ _ _ 0 [.int .i64 b.a, .int .i64 b.b] rfl rfl rfl ti38 rfl,⟨_,rfl,rfl⟩⟩ ⟨_,_,rfl,(Is.cast ⟨_,rfl,(SpanE_mk b hb3 hb4)⟩ (by exact span_ext (by first | omega | (simp only; omega)) (by first | omega | (simp only; omega)))),(congrArg Value.bool (by (rw [Bool.eq_iff_iff]; simp [Cmp.b] <;> omega)))⟩
  refine drC (C:=fun w9=>∃ c1 c2,St w [] G G2 [some (b2,(nat_lit 38),[.int .i64 b.a, .int .i64 a.b]),some (b1,(nat_lit 38),[c1,c2])] w9) (fun _ h9=>by obtain ⟨c1,c2,h9⟩:=h9; exact ⟨c1,c2,h9.draw⟩) [(6,true),(7,false)] [(24, .agg #[.int .i64 b.a, .int .i64 a.b]),(26, .int .i64 b.a),(28, .int .i64 a.b),(29, .bool (Cmp.b .lss b.a a.b))] ⟨_,_,hS6⟩ ⟨fun _ h9=>by obtain ⟨_,_,hSw⟩:=h9; exact WL.loadOA hSw 0 _ _ _ 0 [.int .i64 b.a, .int .i64 a.b] rfl rfl rfl ti38 rfl rfl rfl <| nu rfl rfl,fun _ h9=>by obtain ⟨_,_,hSw⟩:=h9; exact WL.loadO1 hSw 0 _ _ _ 0 _ rfl rfl ti3 rfl rfl rfl <| nu rfl rfl,fun _ h9=>by obtain ⟨_,_,hSw⟩:=h9; exact WL.loadO1 hSw 0 _ _ _ 1 _ rfl rfl ti3 rfl rfl rfl <| nu rfl rfl,fun _=>WL.cmp .lss rfl .i64 b.a a.b rfl rfl rfl <| nu rfl rfl,trivial⟩ ?_
  rintro w11 ⟨c1,c2,hS10⟩
  refine WL.store hS10 1 _ _ _ 0 _ [.int .i64 b.a, .int .i64 a.b] [.int .i64 b.a, .int .i64 a.b] _ rfl rfl ti38 rfl (Nat.le_of_ble_eq_true rfl) rfl rfl rfl rfl rfl rfl (fun w12 hS11=>?_)
  refine ⟨⟨_,_,hS11⟩,?_⟩
  exact RTR [.agg #[.int .i64 b.a, .int .i64 a.b], .bool (Cmp.b .lss b.a a.b)] hS11 ⟨_,_,_,rfl,rfl,hS11.loadA 1 _ _ _ 0 [.int .i64 b.a, .int .i64 a.b] rfl rfl rfl ti38 rfl,⟨_,rfl,rfl⟩⟩ ⟨_,_,rfl,(Is.cast ⟨_,rfl,(SpanE_mk (Span.mk b.a a.b) hb3 hb2)⟩ (by exact span_ext (by first | omega | (simp only; omega)) (by first | omega | (simp only; omega)))),(congrArg Value.bool (by (rw [Bool.eq_iff_iff]; simp [Cmp.b] <;> omega)))⟩
 refine WL.loadG1 hS5 (Cells.drop 1 hc2) ti3 rfl rfl rfl <| WL.loadO1 hS5 0 _ _ _ 1 _ rfl rfl ti3 rfl rfl rfl ?_
 refine WL.lssS b.b a.b rfl rfl rfl (fun h3=>?_) (fun h3=>?_)
 ·refine WL.loadG1 hS5 (Cells.drop 1 hc2) ti3 rfl rfl rfl ?_
  refine WL.store hS5 0 _ _ _ 1 _ [.int .i64 b.b] [.int .i64 a.a, .int .i64 b.b] _ rfl rfl ti3 rfl (Nat.le_of_ble_eq_true rfl) rfl rfl rfl rfl rfl rfl (fun w13 hS12=>?_)
  refine drC (C:=fun w9=>∃ c1 c2,St w [] G G2 [some (b2,(nat_lit 38),[.int .i64 a.a, .int .i64 b.b]),some (b1,(nat_lit 38),[c1,c2])] w9) (fun _ h9=>by obtain ⟨c1,c2,h9⟩:=h9; exact ⟨c1,c2,h9.draw⟩) [(6,true),(7,false)] [(24, .agg #[.int .i64 a.a, .int .i64 b.b]),(26, .int .i64 a.a),(28, .int .i64 b.b),(29, .bool (Cmp.b .lss a.a b.b))] ⟨_,_,hS12⟩ ⟨fun _ h9=>by obtain ⟨_,_,hSw⟩:=h9; exact WL.loadOA hSw 0 _ _ _ 0 [.int .i64 a.a, .int .i64 b.b] rfl rfl rfl ti38 rfl rfl rfl <| nu rfl rfl,fun _ h9=>by obtain ⟨_,_,hSw⟩:=h9; exact WL.loadO1 hSw 0 _ _ _ 0 _ rfl rfl ti3 rfl rfl rfl <| nu rfl rfl,fun _ h9=>by obtain ⟨_,_,hSw⟩:=h9; exact WL.loadO1 hSw 0 _ _ _ 1 _ rfl rfl ti3 rfl rfl rfl <| nu rfl rfl,fun _=>WL.cmp .lss rfl .i64 a.a b.b rfl rfl rfl <| nu rfl rfl,trivial⟩ ?_
  rintro w14 ⟨c1,c2,hS13⟩
  refine WL.store hS13 1 _ _ _ 0 _ [.int .i64 a.a, .int .i64 b.b] [.int .i64 a.a, .int .i64 b.b] _ rfl rfl ti38 rfl (Nat.le_of_ble_eq_true rfl) rfl rfl rfl rfl rfl rfl (fun w15 hS14=>?_)
  refine ⟨⟨_,_,hS14⟩,?_⟩
  exact RTR [.agg #[.int .i64 a.a, .int .i64 b.b], .bool (Cmp.b .lss a.a b.b)] hS14 ⟨_,_,_,rfl,rfl,hS14.loadA 1 _ _ _ 0 [.int .i64 a.a, .int .i64 b.b] rfl rfl rfl ti38 rfl,⟨_,rfl,rfl⟩⟩ ⟨_,_,rfl,(Is.cast ⟨_,rfl,(SpanE_mk (Span.mk a.a b.b) hb1 hb4)⟩ (by exact span_ext (by first | omega | (simp only; omega)) (by first | omega | (simp only; omega)))),(congrArg Value.bool (by (rw [Bool.eq_iff_iff]; simp [Cmp.b] <;> omega)))⟩
 refine drC (C:=fun w9=>∃ c1 c2,St w [] G G2 [some (b2,(nat_lit 38),[.int .i64 a.a, .int .i64 a.b]),some (b1,(nat_lit 38),[c1,c2])] w9) (fun _ h9=>by obtain ⟨c1,c2,h9⟩:=h9; exact ⟨c1,c2,h9.draw⟩) [(6,true),(7,false)] [(24, .agg #[.int .i64 a.a, .int .i64 a.b]),(26, .int .i64 a.a),(28, .int .i64 a.b),(29, .bool (Cmp.b .lss a.a a.b))] ⟨_,_,hS5⟩ ⟨fun _ h9=>by obtain ⟨_,_,hSw⟩:=h9; exact WL.loadOA hSw 0 _ _ _ 0 [.int .i64 a.a, .int .i64 a.b] rfl rfl rfl ti38 rfl rfl rfl <| nu rfl rfl,fun _ h9=>by obtain ⟨_,_,hSw⟩:=h9; exact WL.loadO1 hSw 0 _ _ _ 0 _ rfl rfl ti3 rfl rfl rfl <| nu rfl rfl,fun _ h9=>by obtain ⟨_,_,hSw⟩:=h9; exact WL.loadO1 hSw 0 _ _ _ 1 _ rfl rfl ti3 rfl rfl rfl <| nu rfl rfl,fun _=>WL.cmp .lss rfl .i64 a.a a.b rfl rfl rfl <| nu rfl rfl,trivial⟩ ?_
 rintro w16 ⟨c1,c2,hS15⟩
 refine WL.store hS15 1 _ _ _ 0 _ [.int .i64 a.a, .int .i64 a.b] [.int .i64 a.a, .int .i64 a.b] _ rfl rfl ti38 rfl (Nat.le_of_ble_eq_true rfl) rfl rfl rfl rfl rfl rfl (fun w17 hS16=>?_)
 refine ⟨⟨_,_,hS16⟩,?_⟩
 exact RTR [.agg #[.int .i64 a.a, .int .i64 a.b], .bool (Cmp.b .lss a.a a.b)] hS16 ⟨_,_,_,rfl,rfl,hS16.loadA 1 _ _ _ 0 [.int .i64 a.a, .int .i64 a.b] rfl rfl rfl ti38 rfl,⟨_,rfl,rfl⟩⟩ ⟨_,_,rfl,(Is.cast ⟨_,rfl,(SpanE_mk a hb1 hb2)⟩ (by exact span_ext (by first | omega | (simp only; omega)) (by first | omega | (simp only; omega)))),(congrArg Value.bool (by (rw [Bool.eq_iff_iff]; simp [Cmp.b] <;> omega)))⟩
end Go.Civ
