/- Lemmas. -/
import Derived.Test.YthgeclodflmiaaaGreatK10
import Derived.Test.YthgeclodflmiaaaGreatK11
import Derived.Test.YthgeclodflmiaaaGreatK16
import Derived.Test.YthgeclodflmiaaaGreatK19
import Derived.Test.YthgeclodflmiaaaGreatK20
import Derived.JoinedOf
import Derived.Test.YthgeclodflmiaaaGreatProg
import Derived.KernelRfl
import Derived.WalkKit
namespace Go.Civ
open Go.RowKit Go.ChangeShapes Go.Deep
set_option linter.unusedVariables false
section
variable {H : Type} {enc : TypeId × Value → H} {P : Program} {w : World}
theorem trod_struct4' {base : Nat} {spare : Nat → Bool} {held : Bool} {t : TypeId} {f0 f1 f2 f3 : Field} {fuel : Nat} {cs : List Value} {x : DataW H × List MemPlace} (ht : P.underlying t = some (.struct #[f0,f1,f2,f3])) (h : DataW.trod enc P w base spare held fuel t cs = some x) :
    ∃ y0 y1 y2 y3 n,x = (.agg [y0.1,y1.1,y2.1,y3.1],y0.2 ++ (y1.2 ++ (y2.2 ++ y3.2))) ∧ cs.length = P.cellsOf t ∧ DataW.trod enc P w base spare held n f0.type ((cs.drop f0.offset).take (P.cellsOf f0.type)) = some y0 ∧
      DataW.trod enc P w base spare held n f1.type ((cs.drop f1.offset).take (P.cellsOf f1.type)) = some y1 ∧ DataW.trod enc P w base spare held n f2.type ((cs.drop f2.offset).take (P.cellsOf f2.type)) = some y2 ∧
      DataW.trod enc P w base spare held n f3.type ((cs.drop f3.offset).take (P.cellsOf f3.type)) = some y3:=by
  obtain ⟨xs,n,_,rfl,hl,hlen,hf⟩:=DataW.trod_struct ht h
  match xs,hlen with
  | [y0,y1,y2,y3],_=>exact ⟨y0,y1,y2,y3,n,by simp,hl,by simpa using hf 0 f0 rfl,by simpa using hf 1 f1 rfl,by simpa using hf 2 f2 rfl,by simpa using hf 3 f3 rfl⟩
theorem opens_four {α β γ δ ε : Type} {A : Enc α} {B : Enc β} {C : Enc γ} {D : Enc δ} {f : ε → α × β × γ × δ} {g : α × β × γ × δ → ε} {t : TypeId} {f0 f1 f2 f3 : Field} (surj : ∀ p,f (g p) = p) (hu : P.underlying t = some (.struct #[f0,f1,f2,f3])) (o0 : f0.offset = 0) (c0 : P.cellsOf f0.type = A.n) (o1 : f1.offset = A.n) (c1 : P.cellsOf f1.type = B.n)
    (o2 : f2.offset = A.n + B.n) (c2 : P.cellsOf f2.type = C.n) (o3 : f3.offset = A.n + B.n + C.n) (c3 : P.cellsOf f3.type = D.n) (ct : P.cellsOf t = A.n + (B.n + (C.n + D.n))) (hA : Opens enc P w f0.type A) (hB : Opens enc P w f1.type B) (hC : Opens enc P w f2.type C) (hD : Opens enc P w f3.type D) :
    Opens enc P w t ((Enc.pair A (Enc.pair B (Enc.pair C D))).via f):=fun fuel cs d pl h hl=>by
  obtain ⟨y0,y1,y2,y3,n,hx,hlen,h0,h1,h2,h3⟩:=trod_struct4' hu h
  simp only [Prod.mk.injEq] at hx
  obtain ⟨rfl,_⟩:=hx
  have e : DataW.weights P t (.agg [y0.1,y1.1,y2.1,y3.1]) = y0.1.weights P f0.type ++ (y1.1.weights P f1.type ++ (y2.1.weights P f2.type ++ (y3.1.weights P f3.type ++ []))):=by
    rw [DataW.weights,hu]; simp [DataW.weightsEach]
  rw [o0,c0,List.drop_zero] at h0
  rw [o1,c1] at h1
  rw [o2,c2] at h2
  rw [o3,c3] at h3
  obtain ⟨x0,r0⟩:=hA _ _ _ _ h0 fun x hx=>hl x (by rw [e]; simp [hx])
  obtain ⟨x1,r1⟩:=hB _ _ _ _ h1 fun x hx=>hl x (by rw [e]; simp [hx])
  obtain ⟨x2,r2⟩:=hC _ _ _ _ h2 fun x hx=>hl x (by rw [e]; simp [hx])
  obtain ⟨x3,r3⟩:=hD _ _ _ _ h3 fun x hx=>hl x (by rw [e]; simp [hx])
  rw [List.take_of_length_le (by rw [List.length_drop,hlen,ct]; omega)] at r3
  refine ⟨g (x0,x1,x2,x3),?_⟩
  show (Enc.pair A (Enc.pair B (Enc.pair C D))).rep _ (f (g (x0,x1,x2,x3))) _
  rw [surj]
  refine ⟨_,_,(List.take_append_drop A.n cs).symm,r0,(cs.drop A.n).take B.n,(cs.drop A.n).drop B.n,(List.take_append_drop B.n _).symm,r1,((cs.drop A.n).drop B.n).take C.n,((cs.drop A.n).drop B.n).drop C.n,(List.take_append_drop C.n _).symm,?_,?_⟩
  · rw [List.drop_drop]; exact r2
  · rw [List.drop_drop,List.drop_drop,← Nat.add_assoc]; exact r3
end
end Go.Civ
namespace Go.Civ
section
variable (P : Program) (f : FuncId) (fn : Func) (s : ChangeSpec) (c : OpenClaim)
def joinFA : Bool:=c.inPlace == P.inPlace f
def joinFB : Bool:=c.unfollowed == P.unfollowed f
def joinFC : Bool:=c.recurses == P.recurses f
def joinFD : Bool:=c.named == P.varsNamed f
theorem facts_of {P : Program} {f : FuncId} {fn : Func} {s : ChangeSpec} {c : OpenClaim} (ha : joinFA P f c = true) (hb : joinFB P f c = true) (hc : joinFC P f c = true) (hd : joinFD P f c = true)
    (h1 : (c.wf (OpenSpec.ofChange s) && laidOutB P && mapsRowed P && fn.params.all (P.readableRec ·) && namedTie P c.named s.vars && (c.stops == []) && (P.stops == []) && (c.knobs == []) && (P.stopKnobs == [])) = true)
    (h2 : ((c.maps == (fn.params.toList ++ s.plain.varTypes P).any (P.mapsRec ·)) && (c.ifaces == (fn.params.toList ++ s.plain.varTypes P).any (P.ifacesRec ·)) && (c.mapsOut == P.mapsAmong fn.resultTypes.toList) &&
      (c.loops == (fn.params.toList ++ s.plain.varTypes P).any (P.loopsFrom ·)) && (c.wideKeys == (fn.params.toList ++ s.plain.varTypes P ++ fn.resultTypes.toList).any (P.wideKeysFrom ·))) = true)
    (h3 : (s.vars.all (P.varReadable ·) && fn.resultTypes.all (fun t=>P.readableRec t && decide (t < P.types.size)) && (c.ifacesOut == fn.resultTypes.toList.any (P.ifacesRec ·)) && (c.loopsOut == fn.resultTypes.toList.any (P.loopsFrom ·)) && (c.plainKeys == P.plainKeys) && c.shortTexts.isNone && P.stopsHeard && P.mayEnter && (c.lifted == P.liftsFinal) && (P.make == some c.make)) = true)
    (h4 : ((c.kinds == (if c.domain.isEmpty then [] else fn.params.toList.map fun t=>match P.underlying t with | some (.int k)=>some k | _=>none)) && (c.pinned == c.pinnedBy) &&
      (c.veiled == (fn.params.toList ++ s.plain.varTypes P ++ fn.resultTypes.toList).any (P.veiledRec ·)) && c.veiledFits P fn.params.toList (fn.params.toList ++ s.plain.varTypes P ++ fn.resultTypes.toList)) = true) : joinedFacts P f fn s c = true:=by
  unfold joinFA at ha
  unfold joinFB at hb
  unfold joinFC at hc
  unfold joinFD at hd
  unfold joinedFacts
  simp only [Bool.and_eq_true] at h1 h2 h3 h4 ⊢
  obtain ⟨⟨⟨⟨⟨⟨⟨⟨a1,a2⟩,a3⟩,a4⟩,a5⟩,a6⟩,a7⟩,a8⟩,a9⟩:=h1
  obtain ⟨⟨⟨⟨b1,b2⟩,b3⟩,b4⟩,b5⟩:=h2
  obtain ⟨⟨⟨⟨⟨⟨⟨⟨⟨c1,c2⟩,c3⟩,c4⟩,c5⟩,c6⟩,c7⟩,c8⟩,c9⟩,c10⟩:=h3
  obtain ⟨⟨⟨d1,d2⟩,d3⟩,d4⟩:=h4
  exact ⟨⟨⟨⟨⟨⟨⟨⟨⟨⟨⟨⟨⟨⟨⟨⟨⟨⟨⟨⟨⟨⟨⟨⟨⟨⟨⟨⟨⟨⟨⟨a1,a2⟩,a3⟩,a4⟩,a5⟩,a6⟩,a7⟩,a8⟩,a9⟩,ha⟩,hb⟩,hc⟩,hd⟩,b1⟩,b2⟩,b3⟩,b4⟩,b5⟩,c1⟩,c2⟩,c3⟩,c4⟩,c5⟩,c6⟩,c7⟩,c8⟩,c9⟩,c10⟩,d1⟩,d2⟩,d3⟩,d4⟩
end
end Go.Civ
set_option linter.unusedVariables false
set_option linter.unusedSimpArgs false
set_option maxRecDepth 100000
set_option maxHeartbeats 4000000
namespace Go.Civ
open Go.Proofs
theorem c_isNaN {G : GH} {w : World} (hG : G.In w) (a : Int) : CL Tryz.prog (nat_lit 210) #[.int .i64 a] [] w G fun _ _ r=>r = .bool false:=by
 refine calls_of_go ft [] Tryz.func210 rfl rfl ?_
 have hS:=St.start (X:=[]) hG
 refine WL.cmp .neq rfl .i64 a a rfl rfl rfl ?_
 exact RB hS rfl (by simp [Cmp.b])
theorem c_Compare {G : GH} {w : World} (hG : G.In w) (a b : Int) : CL Tryz.prog (nat_lit 169) #[.int .i64 a, .int .i64 b] [] w G fun _ _ r=>r = .int .i64 (sgn a b):=by
 refine calls_of_go ft [] Tryz.func169 rfl rfl ?_
 have hS:=St.start (X:=[]) hG
 refine WL.cV hS hb210 rfl rfl rfl (c_isNaN hS.imm a) (fun w1 G1 hS1 hle1=>?_)
 refine WL.cV hS1 hb210 rfl rfl rfl (c_isNaN hS1.imm b) (fun w2 G2 hS2 hle2=>?_)
 refine WL.lssS a b rfl rfl rfl (fun h1=>?_) (fun h1=>?_)
 ·exact RI hS2 rfl (by unfold sgn; split <;> (try split) <;> rfl)
 refine WL.gtrS a b rfl rfl rfl (fun h2=>?_) (fun h2=>?_)
 ·exact RI hS2 rfl (by unfold sgn; split <;> (try split) <;> omega)
 exact RI hS2 rfl (by unfold sgn; split <;> (try split) <;> omega)
theorem c_isNaNs {G : GH} {w : World} (hG : G.In w) (a : List UInt8) : CL Tryz.prog (nat_lit 239) #[strV a] [] w G fun _ _ r=>r = .bool false:=by
 refine calls_of_go ft [] Tryz.func239 rfl rfl ?_
 have hS:=St.start (X:=[]) hG
 refine WL.strCmp .neq rfl a a rfl rfl rfl ?_
 exact RB hS rfl (by simp [SCmp.b])
theorem c_CompareS {G : GH} {w : World} (hG : G.In w) (a b : List UInt8) : CL Tryz.prog (nat_lit 199) #[strV a,strV b] [] w G fun _ _ r=>r = .int .i64 (cmpS a b):=by
 refine calls_of_go ft [] Tryz.func199 rfl rfl ?_
 have hS:=St.start (X:=[]) hG
 refine WL.cV hS hb239 rfl rfl rfl (c_isNaNs hS.imm a) (fun w1 G1 hS1 hle1=>?_)
 refine WL.cV hS1 hb239 rfl rfl rfl (c_isNaNs hS1.imm b) (fun w2 G2 hS2 hle2=>?_)
 refine WL.strCmp .lss rfl a b rfl rfl rfl ?_
 refine WL.split (fun (h1 : (SCmp.b .lss a b) = true)=>?_) (fun (h1 : (SCmp.b .lss a b) = false)=>?_)
 ·exact RI hS2 rfl (by unfold cmpS; simp_all [SCmp.b])
 refine WL.strCmp .gtr rfl a b rfl rfl rfl ?_
 refine WL.split (fun (h2 : (SCmp.b .gtr a b) = true)=>?_) (fun (h2 : (SCmp.b .gtr a b) = false)=>?_)
 ·exact RI hS2 rfl (by unfold cmpS; simp_all [SCmp.b])
 exact RI hS2 rfl (by unfold cmpS; simp_all [SCmp.b])
theorem c_Or {G : GH} {w : World} (hG : G.In w) (l : List Int) (vl : Value) (hvl : Sl Enc.int 8 G vl l) : CL Tryz.prog (nat_lit 168) #[vl] [] w G fun _ _ r=>r = .int .i64 (cmpOr l):=by
 refine calls_of_go ft [] Tryz.func168 rfl rfl ?_
 have hS:=St.start (X:=[]) hG
 have bd1:=hvl.bound
 refine WL.lenSl hvl ul113 rfl rfl ?_
 refine LP.go ft [] (fun m ρ1 w1=>∃ (k1 : Nat),∃ (G1 : GH),m = l.length - k1 ∧ G.le G1 ∧ St w [] G G1 [] w1 ∧ FR ρ1 [(3, .int .i64 0),(6,vl),(7, .int .i64 (l.length : Int)),(8, .int .i64 (k1 : Int))] ∧ k1 ≤ l.length ∧ ∀ j,j < k1 → ∀ x,l[j]? = some x → x = 0) _ ⟨0,G,rfl,(G.le_refl),hS,⟨rfl,rfl,rfl,rfl,trivial⟩,(by omega),(by intro j hj; omega)⟩ ?_
 rintro m ρ1 w1 ⟨k1,G1,rfl,hle1,hS1,hF9,f1,f2⟩
 refine hF9.set ?_
 clear hF9
 refine WL.lssS (k1 : Int) (l.length : Int) rfl rfl rfl (fun h1=>?_) (fun h1=>?_)
 ·refine WL.indexAddr (hvl.mono hle1) k1 (by omega) ul113 ti3 rfl rfl rfl rfl (fun p1 x1 hx1 he1=>?_)
  obtain ⟨cs1,hc1,hr1⟩:=he1
  obtain ⟨rfl,hb1⟩:=hr1
  refine WL.loadG1 hS1 hc1 ti3 rfl rfl rfl ?_
  refine WL.neqS x1 0 rfl rfl rfl (fun h2=>?_) (fun h2=>?_)
  ·exact RI hS1 rfl (by exact (cmpOr_at (by assumption) (by assumption) (by assumption)).symm)
  refine WL.incr k1 (by have hreach : reach = 140737488355328:=rfl; omega) rfl rfl rfl ?_
  exact BK.mk' _ ⟨k1 + 1,G1,rfl,hle1,hS1,⟨rfl,rfl,rfl,rfl,trivial⟩,(by omega),(by exact lt_step (by assumption) (by assumption) (by assumption))⟩ (show l.length - (k1 + 1) < l.length - k1 by omega)
 exact RI hS1 rfl (by exact (cmpOr_none (by assumption) (by omega)).symm)
theorem c_order {G : GH} {w : World} (hG : G.In w) (x y : Val) (cx : List Value) (hcx : ValE.rep G x cx) (cy : List Value) (hcy : ValE.rep G y cy) : CL Tryz.prog (nat_lit 165) #[.agg cx.toArray, .agg cy.toArray] [] w G fun _ _ r=>r = .int .i64 (cmpV x y):=by
 refine calls_of_go ft [] Tryz.func165 rfl rfl ?_
 have hS:=St.start (X:=[]) hG
 obtain ⟨rfl,hb1,hb2,hb3⟩:=ValE_open hcx
 obtain ⟨rfl,hb4,hb5,hb6⟩:=ValE_open hcy
 refine WL.boxG [.int .i64 x.k, .int .i64 x.n,strV x.s] _ hS rfl rfl rfl (fun p1 w1 G1 hle1 hsp1 hc1 hS1=>?_)
 refine WL.boxG [.int .i64 y.k, .int .i64 y.n,strV y.s] _ hS1 rfl rfl rfl (fun p2 w2 G2 hle2 hsp2 hc2 hS2=>?_)
 refine dr [(15,false),(16,false),(17,false)] [(6, .int .i64 x.k),(8, .int .i64 y.k),(9, .int .i64 (sgn x.k y.k)),(11, .int .i64 x.n),(13, .int .i64 y.n),(14, .int .i64 (sgn x.n y.n)),(16,strV x.s),(18,strV y.s),(19, .int .i64 (cmpS x.s y.s))] hS2 ⟨fun _ hSw=>WL.loadG1 hSw (Cells.drop 0 (hc1.mono hle2)) ti3 rfl rfl rfl <| nu rfl rfl,fun _ hSw=>WL.loadG1 hSw (Cells.drop 0 hc2) ti3 rfl rfl rfl <| nu rfl rfl,fun _ hSw=>WL.callD hSw hb169 rfl rfl rfl (c_Compare hSw.imm x.k y.k) rfl,fun _ hSw=>WL.loadG1 hSw (Cells.drop 1 (hc1.mono hle2)) ti3 rfl rfl rfl <| nu rfl rfl,fun _ hSw=>WL.loadG1 hSw (Cells.drop 1 hc2) ti3 rfl rfl rfl <| nu rfl rfl,fun _ hSw=>WL.callD hSw hb169 rfl rfl rfl (c_Compare hSw.imm x.n y.n) rfl,fun _ hSw=>WL.loadG1 hSw (Cells.drop 2 (hc1.mono hle2)) ti9 rfl rfl rfl <| nu rfl rfl,fun _ hSw=>WL.loadG1 hSw (Cells.drop 2 hc2) ti9 rfl rfl rfl <| nu rfl rfl,fun _ hSw=>WL.callD hSw hb199 rfl rfl rfl (c_CompareS hSw.imm x.s y.s) rfl,trivial⟩ (fun w3 hS3=>?_)
 refine WL.buildSlice _ [(0,[.int .i64 (sgn x.k y.k)]),(1,[.int .i64 (sgn x.n y.n)]),(2,[.int .i64 (cmpS x.s y.s)])] [.int .i64 (sgn x.k y.k), .int .i64 (sgn x.n y.n), .int .i64 (cmpS x.s y.s)] hS3 sl113 rfl rfl rfl rfl (fun z hz=>by match z,hz with | [z0,z1,z2],_=>rfl) (fun b1 w4 hn1 hS4=>?_)
 obtain ⟨G3,hle3,hs1,hS5⟩:=St.sealSl (E:=Enc.int) (by_:=8) (l:=([(sgn x.k y.k),(sgn x.n y.n),(cmpS x.s y.s)] : List Int)) hS4 hn1 ⟨[.int .i64 (sgn x.k y.k)],_,rfl,⟨rfl,I64_sgn x.k y.k⟩,⟨[.int .i64 (sgn x.n y.n)],_,rfl,⟨rfl,I64_sgn x.n y.n⟩,⟨[.int .i64 (cmpS x.s y.s)],_,rfl,⟨rfl,I64_cmpS x.s y.s⟩,rfl⟩⟩⟩ rfl (by simp [reach]) (by simp [reach])
 refine WL.cV hS5 hb168 rfl rfl rfl (c_Or hS5.imm [(sgn x.k y.k),(sgn x.n y.n),(cmpS x.s y.s)] _ hs1) (fun w5 G4 hS6 hle4=>?_)
 exact RI hS6 rfl (by exact cmpOr3 _ _ _)
theorem c_IndexV {G : GH} {w : World} (hG : G.In w) (l : List Val) (pf : Val → Bool) (vl : Value) (hvl : Sl ValE 32 G vl l) (fid : Nat) (fcap : Array Value) (hf : FnB Tryz.prog (Is ValE) fid fcap G (fun x=>x ∈ l) pf) : CL Tryz.prog (nat_lit 175) #[vl, .func (.func fid) #[] fcap] [] w G fun _ _ r=>r = .int .i64 (idxF pf l):=by
 refine calls_of_go ft [] Tryz.func175 rfl rfl ?_
 have hS:=St.start (X:=[]) hG
 have bd1:=hvl.bound
 refine WL.lenSl hvl ul31 rfl rfl ?_
 refine LP.go ft [] (fun m ρ1 w1=>∃ (k1 : Nat),∃ (G1 : GH),m = l.length - k1 ∧ G.le G1 ∧ St w [] G G1 [] w1 ∧ FR ρ1 [(0,vl),(1, .func (.func fid) #[] fcap),(7, .int .i64 (l.length : Int)),(8, .int .i64 (k1 : Int))] ∧ k1 ≤ l.length ∧ ∀ j,j < k1 → ∀ x,l[j]? = some x → pf x = false) _ ⟨0,G,rfl,(G.le_refl),hS,⟨rfl,rfl,rfl,rfl,trivial⟩,(by omega),(by intro j hj; omega)⟩ ?_
 rintro m ρ1 w1 ⟨k1,G1,rfl,hle1,hS1,hF9,f1,f2⟩
 refine hF9.set ?_
 clear hF9
 refine WL.lssS (k1 : Int) (l.length : Int) rfl rfl rfl (fun h1=>?_) (fun h1=>?_)
 ·refine WL.indexAddr (hvl.mono hle1) k1 (by omega) ul31 ti58 rfl rfl rfl rfl (fun p1 x1 hx1 he1=>?_)
  obtain ⟨cs1,hc1,hr1⟩:=he1
  obtain ⟨rfl,hb1,hb2,hb3⟩:=ValE_open hr1
  refine WL.loadGAt hS1 hc1 [.int .i64 x1.k, .int .i64 x1.n,strV x1.s] ti58 rfl rfl rfl rfl rfl ?_
  refine WL.cV hS1 hf.body rfl rfl rfl (hf.call _ _ (.agg #[.int .i64 x1.k, .int .i64 x1.n,strV x1.s]) x1 hle1 hS1.imm (List.mem_of_getElem? hx1) ⟨_,rfl,(ValE_mk x1 hb1 hb2 hb3)⟩) (fun w2 G2 hS2 hle2=>?_)
  refine WL.split (fun (h2 : (pf x1) = true)=>?_) (fun (h2 : (pf x1) = false)=>?_)
  ·exact RI hS2 rfl (by exact (idxF_some _ (by assumption) (by assumption) (by assumption)).symm)
  refine WL.incr k1 (by have hreach : reach = 140737488355328:=rfl; omega) rfl rfl rfl ?_
  exact BK.mk' _ ⟨k1 + 1,G2,rfl,(hle1.trans hle2),hS2,⟨rfl,rfl,rfl,rfl,trivial⟩,(by omega),(by exact lt_step (by assumption) (by assumption) (by assumption))⟩ (show l.length - (k1 + 1) < l.length - k1 by omega)
 exact RI hS1 rfl (by exact (idxF_none' (by assumption) (by omega)).symm)
theorem c_ContainsV {G : GH} {w : World} (hG : G.In w) (l : List Val) (pf : Val → Bool) (vl : Value) (hvl : Sl ValE 32 G vl l) (fid : Nat) (fcap : Array Value) (hf : FnB Tryz.prog (Is ValE) fid fcap G (fun x=>x ∈ l) pf) : CL Tryz.prog (nat_lit 122) #[vl, .func (.func fid) #[] fcap] [] w G fun _ _ r=>r = .bool (l.any pf):=by
 refine calls_of_go ft [] Tryz.func122 rfl rfl ?_
 have hS:=St.start (X:=[]) hG
 refine WL.cV hS hb175 rfl rfl rfl (c_IndexV hS.imm l pf _ hvl fid fcap (hf.up (G.le_refl))) (fun w1 G1 hS1 hle1=>?_)
 refine WL.cmp .geq rfl .i64 (idxF pf l) 0 rfl rfl rfl ?_
 exact RB hS1 rfl (by exact idxF_any _ _)
end Go.Civ
namespace Go.Civ
open Go.RowKit
set_option linter.unusedVariables false
theorem goodB_1 {x : HRow} (h : (x.v.any fun x=>!valB x) = true) : false = goodB x:=by
  have:=any_all h; unfold goodB; rw [this]; rfl
theorem goodB_2 {x : HRow} (h : (x.v.any fun x=>!valB x) = false) (h2 : spanB x.r.d = false) : false = goodB x:=by
  have:=any_all h; unfold goodB; rw [this,h2]; rfl
theorem goodB_3 {x : HRow} (h : (x.v.any fun x=>!valB x) = false) (h2 : spanB x.r.d = true) : spanB x.r.x = goodB x:=by
  have:=any_all h; unfold goodB; rw [this,h2]; simp
def NormL (l : List HRow) : List HRow:=if 1000 < l.length then [] else if l.all goodB then (if (normH l).length ≤ 500 then normH l else []) else []
def NormE (l : List HRow) : Int:=if 1000 < l.length then 5 else if l.all goodB then (if (normH l).length ≤ 500 then 0 else 5) else 1
theorem good_of_any {l : List HRow} (h : (l.any fun r=>!goodB r) = false) : GoodH l:=fun r hr=>by
  rw [List.any_eq_false] at h; simpa using h r hr
theorem all_of_any {l : List HRow} (h : (l.any fun r=>!goodB r) = false) : l.all goodB = true:=List.all_eq_true.2 (good_of_any h)
theorem all_of_any' {l : List HRow} (h : (l.any fun r=>!goodB r) = true) : l.all goodB = false:=by rw [← Bool.not_eq_true,List.all_eq_true]; rw [List.any_eq_true] at h; obtain ⟨r,hr,h1⟩:=h; intro e; rw [e r hr] at h1; cases h1
theorem normL_big {l : List HRow} (h : 1000 < (l.length : Int)) : NormL l = [] ∧ NormE l = 5:=by
  refine ⟨?_,?_⟩ <;> simp only [NormL,NormE,if_pos (show 1000 < l.length by omega)]
theorem normL_bad {l : List HRow} (h : (l.length : Int) ≤ 1000) (h2 : (l.any fun r=>!goodB r) = true) : NormL l = [] ∧ NormE l = 1:=by
  refine ⟨?_,?_⟩ <;> simp only [NormL,NormE,if_neg (show ¬ 1000 < l.length by omega),all_of_any' h2,Bool.false_eq_true,if_false]
theorem normL_full {l : List HRow} (h : (l.length : Int) ≤ 1000) (h2 : (l.any fun r=>!goodB r) = false) (h3 : 500 < ((normH l).length : Int)) : NormL l = [] ∧ NormE l = 5:=by
  refine ⟨?_,?_⟩ <;> simp only [NormL,NormE,if_neg (show ¬ 1000 < l.length by omega),all_of_any h2,if_neg (show ¬ (normH l).length ≤ 500 by omega),if_true]
theorem normL_ok {l : List HRow} (h : (l.length : Int) ≤ 1000) (h2 : (l.any fun r=>!goodB r) = false) (h3 : ((normH l).length : Int) ≤ 500) : NormL l = normH l ∧ NormE l = 0:=by
  refine ⟨?_,?_⟩ <;> simp only [NormL,NormE,if_neg (show ¬ 1000 < l.length by omega),all_of_any h2,if_pos (show (normH l).length ≤ 500 by omega),if_true]
theorem hrow_eq_v {x y : HRow} (h : decide (x.v = y.v) = false) : false = decide (x = y):=(decide_eq_false fun e=>(of_decide_eq_false h) (by rw [e])).symm
theorem hrow_eq_r {x y : HRow} (h : decide (x.v = y.v) = true) : decide (x.r = y.r) = decide (x = y):=decide_eq_decide.2 ⟨fun e=>by
  have:=of_decide_eq_true h
  cases x; cases y; simp_all,fun e=>by rw [e]⟩
end Go.Civ
