/- Lemmas. -/
import Derived.Test.YthgeclodflmiaaaGreatN07
import Derived.Test.YthgeclodflmiaaaGreatN11
import Derived.Test.YthgeclodflmiaaaGreatN12
import Derived.Test.YthgeclodflmiaaaGreatN17
import Derived.Test.YthgeclodflmiaaaGreatN18
import Derived.JoinedOf
import Derived.Test.YthgeclodflmiaaaGreatRows
import Derived.Test.YthgeclodflmiaaaGreatProg
import Derived.KernelRfl
import Derived.WalkKit
namespace Go.Civ
open Go.RowKit Go.ChangeShapes Go.Deep
set_option linter.unusedVariables false
section
variable {H : Type} {enc : TypeId × Value → H} {P : Program} {w : World}
theorem Zjl {base : Nat} {spare : Nat → Bool} {held : Bool} {t : TypeId} {f0 f1 f2 f3 : Field} {fuel : Nat} {cs : List Value} {x : DataW H × List MemPlace} (ht : P.underlying t = some (.struct #[f0,f1,f2,f3])) (h : DataW.trod enc P w base spare held fuel t cs = some x) :
  ∃ y0 y1 y2 y3 n,x = (.agg [y0.1,y1.1,y2.1,y3.1],y0.2 ++ (y1.2 ++ (y2.2 ++ y3.2))) ∧ cs.length = P.cellsOf t ∧ DataW.trod enc P w base spare held n f0.type ((cs.drop f0.offset).take (P.cellsOf f0.type)) = some y0 ∧
   DataW.trod enc P w base spare held n f1.type ((cs.drop f1.offset).take (P.cellsOf f1.type)) = some y1 ∧ DataW.trod enc P w base spare held n f2.type ((cs.drop f2.offset).take (P.cellsOf f2.type)) = some y2 ∧
   DataW.trod enc P w base spare held n f3.type ((cs.drop f3.offset).take (P.cellsOf f3.type)) = some y3:=by
 obtain ⟨xs,n,_,rfl,hl,hlen,hf⟩:=DataW.trod_struct ht h
 match xs,hlen with
 | [y0,y1,y2,y3],_=>exact ⟨y0,y1,y2,y3,n,by simp,hl,by simpa using hf 0 f0 rfl,by simpa using hf 1 f1 rfl,by simpa using hf 2 f2 rfl,by simpa using hf 3 f3 rfl⟩
theorem ZmB {α β γ δ ε : Type} {A : Enc α} {B : Enc β} {C : Enc γ} {D : Enc δ} {f : ε → α × β × γ × δ} {g : α × β × γ × δ → ε} {t : TypeId} {f0 f1 f2 f3 : Field} (surj : ∀ p,f (g p) = p) (hu : P.underlying t = some (.struct #[f0,f1,f2,f3])) (o0 : f0.offset = 0) (c0 : P.cellsOf f0.type = A.n) (o1 : f1.offset = A.n) (c1 : P.cellsOf f1.type = B.n)
  (o2 : f2.offset = A.n + B.n) (c2 : P.cellsOf f2.type = C.n) (o3 : f3.offset = A.n + B.n + C.n) (c3 : P.cellsOf f3.type = D.n) (ct : P.cellsOf t = A.n + (B.n + (C.n + D.n))) (hA : Xe enc P w f0.type A) (hB : Xe enc P w f1.type B) (hC : Xe enc P w f2.type C) (hD : Xe enc P w f3.type D) :
  Xe enc P w t ((Enc.pair A (Enc.pair B (Enc.pair C D))).via f):=fun fuel cs d pl h hl=>by
 obtain ⟨y0,y1,y2,y3,n,hx,hlen,h0,h1,h2,h3⟩:=Zjl hu h
 simp only [Prod.mk.injEq] at hx
 obtain ⟨rfl,_⟩:=hx
 have e : DataW.weights P t (.agg [y0.1,y1.1,y2.1,y3.1]) = y0.1.weights P f0.type ++ (y1.1.weights P f1.type ++ (y2.1.weights P f2.type ++ (y3.1.weights P f3.type ++ []))):=by
  rw [DataW.weights,hu]; simp [DataW.weightsEach]
 rw [o0,c0,List.drop_zero] at h0
 rw [o1,c1] at h1
 rw [o2,c2] at h2
 rw [o3,c3] at h3
 obtain ⟨x0,r0⟩:=hA _ _ _ _ h0 fun x hx=>hl x (by rw [e]; simp [hx])
 obtain ⟨x1,r1⟩:=hB _ _ _ _ h1 fun x hx=>hl x (by rw [e]; simp [hx])
 obtain ⟨x2,r2⟩:=hC _ _ _ _ h2 fun x hx=>hl x (by rw [e]; simp [hx])
 obtain ⟨x3,r3⟩:=hD _ _ _ _ h3 fun x hx=>hl x (by rw [e]; simp [hx])
 rw [List.take_of_length_le (by rw [List.length_drop,hlen,ct]; omega)] at r3
 refine ⟨g (x0,x1,x2,x3),?_⟩
 show (Enc.pair A (Enc.pair B (Enc.pair C D))).rep _ (f (g (x0,x1,x2,x3))) _
 rw [surj]
 refine ⟨_,_,(List.take_append_drop A.n cs).symm,r0,(cs.drop A.n).take B.n,(cs.drop A.n).drop B.n,(List.take_append_drop B.n _).symm,r1,((cs.drop A.n).drop B.n).take C.n,((cs.drop A.n).drop B.n).drop C.n,(List.take_append_drop C.n _).symm,?_,?_⟩
 ·rw [List.drop_drop]; exact r2
 ·rw [List.drop_drop,List.drop_drop,← Nat.add_assoc]; exact r3
end
end Go.Civ
namespace Go.Civ
section
variable (P : Program) (f : FuncId) (fn : Func) (s : ChangeSpec) (c : OpenClaim)
def Zke : Bool:=c.inPlace == P.inPlace f
def Zkf : Bool:=c.unfollowed == P.unfollowed f
def Zkg : Bool:=c.recurses == P.recurses f
def Zkh : Bool:=c.named == P.varsNamed f
theorem Zqh {P : Program} {f : FuncId} {fn : Func} {s : ChangeSpec} {c : OpenClaim} (ha : Zke P f c = true) (hb : Zkf P f c = true) (hc : Zkg P f c = true) (hd : Zkh P f c = true)
  (h1 : (c.wf (OpenSpec.ofChange s) && laidOutB P && mapsRowed P && fn.params.all (P.readableRec ·) && namedTie P c.named s.vars && (c.stops == []) && (P.stops == []) && (c.knobs == []) && (P.stopKnobs == [])) = true)
  (h2 : ((c.maps == (fn.params.toList ++ s.plain.varTypes P).any (P.mapsRec ·)) && (c.ifaces == (fn.params.toList ++ s.plain.varTypes P).any (P.ifacesRec ·)) && (c.mapsOut == P.mapsAmong fn.resultTypes.toList) &&
   (c.loops == (fn.params.toList ++ s.plain.varTypes P).any (P.loopsFrom ·)) && (c.wideKeys == (fn.params.toList ++ s.plain.varTypes P ++ fn.resultTypes.toList).any (P.wideKeysFrom ·))) = true)
  (h3 : (s.vars.all (P.varReadable ·) && fn.resultTypes.all (fun t=>P.readableRec t && decide (t < P.types.size)) && (c.ifacesOut == fn.resultTypes.toList.any (P.ifacesRec ·)) && (c.loopsOut == fn.resultTypes.toList.any (P.loopsFrom ·)) && (c.plainKeys == P.plainKeys) && c.shortTexts.isNone && P.stopsHeard && P.mayEnter && (c.lifted == P.liftsFinal) && (P.make == some c.make)) = true)
  (h4 : ((c.kinds == (if c.domain.isEmpty then [] else fn.params.toList.map fun t=>match P.underlying t with | some (.int k)=>some k | _=>none)) && (c.pinned == c.pinnedBy) &&
   (c.veiled == (fn.params.toList ++ s.plain.varTypes P ++ fn.resultTypes.toList).any (P.veiledRec ·)) && c.veiledFits P fn.params.toList (fn.params.toList ++ s.plain.varTypes P ++ fn.resultTypes.toList)) = true) : joinedFacts P f fn s c = true:=by
 unfold Zke at ha
 unfold Zkf at hb
 unfold Zkg at hc
 unfold Zkh at hd
 unfold joinedFacts
 simp only [Bool.and_eq_true] at h1 h2 h3 h4 ⊢
 obtain ⟨⟨⟨⟨⟨⟨⟨⟨a1,a2⟩,a3⟩,a4⟩,a5⟩,a6⟩,a7⟩,a8⟩,a9⟩:=h1
 obtain ⟨⟨⟨⟨b1,b2⟩,b3⟩,b4⟩,b5⟩:=h2
 obtain ⟨⟨⟨⟨⟨⟨⟨⟨⟨c1,c2⟩,c3⟩,c4⟩,c5⟩,c6⟩,c7⟩,c8⟩,c9⟩,c10⟩:=h3
 obtain ⟨⟨⟨d1,d2⟩,d3⟩,d4⟩:=h4
 exact ⟨⟨⟨⟨⟨⟨⟨⟨⟨⟨⟨⟨⟨⟨⟨⟨⟨⟨⟨⟨⟨⟨⟨⟨⟨⟨⟨⟨⟨⟨⟨a1,a2⟩,a3⟩,a4⟩,a5⟩,a6⟩,a7⟩,a8⟩,a9⟩,ha⟩,hb⟩,hc⟩,hd⟩,b1⟩,b2⟩,b3⟩,b4⟩,b5⟩,c1⟩,c2⟩,c3⟩,c4⟩,c5⟩,c6⟩,c7⟩,c8⟩,c9⟩,c10⟩,d1⟩,d2⟩,d3⟩,d4⟩
end
end Go.Civ
set_option linter.unusedVariables false
namespace Go.Civ
open Go.Proofs
section
variable {H : Type} {enc : TypeId × Value → H} {w : World}
theorem Zki : Xe enc Tryz.prog w 33 SpanE:=Zb0 (g:=fun p=>⟨p.1,p.2⟩) (fun _=>rfl) Tryz.underlying33 rfl (by kernel_rfl) rfl (by kernel_rfl) (by kernel_rfl) (Zay Tryz.underlying3) (Zay Tryz.underlying3)
theorem ZuX : Xe enc Tryz.prog w 58 ValE:=ZfZ (g:=fun p=>⟨p.1,p.2.1,p.2.2⟩) (fun _=>rfl) Tryz.underlying58 rfl (by kernel_rfl) rfl (by kernel_rfl) rfl (by kernel_rfl) (by kernel_rfl) (Zay Tryz.underlying3) (Zay Tryz.underlying3) (Zcj Tryz.underlying9)
theorem Zoi : Xe enc Tryz.prog w 31 (ValE.slice 32):=ZaU Tryz.underlying31 (by kernel_rfl) (by decide) (by kernel_rfl) (by decide) ZuX
theorem ZtQ : Xe enc Tryz.prog w 35 RectE:=Zb0 (g:=fun p=>⟨p.1,p.2⟩) (fun _=>rfl) Tryz.underlying35 rfl (by kernel_rfl) rfl (by kernel_rfl) (by kernel_rfl) Zki Zki
theorem ZuY : Xe enc Tryz.prog w 37 HRowE:=Zb0 (g:=fun p=>⟨p.1,p.2⟩) (fun _=>rfl) Tryz.underlying37 rfl (by kernel_rfl) rfl (by kernel_rfl) (by kernel_rfl) Zoi ZtQ
theorem ZtR : Xe enc Tryz.prog w 26 (HRowE.slice 56):=ZaU Tryz.underlying26 (by kernel_rfl) (by decide) (by kernel_rfl) (by decide) ZuY
theorem ZuZ : Xe enc Tryz.prog w 130 ColE:=Zb0 (g:=fun p=>⟨p.1,p.2⟩) (fun _=>rfl) Tryz.underlying130 rfl (by kernel_rfl) rfl (by kernel_rfl) (by kernel_rfl) (Zcj Tryz.underlying9) (Zay Tryz.underlying3)
theorem ZtS : Xe enc Tryz.prog w 22 (ColE.slice 24):=ZaU Tryz.underlying22 (by kernel_rfl) (by decide) (by kernel_rfl) (by decide) ZuZ
theorem ZtT : Xe enc Tryz.prog w 48 (Enc.str.slice 16):=ZaU Tryz.underlying48 (by kernel_rfl) (by decide) (by kernel_rfl) (by decide) (Zcj Tryz.underlying9)
theorem Zoj : Xe enc Tryz.prog w 50 ForeignE:=Zb0 (g:=fun p=>⟨p.1,p.2⟩) (fun _=>rfl) Tryz.underlying50 rfl (by kernel_rfl) rfl (by kernel_rfl) (by kernel_rfl) ZtT (Zcj Tryz.underlying9)
theorem ZmC : Xe enc Tryz.prog w 23 (ForeignE.slice 40):=ZaU Tryz.underlying23 (by kernel_rfl) (by decide) (by kernel_rfl) (by decide) Zoj
theorem Zqi : Xe enc Tryz.prog w 25 SchemaE:=ZmB (g:=fun p=>⟨p.1,p.2.1,p.2.2.1,p.2.2.2⟩) (fun _=>rfl) Tryz.underlying25 rfl (by kernel_rfl) rfl (by kernel_rfl) rfl (by kernel_rfl) rfl (by kernel_rfl) (by kernel_rfl) (Zcj Tryz.underlying9) ZtS (Zay Tryz.underlying3) ZmC
theorem Zs9 : Xe enc Tryz.prog w 28 TableE:=ZfZ (g:=fun p=>⟨p.1,p.2.1,p.2.2⟩) (fun _=>rfl) Tryz.underlying28 rfl (by kernel_rfl) rfl (by kernel_rfl) rfl (by kernel_rfl) (by kernel_rfl) Zqi ZtR (Zay Tryz.underlying3)
end
theorem Zwi : ownKnob Tryz.prog.godebug = none:=by kernel_rfl
theorem Zgs : laidOutB Tryz.prog = true:=by kernel_rfl
end Go.Civ
namespace Go.Civ
open Go.RowKit
set_option linter.unusedVariables false
section
variable {d : Nat} {t : Table} {tx : Int} {c : Cond} {p : Span} {set : List Val} {mask : List Bool}
theorem Zl6 (h : Zac t p = true) : Z3 t = true ∧ ZC p = true:=by unfold Zac at h; simpa using h
end
section
variable {cols : List Col} {set : List Val} {mask : List Bool} {j : Nat}
end
section
variable {t : Table} {a b : Int}
end
end Go.Civ
set_option linter.unusedVariables false
set_option linter.unusedSimpArgs false
set_option maxRecDepth 100000
set_option maxHeartbeats 4000000
namespace Go.Civ
open Go.Proofs
theorem ZbH {G : GH} {w : World} (hG : G.In w) (x y : Val) (cx : List Value) (hcx : ValE.rep G x cx) (cy : List Value) (hcy : ValE.rep G y cy) : CL Tryz.prog (nat_lit 213) #[.agg cx.toArray, .agg cy.toArray] [] w G fun _ _ r=>r = .int .i64 (cmpV x y):=by
 refine Zf ft [] Tryz.func213 rfl rfl ?_
 have hS:=St.start (X:=[]) hG
 obtain ⟨rfl,hb1,hb2,hb3⟩:=Ya hcx
 obtain ⟨rfl,hb4,hb5,hb6⟩:=Ya hcy
 refine Z1 [.int .i64 x.k, .int .i64 x.n,Zb x.s] _ hS rfl rfl rfl (fun p1 w1 G1 hle1 hsp1 hc1 hS1=>?_)
 refine Z1 [.int .i64 y.k, .int .i64 y.n,Zb y.s] _ hS1 rfl rfl rfl (fun p2 w2 G2 hle2 hsp2 hc2 hS2=>?_)
 refine Za hS2 (XZ.drop 0 (hc1.mono hle2)) Zl rfl rfl rfl <| Za hS2 (XZ.drop 0 hc2) Zl rfl rfl rfl ?_
 refine Yy x.k y.k rfl rfl rfl (fun h1=>?_) (fun h1=>?_)
 ·refine Za hS2 (XZ.drop 0 (hc1.mono hle2)) Zl rfl rfl rfl <| Za hS2 (XZ.drop 0 hc2) Zl rfl rfl rfl ?_
  refine Zn hS2 Zew rfl rfl rfl (ZcM hS2.imm x.k y.k) (fun w3 G3 hS3 hle3=>?_)
  exact RI hS3 rfl (by exact (Zul ‹_›).symm)
 refine Za hS2 (XZ.drop 1 (hc1.mono hle2)) Zl rfl rfl rfl <| Za hS2 (XZ.drop 1 hc2) Zl rfl rfl rfl ?_
 refine Yy x.n y.n rfl rfl rfl (fun h2=>?_) (fun h2=>?_)
 ·refine Za hS2 (XZ.drop 1 (hc1.mono hle2)) Zl rfl rfl rfl <| Za hS2 (XZ.drop 1 hc2) Zl rfl rfl rfl ?_
  refine Zn hS2 Zew rfl rfl rfl (ZcM hS2.imm x.n y.n) (fun w4 G4 hS4 hle4=>?_)
  exact RI hS4 rfl (by exact (Zum ‹_› ‹_›).symm)
 refine LP.go ft [] (fun m ρ1 w1=>∃ (k1 : Nat),∃ (G5 : GH),m = x.s.length - k1 ∧ G2.le G5 ∧ St w [] G G5 [] w1 ∧ FR ρ1 [(2, .pointer (some p1)),(3, .pointer (some p2)),(5, .int .i64 (k1 : Int))] ∧ k1 ≤ x.s.length ∧ ∀ j,j < k1 → ∀ c d,x.s[j]? = some c → y.s[j]? = some d → c = d) _ ⟨0,G2,rfl,(G2.le_refl),hS2,⟨rfl,rfl,rfl,trivial⟩,(by omega),(by intro j hj; omega)⟩ ?_
 rintro m ρ1 w5 ⟨k1,G5,rfl,hle5,hS5,hF9,f1,f2⟩
 refine hF9.set ?_
 clear hF9
 refine Za hS5 (XZ.drop 2 (hc1.mono (hle2.trans hle5))) Yk rfl rfl rfl <| XN x.s QM rfl rfl ?_
 refine Zo (k1 : Int) (x.s.length : Int) rfl rfl rfl (fun h3=>?_) (fun h3=>?_)
 ·refine Za hS5 (XZ.drop 2 (hc2.mono hle5)) Yk rfl rfl rfl <| XN y.s QM rfl rfl ?_
  refine Zo (k1 : Int) (y.s.length : Int) rfl rfl rfl (fun h4=>?_) (fun h4=>?_)
  ·obtain ⟨c1,hx1⟩ : ∃ c,x.s[k1]? = some c:=⟨_,List.getElem?_eq_getElem (by omega)⟩
   obtain ⟨c2,hx2⟩ : ∃ c,y.s[k1]? = some c:=⟨_,List.getElem?_eq_getElem (by omega)⟩
   rcases Cmp.dec .neq (c1.toNat : Int) (c2.toNat : Int) with ⟨hb7,q1⟩ | ⟨hb7,q1⟩
   ·have h5 : (c1.toNat : Int) ≠ (c2.toNat : Int):=q1
    clear q1
    refine dr [] [(41,Zb x.s),(43, .int .u8 (c1.toNat : Int)),(45,Zb y.s),(47, .int .u8 (c2.toNat : Int)),(48, .bool true)] hS5 ⟨fun _ hSw=>Za hSw (XZ.drop 2 (hc1.mono (hle2.trans hle5))) Yk rfl rfl rfl <| nu rfl rfl,fun _=>QQ x.s k1 c1 hx1 QM rfl rfl rfl <| nu rfl rfl,fun _ hSw=>Za hSw (XZ.drop 2 (hc2.mono hle5)) Yk rfl rfl rfl <| nu rfl rfl,fun _=>QQ y.s k1 c2 hx2 QM rfl rfl rfl <| nu rfl rfl,fun _=>WL.cmpV .neq rfl .u8 (c1.toNat : Int) (c2.toNat : Int) _ hb7 rfl rfl rfl <| nu rfl rfl,trivial⟩ (fun w6 hS6=>?_)
    obtain ⟨c3,hx3⟩ : ∃ c,x.s[k1]? = some c:=⟨_,List.getElem?_eq_getElem (by omega)⟩
    obtain rfl : c1 = c3:=Option.some.inj (hx1.symm.trans hx3)
    obtain ⟨c4,hx4⟩ : ∃ c,y.s[k1]? = some c:=⟨_,List.getElem?_eq_getElem (by omega)⟩
    obtain rfl : c2 = c4:=Option.some.inj (hx2.symm.trans hx4)
    refine dr [(11,false)] [(50,Zb x.s),(52, .int .u8 (c1.toNat : Int)),(53, .int .i64 (c1.toNat : Int)),(55,Zb y.s),(57, .int .u8 (c2.toNat : Int)),(58, .int .i64 (c2.toNat : Int)),(59, .int .i64 (Y1 (c1.toNat : Int) (c2.toNat : Int)))] hS6 ⟨fun _ hSw=>Za hSw (XZ.drop 2 (hc1.mono (hle2.trans hle5))) Yk rfl rfl rfl <| nu rfl rfl,fun _=>QQ x.s k1 c1 hx1 QM rfl rfl rfl <| nu rfl rfl,fun _=>ZjP (c1.toNat : Int) ul5 ul3 (ZtG c1) rfl rfl <| nu rfl rfl,fun _ hSw=>Za hSw (XZ.drop 2 (hc2.mono hle5)) Yk rfl rfl rfl <| nu rfl rfl,fun _=>QQ y.s k1 c2 hx2 QM rfl rfl rfl <| nu rfl rfl,fun _=>ZjP (c2.toNat : Int) ul5 ul3 (ZtG c2) rfl rfl <| nu rfl rfl,fun _ hSw=>ZH hSw Zew rfl rfl rfl (ZcM hSw.imm (c1.toNat : Int) (c2.toNat : Int)) rfl,trivial⟩ (fun w7 hS7=>?_)
    exact RI hS7 rfl (by (rw [Zkx ‹_› ‹_›]; first | exact (ZfJ ‹_› ‹_› ‹_› ‹_›).symm | exact (Zez ‹_› (by omega)).symm))
   have h5 : (c1.toNat : Int) = (c2.toNat : Int):=q1
   clear q1
   refine dr [] [(41,Zb x.s),(43, .int .u8 (c1.toNat : Int)),(45,Zb y.s),(47, .int .u8 (c2.toNat : Int)),(48, .bool false)] hS5 ⟨fun _ hSw=>Za hSw (XZ.drop 2 (hc1.mono (hle2.trans hle5))) Yk rfl rfl rfl <| nu rfl rfl,fun _=>QQ x.s k1 c1 hx1 QM rfl rfl rfl <| nu rfl rfl,fun _ hSw=>Za hSw (XZ.drop 2 (hc2.mono hle5)) Yk rfl rfl rfl <| nu rfl rfl,fun _=>QQ y.s k1 c2 hx2 QM rfl rfl rfl <| nu rfl rfl,fun _=>WL.cmpV .neq rfl .u8 (c1.toNat : Int) (c2.toNat : Int) _ hb7 rfl rfl rfl <| nu rfl rfl,trivial⟩ (fun w9 hS8=>?_)
   refine Zk k1 (by have hreach : reach = 140737488355328:=rfl; omega) rfl rfl rfl ?_
   exact BK.mk' _ ⟨k1 + 1,G5,rfl,hle5,hS8,⟨rfl,rfl,rfl,trivial⟩,(by omega),(by exact QF ‹_› ‹_› ‹_› (ZvL ‹_›))⟩ (show x.s.length - (k1 + 1) < x.s.length - k1 by omega)
  refine Za hS5 (XZ.drop 2 (hc1.mono (hle2.trans hle5))) Yk rfl rfl rfl <| XN x.s QM rfl rfl <| Za hS5 (XZ.drop 2 (hc2.mono hle5)) Yk rfl rfl rfl <| XN y.s QM rfl rfl ?_
  refine Zn hS5 Zew rfl rfl rfl (ZcM hS5.imm (x.s.length : Int) (y.s.length : Int)) (fun w10 G6 hS9 hle6=>?_)
  exact RI hS9 rfl (by (rw [Zkx ‹_› ‹_›]; first | exact (ZfJ ‹_› ‹_› ‹_› ‹_›).symm | exact (Zez ‹_› (by omega)).symm))
 refine Za hS5 (XZ.drop 2 (hc1.mono (hle2.trans hle5))) Yk rfl rfl rfl <| XN x.s QM rfl rfl <| Za hS5 (XZ.drop 2 (hc2.mono hle5)) Yk rfl rfl rfl <| XN y.s QM rfl rfl ?_
 refine Zn hS5 Zew rfl rfl rfl (ZcM hS5.imm (x.s.length : Int) (y.s.length : Int)) (fun w11 G7 hS10 hle7=>?_)
 exact RI hS10 rfl (by (rw [Zkx ‹_› ‹_›]; first | exact (ZfJ ‹_› ‹_› ‹_› ‹_›).symm | exact (Zez ‹_› (by omega)).symm))
theorem Zbp {G : GH} {w : World} (hG : G.In w) (a b : List Val) (va : Value) (hva : Sl ValE 32 G va a) (vb : Value) (hvb : Sl ValE 32 G vb b) : CL Tryz.prog (nat_lit 179) #[va,vb] [] w G fun _ _ r=>r = .int .i64 (ZI cmpV a b):=by
 refine Zf ft [] Tryz.func179 rfl rfl ?_
 have hS:=St.start (X:=[]) hG
 refine LP.go ft [] (fun m ρ1 w1=>∃ (k1 : Nat),∃ (G1 : GH),m = a.length - k1 ∧ G.le G1 ∧ St w [] G G1 [] w1 ∧ FR ρ1 [(0,va),(1,vb),(5, .int .i64 (k1 : Int))] ∧ k1 ≤ a.length ∧ ∀ j,j < k1 → ∀ x y,a[j]? = some x → b[j]? = some y → cmpV x y = 0) _ ⟨0,G,rfl,(G.le_refl),hS,⟨rfl,rfl,rfl,trivial⟩,(by omega),(by intro j hj; omega)⟩ ?_
 rintro m ρ1 w1 ⟨k1,G1,rfl,hle1,hS1,hF9,f1,f2⟩
 refine hF9.set ?_
 clear hF9
 have bd1:=hva.bound
 refine Zj (hva.mono hle1) Yj rfl rfl ?_
 refine Zo (k1 : Int) (a.length : Int) rfl rfl rfl (fun h1=>?_) (fun h1=>?_)
 ·have bd2:=hvb.bound
  refine Zj (hvb.mono hle1) Yj rfl rfl ?_
  refine Zo (k1 : Int) (b.length : Int) rfl rfl rfl (fun h2=>?_) (fun h2=>?_)
  ·obtain ⟨p1,x1,hx1,he1,ep1⟩:=Sl.at (hva.mono hle1) k1 (by omega)
   obtain ⟨cs1,hc1,hr1⟩:=he1
   obtain ⟨rfl,hb1,hb2,hb3⟩:=Ya hr1
   obtain ⟨p2,x2,hx2,he2,ep2⟩:=Sl.at (hvb.mono hle1) k1 (by omega)
   obtain ⟨cs2,hc2,hr2⟩:=he2
   obtain ⟨rfl,hb4,hb5,hb6⟩:=Ya hr2
   refine dr [(9,false)] [(21, .pointer (some p1)),(22, .agg #[.int .i64 x1.k, .int .i64 x1.n,Zb x1.s]),(25, .pointer (some p2)),(26, .agg #[.int .i64 x2.k, .int .i64 x2.n,Zb x2.s]),(27, .int .i64 (cmpV x1 x2))] hS1 ⟨fun _=>Zh k1 ep1 Yj ZG rfl rfl rfl rfl <| nu rfl rfl,fun _ hSw=>Zd hSw hc1 [.int .i64 x1.k, .int .i64 x1.n,Zb x1.s] ZG rfl rfl rfl rfl rfl <| nu rfl rfl,fun _=>Zh k1 ep2 Yj ZG rfl rfl rfl rfl <| nu rfl rfl,fun _ hSw=>Zd hSw hc2 [.int .i64 x2.k, .int .i64 x2.n,Zb x2.s] ZG rfl rfl rfl rfl rfl <| nu rfl rfl,fun _ hSw=>ZH hSw Zhi rfl rfl rfl (ZbH hSw.imm x1 x2 _ (YK x1 hb1 hb2 hb3) _ (YK x2 hb4 hb5 hb6)) rfl,trivial⟩ (fun w2 hS2=>?_)
   refine Yy (cmpV x1 x2) 0 rfl rfl rfl (fun h3=>?_) (fun h3=>?_)
   ·exact RI hS2 rfl (by exact (ZhO ‹_› ‹_› ‹_› ‹_›).symm)
   refine Zk k1 (by have hreach : reach = 140737488355328:=rfl; omega) rfl rfl rfl ?_
   exact BK.mk' _ ⟨k1 + 1,G1,rfl,hle1,hS2,⟨rfl,rfl,rfl,trivial⟩,(by omega),(by exact QF ‹_› ‹_› ‹_› ‹_›)⟩ (show a.length - (k1 + 1) < a.length - k1 by omega)
  have bd3:=hva.bound
  refine Zj (hva.mono hle1) Yj rfl rfl ?_
  have bd4:=hvb.bound
  refine Zj (hvb.mono hle1) Yj rfl rfl ?_
  refine Zn hS1 Zew rfl rfl rfl (ZcM hS1.imm (a.length : Int) (b.length : Int)) (fun w3 G2 hS3 hle2=>?_)
  exact RI hS3 rfl (by exact (Zi8 ‹_› (by omega)).symm)
 have bd5:=hva.bound
 refine Zj (hva.mono hle1) Yj rfl rfl ?_
 have bd6:=hvb.bound
 refine Zj (hvb.mono hle1) Yj rfl rfl ?_
 refine Zn hS1 Zew rfl rfl rfl (ZcM hS1.imm (a.length : Int) (b.length : Int)) (fun w4 G3 hS4 hle3=>?_)
 exact RI hS4 rfl (by exact (Zi8 ‹_› (by omega)).symm)
end Go.Civ
