/- Lemmas. -/
import Derived.Test.YtcopkjhdncdnmaaGreatDoorP10
import Derived.Test.YtcopkjhdncdnmaaGreatDoorP11
import Derived.JoinedOf
import Derived.Lib.SlicesCompact
set_option linter.unusedSimpArgs false
namespace Go.Civ
open Go.RowKit
set_option linter.unusedVariables false
structure Rect where
 d : Span
 x : Span
deriving DecidableEq
structure HRow where
 v : List Val
 r : Rect
deriving DecidableEq
structure Foreign where
 cols : List (List UInt8)
 table : List UInt8
deriving DecidableEq
structure Schema where
 name : List UInt8
 cols : List Col
 key : Int
 fks : List Foreign
deriving DecidableEq
structure Table where
 s : Schema
 rows : List HRow
 last : Int
deriving DecidableEq
def Zsh : Enc Rect:=(Enc.pair SpanE SpanE).via fun x=>(x.d,x.x)
def Zpf : Enc HRow:=(Enc.pair (ValE.slice 32) Zsh).via fun x=>(x.v,x.r)
def ForeignE : Enc Foreign:=(Enc.pair (Enc.str.slice 16) .str).via fun x=>(x.cols,x.table)
def SchemaE : Enc Schema:=(Enc.pair .str (Enc.pair (ColE.slice 24) (Enc.pair .int (ForeignE.slice 40)))).via fun x=>(x.name,x.cols,x.key,x.fks)
section
variable {G : GH} {cs : List Value}
theorem ZiJ {x : Foreign} (h : ForeignE.rep G x cs) : ∃ v,cs = [v,Zb x.table] ∧ Sl Enc.str 16 G v x.cols ∧ x.table.length ≤ reach:=by
 obtain ⟨c1,c2,rfl,⟨v,rfl,h1⟩,rfl,h2⟩:=h
 exact ⟨v,rfl,h1,h2⟩
theorem Xb {x : Schema} (h : SchemaE.rep G x cs) : ∃ v u,cs = [Zb x.name,v, .int .i64 x.key,u] ∧ x.name.length ≤ reach ∧ Sl ColE 24 G v x.cols ∧ ZM x.key ∧ Sl ForeignE 40 G u x.fks:=by
 obtain ⟨c1,c2,rfl,⟨rfl,h1⟩,c3,c4,rfl,⟨v,rfl,h2⟩,c5,c6,rfl,⟨rfl,h3⟩,u,rfl,h4⟩:=h
 exact ⟨v,u,rfl,h1,h2,h3,h4⟩
theorem Qu (x : Schema) {v u : Value} (h1 : x.name.length ≤ reach) (h2 : Sl ColE 24 G v x.cols) (h3 : ZM x.key) (h4 : Sl ForeignE 40 G u x.fks) : SchemaE.rep G x [Zb x.name,v, .int .i64 x.key,u]:=
 ⟨_,_,rfl,⟨rfl,h1⟩,_,_,rfl,⟨v,rfl,h2⟩,_,_,rfl,⟨rfl,h3⟩,u,rfl,h4⟩
end
end Go.Civ
namespace Go.Civ
open Go.RowKit Go.ChangeShapes Go.Deep
set_option linter.unusedVariables false
section
variable {H : Type} {enc : TypeId × Value → H} {P : Program} {w : World}
theorem ZiK {base : Nat} {spare : Nat → Bool} {held : Bool} {t : TypeId} {f0 f1 f2 f3 : Field} {fuel : Nat} {cs : List Value} {x : DataW H × List MemPlace} (ht : P.underlying t = some (.struct #[f0,f1,f2,f3])) (h : DataW.trod enc P w base spare held fuel t cs = some x) :
  ∃ y0 y1 y2 y3 n,x = (.agg [y0.1,y1.1,y2.1,y3.1],y0.2 ++ (y1.2 ++ (y2.2 ++ y3.2))) ∧ cs.length = P.cellsOf t ∧ DataW.trod enc P w base spare held n f0.type ((cs.drop f0.offset).take (P.cellsOf f0.type)) = some y0 ∧
   DataW.trod enc P w base spare held n f1.type ((cs.drop f1.offset).take (P.cellsOf f1.type)) = some y1 ∧ DataW.trod enc P w base spare held n f2.type ((cs.drop f2.offset).take (P.cellsOf f2.type)) = some y2 ∧
   DataW.trod enc P w base spare held n f3.type ((cs.drop f3.offset).take (P.cellsOf f3.type)) = some y3:=by
 obtain ⟨xs,n,_,rfl,hl,hlen,hf⟩:=DataW.trod_struct ht h
 match xs,hlen with
 | [y0,y1,y2,y3],_=>exact ⟨y0,y1,y2,y3,n,by simp,hl,by simpa using hf 0 f0 rfl,by simpa using hf 1 f1 rfl,by simpa using hf 2 f2 rfl,by simpa using hf 3 f3 rfl⟩
theorem ZlJ {α β γ δ ε : Type} {A : Enc α} {B : Enc β} {C : Enc γ} {D : Enc δ} {f : ε → α × β × γ × δ} {g : α × β × γ × δ → ε} {t : TypeId} {f0 f1 f2 f3 : Field} (surj : ∀ p,f (g p) = p) (hu : P.underlying t = some (.struct #[f0,f1,f2,f3])) (o0 : f0.offset = 0) (c0 : P.cellsOf f0.type = A.n) (o1 : f1.offset = A.n) (c1 : P.cellsOf f1.type = B.n)
  (o2 : f2.offset = A.n + B.n) (c2 : P.cellsOf f2.type = C.n) (o3 : f3.offset = A.n + B.n + C.n) (c3 : P.cellsOf f3.type = D.n) (ct : P.cellsOf t = A.n + (B.n + (C.n + D.n))) (hA : Xs enc P w f0.type A) (hB : Xs enc P w f1.type B) (hC : Xs enc P w f2.type C) (hD : Xs enc P w f3.type D) :
  Xs enc P w t ((Enc.pair A (Enc.pair B (Enc.pair C D))).via f):=fun fuel cs d pl h hl=>by
 obtain ⟨y0,y1,y2,y3,n,hx,hlen,h0,h1,h2,h3⟩:=ZiK hu h
 simp only [Prod.mk.injEq] at hx
 obtain ⟨rfl,_⟩:=hx
 have e : DataW.weights P t (.agg [y0.1,y1.1,y2.1,y3.1]) = y0.1.weights P f0.type ++ (y1.1.weights P f1.type ++ (y2.1.weights P f2.type ++ (y3.1.weights P f3.type ++ []))):=by
  rw [DataW.weights,hu]; simp [DataW.weightsEach]
 rw [o0,c0,List.drop_zero] at h0
 rw [o1,c1] at h1
 rw [o2,c2] at h2
 rw [o3,c3] at h3
 obtain ⟨x0,r0⟩:=hA _ _ _ _ h0 fun x hx=>hl x (by rw [e]; simp [hx])
 obtain ⟨x1,r1⟩:=hB _ _ _ _ h1 fun x hx=>hl x (by rw [e]; simp [hx])
 obtain ⟨x2,r2⟩:=hC _ _ _ _ h2 fun x hx=>hl x (by rw [e]; simp [hx])
 obtain ⟨x3,r3⟩:=hD _ _ _ _ h3 fun x hx=>hl x (by rw [e]; simp [hx])
 rw [List.take_of_length_le (by rw [List.length_drop,hlen,ct]; omega)] at r3
 refine ⟨g (x0,x1,x2,x3),?_⟩
 show (Enc.pair A (Enc.pair B (Enc.pair C D))).rep _ (f (g (x0,x1,x2,x3))) _
 rw [surj]
 refine ⟨_,_,(List.take_append_drop A.n cs).symm,r0,(cs.drop A.n).take B.n,(cs.drop A.n).drop B.n,(List.take_append_drop B.n _).symm,r1,((cs.drop A.n).drop B.n).take C.n,((cs.drop A.n).drop B.n).drop C.n,(List.take_append_drop C.n _).symm,?_,?_⟩
 ·rw [List.drop_drop]; exact r2
 ·rw [List.drop_drop,List.drop_drop,← Nat.add_assoc]; exact r3
end
end Go.Civ
namespace Go.Civ
section
variable (P : Program) (f : FuncId) (fn : Func) (s : ChangeSpec) (c : OpenClaim)
def Zhp : Bool:=c.inPlace == P.inPlace f
def Zhq : Bool:=c.unfollowed == P.unfollowed f
def Zhr : Bool:=c.recurses == P.recurses f
def Zhs : Bool:=c.named == P.varsNamed f
theorem Zoq {P : Program} {f : FuncId} {fn : Func} {s : ChangeSpec} {c : OpenClaim} (ha : Zhp P f c = true) (hb : Zhq P f c = true) (hc : Zhr P f c = true) (hd : Zhs P f c = true)
  (h1 : (c.wf (OpenSpec.ofChange s) && laidOutB P && mapsRowed P && fn.params.all (P.readableRec ·) && namedTie P c.named s.vars && (c.stops == []) && (P.stops == []) && (c.knobs == []) && (P.stopKnobs == [])) = true)
  (h2 : ((c.maps == (fn.params.toList ++ s.plain.varTypes P).any (P.mapsRec ·)) && (c.ifaces == (fn.params.toList ++ s.plain.varTypes P).any (P.ifacesRec ·)) && (c.mapsOut == P.mapsAmong fn.resultTypes.toList) &&
   (c.loops == (fn.params.toList ++ s.plain.varTypes P).any (P.loopsFrom ·)) && (c.wideKeys == (fn.params.toList ++ s.plain.varTypes P ++ fn.resultTypes.toList).any (P.wideKeysFrom ·))) = true)
  (h3 : (s.vars.all (P.varReadable ·) && fn.resultTypes.all (fun t=>P.readableRec t && decide (t < P.types.size)) && (c.ifacesOut == fn.resultTypes.toList.any (P.ifacesRec ·)) && (c.loopsOut == fn.resultTypes.toList.any (P.loopsFrom ·)) && (c.plainKeys == P.plainKeys) && c.shortTexts.isNone && P.stopsHeard && P.mayEnter && (c.lifted == P.liftsFinal) && (P.make == some c.make)) = true)
  (h4 : ((c.kinds == (if c.domain.isEmpty then [] else fn.params.toList.map fun t=>match P.underlying t with | some (.int k)=>some k | _=>none)) && (c.pinned == c.pinnedBy) &&
   (c.veiled == (fn.params.toList ++ s.plain.varTypes P ++ fn.resultTypes.toList).any (P.veiledRec ·)) && c.veiledFits P fn.params.toList (fn.params.toList ++ s.plain.varTypes P ++ fn.resultTypes.toList)) = true) : joinedFacts P f fn s c = true:=by
 unfold Zhp at ha
 unfold Zhq at hb
 unfold Zhr at hc
 unfold Zhs at hd
 unfold joinedFacts
 simp only [Bool.and_eq_true] at h1 h2 h3 h4 ⊢
 obtain ⟨⟨⟨⟨⟨⟨⟨⟨a1,a2⟩,a3⟩,a4⟩,a5⟩,a6⟩,a7⟩,a8⟩,a9⟩:=h1
 obtain ⟨⟨⟨⟨b1,b2⟩,b3⟩,b4⟩,b5⟩:=h2
 obtain ⟨⟨⟨⟨⟨⟨⟨⟨⟨c1,c2⟩,c3⟩,c4⟩,c5⟩,c6⟩,c7⟩,c8⟩,c9⟩,c10⟩:=h3
 obtain ⟨⟨⟨d1,d2⟩,d3⟩,d4⟩:=h4
 exact ⟨⟨⟨⟨⟨⟨⟨⟨⟨⟨⟨⟨⟨⟨⟨⟨⟨⟨⟨⟨⟨⟨⟨⟨⟨⟨⟨⟨⟨⟨⟨a1,a2⟩,a3⟩,a4⟩,a5⟩,a6⟩,a7⟩,a8⟩,a9⟩,ha⟩,hb⟩,hc⟩,hd⟩,b1⟩,b2⟩,b3⟩,b4⟩,b5⟩,c1⟩,c2⟩,c3⟩,c4⟩,c5⟩,c6⟩,c7⟩,c8⟩,c9⟩,c10⟩,d1⟩,d2⟩,d3⟩,d4⟩
end
end Go.Civ
namespace Go.Civ
set_option linter.unusedVariables false
open Go.Lib (compact compactUpTo keeps)
def ZfZ : List Int → Bool
 | x :: y :: r=>decide (x ≤ y) && ZfZ (y :: r)
 | _=>true
theorem Zg1 : ∀ {l : List Int},(∀ (k : Nat) x y,l[k]? = some y → l[k + 1]? = some x → y ≤ x) → ZfZ l = true
 | a :: b :: r,h=>by
  simp only [ZfZ,Bool.and_eq_true,decide_eq_true_eq]
  exact ⟨h 0 b a rfl rfl,Zg1 fun k x y h1 h2=>h (k + 1) x y (by simpa using h1) (by simpa using h2)⟩
 | [],_=>rfl
 | [_],_=>rfl
def Zfe (l : List Int) (j : Int) : Prop:=∀ (q : Nat) (x y : Int),j ≤ q → l[q]? = some y → l[q + 1]? = some x → y ≤ x
theorem Zfe.start {l : List Int} {j : Int} (h : (l.length : Int) - 1 ≤ j) : Zfe l j:=fun q x y hq h1 h2=>by
 have:=(List.getElem?_eq_some_iff.1 h2).1; omega
theorem Zfe.step {l : List Int} {j x y : Int} (h : Zfe l j) (hj : 0 < j) (h1 : l[j.toNat]? = some x) (h2 : l[(j - 1).toNat]? = some y) (hxy : decide (x < y) = false) : Zfe l (j - 1):=fun q u v hq k1 k2=>by
 by_cases e : (q : Int) = j - 1
 ·have e1 : q = (j - 1).toNat:=by omega
  have e2 : q + 1 = j.toNat:=by omega
  rw [e2,h1] at k2
  rw [e1,h2] at k1
  obtain rfl:=Option.some.inj k1
  obtain rfl:=Option.some.inj k2
  have:=of_decide_eq_false hxy; omega
 ·exact h q u v (by omega) k1 k2
theorem Zfe.yes {l : List Int} {j : Int} (h : Zfe l j) (hj : j ≤ 0) : ZfZ l = true:=Zg1 fun k x y h1 h2=>h k x y (by omega) h1 h2
end Go.Civ
