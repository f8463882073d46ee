/- Lemmas. -/
import Derived.Test.YthgeclodflmiaaaGreatP09
import Derived.Test.YthgeclodflmiaaaGreatP16
import Derived.Test.YthgeclodflmiaaaGreatP19
import Derived.JoinedOf
import Derived.Test.YthgeclodflmiaaaGreatRows
namespace Go.Civ
open Go.RowKit Go.ChangeShapes Go.Deep
set_option linter.unusedVariables false
section
variable {H : Type} {enc : TypeId × Value → H} {P : Program} {w : World}
theorem Zig {base : Nat} {spare : Nat → Bool} {held : Bool} {t : TypeId} {f0 f1 f2 f3 : Field} {fuel : Nat} {cs : List Value} {x : DataW H × List MemPlace} (ht : P.underlying t = some (.struct #[f0,f1,f2,f3])) (h : DataW.trod enc P w base spare held fuel t cs = some x) :
  ∃ y0 y1 y2 y3 n,x = (.agg [y0.1,y1.1,y2.1,y3.1],y0.2 ++ (y1.2 ++ (y2.2 ++ y3.2))) ∧ cs.length = P.cellsOf t ∧ DataW.trod enc P w base spare held n f0.type ((cs.drop f0.offset).take (P.cellsOf f0.type)) = some y0 ∧
   DataW.trod enc P w base spare held n f1.type ((cs.drop f1.offset).take (P.cellsOf f1.type)) = some y1 ∧ DataW.trod enc P w base spare held n f2.type ((cs.drop f2.offset).take (P.cellsOf f2.type)) = some y2 ∧
   DataW.trod enc P w base spare held n f3.type ((cs.drop f3.offset).take (P.cellsOf f3.type)) = some y3:=by
 obtain ⟨xs,n,_,rfl,hl,hlen,hf⟩:=DataW.trod_struct ht h
 match xs,hlen with
 | [y0,y1,y2,y3],_=>exact ⟨y0,y1,y2,y3,n,by simp,hl,by simpa using hf 0 f0 rfl,by simpa using hf 1 f1 rfl,by simpa using hf 2 f2 rfl,by simpa using hf 3 f3 rfl⟩
theorem Zla {α β γ δ ε : Type} {A : Enc α} {B : Enc β} {C : Enc γ} {D : Enc δ} {f : ε → α × β × γ × δ} {g : α × β × γ × δ → ε} {t : TypeId} {f0 f1 f2 f3 : Field} (surj : ∀ p,f (g p) = p) (hu : P.underlying t = some (.struct #[f0,f1,f2,f3])) (o0 : f0.offset = 0) (c0 : P.cellsOf f0.type = A.n) (o1 : f1.offset = A.n) (c1 : P.cellsOf f1.type = B.n)
  (o2 : f2.offset = A.n + B.n) (c2 : P.cellsOf f2.type = C.n) (o3 : f3.offset = A.n + B.n + C.n) (c3 : P.cellsOf f3.type = D.n) (ct : P.cellsOf t = A.n + (B.n + (C.n + D.n))) (hA : YL enc P w f0.type A) (hB : YL enc P w f1.type B) (hC : YL enc P w f2.type C) (hD : YL enc P w f3.type D) :
  YL enc P w t ((Enc.pair A (Enc.pair B (Enc.pair C D))).via f):=fun fuel cs d pl h hl=>by
 obtain ⟨y0,y1,y2,y3,n,hx,hlen,h0,h1,h2,h3⟩:=Zig hu h
 simp only [Prod.mk.injEq] at hx
 obtain ⟨rfl,_⟩:=hx
 have e : DataW.weights P t (.agg [y0.1,y1.1,y2.1,y3.1]) = y0.1.weights P f0.type ++ (y1.1.weights P f1.type ++ (y2.1.weights P f2.type ++ (y3.1.weights P f3.type ++ []))):=by
  rw [DataW.weights,hu]; simp [DataW.weightsEach]
 rw [o0,c0,List.drop_zero] at h0
 rw [o1,c1] at h1
 rw [o2,c2] at h2
 rw [o3,c3] at h3
 obtain ⟨x0,r0⟩:=hA _ _ _ _ h0 fun x hx=>hl x (by rw [e]; simp [hx])
 obtain ⟨x1,r1⟩:=hB _ _ _ _ h1 fun x hx=>hl x (by rw [e]; simp [hx])
 obtain ⟨x2,r2⟩:=hC _ _ _ _ h2 fun x hx=>hl x (by rw [e]; simp [hx])
 obtain ⟨x3,r3⟩:=hD _ _ _ _ h3 fun x hx=>hl x (by rw [e]; simp [hx])
 rw [List.take_of_length_le (by rw [List.length_drop,hlen,ct]; omega)] at r3
 refine ⟨g (x0,x1,x2,x3),?_⟩
 show (Enc.pair A (Enc.pair B (Enc.pair C D))).rep _ (f (g (x0,x1,x2,x3))) _
 rw [surj]
 refine ⟨_,_,(List.take_append_drop A.n cs).symm,r0,(cs.drop A.n).take B.n,(cs.drop A.n).drop B.n,(List.take_append_drop B.n _).symm,r1,((cs.drop A.n).drop B.n).take C.n,((cs.drop A.n).drop B.n).drop C.n,(List.take_append_drop C.n _).symm,?_,?_⟩
 ·rw [List.drop_drop]; exact r2
 ·rw [List.drop_drop,List.drop_drop,← Nat.add_assoc]; exact r3
end
end Go.Civ
namespace Go.Civ
section
variable (P : Program) (f : FuncId) (fn : Func) (s : ChangeSpec) (c : OpenClaim)
def Zgd : Bool:=c.inPlace == P.inPlace f
def Zge : Bool:=c.unfollowed == P.unfollowed f
def Zgf : Bool:=c.recurses == P.recurses f
def Zgg : Bool:=c.named == P.varsNamed f
theorem ZiM {P : Program} {f : FuncId} {fn : Func} {s : ChangeSpec} {c : OpenClaim} (ha : Zgd P f c = true) (hb : Zge P f c = true) (hc : Zgf P f c = true) (hd : Zgg P f c = true)
  (h1 : (c.wf (OpenSpec.ofChange s) && laidOutB P && mapsRowed P && fn.params.all (P.readableRec ·) && namedTie P c.named s.vars && (c.stops == []) && (P.stops == []) && (c.knobs == []) && (P.stopKnobs == [])) = true)
  (h2 : ((c.maps == (fn.params.toList ++ s.plain.varTypes P).any (P.mapsRec ·)) && (c.ifaces == (fn.params.toList ++ s.plain.varTypes P).any (P.ifacesRec ·)) && (c.mapsOut == P.mapsAmong fn.resultTypes.toList) &&
   (c.loops == (fn.params.toList ++ s.plain.varTypes P).any (P.loopsFrom ·)) && (c.wideKeys == (fn.params.toList ++ s.plain.varTypes P ++ fn.resultTypes.toList).any (P.wideKeysFrom ·))) = true)
  (h3 : (s.vars.all (P.varReadable ·) && fn.resultTypes.all (fun t=>P.readableRec t && decide (t < P.types.size)) && (c.ifacesOut == fn.resultTypes.toList.any (P.ifacesRec ·)) && (c.loopsOut == fn.resultTypes.toList.any (P.loopsFrom ·)) && (c.plainKeys == P.plainKeys) && c.shortTexts.isNone && P.stopsHeard && P.mayEnter && (c.lifted == P.liftsFinal) && (P.make == some c.make)) = true)
  (h4 : ((c.kinds == (if c.domain.isEmpty then [] else fn.params.toList.map fun t=>match P.underlying t with | some (.int k)=>some k | _=>none)) && (c.pinned == c.pinnedBy) &&
   (c.veiled == (fn.params.toList ++ s.plain.varTypes P ++ fn.resultTypes.toList).any (P.veiledRec ·)) && c.veiledFits P fn.params.toList (fn.params.toList ++ s.plain.varTypes P ++ fn.resultTypes.toList)) = true) : joinedFacts P f fn s c = true:=by
 unfold Zgd at ha
 unfold Zge at hb
 unfold Zgf at hc
 unfold Zgg at hd
 unfold joinedFacts
 simp only [Bool.and_eq_true] at h1 h2 h3 h4 ⊢
 obtain ⟨⟨⟨⟨⟨⟨⟨⟨a1,a2⟩,a3⟩,a4⟩,a5⟩,a6⟩,a7⟩,a8⟩,a9⟩:=h1
 obtain ⟨⟨⟨⟨b1,b2⟩,b3⟩,b4⟩,b5⟩:=h2
 obtain ⟨⟨⟨⟨⟨⟨⟨⟨⟨c1,c2⟩,c3⟩,c4⟩,c5⟩,c6⟩,c7⟩,c8⟩,c9⟩,c10⟩:=h3
 obtain ⟨⟨⟨d1,d2⟩,d3⟩,d4⟩:=h4
 exact ⟨⟨⟨⟨⟨⟨⟨⟨⟨⟨⟨⟨⟨⟨⟨⟨⟨⟨⟨⟨⟨⟨⟨⟨⟨⟨⟨⟨⟨⟨⟨a1,a2⟩,a3⟩,a4⟩,a5⟩,a6⟩,a7⟩,a8⟩,a9⟩,ha⟩,hb⟩,hc⟩,hd⟩,b1⟩,b2⟩,b3⟩,b4⟩,b5⟩,c1⟩,c2⟩,c3⟩,c4⟩,c5⟩,c6⟩,c7⟩,c8⟩,c9⟩,c10⟩,d1⟩,d2⟩,d3⟩,d4⟩
end
end Go.Civ
set_option linter.unusedVariables false
namespace Go.Civ
open Go.Proofs
section
variable {H : Type} {enc : TypeId × Value → H} {w : World}
theorem Zmo : YL enc Tryz.prog w 33 SpanE:=ZaF (g:=fun p=>⟨p.1,p.2⟩) (fun _=>rfl) Tryz.underlying33 rfl (by kernel_rfl) rfl (by kernel_rfl) (by kernel_rfl) (QV Tryz.underlying3) (QV Tryz.underlying3)
theorem ZsE : YL enc Tryz.prog w 58 ValE:=Zfh (g:=fun p=>⟨p.1,p.2.1,p.2.2⟩) (fun _=>rfl) Tryz.underlying58 rfl (by kernel_rfl) rfl (by kernel_rfl) rfl (by kernel_rfl) (by kernel_rfl) (QV Tryz.underlying3) (QV Tryz.underlying3) (Zb8 Tryz.underlying9)
theorem Zrq : YL enc Tryz.prog w 31 (ValE.slice 32):=Zat Tryz.underlying31 (by kernel_rfl) (by decide) (by kernel_rfl) (by decide) ZsE
theorem Zrr : YL enc Tryz.prog w 35 RectE:=ZaF (g:=fun p=>⟨p.1,p.2⟩) (fun _=>rfl) Tryz.underlying35 rfl (by kernel_rfl) rfl (by kernel_rfl) (by kernel_rfl) Zmo Zmo
theorem ZsF : YL enc Tryz.prog w 37 HRowE:=ZaF (g:=fun p=>⟨p.1,p.2⟩) (fun _=>rfl) Tryz.underlying37 rfl (by kernel_rfl) rfl (by kernel_rfl) (by kernel_rfl) Zrq Zrr
theorem Zrs : YL enc Tryz.prog w 26 (HRowE.slice 56):=Zat Tryz.underlying26 (by kernel_rfl) (by decide) (by kernel_rfl) (by decide) ZsF
theorem ZsG : YL enc Tryz.prog w 130 ColE:=ZaF (g:=fun p=>⟨p.1,p.2⟩) (fun _=>rfl) Tryz.underlying130 rfl (by kernel_rfl) rfl (by kernel_rfl) (by kernel_rfl) (Zb8 Tryz.underlying9) (QV Tryz.underlying3)
theorem Zrt : YL enc Tryz.prog w 22 (ColE.slice 24):=Zat Tryz.underlying22 (by kernel_rfl) (by decide) (by kernel_rfl) (by decide) ZsG
theorem Zru : YL enc Tryz.prog w 48 (Enc.str.slice 16):=Zat Tryz.underlying48 (by kernel_rfl) (by decide) (by kernel_rfl) (by decide) (Zb8 Tryz.underlying9)
theorem Zef : YL enc Tryz.prog w 50 ForeignE:=ZaF (g:=fun p=>⟨p.1,p.2⟩) (fun _=>rfl) Tryz.underlying50 rfl (by kernel_rfl) rfl (by kernel_rfl) (by kernel_rfl) Zru (Zb8 Tryz.underlying9)
theorem Zlb : YL enc Tryz.prog w 23 (ForeignE.slice 40):=Zat Tryz.underlying23 (by kernel_rfl) (by decide) (by kernel_rfl) (by decide) Zef
theorem Zoc : YL enc Tryz.prog w 25 SchemaE:=Zla (g:=fun p=>⟨p.1,p.2.1,p.2.2.1,p.2.2.2⟩) (fun _=>rfl) Tryz.underlying25 rfl (by kernel_rfl) rfl (by kernel_rfl) rfl (by kernel_rfl) rfl (by kernel_rfl) (by kernel_rfl) (Zb8 Tryz.underlying9) Zrt (QV Tryz.underlying3) Zlb
theorem ZeR : YL enc Tryz.prog w 28 TableE:=Zfh (g:=fun p=>⟨p.1,p.2.1,p.2.2⟩) (fun _=>rfl) Tryz.underlying28 rfl (by kernel_rfl) rfl (by kernel_rfl) rfl (by kernel_rfl) (by kernel_rfl) Zoc Zrs (QV Tryz.underlying3)
end
theorem Zrv : ownKnob Tryz.prog.godebug = none:=by kernel_rfl
theorem Zbi : laidOutB Tryz.prog = true:=by kernel_rfl
end Go.Civ
namespace Go.Civ
open Go.RowKit
set_option linter.unusedVariables false
theorem ZqI {x : HRow} (h : (x.v.any fun x=>!Z9 x) = true) : false = Yh x:=by
 have:=Zce h; unfold Yh; rw [this]; rfl
theorem ZqJ {x : HRow} (h : (x.v.any fun x=>!Z9 x) = false) (h2 : ZC x.r.d = false) : false = Yh x:=by
 have:=Zce h; unfold Yh; rw [this,h2]; rfl
theorem ZqK {x : HRow} (h : (x.v.any fun x=>!Z9 x) = false) (h2 : ZC x.r.d = true) : ZC x.r.x = Yh x:=by
 have:=Zce h; unfold Yh; rw [this,h2]; simp
def X8 (l : List HRow) : List HRow:=if 1000 < l.length then [] else if l.all Yh then (if (ZO l).length ≤ 500 then ZO l else []) else []
def Qm (l : List HRow) : Int:=if 1000 < l.length then 5 else if l.all Yh then (if (ZO l).length ≤ 500 then 0 else 5) else 1
theorem Zfp {l : List HRow} (h : (l.any fun r=>!Yh r) = false) : ZA l:=fun r hr=>by
 rw [List.any_eq_false] at h; simpa using h r hr
theorem Zgy {l : List HRow} (h : (l.any fun r=>!Yh r) = false) : l.all Yh = true:=List.all_eq_true.2 (Zfp h)
theorem Zkb {l : List HRow} (h : (l.any fun r=>!Yh r) = true) : l.all Yh = false:=by rw [← Bool.not_eq_true,List.all_eq_true]; rw [List.any_eq_true] at h; obtain ⟨r,hr,h1⟩:=h; intro e; rw [e r hr] at h1; cases h1
theorem ZhA {l : List HRow} (h : 1000 < (l.length : Int)) : X8 l = [] ∧ Qm l = 5:=by
 refine ⟨?_,?_⟩ <;> simp only [X8,Qm,if_pos (show 1000 < l.length by omega)]
theorem ZhB {l : List HRow} (h : (l.length : Int) ≤ 1000) (h2 : (l.any fun r=>!Yh r) = true) : X8 l = [] ∧ Qm l = 1:=by
 refine ⟨?_,?_⟩ <;> simp only [X8,Qm,if_neg (show ¬ 1000 < l.length by omega),Zkb h2,Bool.false_eq_true,if_false]
theorem Zgz {l : List HRow} (h : (l.length : Int) ≤ 1000) (h2 : (l.any fun r=>!Yh r) = false) (h3 : 500 < ((ZO l).length : Int)) : X8 l = [] ∧ Qm l = 5:=by
 refine ⟨?_,?_⟩ <;> simp only [X8,Qm,if_neg (show ¬ 1000 < l.length by omega),Zgy h2,if_neg (show ¬ (ZO l).length ≤ 500 by omega),if_true]
theorem ZfB {l : List HRow} (h : (l.length : Int) ≤ 1000) (h2 : (l.any fun r=>!Yh r) = false) (h3 : ((ZO l).length : Int) ≤ 500) : X8 l = ZO l ∧ Qm l = 0:=by
 refine ⟨?_,?_⟩ <;> simp only [X8,Qm,if_neg (show ¬ 1000 < l.length by omega),Zgy h2,if_pos (show (ZO l).length ≤ 500 by omega),if_true]
theorem ZmL {x y : HRow} (h : decide (x.v = y.v) = false) : false = decide (x = y):=(decide_eq_false fun e=>(of_decide_eq_false h) (by rw [e])).symm
theorem ZmM {x y : HRow} (h : decide (x.v = y.v) = true) : decide (x.r = y.r) = decide (x = y):=decide_eq_decide.2 ⟨fun e=>by
 have:=of_decide_eq_true h
 cases x; cases y; simp_all,fun e=>by rw [e]⟩
end Go.Civ
namespace Go.Civ
open Go.RowKit
set_option linter.unusedVariables false
def XP (t : Table) : Bool:=Yl t.s && decide (-62135596801 ≤ t.last) && decide (t.last < 253402300800) && decide (t.rows.length ≤ 500)
theorem ZlB {t : Table} (h1 : Yl t.s = true) (h2 : -62135596801 ≤ t.last) (h3 : t.last < 253402300800) (h4 : (t.rows.length : Int) ≤ 500) : XP t = true:=by
 unfold XP; rw [h1,decide_eq_true h2,decide_eq_true h3,decide_eq_true (show t.rows.length ≤ 500 by omega)]; rfl
theorem Za8 (t : Table) : Zm t = ((XP t && t.rows.all (Yu t.s t.last)) && decide (t.rows = ZO t.rows)):=rfl
theorem Zd8 {t : Table} (h : XP t = false) : false = Zm t:=by rw [Za8,h]; rfl
theorem ZoG {t : Table} (h : Yl t.s = false) : XP t = false:=by unfold XP; rw [h]; rfl
theorem ZoH {t : Table} (h : t.last < -62135596801) : XP t = false:=by unfold XP; rw [decide_eq_false (show ¬ -62135596801 ≤ t.last by omega)]; simp
theorem ZoI {t : Table} (h : 253402300800 ≤ t.last) : XP t = false:=by unfold XP; rw [decide_eq_false (show ¬ t.last < 253402300800 by omega)]; simp
theorem ZoJ {t : Table} (h : 500 < (t.rows.length : Int)) : XP t = false:=by unfold XP; rw [decide_eq_false (show ¬ t.rows.length ≤ 500 by omega)]; simp
theorem Zca {t : Table} {k : Nat} {x : HRow} (h : t.rows[k]? = some x) (hx : Yu t.s t.last x = false) : false = Zm t:=by
 rw [Za8,Zec h hx]; simp
theorem ZmN {t : Table} (h1 : XP t = true) (h2 : t.rows.all (Yu t.s t.last) = true) : Q0 (fun x y=>decide (x = y)) t.rows (ZO t.rows) = Zm t:=by
 rw [Za8,h1,h2,Qi]; rfl
theorem ZqL {s : Schema} {last : Int} {x : HRow} (h : Yz s x.v ≠ 0) : Yu s last x = false:=by unfold Yu; rw [decide_eq_false h]; rfl
theorem ZqM {s : Schema} {last : Int} {x : HRow} (h : Yh x = false) : Yu s last x = false:=by unfold Yu; rw [h]; simp
theorem ZqN {s : Schema} {last : Int} {x : HRow} (h : last < x.r.x.a) : Yu s last x = false:=by unfold Yu; rw [decide_eq_false (show ¬ x.r.x.a ≤ last by omega)]; simp
theorem ZqO {s : Schema} {last : Int} {x : HRow} (h : last < x.r.x.b) (h2 : x.r.x.b ≠ 253402300800) : Yu s last x = false:=by unfold Yu; rw [decide_eq_false (show ¬ x.r.x.b ≤ last by omega),decide_eq_false h2]; simp
theorem Zhc {s : Schema} {last : Int} {x : HRow} (h1 : Yz s x.v = 0) (h2 : Yh x = true) (h3 : x.r.x.a ≤ last) (h4 : x.r.x.b ≤ last ∨ x.r.x.b = 253402300800) : Yu s last x = true:=by
 unfold Yu; rw [decide_eq_true h1,h2,decide_eq_true h3]
 rcases h4 with h4 | h4
 ·rw [decide_eq_true h4]; rfl
 ·rw [decide_eq_true h4]; simp
theorem ZmO {s : Schema} {last : Int} {l : List HRow} (h : l.all (Yu s last) = true) : ZA l ∧ ∀ r ∈ l,r.v.length ≤ 8:=by
 rw [List.all_eq_true] at h
 refine ⟨fun r hr=>?_,fun r hr=>?_⟩
 ·have:=h r hr; unfold Yu at this; simp only [Bool.and_eq_true,decide_eq_true_eq] at this; exact this.1.1.2
 ·have:=h r hr; unfold Yu at this; simp only [Bool.and_eq_true,decide_eq_true_eq] at this; exact (QA this.1.1.1).1
theorem Zjv {l : List HRow} (h : ∀ r ∈ l,r.v.length ≤ 8) : ∀ r ∈ l,r.v.length ≤ 1000:=fun r hr=>Nat.le_trans (h r hr) (by decide)
theorem Zd9 {t : Table} {tx : Int} {l : List HRow} (h : ((ZO l).length : Int) ≤ 500) : (⟨t.s,ZO l,tx⟩ : Table) = ZJ t tx l ∧ 0 = XO l:=by
 unfold ZJ XO; rw [if_pos (by omega),if_pos (by omega)]; exact ⟨rfl,rfl⟩
theorem ZeY {t : Table} {tx : Int} {l : List HRow} (h : 500 < ((ZO l).length : Int)) : noT = ZJ t tx l ∧ 5 = XO l:=by
 unfold ZJ XO; rw [if_neg (by omega),if_neg (by omega)]; exact ⟨rfl,rfl⟩
theorem Zsb {t : Table} {tx : Int} (h : ZB tx = false) : 2 = X7 t tx:=by unfold X7; rw [h]; rfl
theorem Zsc {t : Table} {tx : Int} (h : ZB tx = true) (h2 : tx ≤ t.last) : 6 = X7 t tx:=by unfold X7; rw [h,if_pos rfl,if_pos h2]
theorem Zsd {t : Table} {tx : Int} (h : ZB tx = true) (h2 : t.last < tx) : 0 = X7 t tx:=by unfold X7; rw [h,if_pos rfl,if_neg (by omega)]
theorem ZoK (t : Table) (tx : Int) : Zy (X7 t tx):=by unfold X7; split <;> (try split) <;> constructor <;> decide
theorem Zg0 (a b : Int) : Qh [a,b] = or2 a b:=by
 unfold Qh or2
 by_cases ha : a = 0
 ·by_cases hb : b = 0 <;> simp [ha,hb]
 ·simp [ha]
theorem ZpT {a b : Int} (h : or2 a b = 0) : a = 0 ∧ b = 0:=by unfold or2 at h; split at h <;> omega
theorem ZmP {t : Table} {tx : Int} (h : X7 t tx = 0) : ZB tx = true ∧ t.last < tx:=by
 unfold X7 at h
 split at h
 ·rename_i h1; split at h <;> first | omega | exact ⟨h1,by omega⟩
 ·omega
theorem X3 {x : Int} (h : ZB x = true) : -62135596800 ≤ x ∧ x < 253402300800:=by unfold ZB at h; simpa using h
theorem Zk1 {t : Table} {d : Span} (h : Zm t = false) : QB t d = false:=by unfold QB; rw [h]; rfl
theorem Zk2 {t : Table} {d : Span} (h : ZC d = false) : QB t d = false:=by unfold QB; rw [h]; simp
theorem Zhd {t : Table} {d : Span} (h1 : Zm t = true) (h2 : ZC d = true) : QB t d = true:=by unfold QB; rw [h1,h2]; rfl
theorem Zg1 {t : Table} {tx : Int} {v : List Val} {d : Span} (h : QB t d = false) : noT = ZI t tx v d ∧ 1 = Ym t tx v d:=by
 have : Zcr t tx v d = 1:=by unfold Zcr; rw [h]; rfl
 unfold ZI Ym; rw [this]; exact ⟨rfl,rfl⟩
theorem ZhC {t : Table} {tx : Int} {v : List Val} {d : Span} (h : QB t d = true) : Zcr t tx v d = or2 (Yz t.s v) (X7 t tx):=by unfold Zcr; rw [h]; rfl
theorem ZlC {t : Table} {tx : Int} {v : List Val} {d : Span} (h : QB t d = true) (h2 : Qh [Yz t.s v,X7 t tx] ≠ 0) : noT = ZI t tx v d ∧ Qh [Yz t.s v,X7 t tx] = Ym t tx v d:=by
 rw [Zg0] at *
 unfold ZI Ym; rw [ZhC h,if_neg h2,if_neg h2]; exact ⟨rfl,rfl⟩
theorem ZaV {t : Table} {tx : Int} {v : List Val} {d : Span} (h : QB t d = true) (h2 : Qh [Yz t.s v,X7 t tx] = 0) : ZJ t tx (Q1 t tx v d) = ZI t tx v d ∧ XO (Q1 t tx v d) = Ym t tx v d:=by
 rw [Zg0] at *
 unfold ZI Ym; rw [ZhC h,if_pos h2,if_pos h2]; exact ⟨rfl,rfl⟩
theorem Zey {t : Table} {tx : Int} {v : List Val} {d : Span} (h : Zm t = true) (hd : ZC d = true) (h2 : Qh [Yz t.s v,X7 t tx] = 0) :
  ZA (Q1 t tx v d) ∧ (∀ r ∈ Q1 t tx v d,r.v.length ≤ 1000) ∧ (Q1 t tx v d).length ≤ 501:=by
 obtain ⟨g1,g2,g3,_⟩:=ZE h
 rw [Zg0] at h2
 obtain ⟨e1,e2⟩:=ZpT h2
 obtain ⟨e3,e4⟩:=ZmP e2
 have e5:=X3 e3
 obtain ⟨r1,r2,_,_⟩:=QA e1
 unfold Q1
 refine ⟨fun r hr=>?_,fun r hr=>?_,by simp; omega⟩
 ·rcases List.mem_append.1 hr with hr | hr
  ·exact g1 r hr
  ·rw [List.mem_singleton.1 hr]
   unfold Yh
   simp only [r2,hd,Bool.true_and]
   unfold ZC
   simp; omega
 ·rcases List.mem_append.1 hr with hr | hr
  ·exact Nat.le_trans (g3 r hr) (by decide)
  ·rw [List.mem_singleton.1 hr]; exact Nat.le_trans r1 (by decide)
def Zb4 (gs : List HGrp) (at_ tx : Int) : List (List Val):=(gs.filter fun g=>Y0 (Z1 g.t tx) at_).map HGrp.v
theorem ZmQ {gs : List HGrp} {k : Nat} {g : HGrp} {at_ tx : Int} (h : gs[k]? = some g) (hi : Y0 (Z1 g.t tx) at_ = true) : Zb4 (gs.take (k + 1)) at_ tx = Zb4 (gs.take k) at_ tx ++ [g.v]:=by
 rw [List.take_add_one,h]; unfold Zb4; simp [hi]
theorem ZoL {gs : List HGrp} {k : Nat} {g : HGrp} {at_ tx : Int} (h : gs[k]? = some g) (hi : Y0 (Z1 g.t tx) at_ = false) : Zb4 (gs.take (k + 1)) at_ tx = Zb4 (gs.take k) at_ tx:=by
 rw [List.take_add_one,h]; unfold Zb4; simp [hi]
theorem ZmR (gs : List HGrp) (k : Nat) (at_ tx : Int) : (Zb4 (gs.take k) at_ tx).length ≤ gs.length:=by
 unfold Zb4; rw [List.length_map]; exact Nat.le_trans (List.length_filter_le _ _) (List.length_take_le' _ _)
theorem Zse {t : Table} {at_ tx : Int} (h : Zm t = false) : [] = Zz t at_ tx:=by unfold Zz; rw [h]; rfl
theorem Zsf {t : Table} {at_ tx : Int} (h : ZB at_ = false) : [] = Zz t at_ tx:=by unfold Zz; rw [h]; simp
theorem Zsg {t : Table} {at_ tx : Int} (h : ZB tx = false) : [] = Zz t at_ tx:=by unfold Zz; rw [h]; simp
theorem Zsh {t : Table} {at_ tx : Int} {k : Nat} (h1 : Zm t = true) (h2 : ZB at_ = true) (h3 : ZB tx = true) (hk : (ZT t.rows).length ≤ k) : Zb4 ((ZT t.rows).take k) at_ tx = Zz t at_ tx:=by
 unfold Zz; rw [h1,h2,h3,List.take_of_length_le hk]; rfl
def Zax (gs : List HGrp) (tx : Int) : List Fact:=gs.flatMap fun g=>(Z1 g.t tx).map (Fact.mk g.v)
theorem Zkc {gs : List HGrp} {k : Nat} {g : HGrp} {tx : Int} (h : gs[k]? = some g) : Zax (gs.take (k + 1)) tx = Zax (gs.take k) tx ++ (Z1 g.t tx).map (Fact.mk g.v):=by
 rw [List.take_add_one,h]; simp [Zax]
theorem ZlD {gs : List HGrp} {tx : Int} (h : ∀ g ∈ gs,g.t.length ≤ 500) : (Zax gs tx).length ≤ gs.length * 500:=by
 induction gs with
 | nil=>simp [Zax]
 | cons g gs ih=>
  have h1:=Nat.le_trans (ZaM g.t tx) (h g (by simp))
  have h2:=ih fun x hx=>h x (by simp [hx])
  simp only [Zax,List.flatMap_cons,List.length_append,List.length_cons,List.length_map] at *
  rw [Nat.add_mul]; omega
theorem Zde {l : List HRow} {k : Nat} {tx : Int} (hl : l.length ≤ 500) : (Zax ((ZT l).take k) tx).length ≤ 250000:=by
 have h1:=ZlD (gs:=(ZT l).take k) (tx:=tx) fun g hg=>Nat.le_trans (Zgu g (List.mem_of_mem_take hg)) hl
 have h2:=List.length_take_le' k (ZT l)
 have h3:=@Zbp l
 exact Nat.le_trans h1 (Nat.le_trans (Nat.mul_le_mul_right 500 (show ((ZT l).take k).length ≤ 500 by omega)) (by decide))
theorem ZtT {t : Table} {tx : Int} (h : Zm t = false) : [] = X1 t tx:=by unfold X1; rw [h]; rfl
theorem ZtU {t : Table} {tx : Int} (h : ZB tx = false) : [] = X1 t tx:=by unfold X1; rw [h]; simp
theorem ZtV {t : Table} {tx : Int} {k : Nat} (h1 : Zm t = true) (h3 : ZB tx = true) (hk : (ZT t.rows).length ≤ k) : Zax ((ZT t.rows).take k) tx = X1 t tx:=by
 unfold X1; rw [h1,h3,List.take_of_length_le hk]; rfl
theorem ZhD {α β : Type} {f : α → β} {l : List α} {k : Nat} {x : α} (h : l[k]? = some x) : (l.take (k + 1)).map f = (l.take k).map f ++ [f x]:=by rw [List.take_add_one,h]; simp
end Go.Civ
namespace Go.Civ
def Z2 (s : Schema) : Table:=if Yl s then ⟨s,[], -62135596801⟩ else noT
def Zbq (s : Schema) : Int:=if Yl s then 0 else 1
theorem Zir {s : Schema} (h : Yl s = true) : (⟨s,[], -62135596801⟩ : Table) = Z2 s ∧ 0 = Zbq s:=by unfold Z2 Zbq; rw [h]; exact ⟨rfl,rfl⟩
theorem ZpU {s : Schema} (h : Yl s = false) : noT = Z2 s ∧ 1 = Zbq s:=by unfold Z2 Zbq; rw [h]; exact ⟨rfl,rfl⟩
end Go.Civ
namespace Go.Civ
theorem Zjw {α β : Type} {f : α → β} {l : List α} {k : Nat} (h : l.length ≤ k) : (l.take k).map f = l.map f:=by rw [List.take_of_length_le h]
end Go.Civ
