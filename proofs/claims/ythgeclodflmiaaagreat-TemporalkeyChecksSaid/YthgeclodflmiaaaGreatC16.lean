/- Lemmas. -/
import Derived.Test.YthgeclodflmiaaaGreatC03
import Derived.Test.YthgeclodflmiaaaGreatC05
import Derived.Test.YthgeclodflmiaaaGreatC07
import Derived.Test.YthgeclodflmiaaaGreatC08
import Derived.Test.YthgeclodflmiaaaGreatC13
import Derived.Test.YthgeclodflmiaaaGreatC15
import Derived.JoinedOf
import Derived.WalkKit
import Derived.KernelRfl
namespace Go.Civ
open Go.RowKit Go.ChangeShapes Go.Deep
set_option linter.unusedVariables false
section
variable {H : Type} {enc : TypeId × Value → H} {P : Program} {w : World}
theorem Zi9 {base : Nat} {spare : Nat → Bool} {held : Bool} {t : TypeId} {f0 f1 f2 f3 : Field} {fuel : Nat} {cs : List Value} {x : DataW H × List MemPlace} (ht : P.underlying t = some (.struct #[f0,f1,f2,f3])) (h : DataW.trod enc P w base spare held fuel t cs = some x) :
  ∃ y0 y1 y2 y3 n,x = (.agg [y0.1,y1.1,y2.1,y3.1],y0.2 ++ (y1.2 ++ (y2.2 ++ y3.2))) ∧ cs.length = P.cellsOf t ∧ DataW.trod enc P w base spare held n f0.type ((cs.drop f0.offset).take (P.cellsOf f0.type)) = some y0 ∧
   DataW.trod enc P w base spare held n f1.type ((cs.drop f1.offset).take (P.cellsOf f1.type)) = some y1 ∧ DataW.trod enc P w base spare held n f2.type ((cs.drop f2.offset).take (P.cellsOf f2.type)) = some y2 ∧
   DataW.trod enc P w base spare held n f3.type ((cs.drop f3.offset).take (P.cellsOf f3.type)) = some y3:=by
 obtain ⟨xs,n,_,rfl,hl,hlen,hf⟩:=DataW.trod_struct ht h
 match xs,hlen with
 | [y0,y1,y2,y3],_=>exact ⟨y0,y1,y2,y3,n,by simp,hl,by simpa using hf 0 f0 rfl,by simpa using hf 1 f1 rfl,by simpa using hf 2 f2 rfl,by simpa using hf 3 f3 rfl⟩
theorem ZlJ {α β γ δ ε : Type} {A : Enc α} {B : Enc β} {C : Enc γ} {D : Enc δ} {f : ε → α × β × γ × δ} {g : α × β × γ × δ → ε} {t : TypeId} {f0 f1 f2 f3 : Field} (surj : ∀ p,f (g p) = p) (hu : P.underlying t = some (.struct #[f0,f1,f2,f3])) (o0 : f0.offset = 0) (c0 : P.cellsOf f0.type = A.n) (o1 : f1.offset = A.n) (c1 : P.cellsOf f1.type = B.n)
  (o2 : f2.offset = A.n + B.n) (c2 : P.cellsOf f2.type = C.n) (o3 : f3.offset = A.n + B.n + C.n) (c3 : P.cellsOf f3.type = D.n) (ct : P.cellsOf t = A.n + (B.n + (C.n + D.n))) (hA : Xa enc P w f0.type A) (hB : Xa enc P w f1.type B) (hC : Xa enc P w f2.type C) (hD : Xa enc P w f3.type D) :
  Xa enc P w t ((Enc.pair A (Enc.pair B (Enc.pair C D))).via f):=fun fuel cs d pl h hl=>by
 obtain ⟨y0,y1,y2,y3,n,hx,hlen,h0,h1,h2,h3⟩:=Zi9 hu h
 simp only [Prod.mk.injEq] at hx
 obtain ⟨rfl,_⟩:=hx
 have e : DataW.weights P t (.agg [y0.1,y1.1,y2.1,y3.1]) = y0.1.weights P f0.type ++ (y1.1.weights P f1.type ++ (y2.1.weights P f2.type ++ (y3.1.weights P f3.type ++ []))):=by
  rw [DataW.weights,hu]; simp [DataW.weightsEach]
 rw [o0,c0,List.drop_zero] at h0
 rw [o1,c1] at h1
 rw [o2,c2] at h2
 rw [o3,c3] at h3
 obtain ⟨x0,r0⟩:=hA _ _ _ _ h0 fun x hx=>hl x (by rw [e]; simp [hx])
 obtain ⟨x1,r1⟩:=hB _ _ _ _ h1 fun x hx=>hl x (by rw [e]; simp [hx])
 obtain ⟨x2,r2⟩:=hC _ _ _ _ h2 fun x hx=>hl x (by rw [e]; simp [hx])
 obtain ⟨x3,r3⟩:=hD _ _ _ _ h3 fun x hx=>hl x (by rw [e]; simp [hx])
 rw [List.take_of_length_le (by rw [List.length_drop,hlen,ct]; omega)] at r3
 refine ⟨g (x0,x1,x2,x3),?_⟩
 show (Enc.pair A (Enc.pair B (Enc.pair C D))).rep _ (f (g (x0,x1,x2,x3))) _
 rw [surj]
 refine ⟨_,_,(List.take_append_drop A.n cs).symm,r0,(cs.drop A.n).take B.n,(cs.drop A.n).drop B.n,(List.take_append_drop B.n _).symm,r1,((cs.drop A.n).drop B.n).take C.n,((cs.drop A.n).drop B.n).drop C.n,(List.take_append_drop C.n _).symm,?_,?_⟩
 ·rw [List.drop_drop]; exact r2
 ·rw [List.drop_drop,List.drop_drop,← Nat.add_assoc]; exact r3
end
end Go.Civ
namespace Go.Civ
section
variable (P : Program) (f : FuncId) (fn : Func) (s : ChangeSpec) (c : OpenClaim)
def Zjs : Bool:=c.inPlace == P.inPlace f
def Zjt : Bool:=c.unfollowed == P.unfollowed f
def Zju : Bool:=c.recurses == P.recurses f
def Zjv : Bool:=c.named == P.varsNamed f
theorem ZoX {P : Program} {f : FuncId} {fn : Func} {s : ChangeSpec} {c : OpenClaim} (ha : Zjs P f c = true) (hb : Zjt P f c = true) (hc : Zju P f c = true) (hd : Zjv P f c = true)
  (h1 : (c.wf (OpenSpec.ofChange s) && laidOutB P && mapsRowed P && fn.params.all (P.readableRec ·) && namedTie P c.named s.vars && (c.stops == []) && (P.stops == []) && (c.knobs == []) && (P.stopKnobs == [])) = true)
  (h2 : ((c.maps == (fn.params.toList ++ s.plain.varTypes P).any (P.mapsRec ·)) && (c.ifaces == (fn.params.toList ++ s.plain.varTypes P).any (P.ifacesRec ·)) && (c.mapsOut == P.mapsAmong fn.resultTypes.toList) &&
   (c.loops == (fn.params.toList ++ s.plain.varTypes P).any (P.loopsFrom ·)) && (c.wideKeys == (fn.params.toList ++ s.plain.varTypes P ++ fn.resultTypes.toList).any (P.wideKeysFrom ·))) = true)
  (h3 : (s.vars.all (P.varReadable ·) && fn.resultTypes.all (fun t=>P.readableRec t && decide (t < P.types.size)) && (c.ifacesOut == fn.resultTypes.toList.any (P.ifacesRec ·)) && (c.loopsOut == fn.resultTypes.toList.any (P.loopsFrom ·)) && (c.plainKeys == P.plainKeys) && c.shortTexts.isNone && P.stopsHeard && P.mayEnter && (c.lifted == P.liftsFinal) && (P.make == some c.make)) = true)
  (h4 : ((c.kinds == (if c.domain.isEmpty then [] else fn.params.toList.map fun t=>match P.underlying t with | some (.int k)=>some k | _=>none)) && (c.pinned == c.pinnedBy) &&
   (c.veiled == (fn.params.toList ++ s.plain.varTypes P ++ fn.resultTypes.toList).any (P.veiledRec ·)) && c.veiledFits P fn.params.toList (fn.params.toList ++ s.plain.varTypes P ++ fn.resultTypes.toList)) = true) : joinedFacts P f fn s c = true:=by
 unfold Zjs at ha
 unfold Zjt at hb
 unfold Zju at hc
 unfold Zjv at hd
 unfold joinedFacts
 simp only [Bool.and_eq_true] at h1 h2 h3 h4 ⊢
 obtain ⟨⟨⟨⟨⟨⟨⟨⟨a1,a2⟩,a3⟩,a4⟩,a5⟩,a6⟩,a7⟩,a8⟩,a9⟩:=h1
 obtain ⟨⟨⟨⟨b1,b2⟩,b3⟩,b4⟩,b5⟩:=h2
 obtain ⟨⟨⟨⟨⟨⟨⟨⟨⟨c1,c2⟩,c3⟩,c4⟩,c5⟩,c6⟩,c7⟩,c8⟩,c9⟩,c10⟩:=h3
 obtain ⟨⟨⟨d1,d2⟩,d3⟩,d4⟩:=h4
 exact ⟨⟨⟨⟨⟨⟨⟨⟨⟨⟨⟨⟨⟨⟨⟨⟨⟨⟨⟨⟨⟨⟨⟨⟨⟨⟨⟨⟨⟨⟨⟨a1,a2⟩,a3⟩,a4⟩,a5⟩,a6⟩,a7⟩,a8⟩,a9⟩,ha⟩,hb⟩,hc⟩,hd⟩,b1⟩,b2⟩,b3⟩,b4⟩,b5⟩,c1⟩,c2⟩,c3⟩,c4⟩,c5⟩,c6⟩,c7⟩,c8⟩,c9⟩,c10⟩,d1⟩,d2⟩,d3⟩,d4⟩
end
end Go.Civ
namespace Go.Civ
open Go.RowKit
set_option linter.unusedVariables false
theorem ZrO {x : HRow} (h : (x.v.any fun x=>!ZK x) = true) : false = Y1 x:=by
 have:=Zc1 h; unfold Y1; rw [this]; rfl
theorem ZrP {x : HRow} (h : (x.v.any fun x=>!ZK x) = false) (h2 : ZM x.r.d = false) : false = Y1 x:=by
 have:=Zc1 h; unfold Y1; rw [this,h2]; rfl
theorem ZrQ {x : HRow} (h : (x.v.any fun x=>!ZK x) = false) (h2 : ZM x.r.d = true) : ZM x.r.x = Y1 x:=by
 have:=Zc1 h; unfold Y1; rw [this,h2]; simp
def XU (l : List HRow) : List HRow:=if 1000 < l.length then [] else if l.all Y1 then (if (ZZ l).length ≤ 500 then ZZ l else []) else []
def Q4 (l : List HRow) : Int:=if 1000 < l.length then 5 else if l.all Y1 then (if (ZZ l).length ≤ 500 then 0 else 5) else 1
theorem ZfD {l : List HRow} (h : (l.any fun r=>!Y1 r) = false) : Z5 l:=fun r hr=>by
 rw [List.any_eq_false] at h; simpa using h r hr
theorem ZgL {l : List HRow} (h : (l.any fun r=>!Y1 r) = false) : l.all Y1 = true:=List.all_eq_true.2 (ZfD h)
theorem ZkI {l : List HRow} (h : (l.any fun r=>!Y1 r) = true) : l.all Y1 = false:=by rw [← Bool.not_eq_true,List.all_eq_true]; rw [List.any_eq_true] at h; obtain ⟨r,hr,h1⟩:=h; intro e; rw [e r hr] at h1; cases h1
theorem Zif {l : List HRow} (h : 1000 < (l.length : Int)) : XU l = [] ∧ Q4 l = 5:=by
 refine ⟨?_,?_⟩ <;> simp only [XU,Q4,if_pos (show 1000 < l.length by omega)]
theorem Zig {l : List HRow} (h : (l.length : Int) ≤ 1000) (h2 : (l.any fun r=>!Y1 r) = true) : XU l = [] ∧ Q4 l = 1:=by
 refine ⟨?_,?_⟩ <;> simp only [XU,Q4,if_neg (show ¬ 1000 < l.length by omega),ZkI h2,Bool.false_eq_true,if_false]
theorem ZgM {l : List HRow} (h : (l.length : Int) ≤ 1000) (h2 : (l.any fun r=>!Y1 r) = false) (h3 : 500 < ((ZZ l).length : Int)) : XU l = [] ∧ Q4 l = 5:=by
 refine ⟨?_,?_⟩ <;> simp only [XU,Q4,if_neg (show ¬ 1000 < l.length by omega),ZgL h2,if_neg (show ¬ (ZZ l).length ≤ 500 by omega),if_true]
theorem ZfX {l : List HRow} (h : (l.length : Int) ≤ 1000) (h2 : (l.any fun r=>!Y1 r) = false) (h3 : ((ZZ l).length : Int) ≤ 500) : XU l = ZZ l ∧ Q4 l = 0:=by
 refine ⟨?_,?_⟩ <;> simp only [XU,Q4,if_neg (show ¬ 1000 < l.length by omega),ZgL h2,if_pos (show (ZZ l).length ≤ 500 by omega),if_true]
theorem ZnE {x y : HRow} (h : decide (x.v = y.v) = false) : false = decide (x = y):=(decide_eq_false fun e=>(of_decide_eq_false h) (by rw [e])).symm
theorem ZnF {x y : HRow} (h : decide (x.v = y.v) = true) : decide (x.r = y.r) = decide (x = y):=decide_eq_decide.2 ⟨fun e=>by
 have:=of_decide_eq_true h
 cases x; cases y; simp_all,fun e=>by rw [e]⟩
end Go.Civ
set_option linter.unusedVariables false
namespace Go.Civ
open Go.Proofs Go.Shelf Go.RowKit Go.Lib Go.Sort
theorem Zio {α : Type} (enc : α → List Value) (k : Nat) (hk0 : 0 < k) (hk : ∀ x,(enc x).length = k) : ∀ (l : List α) (t : Nat),(l.flatMap enc)[t]? = (l[t / k]?).bind fun x=>(enc x)[t % k]?
 | [],t=>by simp
 | x :: l,t=>by
  rw [List.flatMap_cons,List.getElem?_append]
  by_cases ht : t < k
  ·rw [if_pos (by rw [hk]; exact ht),Nat.div_eq_of_lt ht,Nat.mod_eq_of_lt ht]; rfl
  ·rw [if_neg (by rw [hk]; exact ht),hk,Zio enc k hk0 hk l (t - k),Nat.div_eq_sub_div (a:=t) hk0 (by omega),Nat.mod_eq_sub_mod (a:=t) (by omega),List.getElem?_cons_succ]
theorem Zip {α : Type} [Inhabited α] (enc : α → List Value) (k : Nat) (hk0 : 0 < k) (hk : ∀ x,(enc x).length = k) (d : Array α) (t : Nat) (ht : t < d.size * k) : (d.toList.flatMap enc)[t]? = some ((flatK enc k d)[t]!):=by
 rw [Zio enc k hk0 hk,get_flatK enc k d t ht]
 have hd : t / k < d.size:=(Nat.div_lt_iff_lt_mul hk0).2 ht
 have e : d.toList[t / k]? = some d[t / k]! :=by
  rw [getElem!_pos d (t / k) hd,Array.getElem?_toList,Array.getElem?_eq_getElem hd]
 rw [e]
 simp only [Option.bind_some]
 have hl : t % k < (enc d[t / k]!).length:=by rw [hk]; exact Nat.mod_lt _ hk0
 rw [List.getElem?_eq_getElem hl,getElem!_pos (enc d[t / k]!) (t % k) hl]
abbrev Elt {α : Type} (E : Enc α) (G : GH) (V : α → Prop):={ p : α × List Value // E.rep G p.1 p.2 ∧ V p.1 }
section
variable {α : Type} {E : Enc α} {G : GH} {V : α → Prop}
theorem Ziq : ∀ (l : List α) (xs : List Value),Xp E G l xs → (∀ x ∈ l,V x) → ∃ dl : List (Elt E G V),dl.map (·.1.1) = l ∧ dl.flatMap (·.1.2) = xs
 | [],xs,h,_=>⟨[],rfl,by simpa using h.symm⟩
 | x :: l,xs,⟨c,r,h1,h2,h3⟩,hV=>by
  obtain ⟨dl,k1,k2⟩:=Ziq l r h3 fun y hy=>hV y (by simp [hy])
  exact ⟨⟨(x,c),h2,hV x (by simp)⟩ :: dl,by simp [k1],by simp [k2,h1]⟩
theorem Zfb : ∀ (dl : List (Elt E G V)),Xp E G (dl.map (·.1.1)) (dl.flatMap (·.1.2))
 | []=>rfl
 | x :: l=>⟨x.1.2,_,rfl,x.2.1,Zfb l⟩
theorem Kept.grow {w w' : World} (h : Kept [] w w') : ∃ q os',w' = grow (w.drewN q) os':=by
 refine ⟨w'.drawn - w.drawn,w'.heap.extract w.heap.size w'.heap.size,?_⟩
 obtain ⟨h1,h2,h3,h4,h5,h6⟩:=h
 obtain ⟨heap,tape,drawn,os,output⟩:=w
 obtain ⟨heap',tape',drawn',os',output'⟩:=w'
 simp only at h1 h2 h3 h4 h5 h6
 subst h1 h2 h3
 simp only [Go.Sort.grow,World.drewN]
 have e1 : drawn + (drawn' - drawn) = drawn':=by omega
 have e2 : heap ++ heap'.extract heap.size heap'.size = heap':=by
  apply Array.ext_getElem?
  intro i
  rw [Array.getElem?_append]
  split
  ·rename_i hi; exact (h6 i hi (by simp)).symm
  ·rename_i hi
   rw [Array.getElem?_extract]
   split
   ·congr 1; omega
   ·rw [Array.getElem?_eq_none]; omega
 rw [e1,e2]
end
theorem Zfc {β : Type} [Inhabited β] (enc : β → List Value) (k : Nat) (w : World) (b n : Nat) (d : Array β) (os : Array Obj) {cs : List Value} {tid : TypeId} (hb : w.heap[b]? = some (.cells cs.toArray tid (0,0))) (i : Nat) :
  (sortWorldK enc k w b 0 n d os).heap[i]? = if i < w.heap.size then (if b = i then some (.cells (putCells id 0 (flatK enc k d) cs.toArray) tid (0,0)) else w.heap[i]?) else os[i - w.heap.size]? :=by
 have hah : (Go.Sort.ahead w n).heap = w.heap:=rfl
 simp only [sortWorldK,putRowK,putRow,mapBlock,Go.Sort.grow,hah]
 rw [Array.getElem?_append]
 simp only [Array.size_modify]
 by_cases hk : i < w.heap.size
 ·rw [if_pos hk,if_pos hk,Array.getElem?_modify]
  by_cases hkb : b = i
  ·subst hkb
   rw [if_pos rfl,if_pos rfl,hb]
   simp [onCells]
  ·rw [if_neg hkb,if_neg hkb]
 ·rw [if_neg hk,if_neg hk]
theorem Zkf {β : Type} [Inhabited β] (enc : β → List Value) (k : Nat) {w : World} {G : GH} (hG : G.In w) (b n : Nat) (d : Array β) (os : Array Obj) {cs : List Value} {tid : TypeId} (hb : w.heap[b]? = some (.cells cs.toArray tid (0,0))) (hg : G b = none) :
  Res [b] w G (sortWorldK enc k w b 0 n d os) G:=by
 refine ⟨⟨rfl,rfl,rfl,Nat.le_add_right _ _,?_,fun i hi hkb=>?_⟩,G.le_refl,fun _ _=>rfl,fun i o hk=>?_⟩
 ·have hah : (Go.Sort.ahead w n).heap = w.heap:=rfl
  simp [sortWorldK,putRowK,putRow,mapBlock,Go.Sort.grow]
  try simp [hah]
 ·rw [Zfc enc k w b n d os hb,if_pos hi,if_neg (by simpa [eq_comm] using hkb)]
 ·have hk1:=hG.lt hk
  have hkb : b ≠ i:=fun e=>by subst e; rw [hg] at hk; cases hk
  rw [Zfc enc k w b n d os hb,if_pos hk1,if_neg hkb]; exact hG i o hk
set_option maxHeartbeats 2000000 in
theorem Zlq {P : Program} {ρr : Ren} (Ls : SlLaysF0.n6 P ρr) {α : Type} {E : Enc α} {by_ : Nat} {tid : TypeId} (hk0 : 0 < E.n) (aE : ∀ w,(isAgg (ρr.t 24)).run P w = .ok true w) (zE : ∀ w,(Go.sizeOf (ρr.t 24)).run P w = .ok E.n w)
  (cf : α → α → Int) (V : α → Prop) (hirr : ∀ x,V x → ¬ cf x x < 0) (htr : ∀ x y z,V x → V y → V z → cf x y < 0 → cf y z < 0 → cf x z < 0) (hnt : ∀ x y z,V x → V y → V z → ¬ cf x y < 0 → ¬ cf y z < 0 → ¬ cf x z < 0)
  (gf : Nat) (eg : ∀ args w,(callFunc gf args).run P w = .ok (.enter gf args) w) {G : GH} {w : World} (hG : G.In w)
  (hcl : ∀ W,G.In W → ∀ x y cx cy,V x → V y → E.rep G x cx → E.rep G y cy → Calls P gf #[.agg cx.toArray, .agg cy.toArray] W fun e w'=>∃ r G',e = .returned r ∧ Res [] W G w' G' ∧ r = .int .i64 (cf x y))
  (x0 : α) (c0 : List Value) (h0 : E.rep G x0 c0) (hV0 : V x0) (l : List α) (hV : ∀ x ∈ l,V x) (vd : Value) (od : OB) (hvd : Yb E by_ tid G vd l od) (hod : Zat w G od) :
  Calls P (ρr.f 6) #[vd, .func (.func gf) #[] #[]] w fun e w'=>∃ r G',e = .returned r ∧ Res (blk od) w G w' G' ∧ r = .tuple #[] ∧ ∃ (l' : List α) (o' : OB),Yb E by_ tid G' vd l' o' ∧ Zat w' G' o' ∧ (l'.Perm l ∧ l'.Pairwise fun x y=>¬ cf y x < 0):=by
 rcases hvd with ⟨rfl,rfl,rfl⟩ | ⟨b,cs,cap,xs,rfl,rfl,h3,h4,h5,h6,h7,h8,h9⟩
 ·exact (AnyF.slices_SortFunc_none (P:=P) (ρ:=ρr) { Ls with } none 0 (.func (.func gf) #[] #[]) w).mono fun e w' ⟨he,hw⟩=>by
   subst hw
   exact ⟨_,G,he,Res.refl hG,rfl,[],none, .inl ⟨rfl,rfl,rfl⟩,fun p hp=>(by cases hp),List.Perm.refl _,List.Pairwise.nil⟩
 ·obtain ⟨hb1,hb2⟩:=hod _ rfl
  simp only [Za9] at hb1
  obtain ⟨dl,rfl,rfl⟩:=Ziq l xs h6 hV
  letI : Inhabited (Elt E G V):=⟨⟨(x0,c0),h0,hV0⟩⟩
  have hkE : ∀ x : Elt E G V,(x.1.2).length = E.n:=fun x=>E.len x.2.1
  have hsz : dl.toArray.size = (dl.map (·.1.1)).length:=by simp
  have hcell : ∀ t,t < dl.toArray.size * E.n → cs[t]? = some ((flatK (fun x : Elt E G V=>x.1.2) E.n dl.toArray)[t]!):=fun t ht=>by
   rw [← Zip (fun x : Elt E G V=>x.1.2) E.n hk0 hkE dl.toArray t ht]
   have e7:=congrArg (·[t]?) h7
   rw [List.getElem?_take,if_pos (by rw [← hsz]; exact ht)] at e7
   exact e7
  have hH : HoldsK (fun x : Elt E G V=>x.1.2) E.n w b 0 dl.toArray:=fun t ht=>by
   rw [size_flatK] at ht
   refine ⟨?_,?_⟩
   ·rw [Nat.zero_add]
    simp only [World.cell?,hb1]
    have:=hcell t ht
    simpa using this
   ·simp [World.frozen?,hb1]
  have hO : SWO (ltOf fun x y : Elt E G V=>cf x.1.1 y.1.1):=
   ⟨fun x=>decide_eq_false (hirr _ x.2.2),fun x y z p q=>decide_eq_true (htr _ _ _ x.2.2 y.2.2 z.2.2 (of_decide_eq_true p) (of_decide_eq_true q)),fun x y z p q=>decide_eq_false (hnt _ _ _ x.2.2 y.2.2 z.2.2 (of_decide_eq_false p) (of_decide_eq_false q))⟩
  have hcon:=AnyQ.slices_SortFunc Ls E.n aE zE (fun x : Elt E G V=>x.1.2) hkE (fun x v hv=>E.one x.2.1 v hv) (fun x y=>cf x.1.1 y.1.1) hO gf #[] b 0 cap dl.toArray w eg
   (fun m os dk _ x y=>(hcl _ (Zkf _ _ hG b m dk os hb1 hb2).imm x.1.1 y.1.1 x.1.2 y.1.2 x.2.2 y.2.2 x.2.1 y.2.1).mono fun e w' ⟨r,G',he,hres,hr⟩=>⟨by rw [he,hr],hres.kept.grow⟩)
   hH (Array.getElem?_eq_some_iff.1 hb1).1 (by rw [hsz]; unfold reach at h9; omega)
  rw [hsz] at hcon
  refine hcon.mono fun e w' ⟨he,d',n,os,hp,hs,hw⟩=>?_
  obtain ⟨hp1,hp2,hp3⟩:=hp
  have hd' : d'.size = dl.length:=by simpa using hp1
  have hperm : d'.toList.Perm dl:=by
   have e1 : d'.extract 0 dl.toArray.size = d':=by rw [← hp1]; simp
   have e2 : dl.toArray.extract 0 dl.toArray.size = dl.toArray:=by simp
   rw [hsz.symm,e1,e2] at hp3; simpa using hp3
  have hbl : b < w.heap.size:=(Array.getElem?_eq_some_iff.1 hb1).1
  subst hw
  obtain ⟨cs',hcs'⟩ : ∃ cs' : List Value,cs' = (putCells id 0 (flatK (fun x : Elt E G V=>x.1.2) E.n d') cs.toArray).toList:=⟨_,rfl⟩
  have hres:=Zkf (fun x : Elt E G V=>x.1.2) E.n hG b n d' os hb1 hb2
  have hlen : (d'.toList.map (·.1.1)).length = (dl.map (·.1.1)).length:=by simp [hd']
  have hln : (dl.map (·.1.1)).length = dl.length:=by simp
  have h5' : cs.length = cap * E.n:=h5
  have hfl : (d'.toList.flatMap (·.1.2)).length = d'.size * E.n:=by
   have:=Xp.len (Zfb d'.toList); simpa using this
  have hcapd : d'.size * E.n ≤ cs.length:=by
   rw [h5']; exact Nat.mul_le_mul_right _ (by omega)
  refine ⟨_,G,he,hres,rfl,d'.toList.map (·.1.1),some (b,tid,cs'), .inr ⟨b,cs',cap,d'.toList.flatMap (·.1.2),rfl,by rw [hlen],by rw [hlen]; exact h3,h4,?_,Zfb _,?_,by rw [hlen]; exact h8,by rw [hlen]; exact h9⟩,fun p hp=>?_,?_,?_⟩
  ·subst hcs'; simpa [putCells] using h5
  ·apply List.ext_getElem?
   intro t
   rw [List.getElem?_take]
   have hn2 : (d'.toList.map (·.1.1)).length * E.n = d'.size * E.n:=by simp
   rw [hn2]
   by_cases ht : t < d'.size * E.n
   ·have htc : t < cs.length:=by omega
    rw [if_pos ht,Zip (fun x : Elt E G V=>x.1.2) E.n hk0 hkE d' t ht,hcs']
    simp only [putCells,Array.getElem?_toList,Array.getElem?_mapIdx,size_flatK]
    simp only [List.getElem?_toArray]
    rw [List.getElem?_eq_getElem htc]
    simp [ht]
   ·rw [if_neg ht,List.getElem?_eq_none]; omega
  ·obtain rfl:=Option.some.inj hp
   refine ⟨?_,hb2⟩
   rw [Zfc _ _ w b n d' os hb1,if_pos hbl,if_pos rfl,hcs']; rfl
  ·exact hperm.map _
  ·rw [List.pairwise_map,List.pairwise_iff_getElem]
   intro i j hi hj hij
   have h:=hs i j (by omega) hij (by rw [← hsz,← hp1]; simpa using hj)
   have hi' : i < d'.size:=by simpa using hi
   have hj' : j < d'.size:=by simpa using hj
   rw [getElem!_pos d' i hi',getElem!_pos d' j hj'] at h
   have:=of_decide_eq_false h
   simpa only [Array.getElem_toList] using this
end Go.Civ
