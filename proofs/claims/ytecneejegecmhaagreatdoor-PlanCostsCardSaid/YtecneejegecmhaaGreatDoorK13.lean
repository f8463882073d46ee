/- Lemmas. -/
import Derived.Test.YtecneejegecmhaaGreatDoorK12
import Derived.LaidMore
set_option linter.unusedVariables false
set_option linter.unusedSimpArgs false
set_option linter.unnecessarySimpa false
namespace Go.Civ
open Go.RowKit Go.ChangeShapes Go.Deep
set_option linter.unusedVariables false
section
variable {H : Type} {enc : TypeId × Value → H} {P : Program} {w : World}
theorem ZoL {t : TypeId} (h : ∀ N,ZcD (fun d=>SizeOf.sizeOf d ≤ N) enc P w t (Xy N)) : Xl enc P w t CndE:=fun fuel cs d pl ht hl=>by
 obtain ⟨x,hx⟩:=h (SizeOf.sizeOf d) _ _ _ _ (Nat.le_refl _) ht hl
 exact ⟨x,_,hx⟩
theorem ZgI {t : TypeId} {f0 f1 f2 f3 f4 f5 f6 f7 f8 : Field} (hu : P.underlying t = some (.struct #[f0,f1,f2,f3,f4,f5,f6,f7,f8]))
  (o : f0.offset = 0 ∧ f1.offset = 1 ∧ f2.offset = 2 ∧ f3.offset = 3 ∧ f4.offset = 4 ∧ f5.offset = 11 ∧ f6.offset = 12 ∧ f7.offset = 13 ∧ f8.offset = 15)
  (u0 : P.underlying f0.type = some (.int .i64)) (u1 : P.underlying f1.type = some .string) (h2 : Xl enc P w f2.type (Enc.str.slice 16)) (h3 : Xl enc P w f3.type (Enc.str.slice 16)) (h4 : Xl enc P w f4.type CndE)
  (u5 : P.underlying f5.type = some (.int .i64)) (u6 : P.underlying f6.type = some (.int .i64)) (h7 : Xl enc P w f7.type SpanE) (u8 : P.underlying f8.type = some (.slice t))
  (c : P.cellsOf f0.type = 1 ∧ P.cellsOf f1.type = 1 ∧ P.cellsOf f2.type = 1 ∧ P.cellsOf f3.type = 1 ∧ P.cellsOf f4.type = 7 ∧ P.cellsOf f5.type = 1 ∧ P.cellsOf f6.type = 1 ∧ P.cellsOf f7.type = 2 ∧ P.cellsOf f8.type = 1) (ct : P.cellsOf t = 16) (hb : P.bytesOf t = 224) :
  ∀ N,ZcD (fun d=>SizeOf.sizeOf d ≤ N) enc P w t QryE
 | 0=>fun fuel cs d pl hd=>by cases d <;> simp at hd
 | N + 1=>fun fuel cs d pl hd h hl=>by
  have ih:=ZgI hu o u0 u1 h2 h3 h4 u5 u6 h7 u8 c ct hb N
  obtain ⟨o0,o1,o2,o3,o4,o5,o6,o7,o8⟩:=o
  obtain ⟨c0,c1,c2,c3,c4,c5,c6,c7,c8⟩:=c
  obtain ⟨xs,n,_,hx,hlen,hn,hf⟩:=DataW.trod_struct hu h
  match xs,hn with
  | [y0,y1,y2,y3,y4,y5,y6,y7,y8],_=>
   simp only [Prod.mk.injEq] at hx
   obtain ⟨rfl,_⟩:=hx
   have e : DataW.weights P t (.agg [y0.1,y1.1,y2.1,y3.1,y4.1,y5.1,y6.1,y7.1,y8.1]) = y0.1.weights P f0.type ++ (y1.1.weights P f1.type ++ (y2.1.weights P f2.type ++ (y3.1.weights P f3.type ++ (y4.1.weights P f4.type ++ (y5.1.weights P f5.type ++ (y6.1.weights P f6.type ++ (y7.1.weights P f7.type ++ (y8.1.weights P f8.type ++ [])))))))):=by
    rw [DataW.weights,hu]; simp [DataW.weightsEach]
   have hl' : ∀ x,x ∈ DataW.weights P t (.agg [y0.1,y1.1,y2.1,y3.1,y4.1,y5.1,y6.1,y7.1,y8.1]) → x ≤ reachBytes:=hl
   have g0:=by simpa using hf 0 f0 rfl
   have g1:=by simpa using hf 1 f1 rfl
   have g2:=by simpa using hf 2 f2 rfl
   have g3:=by simpa using hf 3 f3 rfl
   have g4:=by simpa using hf 4 f4 rfl
   have g5:=by simpa using hf 5 f5 rfl
   have g6:=by simpa using hf 6 f6 rfl
   have g7:=by simpa using hf 7 f7 rfl
   have g8:=by simpa using hf 8 f8 rfl
   rw [o0,c0,List.drop_zero] at g0
   rw [o1,c1] at g1
   rw [o2,c2] at g2
   rw [o3,c3] at g3
   rw [o4,c4] at g4
   rw [o5,c5] at g5
   rw [o6,c6] at g6
   rw [o7,c7] at g7
   rw [o8,c8] at g8
   obtain ⟨x0,r0,b0⟩:=Q7 u0 _ _ _ _ g0 fun x hx=>hl' x (by rw [e]; simp [hx])
   obtain ⟨x1,r1,b1⟩:=ZbP u1 _ _ _ _ g1 fun x hx=>hl' x (by rw [e]; simp [hx])
   obtain ⟨x2,v2,r2,s2⟩:=h2 _ _ _ _ g2 fun x hx=>hl' x (by rw [e]; simp [hx])
   obtain ⟨x3,v3,r3,s3⟩:=h3 _ _ _ _ g3 fun x hx=>hl' x (by rw [e]; simp [hx])
   obtain ⟨x4,r4⟩:=h4 _ _ _ _ g4 fun x hx=>hl' x (by rw [e]; simp [hx])
   obtain ⟨x5,r5,b5⟩:=Q7 u5 _ _ _ _ g5 fun x hx=>hl' x (by rw [e]; simp [hx])
   obtain ⟨x6,r6,b6⟩:=Q7 u6 _ _ _ _ g6 fun x hx=>hl' x (by rw [e]; simp [hx])
   obtain ⟨x7,r7⟩:=h7 _ _ _ _ g7 fun x hx=>hl' x (by rw [e]; simp [hx])
   have hsz : SizeOf.sizeOf y8.1 ≤ N + 1:=by simp at hd; omega
   obtain ⟨x8,lv,r8,s8⟩:=Zf6 (E:=QryE) (ok:=fun d=>SizeOf.sizeOf d ≤ N + 1) (ok':=fun d=>SizeOf.sizeOf d ≤ N) (fun xs ys h d hd=>by have:=List.sizeOf_lt_of_mem hd; simp at h; omega) u8 ct (by decide : 0 < 16) hb (by decide) ih _ _ _ _ hsz g8 fun x hx=>hl' x (by rw [e]; simp [hx])
   obtain ⟨clv,q4,w1,w2,w3,w4,w5,w6,w7⟩:=Yl r4
   obtain ⟨q7,v7,v8⟩:=QH r7
   have hlen' : cs.length = 16:=hlen.trans ct
   match cs,hlen' with
   | [a0,a1,a2,a3,a4,a5,a6,a7,a8,a9,a10,a11,a12,a13,a14,a15],_=>
    simp at r0 r1 r2 r3 q4 r5 r6 q7 r8
    obtain ⟨rfl,rfl,rfl,rfl,rfl,rfl,rfl⟩:=q4
    obtain ⟨rfl,rfl⟩:=q7
    subst r0 r1 r2 r3 r5 r6 r8
    exact ⟨⟨x0,x1,x2,x3,x4,x5,x6,x7,x8⟩,Zr _ b0 b1 s2 s3 w1 w2 w3 w4 w5 w6 w7 b5 b6 v7 v8 s8⟩
end
section
variable {P : Program} {w : World}
theorem ZoM {t e : TypeId} {fuel : Nat} {cs : List Value} {L : List Str} {p : List MemPlace} {sp : Nat → Bool} (ht : P.underlying t = some (.slice e)) (he : P.underlying e = some .string) (hc : P.cellsOf e = 1) (hL : L.length * 16 ≤ reach ∧ L.length ≤ reach) (hs : ∀ x ∈ L,x.length ≤ reach)
  (h : DataW.trod (fun _=>()) P w 0 sp false fuel t cs = some (.slice (L.map fun x=> .lit (.string x)) [],p)) : ∃ v,cs = [v] ∧ Sl Enc.str 16 (GW w) v L:=by
 obtain ⟨a,cap,rfl,hcap,hel⟩:=open_row ht hc h
 rw [List.length_map] at hcap
 refine ⟨_,rfl,some a,cap,by rw [List.length_map],hcap,hL.1,hL.2,fun i x hx=>?_⟩
 obtain ⟨v,n,q,hv,htr⟩:=hel i (.lit (.string x)) (by rw [List.getElem?_map,hx]; rfl)
 obtain ⟨s,hsv,hd,_⟩:=DataW.trod_string he htr
 simp only [Prod.mk.injEq,DataW.lit.injEq,Lit.string.injEq,List.cons.injEq,and_true] at hd hsv
 obtain ⟨hd,_⟩:=hd
 have hsp : (a.add i).spot = none:=World.cell?_spot hv
 have hs0 : a.spot = none:=by
  have h0 : 0 < L.length:=Nat.lt_of_le_of_lt (Nat.zero_le i) (List.getElem?_eq_some_iff.1 hx).1
  obtain ⟨v0,_,_,hv0,_⟩:=hel 0 (.lit (.string L[0])) (by rw [List.getElem?_map,List.getElem?_eq_getElem h0]; rfl)
  have:=World.cell?_spot hv0
  simpa [Addr.add] using this
 have hspot : (a.add (i * 1)).spot = none:=by rw [Nat.mul_one]; exact hsp
 refine ⟨a,rfl,hs0,[v],?_,?_⟩
 ·show Xh (GW w) (a.add (i * 1)) [v]
  unfold World.cell? at hv
  split at hv
  ·rename_i c e fz hb
   refine ⟨hspot,c,e,fz,?_,fun j v' hv'=>?_⟩
   ·rw [Nat.mul_one]; exact hb
   ·cases j with
    | zero=>simp at hv'; subst hv'; simp at hv; simpa using hv.2
    | succ j=>simp at hv'
  ·simp at hv
 ·exact ⟨by rw [hsv,hd]; simp [Za],hs x (List.mem_of_getElem? hx)⟩
theorem ZhM {g : Nat} {cs : Array Value} {n : String} (hg : P.globalNamed n = some g) (hv : w.var? P n = some cs) (h0 : 0 < cs.size) : Xh (GW w) ⟨g,0,none⟩ cs.toList:=by
 have hc:=World.var?_cell hg hv
 have k:=hc 0
 rw [Array.getElem?_eq_getElem h0] at k
 unfold World.cell? at k
 split at k
 ·rename_i c e fz hb
  refine ⟨rfl,c,e,fz,hb,fun j v hj=>?_⟩
  have k:=hc j
  unfold World.cell? at k
  rw [hb] at k
  simp at hj k ⊢
  rw [k]; exact hj
 ·simp at k
end
section
variable (P : Program) (fn : Func) (s : ChangeSpec) (c : OpenClaim)
def ZoN : Bool:=c.wf (OpenSpec.ofChange s) && laidOutB P && mapsRowed P && fn.params.all (P.readableRec ·) && namedTie P c.named s.vars && (c.stops == []) && (P.stops == []) && (c.knobs == []) && (P.stopKnobs == [])
def ZoO : Bool:=(c.maps == (fn.params.toList ++ s.plain.varTypes P).any (P.mapsRec ·)) && (c.ifaces == (fn.params.toList ++ s.plain.varTypes P).any (P.ifacesRec ·)) && (c.mapsOut == P.mapsAmong fn.resultTypes.toList) &&
   (c.loops == (fn.params.toList ++ s.plain.varTypes P).any (P.loopsFrom ·)) && (c.wideKeys == (fn.params.toList ++ s.plain.varTypes P ++ fn.resultTypes.toList).any (P.wideKeysFrom ·))
def ZoP : Bool:=s.vars.all (P.varReadable ·) && fn.resultTypes.all (fun t=>P.readableRec t && decide (t < P.types.size)) && (c.ifacesOut == fn.resultTypes.toList.any (P.ifacesRec ·)) && (c.loopsOut == fn.resultTypes.toList.any (P.loopsFrom ·)) && (c.plainKeys == P.plainKeys) && c.shortTexts.isNone && P.stopsHeard && P.mayEnter && (c.lifted == P.liftsFinal) && (P.make == some c.make)
def ZoQ : Bool:=(c.kinds == (if c.domain.isEmpty then [] else fn.params.toList.map fun t=>match P.underlying t with | some (.int k)=>some k | _=>none)) && (c.pinned == c.pinnedBy) &&
   (c.veiled == (fn.params.toList ++ s.plain.varTypes P ++ fn.resultTypes.toList).any (P.veiledRec ·)) && c.veiledFits P fn.params.toList (fn.params.toList ++ s.plain.varTypes P ++ fn.resultTypes.toList)
theorem Zvp {P : Program} {f : FuncId} {fn : Func} {s : ChangeSpec} {c : OpenClaim} (ha : ZhF P f c = true) (hb : ZhG P f c = true) (hc : ZhH P f c = true) (hd : ZhI P f c = true)
  (h1 : ZoN P fn s c = true) (h2 : ZoO P fn s c = true) (h3 : ZoP P fn s c = true) (h4 : ZoQ P fn s c = true) : joinedFacts P f fn s c = true:=Zq6 ha hb hc hd h1 h2 h3 h4
end
end Go.Civ
namespace Go.Civ
open Go.RowKit
set_option linter.unusedVariables false
def Xp (f : Query → Int) : List Query → Int → Int
 | [],n=>n
 | x :: r,n=>if n ≤ 60 then Xp f r (n + f x) else n
def Y4 : Nat → Query → Int → Int
 | 0,_,_=>61
 | n + 1,q,dep=>if 12 < dep then 61 else if Xd (n + 1) q = false then 61 else Xp (fun x=>Y4 n x (dep + 1)) q.l 1
theorem Zjn {f : Query → Int} {x : Query} : ∀ {l : List Query} {n : Int},Xp f (l ++ [x]) n = if Xp f l n ≤ 60 then Xp f l n + f x else Xp f l n
 | [],n=>rfl
 | y :: l,n=>by
  rw [List.cons_append,Xp,Xp]
  by_cases h : n ≤ 60
  ·rw [if_pos h,if_pos h,Zjn]
  ·rw [if_neg h,if_neg h,if_neg h]
theorem Zjo {f : Query → Int} {l : List Query} {k : Nat} {x : Query} {n m : Int} (hx : l[k]? = some x) (h : m = Xp f (l.take k) n) (hm : m ≤ 60) : m + f x = Xp f (l.take (k + 1)) n:=by
 rw [List.take_add_one,hx,Option.toList_some,Zjn,← h,if_pos hm]
theorem ZkV {f : Query → Int} : ∀ {r : List Query} {n : Int},60 < n → Xp f r n = n
 | [],_,_=>rfl
 | _ :: _,n,h=>by rw [Xp,if_neg (by omega)]
theorem ZgK {f : Query → Int} : ∀ {l r : List Query} {n : Int},Xp f (l ++ r) n = Xp f r (Xp f l n)
 | [],r,n=>rfl
 | y :: l,r,n=>by
  rw [List.cons_append,Xp,Xp]
  by_cases h : n ≤ 60
  ·rw [if_pos h,if_pos h,ZgK]
  ·rw [if_neg h,if_neg h,ZkV (by omega)]
theorem ZoX {f : Query → Int} {l : List Query} {k : Nat} {n m : Int} (h : m = Xp f (l.take k) n) (hm : 60 < m) : Xp f l n = m:=by
 conv=>lhs; rw [← List.take_append_drop k l,ZgK,← h,ZkV hm]
theorem Zm4 {f : Query → Int} {M : Int} (h0 : ∀ x,1 ≤ f x ∧ f x ≤ M) : ∀ {l : List Query} {n : Int},1 ≤ n → n ≤ 60 + M → 1 ≤ Xp f l n ∧ Xp f l n ≤ 60 + M
 | [],n,h1,h2=>⟨h1,h2⟩
 | x :: r,n,h1,h2=>by
  rw [Xp]
  have:=h0 x
  by_cases h : n ≤ 60
  ·rw [if_pos h]; exact Zm4 h0 (by omega) (by omega)
  ·rw [if_neg h]; exact ⟨h1,h2⟩
theorem Ze2 : ∀ (n : Nat) (q : Query) (dep : Int),(0 ≤ dep ∧ dep ≤ 13) → 1 ≤ Y4 n q dep ∧ Y4 n q dep ≤ 61 + 60 * (13 - dep)
 | 0,q,dep,h=>by rw [Y4]; omega
 | n + 1,q,dep,h=>by
  rw [Y4]
  by_cases h1 : 12 < dep
  ·rw [if_pos h1]; omega
  ·rw [if_neg h1]
   by_cases h2 : Xd (n + 1) q = false
   ·rw [if_pos h2]; omega
   ·rw [if_neg h2]
    have:=Zm4 (f:=fun x=>Y4 n x (dep + 1)) (M:=61 + 60 * (13 - (dep + 1))) (fun x=>Ze2 n x (dep + 1) (by omega)) (l:=q.l) (n:=1) (by omega) (by omega)
    omega
section
variable {n : Nat} {q x : Query} {dep m : Int} {k : Nat}
theorem ZxZ (h : 12 < dep) : 61 = Y4 (n + 1) q dep:=by rw [Y4,if_pos h]
theorem Zya (h1 : dep ≤ 12) (h2 : Xd (n + 1) q = false) : 61 = Y4 (n + 1) q dep:=by rw [Y4,if_neg (by omega),if_pos h2]
theorem Zsd (h1 : dep ≤ 12) (h2 : Xd (n + 1) q = true) (h : m = Xp (fun x=>Y4 n x (dep + 1)) (q.l.take k) 1) (hk : q.l.length ≤ k ∨ 60 < m) : m = Y4 (n + 1) q dep:=by
 rw [Y4,if_neg (by omega),if_neg (by rw [h2]; simp)]
 rcases hk with hk | hk
 ·rw [h,List.take_of_length_le hk]
 ·exact (ZoX h hk).symm
theorem Zyb (h1 : dep ≤ 12) (h2 : Xd (n + 1) q = true) (hx : q.l[k]? = some x) (h : m = Xp (fun x=>Y4 n x (dep + 1)) (q.l.take k) 1) (hm : m ≤ 60) (hb : 60 < m + Y4 n x (dep + 1)) : m + Y4 n x (dep + 1) = Y4 (n + 1) q dep:=
 Zsd (k:=k + 1) h1 h2 (Zjo (f:=fun x=>Y4 n x (dep + 1)) hx h hm) (.inr hb)
end
def X8 (n : Nat) (q : Query) : Bool:=decide (Y4 n q 1 ≤ 60)
end Go.Civ
namespace Go.Civ
open Go.RowKit
open Go.Lib (compact)
set_option linter.unusedVariables false
theorem St.pick {w0 w : World} {X : List Nat} {G0 G : GH} {L : Own} (h : St w0 X G0 G L w) (is : List Nat) (hnd : is.Nodup:=by decide) : St w0 X G0 G (is.map fun i=>(L[i]?).getD none) w:=by
 refine h.reindex _ (fun j=>is.getD j 0) (fun j p hp=>?_) (fun j k hj hk he=>?_)
 ·rw [List.getElem?_map] at hp
  cases hi : is[j]? with
  | none=>rw [hi] at hp; cases hp
  | some i=>
   rw [hi] at hp
   simp only [Option.map_some,Option.some.injEq] at hp
   rw [List.getD_eq_getElem?_getD,hi]
   simp only [Option.getD_some]
   cases hl : L[i]? with
   | none=>rw [hl] at hp; cases hp
   | some q=>rw [hl] at hp; simp only [Option.getD_some] at hp; rw [hp]
 ·rw [List.length_map] at hj hk
  rw [List.getD_eq_getElem?_getD,List.getD_eq_getElem?_getD,List.getElem?_eq_getElem hj,List.getElem?_eq_getElem hk] at he
  simp only [Option.getD_some] at he
  exact (List.getElem?_inj hj hnd).1 (by rw [List.getElem?_eq_getElem hj,List.getElem?_eq_getElem hk,he])
def ZvJ (l : List Span) (x : Int) (i : Nat) : Prop:=∀ j,j < i → ∀ s,l[j]? = some s → s.b ≤ x
def Zsh (l : List Span) (x : Int) (j : Nat) : Prop:=∀ m,j ≤ m → ∀ s,l[m]? = some s → x < s.b
theorem ZoY {l : List Span} (h : Can l) {i j : Nat} {s t : Span} (hi : l[i]? = some s) (hj : l[j]? = some t) (hij : i < j) : s.b < t.a ∧ t.a < t.b:=by
 have hp:=h.apart
 rw [List.pairwise_iff_getElem] at hp
 obtain ⟨hi1,rfl⟩:=List.getElem?_eq_some_iff.1 hi
 obtain ⟨hj1,rfl⟩:=List.getElem?_eq_some_iff.1 hj
 exact ⟨hp i j hi1 hj1 hij,h.pos _ (List.getElem_mem hj1)⟩
theorem ZvJ.zero {l : List Span} {x : Int} : ZvJ l x 0:=fun j hj=>by omega
theorem Zsh.all {l : List Span} {x : Int} : Zsh l x l.length:=fun m hm s hs=>by have:=(List.getElem?_eq_some_iff.1 hs).1; omega
theorem ZvJ.step {l : List Span} {x : Int} {h : Nat} {s : Span} (hc : Can l) (hs : l[h]? = some s) (hx : s.b ≤ x) : ZvJ l x (h + 1):=fun j hj t ht=>by
 rcases Nat.lt_or_ge j h with k | k
 ·have:=ZoY hc ht hs k; omega
 ·obtain rfl : j = h:=by omega
  rw [ht] at hs; obtain rfl:=Option.some.inj hs; exact hx
theorem Zsh.step {l : List Span} {x : Int} {h : Nat} {s : Span} (hc : Can l) (hs : l[h]? = some s) (hx : x < s.b) : Zsh l x h:=fun m hm t ht=>by
 rcases Nat.lt_or_ge h m with k | k
 ·have:=ZoY hc hs ht k; omega
 ·obtain rfl : h = m:=by omega
  rw [ht] at hs; obtain rfl:=Option.some.inj hs; exact hx
end Go.Civ
namespace Go.Civ
open Go.RowKit
set_option linter.unusedVariables false
def ZvK (t : Table) : Bool:=Qq t.s && decide (-62135596801 ≤ t.last) && decide (t.last < 253402300800) && decide (t.rows.length ≤ 500)
theorem ZoZ (t : Table) : Zey t = ((ZvK t && t.rows.all (ZjF t.s t.last)) && decide (t.rows = Znm t.rows)):=rfl
end Go.Civ
namespace Go.Civ
end Go.Civ
namespace Go.Civ
end Go.Civ
namespace Go.Civ
open Go.RowKit
set_option linter.unusedVariables false
structure FnO (P : Program) {α : Type} (A : GH → Value → α → Prop) (fid : Nat) (cap : Array Value) (G : GH) (on : α → Prop) (nx : α → Option (List Val)) : Prop where
 body : Zi P fid
 call : ∀ (G' : GH) (w' : World) (v : Value) (x : α),G.le G' → G'.In w' → on x → A G' v x →
  Calls P fid ([v] ++ cap.toList).toArray w' fun e w''=>∃ r G'',e = .returned r ∧ Res [] w' G' w'' G'' ∧ ∃ r0 r1,r = .tuple #[r0,r1] ∧ Sl ValE 32 G'' r0 ((nx x).getD []) ∧ r1 = .bool (nx x).isSome
theorem FnO.up {P : Program} {α : Type} {A : GH → Value → α → Prop} {fid : Nat} {cap : Array Value} {G G' : GH} {on : α → Prop} {nx : α → Option (List Val)} (h : FnO P A fid cap G on nx) (k : G.le G') : FnO P A fid cap G' on nx:=
 ⟨h.body,fun G2 w' v x hle=>h.call G2 w' v x (k.trans hle)⟩
section
variable {t : Table} {tx : Int} {d : Span} {nx : List Val → Option (List Val)} {hl : List Val → Bool}
theorem ZgL (h : Zey t = true) {r : HRow} (hr : r ∈ t.rows) : ZhJ r = true ∧ r.v.length ≤ 8 ∧ r.r.x.a ≤ t.last ∧ r.v.length = t.s.cols.length ∧ r.v.all Yo = true ∧ t.s.cols.length ≤ 8:=by
 rw [ZoZ] at h
 simp only [Bool.and_eq_true] at h
 have h1:=List.all_eq_true.1 h.1.2 r hr
 unfold ZjF at h1
 simp only [Bool.and_eq_true,decide_eq_true_eq] at h1
 obtain ⟨a,b,c,_⟩:=ZqF h1.1.1.1
 exact ⟨h1.1.1.2,a,h1.1.2,c,b,by omega⟩
end
end Go.Civ
namespace Go.Civ
end Go.Civ
namespace Go.Civ
end Go.Civ
