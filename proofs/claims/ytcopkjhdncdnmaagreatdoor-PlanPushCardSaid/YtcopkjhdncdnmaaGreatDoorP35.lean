/- Lemmas. -/
import Derived.Test.YtcopkjhdncdnmaaGreatDoorP18
import Derived.LaidMore
set_option linter.unusedSimpArgs false
namespace Go.Civ
open Go.RowKit Go.ChangeShapes Go.Deep
set_option linter.unusedVariables false
section
variable {H : Type} {enc : TypeId × Value → H} {P : Program} {w : World}
theorem Znb {t : TypeId} (h : ∀ N,ZcQ (fun d=>SizeOf.sizeOf d ≤ N) enc P w t (Xd N)) : Xs enc P w t CndE:=fun fuel cs d pl ht hl=>by
 obtain ⟨x,hx⟩:=h (SizeOf.sizeOf d) _ _ _ _ (Nat.le_refl _) ht hl
 exact ⟨x,_,hx⟩
theorem Zg2 {t : TypeId} {f0 f1 f2 f3 f4 f5 f6 f7 f8 : Field} (hu : P.underlying t = some (.struct #[f0,f1,f2,f3,f4,f5,f6,f7,f8]))
  (o : f0.offset = 0 ∧ f1.offset = 1 ∧ f2.offset = 2 ∧ f3.offset = 3 ∧ f4.offset = 4 ∧ f5.offset = 11 ∧ f6.offset = 12 ∧ f7.offset = 13 ∧ f8.offset = 15)
  (u0 : P.underlying f0.type = some (.int .i64)) (u1 : P.underlying f1.type = some .string) (h2 : Xs enc P w f2.type (Enc.str.slice 16)) (h3 : Xs enc P w f3.type (Enc.str.slice 16)) (h4 : Xs enc P w f4.type CndE)
  (u5 : P.underlying f5.type = some (.int .i64)) (u6 : P.underlying f6.type = some (.int .i64)) (h7 : Xs enc P w f7.type SpanE) (u8 : P.underlying f8.type = some (.slice t))
  (c : P.cellsOf f0.type = 1 ∧ P.cellsOf f1.type = 1 ∧ P.cellsOf f2.type = 1 ∧ P.cellsOf f3.type = 1 ∧ P.cellsOf f4.type = 7 ∧ P.cellsOf f5.type = 1 ∧ P.cellsOf f6.type = 1 ∧ P.cellsOf f7.type = 2 ∧ P.cellsOf f8.type = 1) (ct : P.cellsOf t = 16) (hb : P.bytesOf t = 224) :
  ∀ N,ZcQ (fun d=>SizeOf.sizeOf d ≤ N) enc P w t QryE
 | 0=>fun fuel cs d pl hd=>by cases d <;> simp at hd
 | N + 1=>fun fuel cs d pl hd h hl=>by
  have ih:=Zg2 hu o u0 u1 h2 h3 h4 u5 u6 h7 u8 c ct hb N
  obtain ⟨o0,o1,o2,o3,o4,o5,o6,o7,o8⟩:=o
  obtain ⟨c0,c1,c2,c3,c4,c5,c6,c7,c8⟩:=c
  obtain ⟨xs,n,_,hx,hlen,hn,hf⟩:=DataW.trod_struct hu h
  match xs,hn with
  | [y0,y1,y2,y3,y4,y5,y6,y7,y8],_=>
   simp only [Prod.mk.injEq] at hx
   obtain ⟨rfl,_⟩:=hx
   have e : DataW.weights P t (.agg [y0.1,y1.1,y2.1,y3.1,y4.1,y5.1,y6.1,y7.1,y8.1]) = y0.1.weights P f0.type ++ (y1.1.weights P f1.type ++ (y2.1.weights P f2.type ++ (y3.1.weights P f3.type ++ (y4.1.weights P f4.type ++ (y5.1.weights P f5.type ++ (y6.1.weights P f6.type ++ (y7.1.weights P f7.type ++ (y8.1.weights P f8.type ++ [])))))))):=by
    rw [DataW.weights,hu]; simp [DataW.weightsEach]
   have hl' : ∀ x,x ∈ DataW.weights P t (.agg [y0.1,y1.1,y2.1,y3.1,y4.1,y5.1,y6.1,y7.1,y8.1]) → x ≤ reachBytes:=hl
   have g0:=by simpa using hf 0 f0 rfl
   have g1:=by simpa using hf 1 f1 rfl
   have g2:=by simpa using hf 2 f2 rfl
   have g3:=by simpa using hf 3 f3 rfl
   have g4:=by simpa using hf 4 f4 rfl
   have g5:=by simpa using hf 5 f5 rfl
   have g6:=by simpa using hf 6 f6 rfl
   have g7:=by simpa using hf 7 f7 rfl
   have g8:=by simpa using hf 8 f8 rfl
   rw [o0,c0,List.drop_zero] at g0
   rw [o1,c1] at g1
   rw [o2,c2] at g2
   rw [o3,c3] at g3
   rw [o4,c4] at g4
   rw [o5,c5] at g5
   rw [o6,c6] at g6
   rw [o7,c7] at g7
   rw [o8,c8] at g8
   obtain ⟨x0,r0,b0⟩:=Q0 u0 _ _ _ _ g0 fun x hx=>hl' x (by rw [e]; simp [hx])
   obtain ⟨x1,r1,b1⟩:=Za3 u1 _ _ _ _ g1 fun x hx=>hl' x (by rw [e]; simp [hx])
   obtain ⟨x2,v2,r2,s2⟩:=h2 _ _ _ _ g2 fun x hx=>hl' x (by rw [e]; simp [hx])
   obtain ⟨x3,v3,r3,s3⟩:=h3 _ _ _ _ g3 fun x hx=>hl' x (by rw [e]; simp [hx])
   obtain ⟨x4,r4⟩:=h4 _ _ _ _ g4 fun x hx=>hl' x (by rw [e]; simp [hx])
   obtain ⟨x5,r5,b5⟩:=Q0 u5 _ _ _ _ g5 fun x hx=>hl' x (by rw [e]; simp [hx])
   obtain ⟨x6,r6,b6⟩:=Q0 u6 _ _ _ _ g6 fun x hx=>hl' x (by rw [e]; simp [hx])
   obtain ⟨x7,r7⟩:=h7 _ _ _ _ g7 fun x hx=>hl' x (by rw [e]; simp [hx])
   have hsz : SizeOf.sizeOf y8.1 ≤ N + 1:=by simp at hd; omega
   obtain ⟨x8,lv,r8,s8⟩:=Zf6 (E:=QryE) (ok:=fun d=>SizeOf.sizeOf d ≤ N + 1) (ok':=fun d=>SizeOf.sizeOf d ≤ N) (fun xs ys h d hd=>by have:=List.sizeOf_lt_of_mem hd; simp at h; omega) u8 ct (by decide : 0 < 16) hb (by decide) ih _ _ _ _ hsz g8 fun x hx=>hl' x (by rw [e]; simp [hx])
   obtain ⟨clv,q4,w1,w2,w3,w4,w5,w6,w7⟩:=ZO r4
   obtain ⟨q7,v7,v8⟩:=Ql r7
   have hlen' : cs.length = 16:=hlen.trans ct
   match cs,hlen' with
   | [a0,a1,a2,a3,a4,a5,a6,a7,a8,a9,a10,a11,a12,a13,a14,a15],_=>
    simp at r0 r1 r2 r3 q4 r5 r6 q7 r8
    obtain ⟨rfl,rfl,rfl,rfl,rfl,rfl,rfl⟩:=q4
    obtain ⟨rfl,rfl⟩:=q7
    subst r0 r1 r2 r3 r5 r6 r8
    exact ⟨⟨x0,x1,x2,x3,x4,x5,x6,x7,x8⟩,Zd _ b0 b1 s2 s3 w1 w2 w3 w4 w5 w6 w7 b5 b6 v7 v8 s8⟩
theorem Znc {t : TypeId} {v : Value} {d : DataW H} {p : List MemPlace} (hO : ∀ N,ZcQ (fun d=>SizeOf.sizeOf d ≤ N) enc P w t QryE) (hv : ∃ cs : Array Value,v = .agg cs) (h : DataW.Trod enc P w 0 (fun _=>true) true t v d p) (hl : ZdW P t d) : ∃ x cs,v = .agg cs.toArray ∧ QryE.rep (GW w) x cs:=by
 obtain ⟨fuel,hf⟩:=h
 obtain ⟨cs,rfl⟩:=hv
 obtain ⟨x,hx⟩:=hO (SizeOf.sizeOf d) _ _ _ _ (Nat.le_refl _) hf hl
 exact ⟨x,cs.toList,by simp,hx⟩
end
section
variable {P : Program} {w : World}
theorem Znd {t e : TypeId} {fuel : Nat} {cs : List Value} {L : List Str} {p : List MemPlace} {sp : Nat → Bool} (ht : P.underlying t = some (.slice e)) (he : P.underlying e = some .string) (hc : P.cellsOf e = 1) (hL : L.length * 16 ≤ reach ∧ L.length ≤ reach) (hs : ∀ x ∈ L,x.length ≤ reach)
  (h : DataW.trod (fun _=>()) P w 0 sp false fuel t cs = some (.slice (L.map fun x=> .lit (.string x)) [],p)) : ∃ v,cs = [v] ∧ Sl Enc.str 16 (GW w) v L:=by
 obtain ⟨a,cap,rfl,hcap,hel⟩:=open_row ht hc h
 rw [List.length_map] at hcap
 refine ⟨_,rfl,some a,cap,by rw [List.length_map],hcap,hL.1,hL.2,fun i x hx=>?_⟩
 obtain ⟨v,n,q,hv,htr⟩:=hel i (.lit (.string x)) (by rw [List.getElem?_map,hx]; rfl)
 obtain ⟨s,hsv,hd,_⟩:=DataW.trod_string he htr
 simp only [Prod.mk.injEq,DataW.lit.injEq,Lit.string.injEq,List.cons.injEq,and_true] at hd hsv
 obtain ⟨hd,_⟩:=hd
 have hsp : (a.add i).spot = none:=World.cell?_spot hv
 have hs0 : a.spot = none:=by
  have h0 : 0 < L.length:=Nat.lt_of_le_of_lt (Nat.zero_le i) (List.getElem?_eq_some_iff.1 hx).1
  obtain ⟨v0,_,_,hv0,_⟩:=hel 0 (.lit (.string L[0])) (by rw [List.getElem?_map,List.getElem?_eq_getElem h0]; rfl)
  have:=World.cell?_spot hv0
  simpa [Addr.add] using this
 have hspot : (a.add (i * 1)).spot = none:=by rw [Nat.mul_one]; exact hsp
 refine ⟨a,rfl,hs0,[v],?_,?_⟩
 ·show YC (GW w) (a.add (i * 1)) [v]
  unfold World.cell? at hv
  split at hv
  ·rename_i c e fz hb
   refine ⟨hspot,c,e,fz,?_,fun j v' hv'=>?_⟩
   ·rw [Nat.mul_one]; exact hb
   ·cases j with
    | zero=>simp at hv'; subst hv'; simp at hv; simpa using hv.2
    | succ j=>simp at hv'
  ·simp at hv
 ·exact ⟨by rw [hsv,hd]; simp [Zb],hs x (List.mem_of_getElem? hx)⟩
theorem Zhv {g : Nat} {cs : Array Value} {n : String} (hg : P.globalNamed n = some g) (hv : w.var? P n = some cs) (h0 : 0 < cs.size) : YC (GW w) ⟨g,0,none⟩ cs.toList:=by
 have hc:=World.var?_cell hg hv
 have k:=hc 0
 rw [Array.getElem?_eq_getElem h0] at k
 unfold World.cell? at k
 split at k
 ·rename_i c e fz hb
  refine ⟨rfl,c,e,fz,hb,fun j v hj=>?_⟩
  have k:=hc j
  unfold World.cell? at k
  rw [hb] at k
  simp at hj k ⊢
  rw [k]; exact hj
 ·simp at k
end
section
variable (P : Program) (fn : Func) (s : ChangeSpec) (c : OpenClaim)
def Zne : Bool:=c.wf (OpenSpec.ofChange s) && laidOutB P && mapsRowed P && fn.params.all (P.readableRec ·) && namedTie P c.named s.vars && (c.stops == []) && (P.stops == []) && (c.knobs == []) && (P.stopKnobs == [])
def Znf : Bool:=(c.maps == (fn.params.toList ++ s.plain.varTypes P).any (P.mapsRec ·)) && (c.ifaces == (fn.params.toList ++ s.plain.varTypes P).any (P.ifacesRec ·)) && (c.mapsOut == P.mapsAmong fn.resultTypes.toList) &&
   (c.loops == (fn.params.toList ++ s.plain.varTypes P).any (P.loopsFrom ·)) && (c.wideKeys == (fn.params.toList ++ s.plain.varTypes P ++ fn.resultTypes.toList).any (P.wideKeysFrom ·))
def Zng : Bool:=s.vars.all (P.varReadable ·) && fn.resultTypes.all (fun t=>P.readableRec t && decide (t < P.types.size)) && (c.ifacesOut == fn.resultTypes.toList.any (P.ifacesRec ·)) && (c.loopsOut == fn.resultTypes.toList.any (P.loopsFrom ·)) && (c.plainKeys == P.plainKeys) && c.shortTexts.isNone && P.stopsHeard && P.mayEnter && (c.lifted == P.liftsFinal) && (P.make == some c.make)
def Znh : Bool:=(c.kinds == (if c.domain.isEmpty then [] else fn.params.toList.map fun t=>match P.underlying t with | some (.int k)=>some k | _=>none)) && (c.pinned == c.pinnedBy) &&
   (c.veiled == (fn.params.toList ++ s.plain.varTypes P ++ fn.resultTypes.toList).any (P.veiledRec ·)) && c.veiledFits P fn.params.toList (fn.params.toList ++ s.plain.varTypes P ++ fn.resultTypes.toList)
theorem ZqQ {P : Program} {f : FuncId} {fn : Func} {s : ChangeSpec} {c : OpenClaim} (ha : Zhp P f c = true) (hb : Zhq P f c = true) (hc : Zhr P f c = true) (hd : Zhs P f c = true)
  (h1 : Zne P fn s c = true) (h2 : Znf P fn s c = true) (h3 : Zng P fn s c = true) (h4 : Znh P fn s c = true) : joinedFacts P f fn s c = true:=Zoq ha hb hc hd h1 h2 h3 h4
end
end Go.Civ
