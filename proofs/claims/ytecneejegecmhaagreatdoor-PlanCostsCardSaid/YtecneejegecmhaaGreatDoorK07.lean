/- Lemmas. -/
import Derived.Test.YtecneejegecmhaaGreatDoorK06
set_option linter.unusedVariables false
set_option linter.unusedSimpArgs false
set_option linter.unnecessarySimpa false
namespace Go.Civ
open Go.RowKit Go.ChangeShapes Go.Deep
set_option linter.unusedVariables false
structure Cond where
 kind : Int
 col : List UInt8
 oth : List UInt8
 v : Val
 l : List Cond
def ZrS (R : Enc Cond) (G : GH) (c : Cond) (cs : List Value) : Prop:=
 ∃ lv,cs = [.int .i64 c.kind,Za c.col,Za c.oth, .int .i64 c.v.k, .int .i64 c.v.n,Za c.v.s,lv] ∧ Zj c.kind ∧ c.col.length ≤ reach ∧ c.oth.length ≤ reach ∧ Zj c.v.k ∧ Zj c.v.n ∧ c.v.s.length ≤ reach ∧ Sl R 96 G lv c.l
abbrev CondP:={ R : GH → Cond → List Value → Prop // (∀ {G x cs},R G x cs → cs.length = 7) ∧ (∀ {G G' x cs},G.le G' → R G x cs → R G' x cs) ∧ (∀ {G x cs},R G x cs → ∀ c ∈ cs,c.oneCell' = true) }
def CondP.enc (R : CondP) : Enc Cond:=⟨7,R.1,R.2.1,R.2.2.1,R.2.2.2⟩
def CondP.up (R : CondP) : CondP:=
 ⟨ZrS R.enc,fun ⟨_,h,_⟩=>by rw [h]; rfl,fun hle ⟨lv,h1,h2,h3,h4,h5,h6,h7,h8⟩=>⟨lv,h1,h2,h3,h4,h5,h6,h7,h8.mono hle⟩,fun ⟨lv,h1,_,_,_,_,_,_,h8⟩ c hc=>by
  rw [h1] at hc
  simp at hc
  rcases hc with rfl | rfl | rfl | rfl | rfl | rfl | rfl
  ·rfl
  ·rfl
  ·rfl
  ·rfl
  ·rfl
  ·rfl
  ·exact Sl.oneC h8⟩
def Zh7 : Nat → CondP
 | 0=>⟨fun _ _ _=>False,fun h=>h.elim,fun _ h=>h.elim,fun h=>h.elim⟩
 | d + 1=>(Zh7 d).up
def Xy (d : Nat) : Enc Cond:=⟨7,(Zh7 d).1,(Zh7 d).2.1,(Zh7 d).2.2.1,(Zh7 d).2.2.2⟩
section
variable {G : GH} {c : Cond} {cs : List Value} {d : Nat}
theorem ZaD (h : (Xy 0).rep G c cs) : False:=h
theorem Zh8 : (Xy (d + 1)).rep G c cs ↔ ZrS (Xy d) G c cs:=Iff.rfl
theorem ZaE (h : (Xy (d + 1)).rep G c cs) : ∃ lv,cs = [.int .i64 c.kind,Za c.col,Za c.oth, .int .i64 c.v.k, .int .i64 c.v.n,Za c.v.s,lv] ∧ Zj c.kind ∧ c.col.length ≤ reach ∧ c.oth.length ≤ reach ∧ Zj c.v.k ∧ Zj c.v.n ∧ c.v.s.length ≤ reach ∧ Sl (Xy d) 96 G lv c.l:=h
theorem ZbZ (h : (Xy d).rep G c cs) : ∃ lv,cs = [.int .i64 c.kind,Za c.col,Za c.oth, .int .i64 c.v.k, .int .i64 c.v.n,Za c.v.s,lv] ∧ Zj c.kind ∧ c.col.length ≤ reach ∧ c.oth.length ≤ reach ∧ Zj c.v.k ∧ Zj c.v.n ∧ c.v.s.length ≤ reach ∧ lv.oneCell' = true:=by
 cases d with
 | zero=>exact (ZaD h).elim
 | succ d=>obtain ⟨lv,h1,h2,h3,h4,h5,h6,h7,h8⟩:=ZaE h; exact ⟨lv,h1,h2,h3,h4,h5,h6,h7,Sl.oneC h8⟩
theorem Zq1 (h : (Xy d).rep G c cs) : (Xy (d + 1)).rep G c cs:=by
 induction d generalizing c cs with
 | zero=>exact (ZaD h).elim
 | succ d ih=>
  obtain ⟨lv,h1,h2,h3,h4,h5,h6,h7,a,cap,h8,h9,h10,h11,h12⟩:=ZaE h
  refine ⟨lv,h1,h2,h3,h4,h5,h6,h7,a,cap,h8,h9,h10,h11,fun i x hx=>?_⟩
  obtain ⟨a0,e1,e2,cs0,hc0,hr0⟩:=h12 i x hx
  exact ⟨a0,e1,e2,cs0,hc0,ih hr0⟩
theorem Zq2 {d' : Nat} (h : (Xy d).rep G c cs) (hd : d ≤ d') : (Xy d').rep G c cs:=by
 induction d' with
 | zero=>
  obtain rfl : d = 0:=by omega
  exact h
 | succ n ih=>
  by_cases q : d = n + 1
  ·subst q; exact h
  ·exact Zq1 (ih (by omega))
end
section
variable {P : Program} {N : Nat} {Q : Exit → Env → World → Prop} {ρ : Env} {w : World} {ops : Array Oper} {rest : List Oper} {K : Env → World → Prop} {d : Nat} {ty : TypeId} {pos : String} {af : Array Edge} {g : Option (Nat × Bool)}
theorem WL.nilCheck {x : Operand} (a : Addr) (hw : Region.wanted ⟨some d, .nilCheck x,ty,pos,af,g⟩ (Zu ops ρ) = true) (hx : ev ρ x = .pointer (some a))
  (k : K (ZQ ρ d (.pointer (some a))) w) : OW P ops ⟨some d, .nilCheck x,ty,pos,af,g⟩ ρ w K:=by
 refine WL.val hw ?_ rfl k
 simp [execOp,hx]
end
section
variable {H : Type} {enc : TypeId × Value → H} {P : Program} {w : World}
def ZcD {α : Type} (ok : DataW H → Prop) (enc : TypeId × Value → H) (P : Program) (w : World) (t : TypeId) (E : Enc α) : Prop:=
 ∀ fuel cs d pl,ok d → DataW.trod enc P w 0 (fun _=>true) true fuel t cs = some (d,pl) → ZeK P t d → ∃ x,E.rep (GW w) x cs
theorem Zf6 {α : Type} {E : Enc α} {by_ : Nat} {t e : TypeId} {ok ok' : DataW H → Prop} (hok : ∀ xs ys,ok (.slice xs ys) → ∀ d ∈ xs,ok' d) (ht : P.underlying t = some (.slice e)) (hc : P.cellsOf e = E.n) (hn : 0 < E.n) (hby : P.bytesOf e = by_) (hb1 : 0 < by_) (hE : ZcD ok' enc P w e E) : ZcD ok enc P w t (E.slice by_):=fun fuel cs d pl hd h hl=>by
 rcases open_slice ht h with ⟨rfl,hx⟩ | ⟨a,len,cap,m,n,D,Pl,rfl,hb',hlc,hm,hmm,hx,hel⟩
 ·exact ⟨[], .slice none 0 0,rfl,Sl.nil E by_ (GW w)⟩
 ·simp only [if_true] at hmm
  subst hmm
  simp only [Prod.mk.injEq] at hx
  obtain ⟨rfl,_⟩:=hx
  have ew : DataW.weights P t (.slice ((List.range len).map D) ((List.range (m - len)).map fun j=>D (len + j))) = (len + (m - len)) * by_ :: (DataW.weightsAll P e ((List.range len).map D) ++ DataW.weightsAll P e ((List.range (m - len)).map fun j=>D (len + j))):=by
   rw [DataW.weights,ht]; simp [hby]
  have hw : (len + (m - len)) * by_ ≤ reachBytes:=hl _ (by rw [ew]; simp)
  have hlen : len * by_ ≤ reach:=by
   have h1 : len * by_ ≤ (len + (m - len)) * by_:=Nat.mul_le_mul_right _ (by omega)
   have h2 : reachBytes ≤ reach:=by simp [reachBytes,reach]
   omega
  have hlen1 : len ≤ reach:=Nat.le_trans (Nat.le_mul_of_pos_right _ hb1) hlen
  rcases Nat.eq_zero_or_pos len with h0 | hpos
  ·subst h0
   exact ⟨[], .slice (some a) 0 m,rfl,some a,m,rfl,Nat.zero_le _,by simp,by simp,fun i x hx=>by simp at hx⟩
  ·have hspot : a.spot = none:=by
    obtain ⟨cs',h1,_⟩:=hel 0 (by omega)
    rw [hc] at h1
    obtain ⟨_,hl',hcc⟩:=World.cells?_some h1
    have:=hcc 0 hn
    obtain ⟨v0,hv0⟩ : ∃ v,cs'[0]? = some v:=⟨_,List.getElem?_eq_getElem (by omega)⟩
    rw [hv0] at this
    have:=World.cell?_spot this
    simpa [Addr.add] using this
   obtain ⟨l,hll,hp⟩:=Zi0 (α:=α) (p:=fun i x=>ZeD E (GW w) (a.add (i * E.n)) x) len fun i hi=>by
    obtain ⟨cs',h1,h2⟩:=hel i (by omega)
    obtain ⟨x,hx⟩:=hE _ _ _ _ (hok _ _ hd (D i) (List.mem_map.2 ⟨i,List.mem_range.2 hi,rfl⟩)) h2 fun y hy=>hl y (by rw [ew]; exact List.mem_cons_of_mem _ (List.mem_append_left _ (Za4 (List.mem_map.2 ⟨i,List.mem_range.2 hi,rfl⟩) hy)))
    rw [hc] at h1
    exact ⟨x,cs',Zk3 (by rw [YC _ _ hspot]) h1 hn,hx⟩
   subst hll
   exact ⟨l,_,rfl,some a,m,rfl,hlc,hlen,hlen1,fun i x hx=>⟨a,rfl,hspot,hp i x hx⟩⟩
theorem Zh9 {t : TypeId} {f0 f1 f2 f3 f4 : Field} (hu : P.underlying t = some (.struct #[f0,f1,f2,f3,f4])) (o : f0.offset = 0 ∧ f1.offset = 1 ∧ f2.offset = 2 ∧ f3.offset = 3 ∧ f4.offset = 6)
  (u0 : P.underlying f0.type = some (.int .i64)) (u1 : P.underlying f1.type = some .string) (u2 : P.underlying f2.type = some .string) (h3 : Xl enc P w f3.type ValE) (u4 : P.underlying f4.type = some (.slice t))
  (c : P.cellsOf f0.type = 1 ∧ P.cellsOf f1.type = 1 ∧ P.cellsOf f2.type = 1 ∧ P.cellsOf f3.type = 3 ∧ P.cellsOf f4.type = 1) (ct : P.cellsOf t = 7) (hb : P.bytesOf t = 96) :
  ∀ N,ZcD (fun d=>SizeOf.sizeOf d ≤ N) enc P w t (Xy N)
 | 0=>fun fuel cs d pl hd=>by cases d <;> simp at hd
 | N + 1=>fun fuel cs d pl hd h hl=>by
  obtain ⟨o0,o1,o2,o3,o4⟩:=o
  obtain ⟨c0,c1,c2,c3,c4⟩:=c
  obtain ⟨xs,n,_,hx,hlen,hn,hf⟩:=DataW.trod_struct hu h
  match xs,hn with
  | [y0,y1,y2,y3,y4],_=>
   simp only [Prod.mk.injEq] at hx
   obtain ⟨rfl,_⟩:=hx
   have e : DataW.weights P t (.agg [y0.1,y1.1,y2.1,y3.1,y4.1]) = y0.1.weights P f0.type ++ (y1.1.weights P f1.type ++ (y2.1.weights P f2.type ++ (y3.1.weights P f3.type ++ (y4.1.weights P f4.type ++ [])))):=by
    rw [DataW.weights,hu]; simp [DataW.weightsEach]
   have hl' : ∀ x,x ∈ DataW.weights P t (.agg [y0.1,y1.1,y2.1,y3.1,y4.1]) → x ≤ reachBytes:=hl
   have g0:=by simpa using hf 0 f0 rfl
   have g1:=by simpa using hf 1 f1 rfl
   have g2:=by simpa using hf 2 f2 rfl
   have g3:=by simpa using hf 3 f3 rfl
   have g4:=by simpa using hf 4 f4 rfl
   rw [o0,c0,List.drop_zero] at g0
   rw [o1,c1] at g1
   rw [o2,c2] at g2
   rw [o3,c3] at g3
   rw [o4,c4] at g4
   obtain ⟨x0,r0,b0⟩:=Q7 u0 _ _ _ _ g0 fun x hx=>hl' x (by rw [e]; simp [hx])
   obtain ⟨x1,r1,b1⟩:=ZbP u1 _ _ _ _ g1 fun x hx=>hl' x (by rw [e]; simp [hx])
   obtain ⟨x2,r2,b2⟩:=ZbP u2 _ _ _ _ g2 fun x hx=>hl' x (by rw [e]; simp [hx])
   obtain ⟨x3,r3⟩:=h3 _ _ _ _ g3 fun x hx=>hl' x (by rw [e]; simp [hx])
   have hsz : SizeOf.sizeOf y4.1 ≤ N + 1:=by simp at hd; omega
   obtain ⟨x4,lv,r4,hs4⟩:=Zf6 (E:=Xy N) (ok:=fun d=>SizeOf.sizeOf d ≤ N + 1) (ok':=fun d=>SizeOf.sizeOf d ≤ N) (fun xs ys h d hd=>by have:=List.sizeOf_lt_of_mem hd; simp at h; omega) u4 ct (by decide : 0 < 7) hb (by decide) (Zh9 hu ⟨o0,o1,o2,o3,o4⟩ u0 u1 u2 h3 u4 ⟨c0,c1,c2,c3,c4⟩ ct hb N) _ _ _ _ hsz g4 fun x hx=>hl' x (by rw [e]; simp [hx])
   obtain ⟨q3,v1,v2,v3⟩:=ZbO r3
   have h7 : cs.length = 7:=hlen.trans ct
   match cs,h7 with
   | [a0,a1,a2,a3,a4,a5,a6],_=>
    simp at r0 r1 r2 q3 r4
    obtain ⟨rfl,rfl,rfl⟩:=q3
    subst r0 r1 r2 r4
    exact ⟨⟨x0,x1,x2,x3,x4⟩,_,rfl,b0,b1,b2,v1,v2,v3,hs4⟩
end
end Go.Civ
namespace Go.Civ
open Go.RowKit
set_option linter.unusedVariables false
abbrev zeroV : Val:=⟨0,0,[]⟩
def ZG (k : Int) : Nat:=if k = 4 then 1 else if k = 5 then 2 else if k = 6 then 2 else 0
def ZE (c : Cond) : Bool:=decide (c.kind = 1) || decide (c.kind = 2)
def Yc (c : Cond) : Bool:=decide (c.kind = 3) || decide (c.kind = 4) || decide (c.kind = 5) || decide (c.kind = 6)
def Zw (c : Cond) : Bool:=
 bif ZE c then !decide (c.col = []) && decide (c.l.length = 0) && (bif decide (c.oth = []) then Yo c.v else decide (c.v = zeroV))
 else bif Yc c then decide (c.col = []) && decide (c.oth = []) && decide (c.v = zeroV) && decide (c.l.length = ZG c.kind)
 else false
def Xi (l : List Col) (nm : List UInt8) : Int:=Qi (fun x=>decide (x.name = nm)) l
theorem ZeM {l : List Col} {nm : List UInt8} : Xi l nm < (l.length : Int):=by
 unfold Xi Qi
 cases h : l.findIdx? fun x=>decide (x.name = nm) with
 | none=>show (-1 : Int) < _; omega
 | some i=>have:=(List.findIdx?_eq_some_iff_getElem.1 h).1; show (i : Int) < _; omega
def ZhA (l : List Col) (i : Int) : Int:=match l[i.toNat]? with | some x=>x.kind | none=>0
def ZaF (c : Cond) (l : List Col) : Int:=
 bif !ZE c then 0 else if Xi l c.col < 0 then 7 else bif !decide (c.oth = []) && decide (Xi l c.oth < 0) then 7
 else if (bif decide (c.oth = []) then c.v.k else ZhA l (Xi l c.oth)) ≠ ZhA l (Xi l c.col) then 13 else 0
def Zam (f : Cond → Int) : List Cond → Int
 | []=>0
 | x :: r=>if f x ≠ 0 then f x else Zam f r
def XL : Nat → Cond → List Col → Int
 | 0,_,_=>0
 | d + 1,c,l=>if ZaF c l ≠ 0 then ZaF c l else Zam (fun x=>XL d x l) c.l
theorem ZgF {f : Cond → Int} : ∀ {l : List Cond} {k : Nat} {x : Cond},(∀ j,j < k → ∀ y,l[j]? = some y → f y = 0) → l[k]? = some x → f x ≠ 0 → Zam f l = f x
 | [],k,x,_,h,_=>by simp at h
 | y :: l,0,x,_,h,hx=>by
  simp at h; subst h
  rw [Zam,if_pos hx]
 | y :: l,k + 1,x,hp,h,hx=>by
  rw [Zam,if_neg (by rw [hp 0 (by omega) y (by simp)]; simp)]
  exact ZgF (k:=k) (fun j hj z hz=>hp (j + 1) (by omega) z (by simpa using hz)) (by simpa using h) hx
theorem ZhB {f : Cond → Int} : ∀ {l : List Cond} {k : Nat},(∀ j,j < k → ∀ y,l[j]? = some y → f y = 0) → l.length ≤ k → Zam f l = 0
 | [],_,_,_=>rfl
 | y :: l,k,hp,hk=>by
  simp at hk
  rw [Zam,if_neg (by rw [hp 0 (by omega) y (by simp)]; simp)]
  exact ZhB (k:=k - 1) (fun j hj z hz=>hp (j + 1) (by omega) z (by simpa using hz)) (by omega)
section
variable {d : Nat} {c : Cond} {l : List Col} {k : Nat}
theorem Zvg (h1 : c.kind ≠ 1) (h2 : c.kind ≠ 2) : ZaF c l = 0:=by unfold ZaF ZE; rw [decide_eq_false h1,decide_eq_false h2]; rfl
theorem ZdA (h : c.kind = 1 ∨ c.kind = 2) : ZE c = true:=by unfold ZE; rcases h with h | h <;> rw [h] <;> rfl
theorem ZrT (h : c.kind = 1 ∨ c.kind = 2) (hf : Xi l c.col < 0) : ZaF c l = 7:=by unfold ZaF; rw [ZdA h,if_pos hf]; rfl
theorem Zo3 (h : c.kind = 1 ∨ c.kind = 2) (hf : 0 ≤ Xi l c.col) (ho : c.oth ≠ []) (hg : Xi l c.oth < 0) : ZaF c l = 7:=by unfold ZaF; rw [ZdA h,if_neg (by omega),decide_eq_false ho,decide_eq_true hg]; rfl
theorem ZjC (h : c.kind = 1 ∨ c.kind = 2) (hf : 0 ≤ Xi l c.col) (ho : c.oth = []) {x : Col} (hx : l[(Xi l c.col).toNat]? = some x) : ZaF c l = if c.v.k ≠ x.kind then 13 else 0:=by
 unfold ZaF ZhA; rw [ZdA h,if_neg (by omega),decide_eq_true ho,hx]; rfl
theorem ZjD (h : c.kind = 1 ∨ c.kind = 2) (hf : 0 ≤ Xi l c.col) (ho : c.oth ≠ []) (hg : 0 ≤ Xi l c.oth) {x y : Col} (hx : l[(Xi l c.col).toNat]? = some x) (hy : l[(Xi l c.oth).toNat]? = some y) : ZaF c l = if y.kind ≠ x.kind then 13 else 0:=by
 unfold ZaF ZhA; rw [ZdA h,if_neg (by omega),decide_eq_false ho,decide_eq_false (by omega : ¬ Xi l c.oth < 0),hx,hy]; rfl
theorem ZbQ {e : Int} (h : ZaF c l = e) (he : e ≠ 0) : XL (d + 1) c l = e:=by rw [XL,h,if_pos he]
theorem Zt8 {x : Cond} (h : ZaF c l = 0) (hp : ∀ j,j < k → ∀ y,c.l[j]? = some y → XL d y l = 0) (hx : c.l[k]? = some x) (hn : XL d x l ≠ 0) : XL (d + 1) c l = XL d x l:=by
 rw [XL,h,if_neg (by simp)]; exact ZgF (f:=fun x=>XL d x l) hp hx hn
theorem Zt9 (h : ZaF c l = 0) (hp : ∀ j,j < k → ∀ y,c.l[j]? = some y → XL d y l = 0) (hk : c.l.length ≤ k) : XL (d + 1) c l = 0:=by
 rw [XL,h,if_neg (by simp)]; exact ZhB (f:=fun x=>XL d x l) hp hk
end
end Go.Civ
namespace Go.Civ
open Go.RowKit
set_option linter.unusedVariables false
def YP (f : Cond → Int) : List Cond → Int → Int
 | [],n=>n
 | x :: r,n=>if n ≤ 60 then YP f r (n + f x) else n
def Yi : Nat → Cond → Int → Int
 | 0,_,_=>61
 | d + 1,c,dep=>if 12 < dep then 61 else if Zw c = false then 61 else YP (fun x=>Yi d x (dep + 1)) c.l 1
theorem ZgG {f : Cond → Int} {x : Cond} : ∀ {l : List Cond} {n : Int},YP f (l ++ [x]) n = if YP f l n ≤ 60 then YP f l n + f x else YP f l n
 | [],n=>rfl
 | y :: l,n=>by
  rw [List.cons_append,YP,YP]
  by_cases h : n ≤ 60
  ·rw [if_pos h,if_pos h,ZgG]
  ·rw [if_neg h,if_neg h,if_neg h]
theorem ZlV {f : Cond → Int} {l : List Cond} {k : Nat} {x : Cond} {n m : Int} (hx : l[k]? = some x) (h : m = YP f (l.take k) n) (hm : m ≤ 60) : m + f x = YP f (l.take (k + 1)) n:=by
 rw [List.take_add_one,hx,Option.toList_some,ZgG,← h,if_pos hm]
theorem ZhC {f : Cond → Int} : ∀ {r : List Cond} {n : Int},60 < n → YP f r n = n
 | [],_,_=>rfl
 | _ :: _,n,h=>by rw [YP,if_neg (by omega)]
theorem Zfy {f : Cond → Int} : ∀ {l r : List Cond} {n : Int},YP f (l ++ r) n = YP f r (YP f l n)
 | [],r,n=>rfl
 | y :: l,r,n=>by
  rw [List.cons_append,YP,YP]
  by_cases h : n ≤ 60
  ·rw [if_pos h,if_pos h,Zfy]
  ·rw [if_neg h,if_neg h,ZhC (by omega)]
theorem ZlW {f : Cond → Int} {l : List Cond} {k : Nat} {n m : Int} (h : m = YP f (l.take k) n) (hm : 60 < m) : YP f l n = m:=by
 conv=>lhs; rw [← List.take_append_drop k l,Zfy,← h,ZhC hm]
theorem Zjd {f : Cond → Int} {M : Int} (h0 : ∀ x,1 ≤ f x ∧ f x ≤ M) : ∀ {l : List Cond} {n : Int},1 ≤ n → n ≤ 60 + M → 1 ≤ YP f l n ∧ YP f l n ≤ 60 + M
 | [],n,h1,h2=>⟨h1,h2⟩
 | x :: r,n,h1,h2=>by
  rw [YP]
  have:=h0 x
  by_cases h : n ≤ 60
  ·rw [if_pos h]; exact Zjd h0 (by omega) (by omega)
  ·rw [if_neg h]; exact ⟨h1,h2⟩
theorem Zcv : ∀ (d : Nat) (c : Cond) (dep : Int),(0 ≤ dep ∧ dep ≤ 13) → 1 ≤ Yi d c dep ∧ Yi d c dep ≤ 61 + 60 * (13 - dep)
 | 0,c,dep,h=>by rw [Yi]; omega
 | d + 1,c,dep,h=>by
  rw [Yi]
  by_cases h1 : 12 < dep
  ·rw [if_pos h1]; omega
  ·rw [if_neg h1]
   by_cases h2 : Zw c = false
   ·rw [if_pos h2]; omega
   ·rw [if_neg h2]
    have:=Zjd (f:=fun x=>Yi d x (dep + 1)) (M:=61 + 60 * (13 - (dep + 1))) (fun x=>Zcv d x (dep + 1) (by omega)) (l:=c.l) (n:=1) (by omega) (by omega)
    omega
section
variable {d : Nat} {c : Cond} {dep : Int} {k : Nat}
theorem ZtA (h : 12 < dep) : Yi (d + 1) c dep = 61:=by rw [Yi,if_pos h]
theorem ZtB (h1 : dep ≤ 12) (h2 : Zw c = false) : Yi (d + 1) c dep = 61:=by rw [Yi,if_neg (by omega),if_pos h2]
theorem Zmk {m : Int} (h1 : dep ≤ 12) (h2 : Zw c = true) (h : m = YP (fun x=>Yi d x (dep + 1)) (c.l.take k) 1) (hk : c.l.length ≤ k ∨ 60 < m) : Yi (d + 1) c dep = m:=by
 rw [Yi,if_neg (by omega),if_neg (by rw [h2]; simp)]
 rcases hk with hk | hk
 ·rw [h,List.take_of_length_le hk]
 ·exact ZlW h hk
end
def Xe (f : Cond → Int → Bool × Int) : List Cond → Int → Bool × Int
 | [],n=>(true,n)
 | x :: r,n=>bif (f x n).1 then Xe f r (f x n).2 else (false,(f x n).2)
def Yn : Nat → Cond → Int → Int → Bool × Int
 | 0,_,_,n=>(false,n)
 | d + 1,c,dep,n=>if 60 < n + 1 ∨ 12 < dep then (false,n + 1) else bif Zw c then Xe (fun x m=>Yn d x (dep + 1) m) c.l (n + 1) else (false,n + 1)
theorem Zcw {f : Cond → Int → Bool × Int} : ∀ {l r : List Cond} {n : Int},Xe f (l ++ r) n = bif (Xe f l n).1 then Xe f r (Xe f l n).2 else (false,(Xe f l n).2)
 | [],r,n=>rfl
 | y :: l,r,n=>by
  rw [List.cons_append,Xe,Xe]
  cases (f y n).1
  ·rfl
  ·simp only [cond_true]; exact Zcw
theorem Zk7 {f : Cond → Int → Bool × Int} {l : List Cond} {k : Nat} {x : Cond} {n m : Int} (hx : l[k]? = some x) (h : Xe f (l.take k) n = (true,m)) (hf : (f x m).1 = true) : Xe f (l.take (k + 1)) n = (true,(f x m).2):=by
 rw [List.take_add_one,hx,Option.toList_some,Zcw,h]; simp [Xe,hf]
theorem Zk8 {f : Cond → Int → Bool × Int} {l : List Cond} {k : Nat} {x : Cond} {n m : Int} (hx : l[k]? = some x) (h : Xe f (l.take k) n = (true,m)) (hf : (f x m).1 = false) : Xe f l n = (false,(f x m).2):=by
 have hk:=(List.getElem?_eq_some_iff.1 hx).1
 have e : l = l.take k ++ x :: l.drop (k + 1):=by
  have:=List.take_append_drop k l
  rw [List.drop_eq_getElem_cons hk,(List.getElem?_eq_some_iff.1 hx).2] at this
  exact this.symm
 conv=>lhs; rw [e,Zcw,h]
 simp [Xe,hf]
theorem ZhD : ∀ {d : Nat} {c : Cond} {dep n : Int},(Yn d c dep n).1 = true → n + 1 ≤ (Yn d c dep n).2 ∧ (Yn d c dep n).2 ≤ 60
 | 0,c,dep,n,h=>by cases h
 | d + 1,c,dep,n,h=>by
  rw [Yn] at h ⊢
  by_cases h1 : 60 < n + 1 ∨ 12 < dep
  ·rw [if_pos h1] at h; cases h
  ·rw [if_neg h1] at h ⊢
   cases h2 : Zw c with
   | false=>rw [h2] at h; cases h
   | true=>
    rw [h2] at h
    simp only [cond_true] at h ⊢
    have key : ∀ (l : List Cond) (m : Int),m ≤ 60 → (Xe (fun x m=>Yn d x (dep + 1) m) l m).1 = true → m ≤ (Xe (fun x m=>Yn d x (dep + 1) m) l m).2 ∧ (Xe (fun x m=>Yn d x (dep + 1) m) l m).2 ≤ 60:=by
     intro l
     induction l with
     | nil=>intro m hm _; exact ⟨Int.le_refl _,hm⟩
     | cons x r ih=>
      intro m hm hh
      rw [Xe] at hh ⊢
      cases h3 : (Yn d x (dep + 1) m).1 with
      | false=>rw [h3] at hh; cases hh
      | true=>
       rw [h3] at hh
       simp only [cond_true] at hh ⊢
       have a:=ZhD h3
       have b:=ih _ a.2 hh
       omega
    exact key _ _ (by omega) h
theorem ZdB {f : Cond → Int} (h0 : ∀ x,0 ≤ f x) : ∀ {l : List Cond} {n : Int},n ≤ YP f l n
 | [],n=>Int.le_refl _
 | x :: r,n=>by
  rw [YP]; have:=h0 x
  by_cases h : n ≤ 60
  ·rw [if_pos h]; have:=ZdB h0 (l:=r) (n:=n + f x); omega
  ·rw [if_neg h]; exact Int.le_refl _
theorem Zf7 : ∀ {d : Nat} {c : Cond} {dep n : Int},0 ≤ n → 0 ≤ dep → dep ≤ 13 → (Yn d c dep n).1 = decide (n + Yi d c dep ≤ 60) ∧ ((Yn d c dep n).1 = true → (Yn d c dep n).2 = n + Yi d c dep)
 | 0,c,dep,n,h0,h1,h2=>by rw [Yn,Yi,decide_eq_false (by omega)]; exact ⟨rfl,fun h=>by cases h⟩
 | d + 1,c,dep,n,h0,h1,h2=>by
  rw [Yn,Yi]
  by_cases g1 : 12 < dep
  ·rw [if_pos (.inr g1),if_pos g1,decide_eq_false (by omega)]; exact ⟨rfl,fun h=>by cases h⟩
  ·rw [if_neg g1]
   cases g2 : Zw c with
   | false=>
    rw [if_pos rfl,decide_eq_false (by omega)]
    by_cases g3 : 60 < n + 1 ∨ 12 < dep
    ·rw [if_pos g3]; exact ⟨rfl,fun h=>by cases h⟩
    ·rw [if_neg g3]; exact ⟨rfl,fun h=>by cases h⟩
   | true=>
    rw [if_neg (show ¬ (true = false) by simp)]
    have pos : ∀ x,1 ≤ Yi d x (dep + 1):=fun x=>(Zcv d x (dep + 1) (by omega)).1
    have ge:=ZdB (f:=fun x=>Yi d x (dep + 1)) (fun x=>by have:=pos x; omega) (l:=c.l) (n:=1)
    by_cases g3 : 60 < n + 1 ∨ 12 < dep
    ·rw [if_pos g3,decide_eq_false (by omega)]; exact ⟨rfl,fun h=>by cases h⟩
    ·rw [if_neg g3]
     simp only [cond_true]
     have key : ∀ (l : List Cond) (m : Int),1 ≤ m → n + m ≤ 60 → (Xe (fun x m=>Yn d x (dep + 1) m) l (n + m)).1 = decide (n + YP (fun x=>Yi d x (dep + 1)) l m ≤ 60) ∧ ((Xe (fun x m=>Yn d x (dep + 1) m) l (n + m)).1 = true → (Xe (fun x m=>Yn d x (dep + 1) m) l (n + m)).2 = n + YP (fun x=>Yi d x (dep + 1)) l m):=by
      intro l
      induction l with
      | nil=>intro m hm hn; rw [Xe,YP,decide_eq_true hn]; exact ⟨rfl,fun _=>rfl⟩
      | cons x r ih=>
       intro m hm hn
       rw [Xe,YP,if_pos (by omega)]
       have a:=Zf7 (d:=d) (c:=x) (dep:=dep + 1) (n:=n + m) (by omega) (by omega) (by omega)
       have hx:=pos x
       have ge2:=ZdB (f:=fun x=>Yi d x (dep + 1)) (fun x=>by have:=pos x; omega) (l:=r) (n:=m + Yi d x (dep + 1))
       by_cases g4 : n + m + Yi d x (dep + 1) ≤ 60
       ·have a1 : (Yn d x (dep + 1) (n + m)).1 = true:=by rw [a.1]; exact decide_eq_true g4
        rw [a1,a.2 a1]
        simp only [cond_true]
        have:=ih (m + Yi d x (dep + 1)) (by omega) (by omega)
        rw [show n + m + Yi d x (dep + 1) = n + (m + Yi d x (dep + 1)) by omega]
        exact this
       ·have a1 : (Yn d x (dep + 1) (n + m)).1 = false:=by rw [a.1]; exact decide_eq_false g4
        rw [a1]
        simp only [cond_false]
        rw [decide_eq_false (by omega)]; exact ⟨rfl,fun h=>by cases h⟩
     exact key c.l 1 (by omega) (by omega)
section
variable {d : Nat} {c : Cond} {dep n : Int} {k : Nat}
theorem ZhE (h : 60 < n + 1 ∨ 12 < dep) : Yn (d + 1) c dep n = (false,n + 1):=by rw [Yn,if_pos h]
theorem YD (h1 : n + 1 ≤ 60) (h2 : dep ≤ 12) (h3 : Zw c = false) : Yn (d + 1) c dep n = (false,n + 1):=by rw [Yn,if_neg (by omega),h3]; rfl
theorem Zo4 {x : Cond} {m : Int} (h1 : n + 1 ≤ 60) (h2 : dep ≤ 12) (h3 : Zw c = true) (hx : c.l[k]? = some x) (h : Xe (fun x m=>Yn d x (dep + 1) m) (c.l.take k) (n + 1) = (true,m)) (hf : (Yn d x (dep + 1) m).1 = false) : Yn (d + 1) c dep n = (false,(Yn d x (dep + 1) m).2):=by
 rw [Yn,if_neg (by omega),h3]; exact Zk8 hx h hf
theorem Zo5 {m : Int} (h1 : n + 1 ≤ 60) (h2 : dep ≤ 12) (h3 : Zw c = true) (hk : c.l.length ≤ k) (h : Xe (fun x m=>Yn d x (dep + 1) m) (c.l.take k) (n + 1) = (true,m)) : Yn (d + 1) c dep n = (true,m):=by
 rw [Yn,if_neg (by omega),h3]; rw [List.take_of_length_le hk] at h; exact h
end
def Q3 (d : Nat) (c : Cond) (l : List Col) : Int:=if Yi d c 1 ≤ 60 then XL d c l else 1
theorem Zk9 {d : Nat} {c : Cond} : (Yn d c 1 0).1 = decide (Yi d c 1 ≤ 60):=by
 have:=(Zf7 (d:=d) (c:=c) (dep:=1) (n:=0) (by omega) (by omega) (by omega)).1
 rw [this]; congr 1; rw [Int.zero_add]
def QU : Nat → Cond → Prop
 | 0,_=>False
 | d + 1,c=>Zw c = true ∧ ∀ x ∈ c.l,QU d x
theorem Zi1 : ∀ {d : Nat} {c : Cond} {dep : Int},0 ≤ dep → dep ≤ 13 → Yi d c dep ≤ 60 → QU d c
 | 0,c,dep,_,_,h=>by rw [Yi] at h; omega
 | d + 1,c,dep,h0,h1,h=>by
  rw [Yi] at h
  by_cases g1 : 12 < dep
  ·rw [if_pos g1] at h; omega
  ·rw [if_neg g1] at h
   cases g2 : Zw c with
   | false=>rw [if_pos g2] at h; omega
   | true=>
    rw [if_neg (by rw [g2]; simp)] at h
    refine ⟨g2,?_⟩
    have pos : ∀ x,1 ≤ Yi d x (dep + 1):=fun x=>(Zcv d x (dep + 1) (by omega)).1
    have key : ∀ (l : List Cond) (m : Int),1 ≤ m → YP (fun x=>Yi d x (dep + 1)) l m ≤ 60 → ∀ x ∈ l,Yi d x (dep + 1) ≤ 60:=by
     intro l
     induction l with
     | nil=>intro m _ _ x hx; simp at hx
     | cons y r ih=>
      intro m hm hh x hx
      rw [YP] at hh
      have hy:=pos y
      by_cases g3 : m ≤ 60
      ·rw [if_pos g3] at hh
       have ge:=ZdB (f:=fun x=>Yi d x (dep + 1)) (fun x=>by have:=pos x; omega) (l:=r) (n:=m + Yi d y (dep + 1))
       rcases List.mem_cons.1 hx with rfl | hx
       ·omega
       ·exact ih _ (by omega) hh x hx
      ·rw [if_neg g3] at hh; omega
    exact fun x hx=>Zi1 (dep:=dep + 1) (by omega) (by omega) (key c.l 1 (by omega) h x hx)
theorem Zf8 {c : Cond} (h : Zw c = true) (hk : c.kind = 3 ∨ c.kind = 4 ∨ c.kind = 5 ∨ c.kind = 6) : c.l.length = ZG c.kind:=by
 unfold Zw at h
 have h1 : ZE c = false:=by unfold ZE; rw [decide_eq_false (by omega),decide_eq_false (by omega)]; rfl
 rw [h1] at h
 simp only [cond_false] at h
 cases h2 : Yc c with
 | false=>rw [h2] at h; cases h
 | true=>rw [h2] at h; simp only [cond_true,Bool.and_eq_true,decide_eq_true_eq] at h; exact h.2
section
variable {d : Nat} {c x y : Cond} {l : List Col} {v : List Val}
theorem Zo6 (h : QU (d + 1) c) (hk : c.kind = 4) : c.l.length = 1:=by rw [Zf8 h.1 (by omega),hk]; rfl
theorem Zo7 (h : QU (d + 1) c) (hk : c.kind = 5) : c.l.length = 2:=by rw [Zf8 h.1 (by omega),hk]; rfl
theorem Zo8 (h : QU (d + 1) c) (hk : c.kind = 6) : c.l.length = 2:=by rw [Zf8 h.1 (by omega),hk]; rfl
end
end Go.Civ
