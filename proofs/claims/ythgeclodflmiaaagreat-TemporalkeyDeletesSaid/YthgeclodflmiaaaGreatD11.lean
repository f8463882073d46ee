/- Lemmas. -/
import Derived.Test.YthgeclodflmiaaaGreatD07
namespace Go.Civ
open Go.RowKit Go.ChangeShapes Go.Deep
set_option linter.unusedVariables false
structure Cond where
 kind : Int
 col : List UInt8
 oth : List UInt8
 v : Val
 l : List Cond
def Zyw (R : Enc Cond) (G : GH) (c : Cond) (cs : List Value) : Prop:=
 ∃ lv,cs = [.int .i64 c.kind,Za c.col,Za c.oth, .int .i64 c.v.k, .int .i64 c.v.n,Za c.v.s,lv] ∧ Z0 c.kind ∧ c.col.length ≤ reach ∧ c.oth.length ≤ reach ∧ Z0 c.v.k ∧ Z0 c.v.n ∧ c.v.s.length ≤ reach ∧ Sl R 96 G lv c.l
abbrev CondP:={ R : GH → Cond → List Value → Prop // (∀ {G x cs},R G x cs → cs.length = 7) ∧ (∀ {G G' x cs},G.le G' → R G x cs → R G' x cs) ∧ (∀ {G x cs},R G x cs → ∀ c ∈ cs,c.oneCell' = true) }
def CondP.enc (R : CondP) : Enc Cond:=⟨7,R.1,R.2.1,R.2.2.1,R.2.2.2⟩
def CondP.up (R : CondP) : CondP:=
 ⟨Zyw R.enc,fun ⟨_,h,_⟩=>by rw [h]; rfl,fun hle ⟨lv,h1,h2,h3,h4,h5,h6,h7,h8⟩=>⟨lv,h1,h2,h3,h4,h5,h6,h7,h8.mono hle⟩,fun ⟨lv,h1,_,_,_,_,_,_,h8⟩ c hc=>by
  rw [h1] at hc
  simp at hc
  rcases hc with rfl | rfl | rfl | rfl | rfl | rfl | rfl
  ·rfl
  ·rfl
  ·rfl
  ·rfl
  ·rfl
  ·rfl
  ·exact Sl.oneC h8⟩
def Zin : Nat → CondP
 | 0=>⟨fun _ _ _=>False,fun h=>h.elim,fun _ h=>h.elim,fun h=>h.elim⟩
 | d + 1=>(Zin d).up
def YQ (d : Nat) : Enc Cond:=⟨7,(Zin d).1,(Zin d).2.1,(Zin d).2.2.1,(Zin d).2.2.2⟩
section
variable {G : GH} {c : Cond} {cs : List Value} {d : Nat}
theorem Zcp (h : (YQ 0).rep G c cs) : False:=h
theorem Zcq (h : (YQ (d + 1)).rep G c cs) : ∃ lv,cs = [.int .i64 c.kind,Za c.col,Za c.oth, .int .i64 c.v.k, .int .i64 c.v.n,Za c.v.s,lv] ∧ Z0 c.kind ∧ c.col.length ≤ reach ∧ c.oth.length ≤ reach ∧ Z0 c.v.k ∧ Z0 c.v.n ∧ c.v.s.length ≤ reach ∧ Sl (YQ d) 96 G lv c.l:=h
theorem Xo (h : (YQ d).rep G c cs) : ∃ lv,cs = [.int .i64 c.kind,Za c.col,Za c.oth, .int .i64 c.v.k, .int .i64 c.v.n,Za c.v.s,lv] ∧ Z0 c.kind ∧ c.col.length ≤ reach ∧ c.oth.length ≤ reach ∧ Z0 c.v.k ∧ Z0 c.v.n ∧ c.v.s.length ≤ reach ∧ lv.oneCell' = true:=by
 cases d with
 | zero=>exact (Zcp h).elim
 | succ d=>obtain ⟨lv,h1,h2,h3,h4,h5,h6,h7,h8⟩:=Zcq h; exact ⟨lv,h1,h2,h3,h4,h5,h6,h7,Sl.oneC h8⟩
end
section
variable {P : Program} {N : Nat} {Q : Exit → Env → World → Prop} {ρ : Env} {w : World} {ops : Array Oper} {rest : List Oper} {K : Env → World → Prop} {d : Nat} {ty : TypeId} {pos : String} {af : Array Edge} {g : Option (Nat × Bool)}
theorem WL.nilCheck {x : Operand} (a : Addr) (hw : Region.wanted ⟨some d, .nilCheck x,ty,pos,af,g⟩ (Zv ops ρ) = true) (hx : ev ρ x = .pointer (some a))
  (k : K (ZB ρ d (.pointer (some a))) w) : OW P ops ⟨some d, .nilCheck x,ty,pos,af,g⟩ ρ w K:=by
 refine WL.val hw ?_ rfl k
 simp [execOp,hx]
end
section
variable {H : Type} {enc : TypeId × Value → H} {P : Program} {w : World}
def ZfW {α : Type} (ok : DataW H → Prop) (enc : TypeId × Value → H) (P : Program) (w : World) (t : TypeId) (E : Enc α) : Prop:=
 ∀ fuel cs d pl,ok d → DataW.trod enc P w 0 (fun _=>true) true fuel t cs = some (d,pl) → Zd1 P t d → ∃ x,E.rep (GW w) x cs
theorem ZlC {α : Type} {E : Enc α} {by_ : Nat} {t e : TypeId} {ok ok' : DataW H → Prop} (hok : ∀ xs ys,ok (.slice xs ys) → ∀ d ∈ xs,ok' d) (ht : P.underlying t = some (.slice e)) (hc : P.cellsOf e = E.n) (hn : 0 < E.n) (hby : P.bytesOf e = by_) (hb1 : 0 < by_) (hE : ZfW ok' enc P w e E) : ZfW ok enc P w t (E.slice by_):=fun fuel cs d pl hd h hl=>by
 rcases open_slice ht h with ⟨rfl,hx⟩ | ⟨a,len,cap,m,n,D,Pl,rfl,hb',hlc,hm,hmm,hx,hel⟩
 ·exact ⟨[], .slice none 0 0,rfl,Sl.nil E by_ (GW w)⟩
 ·simp only [if_true] at hmm
  subst hmm
  simp only [Prod.mk.injEq] at hx
  obtain ⟨rfl,_⟩:=hx
  have ew : DataW.weights P t (.slice ((List.range len).map D) ((List.range (m - len)).map fun j=>D (len + j))) = (len + (m - len)) * by_ :: (DataW.weightsAll P e ((List.range len).map D) ++ DataW.weightsAll P e ((List.range (m - len)).map fun j=>D (len + j))):=by
   rw [DataW.weights,ht]; simp [hby]
  have hw : (len + (m - len)) * by_ ≤ reachBytes:=hl _ (by rw [ew]; simp)
  have hlen : len * by_ ≤ reach:=by
   have h1 : len * by_ ≤ (len + (m - len)) * by_:=Nat.mul_le_mul_right _ (by omega)
   have h2 : reachBytes ≤ reach:=by simp [reachBytes,reach]
   omega
  have hlen1 : len ≤ reach:=Nat.le_trans (Nat.le_mul_of_pos_right _ hb1) hlen
  rcases Nat.eq_zero_or_pos len with h0 | hpos
  ·subst h0
   exact ⟨[], .slice (some a) 0 m,rfl,some a,m,rfl,Nat.zero_le _,by simp,by simp,fun i x hx=>by simp at hx⟩
  ·have hspot : a.spot = none:=by
    obtain ⟨cs',h1,_⟩:=hel 0 (by omega)
    rw [hc] at h1
    obtain ⟨_,hl',hcc⟩:=World.cells?_some h1
    have:=hcc 0 hn
    obtain ⟨v0,hv0⟩ : ∃ v,cs'[0]? = some v:=⟨_,List.getElem?_eq_getElem (by omega)⟩
    rw [hv0] at this
    have:=World.cell?_spot this
    simpa [Addr.add] using this
   obtain ⟨l,hll,hp⟩:=Zji (α:=α) (p:=fun i x=>ZeY E (GW w) (a.add (i * E.n)) x) len fun i hi=>by
    obtain ⟨cs',h1,h2⟩:=hel i (by omega)
    obtain ⟨x,hx⟩:=hE _ _ _ _ (hok _ _ hd (D i) (List.mem_map.2 ⟨i,List.mem_range.2 hi,rfl⟩)) h2 fun y hy=>hl y (by rw [ew]; exact List.mem_cons_of_mem _ (List.mem_append_left _ (ZcI (List.mem_map.2 ⟨i,List.mem_range.2 hi,rfl⟩) hy)))
    rw [hc] at h1
    exact ⟨x,cs',Zl7 (by rw [YJ _ _ hspot]) h1 hn,hx⟩
   subst hll
   exact ⟨l,_,rfl,some a,m,rfl,hlc,hlen,hlen1,fun i x hx=>⟨a,rfl,hspot,hp i x hx⟩⟩
theorem Zio {t : TypeId} {f0 f1 f2 f3 f4 : Field} (hu : P.underlying t = some (.struct #[f0,f1,f2,f3,f4])) (o : f0.offset = 0 ∧ f1.offset = 1 ∧ f2.offset = 2 ∧ f3.offset = 3 ∧ f4.offset = 6)
  (u0 : P.underlying f0.type = some (.int .i64)) (u1 : P.underlying f1.type = some .string) (u2 : P.underlying f2.type = some .string) (h3 : Xn enc P w f3.type ValE) (u4 : P.underlying f4.type = some (.slice t))
  (c : P.cellsOf f0.type = 1 ∧ P.cellsOf f1.type = 1 ∧ P.cellsOf f2.type = 1 ∧ P.cellsOf f3.type = 3 ∧ P.cellsOf f4.type = 1) (ct : P.cellsOf t = 7) (hb : P.bytesOf t = 96) :
  ∀ N,ZfW (fun d=>SizeOf.sizeOf d ≤ N) enc P w t (YQ N)
 | 0=>fun fuel cs d pl hd=>by cases d <;> simp at hd
 | N + 1=>fun fuel cs d pl hd h hl=>by
  obtain ⟨o0,o1,o2,o3,o4⟩:=o
  obtain ⟨c0,c1,c2,c3,c4⟩:=c
  obtain ⟨xs,n,_,hx,hlen,hn,hf⟩:=DataW.trod_struct hu h
  match xs,hn with
  | [y0,y1,y2,y3,y4],_=>
   simp only [Prod.mk.injEq] at hx
   obtain ⟨rfl,_⟩:=hx
   have e : DataW.weights P t (.agg [y0.1,y1.1,y2.1,y3.1,y4.1]) = y0.1.weights P f0.type ++ (y1.1.weights P f1.type ++ (y2.1.weights P f2.type ++ (y3.1.weights P f3.type ++ (y4.1.weights P f4.type ++ [])))):=by
    rw [DataW.weights,hu]; simp [DataW.weightsEach]
   have hl' : ∀ x,x ∈ DataW.weights P t (.agg [y0.1,y1.1,y2.1,y3.1,y4.1]) → x ≤ reachBytes:=hl
   have g0:=by simpa using hf 0 f0 rfl
   have g1:=by simpa using hf 1 f1 rfl
   have g2:=by simpa using hf 2 f2 rfl
   have g3:=by simpa using hf 3 f3 rfl
   have g4:=by simpa using hf 4 f4 rfl
   rw [o0,c0,List.drop_zero] at g0
   rw [o1,c1] at g1
   rw [o2,c2] at g2
   rw [o3,c3] at g3
   rw [o4,c4] at g4
   obtain ⟨x0,r0,b0⟩:=ZaB u0 _ _ _ _ g0 fun x hx=>hl' x (by rw [e]; simp [hx])
   obtain ⟨x1,r1,b1⟩:=Zbl u1 _ _ _ _ g1 fun x hx=>hl' x (by rw [e]; simp [hx])
   obtain ⟨x2,r2,b2⟩:=Zbl u2 _ _ _ _ g2 fun x hx=>hl' x (by rw [e]; simp [hx])
   obtain ⟨x3,r3⟩:=h3 _ _ _ _ g3 fun x hx=>hl' x (by rw [e]; simp [hx])
   have hsz : SizeOf.sizeOf y4.1 ≤ N + 1:=by simp at hd; omega
   obtain ⟨x4,lv,r4,hs4⟩:=ZlC (E:=YQ N) (ok:=fun d=>SizeOf.sizeOf d ≤ N + 1) (ok':=fun d=>SizeOf.sizeOf d ≤ N) (fun xs ys h d hd=>by have:=List.sizeOf_lt_of_mem hd; simp at h; omega) u4 ct (by decide : 0 < 7) hb (by decide) (Zio hu ⟨o0,o1,o2,o3,o4⟩ u0 u1 u2 h3 u4 ⟨c0,c1,c2,c3,c4⟩ ct hb N) _ _ _ _ hsz g4 fun x hx=>hl' x (by rw [e]; simp [hx])
   obtain ⟨q3,v1,v2,v3⟩:=Yj r3
   have h7 : cs.length = 7:=hlen.trans ct
   match cs,h7 with
   | [a0,a1,a2,a3,a4,a5,a6],_=>
    simp at r0 r1 r2 q3 r4
    obtain ⟨rfl,rfl,rfl⟩:=q3
    subst r0 r1 r2 r4
    exact ⟨⟨x0,x1,x2,x3,x4⟩,_,rfl,b0,b1,b2,v1,v2,v3,hs4⟩
theorem Zsp {t : TypeId} {v : Value} {d : DataW H} {p : List MemPlace} (hO : ∀ N,ZfW (fun d=>SizeOf.sizeOf d ≤ N) enc P w t (YQ N)) (hv : ∃ cs : Array Value,v = .agg cs) (h : DataW.Trod enc P w 0 (fun _=>true) true t v d p) (hl : Zd1 P t d) : ∃ N x cs,v = .agg cs.toArray ∧ (YQ N).rep (GW w) x cs:=by
 obtain ⟨fuel,hf⟩:=h
 obtain ⟨cs,rfl⟩:=hv
 obtain ⟨x,hx⟩:=hO (SizeOf.sizeOf d) _ _ _ _ (Nat.le_refl _) hf hl
 exact ⟨_,x,cs.toList,by simp,hx⟩
end
end Go.Civ
namespace Go.Civ
open Go.RowKit
set_option linter.unusedVariables false
abbrev zeroV : Val:=⟨0,0,[]⟩
def Y9 (k : Int) : Nat:=if k = 4 then 1 else if k = 5 then 2 else if k = 6 then 2 else 0
def Yu (c : Cond) : Bool:=decide (c.kind = 1) || decide (c.kind = 2)
def X5 (c : Cond) : Bool:=decide (c.kind = 3) || decide (c.kind = 4) || decide (c.kind = 5) || decide (c.kind = 6)
def ZU (c : Cond) : Bool:=
 bif Yu c then !decide (c.col = []) && decide (c.l.length = 0) && (bif decide (c.oth = []) then Z4 c.v else decide (c.v = zeroV))
 else bif X5 c then decide (c.col = []) && decide (c.oth = []) && decide (c.v = zeroV) && decide (c.l.length = Y9 c.kind)
 else false
def Yw (l : List Col) (nm : List UInt8) : Int:=Qi (fun x=>decide (x.name = nm)) l
theorem Zbm {l : List Col} {nm : List UInt8} : Yw l nm < (l.length : Int):=by
 unfold Yw Qi
 cases h : l.findIdx? fun x=>decide (x.name = nm) with
 | none=>show (-1 : Int) < _; omega
 | some i=>have:=(List.findIdx?_eq_some_iff_getElem.1 h).1; show (i : Int) < _; omega
def Zcr (l : List Col) (i : Int) : Int:=match l[i.toNat]? with | some x=>x.kind | none=>0
def QI (c : Cond) (l : List Col) : Int:=
 bif !Yu c then 0 else if Yw l c.col < 0 then 7 else bif !decide (c.oth = []) && decide (Yw l c.oth < 0) then 7
 else if (bif decide (c.oth = []) then c.v.k else Zcr l (Yw l c.oth)) ≠ Zcr l (Yw l c.col) then 13 else 0
def Za4 (f : Cond → Int) : List Cond → Int
 | []=>0
 | x :: r=>if f x ≠ 0 then f x else Za4 f r
def Xf : Nat → Cond → List Col → Int
 | 0,_,_=>0
 | d + 1,c,l=>if QI c l ≠ 0 then QI c l else Za4 (fun x=>Xf d x l) c.l
theorem Zhm {f : Cond → Int} : ∀ {l : List Cond} {k : Nat} {x : Cond},(∀ j,j < k → ∀ y,l[j]? = some y → f y = 0) → l[k]? = some x → f x ≠ 0 → Za4 f l = f x
 | [],k,x,_,h,_=>by simp at h
 | y :: l,0,x,_,h,hx=>by
  simp at h; subst h
  rw [Za4,if_pos hx]
 | y :: l,k + 1,x,hp,h,hx=>by
  rw [Za4,if_neg (by rw [hp 0 (by omega) y (by simp)]; simp)]
  exact Zhm (k:=k) (fun j hj z hz=>hp (j + 1) (by omega) z (by simpa using hz)) (by simpa using h) hx
theorem Zip {f : Cond → Int} : ∀ {l : List Cond} {k : Nat},(∀ j,j < k → ∀ y,l[j]? = some y → f y = 0) → l.length ≤ k → Za4 f l = 0
 | [],_,_,_=>rfl
 | y :: l,k,hp,hk=>by
  simp at hk
  rw [Za4,if_neg (by rw [hp 0 (by omega) y (by simp)]; simp)]
  exact Zip (k:=k - 1) (fun j hj z hz=>hp (j + 1) (by omega) z (by simpa using hz)) (by omega)
theorem Zvt {c : Cond} {l : List Col} : QI c l = 0 ∨ QI c l = 7 ∨ QI c l = 13:=by
 unfold QI
 cases Yu c
 ·exact .inl rfl
 ·simp only [Bool.not_true,cond_false]
  split
  ·exact .inr (.inl rfl)
  ·cases (!decide (c.oth = []) && decide (Yw l c.oth < 0))
   ·simp only [cond_false]
    split
    ·exact .inr (.inr rfl)
    ·exact .inl rfl
   ·exact .inr (.inl rfl)
theorem ZjO {f : Cond → Int} (h : ∀ x,f x = 0 ∨ f x = 7 ∨ f x = 13) : ∀ l,Za4 f l = 0 ∨ Za4 f l = 7 ∨ Za4 f l = 13
 | []=> .inl rfl
 | x :: r=>by rw [Za4]; split; exact h x; exact ZjO h r
theorem ZjP : ∀ {d : Nat} {c : Cond} {l : List Col},Xf d c l = 0 ∨ Xf d c l = 7 ∨ Xf d c l = 13
 | 0,c,l=> .inl rfl
 | d + 1,c,l=>by rw [Xf]; split; exact Zvt; exact ZjO (fun x=>ZjP) _
theorem Zo0 {d : Nat} {c : Cond} {l : List Col} : Z0 (Xf d c l):=by rcases ZjP (d:=d) (c:=c) (l:=l) with h | h | h <;> rw [h] <;> constructor <;> decide
section
variable {d : Nat} {c : Cond} {l : List Col} {k : Nat}
theorem ZwC (h1 : c.kind ≠ 1) (h2 : c.kind ≠ 2) : QI c l = 0:=by unfold QI Yu; rw [decide_eq_false h1,decide_eq_false h2]; rfl
theorem Zdi (h : c.kind = 1 ∨ c.kind = 2) : Yu c = true:=by unfold Yu; rcases h with h | h <;> rw [h] <;> rfl
theorem Zo1 (h : c.kind = 1 ∨ c.kind = 2) (hf : Yw l c.col < 0) : QI c l = 7:=by unfold QI; rw [Zdi h,if_pos hf]; rfl
theorem ZlD (h : c.kind = 1 ∨ c.kind = 2) (hf : 0 ≤ Yw l c.col) (ho : c.oth ≠ []) (hg : Yw l c.oth < 0) : QI c l = 7:=by unfold QI; rw [Zdi h,if_neg (by omega),decide_eq_false ho,decide_eq_true hg]; rfl
theorem ZkU (h : c.kind = 1 ∨ c.kind = 2) (hf : 0 ≤ Yw l c.col) (ho : c.oth = []) {x : Col} (hx : l[(Yw l c.col).toNat]? = some x) : QI c l = if c.v.k ≠ x.kind then 13 else 0:=by
 unfold QI Zcr; rw [Zdi h,if_neg (by omega),decide_eq_true ho,hx]; rfl
theorem ZkV (h : c.kind = 1 ∨ c.kind = 2) (hf : 0 ≤ Yw l c.col) (ho : c.oth ≠ []) (hg : 0 ≤ Yw l c.oth) {x y : Col} (hx : l[(Yw l c.col).toNat]? = some x) (hy : l[(Yw l c.oth).toNat]? = some y) : QI c l = if y.kind ≠ x.kind then 13 else 0:=by
 unfold QI Zcr; rw [Zdi h,if_neg (by omega),decide_eq_false ho,decide_eq_false (by omega : ¬ Yw l c.oth < 0),hx,hy]; rfl
theorem Zcd {e : Int} (h : QI c l = e) (he : e ≠ 0) : Xf (d + 1) c l = e:=by rw [Xf,h,if_pos he]
theorem Zvu {x : Cond} (h : QI c l = 0) (hp : ∀ j,j < k → ∀ y,c.l[j]? = some y → Xf d y l = 0) (hx : c.l[k]? = some x) (hn : Xf d x l ≠ 0) : Xf (d + 1) c l = Xf d x l:=by
 rw [Xf,h,if_neg (by simp)]; exact Zhm (f:=fun x=>Xf d x l) hp hx hn
theorem Zvv (h : QI c l = 0) (hp : ∀ j,j < k → ∀ y,c.l[j]? = some y → Xf d y l = 0) (hk : c.l.length ≤ k) : Xf (d + 1) c l = 0:=by
 rw [Xf,h,if_neg (by simp)]; exact Zip (f:=fun x=>Xf d x l) hp hk
end
end Go.Civ
namespace Go.Civ
open Go.RowKit
set_option linter.unusedVariables false
def Za5 (f : Cond → Int) : List Cond → Int → Int
 | [],n=>n
 | x :: r,n=>if n ≤ 60 then Za5 f r (n + f x) else n
def YY : Nat → Cond → Int → Int
 | 0,_,_=>61
 | d + 1,c,dep=>if 12 < dep then 61 else if ZU c = false then 61 else Za5 (fun x=>YY d x (dep + 1)) c.l 1
theorem ZjQ {f : Cond → Int} {M : Int} (h0 : ∀ x,1 ≤ f x ∧ f x ≤ M) : ∀ {l : List Cond} {n : Int},1 ≤ n → n ≤ 60 + M → 1 ≤ Za5 f l n ∧ Za5 f l n ≤ 60 + M
 | [],n,h1,h2=>⟨h1,h2⟩
 | x :: r,n,h1,h2=>by
  rw [Za5]
  have:=h0 x
  by_cases h : n ≤ 60
  ·rw [if_pos h]; exact ZjQ h0 (by omega) (by omega)
  ·rw [if_neg h]; exact ⟨h1,h2⟩
theorem Zh7 : ∀ (d : Nat) (c : Cond) (dep : Int),(0 ≤ dep ∧ dep ≤ 13) → 1 ≤ YY d c dep ∧ YY d c dep ≤ 61 + 60 * (13 - dep)
 | 0,c,dep,h=>by rw [YY]; omega
 | d + 1,c,dep,h=>by
  rw [YY]
  by_cases h1 : 12 < dep
  ·rw [if_pos h1]; omega
  ·rw [if_neg h1]
   by_cases h2 : ZU c = false
   ·rw [if_pos h2]; omega
   ·rw [if_neg h2]
    have:=ZjQ (f:=fun x=>YY d x (dep + 1)) (M:=61 + 60 * (13 - (dep + 1))) (fun x=>Zh7 d x (dep + 1) (by omega)) (l:=c.l) (n:=1) (by omega) (by omega)
    omega
section
variable {d : Nat} {c : Cond} {dep : Int} {k : Nat}
end
def YT (f : Cond → Int → Bool × Int) : List Cond → Int → Bool × Int
 | [],n=>(true,n)
 | x :: r,n=>bif (f x n).1 then YT f r (f x n).2 else (false,(f x n).2)
def ZX : Nat → Cond → Int → Int → Bool × Int
 | 0,_,_,n=>(false,n)
 | d + 1,c,dep,n=>if 60 < n + 1 ∨ 12 < dep then (false,n + 1) else bif ZU c then YT (fun x m=>ZX d x (dep + 1) m) c.l (n + 1) else (false,n + 1)
theorem ZcJ {f : Cond → Int → Bool × Int} : ∀ {l r : List Cond} {n : Int},YT f (l ++ r) n = bif (YT f l n).1 then YT f r (YT f l n).2 else (false,(YT f l n).2)
 | [],r,n=>rfl
 | y :: l,r,n=>by
  rw [List.cons_append,YT,YT]
  cases (f y n).1
  ·rfl
  ·simp only [cond_true]; exact ZcJ
theorem ZlE {f : Cond → Int → Bool × Int} {l : List Cond} {k : Nat} {x : Cond} {n m : Int} (hx : l[k]? = some x) (h : YT f (l.take k) n = (true,m)) (hf : (f x m).1 = true) : YT f (l.take (k + 1)) n = (true,(f x m).2):=by
 rw [List.take_add_one,hx,Option.toList_some,ZcJ,h]; simp [YT,hf]
theorem ZlF {f : Cond → Int → Bool × Int} {l : List Cond} {k : Nat} {x : Cond} {n m : Int} (hx : l[k]? = some x) (h : YT f (l.take k) n = (true,m)) (hf : (f x m).1 = false) : YT f l n = (false,(f x m).2):=by
 have hk:=(List.getElem?_eq_some_iff.1 hx).1
 have e : l = l.take k ++ x :: l.drop (k + 1):=by
  have:=List.take_append_drop k l
  rw [List.drop_eq_getElem_cons hk,(List.getElem?_eq_some_iff.1 hx).2] at this
  exact this.symm
 conv=>lhs; rw [e,ZcJ,h]
 simp [YT,hf]
theorem Ziq : ∀ {d : Nat} {c : Cond} {dep n : Int},(ZX d c dep n).1 = true → n + 1 ≤ (ZX d c dep n).2 ∧ (ZX d c dep n).2 ≤ 60
 | 0,c,dep,n,h=>by cases h
 | d + 1,c,dep,n,h=>by
  rw [ZX] at h ⊢
  by_cases h1 : 60 < n + 1 ∨ 12 < dep
  ·rw [if_pos h1] at h; cases h
  ·rw [if_neg h1] at h ⊢
   cases h2 : ZU c with
   | false=>rw [h2] at h; cases h
   | true=>
    rw [h2] at h
    simp only [cond_true] at h ⊢
    have key : ∀ (l : List Cond) (m : Int),m ≤ 60 → (YT (fun x m=>ZX d x (dep + 1) m) l m).1 = true → m ≤ (YT (fun x m=>ZX d x (dep + 1) m) l m).2 ∧ (YT (fun x m=>ZX d x (dep + 1) m) l m).2 ≤ 60:=by
     intro l
     induction l with
     | nil=>intro m hm _; exact ⟨Int.le_refl _,hm⟩
     | cons x r ih=>
      intro m hm hh
      rw [YT] at hh ⊢
      cases h3 : (ZX d x (dep + 1) m).1 with
      | false=>rw [h3] at hh; cases hh
      | true=>
       rw [h3] at hh
       simp only [cond_true] at hh ⊢
       have a:=Ziq h3
       have b:=ih _ a.2 hh
       omega
    exact key _ _ (by omega) h
theorem Zed {f : Cond → Int} (h0 : ∀ x,0 ≤ f x) : ∀ {l : List Cond} {n : Int},n ≤ Za5 f l n
 | [],n=>Int.le_refl _
 | x :: r,n=>by
  rw [Za5]; have:=h0 x
  by_cases h : n ≤ 60
  ·rw [if_pos h]; have:=Zed h0 (l:=r) (n:=n + f x); omega
  ·rw [if_neg h]; exact Int.le_refl _
theorem ZfX : ∀ {d : Nat} {c : Cond} {dep n : Int},0 ≤ n → 0 ≤ dep → dep ≤ 13 → (ZX d c dep n).1 = decide (n + YY d c dep ≤ 60) ∧ ((ZX d c dep n).1 = true → (ZX d c dep n).2 = n + YY d c dep)
 | 0,c,dep,n,h0,h1,h2=>by rw [ZX,YY,decide_eq_false (by omega)]; exact ⟨rfl,fun h=>by cases h⟩
 | d + 1,c,dep,n,h0,h1,h2=>by
  rw [ZX,YY]
  by_cases g1 : 12 < dep
  ·rw [if_pos (.inr g1),if_pos g1,decide_eq_false (by omega)]; exact ⟨rfl,fun h=>by cases h⟩
  ·rw [if_neg g1]
   cases g2 : ZU c with
   | false=>
    rw [if_pos rfl,decide_eq_false (by omega)]
    by_cases g3 : 60 < n + 1 ∨ 12 < dep
    ·rw [if_pos g3]; exact ⟨rfl,fun h=>by cases h⟩
    ·rw [if_neg g3]; exact ⟨rfl,fun h=>by cases h⟩
   | true=>
    rw [if_neg (show ¬ (true = false) by simp)]
    have pos : ∀ x,1 ≤ YY d x (dep + 1):=fun x=>(Zh7 d x (dep + 1) (by omega)).1
    have ge:=Zed (f:=fun x=>YY d x (dep + 1)) (fun x=>by have:=pos x; omega) (l:=c.l) (n:=1)
    by_cases g3 : 60 < n + 1 ∨ 12 < dep
    ·rw [if_pos g3,decide_eq_false (by omega)]; exact ⟨rfl,fun h=>by cases h⟩
    ·rw [if_neg g3]
     simp only [cond_true]
     have key : ∀ (l : List Cond) (m : Int),1 ≤ m → n + m ≤ 60 → (YT (fun x m=>ZX d x (dep + 1) m) l (n + m)).1 = decide (n + Za5 (fun x=>YY d x (dep + 1)) l m ≤ 60) ∧ ((YT (fun x m=>ZX d x (dep + 1) m) l (n + m)).1 = true → (YT (fun x m=>ZX d x (dep + 1) m) l (n + m)).2 = n + Za5 (fun x=>YY d x (dep + 1)) l m):=by
      intro l
      induction l with
      | nil=>intro m hm hn; rw [YT,Za5,decide_eq_true hn]; exact ⟨rfl,fun _=>rfl⟩
      | cons x r ih=>
       intro m hm hn
       rw [YT,Za5,if_pos (by omega)]
       have a:=ZfX (d:=d) (c:=x) (dep:=dep + 1) (n:=n + m) (by omega) (by omega) (by omega)
       have hx:=pos x
       have ge2:=Zed (f:=fun x=>YY d x (dep + 1)) (fun x=>by have:=pos x; omega) (l:=r) (n:=m + YY d x (dep + 1))
       by_cases g4 : n + m + YY d x (dep + 1) ≤ 60
       ·have a1 : (ZX d x (dep + 1) (n + m)).1 = true:=by rw [a.1]; exact decide_eq_true g4
        rw [a1,a.2 a1]
        simp only [cond_true]
        have:=ih (m + YY d x (dep + 1)) (by omega) (by omega)
        rw [show n + m + YY d x (dep + 1) = n + (m + YY d x (dep + 1)) by omega]
        exact this
       ·have a1 : (ZX d x (dep + 1) (n + m)).1 = false:=by rw [a.1]; exact decide_eq_false g4
        rw [a1]
        simp only [cond_false]
        rw [decide_eq_false (by omega)]; exact ⟨rfl,fun h=>by cases h⟩
     exact key c.l 1 (by omega) (by omega)
section
variable {d : Nat} {c : Cond} {dep n : Int} {k : Nat}
theorem Zir (h : 60 < n + 1 ∨ 12 < dep) : ZX (d + 1) c dep n = (false,n + 1):=by rw [ZX,if_pos h]
theorem Yz (h1 : n + 1 ≤ 60) (h2 : dep ≤ 12) (h3 : ZU c = false) : ZX (d + 1) c dep n = (false,n + 1):=by rw [ZX,if_neg (by omega),h3]; rfl
theorem ZpZ {x : Cond} {m : Int} (h1 : n + 1 ≤ 60) (h2 : dep ≤ 12) (h3 : ZU c = true) (hx : c.l[k]? = some x) (h : YT (fun x m=>ZX d x (dep + 1) m) (c.l.take k) (n + 1) = (true,m)) (hf : (ZX d x (dep + 1) m).1 = false) : ZX (d + 1) c dep n = (false,(ZX d x (dep + 1) m).2):=by
 rw [ZX,if_neg (by omega),h3]; exact ZlF hx h hf
theorem Zqa {m : Int} (h1 : n + 1 ≤ 60) (h2 : dep ≤ 12) (h3 : ZU c = true) (hk : c.l.length ≤ k) (h : YT (fun x m=>ZX d x (dep + 1) m) (c.l.take k) (n + 1) = (true,m)) : ZX (d + 1) c dep n = (true,m):=by
 rw [ZX,if_neg (by omega),h3]; rw [List.take_of_length_le hk] at h; exact h
end
def YE (d : Nat) (c : Cond) (l : List Col) : Int:=if YY d c 1 ≤ 60 then Xf d c l else 1
theorem ZlG {d : Nat} {c : Cond} : (ZX d c 1 0).1 = decide (YY d c 1 ≤ 60):=by
 have:=(ZfX (d:=d) (c:=c) (dep:=1) (n:=0) (by omega) (by omega) (by omega)).1
 rw [this]; congr 1; rw [Int.zero_add]
def Zfh : Nat → Cond → Prop
 | 0,_=>False
 | d + 1,c=>ZU c = true ∧ ∀ x ∈ c.l,Zfh d x
theorem Zn9 : ∀ {d : Nat} {c : Cond} {dep : Int},0 ≤ dep → dep ≤ 13 → YY d c dep ≤ 60 → Zfh d c
 | 0,c,dep,_,_,h=>by rw [YY] at h; omega
 | d + 1,c,dep,h0,h1,h=>by
  rw [YY] at h
  by_cases g1 : 12 < dep
  ·rw [if_pos g1] at h; omega
  ·rw [if_neg g1] at h
   cases g2 : ZU c with
   | false=>rw [if_pos g2] at h; omega
   | true=>
    rw [if_neg (by rw [g2]; simp)] at h
    refine ⟨g2,?_⟩
    have pos : ∀ x,1 ≤ YY d x (dep + 1):=fun x=>(Zh7 d x (dep + 1) (by omega)).1
    have key : ∀ (l : List Cond) (m : Int),1 ≤ m → Za5 (fun x=>YY d x (dep + 1)) l m ≤ 60 → ∀ x ∈ l,YY d x (dep + 1) ≤ 60:=by
     intro l
     induction l with
     | nil=>intro m _ _ x hx; simp at hx
     | cons y r ih=>
      intro m hm hh x hx
      rw [Za5] at hh
      have hy:=pos y
      by_cases g3 : m ≤ 60
      ·rw [if_pos g3] at hh
       have ge:=Zed (f:=fun x=>YY d x (dep + 1)) (fun x=>by have:=pos x; omega) (l:=r) (n:=m + YY d y (dep + 1))
       rcases List.mem_cons.1 hx with rfl | hx
       ·omega
       ·exact ih _ (by omega) hh x hx
      ·rw [if_neg g3] at hh; omega
    exact fun x hx=>Zn9 (dep:=dep + 1) (by omega) (by omega) (key c.l 1 (by omega) h x hx)
theorem Zis {f : Cond → Int} : ∀ {l : List Cond},Za4 f l = 0 → ∀ x ∈ l,f x = 0
 | [],_,x,hx=>by simp at hx
 | y :: l,h,x,hx=>by
  rw [Za4] at h
  by_cases g : f y = 0
  ·rw [if_neg (by simp [g])] at h
   rcases List.mem_cons.1 hx with rfl | hx
   ·exact g
   ·exact Zis h x hx
  ·rw [if_pos g] at h; exact absurd h g
theorem ZfY {d : Nat} {c : Cond} {l : List Col} (h : Xf (d + 1) c l = 0) : QI c l = 0:=by
 rw [Xf] at h
 by_cases g : QI c l = 0
 ·exact g
 ·rw [if_pos g] at h; exact h
theorem ZbL {d : Nat} {c x : Cond} {l : List Col} (h : Xf (d + 1) c l = 0) (hx : x ∈ c.l) : Xf d x l = 0:=by
 have g:=ZfY h
 rw [Xf,if_neg (by simp [g])] at h
 exact Zis (f:=fun x=>Xf d x l) h x hx
def Zcs (v : List Val) (i : Int) : Val:=match v[i.toNat]? with | some x=>x | none=>zeroV
def ZfZ (c : Cond) (l : List Col) (v : List Val) : Int:=cmpV (Zcs v (Yw l c.col)) (bif decide (c.oth = []) then c.v else Zcs v (Yw l c.oth))
def Xu : Nat → Cond → List Col → List Val → Bool
 | 0,_,_,_=>true
 | d + 1,c,l,v=>
  bif Yu c then (decide (ZfZ c l v = 0) && decide (c.kind = 1)) || (decide (ZfZ c l v < 0) && decide (c.kind = 2))
  else if c.kind = 4 then (match c.l[0]? with | some x=>!Xu d x l v | none=>true)
  else if c.kind = 5 then (match c.l[0]?,c.l[1]? with | some x,some y=>Xu d x l v && Xu d y l v | _,_=>true)
  else if c.kind = 6 then (match c.l[0]?,c.l[1]? with | some x,some y=>Xu d x l v || Xu d y l v | _,_=>true)
  else true
theorem Zga {c : Cond} (h : ZU c = true) (hk : c.kind = 3 ∨ c.kind = 4 ∨ c.kind = 5 ∨ c.kind = 6) : c.l.length = Y9 c.kind:=by
 unfold ZU at h
 have h1 : Yu c = false:=by unfold Yu; rw [decide_eq_false (by omega),decide_eq_false (by omega)]; rfl
 rw [h1] at h
 simp only [cond_false] at h
 cases h2 : X5 c with
 | false=>rw [h2] at h; cases h
 | true=>rw [h2] at h; simp only [cond_true,Bool.and_eq_true,decide_eq_true_eq] at h; exact h.2
section
variable {d : Nat} {c x y : Cond} {l : List Col} {v : List Val}
theorem ZwD (h : Zfh (d + 1) c) (hk : c.kind = 4) : c.l.length = 1:=by rw [Zga h.1 (by omega),hk]; rfl
theorem ZwE (h : Zfh (d + 1) c) (hk : c.kind = 5) : c.l.length = 2:=by rw [Zga h.1 (by omega),hk]; rfl
theorem ZwF (h : Zfh (d + 1) c) (hk : c.kind = 6) : c.l.length = 2:=by rw [Zga h.1 (by omega),hk]; rfl
theorem ZlH (h : QI c l = 0) (hk : c.kind = 1 ∨ c.kind = 2) : 0 ≤ Yw l c.col ∧ (c.oth ≠ [] → 0 ≤ Yw l c.oth):=by
 by_cases g : Yw l c.col < 0
 ·rw [Zo1 hk g] at h; omega
 ·refine ⟨by omega,fun ho=>?_⟩
  by_cases g2 : Yw l c.oth < 0
  ·rw [ZlD hk (by omega) ho g2] at h; omega
  ·omega
theorem Zit (h1 : c.kind ≠ 1) (h2 : c.kind ≠ 2) : Yu c = false:=by unfold Yu; rw [decide_eq_false h1,decide_eq_false h2]; rfl
theorem Xq (hk : c.kind = 1 ∨ c.kind = 2) : Xu (d + 1) c l v = ((decide (ZfZ c l v = 0) && decide (c.kind = 1)) || (decide (ZfZ c l v < 0) && decide (c.kind = 2))):=by rw [Xu,Zdi hk]; rfl
theorem ZwG (hk : c.kind = 4) (hx : c.l[0]? = some x) : Xu (d + 1) c l v = !Xu d x l v:=by rw [Xu,Zit (by omega) (by omega),hx]; simp [hk]
theorem Zqb (hk : c.kind = 5) (hx : c.l[0]? = some x) (hy : c.l[1]? = some y) : Xu (d + 1) c l v = (Xu d x l v && Xu d y l v):=by rw [Xu,Zit (by omega) (by omega),hx,hy]; simp [hk]
theorem Zqc (hk : c.kind = 6) (hx : c.l[0]? = some x) (hy : c.l[1]? = some y) : Xu (d + 1) c l v = (Xu d x l v || Xu d y l v):=by rw [Xu,Zit (by omega) (by omega),hx,hy]; simp [hk]
theorem Zvw (hk : c.kind = 5) (hx : c.l[0]? = some x) (hal : c.l.length = 2) (h : Xu d x l v = false) : Xu (d + 1) c l v = false:=by
 rw [Zqb hk hx (List.getElem?_eq_getElem (by omega : 1 < c.l.length)),h]; rfl
theorem Zvx (hk : c.kind = 6) (hx : c.l[0]? = some x) (hal : c.l.length = 2) (h : Xu d x l v = true) : Xu (d + 1) c l v = true:=by
 rw [Zqc hk hx (List.getElem?_eq_getElem (by omega : 1 < c.l.length)),h]; rfl
theorem ZwH (h1 : c.kind ≠ 1) (h2 : c.kind ≠ 2) (h4 : c.kind ≠ 4) (h5 : c.kind ≠ 5) (h6 : c.kind ≠ 6) : Xu (d + 1) c l v = true:=by rw [Xu,Zit h1 h2,if_neg h4,if_neg h5,if_neg h6]; rfl
theorem ZbM {x : Val} (hx : v[(Yw l c.col).toNat]? = some x) (ho : c.oth = []) : ZfZ c l v = cmpV x c.v:=by unfold ZfZ Zcs; rw [hx,decide_eq_true ho]; rfl
theorem ZbN {x y : Val} (hx : v[(Yw l c.col).toNat]? = some x) (ho : c.oth ≠ []) (hy : v[(Yw l c.oth).toNat]? = some y) : ZfZ c l v = cmpV x y:=by unfold ZfZ Zcs; rw [hx,decide_eq_false ho,hy]; rfl
end
end Go.Civ
