/- Lemmas. -/
import Derived.Test.YtcopkjhdncdnmaaGreatDoorP08
import Derived.Test.YtcopkjhdncdnmaaGreatDoorP09
set_option linter.unusedSimpArgs false
namespace Go.Civ
open Go.RowKit Go.ChangeShapes Go.Deep
set_option linter.unusedVariables false
structure Cond where
 kind : Int
 col : List UInt8
 oth : List UInt8
 v : Val
 l : List Cond
def Zpe (R : Enc Cond) (G : GH) (c : Cond) (cs : List Value) : Prop:=
 ∃ lv,cs = [.int .i64 c.kind,Zb c.col,Zb c.oth, .int .i64 c.v.k, .int .i64 c.v.n,Zb c.v.s,lv] ∧ ZM c.kind ∧ c.col.length ≤ reach ∧ c.oth.length ≤ reach ∧ ZM c.v.k ∧ ZM c.v.n ∧ c.v.s.length ≤ reach ∧ Sl R 96 G lv c.l
abbrev CondP:={ R : GH → Cond → List Value → Prop // (∀ {G x cs},R G x cs → cs.length = 7) ∧ (∀ {G G' x cs},G.le G' → R G x cs → R G' x cs) ∧ (∀ {G x cs},R G x cs → ∀ c ∈ cs,c.oneCell' = true) }
def CondP.enc (R : CondP) : Enc Cond:=⟨7,R.1,R.2.1,R.2.2.1,R.2.2.2⟩
def CondP.up (R : CondP) : CondP:=
 ⟨Zpe R.enc,fun ⟨_,h,_⟩=>by rw [h]; rfl,fun hle ⟨lv,h1,h2,h3,h4,h5,h6,h7,h8⟩=>⟨lv,h1,h2,h3,h4,h5,h6,h7,h8.mono hle⟩,fun ⟨lv,h1,_,_,_,_,_,_,h8⟩ c hc=>by
  rw [h1] at hc
  simp at hc
  rcases hc with rfl | rfl | rfl | rfl | rfl | rfl | rfl
  ·rfl
  ·rfl
  ·rfl
  ·rfl
  ·rfl
  ·rfl
  ·exact Sl.oneC h8⟩
def Zhh : Nat → CondP
 | 0=>⟨fun _ _ _=>False,fun h=>h.elim,fun _ h=>h.elim,fun h=>h.elim⟩
 | d + 1=>(Zhh d).up
def Xd (d : Nat) : Enc Cond:=⟨7,(Zhh d).1,(Zhh d).2.1,(Zhh d).2.2.1,(Zhh d).2.2.2⟩
section
variable {G : GH} {c : Cond} {cs : List Value} {d : Nat}
theorem QP (h : (Xd 0).rep G c cs) : False:=h
theorem Zhi : (Xd (d + 1)).rep G c cs ↔ Zpe (Xd d) G c cs:=Iff.rfl
theorem QQ (h : (Xd (d + 1)).rep G c cs) : ∃ lv,cs = [.int .i64 c.kind,Zb c.col,Zb c.oth, .int .i64 c.v.k, .int .i64 c.v.n,Zb c.v.s,lv] ∧ ZM c.kind ∧ c.col.length ≤ reach ∧ c.oth.length ≤ reach ∧ ZM c.v.k ∧ ZM c.v.n ∧ c.v.s.length ≤ reach ∧ Sl (Xd d) 96 G lv c.l:=h
theorem Za7 (h : (Xd d).rep G c cs) : ∃ lv,cs = [.int .i64 c.kind,Zb c.col,Zb c.oth, .int .i64 c.v.k, .int .i64 c.v.n,Zb c.v.s,lv] ∧ ZM c.kind ∧ c.col.length ≤ reach ∧ c.oth.length ≤ reach ∧ ZM c.v.k ∧ ZM c.v.n ∧ c.v.s.length ≤ reach ∧ lv.oneCell' = true:=by
 cases d with
 | zero=>exact (QP h).elim
 | succ d=>obtain ⟨lv,h1,h2,h3,h4,h5,h6,h7,h8⟩:=QQ h; exact ⟨lv,h1,h2,h3,h4,h5,h6,h7,Sl.oneC h8⟩
theorem Zoj (h : (Xd d).rep G c cs) : (Xd (d + 1)).rep G c cs:=by
 induction d generalizing c cs with
 | zero=>exact (QP h).elim
 | succ d ih=>
  obtain ⟨lv,h1,h2,h3,h4,h5,h6,h7,a,cap,h8,h9,h10,h11,h12⟩:=QQ h
  refine ⟨lv,h1,h2,h3,h4,h5,h6,h7,a,cap,h8,h9,h10,h11,fun i x hx=>?_⟩
  obtain ⟨a0,e1,e2,cs0,hc0,hr0⟩:=h12 i x hx
  exact ⟨a0,e1,e2,cs0,hc0,ih hr0⟩
theorem Zok {d' : Nat} (h : (Xd d).rep G c cs) (hd : d ≤ d') : (Xd d').rep G c cs:=by
 induction d' with
 | zero=>
  obtain rfl : d = 0:=by omega
  exact h
 | succ n ih=>
  by_cases q : d = n + 1
  ·subst q; exact h
  ·exact Zoj (ih (by omega))
end
section
variable {P : Program} {N : Nat} {Q : Exit → Env → World → Prop} {ρ : Env} {w : World} {ops : Array Oper} {rest : List Oper} {K : Env → World → Prop} {d : Nat} {ty : TypeId} {pos : String} {af : Array Edge} {g : Option (Nat × Bool)}
theorem WL.nilCheck {x : Operand} (a : Addr) (hw : Region.wanted ⟨some d, .nilCheck x,ty,pos,af,g⟩ (ZI ops ρ) = true) (hx : ev ρ x = .pointer (some a))
  (k : K (Yq ρ d (.pointer (some a))) w) : OW P ops ⟨some d, .nilCheck x,ty,pos,af,g⟩ ρ w K:=by
 refine WL.val hw ?_ rfl k
 simp [execOp,hx]
end
section
variable {H : Type} {enc : TypeId × Value → H} {P : Program} {w : World}
def ZcQ {α : Type} (ok : DataW H → Prop) (enc : TypeId × Value → H) (P : Program) (w : World) (t : TypeId) (E : Enc α) : Prop:=
 ∀ fuel cs d pl,ok d → DataW.trod enc P w 0 (fun _=>true) true fuel t cs = some (d,pl) → ZdW P t d → ∃ x,E.rep (GW w) x cs
theorem Zf6 {α : Type} {E : Enc α} {by_ : Nat} {t e : TypeId} {ok ok' : DataW H → Prop} (hok : ∀ xs ys,ok (.slice xs ys) → ∀ d ∈ xs,ok' d) (ht : P.underlying t = some (.slice e)) (hc : P.cellsOf e = E.n) (hn : 0 < E.n) (hby : P.bytesOf e = by_) (hb1 : 0 < by_) (hE : ZcQ ok' enc P w e E) : ZcQ ok enc P w t (E.slice by_):=fun fuel cs d pl hd h hl=>by
 rcases open_slice ht h with ⟨rfl,hx⟩ | ⟨a,len,cap,m,n,D,Pl,rfl,hb',hlc,hm,hmm,hx,hel⟩
 ·exact ⟨[], .slice none 0 0,rfl,Sl.nil E by_ (GW w)⟩
 ·simp only [if_true] at hmm
  subst hmm
  simp only [Prod.mk.injEq] at hx
  obtain ⟨rfl,_⟩:=hx
  have ew : DataW.weights P t (.slice ((List.range len).map D) ((List.range (m - len)).map fun j=>D (len + j))) = (len + (m - len)) * by_ :: (DataW.weightsAll P e ((List.range len).map D) ++ DataW.weightsAll P e ((List.range (m - len)).map fun j=>D (len + j))):=by
   rw [DataW.weights,ht]; simp [hby]
  have hw : (len + (m - len)) * by_ ≤ reachBytes:=hl _ (by rw [ew]; simp)
  have hlen : len * by_ ≤ reach:=by
   have h1 : len * by_ ≤ (len + (m - len)) * by_:=Nat.mul_le_mul_right _ (by omega)
   have h2 : reachBytes ≤ reach:=by simp [reachBytes,reach]
   omega
  have hlen1 : len ≤ reach:=Nat.le_trans (Nat.le_mul_of_pos_right _ hb1) hlen
  rcases Nat.eq_zero_or_pos len with h0 | hpos
  ·subst h0
   exact ⟨[], .slice (some a) 0 m,rfl,some a,m,rfl,Nat.zero_le _,by simp,by simp,fun i x hx=>by simp at hx⟩
  ·have hspot : a.spot = none:=by
    obtain ⟨cs',h1,_⟩:=hel 0 (by omega)
    rw [hc] at h1
    obtain ⟨_,hl',hcc⟩:=World.cells?_some h1
    have:=hcc 0 hn
    obtain ⟨v0,hv0⟩ : ∃ v,cs'[0]? = some v:=⟨_,List.getElem?_eq_getElem (by omega)⟩
    rw [hv0] at this
    have:=World.cell?_spot this
    simpa [Addr.add] using this
   obtain ⟨l,hll,hp⟩:=ZhN (α:=α) (p:=fun i x=>ZeW E (GW w) (a.add (i * E.n)) x) len fun i hi=>by
    obtain ⟨cs',h1,h2⟩:=hel i (by omega)
    obtain ⟨x,hx⟩:=hE _ _ _ _ (hok _ _ hd (D i) (List.mem_map.2 ⟨i,List.mem_range.2 hi,rfl⟩)) h2 fun y hy=>hl y (by rw [ew]; exact List.mem_cons_of_mem _ (List.mem_append_left _ (Zcv (List.mem_map.2 ⟨i,List.mem_range.2 hi,rfl⟩) hy)))
    rw [hc] at h1
    exact ⟨x,cs',Zjv (by rw [X1 _ _ hspot]) h1 hn,hx⟩
   subst hll
   exact ⟨l,_,rfl,some a,m,rfl,hlc,hlen,hlen1,fun i x hx=>⟨a,rfl,hspot,hp i x hx⟩⟩
theorem Zhj {t : TypeId} {f0 f1 f2 f3 f4 : Field} (hu : P.underlying t = some (.struct #[f0,f1,f2,f3,f4])) (o : f0.offset = 0 ∧ f1.offset = 1 ∧ f2.offset = 2 ∧ f3.offset = 3 ∧ f4.offset = 6)
  (u0 : P.underlying f0.type = some (.int .i64)) (u1 : P.underlying f1.type = some .string) (u2 : P.underlying f2.type = some .string) (h3 : Xs enc P w f3.type ValE) (u4 : P.underlying f4.type = some (.slice t))
  (c : P.cellsOf f0.type = 1 ∧ P.cellsOf f1.type = 1 ∧ P.cellsOf f2.type = 1 ∧ P.cellsOf f3.type = 3 ∧ P.cellsOf f4.type = 1) (ct : P.cellsOf t = 7) (hb : P.bytesOf t = 96) :
  ∀ N,ZcQ (fun d=>SizeOf.sizeOf d ≤ N) enc P w t (Xd N)
 | 0=>fun fuel cs d pl hd=>by cases d <;> simp at hd
 | N + 1=>fun fuel cs d pl hd h hl=>by
  obtain ⟨o0,o1,o2,o3,o4⟩:=o
  obtain ⟨c0,c1,c2,c3,c4⟩:=c
  obtain ⟨xs,n,_,hx,hlen,hn,hf⟩:=DataW.trod_struct hu h
  match xs,hn with
  | [y0,y1,y2,y3,y4],_=>
   simp only [Prod.mk.injEq] at hx
   obtain ⟨rfl,_⟩:=hx
   have e : DataW.weights P t (.agg [y0.1,y1.1,y2.1,y3.1,y4.1]) = y0.1.weights P f0.type ++ (y1.1.weights P f1.type ++ (y2.1.weights P f2.type ++ (y3.1.weights P f3.type ++ (y4.1.weights P f4.type ++ [])))):=by
    rw [DataW.weights,hu]; simp [DataW.weightsEach]
   have hl' : ∀ x,x ∈ DataW.weights P t (.agg [y0.1,y1.1,y2.1,y3.1,y4.1]) → x ≤ reachBytes:=hl
   have g0:=by simpa using hf 0 f0 rfl
   have g1:=by simpa using hf 1 f1 rfl
   have g2:=by simpa using hf 2 f2 rfl
   have g3:=by simpa using hf 3 f3 rfl
   have g4:=by simpa using hf 4 f4 rfl
   rw [o0,c0,List.drop_zero] at g0
   rw [o1,c1] at g1
   rw [o2,c2] at g2
   rw [o3,c3] at g3
   rw [o4,c4] at g4
   obtain ⟨x0,r0,b0⟩:=Q0 u0 _ _ _ _ g0 fun x hx=>hl' x (by rw [e]; simp [hx])
   obtain ⟨x1,r1,b1⟩:=Za3 u1 _ _ _ _ g1 fun x hx=>hl' x (by rw [e]; simp [hx])
   obtain ⟨x2,r2,b2⟩:=Za3 u2 _ _ _ _ g2 fun x hx=>hl' x (by rw [e]; simp [hx])
   obtain ⟨x3,r3⟩:=h3 _ _ _ _ g3 fun x hx=>hl' x (by rw [e]; simp [hx])
   have hsz : SizeOf.sizeOf y4.1 ≤ N + 1:=by simp at hd; omega
   obtain ⟨x4,lv,r4,hs4⟩:=Zf6 (E:=Xd N) (ok:=fun d=>SizeOf.sizeOf d ≤ N + 1) (ok':=fun d=>SizeOf.sizeOf d ≤ N) (fun xs ys h d hd=>by have:=List.sizeOf_lt_of_mem hd; simp at h; omega) u4 ct (by decide : 0 < 7) hb (by decide) (Zhj hu ⟨o0,o1,o2,o3,o4⟩ u0 u1 u2 h3 u4 ⟨c0,c1,c2,c3,c4⟩ ct hb N) _ _ _ _ hsz g4 fun x hx=>hl' x (by rw [e]; simp [hx])
   obtain ⟨q3,v1,v2,v3⟩:=ZdV r3
   have h7 : cs.length = 7:=hlen.trans ct
   match cs,h7 with
   | [a0,a1,a2,a3,a4,a5,a6],_=>
    simp at r0 r1 r2 q3 r4
    obtain ⟨rfl,rfl,rfl⟩:=q3
    subst r0 r1 r2 r4
    exact ⟨⟨x0,x1,x2,x3,x4⟩,_,rfl,b0,b1,b2,v1,v2,v3,hs4⟩
end
end Go.Civ
namespace Go.Civ
open Go.RowKit
set_option linter.unusedVariables false
abbrev zeroV : Val:=⟨0,0,[]⟩
def ZZ (k : Int) : Nat:=if k = 4 then 1 else if k = 5 then 2 else if k = 6 then 2 else 0
def ZQ (c : Cond) : Bool:=decide (c.kind = 1) || decide (c.kind = 2)
def Yn (c : Cond) : Bool:=decide (c.kind = 3) || decide (c.kind = 4) || decide (c.kind = 5) || decide (c.kind = 6)
def Z2 (c : Cond) : Bool:=
 bif ZQ c then !decide (c.col = []) && decide (c.l.length = 0) && (bif decide (c.oth = []) then Y1 c.v else decide (c.v = zeroV))
 else bif Yn c then decide (c.col = []) && decide (c.oth = []) && decide (c.v = zeroV) && decide (c.l.length = ZZ c.kind)
 else false
def Zx (l : List Col) (nm : List UInt8) : Int:=YP (fun x=>decide (x.name = nm)) l
theorem Zaa {l : List Col} {nm : List UInt8} : Zx l nm < (l.length : Int):=by
 unfold Zx YP
 cases h : l.findIdx? fun x=>decide (x.name = nm) with
 | none=>show (-1 : Int) < _; omega
 | some i=>have:=(List.findIdx?_eq_some_iff_getElem.1 h).1; show (i : Int) < _; omega
theorem Zol {l : List Col} {nm : List UInt8} : -1 ≤ Zx l nm:=by
 unfold Zx YP
 cases h : l.findIdx? fun x=>decide (x.name = nm) with
 | none=>exact Int.le_refl _
 | some i=>show (-1 : Int) ≤ (i : Int); omega
theorem Zom {l : List Col} {nm : List UInt8} (h : l.length ≤ reach) : ZM (Zx l nm):=by
 have h1:=Zaa (l:=l) (nm:=nm)
 have h2:=Zol (l:=l) (nm:=nm)
 have hr : reach = 140737488355328:=rfl
 constructor <;> omega
theorem Zf7 {l : List Col} {nm : List UInt8} {k : Nat} {x : Col} (hx : l[k]? = some x) (hn : x.name = nm) (h : ∀ j,j < k → ∀ x,l[j]? = some x → decide (x.name = nm) = false) : Zx l nm = (k : Int):=
 Za2 k hx (decide_eq_true hn) h
theorem Zjy {l : List Col} {nm : List UInt8} {k : Nat} (hk : l.length ≤ k) (h : ∀ j,j < k → ∀ x,l[j]? = some x → decide (x.name = nm) = false) : Zx l nm = -1:=by
 unfold Zx; exact QO h hk
def ZcR (l : List Col) (i : Int) : Int:=match l[i.toNat]? with | some x=>x.kind | none=>0
def Qr (c : Cond) (l : List Col) : Int:=
 bif !ZQ c then 0 else if Zx l c.col < 0 then 7 else bif !decide (c.oth = []) && decide (Zx l c.oth < 0) then 7
 else if (bif decide (c.oth = []) then c.v.k else ZcR l (Zx l c.oth)) ≠ ZcR l (Zx l c.col) then 13 else 0
def Qb (f : Cond → Int) : List Cond → Int
 | []=>0
 | x :: r=>if f x ≠ 0 then f x else Qb f r
def Xa : Nat → Cond → List Col → Int
 | 0,_,_=>0
 | d + 1,c,l=>if Qr c l ≠ 0 then Qr c l else Qb (fun x=>Xa d x l) c.l
theorem Zgz {f : Cond → Int} : ∀ {l : List Cond} {k : Nat} {x : Cond},(∀ j,j < k → ∀ y,l[j]? = some y → f y = 0) → l[k]? = some x → f x ≠ 0 → Qb f l = f x
 | [],k,x,_,h,_=>by simp at h
 | y :: l,0,x,_,h,hx=>by
  simp at h; subst h
  rw [Qb,if_pos hx]
 | y :: l,k + 1,x,hp,h,hx=>by
  rw [Qb,if_neg (by rw [hp 0 (by omega) y (by simp)]; simp)]
  exact Zgz (k:=k) (fun j hj z hz=>hp (j + 1) (by omega) z (by simpa using hz)) (by simpa using h) hx
theorem Zhk {f : Cond → Int} : ∀ {l : List Cond} {k : Nat},(∀ j,j < k → ∀ y,l[j]? = some y → f y = 0) → l.length ≤ k → Qb f l = 0
 | [],_,_,_=>rfl
 | y :: l,k,hp,hk=>by
  simp at hk
  rw [Qb,if_neg (by rw [hp 0 (by omega) y (by simp)]; simp)]
  exact Zhk (k:=k - 1) (fun j hj z hz=>hp (j + 1) (by omega) z (by simpa using hz)) (by omega)
section
variable {d : Nat} {c : Cond} {l : List Col} {k : Nat}
theorem ZmK (h1 : c.kind ≠ 1) (h2 : c.kind ≠ 2) : Qr c l = 0:=by unfold Qr ZQ; rw [decide_eq_false h1,decide_eq_false h2]; rfl
theorem ZdZ (h : c.kind = 1 ∨ c.kind = 2) : ZQ c = true:=by unfold ZQ; rcases h with h | h <;> rw [h] <;> rfl
theorem ZiN (h : c.kind = 1 ∨ c.kind = 2) (hf : Zx l c.col < 0) : Qr c l = 7:=by unfold Qr; rw [ZdZ h,if_pos hf]; rfl
theorem Zhl (h : c.kind = 1 ∨ c.kind = 2) (hf : 0 ≤ Zx l c.col) (ho : c.oth ≠ []) (hg : Zx l c.oth < 0) : Qr c l = 7:=by unfold Qr; rw [ZdZ h,if_neg (by omega),decide_eq_false ho,decide_eq_true hg]; rfl
theorem Zea (h : c.kind = 1 ∨ c.kind = 2) (hf : 0 ≤ Zx l c.col) (ho : c.oth = []) {x : Col} (hx : l[(Zx l c.col).toNat]? = some x) : Qr c l = if c.v.k ≠ x.kind then 13 else 0:=by
 unfold Qr ZcR; rw [ZdZ h,if_neg (by omega),decide_eq_true ho,hx]; rfl
theorem Zeb (h : c.kind = 1 ∨ c.kind = 2) (hf : 0 ≤ Zx l c.col) (ho : c.oth ≠ []) (hg : 0 ≤ Zx l c.oth) {x y : Col} (hx : l[(Zx l c.col).toNat]? = some x) (hy : l[(Zx l c.oth).toNat]? = some y) : Qr c l = if y.kind ≠ x.kind then 13 else 0:=by
 unfold Qr ZcR; rw [ZdZ h,if_neg (by omega),decide_eq_false ho,decide_eq_false (by omega : ¬ Zx l c.oth < 0),hx,hy]; rfl
theorem XZ {e : Int} (h : Qr c l = e) (he : e ≠ 0) : Xa (d + 1) c l = e:=by rw [Xa,h,if_pos he]
theorem ZkU {x : Cond} (h : Qr c l = 0) (hp : ∀ j,j < k → ∀ y,c.l[j]? = some y → Xa d y l = 0) (hx : c.l[k]? = some x) (hn : Xa d x l ≠ 0) : Xa (d + 1) c l = Xa d x l:=by
 rw [Xa,h,if_neg (by simp)]; exact Zgz (f:=fun x=>Xa d x l) hp hx hn
theorem ZkV (h : Qr c l = 0) (hp : ∀ j,j < k → ∀ y,c.l[j]? = some y → Xa d y l = 0) (hk : c.l.length ≤ k) : Xa (d + 1) c l = 0:=by
 rw [Xa,h,if_neg (by simp)]; exact Zhk (f:=fun x=>Xa d x l) hp hk
end
end Go.Civ
namespace Go.Civ
open Go.RowKit
set_option linter.unusedVariables false
def Y6 (f : Cond → Int) : List Cond → Int → Int
 | [],n=>n
 | x :: r,n=>if n ≤ 60 then Y6 f r (n + f x) else n
def Ya : Nat → Cond → Int → Int
 | 0,_,_=>61
 | d + 1,c,dep=>if 12 < dep then 61 else if Z2 c = false then 61 else Y6 (fun x=>Ya d x (dep + 1)) c.l 1
theorem Zg0 {f : Cond → Int} {x : Cond} : ∀ {l : List Cond} {n : Int},Y6 f (l ++ [x]) n = if Y6 f l n ≤ 60 then Y6 f l n + f x else Y6 f l n
 | [],n=>rfl
 | y :: l,n=>by
  rw [List.cons_append,Y6,Y6]
  by_cases h : n ≤ 60
  ·rw [if_pos h,if_pos h,Zg0]
  ·rw [if_neg h,if_neg h,if_neg h]
theorem ZkD {f : Cond → Int} {l : List Cond} {k : Nat} {x : Cond} {n m : Int} (hx : l[k]? = some x) (h : m = Y6 f (l.take k) n) (hm : m ≤ 60) : m + f x = Y6 f (l.take (k + 1)) n:=by
 rw [List.take_add_one,hx,Option.toList_some,Zg0,← h,if_pos hm]
theorem Zhm {f : Cond → Int} : ∀ {r : List Cond} {n : Int},60 < n → Y6 f r n = n
 | [],_,_=>rfl
 | _ :: _,n,h=>by rw [Y6,if_neg (by omega)]
theorem Zf2 {f : Cond → Int} : ∀ {l r : List Cond} {n : Int},Y6 f (l ++ r) n = Y6 f r (Y6 f l n)
 | [],r,n=>rfl
 | y :: l,r,n=>by
  rw [List.cons_append,Y6,Y6]
  by_cases h : n ≤ 60
  ·rw [if_pos h,if_pos h,Zf2]
  ·rw [if_neg h,if_neg h,Zhm (by omega)]
theorem ZkE {f : Cond → Int} {l : List Cond} {k : Nat} {n m : Int} (h : m = Y6 f (l.take k) n) (hm : 60 < m) : Y6 f l n = m:=by
 conv=>lhs; rw [← List.take_append_drop k l,Zf2,← h,Zhm hm]
theorem Zit {f : Cond → Int} {M : Int} (h0 : ∀ x,1 ≤ f x ∧ f x ≤ M) : ∀ {l : List Cond} {n : Int},1 ≤ n → n ≤ 60 + M → 1 ≤ Y6 f l n ∧ Y6 f l n ≤ 60 + M
 | [],n,h1,h2=>⟨h1,h2⟩
 | x :: r,n,h1,h2=>by
  rw [Y6]
  have:=h0 x
  by_cases h : n ≤ 60
  ·rw [if_pos h]; exact Zit h0 (by omega) (by omega)
  ·rw [if_neg h]; exact ⟨h1,h2⟩
theorem ZbN : ∀ (d : Nat) (c : Cond) (dep : Int),(0 ≤ dep ∧ dep ≤ 13) → 1 ≤ Ya d c dep ∧ Ya d c dep ≤ 61 + 60 * (13 - dep)
 | 0,c,dep,h=>by rw [Ya]; omega
 | d + 1,c,dep,h=>by
  rw [Ya]
  by_cases h1 : 12 < dep
  ·rw [if_pos h1]; omega
  ·rw [if_neg h1]
   by_cases h2 : Z2 c = false
   ·rw [if_pos h2]; omega
   ·rw [if_neg h2]
    have:=Zit (f:=fun x=>Ya d x (dep + 1)) (M:=61 + 60 * (13 - (dep + 1))) (fun x=>ZbN d x (dep + 1) (by omega)) (l:=c.l) (n:=1) (by omega) (by omega)
    omega
section
variable {d : Nat} {c : Cond} {dep : Int} {k : Nat}
theorem ZpG (h : 12 < dep) : Ya (d + 1) c dep = 61:=by rw [Ya,if_pos h]
theorem ZpH (h1 : dep ≤ 12) (h2 : Z2 c = false) : Ya (d + 1) c dep = 61:=by rw [Ya,if_neg (by omega),if_pos h2]
theorem ZkW {m : Int} (h1 : dep ≤ 12) (h2 : Z2 c = true) (h : m = Y6 (fun x=>Ya d x (dep + 1)) (c.l.take k) 1) (hk : c.l.length ≤ k ∨ 60 < m) : Ya (d + 1) c dep = m:=by
 rw [Ya,if_neg (by omega),if_neg (by rw [h2]; simp)]
 rcases hk with hk | hk
 ·rw [h,List.take_of_length_le hk]
 ·exact ZkE h hk
end
def YW (f : Cond → Int → Bool × Int) : List Cond → Int → Bool × Int
 | [],n=>(true,n)
 | x :: r,n=>bif (f x n).1 then YW f r (f x n).2 else (false,(f x n).2)
def Yw : Nat → Cond → Int → Int → Bool × Int
 | 0,_,_,n=>(false,n)
 | d + 1,c,dep,n=>if 60 < n + 1 ∨ 12 < dep then (false,n + 1) else bif Z2 c then YW (fun x m=>Yw d x (dep + 1) m) c.l (n + 1) else (false,n + 1)
theorem Zcw {f : Cond → Int → Bool × Int} : ∀ {l r : List Cond} {n : Int},YW f (l ++ r) n = bif (YW f l n).1 then YW f r (YW f l n).2 else (false,(YW f l n).2)
 | [],r,n=>rfl
 | y :: l,r,n=>by
  rw [List.cons_append,YW,YW]
  cases (f y n).1
  ·rfl
  ·simp only [cond_true]; exact Zcw
theorem Zjz {f : Cond → Int → Bool × Int} {l : List Cond} {k : Nat} {x : Cond} {n m : Int} (hx : l[k]? = some x) (h : YW f (l.take k) n = (true,m)) (hf : (f x m).1 = true) : YW f (l.take (k + 1)) n = (true,(f x m).2):=by
 rw [List.take_add_one,hx,Option.toList_some,Zcw,h]; simp [YW,hf]
theorem Zj0 {f : Cond → Int → Bool × Int} {l : List Cond} {k : Nat} {x : Cond} {n m : Int} (hx : l[k]? = some x) (h : YW f (l.take k) n = (true,m)) (hf : (f x m).1 = false) : YW f l n = (false,(f x m).2):=by
 have hk:=(List.getElem?_eq_some_iff.1 hx).1
 have e : l = l.take k ++ x :: l.drop (k + 1):=by
  have:=List.take_append_drop k l
  rw [List.drop_eq_getElem_cons hk,(List.getElem?_eq_some_iff.1 hx).2] at this
  exact this.symm
 conv=>lhs; rw [e,Zcw,h]
 simp [YW,hf]
theorem Zhn : ∀ {d : Nat} {c : Cond} {dep n : Int},(Yw d c dep n).1 = true → n + 1 ≤ (Yw d c dep n).2 ∧ (Yw d c dep n).2 ≤ 60
 | 0,c,dep,n,h=>by cases h
 | d + 1,c,dep,n,h=>by
  rw [Yw] at h ⊢
  by_cases h1 : 60 < n + 1 ∨ 12 < dep
  ·rw [if_pos h1] at h; cases h
  ·rw [if_neg h1] at h ⊢
   cases h2 : Z2 c with
   | false=>rw [h2] at h; cases h
   | true=>
    rw [h2] at h
    simp only [cond_true] at h ⊢
    have key : ∀ (l : List Cond) (m : Int),m ≤ 60 → (YW (fun x m=>Yw d x (dep + 1) m) l m).1 = true → m ≤ (YW (fun x m=>Yw d x (dep + 1) m) l m).2 ∧ (YW (fun x m=>Yw d x (dep + 1) m) l m).2 ≤ 60:=by
     intro l
     induction l with
     | nil=>intro m hm _; exact ⟨Int.le_refl _,hm⟩
     | cons x r ih=>
      intro m hm hh
      rw [YW] at hh ⊢
      cases h3 : (Yw d x (dep + 1) m).1 with
      | false=>rw [h3] at hh; cases hh
      | true=>
       rw [h3] at hh
       simp only [cond_true] at hh ⊢
       have a:=Zhn h3
       have b:=ih _ a.2 hh
       omega
    exact key _ _ (by omega) h
theorem ZcS {f : Cond → Int} (h0 : ∀ x,0 ≤ f x) : ∀ {l : List Cond} {n : Int},n ≤ Y6 f l n
 | [],n=>Int.le_refl _
 | x :: r,n=>by
  rw [Y6]; have:=h0 x
  by_cases h : n ≤ 60
  ·rw [if_pos h]; have:=ZcS h0 (l:=r) (n:=n + f x); omega
  ·rw [if_neg h]; exact Int.le_refl _
theorem Zf8 : ∀ {d : Nat} {c : Cond} {dep n : Int},0 ≤ n → 0 ≤ dep → dep ≤ 13 → (Yw d c dep n).1 = decide (n + Ya d c dep ≤ 60) ∧ ((Yw d c dep n).1 = true → (Yw d c dep n).2 = n + Ya d c dep)
 | 0,c,dep,n,h0,h1,h2=>by rw [Yw,Ya,decide_eq_false (by omega)]; exact ⟨rfl,fun h=>by cases h⟩
 | d + 1,c,dep,n,h0,h1,h2=>by
  rw [Yw,Ya]
  by_cases g1 : 12 < dep
  ·rw [if_pos (.inr g1),if_pos g1,decide_eq_false (by omega)]; exact ⟨rfl,fun h=>by cases h⟩
  ·rw [if_neg g1]
   cases g2 : Z2 c with
   | false=>
    rw [if_pos rfl,decide_eq_false (by omega)]
    by_cases g3 : 60 < n + 1 ∨ 12 < dep
    ·rw [if_pos g3]; exact ⟨rfl,fun h=>by cases h⟩
    ·rw [if_neg g3]; exact ⟨rfl,fun h=>by cases h⟩
   | true=>
    rw [if_neg (show ¬ (true = false) by simp)]
    have pos : ∀ x,1 ≤ Ya d x (dep + 1):=fun x=>(ZbN d x (dep + 1) (by omega)).1
    have ge:=ZcS (f:=fun x=>Ya d x (dep + 1)) (fun x=>by have:=pos x; omega) (l:=c.l) (n:=1)
    by_cases g3 : 60 < n + 1 ∨ 12 < dep
    ·rw [if_pos g3,decide_eq_false (by omega)]; exact ⟨rfl,fun h=>by cases h⟩
    ·rw [if_neg g3]
     simp only [cond_true]
     have key : ∀ (l : List Cond) (m : Int),1 ≤ m → n + m ≤ 60 → (YW (fun x m=>Yw d x (dep + 1) m) l (n + m)).1 = decide (n + Y6 (fun x=>Ya d x (dep + 1)) l m ≤ 60) ∧ ((YW (fun x m=>Yw d x (dep + 1) m) l (n + m)).1 = true → (YW (fun x m=>Yw d x (dep + 1) m) l (n + m)).2 = n + Y6 (fun x=>Ya d x (dep + 1)) l m):=by
      intro l
      induction l with
      | nil=>intro m hm hn; rw [YW,Y6,decide_eq_true hn]; exact ⟨rfl,fun _=>rfl⟩
      | cons x r ih=>
       intro m hm hn
       rw [YW,Y6,if_pos (by omega)]
       have a:=Zf8 (d:=d) (c:=x) (dep:=dep + 1) (n:=n + m) (by omega) (by omega) (by omega)
       have hx:=pos x
       have ge2:=ZcS (f:=fun x=>Ya d x (dep + 1)) (fun x=>by have:=pos x; omega) (l:=r) (n:=m + Ya d x (dep + 1))
       by_cases g4 : n + m + Ya d x (dep + 1) ≤ 60
       ·have a1 : (Yw d x (dep + 1) (n + m)).1 = true:=by rw [a.1]; exact decide_eq_true g4
        rw [a1,a.2 a1]
        simp only [cond_true]
        have:=ih (m + Ya d x (dep + 1)) (by omega) (by omega)
        rw [show n + m + Ya d x (dep + 1) = n + (m + Ya d x (dep + 1)) by omega]
        exact this
       ·have a1 : (Yw d x (dep + 1) (n + m)).1 = false:=by rw [a.1]; exact decide_eq_false g4
        rw [a1]
        simp only [cond_false]
        rw [decide_eq_false (by omega)]; exact ⟨rfl,fun h=>by cases h⟩
     exact key c.l 1 (by omega) (by omega)
section
variable {d : Nat} {c : Cond} {dep n : Int} {k : Nat}
theorem Zho (h : 60 < n + 1 ∨ 12 < dep) : Yw (d + 1) c dep n = (false,n + 1):=by rw [Yw,if_pos h]
theorem YE (h1 : n + 1 ≤ 60) (h2 : dep ≤ 12) (h3 : Z2 c = false) : Yw (d + 1) c dep n = (false,n + 1):=by rw [Yw,if_neg (by omega),h3]; rfl
theorem ZmL {x : Cond} {m : Int} (h1 : n + 1 ≤ 60) (h2 : dep ≤ 12) (h3 : Z2 c = true) (hx : c.l[k]? = some x) (h : YW (fun x m=>Yw d x (dep + 1) m) (c.l.take k) (n + 1) = (true,m)) (hf : (Yw d x (dep + 1) m).1 = false) : Yw (d + 1) c dep n = (false,(Yw d x (dep + 1) m).2):=by
 rw [Yw,if_neg (by omega),h3]; exact Zj0 hx h hf
theorem ZmM {m : Int} (h1 : n + 1 ≤ 60) (h2 : dep ≤ 12) (h3 : Z2 c = true) (hk : c.l.length ≤ k) (h : YW (fun x m=>Yw d x (dep + 1) m) (c.l.take k) (n + 1) = (true,m)) : Yw (d + 1) c dep n = (true,m):=by
 rw [Yw,if_neg (by omega),h3]; rw [List.take_of_length_le hk] at h; exact h
end
def Xq (d : Nat) (c : Cond) (l : List Col) : Int:=if Ya d c 1 ≤ 60 then Xa d c l else 1
theorem Zj1 {d : Nat} {c : Cond} : (Yw d c 1 0).1 = decide (Ya d c 1 ≤ 60):=by
 have:=(Zf8 (d:=d) (c:=c) (dep:=1) (n:=0) (by omega) (by omega) (by omega)).1
 rw [this]; congr 1; rw [Int.zero_add]
def ZiO : Nat → Cond → Prop
 | 0,_=>False
 | d + 1,c=>Z2 c = true ∧ ∀ x ∈ c.l,ZiO d x
theorem ZhP : ∀ {d : Nat} {c : Cond} {dep : Int},0 ≤ dep → dep ≤ 13 → Ya d c dep ≤ 60 → ZiO d c
 | 0,c,dep,_,_,h=>by rw [Ya] at h; omega
 | d + 1,c,dep,h0,h1,h=>by
  rw [Ya] at h
  by_cases g1 : 12 < dep
  ·rw [if_pos g1] at h; omega
  ·rw [if_neg g1] at h
   cases g2 : Z2 c with
   | false=>rw [if_pos g2] at h; omega
   | true=>
    rw [if_neg (by rw [g2]; simp)] at h
    refine ⟨g2,?_⟩
    have pos : ∀ x,1 ≤ Ya d x (dep + 1):=fun x=>(ZbN d x (dep + 1) (by omega)).1
    have key : ∀ (l : List Cond) (m : Int),1 ≤ m → Y6 (fun x=>Ya d x (dep + 1)) l m ≤ 60 → ∀ x ∈ l,Ya d x (dep + 1) ≤ 60:=by
     intro l
     induction l with
     | nil=>intro m _ _ x hx; simp at hx
     | cons y r ih=>
      intro m hm hh x hx
      rw [Y6] at hh
      have hy:=pos y
      by_cases g3 : m ≤ 60
      ·rw [if_pos g3] at hh
       have ge:=ZcS (f:=fun x=>Ya d x (dep + 1)) (fun x=>by have:=pos x; omega) (l:=r) (n:=m + Ya d y (dep + 1))
       rcases List.mem_cons.1 hx with rfl | hx
       ·omega
       ·exact ih _ (by omega) hh x hx
      ·rw [if_neg g3] at hh; omega
    exact fun x hx=>ZhP (dep:=dep + 1) (by omega) (by omega) (key c.l 1 (by omega) h x hx)
section
variable {d : Nat} {c x y : Cond} {l : List Col} {v : List Val}
end
end Go.Civ
