/- Lemmas. -/
import Derived.Test.YtecneejegecmhaaGreatDoorK07
import Derived.Maps.Own
set_option linter.unusedVariables false
set_option linter.unusedSimpArgs false
set_option linter.unnecessarySimpa false
namespace Go.Civ
open Go.RowKit
set_option linter.unusedVariables false
def ZfB (P : Program) : List ResultVar → Env → World → List Value → Prop
 | [],_,_,vs=>vs = []
 | .tmp t :: r,ρ,w,vs=>∃ vs',vs = ρ t :: vs' ∧ ZfB P r ρ w vs'
 | .cell a t :: r,ρ,w,vs=>∃ v vs' p,vs = v :: vs' ∧ ρ a = .pointer (some p) ∧ (loadVar t p).run P w = .ok v w ∧ ZfB P r ρ w vs'
def tup : List Value → Value
 | [v]=>v
 | vs=> .tuple vs.toArray
def Z01 (P : Program) (rs : List ResultVar) (R : Ending → World → Prop) : Exit → Env → World → Prop
 | .normal,ρ,w | .ret,ρ,w=>∃ vs,ZfB P rs ρ w vs ∧ R (.returned (tup vs)) w
 | _,_,_=>False
section
variable {P : Program} {N : Nat} {Q : Exit → Env → World → Prop} {ρ : Env} {w : World}
theorem ZqC (rs : List ResultVar) (tmps : Array Value) {vs : List Value} (h : ∀ t,tmps.getD t undef = ρ t) (hv : ZfB P rs ρ w vs) :
  (rs.mapM (rv tmps)).run P w = .ok vs w:=by
 induction rs generalizing vs with
 | nil=>simp only [ZfB] at hv; subst hv; simp
 | cons r rs ih=>
  cases r with
  | tmp t=>
   obtain ⟨vs',rfl,h1⟩:=hv
   have:=ih h1
   simp only [List.mapM_cons]
   simp only [Sem.run_bind,this,Result.andThen,Sem.run_pure,rv,h]
  | cell a t=>
   obtain ⟨v,vs',p,rfl,h1,h2,h3⟩:=hv
   have:=ih h3
   simp only [List.mapM_cons]
   simp only [Sem.run_bind,this,Result.andThen,Sem.run_pure,rv,h,h1,asAddr,h2]
theorem ZfC {fn : Func} {a : Act} {vs : List Value} (ha : Fits N a ρ) (hv : ZfB P fn.results.toList ρ w vs) : (results fn a.tmps).run P w = .ok (tup vs) w:=by
 have h:=ZqC fn.results.toList a.tmps ha.get hv
 rw [Zhz,Array.mapM_eq_mapM_toList,Sem.run_bind,Sem.run_map,h]
 match vs with
 | []=>simp [Result.andThen,tup]
 | [x]=>simp [Result.andThen,tup]
 | x :: y :: z=>simp [Result.andThen,tup]
theorem ZkH {f : FuncId} {fn : Func} {c : Code} {args : Array Value} {R : Ending → World → Prop}
  (hf : P.funcs[f]? = some fn) (hb : fn.body = some c) (hN : fn.ntmps = N) (hle : Nat.ble args.size N = true)
  (h : WC P N c (Z01 P fn.results.toList R) (fun t=>args.getD t undef) w) : Calls P f args w R:=by
 refine calls_of_wp hf hb ?_
 have hle' : args.size ≤ N:=by simpa using hle
 have ha : Fits N { tmps:=args ++ Array.replicate (fn.ntmps - args.size) undef,defers:=[] } (fun t=>args.getD t undef):=by
  refine ⟨by simp [hN]; omega,fun t=>?_,rfl⟩
  simp only [Array.getD_eq_getD_getElem?,Array.getElem?_append,Array.getElem?_replicate,hN]
  split
  ·rfl
  ·rename_i hlt
   rw [Array.getElem?_eq_none (xs:=args) (by omega)]
   split <;> rfl
 refine wp_mono (h _ ha) ?_
 rintro e a' w' ⟨ρ',hf',hq⟩
 cases e with
 | normal=>obtain ⟨v,hv,hR⟩:=hq; exact ⟨hf'.defers,_,ZfC hf' hv,hR⟩
 | ret=>obtain ⟨v,hv,hR⟩:=hq; exact ⟨hf'.defers,_,ZfC hf' hv,hR⟩
 | exit id=>exact hq.elim
 | goto l=>exact hq.elim
 | panic ch=>exact hq.elim
 | outgrown=>exact hq.elim
structure RQR (P : Program) (rs : List ResultVar) (R : Ending → World → Prop) (ρ : Env) (w : World) : Prop where
 h : ∃ vs,ZfB P rs ρ w vs ∧ R (.returned (tup vs)) w
def ZxO (P : Program) (rs : List ResultVar) (R : Ending → World → Prop) : Exit → Env → World → Prop
 | .normal,ρ,w=>RQR P rs R ρ w
 | .ret,ρ,w=>RQR P rs R ρ w
 | _,_,_=>False
theorem Yw {f : FuncId} {fn : Func} {c : Code} {args : Array Value} {R : Ending → World → Prop} (F : FTab P) (J : List Nat)
  (hf : P.funcs[f]? = some fn) (hb : fn.body = some c) (hle : Nat.ble args.size fn.ntmps = true)
  (h : goC F fn.ntmps J c (ZxO P fn.results.toList R) (fun t=>args.getD t undef) w) (hok : okD fn.ntmps c = true:=by kernel_rfl) : Calls P f args w R:=by
 refine ZkH (N:=fn.ntmps) hf hb rfl hle ((goC.ok hok h).mono fun e ρ w hq=>?_)
 cases e with
 | normal=>exact hq.h
 | ret=>exact hq.h
 | _=>exact hq.elim
theorem Qk {rs : List ResultVar} {w0 : World} {X : List Nat} {G0 G : GH} {L : Own} {B : GH → World → Value → Prop} (vs : List Value) (hS : St w0 X G0 G L w) (hv : ZfB P rs ρ w vs) (hB : B G w (tup vs)) :
  RQR P rs (fun e w'=>∃ r G',e = .returned r ∧ Res X w0 G0 w' G' ∧ B G' w' r) ρ w:=⟨vs,hv,_,G,rfl,hS.res,hB⟩
end
section
variable {P : Program} {w0 w w' : World} {X : List Nat} {G0 G G' : GH} {L : Own} {o : OB}
theorem St.loadA {t : TypeId} {ti : TI} (hS : St w0 X G0 G L w) (i : Nat) (b : Nat) (e : TypeId) (cs : List Value) (off : Nat) (vs : List Value) (hi : L[i]? = some (some (b,e,cs))) (hv : (cs.drop off).take ti.size = vs) (hn : vs.length = ti.size)
  (ht : Yj P t = some ti) (ha : ti.agg = true) : (loadVar t ⟨b,off,none⟩).run P w = .ok (.agg vs.toArray) w:=by
 have hc : ∀ (j : Nat) v,vs[j]? = some v → w.cell? ((⟨b,off,none⟩ : Addr).add j) = some v:=fun j v h=>by
  rw [YC _ _ rfl]
  refine hS.cell i hi ?_
  subst hv
  rw [List.getElem?_take] at h
  split at h
  ·rwa [List.getElem?_drop] at h
  ·cases h
 simp [loadVar,Zbh ht,ha,Xt ht,Zcs hn hc,Result.andThen]
theorem St.loadC {t : TypeId} {ti : TI} {p : Addr} {cs : List Value} (hS : St w0 X G0 G L w) (hc : Xh G p cs) (ht : Yj P t = some ti) (ha : ti.agg = true) (hn : cs.length = ti.size) : (loadVar t p).run P w = .ok (.agg cs.toArray) w:=by
 simp [loadVar,Zbh ht,ha,Xt ht,Zcs hn (fun _ _ h=>hc.cell hS.imm h),Result.andThen]
theorem St.sealAt {b : Nat} {e : TypeId} {cs : List Value} (h : St w0 X G0 G L w) (i : Nat) (hi : L[i]? = some (some (b,e,cs))) (hb : w0.heap.size ≤ b) : ∃ G',G.le G' ∧ Xh G' ⟨b,0,none⟩ cs ∧ St w0 X G0 G' (L.set i none) w:=by
 have f:=h.freeze i (b:=b) (e:=e) (cs:=cs) hi hb
 have hG : G b = none:=(h.sep i _ hi).2
 exact ⟨_,G.add_le _ hG,⟨rfl,_,_,_,GH.add_at _ _ _,fun j v hv=>by simpa using hv⟩,f⟩
theorem St.sealSlAt {α : Type} {E : Enc α} {by_ : Nat} {l : List α} {b : Nat} {e : TypeId} {cs : List Value} (h : St w0 X G0 G L w) (i : Nat) (hi : L[i]? = some (some (b,e,cs))) (hb : w0.heap.size ≤ b) (hf : Qx E G l cs) {n : Nat} (hn : n = l.length) (hby : n * by_ ≤ reach) (hlen : n ≤ reach) :
  ∃ G',G.le G' ∧ Sl E by_ G' (.slice (some ⟨b,0,none⟩) n n) l ∧ St w0 X G0 G' (L.set i none) w:=by
 obtain ⟨G',h1,h2,h3⟩:=h.sealAt i hi hb
 subst hn
 refine ⟨G',h1,⟨some ⟨b,0,none⟩,l.length,rfl,Nat.le_refl _,hby,hlen,fun i x hx=>⟨_,rfl,rfl,?_⟩⟩,h3⟩
 exact (hf.mono h1).rows h2 i x hx
end
section
variable {P : Program} {Q : Exit → Env → World → Prop} {ρ : Env} {w : World} {ops : Array Oper} {rest : List Oper} {K : Env → World → Prop}
variable {d : Nat} {ty : TypeId} {pos : String} {af : Array Edge} {g : Option (Nat × Bool)}
theorem Yy {t e : TypeId} {x ix : Operand} {ti : TI} (p : Addr) (m n : Nat) (hlt : Nat.blt n m = true) (hu : P.underlying t = some (.array m e)) (ht : Yj P e = some ti)
  (hw : Region.wanted ⟨some d, .indexAddr t x ix,ty,pos,af,g⟩ (Zu ops ρ) = true) (hx : ev ρ x = .pointer (some p)) (hi : ev ρ ix = .int .i64 (n : Int))
  (k : K (ZQ ρ d (.pointer (some (p.add (n * ti.size))))) w) : OW P ops ⟨some d, .indexAddr t x ix,ty,pos,af,g⟩ ρ w K:=by
 have hlt' : n < m:=by simpa using hlt
 refine WL.val hw ?_ rfl k
 simp [execOp,Instr.indexAt,hi,hx,asIntOf,Yt hu,Instr.sureAddr,Xt ht,Result.andThen]
 rw [if_pos (by omega)]
theorem Zb5 {t e : TypeId} {m : Nat} {parts : Array (Nat × Operand)} {ti te : TI} (ps : List (Nat × Value)) (pc : List (Nat × List Value)) (cs : List Value) (ht : Yj P t = some ti) (hu : P.underlying t = some (.array m e)) (he : Yj P e = some te)
  (hw : Region.wanted ⟨some d, .build t parts,ty,pos,af,g⟩ (Zu ops ρ) = true) (hps : parts.toList.map (fun q=>(q.1,ev ρ q.2)) = ps) (hpc : ps.map (fun q=>(q.1,q.2.cells.toList)) = pc) (hfill : Zal (ZaX m te.size) pc ti.zero.cells.toList = some cs)
  (k : K (ZQ ρ d (.agg cs.toArray)) w) : OW P ops ⟨some d, .build t parts,ty,pos,af,g⟩ ρ w K:=by
 refine WL.val hw ?_ rfl k
 subst hpc
 have hf : Instr.fill (fun i=>some (i * te.size,te.size)) ti.zero.cells ps = some cs.toArray:=ZeE te.size m ps ti.zero.cells cs hfill
 have hpe : (parts.map fun x=>(x.1,ev ρ x.2)).toList = ps:=by simpa using hps
 simp only [execOp,Sem.run_bind,Instr.build,Za3 ht,Yt hu,Result.andThen,Xt he,hpe,hf,Sem.run_pure]
end
end Go.Civ
namespace Go.Civ
set_option linter.unusedVariables false
def ZdD (a m b p : Nat) : Nat:=if a ≤ p ∧ p < a + (b - m) then p + (m - a) else if a + (b - m) ≤ p ∧ p < b then p - (b - m) else p
def Zgo (a b n p : Nat) : Nat:=if a ≤ p ∧ p < a + n then p - a + b else if b ≤ p ∧ p < b + n then p - b + a else p
section
variable {α : Type}
structure Moved (l L : List α) (f : Nat → Nat) : Prop where
 perm : L.Perm l
 map : ∀ p,p < l.length → L[p]? = l[f p]?
variable {l L M : List α} {f g : Nat → Nat}
theorem Moved.len (h : Moved l L f) : L.length = l.length:=h.perm.length_eq
theorem Moved.refl (hf : ∀ p,p < l.length → f p = p) : Moved l l f:=⟨List.Perm.refl _,fun p hp=>by rw [hf p hp]⟩
theorem Moved.swap (h : Moved l L f) {i j : Nat} {x y : α} (hi : L[i]? = some x) (hj : L[j]? = some y) (hij : i ≠ j) (hg : ∀ p,p < l.length → g p = if p = i then f j else if p = j then f i else f p) : Moved l ((L.set i y).set j x) g:=by
 have hil : i < L.length:=(List.getElem?_eq_some_iff.1 hi).1
 have hjl : j < L.length:=(List.getElem?_eq_some_iff.1 hj).1
 have hl:=h.len
 refine ⟨(Zjc hij hi hj).trans h.perm,fun p hp=>?_⟩
 rw [hg p hp,List.getElem?_set]
 by_cases h1 : j = p
 ·subst h1
  rw [if_pos rfl,if_pos (by simpa using hjl),if_neg (Ne.symm hij),if_pos rfl,← hi]
  exact h.map i (by omega)
 ·rw [if_neg h1,List.getElem?_set]
  by_cases h2 : i = p
  ·subst h2
   rw [if_pos rfl,if_pos hil,if_pos rfl,← hj]
   exact h.map j (by omega)
  ·rw [if_neg h2,if_neg (Ne.symm h2),if_neg (Ne.symm h1)]; exact h.map p hp
structure RotInv (l M : List α) (a m b i j : Nat) : Prop where
 perm : M.Perm l
 map : ∀ p,p < l.length → M[ZdD (m - i) m (m + j) p]? = l[ZdD a m b p]?
theorem RotInv.start {a m b : Nat} (h1 : a ≤ m) (h2 : m ≤ b) : RotInv l l a m b (m - a) (b - m):=by
 refine ⟨List.Perm.refl _,fun p hp=>?_⟩
 rw [show m - (m - a) = a by omega,show m + (b - m) = b by omega]
theorem RotInv.len {a m b i j : Nat} (h : RotInv l M a m b i j) : M.length = l.length:=h.perm.length_eq
theorem RotInv.left {a m b i j : Nat} (h : RotInv l M a m b i j) (k : Moved M L (Zgo (m - i) m j)) (hij : j < i) (hi : i ≤ m) (hj : m + j ≤ l.length) : RotInv l L a m b (i - j) j:=by
 refine ⟨k.perm.trans h.perm,fun p hp=>?_⟩
 have hl:=h.len
 rw [k.map _ (by rw [hl]; unfold ZdD; split <;> (try split) <;> omega),← h.map p hp]
 congr 1
 unfold Zgo ZdD
 repeat' split
 all_goals omega
theorem RotInv.right {a m b i j : Nat} (h : RotInv l M a m b i j) (k : Moved M L (Zgo (m - i) (m + j - i) i)) (hij : i < j) (hi : i ≤ m) (hj : m + j ≤ l.length) : RotInv l L a m b i (j - i):=by
 refine ⟨k.perm.trans h.perm,fun p hp=>?_⟩
 have hl:=h.len
 rw [k.map _ (by rw [hl]; unfold ZdD; split <;> (try split) <;> omega),← h.map p hp]
 congr 1
 unfold Zgo ZdD
 repeat' split
 all_goals omega
theorem RotInv.done {a m b i j : Nat} (h : RotInv l M a m b i j) (k : Moved M L (Zgo (m - i) m i)) (hij : i = j) (hi : i ≤ m) (hj : m + j ≤ l.length) : Moved l L (ZdD a m b):=by
 subst hij
 refine ⟨k.perm.trans h.perm,fun p hp=>?_⟩
 have hl:=h.len
 rw [k.map p (by omega),← h.map p hp]
 congr 1
 unfold Zgo ZdD
 repeat' split
 all_goals omega
variable {pf : α → α → Int}
def Zvl (pf : α → α → Int) (l : List α) : Prop:=∀ x ∈ l,∀ y ∈ l,pf x y < 0 → ¬ pf y x < 0
def Zvm (pf : α → α → Int) (l : List α) : Prop:=∀ x ∈ l,∀ y ∈ l,∀ z ∈ l,¬ pf y x < 0 → ¬ pf z y < 0 → ¬ pf z x < 0
def ZxP (pf : α → α → Int) (M : List α) (a mid b : Nat) : Prop:=∀ p q u v,a ≤ p → p < mid → mid ≤ q → q < b → M[p]? = some u → M[q]? = some v → ¬ pf v u < 0
structure Halves (pf : α → α → Int) (l M : List α) (a s mid e b : Nat) : Prop where
 perm : M.Perm l
 frame : ∀ p,p < a ∨ b ≤ p → M[p]? = l[p]?
 s1 : Asc pf M a s
 s2 : Asc pf M s mid
 s3 : Asc pf M mid e
 s4 : Asc pf M e b
 cross : ZxP pf M a mid b
theorem Ins.from_ {a b i p : Nat} {x : α} (h : Ins pf l L a b i) (hab : a ≤ b) (h1 : a ≤ p) (h2 : p < b) (hx : L[p]? = some x) : ∃ q,a ≤ q ∧ q < b ∧ l[q]? = some x:=by
 have hl:=h.len
 have e1 : L.take a = l.take a:=by
  apply List.ext_getElem?; intro k
  rw [List.getElem?_take,List.getElem?_take]
  split
  ·exact h.frame k (by omega)
  ·rfl
 have e2 : L.drop b = l.drop b:=by
  apply List.ext_getElem?; intro k
  rw [List.getElem?_drop,List.getElem?_drop]; exact h.frame _ (by omega)
 have dec : ∀ t : List α,t = t.take a ++ ((t.drop a).take (b - a) ++ t.drop b):=fun t=>by
  rw [show t.drop b = (t.drop a).drop (b - a) by rw [List.drop_drop]; congr 1; omega,List.take_append_drop,List.take_append_drop]
 have hp:=h.perm
 rw [dec L,dec l,e1,e2,List.perm_append_left_iff,List.perm_append_right_iff] at hp
 have hm : x ∈ (L.drop a).take (b - a):=by
  refine List.mem_of_getElem? (i:=p - a) ?_
  rw [List.getElem?_take,if_pos (by omega),List.getElem?_drop,show a + (p - a) = p by omega]; exact hx
 obtain ⟨k,hk⟩:=List.getElem?_of_mem (hp.mem_iff.1 hm)
 rw [List.getElem?_take] at hk
 split at hk
 ·rw [List.getElem?_drop] at hk; exact ⟨a + k,by omega,by omega,hk⟩
 ·cases hk
theorem Asc.empty {a b : Nat} (h : b ≤ a + 1) : Asc pf l a b:=fun p q x y h1 h2 h3=>by omega
theorem Halves.done {a s mid e b : Nat} {M1 M2 : List α} (h : Halves pf l M a s mid e b) (h1 : Ins pf M M1 a mid mid) (h2 : Ins pf M1 M2 mid b b) (ha : a ≤ mid) (hb : mid ≤ b) : Ins pf l M2 a b b:=by
 refine ⟨h2.perm.trans (h1.perm.trans h.perm),fun p hp=>?_,fun p q u v k1 k2 k3 hu hv=>?_⟩
 ·rw [h2.frame p (by omega),h1.frame p (by omega)]; exact h.frame p hp
 ·rcases Nat.lt_or_ge q mid with c | c
  ·rw [h2.frame p (by omega)] at hu; rw [h2.frame q (by omega)] at hv
   exact h1.asc p q u v k1 k2 c hu hv
  ·rcases Nat.lt_or_ge p mid with d | d
   ·rw [h2.frame p (by omega)] at hu
    obtain ⟨p',a1,a2,a3⟩:=h1.from_ ha k1 d hu
    obtain ⟨q',b1,b2,b3⟩:=h2.from_ hb c k3 hv
    rw [h1.frame q' (by omega)] at b3
    exact h.cross p' q' u v a1 a2 b1 b2 a3 b3
   ·exact h2.asc p q u v d k2 k3 hu hv
theorem Ins.same {a b : Nat} (h : Asc pf l a b) : Ins pf l l a b b:=⟨List.Perm.refl _,fun _ _=>rfl,h⟩
theorem Asc.frame {a b : Nat} (h : Asc pf l a b) (k : ∀ p,a ≤ p → p < b → L[p]? = l[p]?) : Asc pf L a b:=fun p q x y h1 h2 h3 hx hy=>by
 rw [k p h1 (by omega)] at hx; rw [k q (by omega) h3] at hy
 exact h p q x y h1 h2 h3 hx hy
theorem Zvl.perm (h : Zvl pf l) (k : L.Perm l) : Zvl pf L:=fun x hx y hy=>h x (k.mem_iff.1 hx) y (k.mem_iff.1 hy)
theorem Zvm.perm (h : Zvm pf l) (k : L.Perm l) : Zvm pf L:=fun x hx y hy z hz=>h x (k.mem_iff.1 hx) y (k.mem_iff.1 hy) z (k.mem_iff.1 hz)
end
end Go.Civ
namespace Go.Civ
open Go.RowKit Go.Maps
set_option linter.unusedVariables false
structure Apart (w0 : World) (G : GH) (L : Own) (b : Nat) : Prop where
 new : w0.heap.size ≤ b
 gh : G b = none
 own : ∀ (i : Nat) p,L[i]? = some (some p) → p.1 ≠ b
section
variable {P : Program} {N : Nat} {Q : Exit → Env → World → Prop} {ρ : Env} {w w0 : World} {ops : Array Oper} {rest : List Oper} {K KK : Env → World → Prop} {d : Nat} {ty : TypeId} {pos : String} {af : Array Edge} {g : Option (Nat × Bool)}
variable {X : List Nat} {G0 G : GH} {L : Own} {b : Nat}
theorem Zi5 {H : Type} {R : Value → Option (DataW H × List MemPlace)} {kt t e : TypeId} {n : Nat} {D : DataW H} (h : w.ownsMap P kt R b n D) (K : Keyed P kt) (ht : P.underlying t = some (.map kt e)) (hn : n < maxLen) {key val : Value} {kl : Lit} {dd : DataW H} {ps : List MemPlace}
  (hkey : keyOf P kt key = some kl) (hv : R val = some (dd,ps)) : ∃ w',(Instr.mapUpdate t (.map (some b)) key val).run P w = .ok () w' ∧ w'.ownsMap P kt R b (n + 1) (D.put kl dd) ∧ w.grownBy w' (some b) ∧ w.drawn ≤ w'.drawn:=by
 obtain ⟨w',h1,h2,h3⟩:=World.ownsMap.update h K ht hn hkey hv
 obtain ⟨es,clock,hb,F,hs,rfl⟩:=h
 obtain ⟨es',clock',hrun,_⟩:=Maps.fit_store (R':=R) K ht hb F (Nat.lt_of_le_of_lt hs hn) (fun _ _ _ _ hz=>hz) hkey hv
 refine ⟨w',h1,h2,h3,?_⟩
 rw [hrun] at h1
 injection h1 with _ e
 subst e
 exact Nat.le_refl _
theorem St.grown (h : St w0 X G0 G L w) (ha : Apart w0 G L b) {w' : World} (hg : w.grownBy w' (some b)) (hd : w.drawn ≤ w'.drawn) : St w0 X G0 G L w':=by
 have blk : ∀ k,k < w.heap.size → k ≠ b → w'.heap[k]? = w.heap[k]? :=fun k hk hne=>hg.block k hk (fun e=>hne (Option.some.inj e))
 refine ⟨⟨hg.os.trans h.kept.os,hg.tape.trans h.kept.tape,hg.output.trans h.kept.output,trivial,Nat.le_trans h.kept.size hg.size,fun k hk hX=>?_⟩,h.le,h.new,fun k o hk=>?_,fun i p hp=>?_,h.sep,h.nd⟩
 ·rw [blk k (Nat.lt_of_lt_of_le hk h.kept.size) (by have:=ha.new; omega)]; exact h.kept.block k hk hX
 ·have hne : k ≠ b:=fun e=>by subst e; rw [ha.gh] at hk; cases hk
  rw [blk k (h.imm.lt hk) hne]; exact h.imm k o hk
 ·rw [blk p.1 (h.ownLt hp) (ha.own i p hp)]; exact h.own i p hp
theorem Zmt {t ty' : TypeId} {x y : Operand} (a b : Bool) (ht : P.underlying t = some .bool) (hw : Region.wanted ⟨some d, .binOp .neq t x y ty',ty,pos,af,g⟩ (Zu ops ρ) = true) (hx : ev ρ x = .bool a) (hy : ev ρ y = .bool b)
  (kk : K (ZQ ρ d (.bool (a != b))) w) : OW P ops ⟨some d, .binOp .neq t x y ty',ty,pos,af,g⟩ ρ w K:=by
 refine WL.val hw ?_ rfl kk
 have e : (Op.equalIn Op.maxDepth t (.bool a) (.bool b)).run P w = .ok (a == b) w:=run_equalIn_bool' w 9999 t a b ht
 have h1 : (binOp .neq t (.bool a) (.bool b)).run P w = .ok (.bool (a != b)) w:=by
  simp [binOp,Op.equal,e,Result.andThen]; cases a <;> cases b <;> rfl
 have h2 : (eqGuard .neq t x y (.bool a) (.bool b)).run P w = .ok () w:=by unfold eqGuard; split <;> simp
 simp [execOp,hx,hy,h1,h2,Result.andThen]
abbrev Znn (P : Program) (K E : TypeId) (w : World) (b n : Nat) (D : DataW Unit) : Prop:=w.ownsMap P K (plainElem P E) b n D
theorem Zc8 {t : TypeId} (K E : TypeId) (hS : St w0 X G0 G L w) (hw : Region.wanted ⟨some d, .makeMap t none,ty,pos,af,g⟩ (Zu ops ρ) = true)
  (k : ∀ b w',Znn P K E w' b 0 (.map []) → Apart w0 G L b → St w0 X G0 G L w' → KK (ZQ ρ d (.map (some b))) w') : OW P ops ⟨some d, .makeMap t none,ty,pos,af,g⟩ ρ w KK:=by
 refine WL.val (v:= .map (some w.heap.size)) (w':=w.alloc (.map #[] 0)) hw ?_ rfl (k _ _ (World.ownsMap_made w P K _) ⟨h1,hS.imm.fresh (Nat.le_refl _),fun i p hp e=>?_⟩ ?_)
 ·simp [execOp,run_makeMap,Result.andThen]
 ·have:=hS.ownLt hp; omega
 ·exact hS.call (Res.alloc hS.imm _)
where h1:=hS.kept.size
theorem Qn {t K E : TypeId} {m x y : Operand} {n : Nat} {D : DataW Unit} (ki vi : Int) (hS : St w0 X G0 G L w) (ho : Znn P K E w b n D) (ha : Apart w0 G L b) (ht : P.underlying t = some (.map K E)) (uK : P.underlying K = some (.int .i64)) (uE : P.underlying E = some (.int .i64))
  (hk : Zj ki) (hv : Zj vi) (hn : n < 1000) (hw : Region.wanted ⟨none, .insert t m x y,ty,pos,af,g⟩ (Zu ops ρ) = true) (hm : ev ρ m = .map (some b)) (hx : ev ρ x = .int .i64 ki) (hy : ev ρ y = .int .i64 vi)
  (k : ∀ w',Znn P K E w' b (n + 1) (D.put (.int .i64 ki) (.lit (.int .i64 vi))) → St w0 X G0 G L w' → KK ρ w') : OW P ops ⟨none, .insert t m x y,ty,pos,af,g⟩ ρ w KK:=by
 have wf : ∀ {z : Int},Zj z → (Lit.int .i64 z).wf = true:=fun {z} h=>by
  simp [Lit.wf,IntKind.min,IntKind.max,IntKind.signed,IntKind.bits]; exact ⟨h.1,by have:=h.2; omega⟩
 have hkey : keyOf P K (.int .i64 ki) = some (.int .i64 ki):=by unfold keyOf; rw [uK]; simp [mapKey,uK,wf hk]
 obtain ⟨w',hrun,ho',hg,hdr⟩:=Zi5 ho (int_keyed uK) ht (by simp [maxLen]; omega) hkey (plainElem_int uE (wf hv))
 have:=k w' ho' (hS.grown ha hg hdr)
 exact Zop (w':=w') hw (by simp [execOp,hm,hx,hy,hrun,Result.andThen]) rfl this
theorem ZcV {t K E : TypeId} {m x : Operand} {n : Nat} {D : DataW Unit} (ki : Int) (ho : Znn P K E w b n D) (ht : P.underlying t = some (.map K E)) (uK : P.underlying K = some (.int .i64)) (uE : P.underlying E = some (.int .i64))
  (hk : Zj ki) (hz : (zeroValue E).run P w = .ok (.int .i64 0) w) (hw : Region.wanted ⟨some d, .lookup t m x false,ty,pos,af,g⟩ (Zu ops ρ) = true) (hm : ev ρ m = .map (some b)) (hx : ev ρ x = .int .i64 ki)
  (k : ∀ c,D.atKey (.int .i64 ki) (.lit (.int .i64 0)) = .lit (.int .i64 c) → KK (ZQ ρ d (.int .i64 c)) w) : OW P ops ⟨some d, .lookup t m x false,ty,pos,af,g⟩ ρ w KK:=by
 have wf : (Lit.int .i64 ki).wf = true:=by
  simp [Lit.wf,IntKind.min,IntKind.max,IntKind.signed,IntKind.bits]; exact ⟨hk.1,by have:=hk.2; omega⟩
 have hkey : keyOf P K (.int .i64 ki) = some (.int .i64 ki):=by unfold keyOf; rw [uK]; simp [mapKey,uK,wf]
 obtain ⟨c,hrun,hat,_⟩:=World.ownsMap.lookup_int ho (int_keyed uK) ht uE hz hkey
 refine WL.val hw ?_ rfl (k c hat)
 simp [execOp,hm,hx,hrun,Result.andThen]
end
theorem ZdH {c : Cond} (hk : c.kind = 1 ∨ c.kind = 2) (h : (SCmp.b .eql c.oth [] != Yo c.v) = true) : Zw c = false:=by
 have h1 : ZE c = true:=by unfold ZE; rcases hk with h | h <;> rw [h] <;> rfl
 unfold Zw
 rw [h1]
 simp only [SCmp.b] at h
 by_cases g : c.oth = []
 ·rw [decide_eq_true g] at h ⊢
  cases hv : Yo c.v with
  | true=>rw [hv] at h; cases h
  | false=>simp
 ·rw [decide_eq_false g] at h ⊢
  have hv : Yo c.v = true:=by cases hv : Yo c.v with | true=>rfl | false=>rw [hv] at h; cases h
  have hz : c.v ≠ zeroV:=fun e=>by rw [e] at hv; exact absurd hv (by decide)
  rw [decide_eq_false hz]; simp
theorem Zmu {c : Cond} (hk : c.kind = 1 ∨ c.kind = 2) (hc : c.col ≠ []) (ho : c.oth = []) (hb : (SCmp.b .eql c.oth [] != Yo c.v) = false) : Zw c = decide ((c.l.length : Int) = 0):=by
 have h1 : ZE c = true:=by unfold ZE; rcases hk with h | h <;> rw [h] <;> rfl
 simp only [SCmp.b] at hb
 rw [decide_eq_true ho] at hb
 have hv : Yo c.v = true:=by cases hv : Yo c.v with | true=>rfl | false=>rw [hv] at hb; cases hb
 unfold Zw; rw [h1,decide_eq_false hc,decide_eq_true ho,hv]
 rw [Bool.eq_iff_iff]; simp
theorem Zmv {c : Cond} (hk : c.kind = 1 ∨ c.kind = 2) (hc : c.col ≠ []) (ho : c.oth ≠ []) (hv : c.v = zeroV) : Zw c = decide ((c.l.length : Int) = 0):=by
 have h1 : ZE c = true:=by unfold ZE; rcases hk with h | h <;> rw [h] <;> rfl
 unfold Zw; rw [h1,decide_eq_false hc,decide_eq_false ho,decide_eq_true hv]
 rw [Bool.eq_iff_iff]; simp
theorem Zgp {c : Cond} {op : Int} (hk : c.kind = 3 ∨ c.kind = 4 ∨ c.kind = 5 ∨ c.kind = 6) (h1 : c.col = []) (h2 : c.oth = []) (h3 : c.v = zeroV) (h : op = (ZG c.kind : Int)) : Zw c = decide ((c.l.length : Int) = op):=by
 have g1 : ZE c = false:=by unfold ZE; rw [decide_eq_false (by omega),decide_eq_false (by omega)]; rfl
 have g2 : Yc c = true:=by unfold Yc; rcases hk with h | h | h | h <;> rw [h] <;> rfl
 unfold Zw; rw [g1,g2,decide_eq_true h1,decide_eq_true h2,decide_eq_true h3,h]
 rw [Bool.eq_iff_iff]; simp; omega
def ZdI : DataW Unit:=(((DataW.map []).put (.int .i64 4) (.lit (.int .i64 1))).put (.int .i64 5) (.lit (.int .i64 2))).put (.int .i64 6) (.lit (.int .i64 2))
theorem Zvq {k c : Int} (h : k = 3) (hat : ZdI.atKey (.int .i64 k) (.lit (.int .i64 0)) = .lit (.int .i64 c)) : c = (ZG k : Int):=by
 subst h
 have e : ZdI.atKey (.int .i64 3) (.lit (.int .i64 0)) = .lit (.int .i64 0):=by rfl
 rw [e] at hat; injection hat with h1; injection h1 with _ h2; rw [← h2]; rfl
theorem Zvr {k c : Int} (h : k = 4) (hat : ZdI.atKey (.int .i64 k) (.lit (.int .i64 0)) = .lit (.int .i64 c)) : c = (ZG k : Int):=by
 subst h
 have e : ZdI.atKey (.int .i64 4) (.lit (.int .i64 0)) = .lit (.int .i64 1):=by rfl
 rw [e] at hat; injection hat with h1; injection h1 with _ h2; rw [← h2]; rfl
theorem Zvs {k c : Int} (h : k = 5) (hat : ZdI.atKey (.int .i64 k) (.lit (.int .i64 0)) = .lit (.int .i64 c)) : c = (ZG k : Int):=by
 subst h
 have e : ZdI.atKey (.int .i64 5) (.lit (.int .i64 0)) = .lit (.int .i64 2):=by rfl
 rw [e] at hat; injection hat with h1; injection h1 with _ h2; rw [← h2]; rfl
theorem Zvt {k c : Int} (h : k = 6) (hat : ZdI.atKey (.int .i64 k) (.lit (.int .i64 0)) = .lit (.int .i64 c)) : c = (ZG k : Int):=by
 subst h
 have e : ZdI.atKey (.int .i64 6) (.lit (.int .i64 0)) = .lit (.int .i64 2):=by rfl
 rw [e] at hat; injection hat with h1; injection h1 with _ h2; rw [← h2]; rfl
end Go.Civ
