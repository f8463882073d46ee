/- Lemmas. -/
import Derived.Test.YthgeclodflmiaaaGreatN05
import Derived.Test.YthgeclodflmiaaaGreatN07
import Derived.Test.YthgeclodflmiaaaGreatN08
import Derived.Laws.Slices
import Derived.Laws.Small
import Derived.WalkKit
import Derived.KernelRfl
namespace Go.Civ
open Go.RowKit
set_option linter.unusedVariables false
def Zfo (P : Program) : List ResultVar → Env → World → List Value → Prop
 | [],_,_,vs=>vs = []
 | .tmp t :: r,ρ,w,vs=>∃ vs',vs = ρ t :: vs' ∧ Zfo P r ρ w vs'
 | .cell a t :: r,ρ,w,vs=>∃ v vs' p,vs = v :: vs' ∧ ρ a = .pointer (some p) ∧ (loadVar t p).run P w = .ok v w ∧ Zfo P r ρ w vs'
def tup : List Value → Value
 | [v]=>v
 | vs=> .tuple vs.toArray
def Zw7 (P : Program) (rs : List ResultVar) (R : Ending → World → Prop) : Exit → Env → World → Prop
 | .normal,ρ,w | .ret,ρ,w=>∃ vs,Zfo P rs ρ w vs ∧ R (.returned (tup vs)) w
 | _,_,_=>False
section
variable {P : Program} {N : Nat} {Q : Exit → Env → World → Prop} {ρ : Env} {w : World}
theorem Zq7 (rs : List ResultVar) (tmps : Array Value) {vs : List Value} (h : ∀ t,tmps.getD t undef = ρ t) (hv : Zfo P rs ρ w vs) :
  (rs.mapM (rv tmps)).run P w = .ok vs w:=by
 induction rs generalizing vs with
 | nil=>simp only [Zfo] at hv; subst hv; simp
 | cons r rs ih=>
  cases r with
  | tmp t=>
   obtain ⟨vs',rfl,h1⟩:=hv
   have:=ih h1
   simp only [List.mapM_cons]
   simp only [Sem.run_bind,this,Result.andThen,Sem.run_pure,rv,h]
  | cell a t=>
   obtain ⟨v,vs',p,rfl,h1,h2,h3⟩:=hv
   have:=ih h3
   simp only [List.mapM_cons]
   simp only [Sem.run_bind,this,Result.andThen,Sem.run_pure,rv,h,h1,asAddr,h2]
theorem Zfp {fn : Func} {a : Act} {vs : List Value} (ha : Fits N a ρ) (hv : Zfo P fn.results.toList ρ w vs) : (results fn a.tmps).run P w = .ok (tup vs) w:=by
 have h:=Zq7 fn.results.toList a.tmps ha.get hv
 rw [ZgI,Array.mapM_eq_mapM_toList,Sem.run_bind,Sem.run_map,h]
 match vs with
 | []=>simp [Result.andThen,tup]
 | [x]=>simp [Result.andThen,tup]
 | x :: y :: z=>simp [Result.andThen,tup]
theorem Zkz {f : FuncId} {fn : Func} {c : Code} {args : Array Value} {R : Ending → World → Prop}
  (hf : P.funcs[f]? = some fn) (hb : fn.body = some c) (hN : fn.ntmps = N) (hle : Nat.ble args.size N = true)
  (h : WC P N c (Zw7 P fn.results.toList R) (fun t=>args.getD t undef) w) : Calls P f args w R:=by
 refine calls_of_wp hf hb ?_
 have hle' : args.size ≤ N:=by simpa using hle
 have ha : Fits N { tmps:=args ++ Array.replicate (fn.ntmps - args.size) undef,defers:=[] } (fun t=>args.getD t undef):=by
  refine ⟨by simp [hN]; omega,fun t=>?_,rfl⟩
  simp only [Array.getD_eq_getD_getElem?,Array.getElem?_append,Array.getElem?_replicate,hN]
  split
  ·rfl
  ·rename_i hlt
   rw [Array.getElem?_eq_none (xs:=args) (by omega)]
   split <;> rfl
 refine wp_mono (h _ ha) ?_
 rintro e a' w' ⟨ρ',hf',hq⟩
 cases e with
 | normal=>obtain ⟨v,hv,hR⟩:=hq; exact ⟨hf'.defers,_,Zfp hf' hv,hR⟩
 | ret=>obtain ⟨v,hv,hR⟩:=hq; exact ⟨hf'.defers,_,Zfp hf' hv,hR⟩
 | exit id=>exact hq.elim
 | goto l=>exact hq.elim
 | panic ch=>exact hq.elim
 | outgrown=>exact hq.elim
structure RQR (P : Program) (rs : List ResultVar) (R : Ending → World → Prop) (ρ : Env) (w : World) : Prop where
 h : ∃ vs,Zfo P rs ρ w vs ∧ R (.returned (tup vs)) w
def ZvM (P : Program) (rs : List ResultVar) (R : Ending → World → Prop) : Exit → Env → World → Prop
 | .normal,ρ,w=>RQR P rs R ρ w
 | .ret,ρ,w=>RQR P rs R ρ w
 | _,_,_=>False
theorem YY {f : FuncId} {fn : Func} {c : Code} {args : Array Value} {R : Ending → World → Prop} (F : FTab P) (J : List Nat)
  (hf : P.funcs[f]? = some fn) (hb : fn.body = some c) (hle : Nat.ble args.size fn.ntmps = true)
  (h : goC F fn.ntmps J c (ZvM P fn.results.toList R) (fun t=>args.getD t undef) w) (hok : okD fn.ntmps c = true:=by kernel_rfl) : Calls P f args w R:=by
 refine Zkz (N:=fn.ntmps) hf hb rfl hle ((goC.ok hok h).mono fun e ρ w hq=>?_)
 cases e with
 | normal=>exact hq.h
 | ret=>exact hq.h
 | _=>exact hq.elim
theorem XH {rs : List ResultVar} {w0 : World} {X : List Nat} {G0 G : GH} {L : Own} {B : GH → World → Value → Prop} (vs : List Value) (hS : St w0 X G0 G L w) (hv : Zfo P rs ρ w vs) (hB : B G w (tup vs)) :
  RQR P rs (fun e w'=>∃ r G',e = .returned r ∧ Res X w0 G0 w' G' ∧ B G' w' r) ρ w:=⟨vs,hv,_,G,rfl,hS.res,hB⟩
end
section
variable {P : Program} {w0 w w' : World} {X : List Nat} {G0 G G' : GH} {L : Own} {o : OB}
theorem St.loadA {t : TypeId} {ti : TI} (hS : St w0 X G0 G L w) (i : Nat) (b : Nat) (e : TypeId) (cs : List Value) (off : Nat) (vs : List Value) (hi : L[i]? = some (some (b,e,cs))) (hv : (cs.drop off).take ti.size = vs) (hn : vs.length = ti.size)
  (ht : Ym P t = some ti) (ha : ti.agg = true) : (loadVar t ⟨b,off,none⟩).run P w = .ok (.agg vs.toArray) w:=by
 have hc : ∀ (j : Nat) v,vs[j]? = some v → w.cell? ((⟨b,off,none⟩ : Addr).add j) = some v:=fun j v h=>by
  rw [YH _ _ rfl]
  refine hS.cell i hi ?_
  subst hv
  rw [List.getElem?_take] at h
  split at h
  ·rwa [List.getElem?_drop] at h
  ·cases h
 simp [loadVar,Zc0 ht,ha,XI ht,ZbL hn hc,Result.andThen]
theorem St.loadC {t : TypeId} {ti : TI} {p : Addr} {cs : List Value} (hS : St w0 X G0 G L w) (hc : XZ G p cs) (ht : Ym P t = some ti) (ha : ti.agg = true) (hn : cs.length = ti.size) : (loadVar t p).run P w = .ok (.agg cs.toArray) w:=by
 simp [loadVar,Zc0 ht,ha,XI ht,ZbL hn (fun _ _ h=>hc.cell hS.imm h),Result.andThen]
theorem St.sealAt {b : Nat} {e : TypeId} {cs : List Value} (h : St w0 X G0 G L w) (i : Nat) (hi : L[i]? = some (some (b,e,cs))) (hb : w0.heap.size ≤ b) : ∃ G',G.le G' ∧ XZ G' ⟨b,0,none⟩ cs ∧ St w0 X G0 G' (L.set i none) w:=by
 have f:=h.freeze i (b:=b) (e:=e) (cs:=cs) hi hb
 have hG : G b = none:=(h.sep i _ hi).2
 exact ⟨_,G.add_le _ hG,⟨rfl,_,_,_,GH.add_at _ _ _,fun j v hv=>by simpa using hv⟩,f⟩
theorem St.sealSlAt {α : Type} {E : Enc α} {by_ : Nat} {l : List α} {b : Nat} {e : TypeId} {cs : List Value} (h : St w0 X G0 G L w) (i : Nat) (hi : L[i]? = some (some (b,e,cs))) (hb : w0.heap.size ≤ b) (hf : Xq E G l cs) {n : Nat} (hn : n = l.length) (hby : n * by_ ≤ reach) (hlen : n ≤ reach) :
  ∃ G',G.le G' ∧ Sl E by_ G' (.slice (some ⟨b,0,none⟩) n n) l ∧ St w0 X G0 G' (L.set i none) w:=by
 obtain ⟨G',h1,h2,h3⟩:=h.sealAt i hi hb
 subst hn
 refine ⟨G',h1,⟨some ⟨b,0,none⟩,l.length,rfl,Nat.le_refl _,hby,hlen,fun i x hx=>⟨_,rfl,rfl,?_⟩⟩,h3⟩
 exact (hf.mono h1).rows h2 i x hx
theorem St.callRowR (h : St w0 X G0 G L w) (i : Nat) (hi : L[i]? = some o) {o' : OB} (r : Res (QL o) w G w' G') {α : Type} {E : Enc α} {by_ : Nat} {e : TypeId} {v v' : Value} {l l' : List α}
  (h1 : Yf E by_ e G v l o) (h2 : Yf E by_ e G' v' l' o') (hl : QW w' G' o') (hb : QL o' = QL o) : St w0 X G0 G' (L.set i o') w':=by
 cases o with
 | none=>
  cases o' with
  | none=>exact (h.call r).drop i
  | some p=>simp [QL] at hb
 | some p=>
  cases o' with
  | none=>simp [QL] at hb
  | some q=>
   obtain ⟨b,e1,cs⟩:=p
   obtain ⟨b',e2,cs'⟩:=q
   simp [QL] at hb
   subst hb
   have e1e : e1 = e:=by rcases h1 with ⟨h0,_⟩ | ⟨_,_,_,_,h0,_⟩ <;> simp at h0; exact h0.2.1
   have e2e : e2 = e:=by rcases h2 with ⟨h0,_⟩ | ⟨_,_,_,_,h0,_⟩ <;> simp at h0; exact h0.2.1
   subst e1e; subst e2e
   exact h.callX i hi cs' r (hl _ rfl).1
end
section
variable {P : Program} {Q : Exit → Env → World → Prop} {ρ : Env} {w : World} {ops : Array Oper} {rest : List Oper} {K : Env → World → Prop}
variable {d : Nat} {ty : TypeId} {pos : String} {af : Array Edge} {g : Option (Nat × Bool)}
end
end Go.Civ
namespace Go.Civ
open Go.RowKit
set_option linter.unusedVariables false
theorem Sl.takeV {α : Type} {E : Enc α} {by_ : Nat} {G : GH} {a : Option Addr} {n len cap : Nat} {l : List α} (h : Sl E by_ G (.slice a len cap) l) (hn : n ≤ l.length) : Sl E by_ G (sliced a 0 n cap E.n) (l.take n):=by
 obtain ⟨a',cap',e,h2,h3,h4,h5⟩:=h
 simp only [Value.slice.injEq] at e
 obtain ⟨rfl,rfl,rfl⟩:=e
 have hl : (l.take n).length = n:=by rw [List.length_take]; omega
 have ev : sliced a 0 n cap E.n = .slice a n cap:=by
  unfold sliced
  cases a <;> simp [Addr.add]
 rw [ev]
 refine ⟨a,cap,by rw [hl],by omega,?_,by omega,fun i x hx=>?_⟩
 ·rw [hl]; exact Nat.le_trans (Nat.mul_le_mul_right _ hn) h3
 ·rw [List.getElem?_take] at hx
  split at hx
  ·exact h5 i x hx
  ·cases hx
theorem Sl.dropV {α : Type} {E : Enc α} {by_ : Nat} {G : GH} {a : Option Addr} {n len cap : Nat} {l : List α} (h : Sl E by_ G (.slice a len cap) l) (hn : n ≤ l.length) : Sl E by_ G (sliced a n len cap E.n) (l.drop n):=by
 obtain ⟨a',cap',e,h2,h3,h4,h5⟩:=h
 simp only [Value.slice.injEq] at e
 obtain ⟨rfl,rfl,rfl⟩:=e
 have hl : (l.drop n).length = l.length - n:=by rw [List.length_drop]
 unfold sliced
 by_cases hc : cap = n
 ·rw [if_pos hc]
  refine ⟨a,cap - n,by rw [hl],by omega,?_,by omega,fun i x hx=>?_⟩
  ·rw [hl]; exact Nat.le_trans (Nat.mul_le_mul_right _ (by omega)) h3
  ·have:=(List.getElem?_eq_some_iff.1 hx).1
   rw [hl] at this; omega
 ·rw [if_neg hc]
  refine ⟨a.map fun p=>p.add (n * E.n),cap - n,by rw [hl],by omega,?_,by omega,fun i x hx=>?_⟩
  ·rw [hl]; exact Nat.le_trans (Nat.mul_le_mul_right _ (by omega)) h3
  ·rw [List.getElem?_drop] at hx
   obtain ⟨p,rfl,hp,hel⟩:=h5 (n + i) x hx
   refine ⟨p.add (n * E.n),rfl,by rw [YH _ _ hp],?_⟩
   have e1 : (p.add (n * E.n)).add (i * E.n) = p.add ((n + i) * E.n):=by
    rw [YH _ _ (by rw [YH _ _ hp]),YH _ _ hp,YH _ _ hp,Nat.add_mul,Nat.add_assoc]
   rw [e1]; exact hel
section
variable {P : Program} {Q : Exit → Env → World → Prop} {ρ : Env} {w : World} {ops : Array Oper} {rest : List Oper} {K : Env → World → Prop}
variable {d : Nat} {ty : TypeId} {pos : String} {af : Array Edge} {g : Option (Nat × Bool)} {G : GH}
theorem ZlR {t e : TypeId} (hu : P.underlying t = some (.slice e)) : P.elem t = e:=by simp [Program.elem,hu]
theorem Yh {α : Type} {E : Enc α} {by_ : Nat} {t e : TypeId} {x hi : Operand} {v : Value} {l : List α} {ti : TI} (hs : Sl E by_ G v l) (n : Nat) (hn : n ≤ l.length) (hu : P.underlying t = some (.slice e)) (ht : Ym P e = some ti) (hE : ti.size = E.n)
  (hw : Region.wanted ⟨some d, .slice t x none (some hi) none,ty,pos,af,g⟩ (Zp ops ρ) = true) (hx : ev ρ x = v) (hh : ev ρ hi = .int .i64 (n : Int))
  (k : ∀ v',Sl E by_ G v' (l.take n) → K (ZE ρ d v') w) : OW P ops ⟨some d, .slice t x none (some hi) none,ty,pos,af,g⟩ ρ w K:=by
 obtain ⟨a,cap,rfl,h2,_⟩:=id hs
 have he:=ZlR hu
 have hu' : P.underlying t = some (.slice (P.elem t)):=by rw [he]; exact hu
 have run : (Instr.sliceAt t (.slice a l.length cap) none (some (.int .i64 (n : Int))) none).run P w = .ok (sliced a 0 n cap E.n) w:=by
  rw [run_sliceAt_slice w t _ _ _ _ hu',run_slice_h w t a l.length cap hu' .i64 (n : Int) (by omega) (by omega),he,XI ht,hE]; rfl
 refine WL.val hw ?_ rfl (k _ (hs.takeV hn))
 simp [execOp,hx,hh,run,Result.andThen]
theorem Xw {α : Type} {E : Enc α} {by_ : Nat} {t e : TypeId} {x lo : Operand} {v : Value} {l : List α} {ti : TI} (hs : Sl E by_ G v l) (n : Nat) (hn : n ≤ l.length) (hu : P.underlying t = some (.slice e)) (ht : Ym P e = some ti) (hE : ti.size = E.n)
  (hw : Region.wanted ⟨some d, .slice t x (some lo) none none,ty,pos,af,g⟩ (Zp ops ρ) = true) (hx : ev ρ x = v) (hh : ev ρ lo = .int .i64 (n : Int))
  (k : ∀ v',Sl E by_ G v' (l.drop n) → K (ZE ρ d v') w) : OW P ops ⟨some d, .slice t x (some lo) none none,ty,pos,af,g⟩ ρ w K:=by
 obtain ⟨a,cap,rfl,h2,_⟩:=id hs
 have he:=ZlR hu
 have hu' : P.underlying t = some (.slice (P.elem t)):=by rw [he]; exact hu
 have run : (Instr.sliceAt t (.slice a l.length cap) (some (.int .i64 (n : Int))) none none).run P w = .ok (sliced a n l.length cap E.n) w:=by
  rw [run_sliceAt_slice w t _ _ _ _ hu',run_slice_l w t a l.length cap hu' .i64 (n : Int) (by omega) (by omega),he,XI ht,hE]; rfl
 refine WL.val hw ?_ rfl (k _ (hs.dropV hn))
 simp [execOp,hx,hh,run,Result.andThen]
theorem ZdW (op : BinOp) (t : TypeId) (x y : Operand) (a b : Bool) : (eqGuard op t x y (.bool a) (.bool b)).run P w = .ok () w:=by
 unfold eqGuard; split <;> simp
theorem Xj {t ty' : TypeId} {x y : Operand} (a b : Bool) (hu : P.underlying t = some .bool)
  (hw : Region.wanted ⟨some d, .binOp .eql t x y ty',ty,pos,af,g⟩ (Zp ops ρ) = true) (hx : ev ρ x = .bool a) (hy : ev ρ y = .bool b)
  (kk : K (ZE ρ d (.bool (a == b))) w) : OW P ops ⟨some d, .binOp .eql t x y ty',ty,pos,af,g⟩ ρ w K:=by
 refine WL.val hw ?_ rfl kk
 simp [execOp,hx,hy,ZdW,run_eql_bool w t a b hu,Result.andThen]
theorem Zow {t ty' : TypeId} {x y : Operand} (a b : Bool) (hu : P.underlying t = some .bool)
  (hw : Region.wanted ⟨some d, .binOp .neq t x y ty',ty,pos,af,g⟩ (Zp ops ρ) = true) (hx : ev ρ x = .bool a) (hy : ev ρ y = .bool b)
  (kk : K (ZE ρ d (.bool (!(a == b)))) w) : OW P ops ⟨some d, .binOp .neq t x y ty',ty,pos,af,g⟩ ρ w K:=by
 refine WL.val hw ?_ rfl kk
 simp [execOp,hx,hy,ZdW,run_neq_bool w t a b hu,Result.andThen]
end
section
variable {w0 w w' : World} {X : List Nat} {G0 G G' : GH} {L : Own} {o o' : OB}
def Zk0 (w w' : World) (G' : GH) (o o' : OB) : Prop:=∀ p,o' = some p → (w.heap.size ≤ p.1 ∨ p.1 ∈ QL o) ∧ w'.heap[p.1]? = some (Zan p.2) ∧ G' p.1 = none
theorem St.rowOut (h : St w0 (QL o) G0 G L w) (i : Nat) (hi : L[i]? = some o') : Zk0 w0 w G o o':=fun p hp=>by
 subst hp; exact ⟨(h.sep i p hi).1,h.own i p hi,(h.sep i p hi).2⟩
theorem St.callRowO (h : St w0 X G0 G L w) (i : Nat) (hi : L[i]? = some o) (r : Res (QL o) w G w' G') (ho : Zk0 w w' G' o o') : St w0 X G0 G' (L.set i o') w':=by
 have hil : i < L.length:=(List.getElem?_eq_some_iff.1 hi).1
 have inb : ∀ b,b ∈ QL o → ∃ p,o = some p ∧ p.1 = b:=fun b hb=>by
  cases o with
  | none=>simp [QL] at hb
  | some p=>simp [QL] at hb; exact ⟨p,rfl,hb.symm⟩
 have look : ∀ (j : Nat) p,(L.set i o')[j]? = some (some p) → (j = i ∧ o' = some p) ∨ (j ≠ i ∧ L[j]? = some (some p) ∧ p.1 ∉ QL o):=fun j p hj=>by
  rw [List.getElem?_set] at hj
  split at hj
  ·rename_i hji; subst hji; first | exact .inl ⟨rfl,Option.some.inj hj⟩ | (rw [if_pos hil] at hj; exact .inl ⟨rfl,Option.some.inj hj⟩)
  ·rename_i hji
   refine .inr ⟨Ne.symm hji,hj,fun hb=>?_⟩
   obtain ⟨q,rfl,e⟩:=inb _ hb
   exact hji (h.nd _ _ _ _ hi hj e)
 refine ⟨h.kept.step r.kept (fun y hy=>?_),h.le.trans r.le,fun b hb=>(r.new b (Nat.lt_of_lt_of_le hb h.kept.size)).trans (h.new b hb),r.imm,fun j p hp=>?_,fun j p hp=>?_,fun j k p q hp hq he=>?_⟩
 ·obtain ⟨q,rfl,rfl⟩:=inb _ hy; exact (h.sep _ _ hi).1
 ·rcases look j p hp with ⟨rfl,e⟩ | ⟨_,hp,hne⟩
  ·exact (ho p e).2.1
  ·rw [r.kept.block _ (h.ownLt hp) hne]; exact h.own j p hp
 ·rcases look j p hp with ⟨rfl,e⟩ | ⟨_,hp,hne⟩
  ·refine ⟨?_,(ho p e).2.2⟩
   rcases (ho p e).1 with k | k
   ·exact .inl (Nat.le_trans h.kept.size k)
   ·obtain ⟨q,rfl,e2⟩:=inb _ k; rw [← e2]; exact (h.sep _ _ hi).1
  ·exact ⟨(h.sep j p hp).1,by rw [r.new _ (h.ownLt hp)]; exact (h.sep j p hp).2⟩
 ·rcases look j p hp with ⟨rfl,e⟩ | ⟨_,hp2,hne⟩ <;> rcases look k q hq with ⟨rfl,e2⟩ | ⟨_,hq2,hne'⟩
  ·rfl
  ·exfalso
   rcases (ho p e).1 with k1 | k1
   ·have:=h.ownLt hq2; omega
   ·rw [he] at k1; exact hne' k1
  ·exfalso
   rcases (ho q e2).1 with k1 | k1
   ·have:=h.ownLt hp2; omega
   ·rw [← he] at k1; exact hne k1
  ·exact h.nd _ _ _ _ hp2 hq2 he
end
end Go.Civ
namespace Go.Civ
set_option linter.unusedVariables false
def Zdq (a m b p : Nat) : Nat:=if a ≤ p ∧ p < a + (b - m) then p + (m - a) else if a + (b - m) ≤ p ∧ p < b then p - (b - m) else p
def ZfM (a b n p : Nat) : Nat:=if a ≤ p ∧ p < a + n then p - a + b else if b ≤ p ∧ p < b + n then p - b + a else p
section
variable {α : Type}
structure Moved (l L : List α) (f : Nat → Nat) : Prop where
 perm : L.Perm l
 map : ∀ p,p < l.length → L[p]? = l[f p]?
variable {l L M : List α} {f g : Nat → Nat}
theorem Moved.len (h : Moved l L f) : L.length = l.length:=h.perm.length_eq
theorem Moved.refl (hf : ∀ p,p < l.length → f p = p) : Moved l l f:=⟨List.Perm.refl _,fun p hp=>by rw [hf p hp]⟩
theorem Moved.swap (h : Moved l L f) {i j : Nat} {x y : α} (hi : L[i]? = some x) (hj : L[j]? = some y) (hij : i ≠ j) (hg : ∀ p,p < l.length → g p = if p = i then f j else if p = j then f i else f p) : Moved l ((L.set i y).set j x) g:=by
 have hil : i < L.length:=(List.getElem?_eq_some_iff.1 hi).1
 have hjl : j < L.length:=(List.getElem?_eq_some_iff.1 hj).1
 have hl:=h.len
 refine ⟨(Zix hij hi hj).trans h.perm,fun p hp=>?_⟩
 rw [hg p hp,List.getElem?_set]
 by_cases h1 : j = p
 ·subst h1
  rw [if_pos rfl,if_pos (by simpa using hjl),if_neg (Ne.symm hij),if_pos rfl,← hi]
  exact h.map i (by omega)
 ·rw [if_neg h1,List.getElem?_set]
  by_cases h2 : i = p
  ·subst h2
   rw [if_pos rfl,if_pos hil,if_pos rfl,← hj]
   exact h.map j (by omega)
  ·rw [if_neg h2,if_neg (Ne.symm h2),if_neg (Ne.symm h1)]; exact h.map p hp
structure RotInv (l M : List α) (a m b i j : Nat) : Prop where
 perm : M.Perm l
 map : ∀ p,p < l.length → M[Zdq (m - i) m (m + j) p]? = l[Zdq a m b p]?
theorem RotInv.start {a m b : Nat} (h1 : a ≤ m) (h2 : m ≤ b) : RotInv l l a m b (m - a) (b - m):=by
 refine ⟨List.Perm.refl _,fun p hp=>?_⟩
 rw [show m - (m - a) = a by omega,show m + (b - m) = b by omega]
theorem RotInv.len {a m b i j : Nat} (h : RotInv l M a m b i j) : M.length = l.length:=h.perm.length_eq
theorem RotInv.left {a m b i j : Nat} (h : RotInv l M a m b i j) (k : Moved M L (ZfM (m - i) m j)) (hij : j < i) (hi : i ≤ m) (hj : m + j ≤ l.length) : RotInv l L a m b (i - j) j:=by
 refine ⟨k.perm.trans h.perm,fun p hp=>?_⟩
 have hl:=h.len
 rw [k.map _ (by rw [hl]; unfold Zdq; split <;> (try split) <;> omega),← h.map p hp]
 congr 1
 unfold ZfM Zdq
 repeat' split
 all_goals omega
theorem RotInv.right {a m b i j : Nat} (h : RotInv l M a m b i j) (k : Moved M L (ZfM (m - i) (m + j - i) i)) (hij : i < j) (hi : i ≤ m) (hj : m + j ≤ l.length) : RotInv l L a m b i (j - i):=by
 refine ⟨k.perm.trans h.perm,fun p hp=>?_⟩
 have hl:=h.len
 rw [k.map _ (by rw [hl]; unfold Zdq; split <;> (try split) <;> omega),← h.map p hp]
 congr 1
 unfold ZfM Zdq
 repeat' split
 all_goals omega
theorem RotInv.done {a m b i j : Nat} (h : RotInv l M a m b i j) (k : Moved M L (ZfM (m - i) m i)) (hij : i = j) (hi : i ≤ m) (hj : m + j ≤ l.length) : Moved l L (Zdq a m b):=by
 subst hij
 refine ⟨k.perm.trans h.perm,fun p hp=>?_⟩
 have hl:=h.len
 rw [k.map p (by omega),← h.map p hp]
 congr 1
 unfold ZfM Zdq
 repeat' split
 all_goals omega
variable {pf : α → α → Int}
def Zun (pf : α → α → Int) (l : List α) : Prop:=∀ x ∈ l,∀ y ∈ l,pf x y < 0 → ¬ pf y x < 0
def Zuo (pf : α → α → Int) (l : List α) : Prop:=∀ x ∈ l,∀ y ∈ l,∀ z ∈ l,¬ pf y x < 0 → ¬ pf z y < 0 → ¬ pf z x < 0
def ZvN (pf : α → α → Int) (M : List α) (a mid b : Nat) : Prop:=∀ p q u v,a ≤ p → p < mid → mid ≤ q → q < b → M[p]? = some u → M[q]? = some v → ¬ pf v u < 0
structure Halves (pf : α → α → Int) (l M : List α) (a s mid e b : Nat) : Prop where
 perm : M.Perm l
 frame : ∀ p,p < a ∨ b ≤ p → M[p]? = l[p]?
 s1 : Asc pf M a s
 s2 : Asc pf M s mid
 s3 : Asc pf M mid e
 s4 : Asc pf M e b
 cross : ZvN pf M a mid b
theorem Ins.from_ {a b i p : Nat} {x : α} (h : Ins pf l L a b i) (hab : a ≤ b) (h1 : a ≤ p) (h2 : p < b) (hx : L[p]? = some x) : ∃ q,a ≤ q ∧ q < b ∧ l[q]? = some x:=by
 have hl:=h.len
 have e1 : L.take a = l.take a:=by
  apply List.ext_getElem?; intro k
  rw [List.getElem?_take,List.getElem?_take]
  split
  ·exact h.frame k (by omega)
  ·rfl
 have e2 : L.drop b = l.drop b:=by
  apply List.ext_getElem?; intro k
  rw [List.getElem?_drop,List.getElem?_drop]; exact h.frame _ (by omega)
 have dec : ∀ t : List α,t = t.take a ++ ((t.drop a).take (b - a) ++ t.drop b):=fun t=>by
  rw [show t.drop b = (t.drop a).drop (b - a) by rw [List.drop_drop]; congr 1; omega,List.take_append_drop,List.take_append_drop]
 have hp:=h.perm
 rw [dec L,dec l,e1,e2,List.perm_append_left_iff,List.perm_append_right_iff] at hp
 have hm : x ∈ (L.drop a).take (b - a):=by
  refine List.mem_of_getElem? (i:=p - a) ?_
  rw [List.getElem?_take,if_pos (by omega),List.getElem?_drop,show a + (p - a) = p by omega]; exact hx
 obtain ⟨k,hk⟩:=List.getElem?_of_mem (hp.mem_iff.1 hm)
 rw [List.getElem?_take] at hk
 split at hk
 ·rw [List.getElem?_drop] at hk; exact ⟨a + k,by omega,by omega,hk⟩
 ·cases hk
theorem Asc.empty {a b : Nat} (h : b ≤ a + 1) : Asc pf l a b:=fun p q x y h1 h2 h3=>by omega
theorem Halves.done {a s mid e b : Nat} {M1 M2 : List α} (h : Halves pf l M a s mid e b) (h1 : Ins pf M M1 a mid mid) (h2 : Ins pf M1 M2 mid b b) (ha : a ≤ mid) (hb : mid ≤ b) : Ins pf l M2 a b b:=by
 refine ⟨h2.perm.trans (h1.perm.trans h.perm),fun p hp=>?_,fun p q u v k1 k2 k3 hu hv=>?_⟩
 ·rw [h2.frame p (by omega),h1.frame p (by omega)]; exact h.frame p hp
 ·rcases Nat.lt_or_ge q mid with c | c
  ·rw [h2.frame p (by omega)] at hu; rw [h2.frame q (by omega)] at hv
   exact h1.asc p q u v k1 k2 c hu hv
  ·rcases Nat.lt_or_ge p mid with d | d
   ·rw [h2.frame p (by omega)] at hu
    obtain ⟨p',a1,a2,a3⟩:=h1.from_ ha k1 d hu
    obtain ⟨q',b1,b2,b3⟩:=h2.from_ hb c k3 hv
    rw [h1.frame q' (by omega)] at b3
    exact h.cross p' q' u v a1 a2 b1 b2 a3 b3
   ·exact h2.asc p q u v d k2 k3 hu hv
theorem Ins.same {a b : Nat} (h : Asc pf l a b) : Ins pf l l a b b:=⟨List.Perm.refl _,fun _ _=>rfl,h⟩
theorem Asc.frame {a b : Nat} (h : Asc pf l a b) (k : ∀ p,a ≤ p → p < b → L[p]? = l[p]?) : Asc pf L a b:=fun p q x y h1 h2 h3 hx hy=>by
 rw [k p h1 (by omega)] at hx; rw [k q (by omega) h3] at hy
 exact h p q x y h1 h2 h3 hx hy
theorem Zun.perm (h : Zun pf l) (k : L.Perm l) : Zun pf L:=fun x hx y hy=>h x (k.mem_iff.1 hx) y (k.mem_iff.1 hy)
theorem Zuo.perm (h : Zuo pf l) (k : L.Perm l) : Zuo pf L:=fun x hx y hy z hz=>h x (k.mem_iff.1 hx) y (k.mem_iff.1 hy) z (k.mem_iff.1 hz)
end
end Go.Civ
set_option linter.unusedVariables false
namespace Go.Civ
open Go.Proofs Go.Shelf Go.RowKit Go.Lib Go.Sort
abbrev BSpan:={ s : Span // -4398046511104 ≤ s.a ∧ s.a ≤ 4398046511104 }
instance : Inhabited BSpan:=⟨⟨⟨0,0⟩,by decide⟩⟩
def ZbD (x : BSpan) : List Value:=[.int .i64 x.1.a, .int .i64 x.1.b]
def cfB (x y : BSpan) : Int:=x.1.a - y.1.a
set_option maxHeartbeats 1000000 in
theorem Znq (x y : BSpan) (W : World) : Calls Tryz.prog 190 #[.agg #[.int .i64 x.1.a, .int .i64 x.1.b], .agg #[.int .i64 y.1.a, .int .i64 y.1.b]] W fun e w'=>e = .returned (.int .i64 (cfB x y)) ∧ ∃ q os',w' = grow (W.drewN q) os':=by
 obtain ⟨⟨xa,xb⟩,hx⟩:=x
 obtain ⟨⟨ya,yb⟩,hy⟩:=y
 simp only [cfB]
 have hw : IntKind.wrap .i64 (xa - ya) = xa - ya:=ZdO ⟨by simp at hx hy; omega,by simp at hx hy; omega⟩
 go_enter Tryz.func190,Tryz.ntmps190
 go_wp2
 go_ret
 exact ⟨rfl,0,_,by rw [alloc_eq_grow,alloc_eq_grow,grow_grow]; rfl⟩
theorem Zw9 : SWO (ltOf cfB) where
 irrefl x:=decide_eq_false (show ¬ x.1.a - x.1.a < 0 by omega)
 trans x y z h1 h2:=by
  have h1' : x.1.a - y.1.a < 0:=of_decide_eq_true h1
  have h2' : y.1.a - z.1.a < 0:=of_decide_eq_true h2
  exact decide_eq_true (show x.1.a - z.1.a < 0 by omega)
 ntrans x y z h1 h2:=by
  have h1' : ¬ x.1.a - y.1.a < 0:=of_decide_eq_false h1
  have h2' : ¬ y.1.a - z.1.a < 0:=of_decide_eq_false h2
  exact decide_eq_false (show ¬ x.1.a - z.1.a < 0 by omega)
theorem ZkC {α : Type} (enc : α → List Value) (h2 : ∀ x,(enc x).length = 2) : ∀ (l : List α) (t : Nat),(l.flatMap enc)[t]? = (l[t / 2]?).bind fun x=>(enc x)[t % 2]?
 | [],t=>by simp
 | x :: l,t=>by
  rw [List.flatMap_cons,List.getElem?_append]
  by_cases ht : t < 2
  ·rw [if_pos (by rw [h2]; exact ht),show t / 2 = 0 by omega,Nat.mod_eq_of_lt ht]; rfl
  ·rw [if_neg (by rw [h2]; exact ht),h2,ZkC enc h2 l (t - 2),show (t - 2) / 2 = t / 2 - 1 by omega,show (t - 2) % 2 = t % 2 by omega]
   obtain ⟨m,hm⟩ : ∃ m,t / 2 = m + 1:=⟨t / 2 - 1,by omega⟩
   rw [hm]; simp
theorem ZkD {α : Type} [Inhabited α] (enc : α → List Value) (h2 : ∀ x,(enc x).length = 2) (d : Array α) (t : Nat) (ht : t < d.size * 2) : (d.toList.flatMap enc)[t]? = some ((flatK enc 2 d)[t]!):=by
 rw [ZkC enc h2,get_flatK enc 2 d t ht]
 have hd : t / 2 < d.size:=by omega
 have e : d.toList[t / 2]? = some d[t / 2]! :=by
  rw [getElem!_pos d (t / 2) hd,Array.getElem?_toList,Array.getElem?_eq_getElem hd]
 rw [e]
 simp only [Option.bind_some]
 have hl : t % 2 < (enc d[t / 2]!).length:=by rw [h2]; omega
 rw [List.getElem?_eq_getElem hl,getElem!_pos (enc d[t / 2]!) (t % 2) hl]
theorem Zgz {G : GH} : ∀ (l : List BSpan),(∀ x ∈ l,Zv x.1.b) → Xq SpanE G (l.map (·.1)) (l.flatMap ZbD)
 | [],_=>rfl
 | x :: l,h=>⟨ZbD x,l.flatMap ZbD,rfl,Zq x.1 ⟨by have:=x.2; omega,by have:=x.2; omega⟩ (h x (by simp)),Zgz l fun y hy=>h y (by simp [hy])⟩
theorem Zh1 {G : GH} : ∀ (l : List BSpan) (xs : List Value),Xq SpanE G (l.map (·.1)) xs → xs = l.flatMap ZbD ∧ ∀ x ∈ l,Zv x.1.b
 | [],xs,h=>⟨h,by simp⟩
 | x :: l,xs,⟨c,r,h1,h2,h3⟩=>by
  obtain ⟨rfl,_,hb⟩:=Z2 h2
  obtain ⟨rfl,h4⟩:=Zh1 l r h3
  refine ⟨h1,fun y hy=>?_⟩
  rcases List.mem_cons.1 hy with rfl | hy
  ·exact hb
  ·exact h4 y hy
theorem Zgi : ∀ (l : List Span),(∀ s ∈ l, -4398046511104 ≤ s.a ∧ s.a ≤ 4398046511104) → ∃ d : List BSpan,d.map (·.1) = l
 | [],_=>⟨[],rfl⟩
 | s :: l,h=>by
  obtain ⟨d,hd⟩:=Zgi l fun x hx=>h x (by simp [hx])
  exact ⟨⟨s,h s (by simp)⟩ :: d,by simp [hd]⟩
set_option maxHeartbeats 1000000 in
theorem Ztc {G : GH} {w : World} (hG : G.In w) (l : List Span) (vd : Value) (od : OB) (hvd : Yf SpanE 16 (nat_lit 33) G vd l od) (hod : QW w G od) (hB : ∀ s ∈ l, -4398046511104 ≤ s.a ∧ s.a ≤ 4398046511104) :
  Calls Tryz.prog (nat_lit 189) #[vd, .func (.func 190) #[] #[]] w fun e w'=>∃ r G',e = .returned r ∧ Res (QL od) w G w' G' ∧ r = .tuple #[] ∧ ∃ (l' : List Span) (o' : OB),Yf SpanE 16 (nat_lit 33) G' vd l' o' ∧ QW w' G' o' ∧ (l'.Perm l ∧ Zqb l'):=by
 rcases hvd with ⟨rfl,rfl,rfl⟩ | ⟨b,cs,cap,xs,rfl,rfl,h3,h4,h5,h6,h7,h8,h9⟩
 ·exact (AnyF.slices_SortFunc_none (P:=Tryz.prog) (ρ:=Tryz.sortSp_ren) { Tryz.sortSp with } none 0 (.func (.func 190) #[] #[]) w).mono fun e w' ⟨he,hw⟩=>by
   subst hw
   exact ⟨_,G,he,Res.refl hG,rfl,[],none, .inl ⟨rfl,rfl,rfl⟩,fun p hp=>(by cases hp),List.Perm.refl _,List.Pairwise.nil⟩
 ·obtain ⟨hb1,hb2⟩:=hod _ rfl
  obtain ⟨dl,rfl⟩:=Zgi l hB
  obtain ⟨rfl,hI⟩:=Zh1 dl xs h6
  have hsz : dl.toArray.size = (dl.map (·.1)).length:=by simp
  have hcell : ∀ t,t < dl.toArray.size * 2 → cs[t]? = some ((flatK ZbD 2 dl.toArray)[t]!):=fun t ht=>by
   rw [← ZkD ZbD (fun _=>rfl) dl.toArray t ht]
   rw [← h7,List.getElem?_take,if_pos (by rw [← hsz]; exact ht)]
  have hH : HoldsK ZbD 2 w b 0 dl.toArray:=fun t ht=>by
   rw [size_flatK] at ht
   refine ⟨?_,?_⟩
   ·rw [Nat.zero_add]
    simp only [World.cell?,hb1,Zan]
    have:=hcell t ht
    simpa using this
   ·simp [World.frozen?,hb1,Zan]
  have hcon:=AnyQ.slices_SortFunc Tryz.sortSp 2 Tryz.isAgg33 Tryz.sizeOf33 ZbD (fun _=>rfl) (fun x v hv=>by simp [ZbD] at hv; rcases hv with rfl | rfl <;> rfl) cfB Zw9 190 #[] b 0 cap dl.toArray w
   (enters_of Tryz.func190 (by kernel_rfl) rfl) (fun _ _ _ _ x y=>Znq x y _) hH (Array.getElem?_eq_some_iff.1 hb1).1 (by rw [hsz]; unfold reach at h9; omega)
  rw [hsz] at hcon
  refine hcon.mono fun e w' ⟨he,d',n,os,hp,hs,hw⟩=>?_
  obtain ⟨hp1,hp2,hp3⟩:=hp
  have hd' : d'.size = dl.length:=by simpa using hp1
  have hperm : d'.toList.Perm dl:=by
   have e1 : d'.extract 0 dl.toArray.size = d':=by rw [← hp1]; simp
   have e2 : dl.toArray.extract 0 dl.toArray.size = dl.toArray:=by simp
   rw [hsz.symm,e1,e2] at hp3; simpa using hp3
  have hbl : b < w.heap.size:=(Array.getElem?_eq_some_iff.1 hb1).1
  subst hw
  obtain ⟨cs',hcs'⟩ : ∃ cs' : List Value,cs' = (putCells id 0 (flatK ZbD 2 d') cs.toArray).toList:=⟨_,rfl⟩
  have hget : ∀ k,(sortWorldK ZbD 2 w b 0 n d' os).heap[k]? = if k < w.heap.size then (if b = k then some (.cells cs'.toArray (nat_lit 33) (0,0)) else w.heap[k]?) else os[k - w.heap.size]? :=fun k=>by
   have hah : (Go.Sort.ahead w n).heap = w.heap:=rfl
   simp only [sortWorldK,putRowK,putRow,mapBlock,grow,hah]
   rw [Array.getElem?_append]
   simp only [Array.size_modify]
   by_cases hk : k < w.heap.size
   ·rw [if_pos hk,if_pos hk,Array.getElem?_modify]
    by_cases hkb : b = k
    ·subst hkb
     rw [if_pos rfl,if_pos rfl,hb1]
     simp [Zan,onCells,hcs']
    ·rw [if_neg hkb,if_neg hkb]
   ·rw [if_neg hk,if_neg hk]
  have hres : Res [b] w G (sortWorldK ZbD 2 w b 0 n d' os) G:=by
   refine ⟨⟨rfl,rfl,rfl,Nat.le_add_right _ _,?_,fun k hk hkb=>?_⟩,G.le_refl,fun _ _=>rfl,fun k o hk=>?_⟩
   ·have hah : (Go.Sort.ahead w n).heap = w.heap:=rfl
    simp [sortWorldK,putRowK,putRow,mapBlock,grow]
    try simp [hah]
   ·rw [hget,if_pos hk,if_neg (by simpa [eq_comm] using hkb)]
   ·have hk1:=hG.lt hk
    have hkb : b ≠ k:=fun e=>by subst e; simp only at hb2; rw [hb2] at hk; cases hk
    rw [hget,if_pos hk1,if_neg hkb]; exact hG k o hk
  have hI' : ∀ x ∈ d'.toList,Zv x.1.b:=fun x hx=>hI x (hperm.mem_iff.1 hx)
  have hlen : (d'.toList.map (·.1)).length = (dl.map (·.1)).length:=by simp [hd']
  have hln : (dl.map (·.1)).length = dl.length:=by simp
  refine ⟨_,G,he,hres,rfl,d'.toList.map (·.1),some (b,nat_lit 33,cs'), .inr ⟨b,cs',cap,d'.toList.flatMap ZbD,rfl,by rw [hlen],by rw [hlen]; exact h3,h4,?_,Zgz _ hI',?_,by rw [hlen]; exact h8,by rw [hlen]; exact h9⟩,fun p hp=>?_,?_,?_⟩
  ·subst hcs'; simpa [putCells] using h5
  ·
   have h5' : cs.length = cap * 2:=h5
   apply List.ext_getElem?
   intro t
   rw [List.getElem?_take]
   have hn2 : (d'.toList.map (·.1)).length * SpanE.n = d'.size * 2:=by simp; rfl
   rw [hn2]
   by_cases ht : t < d'.size * 2
   ·have htc : t < cs.length:=by rw [h5']; rw [hln] at h3; omega
    rw [if_pos ht,ZkD ZbD (fun _=>rfl) d' t ht,hcs']
    simp only [putCells,Array.getElem?_toList,Array.getElem?_mapIdx,size_flatK]
    simp only [List.getElem?_toArray]
    rw [List.getElem?_eq_getElem htc]
    simp [ht]
   ·rw [if_neg ht,List.getElem?_eq_none]
    have:=Xq.len (Zgz (G:=G) d'.toList hI')
    omega
  ·obtain rfl:=Option.some.inj hp
   exact ⟨by rw [hget,if_pos hbl,if_pos rfl]; rfl,hb2⟩
  ·exact hperm.map _
  ·unfold Zqb
   rw [List.pairwise_map,List.pairwise_iff_getElem]
   intro i j hi hj hij
   have h:=hs i j (by omega) hij (by rw [← hsz,← hp1]; simpa using hj)
   have hi' : i < d'.size:=by simpa using hi
   have hj' : j < d'.size:=by simpa using hj
   rw [getElem!_pos d' i hi',getElem!_pos d' j hj'] at h
   have:=of_decide_eq_false h
   simp only [cfB] at this
   simp only [Array.getElem_toList]
   omega
end Go.Civ
