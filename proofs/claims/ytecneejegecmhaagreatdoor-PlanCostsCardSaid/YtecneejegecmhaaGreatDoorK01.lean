/- Lemmas. -/
import Derived.Tactics
import Derived.Orders
import Derived.Below
import Derived.Laws.AppendOwn
set_option linter.unusedVariables false
set_option linter.unusedSimpArgs false
set_option linter.unnecessarySimpa false
namespace Go.Civ
open Go.RowKit
abbrev Env:=Nat → Value
def ZQ (ρ : Env) (d : Nat) (v : Value) : Env:=fun t=>bif Nat.beq t d then v else ρ t
def ev (ρ : Env) : Operand → Value
 | .tmp t=>ρ t
 | .const v=>v
 | .global g=> .pointer (some ⟨g,0,none⟩)
 | .func f=> .func (.func f) #[] #[]
structure Fits (N : Nat) (a : Act) (ρ : Env) : Prop where
 size : a.tmps.size = N
 get : ∀ t,a.tmps.getD t undef = ρ t
 defers : a.defers = []
theorem Fits.eval {N : Nat} {a : Act} {ρ : Env} (h : Fits N a ρ) : a.eval = ev ρ:=by
 funext x; cases x with
 | tmp t=>exact h.get t
 | _=>rfl
theorem Fits.unique {N : Nat} {a : Act} {ρ ρ' : Env} (h : Fits N a ρ) (h' : Fits N a ρ') : ρ = ρ':=funext fun t=>(h.get t).symm.trans (h'.get t)
theorem Fits.put {N : Nat} {a : Act} {ρ : Env} (h : Fits N a ρ) {d : Nat} (hd : Nat.blt d N = true) (v : Value) : Fits N (a.put (some d) v) (ZQ ρ d v):=by
 have hlt : d < N:=by simpa using hd
 refine ⟨by simp [Act.put,h.size],fun t=>?_,h.defers⟩
 have hs : d < a.tmps.size:=by rw [h.size]; exact hlt
 simp only [Act.put,ZQ]
 cases hb : Nat.beq t d with
 | true=>
  have : t = d:=Nat.eq_of_beq_eq_true hb
  subst this
  simp [hs]
 | false=>
  have hne : t ≠ d:=Nat.ne_of_beq_eq_false hb
  rw [cond_false,← h.get t]
  simp only [Array.getD_eq_getD_getElem?,Array.getElem?_setIfInBounds]
  rw [if_neg (Ne.symm hne)]
theorem ZaW {ρ : Env} {d : Nat} {v : Value} (h : ρ d = v) : ZQ ρ d v = ρ:=by
 funext t; unfold ZQ
 cases hb : Nat.beq t d with
 | true=>have : t = d:=Nat.eq_of_beq_eq_true hb; subst this; simp [h]
 | false=>rfl
def up (N : Nat) (Q : Exit → Env → World → Prop) : Exit → Act → World → Prop:=fun e a w=>∃ ρ,Fits N a ρ ∧ Q e ρ w
def WC (P : Program) (N : Nat) (c : Code) (Q : Exit → Env → World → Prop) (ρ : Env) (w : World) : Prop:=∀ a,Fits N a ρ → c.wp P (up N Q) a w
section
variable {P : Program} {N : Nat} {Q : Exit → Env → World → Prop} {ρ : Env} {w : World}
theorem WC.mono {c : Code} {Q' : Exit → Env → World → Prop} (h : WC P N c Q ρ w) (hq : ∀ e ρ w,Q e ρ w → Q' e ρ w) : WC P N c Q' ρ w:=
 fun a ha=>wp_mono (h a ha) fun _ _ _ ⟨ρ',hf,hQ⟩=>⟨ρ',hf,hq _ _ _ hQ⟩
def Zc4 (next : Env → World → Prop) (Q : Exit → Env → World → Prop) : Exit → Env → World → Prop
 | .normal,ρ,w=>next ρ w
 | e,ρ,w=>Q e ρ w
theorem WC.seq {x y : Code} (h : WC P N x (Zc4 (WC P N y Q) Q) ρ w) : WC P N (.seq x y) Q ρ w:=by
 intro a ha
 refine wp_seq (wp_mono (h a ha) ?_)
 rintro e a' w' ⟨ρ',hf,hq⟩
 cases e <;> first | exact hq _ hf | exact ⟨ρ',hf,hq⟩
theorem WC.skip (h : Q .normal ρ w) : WC P N .skip Q ρ w:=fun _ ha=>wp_skip ⟨ρ,ha,h⟩
theorem WC.ret (h : Q .ret ρ w) : WC P N .ret Q ρ w:=fun _ ha=>wp_ret ⟨ρ,ha,h⟩
theorem WC.exit {id : Nat} (h : Q (.exit id) ρ w) : WC P N (.exit id) Q ρ w:=fun _ ha=>wp_exit ⟨ρ,ha,h⟩
theorem Zkp {c : Operand} {x y : Code} (hc : ev ρ c = .bool true) (h : WC P N x Q ρ w) : WC P N (.cond c x y) Q ρ w:=
 fun a ha=>wp_cond_true (by rw [ha.eval]; exact hc) (h a ha)
theorem Zkq {c : Operand} {x y : Code} (hc : ev ρ c = .bool false) (h : WC P N y Q ρ w) : WC P N (.cond c x y) Q ρ w:=
 fun a ha=>wp_cond_false (by rw [ha.eval]; exact hc) (h a ha)
theorem WC.cond {c : Operand} {x y : Code} (b : Bool) (hc : ev ρ c = .bool b) (ht : b = true → WC P N x Q ρ w) (hf : b = false → WC P N y Q ρ w) : WC P N (.cond c x y) Q ρ w:=by
 cases b
 ·exact Zkq hc (hf rfl)
 ·exact Zkp hc (ht rfl)
def inB (id : Nat) (Q : Exit → Env → World → Prop) : Exit → Env → World → Prop
 | .exit id',ρ,w=>bif Nat.beq id' id then Q .normal ρ w else Q (.exit id') ρ w
 | e,ρ,w=>Q e ρ w
theorem WC.block {id : Nat} {c : Code} (h : WC P N c (inB id Q) ρ w) : WC P N (.block id c) Q ρ w:=by
 intro a ha
 refine wp_block (wp_mono (h a ha) ?_)
 rintro e a' w' ⟨ρ',hf,hq⟩
 cases e with
 | exit id'=>
  show if id' = id then _ else _
  cases hb : Nat.beq id' id with
  | true=>
   have : id' = id:=Nat.eq_of_beq_eq_true hb
   rw [if_pos this]
   exact ⟨ρ',hf,by simpa [inB,hb] using hq⟩
  | false=>
   have : id' ≠ id:=Nat.ne_of_beq_eq_false hb
   rw [if_neg this]
   exact ⟨ρ',hf,by simpa [inB,hb] using hq⟩
 | normal=>exact ⟨ρ',hf,hq⟩
 | goto l=>exact ⟨ρ',hf,hq⟩
 | ret=>exact ⟨ρ',hf,hq⟩
 | panic ch=>exact ⟨ρ',hf,hq⟩
 | outgrown=>exact ⟨ρ',hf,hq⟩
theorem WC.loop {γ : Type} {c : Code} (I : γ → Env → World → Prop) (μ : γ → Nat) (g : γ) (h₀ : I g ρ w)
  (round : ∀ g ρ w,I g ρ w → WC P N c (Zc4 (fun ρ' w'=>∃ g',I g' ρ' w' ∧ μ g' < μ g) Q) ρ w) : WC P N (.loop c) Q ρ w:=by
 intro a ha
 let J : Nat → Act → World → Prop:=fun n a w=>∃ g ρ,Fits N a ρ ∧ I g ρ w ∧ μ g = n
 intro b k cs
 have key : ∀ n a w,J n a w → ∃ e a' w',up N Q e a' w' ∧ Arrives P (lone (b.at a (.code c :: .inLoop c :: k)) cs w) b k cs e a' w':=by
  intro n
  induction n using Nat.strongRecOn with
  | _ n ih=>
   rintro a w ⟨g,ρ,hf,hI,hn⟩
   obtain ⟨e,a₁,w₁,⟨ρ₁,hf₁,hq⟩,harr⟩:=round g ρ w hI a hf b (.inLoop c :: k) cs
   cases e with
   | normal=>
    obtain ⟨g',hI',hlt⟩:=hq
    obtain ⟨e₂,a₂,w₂,hq₂,harr₂⟩:=ih (μ g') (hn ▸ hlt) a₁ w₁ ⟨g',ρ₁,hf₁,hI',rfl⟩
    exact ⟨e₂,a₂,w₂,hq₂, .of_steps (Steps.trans harr (.one step_inLoop)) harr₂⟩
   | exit id=>exact ⟨_,a₁,w₁,⟨ρ₁,hf₁,hq⟩, .pass (x:= .inLoop c) rfl (fun _ _=> .inl (by simp)) harr⟩
   | goto l=>exact ⟨_,a₁,w₁,⟨ρ₁,hf₁,hq⟩, .pass (x:= .inLoop c) rfl (fun _ _=> .inl (by simp)) harr⟩
   | ret=>exact ⟨_,a₁,w₁,⟨ρ₁,hf₁,hq⟩, .pass (x:= .inLoop c) rfl (fun _ _=> .inl (by simp)) harr⟩
   | panic ch=>exact ⟨_,a₁,w₁,⟨ρ₁,hf₁,hq⟩, .pass (x:= .inLoop c) rfl (fun _ _=> .inl (by simp)) harr⟩
   | outgrown=>exact ⟨_,a₁,w₁,⟨ρ₁,hf₁,hq⟩, .pass (x:= .inLoop c) rfl (fun _ _=> .inl (by simp)) harr⟩
 obtain ⟨e,a',w',hq,harr⟩:=key _ a w ⟨g,ρ,ha,h₀,rfl⟩
 exact ⟨e,a',w',hq, .of_steps (.one step_loop) harr⟩
variable {ops : Array Oper} {rest : List Oper}
def Zu (ops : Array Oper) (ρ : Env) (j : Nat) : Option Bool:=
 match (ops[j]?).bind (·.dst) with
 | some d=>match ρ d with
  | .bool b=>some b
  | _=>none
 | none=>none
theorem ZmY {a : Act} (ha : Fits N a ρ) (j : Nat) : yielded ops a.tmps j = Zu ops ρ j:=by
 unfold yielded Zu
 cases h : (ops[j]?).bind (·.dst) with
 | none=>rfl
 | some d=>
  simp only [Option.bind_some]
  rw [← ha.get d]
  cases h2 : a.tmps[d]? with
  | none=>simp [Array.getD_eq_getD_getElem?,h2,undef]
  | some v=>simp [Array.getD_eq_getD_getElem?,h2]; cases v <;> rfl
theorem ZiU {a : Act} (ha : Fits N a ρ) (o : Oper) : Region.wanted o (yielded ops a.tmps) = Region.wanted o (Zu ops ρ):=by
 unfold Region.wanted; cases o.guard with
 | none=>rfl
 | some p=>simp [ZmY ha]
def XH (ρ : Env) : Option Nat → Value → Env
 | some d,v=>ZQ ρ d v
 | none,_=>ρ
def Zbg (P : Program) (o : Oper) (ρ : Env) (K : Env → World → Prop) : Result Next → Prop
 | .ok (.value v) w'=>K (XH ρ o.dst v) w'
 | .ok .skip w'=>K (XH ρ o.dst undef) w'
 | .ok (.enter f args) w'=>Calls P f args w' fun e w''=>∃ v,e = .returned v ∧ K (XH ρ o.dst v) w''
 | _=>False
def oW (P : Program) (ops : Array Oper) (o : Oper) (ρ : Env) (w : World) (K : Env → World → Prop) : Prop:=
 match Region.wanted o (Zu ops ρ) with
 | true=>Zbg P o ρ K ((execOp (ev ρ) o).run P w)
 | false=>K (XH ρ o.dst undef) w
def WL (P : Program) (ops : Array Oper) (Q : Exit → Env → World → Prop) : List Oper → Env → World → Prop
 | [],ρ,w=>Q .normal ρ w
 | o :: rest,ρ,w=>oW P ops o ρ w (WL P ops Q rest)
theorem Zbg.mono {o : Oper} {ρ' : Env} {K K' : Env → World → Prop} {r : Result Next} (h : ∀ v w,K (XH ρ o.dst v) w → K' (XH ρ' o.dst v) w) (hh : Zbg P o ρ K r) : Zbg P o ρ' K' r:=by
 cases r with
 | halt h w=>exact hh
 | ok n w'=>
  cases n <;> simp only [Zbg] at hh ⊢
  case value v=>exact h _ _ hh
  case skip=>exact h _ _ hh
  case enter f args=>exact hh.mono fun e w'' ⟨v,h1,h2⟩=>⟨v,h1,h _ _ h2⟩
theorem oW.mono {o : Oper} {K K' : Env → World → Prop} (h : ∀ ρ w,K ρ w → K' ρ w) (hh : oW P ops o ρ w K) : oW P ops o ρ w K':=by
 unfold oW at *
 cases hw : Region.wanted o (Zu ops ρ) <;> simp only [hw] at hh ⊢
 ·exact h _ _ hh
 ·exact Zbg.mono (fun v w=>h _ _) hh
def Zcq (N : Nat) (o : Oper) : Bool:=match o.dst with | some d=>Nat.blt d N | none=>true
theorem Fits.putO {a : Act} (h : Fits N a ρ) {o : Oper} (hd : Zcq N o = true) (v : Value) : Fits N (a.put o.dst v) (XH ρ o.dst v):=by
 unfold Zcq at hd
 cases ho : o.dst with
 | none=>exact h
 | some d=>rw [ho] at hd; exact h.put hd v
theorem Zfw {o : Oper} {a : Act} (ha : Fits N a ρ) (hd : Zcq N o = true) {K : Env → World → Prop} {K' : Act → World → Prop} {Q' : Exit → Act → World → Prop} (hK : ∀ ρ' a' w',Fits N a' ρ' → K ρ' w' → K' a' w')
  (h : Zbg P o ρ K ((execOp (ev ρ) o).run P w)) : o.wp P a w K' Q':=by
 unfold Oper.wp
 rw [ha.eval]
 generalize (execOp (ev ρ) o).run P w = r at h
 cases r with
 | halt h' w=>exact h.elim
 | ok n w'=>
  cases n <;> simp only [Zbg] at h <;> simp only [Oper.upon]
  case value v=>exact hK _ _ _ (ha.putO hd v) h
  case skip=>exact hK _ _ _ (ha.putO hd undef) h
  case enter f args=>
   refine h.mono ?_
   rintro e w'' ⟨v,rfl,h2⟩
   exact hK _ _ _ (ha.putO hd v) h2
theorem ZgT : ∀ (l : List Oper) (ρ : Env) (a : Act) (w : World),l.all (Zcq N) = true → Fits N a ρ → WL P ops Q l ρ w → wpList P ops (up N Q) l a w
 | [],ρ,a,w,_,ha,h=>wpList_nil ⟨ρ,ha,h⟩
 | o :: rest,ρ,a,w,hN,ha,h=>by
  simp only [List.all_cons,Bool.and_eq_true] at hN
  refine wpList_step fun K hK=>?_
  rw [ZiU ha]
  simp only [WL,oW] at h
  cases hw : Region.wanted o (Zu ops ρ) <;> simp only [hw] at h
  ·rw [if_neg (by simp)]; exact hK _ _ (ZgT rest _ _ _ hN.2 (ha.putO hN.1 _) h)
  ·rw [if_pos rfl]; exact Zfw ha hN.1 (fun ρ' a' w' hf h'=>hK _ _ (ZgT rest ρ' a' w' hN.2 hf h')) h
theorem WC.region {id : Nat} {l : List Oper} (hN : l.all (Zcq N) = true) (h : WL P l.toArray Q l ρ w) : WC P N (.region id l.toArray false) Q ρ w:=
 fun a ha=>wp_region_lit (ZgT l ρ a w hN ha h)
theorem WL.nil (h : Q .normal ρ w) : WL P ops Q [] ρ w:=h
structure OW (P : Program) (ops : Array Oper) (o : Oper) (ρ : Env) (w : World) (K : Env → World → Prop) : Prop where
 h : oW P ops o ρ w K
variable {K : Env → World → Prop}
theorem WL.val {ops : Array Oper} {o : Oper} {w' : World} {v : Value} {d : Nat} (hw : Region.wanted o (Zu ops ρ) = true) (hr : (execOp (ev ρ) o).run P w = .ok (.value v) w') (hd : o.dst = some d)
  (k : K (ZQ ρ d v) w') : OW P ops o ρ w K:=⟨by simp only [oW,hw,hr,Zbg,hd,XH]; exact k⟩
theorem Zop {ops : Array Oper} {o : Oper} {w' : World} (hw : Region.wanted o (Zu ops ρ) = true) (hr : (execOp (ev ρ) o).run P w = .ok .skip w') (hd : o.dst = none)
  (k : K ρ w') : OW P ops o ρ w K:=⟨by simp only [oW,hw,hr,Zbg,hd,XH]; exact k⟩
theorem WL.no {ops : Array Oper} {o : Oper} {d : Nat} (hw : Region.wanted o (Zu ops ρ) = false) (hd : o.dst = some d)
  (k : K (ZQ ρ d undef) w) : OW P ops o ρ w K:=⟨by simp only [oW,hw,hd,XH]; exact k⟩
theorem WL.call {ops : Array Oper} {o : Oper} {w' : World} {f : FuncId} {args : Array Value} {d : Nat} (hw : Region.wanted o (Zu ops ρ) = true) (hr : (execOp (ev ρ) o).run P w = .ok (.enter f args) w') (hd : o.dst = some d)
  (hc : Calls P f args w' fun e w''=>∃ v,e = .returned v ∧ K (ZQ ρ d v) w'') : OW P ops o ρ w K:=⟨by simp only [oW,hw,hr,Zbg,hd,XH]; exact hc⟩
def ZmZ (ρ : Env) : List (Nat × Value) → Env
 | []=>ρ
 | x :: l=>ZmZ (ZQ ρ x.1 x.2) l
def FR (ρ : Env) : List (Nat × Value) → Prop
 | []=>True
 | x :: l=>ρ x.1 = x.2 ∧ FR ρ l
theorem ZS {ρ : Env} : ∀ {l : List (Nat × Value)},l.map (fun x=>ρ x.1) = l.map (·.2) → FR ρ l
 | [],_=>trivial
 | _ :: _,h=>⟨(List.cons.inj h).1,ZS (List.cons.inj h).2⟩
theorem FR.eq {ρ : Env} : ∀ {l : List (Nat × Value)},FR ρ l → ZmZ ρ l = ρ
 | [],_=>rfl
 | x :: l,h=>by
  simp only [ZmZ,ZaW h.1]
  exact FR.eq h.2
theorem FR.set {l : List (Nat × Value)} (h : FR ρ l) (k : K (ZmZ ρ l) w) : K ρ w:=by rwa [h.eq] at k
def ZgU (rs : List ResultVar) (ρ : Env) : Option (List Value):=
 match rs with
 | []=>some []
 | .tmp t :: r=>(ZgU r ρ).map (ρ t :: ·)
 | _ :: _=>none
def ZeC (rs : List ResultVar) (ρ : Env) : Option Value:=
 match ZgU rs ρ with
 | some [v]=>some v
 | some vs=>some (.tuple vs.toArray)
 | none=>none
def Z0w (rs : List ResultVar) (R : Ending → World → Prop) : Exit → Env → World → Prop
 | .normal,ρ,w | .ret,ρ,w=>∃ v,ZeC rs ρ = some v ∧ R (.returned v) w
 | _,_,_=>False
def rv (tmps : Array Value) : ResultVar → Sem Value
 | .tmp t=>pure (tmps.getD t undef)
 | .cell a t=>do loadVar t (← asAddr (tmps.getD a undef))
theorem Zhz (fn : Func) (tmps : Array Value) : results fn tmps = (do
  let vs ← fn.results.mapM (rv tmps)
  pure (if h : vs.size = 1 then vs[0] else .tuple vs)):=by
 unfold results
 congr 2
theorem Zqu (rs : List ResultVar) (tmps : Array Value) {vs : List Value} (h : ∀ t,tmps.getD t undef = ρ t) (hv : ZgU rs ρ = some vs) :
  (rs.mapM (rv tmps)).run P w = .ok vs w:=by
 obtain rfl : ρ = fun t=>tmps.getD t undef:=funext fun t=>(h t).symm
 clear h
 induction rs generalizing vs with
 | nil=>simp [ZgU] at hv; subst hv; simp
 | cons r rs ih=>
  cases r with
  | cell a t=>simp [ZgU] at hv
  | tmp t=>
   simp only [ZgU,Option.map_eq_some_iff] at hv
   obtain ⟨vs',h1,rfl⟩:=hv
   have:=ih h1
   simp only [List.mapM_cons]
   simp only [Sem.run_bind,this,Result.andThen,Sem.run_pure,rv]
theorem ZgB {fn : Func} {a : Act} {v : Value} (ha : Fits N a ρ) (hv : ZeC fn.results.toList ρ = some v) : (results fn a.tmps).run P w = .ok v w:=by
 unfold ZeC at hv
 cases hvs : ZgU fn.results.toList ρ with
 | none=>simp [hvs] at hv
 | some vs=>
  have h:=Zqu (P:=P) (w:=w) fn.results.toList a.tmps ha.get hvs
  rw [Zhz,Array.mapM_eq_mapM_toList,Sem.run_bind,Sem.run_map,h]
  simp only [hvs] at hv
  match vs,hv with
  | [],hv=>simp only [Option.some.injEq] at hv; subst hv; simp [Result.andThen]
  | [x],hv=>simp only [Option.some.injEq] at hv; subst hv; simp [Result.andThen]
  | x :: y :: z,hv=>simp only [Option.some.injEq] at hv; subst hv; simp [Result.andThen]
theorem ZgC {f : FuncId} {fn : Func} {c : Code} {args : Array Value} {R : Ending → World → Prop}
  (hf : P.funcs[f]? = some fn) (hb : fn.body = some c) (hN : fn.ntmps = N) (hle : Nat.ble args.size N = true)
  (h : WC P N c (Z0w fn.results.toList R) (fun t=>args.getD t undef) w) : Calls P f args w R:=by
 refine calls_of_wp hf hb ?_
 have hle' : args.size ≤ N:=by simpa using hle
 have ha : Fits N { tmps:=args ++ Array.replicate (fn.ntmps - args.size) undef,defers:=[] } (fun t=>args.getD t undef):=by
  refine ⟨by simp [hN]; omega,fun t=>?_,rfl⟩
  simp only [Array.getD_eq_getD_getElem?,Array.getElem?_append,Array.getElem?_replicate,hN]
  split
  ·rfl
  ·rename_i hlt
   rw [Array.getElem?_eq_none (xs:=args) (by omega)]
   split <;> rfl
 refine wp_mono (h _ ha) ?_
 rintro e a' w' ⟨ρ',hf',hq⟩
 cases e with
 | normal=>obtain ⟨v,hv,hR⟩:=hq; exact ⟨hf'.defers,v,ZgB hf' hv,hR⟩
 | ret=>obtain ⟨v,hv,hR⟩:=hq; exact ⟨hf'.defers,v,ZgB hf' hv,hR⟩
 | exit id=>exact hq.elim
 | goto l=>exact hq.elim
 | panic ch=>exact hq.elim
 | outgrown=>exact hq.elim
end
end Go.Civ
namespace Go.Civ
open Go.RowKit
abbrev GH:=Nat → Option Obj
def GH.le (G G' : GH) : Prop:=∀ b o,G b = some o → G' b = some o
def GH.add (G : GH) (b : Nat) (o : Obj) : GH:=fun x=>bif Nat.beq x b then some o else G x
theorem Zoq {k b : Nat} (h : k ≠ b) : Nat.beq k b = false:=by
 cases e : Nat.beq k b with
 | true=>exact absurd (Nat.eq_of_beq_eq_true e) h
 | false=>rfl
theorem GH.le_refl (G : GH) : G.le G:=fun _ _ h=>h
theorem GH.le.trans {A B C : GH} (h : A.le B) (k : B.le C) : A.le C:=fun b o x=>k b o (h b o x)
abbrev Own:=List (Option (Nat × TypeId × List Value))
def Zna (p : TypeId × List Value) : Obj:= .cells p.2.toArray p.1 (0,0)
structure Kept (X : List Nat) (w w' : World) : Prop where
 os : w'.os = w.os
 tape : w'.tape = w.tape
 output : w'.output = w.output
 drawn : True
 size : w.heap.size ≤ w'.heap.size
 block : ∀ k,k < w.heap.size → k ∉ X → w'.heap[k]? = w.heap[k]?
theorem Kept.refl (X : List Nat) (w : World) : Kept X w w:=⟨rfl,rfl,rfl,trivial,Nat.le_refl _,fun _ _ _=>rfl⟩
theorem Kept.trans {X : List Nat} {a b c : World} (h : Kept X a b) (k : Kept X b c) : Kept X a c:=
 ⟨k.os.trans h.os,k.tape.trans h.tape,k.output.trans h.output,trivial,Nat.le_trans h.size k.size,fun i hi hx=>(k.block i (Nat.lt_of_lt_of_le hi h.size) hx).trans (h.block i hi hx)⟩
theorem Kept.step {X Y : List Nat} {a b c : World} (h : Kept X a b) (k : Kept Y b c) (hY : ∀ y ∈ Y,a.heap.size ≤ y ∨ y ∈ X) : Kept X a c:=
 ⟨k.os.trans h.os,k.tape.trans h.tape,k.output.trans h.output,trivial,Nat.le_trans h.size k.size,fun i hi hx=>(k.block i (Nat.lt_of_lt_of_le hi h.size) (fun hy=>by rcases hY i hy with h | h; omega; exact hx h)).trans (h.block i hi hx)⟩
theorem Kept.mono {X Y : List Nat} {a b : World} (h : Kept X a b) (hs : ∀ x ∈ X,x ∈ Y) : Kept Y a b:=⟨h.os,h.tape,h.output,h.drawn,h.size,fun k hk hy=>h.block k hk fun hx=>hy (hs _ hx)⟩
theorem Kept.below {a b : World} (h : Kept [] a b) : Below a.heap.size a b:=⟨h.os,h.tape,h.output,h.size,fun k hk=>h.block k hk (by simp)⟩
structure Res (X : List Nat) (w : World) (G : GH) (w' : World) (G' : GH) : Prop where
 kept : Kept X w w'
 le : G.le G'
 new : ∀ b,b < w.heap.size → G' b = G b
 imm : ∀ b o,G' b = some o → w'.heap[b]? = some o
def GH.In (G : GH) (w : World) : Prop:=∀ b o,G b = some o → w.heap[b]? = some o
theorem Res.refl {X : List Nat} {w : World} {G : GH} (h : G.In w) : Res X w G w G:=⟨Kept.refl _ _,G.le_refl,fun _ _=>rfl,h⟩
theorem Res.trans {X : List Nat} {w w' w'' : World} {G G' G'' : GH} (h : Res X w G w' G') (k : Res X w' G' w'' G'') : Res X w G w'' G'':=
 ⟨h.kept.trans k.kept,h.le.trans k.le,fun b hb=>(k.new b (Nat.lt_of_lt_of_le hb h.kept.size)).trans (h.new b hb),k.imm⟩
structure St (w0 : World) (X : List Nat) (G0 G : GH) (L : Own) (w : World) : Prop where
 kept : Kept X w0 w
 le : G0.le G
 new : ∀ b,b < w0.heap.size → G b = G0 b
 imm : G.In w
 own : ∀ (i : Nat) p,L[i]? = some (some p) → w.heap[p.1]? = some (Zna p.2)
 sep : ∀ (i : Nat) p,L[i]? = some (some p) → (w0.heap.size ≤ p.1 ∨ p.1 ∈ X) ∧ G p.1 = none
 nd : ∀ (i j : Nat) p q,L[i]? = some (some p) → L[j]? = some (some q) → p.1 = q.1 → i = j
theorem GH.In.lt {G : GH} {w : World} (h : G.In w) {b : Nat} {o : Obj} (hb : G b = some o) : b < w.heap.size:=(Array.getElem?_eq_some_iff.1 (h b o hb)).1
theorem GH.In.fresh {G : GH} {w : World} (h : G.In w) {b : Nat} (hb : w.heap.size ≤ b) : G b = none:=by
 cases e : G b with
 | none=>rfl
 | some o=>have:=h.lt e; omega
theorem GH.In.step {G G' : GH} {w w' : World} {X : List Nat} (r : Res X w G w' G') : G'.In w':=r.imm
theorem GH.add_at (G : GH) (b : Nat) (o : Obj) : G.add b o b = some o:=by unfold GH.add; rw [show Nat.beq b b = true from by simp]; rfl
theorem GH.add_ne (G : GH) {b k : Nat} (o : Obj) (h : k ≠ b) : G.add b o k = G k:=by unfold GH.add; rw [Zoq h]; rfl
theorem GH.add_le (G : GH) {b : Nat} (o : Obj) (h : G b = none) : G.le (G.add b o):=fun k x hk=>by
 rw [GH.add_ne]; exact hk
 intro e; subst e; rw [h] at hk; cases hk
section
variable {w0 w : World} {X : List Nat} {G0 G : GH} {L : Own}
theorem St.start {X : List Nat} (h : G.In w) : St w X G G [] w:=
 ⟨Kept.refl _ _,G.le_refl,fun _ _=>rfl,h,fun _ _ hp=>by simp at hp,fun _ _ hp=>by simp at hp,fun _ _ _ _ hp=>by simp at hp⟩
theorem St.lent (h : G.In w) {b : Nat} {e : TypeId} {cs : List Value} (hb : w.heap[b]? = some (.cells cs.toArray e (0,0))) (hG : G b = none) : St w [b] G G [some (b,e,cs)] w:=by
 have one : ∀ (i : Nat) (p : Nat × TypeId × List Value),[some (b,e,cs)][i]? = some (some p) → i = 0 ∧ p = (b,e,cs):=fun i p hp=>by
  cases i with
  | zero=>simp at hp; exact ⟨rfl,hp.symm⟩
  | succ i=>simp at hp
 refine ⟨Kept.refl _ _,G.le_refl,fun _ _=>rfl,h,fun i p hp=>?_,fun i p hp=>?_,fun i j p q hp hq _=>(one i p hp).1.trans (one j q hq).1.symm⟩
 ·obtain ⟨_,rfl⟩:=one i p hp; exact hb
 ·obtain ⟨_,rfl⟩:=one i p hp; exact ⟨.inr (by simp),hG⟩
theorem St.res (h : St w0 X G0 G L w) : Res X w0 G0 w G:=⟨h.kept,h.le,h.new,h.imm⟩
theorem St.ownLt (h : St w0 X G0 G L w) {i : Nat} {p : Nat × TypeId × List Value} (hp : L[i]? = some (some p)) : p.1 < w.heap.size:=(Array.getElem?_eq_some_iff.1 (h.own i p hp)).1
theorem St.get (h : St w0 X G0 G L w) (i : Nat) {b : Nat} {e : TypeId} {cs : List Value} (hi : L[i]? = some (some (b,e,cs))) : w.heap[b]? = some (.cells cs.toArray e (0,0)):=h.own i (b,e,cs) hi
theorem St.same (h : St w0 X G0 G L w) {w' : World} (h1 : w'.os = w.os) (h2 : w'.tape = w.tape) (h3 : w'.output = w.output) (h4 : w'.heap = w.heap) (h5 : w.drawn ≤ w'.drawn) : St w0 X G0 G L w':=
 ⟨⟨h1.trans h.kept.os,h2.trans h.kept.tape,h3.trans h.kept.output,trivial,by rw [h4]; exact h.kept.size,by rw [h4]; exact h.kept.block⟩,h.le,h.new,fun b o hb=>by rw [h4]; exact h.imm b o hb,fun i p hp=>by rw [h4]; exact h.own i p hp,h.sep,h.nd⟩
theorem St.draw (h : St w0 X G0 G L w) : St w0 X G0 G L { w with drawn:=w.drawn + 1 }:=h.same rfl rfl rfl rfl (Nat.le_succ _)
theorem St.adopt (h : St w0 X G0 G L w) {w' : World} {G' : GH} (r : Res [] w G w' G') {b : Nat} {e : TypeId} {cs : List Value} (hb : w'.heap[b]? = some (.cells cs.toArray e (0,0))) (hn : w.heap.size ≤ b) (hG : G' b = none) :
  St w0 X G0 G' (some (b,e,cs) :: L) w':=by
 refine ⟨h.kept.step r.kept (by simp),h.le.trans r.le,fun b hb=>(r.new b (Nat.lt_of_lt_of_le hb h.kept.size)).trans (h.new b hb),r.imm,fun i p hp=>?_,fun i p hp=>?_,fun i j p q hp hq he=>?_⟩
 ·cases i with
  | zero=>simp at hp; subst hp; exact hb
  | succ i=>simp at hp; rw [r.kept.block _ (h.ownLt hp) (by simp)]; exact h.own i p hp
 ·cases i with
  | zero=>simp at hp; subst hp; exact ⟨.inl (Nat.le_trans h.kept.size hn),hG⟩
  | succ i=>simp at hp; exact ⟨(h.sep i p hp).1,by rw [r.new _ (h.ownLt hp)]; exact (h.sep i p hp).2⟩
 ·cases i <;> cases j
  ·rfl
  ·simp at hp hq; subst hp; have:=h.ownLt hq; simp at he; omega
  ·simp at hp hq; subst hq; have:=h.ownLt hp; simp at he; omega
  ·simp at hp hq; exact congrArg (· + 1) (h.nd _ _ _ _ hp hq he)
theorem Res.alloc (h : G.In w) (o : Obj) : Res [] w G { w with heap:=w.heap.push o } G:=by
 have old : ∀ k,k < w.heap.size → (w.heap.push o)[k]? = w.heap[k]? :=fun k hk=>by rw [Array.getElem?_push,if_neg (by omega)]
 exact ⟨⟨rfl,rfl,rfl,trivial,by simp,fun k hk _=>old k hk⟩,G.le_refl,fun _ _=>rfl,fun b o hb=>(old b (h.lt hb)).trans (h b o hb)⟩
theorem St.alloc (h : St w0 X G0 G L w) (e : TypeId) (cs : List Value) : St w0 X G0 G (some (w.heap.size,e,cs) :: L) { w with heap:=w.heap.push (.cells cs.toArray e) }:=
 h.adopt (Res.alloc h.imm _) (by simp) (Nat.le_refl _) (h.imm.fresh (Nat.le_refl _))
theorem St.call (h : St w0 X G0 G L w) {w' : World} {G' : GH} (r : Res [] w G w' G') : St w0 X G0 G' L w':=
 ⟨h.kept.step r.kept (by simp),h.le.trans r.le,fun b hb=>(r.new b (Nat.lt_of_lt_of_le hb h.kept.size)).trans (h.new b hb),r.imm,
  fun i p hp=>by rw [r.kept.block _ (h.ownLt hp) (by simp)]; exact h.own i p hp,fun i p hp=>⟨(h.sep i p hp).1,by rw [r.new _ (h.ownLt hp)]; exact (h.sep i p hp).2⟩,h.nd⟩
theorem St.callX (h : St w0 X G0 G L w) {w' : World} {G' : GH} (i : Nat) {b : Nat} {e : TypeId} {cs : List Value} (hi : L[i]? = some (some (b,e,cs))) (cs' : List Value) (r : Res [b] w G w' G')
  (hb : w'.heap[b]? = some (.cells cs'.toArray e (0,0))) : St w0 X G0 G' (L.set i (some (b,e,cs'))) w':=by
 have hsep:=h.sep _ _ hi
 have hil : i < L.length:=(List.getElem?_eq_some_iff.1 hi).1
 have look : ∀ (j : Nat) p,(L.set i (some (b,e,cs')))[j]? = some (some p) → (j = i ∧ p = (b,e,cs')) ∨ (j ≠ i ∧ L[j]? = some (some p) ∧ p.1 ≠ b):=fun j p hj=>by
  rw [List.getElem?_set] at hj
  split at hj
  ·rename_i hji; subst hji; simp at hj; exact .inl ⟨rfl,hj.symm⟩
  ·rename_i hji; exact .inr ⟨Ne.symm hji,hj,fun he=>hji (h.nd _ _ _ _ hi hj he.symm)⟩
 refine ⟨h.kept.step r.kept (fun y hy=>?_),h.le.trans r.le,fun b hb=>(r.new b (Nat.lt_of_lt_of_le hb h.kept.size)).trans (h.new b hb),r.imm,fun j p hp=>?_,fun j p hp=>?_,fun j k p q hp hq he=>?_⟩
 ·obtain rfl:=List.mem_singleton.1 hy; exact hsep.1
 ·rcases look j p hp with ⟨rfl,rfl⟩ | ⟨_,hp,hne⟩
  ·exact hb
  ·rw [r.kept.block _ (h.ownLt hp) (by simpa using hne)]; exact h.own j p hp
 ·rcases look j p hp with ⟨rfl,rfl⟩ | ⟨_,hp,hne⟩
  ·exact ⟨hsep.1,by rw [r.new _ (h.ownLt hi)]; exact hsep.2⟩
  ·exact ⟨(h.sep j p hp).1,by rw [r.new _ (h.ownLt hp)]; exact (h.sep j p hp).2⟩
 ·rcases look j p hp with ⟨rfl,rfl⟩ | ⟨_,hp,hne⟩ <;> rcases look k q hq with ⟨rfl,rfl⟩ | ⟨_,hq,hne'⟩
  ·rfl
  ·exact absurd he.symm hne'
  ·exact absurd he hne
  ·exact h.nd _ _ _ _ hp hq he
theorem St.write (h : St w0 X G0 G L w) {w' : World} (i : Nat) {b : Nat} {e : TypeId} {cs : List Value} (hi : L[i]? = some (some (b,e,cs))) (cs' : List Value)
  (hos : w'.os = w.os) (htape : w'.tape = w.tape) (hout : w'.output = w.output) (hdr : w.drawn ≤ w'.drawn) (hsize : w'.heap.size = w.heap.size)
  (hb : w'.heap[b]? = some (.cells cs'.toArray e (0,0))) (hne : ∀ k,k ≠ b → w'.heap[k]? = w.heap[k]?) : St w0 X G0 G (L.set i (some (b,e,cs'))) w':=by
 refine h.callX i hi cs' ⟨⟨hos,htape,hout,trivial,by omega,fun k _ hk=>hne k (by simpa using hk)⟩,G.le_refl,fun _ _=>rfl,fun k o hk=>?_⟩ hb
 rw [hne k (fun e=>?_)]; exact h.imm k o hk
 subst e
 have h2:=(h.sep _ _ hi).2
 simp only at h2
 rw [h2] at hk; cases hk
theorem St.drop (h : St w0 X G0 G L w) (i : Nat) : St w0 X G0 G (L.set i none) w:=by
 have look : ∀ (j : Nat) p,(L.set i none)[j]? = some (some p) → L[j]? = some (some p):=fun j p hj=>by
  rw [List.getElem?_set] at hj
  split at hj
  ·split at hj <;> simp at hj
  ·exact hj
 exact ⟨h.kept,h.le,h.new,h.imm,fun j p hp=>h.own j p (look j p hp),fun j p hp=>h.sep j p (look j p hp),fun j k p q hp hq he=>h.nd j k p q (look j p hp) (look k q hq) he⟩
theorem St.tail {o : Option (Nat × TypeId × List Value)} (h : St w0 X G0 G (o :: L) w) : St w0 X G0 G L w:=
 ⟨h.kept,h.le,h.new,h.imm,fun j p hp=>h.own (j + 1) p (by simpa using hp),fun j p hp=>h.sep (j + 1) p (by simpa using hp),fun j k p q hp hq he=>by have:=h.nd (j + 1) (k + 1) p q (by simpa using hp) (by simpa using hq) he; omega⟩
theorem St.reindex (h : St w0 X G0 G L w) (L' : Own) (f : Nat → Nat) (hf : ∀ (j : Nat) p,L'[j]? = some (some p) → L[f j]? = some (some p)) (inj : ∀ j k,j < L'.length → k < L'.length → f j = f k → j = k) : St w0 X G0 G L' w:=
 ⟨h.kept,h.le,h.new,h.imm,fun j p hp=>h.own _ p (hf j p hp),fun j p hp=>h.sep _ p (hf j p hp),fun j k p q hp hq he=>
  inj j k (List.getElem?_eq_some_iff.1 hp).1 (List.getElem?_eq_some_iff.1 hq).1 (h.nd _ _ _ _ (hf j p hp) (hf k q hq) he)⟩
theorem St.place {o : Option (Nat × TypeId × List Value)} (h : St w0 X G0 G (o :: L) w) (i : Nat) : St w0 X G0 G (L.set i o) w:=by
 refine h.reindex _ (fun j=>if j = i then 0 else j + 1) (fun j p hp=>?_) (fun j k _ _ he=>?_)
 ·rw [List.getElem?_set] at hp
  by_cases hji : i = j
  ·subst hji
   rw [if_pos rfl] at hp
   split at hp
   ·simpa using hp
   ·cases hp
  ·rw [if_neg hji] at hp
   show (o :: L)[if j = i then 0 else j + 1]? = _
   rw [if_neg (Ne.symm hji)]; simpa using hp
 ·split at he <;> split at he <;> omega
theorem St.freeze (h : St w0 X G0 G L w) (i : Nat) {b : Nat} {e : TypeId} {cs : List Value} (hi : L[i]? = some (some (b,e,cs))) (hb : w0.heap.size ≤ b) :
  St w0 X G0 (G.add b (.cells cs.toArray e)) (L.set i none) w:=by
 have hsep:=h.sep _ _ hi
 have d:=h.drop i
 have hle:=G.add_le (.cells cs.toArray e) (b:=b) hsep.2
 refine ⟨h.kept,h.le.trans hle,fun k hk=>by rw [GH.add_ne _ _ (by omega)]; exact h.new k hk,fun k o hk=>?_,d.own,fun j p hp=>⟨(d.sep j p hp).1,?_⟩,d.nd⟩
 ·by_cases hkb : k = b
  ·subst hkb
   rw [GH.add_at] at hk
   obtain rfl:=Option.some.inj hk
   exact h.get i hi
  ·rw [GH.add_ne _ _ hkb] at hk; exact h.imm k o hk
 ·rw [GH.add_ne]; exact (d.sep j p hp).2
  intro he
  rw [List.getElem?_set] at hp
  split at hp
  ·split at hp <;> simp at hp
  ·rename_i hji; exact hji (h.nd _ _ _ _ hi hp he.symm)
theorem St.mine (h : St w0 [] G0 G L w) {i : Nat} {p : Nat × TypeId × List Value} (hp : L[i]? = some (some p)) : w0.heap.size ≤ p.1:=by
 have:=(h.sep i p hp).1; simpa using this
end
end Go.Civ
