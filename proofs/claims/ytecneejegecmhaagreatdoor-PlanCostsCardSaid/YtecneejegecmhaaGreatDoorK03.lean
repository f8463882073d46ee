/- Lemmas. -/
import Derived.Test.YtecneejegecmhaaGreatDoorK02
import Derived.KernelRfl
import Derived.Scope
set_option linter.unusedVariables false
set_option linter.unusedSimpArgs false
set_option linter.unnecessarySimpa false
namespace Go.Civ
open Go.RowKit
structure FTab (P : Program) where
 l : List (Nat × List (Nat × Nat))
 ok : ∀ x ∈ l,fieldsOf P x.1 = some x.2
def ZeF {α : Type} (n : Nat) : List (Nat × α) → Option α
 | []=>none
 | x :: r=>bif Nat.beq x.1 n then some x.2 else ZeF n r
theorem ZiX {α : Type} {n : Nat} {a : α} : ∀ {l : List (Nat × α)},ZeF n l = some a → (n,a) ∈ l
 | [],h=>by cases h
 | x :: r,h=>by
  unfold ZeF at h
  cases hb : Nat.beq x.1 n with
  | true=>
   rw [hb] at h; obtain rfl:=Option.some.inj h
   have:=Nat.eq_of_beq_eq_true hb
   subst this; simp
  | false=>rw [hb] at h; exact List.mem_cons_of_mem _ (ZiX h)
variable {P : Program}
def ZeG (F : FTab P) (ρ : Env) (o : Oper) : Option Value:=
 match o.op with
 | .move x=>some (ev ρ x)
 | .assign x=>some (ev ρ x)
 | .pick c a b=>match ev ρ c with
  | .bool true=>some (ev ρ a)
  | .bool false=>some (ev ρ b)
  | _=>none
 | .unOp .not _ x=>match ev ρ x with
  | .bool b=>some (.bool (!b))
  | _=>none
 | .extract x i=>match ev ρ x with
  | .tuple vs=>vs.toList[i]?
  | _=>none
 | .fieldAddr s x f=>match ev ρ x with
  | .pointer (some p)=>match ZeF s F.l with
   | some fs=>match fs[f]? with
    | some (off,_ + 1)=>some (.pointer (some (p.add off)))
    | _=>none
   | none=>none
  | _=>none
 | .makeFunc (.func f) first cap=>match first.toList with
  | []=>some (.func (.func f) #[] (cap.toList.map (ev ρ)).toArray)
  | _=>none
 | _=>none
section
variable {F : FTab P} {ρ : Env} {w : World} {ops : Array Oper} {K : Env → World → Prop} {N : Nat} {Q : Exit → Env → World → Prop}
theorem Zd8 {o : Oper} {v : Value} (h : ZeG F ρ o = some v) : (execOp (ev ρ) o).run P w = .ok (.value v) w:=by
 obtain ⟨dst,op,ty,pos,af,g⟩:=o
 cases op <;> simp only [ZeG] at h <;> try (cases h; done)
 case move x=>obtain rfl:=Option.some.inj h; rfl
 case assign x=>obtain rfl:=Option.some.inj h; rfl
 case pick c a b=>
  split at h
  ·rename_i hc; obtain rfl:=Option.some.inj h; simp [execOp,hc,asBool]
  ·rename_i hc; obtain rfl:=Option.some.inj h; simp [execOp,hc,asBool]
  ·cases h
 case unOp u t x=>
  cases u <;> simp only [] at h <;> try (cases h; done)
  split at h
  ·rename_i b hx; obtain rfl:=Option.some.inj h; simp [execOp,hx,Op.unary]
  ·cases h
 case extract x i=>
  split at h
  ·rename_i vs hx
   simp only [Array.getElem?_toList] at h
   simp [execOp,hx,Instr.extract,h]
  ·cases h
 case fieldAddr s x f=>
  split at h
  ·rename_i p hx
   split at h
   ·rename_i fs hl
    split at h
    ·rename_i off n hi
     obtain rfl:=Option.some.inj h
     have hf : fieldsOf P s = some fs:=F.ok _ (ZiX hl)
     obtain ⟨fa,hu,_,rfl⟩:=Zcr hf
     rw [List.getElem?_map] at hi
     obtain ⟨fd,hfd,he⟩:=Option.map_eq_some_iff.1 hi
     simp only [Prod.mk.injEq] at he
     have hfa : fa[f]? = some fd:=by simpa using hfd
     have hsz : ∃ i,P.info? fd.type = some i ∧ i.size = n + 1:=by
      have h2:=he.2
      unfold Program.cellsOf at h2
      cases hi2 : P.info? fd.type with
      | none=>simp [hi2] at h2
      | some i=>simp [hi2] at h2; exact ⟨i,rfl,h2⟩
     obtain ⟨i,hi2,hi3⟩:=hsz
     simp [execOp,Instr.fieldAt,Yt hu,hfa,hx,Instr.sureAddr,fieldPlace,sizeOf,typeInfo,hi2,hi3,Result.andThen,he.1]
    ·cases h
   ·cases h
  ·cases h
 case makeFunc x first cap=>
  cases x <;> simp only [] at h <;> try (cases h; done)
  split at h
  ·rename_i hf
   obtain rfl:=Option.some.inj h
   have : first = #[]:=by cases first; simp at hf; simp [hf]
   subst this
   have e : Array.map (ev ρ) cap = (List.map (ev ρ) cap.toList).toArray:=Array.ext' (by simp)
   simp [execOp,Instr.makeFunc,e]
  ·cases h
def Znb (F : FTab P) (ops : List Oper) (o : Oper) (ih : Env → World → Prop) (ρ : Env) (w : World) : Prop:=match Region.wanted o (Zu ops.toArray ρ) with
 | false=>ih (XH ρ o.dst undef) w
 | true=>match ZeG F ρ o with
  | some v=>ih (XH ρ o.dst v) w
  | none=>OW P ops.toArray o ρ w ih
noncomputable def goL (F : FTab P) (ops : List Oper) (Q : Exit → Env → World → Prop) (l : List Oper) : Env → World → Prop:=
 List.rec (motive:=fun _=>Env → World → Prop) (Q .normal) (fun o _ ih=>Znb F ops o ih) l
theorem Zqv {F : FTab P} {ops : List Oper} {o : Oper} {r : List Oper} {ρ : Env} {w : World} : goL F ops Q (o :: r) ρ w = Znb F ops o (goL F ops Q r) ρ w:=rfl
theorem goL.ok {ops : List Oper} : ∀ {l : List Oper} {ρ : Env} {w : World},goL F ops Q l ρ w → WL P ops.toArray Q l ρ w
 | [],_,_,h=>h
 | o :: r,ρ,w,h=>by
  simp only [WL,oW]
  rw [Zqv] at h
  unfold Znb at h
  cases hw : Region.wanted o (Zu ops.toArray ρ) with
  | false=>rw [hw] at h; exact goL.ok h
  | true=>
   rw [hw] at h
   simp only at h
   cases hp : ZeG F ρ o with
   | some v=>
    rw [hp] at h
    simp only [Zd8 hp,Zbg]
    exact goL.ok h
   | none=>
    rw [hp] at h
    have h2:=h.h
    simp only [oW,hw] at h2
    exact Zbg.mono (fun v w h=>goL.ok h) h2
def okD (N : Nat) : Code → Bool
 | .region _ ops _=>ops.toList.all (Zcq N)
 | .seq x y=>okD N x && okD N y
 | .cond _ x y=>okD N x && okD N y
 | .block _ c=>okD N c
 | .loop c=>okD N c
 | .scope c=>okD N c
 | _=>true
structure LP (P : Program) (N : Nat) (c : Code) (Q : Exit → Env → World → Prop) (ρ : Env) (w : World) : Prop where
 h : okD N c = true → WC P N (.loop c) Q ρ w
structure DR (P : Program) (N : Nat) (id : Nat) (ops : Array Oper) (Q : Exit → Env → World → Prop) (ρ : Env) (w : World) : Prop where
 h : WC P N (.region id ops true) Q ρ w
structure JN (P : Program) (N : Nat) (x y : Code) (Q : Exit → Env → World → Prop) (ρ : Env) (w : World) : Prop where
 h : okD N x = true → okD N y = true → WC P N (.seq x y) Q ρ w
structure RQ (rs : List ResultVar) (R : Ending → World → Prop) (ρ : Env) (w : World) : Prop where
 h : ∃ v,ZeC rs ρ = some v ∧ R (.returned v) w
def Zqw (rs : List ResultVar) (R : Ending → World → Prop) : Exit → Env → World → Prop
 | .normal,ρ,w=>RQ rs R ρ w
 | .ret,ρ,w=>RQ rs R ρ w
 | _,_,_=>False
def Zos : Code → Nat
 | .region id _ _=>id
 | .seq x _=>Zos x
 | _=>1000000
def Zbu (n : Nat) : List Nat → Bool
 | []=>false
 | x :: r=>bif Nat.beq x n then true else Zbu n r
def Znc (J : List Nat) (c : Code) : Bool:=match J with
 | []=>false
 | x :: r=>Zbu (Zos c) (x :: r)
def noG (Q : Exit → Env → World → Prop) : Exit → Env → World → Prop
 | .goto _,_,_=>False
 | e,ρ,w=>Q e ρ w
theorem WC.label {l : Nat} (h : Q .normal ρ w) : WC P N (.label l) Q ρ w:=fun _ ha=>wp_label ⟨ρ,ha,h⟩
theorem WC.scope {c : Code} (h : WC P N c (noG Q) ρ w) : WC P N (.scope c) Q ρ w:=by
 intro a ha
 refine wp_scope_straight (wp_mono (h a ha) ?_)
 rintro e a' w' ⟨ρ',hf,hq⟩
 cases e with
 | goto l=>exact hq.elim
 | exit id=>exact ⟨ρ',hf,hq⟩
 | normal=>exact ⟨ρ',hf,hq⟩
 | ret=>exact ⟨ρ',hf,hq⟩
 | panic ch=>exact ⟨ρ',hf,hq⟩
 | outgrown=>exact ⟨ρ',hf,hq⟩
noncomputable def goC (F : FTab P) (N : Nat) (J : List Nat) : Code → (Exit → Env → World → Prop) → Env → World → Prop
 | .seq x y,Q,ρ,w=>match Znc J y with
  | true=>JN P N x y Q ρ w
  | false=>goC F N J x (Zc4 (goC F N J y Q) Q) ρ w
 | .region id ops dr,Q,ρ,w=>match dr with
  | true=>DR P N id ops Q ρ w
  | false=>goL F ops.toList Q ops.toList ρ w
 | .cond c x y,Q,ρ,w=>match ev ρ c with
  | .bool b=>match b with
   | true=>goC F N J x Q ρ w
   | false=>goC F N J y Q ρ w
  | _=>False
 | .block id c,Q,ρ,w=>goC F N J c (inB id Q) ρ w
 | .loop c,Q,ρ,w=>LP P N c Q ρ w
 | .scope c,Q,ρ,w=>goC F N J c (noG Q) ρ w
 | .label _,Q,ρ,w=>Q .normal ρ w
 | .skip,Q,ρ,w=>Q .normal ρ w
 | .ret,Q,ρ,w=>Q .ret ρ w
 | .exit id,Q,ρ,w=>Q (.exit id) ρ w
 | _,_,_,_=>False
theorem goC.ok {J : List Nat} : ∀ {c : Code} {Q : Exit → Env → World → Prop} {ρ : Env} {w : World},okD N c = true → goC F N J c Q ρ w → WC P N c Q ρ w:=by
 intro c
 induction c with
 | seq x y ihx ihy=>
  intro Q ρ w hok h
  simp only [okD,Bool.and_eq_true] at hok
  unfold goC at h
  split at h
  ·exact h.h hok.1 hok.2
  ·refine WC.seq ((ihx hok.1 h).mono fun e ρ w hq=>?_)
   cases e <;> first | exact ihy hok.2 hq | exact hq
 | region id ops dr=>
  intro Q ρ w hok h
  unfold goC at h
  cases dr with
  | true=>exact h.h
  | false=>
   obtain ⟨l⟩:=ops
   exact WC.region hok (goL.ok h)
 | cond c x y ihx ihy=>
  intro Q ρ w hok h
  simp only [okD,Bool.and_eq_true] at hok
  unfold goC at h
  split at h
  ·rename_i b hc
   cases b with
   | true=>exact Zkp hc (ihx hok.1 h)
   | false=>exact Zkq hc (ihy hok.2 h)
  ·exact h.elim
 | block id c ih=>intro Q ρ w hok h; exact WC.block (ih hok h)
 | loop c ih=>intro Q ρ w hok h; exact h.h hok
 | scope c ih=>intro Q ρ w hok h; exact WC.scope (ih hok h)
 | label l=>intro Q ρ w hok h; exact WC.label h
 | skip=>intro Q ρ w hok h; exact WC.skip h
 | ret=>intro Q ρ w hok h; exact WC.ret h
 | exit id=>intro Q ρ w hok h; exact WC.exit h
 | _=>intro Q ρ w hok h; exact h.elim
theorem Zg {f : FuncId} {fn : Func} {c : Code} {args : Array Value} {R : Ending → World → Prop} (F : FTab P) (J : List Nat)
  (hf : P.funcs[f]? = some fn) (hb : fn.body = some c) (hle : Nat.ble args.size fn.ntmps = true)
  (h : goC F fn.ntmps J c (Zqw fn.results.toList R) (fun t=>args.getD t undef) w) (hok : okD fn.ntmps c = true:=by kernel_rfl) : Calls P f args w R:=by
 refine ZgC (N:=fn.ntmps) hf hb rfl hle ((goC.ok hok h).mono fun e ρ w hq=>?_)
 cases e with
 | normal=>exact hq.h
 | ret=>exact hq.h
 | _=>exact hq.elim
structure BK (I : Nat → Env → World → Prop) (m : Nat) (ρ : Env) (w : World) : Prop where
 h : ∃ m',I m' ρ w ∧ m' < m
theorem BK.mk' {I : Nat → Env → World → Prop} {m : Nat} (m' : Nat) (h : I m' ρ w) (hlt : m' < m) : BK I m ρ w:=⟨m',h,hlt⟩
theorem LP.go (F : FTab P) (J : List Nat) {c : Code} (I : Nat → Env → World → Prop) (m : Nat) (h₀ : I m ρ w)
  (round : ∀ m ρ w,I m ρ w → goC F N J c (Zc4 (BK I m) Q) ρ w) : LP P N c Q ρ w:=
 ⟨fun hok=>WC.loop I id m h₀ fun m ρ w hI=>(goC.ok hok (round m ρ w hI)).mono fun e ρ w hq=>by
  cases e <;> first | exact hq.h | exact hq⟩
theorem JN.go (F : FTab P) (J : List Nat) {x y : Code} (R : Env → World → Prop) (h : goC F N J x (Zc4 R Q) ρ w) (k : ∀ ρ w,R ρ w → goC F N J y Q ρ w) : JN P N x y Q ρ w:=
 ⟨fun hx hy=>WC.seq ((goC.ok hx h).mono fun e ρ w hq=>by
  cases e <;> first | exact goC.ok hy (k _ _ hq) | exact hq)⟩
theorem ZgX {d : Nat} {b : Bool} (h : ρ d = .bool b) (kT : b = true → K (ZQ ρ d (.bool true)) w) (kF : b = false → K (ZQ ρ d (.bool false)) w) : K ρ w:=by
 cases b with
 | true=>have:=kT rfl; rwa [ZaW h] at this
 | false=>have:=kF rfl; rwa [ZaW h] at this
def CL (P : Program) (f : FuncId) (args : Array Value) (X : List Nat) (w : World) (G : GH) (B : GH → World → Value → Prop) : Prop:=
 Calls P f args w fun e w'=>∃ r G',e = .returned r ∧ Res X w G w' G' ∧ B G' w' r
variable {w0 : World} {X : List Nat} {G0 G : GH} {L : Own} {rs : List ResultVar}
variable {d : Nat} {ty : TypeId} {pos : String} {af : Array Edge} {g : Option (Nat × Bool)}
theorem RT {B : GH → World → Value → Prop} (hS : St w0 X G0 G L w) {v : Value} (hv : ZeC rs ρ = some v) (hB : B G w v) : RQ rs (fun e w'=>∃ r G',e = .returned r ∧ Res X w0 G0 w' G' ∧ B G' w' r) ρ w:=
 ⟨v,hv,v,G,rfl,hS.res,hB⟩
theorem RI {a e : Int} (hS : St w0 X G0 G L w) (hv : ZeC rs ρ = some (.int .i64 a)) (h : a = e) : RQ rs (fun e' w'=>∃ r G',e' = .returned r ∧ Res X w0 G0 w' G' ∧ r = .int .i64 e) ρ w:=
 ⟨_,hv,_,G,rfl,hS.res,congrArg (Value.int .i64) h⟩
theorem RB {a e : Bool} (hS : St w0 X G0 G L w) (hv : ZeC rs ρ = some (.bool a)) (h : a = e) : RQ rs (fun e' w'=>∃ r G',e' = .returned r ∧ Res X w0 G0 w' G' ∧ r = .bool e) ρ w:=
 ⟨_,hv,_,G,rfl,hS.res,congrArg Value.bool h⟩
theorem Zl {f : Nat} {x : Operand} {args : List Operand} {ts : Array TypeId} {vs : List Value} {cap : Array Value} {u : Value} (hS : St w0 X G0 G L w) (hf : Zi P f)
  (hw : Region.wanted ⟨some d, .call ⟨.value x,args.toArray,ts⟩,ty,pos,af,g⟩ (Zu ops ρ) = true) (hx : ev ρ x = .func (.func f) #[] cap) (ha : args.map (ev ρ) ++ cap.toList = vs)
  (hc : CL P f vs.toArray [] w G fun _ _ r=>r = u)
  (k : ∀ w' G',St w0 X G0 G' L w' → G.le G' → K (ZQ ρ d u) w') : OW P ops ⟨some d, .call ⟨.value x,args.toArray,ts⟩,ty,pos,af,g⟩ ρ w K:=
 X3 vs cap hf hw hx ha (hc.mono fun e w' ⟨r,G',he,hres,hr⟩=>⟨u,by rw [he,hr],k w' G' (hS.call hres) hres.le⟩)
theorem Yq {f : Nat} {x : Operand} {args : List Operand} {ts : Array TypeId} {vs : List Value} {cap : Array Value} {B : GH → World → Value → Prop} (hS : St w0 X G0 G L w) (hf : Zi P f)
  (hw : Region.wanted ⟨some d, .call ⟨.value x,args.toArray,ts⟩,ty,pos,af,g⟩ (Zu ops ρ) = true) (hx : ev ρ x = .func (.func f) #[] cap) (ha : args.map (ev ρ) ++ cap.toList = vs)
  (hc : CL P f vs.toArray [] w G B)
  (k : ∀ w' G' r,B G' w' r → St w0 X G0 G' L w' → G.le G' → K (ZQ ρ d r) w') : OW P ops ⟨some d, .call ⟨.value x,args.toArray,ts⟩,ty,pos,af,g⟩ ρ w K:=
 X3 vs cap hf hw hx ha (hc.mono fun e w' ⟨r,G',he,hres,hr⟩=>⟨r,he,k w' G' r hr (hS.call hres) hres.le⟩)
theorem Zax {f : Nat} {x : Operand} {args : List Operand} {ts : Array TypeId} {vs : List Value} {cap : Array Value} {Y : List Nat} {B : GH → World → Value → Prop} (hf : Zi P f)
  (hw : Region.wanted ⟨some d, .call ⟨.value x,args.toArray,ts⟩,ty,pos,af,g⟩ (Zu ops ρ) = true) (hx : ev ρ x = .func (.func f) #[] cap) (ha : args.map (ev ρ) ++ cap.toList = vs)
  (hc : CL P f vs.toArray Y w G B)
  (k : ∀ w' G' r,Res Y w G w' G' → B G' w' r → K (ZQ ρ d r) w') : OW P ops ⟨some d, .call ⟨.value x,args.toArray,ts⟩,ty,pos,af,g⟩ ρ w K:=
 X3 vs cap hf hw hx ha (hc.mono fun e w' ⟨r,G',he,hres,hr⟩=>⟨r,he,k w' G' r hres hr⟩)
end
end Go.Civ
