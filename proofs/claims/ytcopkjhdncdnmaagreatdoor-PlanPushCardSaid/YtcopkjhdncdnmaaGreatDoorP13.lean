/- Lemmas. -/
import Derived.Test.YtcopkjhdncdnmaaGreatDoorP08
set_option linter.unusedSimpArgs false
namespace Go.Civ
open Go.RowKit
set_option linter.unusedVariables false
def ZfB (P : Program) : List ResultVar → Env → World → List Value → Prop
 | [],_,_,vs=>vs = []
 | .tmp t :: r,ρ,w,vs=>∃ vs',vs = ρ t :: vs' ∧ ZfB P r ρ w vs'
 | .cell a t :: r,ρ,w,vs=>∃ v vs' p,vs = v :: vs' ∧ ρ a = .pointer (some p) ∧ (loadVar t p).run P w = .ok v w ∧ ZfB P r ρ w vs'
def tup : List Value → Value
 | [v]=>v
 | vs=> .tuple vs.toArray
def Zte (P : Program) (rs : List ResultVar) (R : Ending → World → Prop) : Exit → Env → World → Prop
 | .normal,ρ,w | .ret,ρ,w=>∃ vs,ZfB P rs ρ w vs ∧ R (.returned (tup vs)) w
 | _,_,_=>False
section
variable {P : Program} {N : Nat} {Q : Exit → Env → World → Prop} {ρ : Env} {w : World}
theorem Zow (rs : List ResultVar) (tmps : Array Value) {vs : List Value} (h : ∀ t,tmps.getD t undef = ρ t) (hv : ZfB P rs ρ w vs) :
  (rs.mapM (rv tmps)).run P w = .ok vs w:=by
 induction rs generalizing vs with
 | nil=>simp only [ZfB] at hv; subst hv; simp
 | cons r rs ih=>
  cases r with
  | tmp t=>
   obtain ⟨vs',rfl,h1⟩:=hv
   have:=ih h1
   simp only [List.mapM_cons]
   simp only [Sem.run_bind,this,Result.andThen,Sem.run_pure,rv,h]
  | cell a t=>
   obtain ⟨v,vs',p,rfl,h1,h2,h3⟩:=hv
   have:=ih h3
   simp only [List.mapM_cons]
   simp only [Sem.run_bind,this,Result.andThen,Sem.run_pure,rv,h,h1,asAddr,h2]
theorem ZfC {fn : Func} {a : Act} {vs : List Value} (ha : Fits N a ρ) (hv : ZfB P fn.results.toList ρ w vs) : (results fn a.tmps).run P w = .ok (tup vs) w:=by
 have h:=Zow fn.results.toList a.tmps ha.get hv
 rw [ZeV,Array.mapM_eq_mapM_toList,Sem.run_bind,Sem.run_map,h]
 match vs with
 | []=>simp [Result.andThen,tup]
 | [x]=>simp [Result.andThen,tup]
 | x :: y :: z=>simp [Result.andThen,tup]
theorem Zj9 {f : FuncId} {fn : Func} {c : Code} {args : Array Value} {R : Ending → World → Prop}
  (hf : P.funcs[f]? = some fn) (hb : fn.body = some c) (hN : fn.ntmps = N) (hle : Nat.ble args.size N = true)
  (h : WC P N c (Zte P fn.results.toList R) (fun t=>args.getD t undef) w) : Calls P f args w R:=by
 refine calls_of_wp hf hb ?_
 have hle' : args.size ≤ N:=by simpa using hle
 have ha : Fits N { tmps:=args ++ Array.replicate (fn.ntmps - args.size) undef,defers:=[] } (fun t=>args.getD t undef):=by
  refine ⟨by simp [hN]; omega,fun t=>?_,rfl⟩
  simp only [Array.getD_eq_getD_getElem?,Array.getElem?_append,Array.getElem?_replicate,hN]
  split
  ·rfl
  ·rename_i hlt
   rw [Array.getElem?_eq_none (xs:=args) (by omega)]
   split <;> rfl
 refine wp_mono (h _ ha) ?_
 rintro e a' w' ⟨ρ',hf',hq⟩
 cases e with
 | normal=>obtain ⟨v,hv,hR⟩:=hq; exact ⟨hf'.defers,_,ZfC hf' hv,hR⟩
 | ret=>obtain ⟨v,hv,hR⟩:=hq; exact ⟨hf'.defers,_,ZfC hf' hv,hR⟩
 | exit id=>exact hq.elim
 | goto l=>exact hq.elim
 | panic ch=>exact hq.elim
 | outgrown=>exact hq.elim
structure RQR (P : Program) (rs : List ResultVar) (R : Ending → World → Prop) (ρ : Env) (w : World) : Prop where
 h : ∃ vs,ZfB P rs ρ w vs ∧ R (.returned (tup vs)) w
def Zso (P : Program) (rs : List ResultVar) (R : Ending → World → Prop) : Exit → Env → World → Prop
 | .normal,ρ,w=>RQR P rs R ρ w
 | .ret,ρ,w=>RQR P rs R ρ w
 | _,_,_=>False
theorem YA {f : FuncId} {fn : Func} {c : Code} {args : Array Value} {R : Ending → World → Prop} (F : FTab P) (J : List Nat)
  (hf : P.funcs[f]? = some fn) (hb : fn.body = some c) (hle : Nat.ble args.size fn.ntmps = true)
  (h : goC F fn.ntmps J c (Zso P fn.results.toList R) (fun t=>args.getD t undef) w) (hok : okD fn.ntmps c = true:=by kernel_rfl) : Calls P f args w R:=by
 refine Zj9 (N:=fn.ntmps) hf hb rfl hle ((goC.ok hok h).mono fun e ρ w hq=>?_)
 cases e with
 | normal=>exact hq.h
 | ret=>exact hq.h
 | _=>exact hq.elim
theorem YD {rs : List ResultVar} {w0 : World} {X : List Nat} {G0 G : GH} {L : Own} {B : GH → World → Value → Prop} (vs : List Value) (hS : St w0 X G0 G L w) (hv : ZfB P rs ρ w vs) (hB : B G w (tup vs)) :
  RQR P rs (fun e w'=>∃ r G',e = .returned r ∧ Res X w0 G0 w' G' ∧ B G' w' r) ρ w:=⟨vs,hv,_,G,rfl,hS.res,hB⟩
end
section
variable {P : Program} {w0 w w' : World} {X : List Nat} {G0 G G' : GH} {L : Own} {o : OB}
theorem St.loadA {t : TypeId} {ti : TI} (hS : St w0 X G0 G L w) (i : Nat) (b : Nat) (e : TypeId) (cs : List Value) (off : Nat) (vs : List Value) (hi : L[i]? = some (some (b,e,cs))) (hv : (cs.drop off).take ti.size = vs) (hn : vs.length = ti.size)
  (ht : Y3 P t = some ti) (ha : ti.agg = true) : (loadVar t ⟨b,off,none⟩).run P w = .ok (.agg vs.toArray) w:=by
 have hc : ∀ (j : Nat) v,vs[j]? = some v → w.cell? ((⟨b,off,none⟩ : Addr).add j) = some v:=fun j v h=>by
  rw [X1 _ _ rfl]
  refine hS.cell i hi ?_
  subst hv
  rw [List.getElem?_take] at h
  split at h
  ·rwa [List.getElem?_drop] at h
  ·cases h
 simp [loadVar,ZbU ht,ha,XS ht,Zct hn hc,Result.andThen]
theorem St.loadC {t : TypeId} {ti : TI} {p : Addr} {cs : List Value} (hS : St w0 X G0 G L w) (hc : YC G p cs) (ht : Y3 P t = some ti) (ha : ti.agg = true) (hn : cs.length = ti.size) : (loadVar t p).run P w = .ok (.agg cs.toArray) w:=by
 simp [loadVar,ZbU ht,ha,XS ht,Zct hn (fun _ _ h=>hc.cell hS.imm h),Result.andThen]
theorem St.sealAt {b : Nat} {e : TypeId} {cs : List Value} (h : St w0 X G0 G L w) (i : Nat) (hi : L[i]? = some (some (b,e,cs))) (hb : w0.heap.size ≤ b) : ∃ G',G.le G' ∧ YC G' ⟨b,0,none⟩ cs ∧ St w0 X G0 G' (L.set i none) w:=by
 have f:=h.freeze i (b:=b) (e:=e) (cs:=cs) hi hb
 have hG : G b = none:=(h.sep i _ hi).2
 exact ⟨_,G.add_le _ hG,⟨rfl,_,_,_,GH.add_at _ _ _,fun j v hv=>by simpa using hv⟩,f⟩
end
section
variable {P : Program} {Q : Exit → Env → World → Prop} {ρ : Env} {w : World} {ops : Array Oper} {rest : List Oper} {K : Env → World → Prop}
variable {d : Nat} {ty : TypeId} {pos : String} {af : Array Edge} {g : Option (Nat × Bool)}
theorem ZkG {t e : TypeId} {m : Nat} {parts : Array (Nat × Operand)} {ti te : TI} (ps : List (Nat × Value)) (pc : List (Nat × List Value)) (cs : List Value) (ht : Y3 P t = some ti) (hu : P.underlying t = some (.array m e)) (he : Y3 P e = some te)
  (hw : Region.wanted ⟨some d, .build t parts,ty,pos,af,g⟩ (ZI ops ρ) = true) (hps : parts.toList.map (fun q=>(q.1,ev ρ q.2)) = ps) (hpc : ps.map (fun q=>(q.1,q.2.cells.toList)) = pc) (hfill : Zc0 (ZgY m te.size) pc ti.zero.cells.toList = some cs)
  (k : K (Yq ρ d (.agg cs.toArray)) w) : OW P ops ⟨some d, .build t parts,ty,pos,af,g⟩ ρ w K:=by
 refine WL.val hw ?_ rfl k
 subst hpc
 have hf : Instr.fill (fun i=>some (i * te.size,te.size)) ti.zero.cells ps = some cs.toArray:=ZgA te.size m ps ti.zero.cells cs hfill
 have hpe : (parts.map fun x=>(x.1,ev ρ x.2)).toList = ps:=by simpa using hps
 simp only [execOp,Sem.run_bind,Instr.build,Zbo ht,Xe hu,Result.andThen,XS he,hpe,hf,Sem.run_pure]
end
end Go.Civ
