/- Lemmas. -/
import Derived.Test.YthgeclodflmiaaaGreatP05
import Derived.Test.YthgeclodflmiaaaGreatP07
import Derived.Test.YthgeclodflmiaaaGreatP08
import Derived.Test.YthgeclodflmiaaaGreatP10
import Derived.Test.YthgeclodflmiaaaGreatProg
import Derived.KernelRfl
import Derived.WalkKit
set_option linter.unusedVariables false
set_option linter.unusedSimpArgs false
set_option maxRecDepth 100000
set_option maxHeartbeats 4000000
namespace Go.Civ
open Go.Proofs
theorem Zkr {G : GH} {w : World} (hG : G.In w) (a : Int) : CL Tryz.prog (nat_lit 210) #[.int .i64 a] [] w G fun _ _ r=>r = .bool false:=by
 refine Zg ft [] Tryz.func210 rfl rfl ?_
 have hS:=St.start (X:=[]) hG
 refine ZY .neq rfl .i64 a a rfl rfl rfl ?_
 exact RB hS rfl (by simp [Cmp.b])
theorem Zc6 {G : GH} {w : World} (hG : G.In w) (a b : Int) : CL Tryz.prog (nat_lit 169) #[.int .i64 a, .int .i64 b] [] w G fun _ _ r=>r = .int .i64 (Y2 a b):=by
 refine Zg ft [] Tryz.func169 rfl rfl ?_
 have hS:=St.start (X:=[]) hG
 refine Zj hS ZpN rfl rfl rfl (Zkr hS.imm a) (fun w1 G1 hS1 hle1=>?_)
 refine Zj hS1 ZpN rfl rfl rfl (Zkr hS1.imm b) (fun w2 G2 hS2 hle2=>?_)
 refine Zq a b rfl rfl rfl (fun h1=>?_) (fun h1=>?_)
 ·exact RI hS2 rfl (by unfold Y2; split <;> (try split) <;> rfl)
 refine YD a b rfl rfl rfl (fun h2=>?_) (fun h2=>?_)
 ·exact RI hS2 rfl (by unfold Y2; split <;> (try split) <;> omega)
 exact RI hS2 rfl (by unfold Y2; split <;> (try split) <;> omega)
theorem ZiW {G : GH} {w : World} (hG : G.In w) (a : List UInt8) : CL Tryz.prog (nat_lit 239) #[Zd a] [] w G fun _ _ r=>r = .bool false:=by
 refine Zg ft [] Tryz.func239 rfl rfl ?_
 have hS:=St.start (X:=[]) hG
 refine Xr .neq rfl a a rfl rfl rfl ?_
 exact RB hS rfl (by simp [SCmp.b])
theorem Zls {G : GH} {w : World} (hG : G.In w) (a b : List UInt8) : CL Tryz.prog (nat_lit 199) #[Zd a,Zd b] [] w G fun _ _ r=>r = .int .i64 (cmpS a b):=by
 refine Zg ft [] Tryz.func199 rfl rfl ?_
 have hS:=St.start (X:=[]) hG
 refine Zj hS ZpO rfl rfl rfl (ZiW hS.imm a) (fun w1 G1 hS1 hle1=>?_)
 refine Zj hS1 ZpO rfl rfl rfl (ZiW hS1.imm b) (fun w2 G2 hS2 hle2=>?_)
 refine Xr .lss rfl a b rfl rfl rfl ?_
 refine WL.split (fun (h1 : (SCmp.b .lss a b) = true)=>?_) (fun (h1 : (SCmp.b .lss a b) = false)=>?_)
 ·exact RI hS2 rfl (by unfold cmpS; simp_all [SCmp.b])
 refine Xr .gtr rfl a b rfl rfl rfl ?_
 refine WL.split (fun (h2 : (SCmp.b .gtr a b) = true)=>?_) (fun (h2 : (SCmp.b .gtr a b) = false)=>?_)
 ·exact RI hS2 rfl (by unfold cmpS; simp_all [SCmp.b])
 exact RI hS2 rfl (by unfold cmpS; simp_all [SCmp.b])
theorem ZrF {G : GH} {w : World} (hG : G.In w) (l : List Int) (vl : Value) (hvl : Sl Enc.int 8 G vl l) : CL Tryz.prog (nat_lit 168) #[vl] [] w G fun _ _ r=>r = .int .i64 (Qh l):=by
 refine Zg ft [] Tryz.func168 rfl rfl ?_
 have hS:=St.start (X:=[]) hG
 have bd1:=hvl.bound
 refine Zi hvl Zds rfl rfl ?_
 refine LP.go ft [] (fun m ρ1 w1=>∃ (k1 : Nat),∃ (G1 : GH),m = l.length - k1 ∧ G.le G1 ∧ St w [] G G1 [] w1 ∧ FR ρ1 [(3, .int .i64 0),(6,vl),(7, .int .i64 (l.length : Int)),(8, .int .i64 (k1 : Int))] ∧ k1 ≤ l.length ∧ ∀ j,j < k1 → ∀ x,l[j]? = some x → x = 0) _ ⟨0,G,rfl,(G.le_refl),hS,⟨rfl,rfl,rfl,rfl,trivial⟩,(by omega),(by intro j hj; omega)⟩ ?_
 rintro m ρ1 w1 ⟨k1,G1,rfl,hle1,hS1,hF9,f1,f2⟩
 refine hF9.set ?_
 clear hF9
 refine Zq (k1 : Int) (l.length : Int) rfl rfl rfl (fun h1=>?_) (fun h1=>?_)
 ·refine WL.indexAddr (hvl.mono hle1) k1 (by omega) Zds Z7 rfl rfl rfl rfl (fun p1 x1 hx1 he1=>?_)
  obtain ⟨cs1,hc1,hr1⟩:=he1
  obtain ⟨rfl,hb1⟩:=hr1
  refine Zb hS1 hc1 Z7 rfl rfl rfl ?_
  refine YQ x1 0 rfl rfl rfl (fun h2=>?_) (fun h2=>?_)
  ·exact RI hS1 rfl (by exact (ZiC ‹_› ‹_› ‹_›).symm)
  refine Zk k1 (by have hreach : reach = 140737488355328:=rfl; omega) rfl rfl rfl ?_
  exact BK.mk' _ ⟨k1 + 1,G1,rfl,hle1,hS1,⟨rfl,rfl,rfl,rfl,trivial⟩,(by omega),(by exact YV ‹_› ‹_› ‹_›)⟩ (show l.length - (k1 + 1) < l.length - k1 by omega)
 exact RI hS1 rfl (by exact (ZfV ‹_› (by omega)).symm)
theorem Zqr {G : GH} {w : World} (hG : G.In w) (x y : Val) (cx : List Value) (hcx : ValE.rep G x cx) (cy : List Value) (hcy : ValE.rep G y cy) : CL Tryz.prog (nat_lit 165) #[.agg cx.toArray, .agg cy.toArray] [] w G fun _ _ r=>r = .int .i64 (cmpV x y):=by
 refine Zg ft [] Tryz.func165 rfl rfl ?_
 have hS:=St.start (X:=[]) hG
 obtain ⟨rfl,hb1,hb2,hb3⟩:=Yv hcx
 obtain ⟨rfl,hb4,hb5,hb6⟩:=Yv hcy
 refine Zu [.int .i64 x.k, .int .i64 x.n,Zd x.s] _ hS rfl rfl rfl (fun p1 w1 G1 hle1 hsp1 hc1 hS1=>?_)
 refine Zu [.int .i64 y.k, .int .i64 y.n,Zd y.s] _ hS1 rfl rfl rfl (fun p2 w2 G2 hle2 hsp2 hc2 hS2=>?_)
 refine dr [(15,false),(16,false),(17,false)] [(6, .int .i64 x.k),(8, .int .i64 y.k),(9, .int .i64 (Y2 x.k y.k)),(11, .int .i64 x.n),(13, .int .i64 y.n),(14, .int .i64 (Y2 x.n y.n)),(16,Zd x.s),(18,Zd y.s),(19, .int .i64 (cmpS x.s y.s))] hS2 ⟨fun _ hSw=>Zb hSw (Xl.drop 0 (hc1.mono hle2)) Z7 rfl rfl rfl <| nu rfl rfl,fun _ hSw=>Zb hSw (Xl.drop 0 hc2) Z7 rfl rfl rfl <| nu rfl rfl,fun _ hSw=>ZH hSw Zio rfl rfl rfl (Zc6 hSw.imm x.k y.k) rfl,fun _ hSw=>Zb hSw (Xl.drop 1 (hc1.mono hle2)) Z7 rfl rfl rfl <| nu rfl rfl,fun _ hSw=>Zb hSw (Xl.drop 1 hc2) Z7 rfl rfl rfl <| nu rfl rfl,fun _ hSw=>ZH hSw Zio rfl rfl rfl (Zc6 hSw.imm x.n y.n) rfl,fun _ hSw=>Zb hSw (Xl.drop 2 (hc1.mono hle2)) Yw rfl rfl rfl <| nu rfl rfl,fun _ hSw=>Zb hSw (Xl.drop 2 hc2) Yw rfl rfl rfl <| nu rfl rfl,fun _ hSw=>ZH hSw Ztq rfl rfl rfl (Zls hSw.imm x.s y.s) rfl,trivial⟩ (fun w3 hS3=>?_)
 refine WL.buildSlice _ [(0,[.int .i64 (Y2 x.k y.k)]),(1,[.int .i64 (Y2 x.n y.n)]),(2,[.int .i64 (cmpS x.s y.s)])] [.int .i64 (Y2 x.k y.k), .int .i64 (Y2 x.n y.n), .int .i64 (cmpS x.s y.s)] hS3 Zdu rfl rfl rfl rfl (fun z hz=>by match z,hz with | [z0,z1,z2],_=>rfl) (fun b1 w4 hn1 hS4=>?_)
 obtain ⟨G3,hle3,hs1,hS5⟩:=St.sealSl (E:=Enc.int) (by_:=8) (l:=([(Y2 x.k y.k),(Y2 x.n y.n),(cmpS x.s y.s)] : List Int)) hS4 hn1 ⟨[.int .i64 (Y2 x.k y.k)],_,rfl,⟨rfl,ZcX x.k y.k⟩,⟨[.int .i64 (Y2 x.n y.n)],_,rfl,⟨rfl,ZcX x.n y.n⟩,⟨[.int .i64 (cmpS x.s y.s)],_,rfl,⟨rfl,ZiD x.s y.s⟩,rfl⟩⟩⟩ rfl (by simp [reach]) (by simp [reach])
 refine Zj hS5 ZpJ rfl rfl rfl (ZrF hS5.imm [(Y2 x.k y.k),(Y2 x.n y.n),(cmpS x.s y.s)] _ hs1) (fun w5 G4 hS6 hle4=>?_)
 exact RI hS6 rfl (by exact Zmh _ _ _)
theorem Zom {G : GH} {w : World} (hG : G.In w) (l : List Val) (pf : Val → Bool) (vl : Value) (hvl : Sl ValE 32 G vl l) (fid : Nat) (fcap : Array Value) (hf : FnB Tryz.prog (Is ValE) fid fcap G (fun x=>x ∈ l) pf) : CL Tryz.prog (nat_lit 175) #[vl, .func (.func fid) #[] fcap] [] w G fun _ _ r=>r = .int .i64 (Q6 pf l):=by
 refine Zg ft [] Tryz.func175 rfl rfl ?_
 have hS:=St.start (X:=[]) hG
 have bd1:=hvl.bound
 refine Zi hvl Ys rfl rfl ?_
 refine LP.go ft [] (fun m ρ1 w1=>∃ (k1 : Nat),∃ (G1 : GH),m = l.length - k1 ∧ G.le G1 ∧ St w [] G G1 [] w1 ∧ FR ρ1 [(0,vl),(1, .func (.func fid) #[] fcap),(7, .int .i64 (l.length : Int)),(8, .int .i64 (k1 : Int))] ∧ k1 ≤ l.length ∧ ∀ j,j < k1 → ∀ x,l[j]? = some x → pf x = false) _ ⟨0,G,rfl,(G.le_refl),hS,⟨rfl,rfl,rfl,rfl,trivial⟩,(by omega),(by intro j hj; omega)⟩ ?_
 rintro m ρ1 w1 ⟨k1,G1,rfl,hle1,hS1,hF9,f1,f2⟩
 refine hF9.set ?_
 clear hF9
 refine Zq (k1 : Int) (l.length : Int) rfl rfl rfl (fun h1=>?_) (fun h1=>?_)
 ·refine WL.indexAddr (hvl.mono hle1) k1 (by omega) Ys Ya rfl rfl rfl rfl (fun p1 x1 hx1 he1=>?_)
  obtain ⟨cs1,hc1,hr1⟩:=he1
  obtain ⟨rfl,hb1,hb2,hb3⟩:=Yv hr1
  refine Zc hS1 hc1 [.int .i64 x1.k, .int .i64 x1.n,Zd x1.s] Ya rfl rfl rfl rfl rfl ?_
  refine Zj hS1 hf.body rfl rfl rfl (hf.call _ _ (.agg #[.int .i64 x1.k, .int .i64 x1.n,Zd x1.s]) x1 hle1 hS1.imm (List.mem_of_getElem? hx1) ⟨_,rfl,(Qb x1 hb1 hb2 hb3)⟩) (fun w2 G2 hS2 hle2=>?_)
  refine WL.split (fun (h2 : (pf x1) = true)=>?_) (fun (h2 : (pf x1) = false)=>?_)
  ·exact RI hS2 rfl (by exact (QU _ ‹_› ‹_› ‹_›).symm)
  refine Zk k1 (by have hreach : reach = 140737488355328:=rfl; omega) rfl rfl rfl ?_
  exact BK.mk' _ ⟨k1 + 1,G2,rfl,(hle1.trans hle2),hS2,⟨rfl,rfl,rfl,rfl,trivial⟩,(by omega),(by exact YV ‹_› ‹_› ‹_›)⟩ (show l.length - (k1 + 1) < l.length - k1 by omega)
 exact RI hS1 rfl (by exact (Q7 ‹_› (by omega)).symm)
theorem ZcQ {G : GH} {w : World} (hG : G.In w) (l : List Val) (pf : Val → Bool) (vl : Value) (hvl : Sl ValE 32 G vl l) (fid : Nat) (fcap : Array Value) (hf : FnB Tryz.prog (Is ValE) fid fcap G (fun x=>x ∈ l) pf) : CL Tryz.prog (nat_lit 122) #[vl, .func (.func fid) #[] fcap] [] w G fun _ _ r=>r = .bool (l.any pf):=by
 refine Zg ft [] Tryz.func122 rfl rfl ?_
 have hS:=St.start (X:=[]) hG
 refine Zj hS Ztg rfl rfl rfl (Zom hS.imm l pf _ hvl fid fcap (hf.up (G.le_refl))) (fun w1 G1 hS1 hle1=>?_)
 refine ZY .geq rfl .i64 (Q6 pf l) 0 rfl rfl rfl ?_
 exact RB hS1 rfl (by exact Zbh _ _)
end Go.Civ
namespace Go.Civ
open Go.RowKit
set_option linter.unusedVariables false
def Zep (P : Program) : List ResultVar → Env → World → List Value → Prop
 | [],_,_,vs=>vs = []
 | .tmp t :: r,ρ,w,vs=>∃ vs',vs = ρ t :: vs' ∧ Zep P r ρ w vs'
 | .cell a t :: r,ρ,w,vs=>∃ v vs' p,vs = v :: vs' ∧ ρ a = .pointer (some p) ∧ (loadVar t p).run P w = .ok v w ∧ Zep P r ρ w vs'
def tup : List Value → Value
 | [v]=>v
 | vs=> .tuple vs.toArray
def ZtQ (P : Program) (rs : List ResultVar) (R : Ending → World → Prop) : Exit → Env → World → Prop
 | .normal,ρ,w | .ret,ρ,w=>∃ vs,Zep P rs ρ w vs ∧ R (.returned (tup vs)) w
 | _,_,_=>False
section
variable {P : Program} {N : Nat} {Q : Exit → Env → World → Prop} {ρ : Env} {w : World}
theorem Zou (rs : List ResultVar) (tmps : Array Value) {vs : List Value} (h : ∀ t,tmps.getD t undef = ρ t) (hv : Zep P rs ρ w vs) :
  (rs.mapM (rv tmps)).run P w = .ok vs w:=by
 induction rs generalizing vs with
 | nil=>simp only [Zep] at hv; subst hv; simp
 | cons r rs ih=>
  cases r with
  | tmp t=>
   obtain ⟨vs',rfl,h1⟩:=hv
   have:=ih h1
   simp only [List.mapM_cons]
   simp only [Sem.run_bind,this,Result.andThen,Sem.run_pure,rv,h]
  | cell a t=>
   obtain ⟨v,vs',p,rfl,h1,h2,h3⟩:=hv
   have:=ih h3
   simp only [List.mapM_cons]
   simp only [Sem.run_bind,this,Result.andThen,Sem.run_pure,rv,h,h1,asAddr,h2]
theorem Zeq {fn : Func} {a : Act} {vs : List Value} (ha : Fits N a ρ) (hv : Zep P fn.results.toList ρ w vs) : (results fn a.tmps).run P w = .ok (tup vs) w:=by
 have h:=Zou fn.results.toList a.tmps ha.get hv
 rw [ZfN,Array.mapM_eq_mapM_toList,Sem.run_bind,Sem.run_map,h]
 match vs with
 | []=>simp [Result.andThen,tup]
 | [x]=>simp [Result.andThen,tup]
 | x :: y :: z=>simp [Result.andThen,tup]
theorem Zjg {f : FuncId} {fn : Func} {c : Code} {args : Array Value} {R : Ending → World → Prop}
  (hf : P.funcs[f]? = some fn) (hb : fn.body = some c) (hN : fn.ntmps = N) (hle : Nat.ble args.size N = true)
  (h : WC P N c (ZtQ P fn.results.toList R) (fun t=>args.getD t undef) w) : Calls P f args w R:=by
 refine calls_of_wp hf hb ?_
 have hle' : args.size ≤ N:=by simpa using hle
 have ha : Fits N { tmps:=args ++ Array.replicate (fn.ntmps - args.size) undef,defers:=[] } (fun t=>args.getD t undef):=by
  refine ⟨by simp [hN]; omega,fun t=>?_,rfl⟩
  simp only [Array.getD_eq_getD_getElem?,Array.getElem?_append,Array.getElem?_replicate,hN]
  split
  ·rfl
  ·rename_i hlt
   rw [Array.getElem?_eq_none (xs:=args) (by omega)]
   split <;> rfl
 refine wp_mono (h _ ha) ?_
 rintro e a' w' ⟨ρ',hf',hq⟩
 cases e with
 | normal=>obtain ⟨v,hv,hR⟩:=hq; exact ⟨hf'.defers,_,Zeq hf' hv,hR⟩
 | ret=>obtain ⟨v,hv,hR⟩:=hq; exact ⟨hf'.defers,_,Zeq hf' hv,hR⟩
 | exit id=>exact hq.elim
 | goto l=>exact hq.elim
 | panic ch=>exact hq.elim
 | outgrown=>exact hq.elim
structure RQR (P : Program) (rs : List ResultVar) (R : Ending → World → Prop) (ρ : Env) (w : World) : Prop where
 h : ∃ vs,Zep P rs ρ w vs ∧ R (.returned (tup vs)) w
def Zts (P : Program) (rs : List ResultVar) (R : Ending → World → Prop) : Exit → Env → World → Prop
 | .normal,ρ,w=>RQR P rs R ρ w
 | .ret,ρ,w=>RQR P rs R ρ w
 | _,_,_=>False
theorem Y9 {f : FuncId} {fn : Func} {c : Code} {args : Array Value} {R : Ending → World → Prop} (F : FTab P) (J : List Nat)
  (hf : P.funcs[f]? = some fn) (hb : fn.body = some c) (hle : Nat.ble args.size fn.ntmps = true)
  (h : goC F fn.ntmps J c (Zts P fn.results.toList R) (fun t=>args.getD t undef) w) (hok : okD fn.ntmps c = true:=by kernel_rfl) : Calls P f args w R:=by
 refine Zjg (N:=fn.ntmps) hf hb rfl hle ((goC.ok hok h).mono fun e ρ w hq=>?_)
 cases e with
 | normal=>exact hq.h
 | ret=>exact hq.h
 | _=>exact hq.elim
theorem Xj {rs : List ResultVar} {w0 : World} {X : List Nat} {G0 G : GH} {L : Own} {B : GH → World → Value → Prop} (vs : List Value) (hS : St w0 X G0 G L w) (hv : Zep P rs ρ w vs) (hB : B G w (tup vs)) :
  RQR P rs (fun e w'=>∃ r G',e = .returned r ∧ Res X w0 G0 w' G' ∧ B G' w' r) ρ w:=⟨vs,hv,_,G,rfl,hS.res,hB⟩
end
section
variable {P : Program} {w0 w w' : World} {X : List Nat} {G0 G G' : GH} {L : Own} {o : OB}
theorem St.loadA {t : TypeId} {ti : TI} (hS : St w0 X G0 G L w) (i : Nat) (b : Nat) (e : TypeId) (cs : List Value) (off : Nat) (vs : List Value) (hi : L[i]? = some (some (b,e,cs))) (hv : (cs.drop off).take ti.size = vs) (hn : vs.length = ti.size)
  (ht : ZX P t = some ti) (ha : ti.agg = true) : (loadVar t ⟨b,off,none⟩).run P w = .ok (.agg vs.toArray) w:=by
 have hc : ∀ (j : Nat) v,vs[j]? = some v → w.cell? ((⟨b,off,none⟩ : Addr).add j) = some v:=fun j v h=>by
  rw [Yr _ _ rfl]
  refine hS.cell i hi ?_
  subst hv
  rw [List.getElem?_take] at h
  split at h
  ·rwa [List.getElem?_drop] at h
  ·cases h
 simp [loadVar,ZbT ht,ha,Xn ht,Zbf hn hc,Result.andThen]
theorem St.loadC {t : TypeId} {ti : TI} {p : Addr} {cs : List Value} (hS : St w0 X G0 G L w) (hc : Xl G p cs) (ht : ZX P t = some ti) (ha : ti.agg = true) (hn : cs.length = ti.size) : (loadVar t p).run P w = .ok (.agg cs.toArray) w:=by
 simp [loadVar,ZbT ht,ha,Xn ht,Zbf hn (fun _ _ h=>hc.cell hS.imm h),Result.andThen]
theorem St.sealAt {b : Nat} {e : TypeId} {cs : List Value} (h : St w0 X G0 G L w) (i : Nat) (hi : L[i]? = some (some (b,e,cs))) (hb : w0.heap.size ≤ b) : ∃ G',G.le G' ∧ Xl G' ⟨b,0,none⟩ cs ∧ St w0 X G0 G' (L.set i none) w:=by
 have f:=h.freeze i (b:=b) (e:=e) (cs:=cs) hi hb
 have hG : G b = none:=(h.sep i _ hi).2
 exact ⟨_,G.add_le _ hG,⟨rfl,_,_,_,GH.add_at _ _ _,fun j v hv=>by simpa using hv⟩,f⟩
theorem St.sealSlAt {α : Type} {E : Enc α} {by_ : Nat} {l : List α} {b : Nat} {e : TypeId} {cs : List Value} (h : St w0 X G0 G L w) (i : Nat) (hi : L[i]? = some (some (b,e,cs))) (hb : w0.heap.size ≤ b) (hf : YS E G l cs) {n : Nat} (hn : n = l.length) (hby : n * by_ ≤ reach) (hlen : n ≤ reach) :
  ∃ G',G.le G' ∧ Sl E by_ G' (.slice (some ⟨b,0,none⟩) n n) l ∧ St w0 X G0 G' (L.set i none) w:=by
 obtain ⟨G',h1,h2,h3⟩:=h.sealAt i hi hb
 subst hn
 refine ⟨G',h1,⟨some ⟨b,0,none⟩,l.length,rfl,Nat.le_refl _,hby,hlen,fun i x hx=>⟨_,rfl,rfl,?_⟩⟩,h3⟩
 exact (hf.mono h1).rows h2 i x hx
theorem St.callRowR (h : St w0 X G0 G L w) (i : Nat) (hi : L[i]? = some o) {o' : OB} (r : Res (blk o) w G w' G') {α : Type} {E : Enc α} {by_ : Nat} {e : TypeId} {v v' : Value} {l l' : List α}
  (h1 : ZS E by_ e G v l o) (h2 : ZS E by_ e G' v' l' o') (hl : QW w' G' o') (hb : blk o' = blk o) : St w0 X G0 G' (L.set i o') w':=by
 cases o with
 | none=>
  cases o' with
  | none=>exact (h.call r).drop i
  | some p=>simp [blk] at hb
 | some p=>
  cases o' with
  | none=>simp [blk] at hb
  | some q=>
   obtain ⟨b,e1,cs⟩:=p
   obtain ⟨b',e2,cs'⟩:=q
   simp [blk] at hb
   subst hb
   have e1e : e1 = e:=by rcases h1 with ⟨h0,_⟩ | ⟨_,_,_,_,h0,_⟩ <;> simp at h0; exact h0.2.1
   have e2e : e2 = e:=by rcases h2 with ⟨h0,_⟩ | ⟨_,_,_,_,h0,_⟩ <;> simp at h0; exact h0.2.1
   subst e1e; subst e2e
   exact h.callX i hi cs' r (hl _ rfl).1
end
section
variable {P : Program} {Q : Exit → Env → World → Prop} {ρ : Env} {w : World} {ops : Array Oper} {rest : List Oper} {K : Env → World → Prop}
variable {d : Nat} {ty : TypeId} {pos : String} {af : Array Edge} {g : Option (Nat × Bool)}
end
end Go.Civ
namespace Go.Civ
set_option linter.unusedVariables false
def ZcD (a m b p : Nat) : Nat:=if a ≤ p ∧ p < a + (b - m) then p + (m - a) else if a + (b - m) ≤ p ∧ p < b then p - (b - m) else p
def ZeW (a b n p : Nat) : Nat:=if a ≤ p ∧ p < a + n then p - a + b else if b ≤ p ∧ p < b + n then p - b + a else p
section
variable {α : Type}
structure Moved (l L : List α) (f : Nat → Nat) : Prop where
 perm : L.Perm l
 map : ∀ p,p < l.length → L[p]? = l[f p]?
variable {l L M : List α} {f g : Nat → Nat}
theorem Moved.len (h : Moved l L f) : L.length = l.length:=h.perm.length_eq
theorem Moved.refl (hf : ∀ p,p < l.length → f p = p) : Moved l l f:=⟨List.Perm.refl _,fun p hp=>by rw [hf p hp]⟩
theorem Moved.swap (h : Moved l L f) {i j : Nat} {x y : α} (hi : L[i]? = some x) (hj : L[j]? = some y) (hij : i ≠ j) (hg : ∀ p,p < l.length → g p = if p = i then f j else if p = j then f i else f p) : Moved l ((L.set i y).set j x) g:=by
 have hil : i < L.length:=(List.getElem?_eq_some_iff.1 hi).1
 have hjl : j < L.length:=(List.getElem?_eq_some_iff.1 hj).1
 have hl:=h.len
 refine ⟨(Zhr hij hi hj).trans h.perm,fun p hp=>?_⟩
 rw [hg p hp,List.getElem?_set]
 by_cases h1 : j = p
 ·subst h1
  rw [if_pos rfl,if_pos (by simpa using hjl),if_neg (Ne.symm hij),if_pos rfl,← hi]
  exact h.map i (by omega)
 ·rw [if_neg h1,List.getElem?_set]
  by_cases h2 : i = p
  ·subst h2
   rw [if_pos rfl,if_pos hil,if_pos rfl,← hj]
   exact h.map j (by omega)
  ·rw [if_neg h2,if_neg (Ne.symm h2),if_neg (Ne.symm h1)]; exact h.map p hp
structure RotInv (l M : List α) (a m b i j : Nat) : Prop where
 perm : M.Perm l
 map : ∀ p,p < l.length → M[ZcD (m - i) m (m + j) p]? = l[ZcD a m b p]?
theorem RotInv.start {a m b : Nat} (h1 : a ≤ m) (h2 : m ≤ b) : RotInv l l a m b (m - a) (b - m):=by
 refine ⟨List.Perm.refl _,fun p hp=>?_⟩
 rw [show m - (m - a) = a by omega,show m + (b - m) = b by omega]
theorem RotInv.len {a m b i j : Nat} (h : RotInv l M a m b i j) : M.length = l.length:=h.perm.length_eq
theorem RotInv.left {a m b i j : Nat} (h : RotInv l M a m b i j) (k : Moved M L (ZeW (m - i) m j)) (hij : j < i) (hi : i ≤ m) (hj : m + j ≤ l.length) : RotInv l L a m b (i - j) j:=by
 refine ⟨k.perm.trans h.perm,fun p hp=>?_⟩
 have hl:=h.len
 rw [k.map _ (by rw [hl]; unfold ZcD; split <;> (try split) <;> omega),← h.map p hp]
 congr 1
 unfold ZeW ZcD
 repeat' split
 all_goals omega
theorem RotInv.right {a m b i j : Nat} (h : RotInv l M a m b i j) (k : Moved M L (ZeW (m - i) (m + j - i) i)) (hij : i < j) (hi : i ≤ m) (hj : m + j ≤ l.length) : RotInv l L a m b i (j - i):=by
 refine ⟨k.perm.trans h.perm,fun p hp=>?_⟩
 have hl:=h.len
 rw [k.map _ (by rw [hl]; unfold ZcD; split <;> (try split) <;> omega),← h.map p hp]
 congr 1
 unfold ZeW ZcD
 repeat' split
 all_goals omega
theorem RotInv.done {a m b i j : Nat} (h : RotInv l M a m b i j) (k : Moved M L (ZeW (m - i) m i)) (hij : i = j) (hi : i ≤ m) (hj : m + j ≤ l.length) : Moved l L (ZcD a m b):=by
 subst hij
 refine ⟨k.perm.trans h.perm,fun p hp=>?_⟩
 have hl:=h.len
 rw [k.map p (by omega),← h.map p hp]
 congr 1
 unfold ZeW ZcD
 repeat' split
 all_goals omega
variable {pf : α → α → Int}
def ZrJ (pf : α → α → Int) (l : List α) : Prop:=∀ x ∈ l,∀ y ∈ l,pf x y < 0 → ¬ pf y x < 0
def ZrK (pf : α → α → Int) (l : List α) : Prop:=∀ x ∈ l,∀ y ∈ l,∀ z ∈ l,¬ pf y x < 0 → ¬ pf z y < 0 → ¬ pf z x < 0
def Ztt (pf : α → α → Int) (M : List α) (a mid b : Nat) : Prop:=∀ p q u v,a ≤ p → p < mid → mid ≤ q → q < b → M[p]? = some u → M[q]? = some v → ¬ pf v u < 0
structure Halves (pf : α → α → Int) (l M : List α) (a s mid e b : Nat) : Prop where
 perm : M.Perm l
 frame : ∀ p,p < a ∨ b ≤ p → M[p]? = l[p]?
 s1 : Asc pf M a s
 s2 : Asc pf M s mid
 s3 : Asc pf M mid e
 s4 : Asc pf M e b
 cross : Ztt pf M a mid b
theorem Ins.from_ {a b i p : Nat} {x : α} (h : Ins pf l L a b i) (hab : a ≤ b) (h1 : a ≤ p) (h2 : p < b) (hx : L[p]? = some x) : ∃ q,a ≤ q ∧ q < b ∧ l[q]? = some x:=by
 have hl:=h.len
 have e1 : L.take a = l.take a:=by
  apply List.ext_getElem?; intro k
  rw [List.getElem?_take,List.getElem?_take]
  split
  ·exact h.frame k (by omega)
  ·rfl
 have e2 : L.drop b = l.drop b:=by
  apply List.ext_getElem?; intro k
  rw [List.getElem?_drop,List.getElem?_drop]; exact h.frame _ (by omega)
 have dec : ∀ t : List α,t = t.take a ++ ((t.drop a).take (b - a) ++ t.drop b):=fun t=>by
  rw [show t.drop b = (t.drop a).drop (b - a) by rw [List.drop_drop]; congr 1; omega,List.take_append_drop,List.take_append_drop]
 have hp:=h.perm
 rw [dec L,dec l,e1,e2,List.perm_append_left_iff,List.perm_append_right_iff] at hp
 have hm : x ∈ (L.drop a).take (b - a):=by
  refine List.mem_of_getElem? (i:=p - a) ?_
  rw [List.getElem?_take,if_pos (by omega),List.getElem?_drop,show a + (p - a) = p by omega]; exact hx
 obtain ⟨k,hk⟩:=List.getElem?_of_mem (hp.mem_iff.1 hm)
 rw [List.getElem?_take] at hk
 split at hk
 ·rw [List.getElem?_drop] at hk; exact ⟨a + k,by omega,by omega,hk⟩
 ·cases hk
theorem Asc.empty {a b : Nat} (h : b ≤ a + 1) : Asc pf l a b:=fun p q x y h1 h2 h3=>by omega
theorem Halves.done {a s mid e b : Nat} {M1 M2 : List α} (h : Halves pf l M a s mid e b) (h1 : Ins pf M M1 a mid mid) (h2 : Ins pf M1 M2 mid b b) (ha : a ≤ mid) (hb : mid ≤ b) : Ins pf l M2 a b b:=by
 refine ⟨h2.perm.trans (h1.perm.trans h.perm),fun p hp=>?_,fun p q u v k1 k2 k3 hu hv=>?_⟩
 ·rw [h2.frame p (by omega),h1.frame p (by omega)]; exact h.frame p hp
 ·rcases Nat.lt_or_ge q mid with c | c
  ·rw [h2.frame p (by omega)] at hu; rw [h2.frame q (by omega)] at hv
   exact h1.asc p q u v k1 k2 c hu hv
  ·rcases Nat.lt_or_ge p mid with d | d
   ·rw [h2.frame p (by omega)] at hu
    obtain ⟨p',a1,a2,a3⟩:=h1.from_ ha k1 d hu
    obtain ⟨q',b1,b2,b3⟩:=h2.from_ hb c k3 hv
    rw [h1.frame q' (by omega)] at b3
    exact h.cross p' q' u v a1 a2 b1 b2 a3 b3
   ·exact h2.asc p q u v d k2 k3 hu hv
theorem Ins.same {a b : Nat} (h : Asc pf l a b) : Ins pf l l a b b:=⟨List.Perm.refl _,fun _ _=>rfl,h⟩
theorem Asc.frame {a b : Nat} (h : Asc pf l a b) (k : ∀ p,a ≤ p → p < b → L[p]? = l[p]?) : Asc pf L a b:=fun p q x y h1 h2 h3 hx hy=>by
 rw [k p h1 (by omega)] at hx; rw [k q (by omega) h3] at hy
 exact h p q x y h1 h2 h3 hx hy
theorem ZrJ.perm (h : ZrJ pf l) (k : L.Perm l) : ZrJ pf L:=fun x hx y hy=>h x (k.mem_iff.1 hx) y (k.mem_iff.1 hy)
theorem ZrK.perm (h : ZrK pf l) (k : L.Perm l) : ZrK pf L:=fun x hx y hy z hz=>h x (k.mem_iff.1 hx) y (k.mem_iff.1 hy) z (k.mem_iff.1 hz)
end
end Go.Civ
set_option linter.unusedVariables false
namespace Go.Civ
open Go.Proofs Go.Shelf Go.RowKit Go.Lib Go.Sort
abbrev BSpan:={ s : Span // -4398046511104 ≤ s.a ∧ s.a ≤ 4398046511104 }
instance : Inhabited BSpan:=⟨⟨⟨0,0⟩,by decide⟩⟩
def ZaT (x : BSpan) : List Value:=[.int .i64 x.1.a, .int .i64 x.1.b]
def cfB (x y : BSpan) : Int:=x.1.a - y.1.a
set_option maxHeartbeats 1000000 in
theorem ZlA (x y : BSpan) (W : World) : Calls Tryz.prog 190 #[.agg #[.int .i64 x.1.a, .int .i64 x.1.b], .agg #[.int .i64 y.1.a, .int .i64 y.1.b]] W fun e w'=>e = .returned (.int .i64 (cfB x y)) ∧ ∃ q os',w' = grow (W.drewN q) os':=by
 obtain ⟨⟨xa,xb⟩,hx⟩:=x
 obtain ⟨⟨ya,yb⟩,hy⟩:=y
 simp only [cfB]
 have hw : IntKind.wrap .i64 (xa - ya) = xa - ya:=ZeL ⟨by simp at hx hy; omega,by simp at hx hy; omega⟩
 go_enter Tryz.func190,Tryz.ntmps190
 go_wp2
 go_ret
 exact ⟨rfl,0,_,by rw [alloc_eq_grow,alloc_eq_grow,grow_grow]; rfl⟩
theorem ZtS : SWO (ltOf cfB) where
 irrefl x:=decide_eq_false (show ¬ x.1.a - x.1.a < 0 by omega)
 trans x y z h1 h2:=by
  have h1' : x.1.a - y.1.a < 0:=of_decide_eq_true h1
  have h2' : y.1.a - z.1.a < 0:=of_decide_eq_true h2
  exact decide_eq_true (show x.1.a - z.1.a < 0 by omega)
 ntrans x y z h1 h2:=by
  have h1' : ¬ x.1.a - y.1.a < 0:=of_decide_eq_false h1
  have h2' : ¬ y.1.a - z.1.a < 0:=of_decide_eq_false h2
  exact decide_eq_false (show ¬ x.1.a - z.1.a < 0 by omega)
theorem Zjr {α : Type} (enc : α → List Value) (h2 : ∀ x,(enc x).length = 2) : ∀ (l : List α) (t : Nat),(l.flatMap enc)[t]? = (l[t / 2]?).bind fun x=>(enc x)[t % 2]?
 | [],t=>by simp
 | x :: l,t=>by
  rw [List.flatMap_cons,List.getElem?_append]
  by_cases ht : t < 2
  ·rw [if_pos (by rw [h2]; exact ht),show t / 2 = 0 by omega,Nat.mod_eq_of_lt ht]; rfl
  ·rw [if_neg (by rw [h2]; exact ht),h2,Zjr enc h2 l (t - 2),show (t - 2) / 2 = t / 2 - 1 by omega,show (t - 2) % 2 = t % 2 by omega]
   obtain ⟨m,hm⟩ : ∃ m,t / 2 = m + 1:=⟨t / 2 - 1,by omega⟩
   rw [hm]; simp
theorem Zjs {α : Type} [Inhabited α] (enc : α → List Value) (h2 : ∀ x,(enc x).length = 2) (d : Array α) (t : Nat) (ht : t < d.size * 2) : (d.toList.flatMap enc)[t]? = some ((flatK enc 2 d)[t]!):=by
 rw [Zjr enc h2,get_flatK enc 2 d t ht]
 have hd : t / 2 < d.size:=by omega
 have e : d.toList[t / 2]? = some d[t / 2]! :=by
  rw [getElem!_pos d (t / 2) hd,Array.getElem?_toList,Array.getElem?_eq_getElem hd]
 rw [e]
 simp only [Option.bind_some]
 have hl : t % 2 < (enc d[t / 2]!).length:=by rw [h2]; omega
 rw [List.getElem?_eq_getElem hl,getElem!_pos (enc d[t / 2]!) (t % 2) hl]
theorem Zf9 {G : GH} : ∀ (l : List BSpan),(∀ x ∈ l,Zy x.1.b) → YS SpanE G (l.map (·.1)) (l.flatMap ZaT)
 | [],_=>rfl
 | x :: l,h=>⟨ZaT x,l.flatMap ZaT,rfl,Zs x.1 ⟨by have:=x.2; omega,by have:=x.2; omega⟩ (h x (by simp)),Zf9 l fun y hy=>h y (by simp [hy])⟩
theorem Zgx {G : GH} : ∀ (l : List BSpan) (xs : List Value),YS SpanE G (l.map (·.1)) xs → xs = l.flatMap ZaT ∧ ∀ x ∈ l,Zy x.1.b
 | [],xs,h=>⟨h,by simp⟩
 | x :: l,xs,⟨c,r,h1,h2,h3⟩=>by
  obtain ⟨rfl,_,hb⟩:=ZF h2
  obtain ⟨rfl,h4⟩:=Zgx l r h3
  refine ⟨h1,fun y hy=>?_⟩
  rcases List.mem_cons.1 hy with rfl | hy
  ·exact hb
  ·exact h4 y hy
theorem Zfo : ∀ (l : List Span),(∀ s ∈ l, -4398046511104 ≤ s.a ∧ s.a ≤ 4398046511104) → ∃ d : List BSpan,d.map (·.1) = l
 | [],_=>⟨[],rfl⟩
 | s :: l,h=>by
  obtain ⟨d,hd⟩:=Zfo l fun x hx=>h x (by simp [hx])
  exact ⟨⟨s,h s (by simp)⟩ :: d,by simp [hd]⟩
set_option maxHeartbeats 1000000 in
theorem ZqG {G : GH} {w : World} (hG : G.In w) (l : List Span) (vd : Value) (od : OB) (hvd : ZS SpanE 16 (nat_lit 33) G vd l od) (hod : QW w G od) (hB : ∀ s ∈ l, -4398046511104 ≤ s.a ∧ s.a ≤ 4398046511104) :
  Calls Tryz.prog (nat_lit 189) #[vd, .func (.func 190) #[] #[]] w fun e w'=>∃ r G',e = .returned r ∧ Res (blk od) w G w' G' ∧ r = .tuple #[] ∧ ∃ (l' : List Span) (o' : OB),ZS SpanE 16 (nat_lit 33) G' vd l' o' ∧ QW w' G' o' ∧ (l'.Perm l ∧ ZnW l'):=by
 rcases hvd with ⟨rfl,rfl,rfl⟩ | ⟨b,cs,cap,xs,rfl,rfl,h3,h4,h5,h6,h7,h8,h9⟩
 ·exact (AnyF.slices_SortFunc_none (P:=Tryz.prog) (ρ:=Tryz.sortSp_ren) { Tryz.sortSp with } none 0 (.func (.func 190) #[] #[]) w).mono fun e w' ⟨he,hw⟩=>by
   subst hw
   exact ⟨_,G,he,Res.refl hG,rfl,[],none, .inl ⟨rfl,rfl,rfl⟩,fun p hp=>(by cases hp),List.Perm.refl _,List.Pairwise.nil⟩
 ·obtain ⟨hb1,hb2⟩:=hod _ rfl
  obtain ⟨dl,rfl⟩:=Zfo l hB
  obtain ⟨rfl,hI⟩:=Zgx dl xs h6
  have hsz : dl.toArray.size = (dl.map (·.1)).length:=by simp
  have hcell : ∀ t,t < dl.toArray.size * 2 → cs[t]? = some ((flatK ZaT 2 dl.toArray)[t]!):=fun t ht=>by
   rw [← Zjs ZaT (fun _=>rfl) dl.toArray t ht]
   rw [← h7,List.getElem?_take,if_pos (by rw [← hsz]; exact ht)]
  have hH : HoldsK ZaT 2 w b 0 dl.toArray:=fun t ht=>by
   rw [size_flatK] at ht
   refine ⟨?_,?_⟩
   ·rw [Nat.zero_add]
    simp only [World.cell?,hb1,Zac]
    have:=hcell t ht
    simpa using this
   ·simp [World.frozen?,hb1,Zac]
  have hcon:=AnyQ.slices_SortFunc Tryz.sortSp 2 Tryz.isAgg33 Tryz.sizeOf33 ZaT (fun _=>rfl) (fun x v hv=>by simp [ZaT] at hv; rcases hv with rfl | rfl <;> rfl) cfB ZtS 190 #[] b 0 cap dl.toArray w
   (enters_of Tryz.func190 (by kernel_rfl) rfl) (fun _ _ _ _ x y=>ZlA x y _) hH (Array.getElem?_eq_some_iff.1 hb1).1 (by rw [hsz]; unfold reach at h9; omega)
  rw [hsz] at hcon
  refine hcon.mono fun e w' ⟨he,d',n,os,hp,hs,hw⟩=>?_
  obtain ⟨hp1,hp2,hp3⟩:=hp
  have hd' : d'.size = dl.length:=by simpa using hp1
  have hperm : d'.toList.Perm dl:=by
   have e1 : d'.extract 0 dl.toArray.size = d':=by rw [← hp1]; simp
   have e2 : dl.toArray.extract 0 dl.toArray.size = dl.toArray:=by simp
   rw [hsz.symm,e1,e2] at hp3; simpa using hp3
  have hbl : b < w.heap.size:=(Array.getElem?_eq_some_iff.1 hb1).1
  subst hw
  obtain ⟨cs',hcs'⟩ : ∃ cs' : List Value,cs' = (putCells id 0 (flatK ZaT 2 d') cs.toArray).toList:=⟨_,rfl⟩
  have hget : ∀ k,(sortWorldK ZaT 2 w b 0 n d' os).heap[k]? = if k < w.heap.size then (if b = k then some (.cells cs'.toArray (nat_lit 33) (0,0)) else w.heap[k]?) else os[k - w.heap.size]? :=fun k=>by
   have hah : (Go.Sort.ahead w n).heap = w.heap:=rfl
   simp only [sortWorldK,putRowK,putRow,mapBlock,grow,hah]
   rw [Array.getElem?_append]
   simp only [Array.size_modify]
   by_cases hk : k < w.heap.size
   ·rw [if_pos hk,if_pos hk,Array.getElem?_modify]
    by_cases hkb : b = k
    ·subst hkb
     rw [if_pos rfl,if_pos rfl,hb1]
     simp [Zac,onCells,hcs']
    ·rw [if_neg hkb,if_neg hkb]
   ·rw [if_neg hk,if_neg hk]
  have hres : Res [b] w G (sortWorldK ZaT 2 w b 0 n d' os) G:=by
   refine ⟨⟨rfl,rfl,rfl,Nat.le_add_right _ _,?_,fun k hk hkb=>?_⟩,G.le_refl,fun _ _=>rfl,fun k o hk=>?_⟩
   ·have hah : (Go.Sort.ahead w n).heap = w.heap:=rfl
    simp [sortWorldK,putRowK,putRow,mapBlock,grow]
    try simp [hah]
   ·rw [hget,if_pos hk,if_neg (by simpa [eq_comm] using hkb)]
   ·have hk1:=hG.lt hk
    have hkb : b ≠ k:=fun e=>by subst e; simp only at hb2; rw [hb2] at hk; cases hk
    rw [hget,if_pos hk1,if_neg hkb]; exact hG k o hk
  have hI' : ∀ x ∈ d'.toList,Zy x.1.b:=fun x hx=>hI x (hperm.mem_iff.1 hx)
  have hlen : (d'.toList.map (·.1)).length = (dl.map (·.1)).length:=by simp [hd']
  have hln : (dl.map (·.1)).length = dl.length:=by simp
  refine ⟨_,G,he,hres,rfl,d'.toList.map (·.1),some (b,nat_lit 33,cs'), .inr ⟨b,cs',cap,d'.toList.flatMap ZaT,rfl,by rw [hlen],by rw [hlen]; exact h3,h4,?_,Zf9 _ hI',?_,by rw [hlen]; exact h8,by rw [hlen]; exact h9⟩,fun p hp=>?_,?_,?_⟩
  ·subst hcs'; simpa [putCells] using h5
  ·
   have h5' : cs.length = cap * 2:=h5
   apply List.ext_getElem?
   intro t
   rw [List.getElem?_take]
   have hn2 : (d'.toList.map (·.1)).length * SpanE.n = d'.size * 2:=by simp; rfl
   rw [hn2]
   by_cases ht : t < d'.size * 2
   ·have htc : t < cs.length:=by rw [h5']; rw [hln] at h3; omega
    rw [if_pos ht,Zjs ZaT (fun _=>rfl) d' t ht,hcs']
    simp only [putCells,Array.getElem?_toList,Array.getElem?_mapIdx,size_flatK]
    simp only [List.getElem?_toArray]
    rw [List.getElem?_eq_getElem htc]
    simp [ht]
   ·rw [if_neg ht,List.getElem?_eq_none]
    have:=YS.len (Zf9 (G:=G) d'.toList hI')
    omega
  ·obtain rfl:=Option.some.inj hp
   exact ⟨by rw [hget,if_pos hbl,if_pos rfl]; rfl,hb2⟩
  ·exact hperm.map _
  ·unfold ZnW
   rw [List.pairwise_map,List.pairwise_iff_getElem]
   intro i j hi hj hij
   have h:=hs i j (by omega) hij (by rw [← hsz,← hp1]; simpa using hj)
   have hi' : i < d'.size:=by simpa using hi
   have hj' : j < d'.size:=by simpa using hj
   rw [getElem!_pos d' i hi',getElem!_pos d' j hj'] at h
   have:=of_decide_eq_false h
   simp only [cfB] at this
   simp only [Array.getElem_toList]
   omega
end Go.Civ
