/- Lemmas. -/
import Derived.Test.YthgeclodflmiaaaGreatH06
import Derived.Test.YthgeclodflmiaaaGreatH07
import Derived.Test.YthgeclodflmiaaaGreatH08
import Derived.Test.YthgeclodflmiaaaGreatH09
import Derived.Test.YthgeclodflmiaaaGreatProg
import Derived.WalkKit
import Derived.Below
import Derived.Shelf.GgClosure.StringsRunes
import Derived.Maps.Own
import Derived.Laws.StructEq
import Derived.KernelRfl
set_option linter.unusedVariables false
namespace Go.Civ
open Go.Proofs Go.Shelf Go.RowKit Go.Lib
theorem Zdf (w : World) : ∀ n,Below w.heap.size w (w.drewN n)
 | 0=>Below.refl _ _
 | n + 1=>(Zdf w n).drew
def pR (r : Nat) : Bool:=decide (r < 32) || decide (126 < r)
set_option maxHeartbeats 1000000 in
theorem ZsM (r : Nat) (W : World) : Calls Tryz.prog 177 #[.int .i32 (r : Int)] W fun e w'=>e = .returned (.bool (pR r)) ∧ ∃ q,w' = W.drewN q:=by
 by_cases h1 : r < 32 <;> by_cases h2 : 126 < r
 all_goals
  have z1 : (r : Int) < 32 ↔ r < 32:=by omega
  have z2 : (126 : Int) < (r : Int) ↔ 126 < r:=by omega
  go_enter Tryz.func177,Tryz.ntmps177
  go_wp2
  all_goals first | (exfalso; omega) | (go_ret; exact ⟨by simp [pR,h1,h2],0,rfl⟩)
set_option maxHeartbeats 2000000 in
set_option maxRecDepth 1000000 in
theorem ZkA (s : ByteArray) (w : World) :
  Calls Tryz.prog 246 #[.string s, .func (.func 177) #[] #[], .bool true] w fun e w'=>e = .returned (.int .i64 (Lib.idxFunc pR true s)) ∧ Below w.heap.size w w' ∧ w.drawn ≤ w'.drawn:=by
 have e177 : ∀ args w,(callFunc 177 args).run Tryz.prog w = .ok (.enter 177 args) w:=enters_of Tryz.func177 (by kernel_rfl) rfl
 go_enter Tryz.func246,Tryz.ntmps246
 go_wp2
 go_loopg [] s.size (fun gf wx=>∃ pos : Nat,wx.heap[w.heap.size]? = some (.stringIter s pos) ∧ Below w.heap.size w wx ∧ Lib.idxFuncFrom pR true s gf pos = Lib.idxFunc pR true s ∧ s.size ≤ pos + gf ∧ w.drawn ≤ wx.drawn)
 case atStart=>exact ⟨0,World.iter_heap w s 0,(Below.refl _ w).alloc (Nat.le_refl _) _,rfl,by omega,Nat.le_refl _⟩
 case round=>
  obtain ⟨pos,hit,hbw,hleft,hfu,hdr⟩:=hrel
  by_cases hps : pos < s.size
  ·obtain ⟨g',rfl⟩ : ∃ g',gk = g' + 1:=⟨gk - 1,by omega⟩
   have hnx : ∀ ty,(Instr.next (.pointer (some ⟨w.heap.size,0,none⟩)) true ty).run Tryz.prog wr = _:=fun ty=>Lib.run_next_any_at wr w.heap.size s pos ty hit hps
   have hwd:=Lib.width_pos s pos
   obtain ⟨R,hR⟩ : ∃ R,(Utf8.decode s pos).1 = R:=⟨_,rfl⟩
   obtain ⟨K,hK⟩ : ∃ K,(Utf8.decode s pos).2 = K:=⟨_,rfl⟩
   simp only [Lib.idxFuncFrom,hps,if_true,hR,hK] at hleft
   rw [hR,hK] at hnx
   rw [hK] at hwd
   have hit2:=Lib.iterAt_heap wr w.heap.size s pos (pos + K) hit
   have hbw2:=Lib.below_iterAt hbw (k:=w.heap.size) (Nat.le_refl _) s (pos + K)
   have hdW : w.drawn ≤ (wr.iterAt w.heap.size s (pos + K)).drawn:=hdr
   obtain ⟨W,hWd⟩ : ∃ W,wr.iterAt w.heap.size s (pos + K) = W:=⟨_,rfl⟩
   rw [hWd] at hnx hit2 hbw2 hdW
   have hltW : w.heap.size < W.heap.size:=(Array.getElem?_eq_some_iff.1 hit2).1
   have cS : Calls Tryz.prog 177 (#[.int .i32 (R : Int)] ++ #[]) W _:=ZsM R W
   cases hsp : pR R <;> rw [hsp] at cS <;> simp only [hsp,if_true,Bool.false_eq_true,if_false] at hleft
   ·go_wp2_with (go_at_fn 177; refine cS.mono ?_; rintro e W' ⟨rfl,q,rfl⟩)
    have hbc:=Zdf W q
    go_roundg g'
    case measure=>omega
    case rel=>exact ⟨pos + K,(hbc.block _ hltW).trans hit2,(hbw2.trans (hbc.mono hbw2.size)),hleft,by omega,Nat.le_trans hdW (Nat.le_add_right _ _)⟩
   ·go_wp2_with (go_at_fn 177; refine cS.mono ?_; rintro e W' ⟨rfl,q,rfl⟩)
    have hbc:=Zdf W q
    go_ret
    exact ⟨by rw [← hleft] <;> rfl,(hbw2.trans (hbc.mono hbw2.size)),Nat.le_trans hdW (Nat.le_add_right _ _)⟩
  ·have hnx : ∀ ty,(Instr.next (.pointer (some ⟨w.heap.size,0,none⟩)) true ty).run Tryz.prog wr = _:=fun ty=>Lib.run_next_end_at wr w.heap.size s pos ty hit hps
   rw [Lib.idxFuncFrom_end pR true s gk pos hps] at hleft
   go_wp2
   go_ret
   exact ⟨by rw [← hleft] <;> rfl,hbw,hdr⟩
theorem ZsN (n b0 b1 b2 b3 : Nat) (h : 128 ≤ b0) : 128 ≤ (Lib.decodeN n b0 b1 b2 b3).1:=by
 unfold Lib.decodeN
 repeat' split
 all_goals simp_all
 all_goals omega
theorem Zu2 (s : List UInt8) (i : Nat) (c : UInt8) (h : s[i]? = some c) : (⟨s.toArray⟩ : ByteArray).get! i = c:=by
 obtain ⟨hl,he⟩:=List.getElem?_eq_some_iff.1 h
 show (s.toArray)[i]! = c
 simp [hl,he]
theorem ZlY (s : List UInt8) : ∀ (f pos : Nat),s.length ≤ pos + f → (0 ≤ Lib.idxFuncFrom pR true ⟨s.toArray⟩ f pos ↔ ¬ ∀ c ∈ s.drop pos,okC c = true)
 | 0,pos,h=>by
  have : s.drop pos = []:=List.drop_eq_nil_of_le (by omega)
  simp [Lib.idxFuncFrom,this]
 | f + 1,pos,h=>by
  have hsz : (⟨s.toArray⟩ : ByteArray).size = s.length:=by simp [ByteArray.size]
  unfold Lib.idxFuncFrom
  by_cases hp : pos < s.length
  ·obtain ⟨c,hc⟩ : ∃ c,s[pos]? = some c:=⟨_,List.getElem?_eq_getElem hp⟩
   have hd : s.drop pos = c :: s.drop (pos + 1):=by
    rw [List.drop_eq_getElem_cons hp]; rw [List.getElem?_eq_getElem hp] at hc; rw [Option.some.inj hc]
   rw [if_pos (by rw [hsz]; exact hp),hd,Lib.decode_at,Zu2 s pos c hc]
   by_cases hb : c.toNat < 128
   ·rw [show Lib.decodeN ((⟨s.toArray⟩ : ByteArray).size - pos) c.toNat ((⟨s.toArray⟩ : ByteArray).get! (pos + 1)).toNat ((⟨s.toArray⟩ : ByteArray).get! (pos + 2)).toNat ((⟨s.toArray⟩ : ByteArray).get! (pos + 3)).toNat = (c.toNat,1) from by simp [Lib.decodeN,hb]]
    have ih:=ZlY s f (pos + 1) (by omega)
    by_cases ho : okC c = true
    ·have : pR c.toNat = false:=by simp [okC,pR] at *; omega
     simp only [this]
     rw [if_neg (by simp),ih]; simp [ho]
    ·have : pR c.toNat = true:=by simp [okC,pR] at *; omega
     simp only [this,if_true]
     simp [ho]
   ·have h2:=ZsN ((⟨s.toArray⟩ : ByteArray).size - pos) c.toNat ((⟨s.toArray⟩ : ByteArray).get! (pos + 1)).toNat ((⟨s.toArray⟩ : ByteArray).get! (pos + 2)).toNat ((⟨s.toArray⟩ : ByteArray).get! (pos + 3)).toNat (by omega)
    have h3 : pR (Lib.decodeN ((⟨s.toArray⟩ : ByteArray).size - pos) c.toNat ((⟨s.toArray⟩ : ByteArray).get! (pos + 1)).toNat ((⟨s.toArray⟩ : ByteArray).get! (pos + 2)).toNat ((⟨s.toArray⟩ : ByteArray).get! (pos + 3)).toNat).1 = true:=by simp [pR]; omega
    have ho : okC c = false:=by simp [okC]; omega
    rw [if_pos h3]; simp [ho]
  ·have : s.drop pos = []:=List.drop_eq_nil_of_le (by omega)
   rw [if_neg (by rw [hsz]; exact hp)]
   simp [this]
theorem Zu3 (s : List UInt8) : decide (0 ≤ Lib.idxFunc pR true ⟨s.toArray⟩) = !s.all okC:=by
 have h:=ZlY s s.length 0 (by omega)
 unfold Lib.idxFunc
 have hsz : (⟨s.toArray⟩ : ByteArray).size = s.length:=by simp [ByteArray.size]
 rw [hsz,Bool.eq_iff_iff]
 simp only [decide_eq_true_eq,h,List.drop_zero,Bool.not_eq_true',← Bool.not_eq_true,List.all_eq_true]
set_option maxHeartbeats 2000000 in
theorem Zhy (s : ByteArray) (w : World) :
  Calls Tryz.prog 212 #[.string s, .func (.func 177) #[] #[]] w fun e w'=>e = .returned (.int .i64 (Lib.idxFunc pR true s)) ∧ Below w.heap.size w w' ∧ w.drawn ≤ w'.drawn:=by
 have cI:=ZkA s w
 have e246 : ∀ args w,(callFunc 246 args).run Tryz.prog w = .ok (.enter 246 args) w:=enters_of Tryz.func246 (by kernel_rfl) rfl
 go_enter Tryz.func212,Tryz.ntmps212
 go_wp2_with (go_at_fn 246; refine cI.mono ?_; rintro e w' ⟨rfl,hb⟩)
 go_ret
 exact ⟨rfl,hb⟩
set_option maxHeartbeats 2000000 in
theorem Zhz (s : ByteArray) (w : World) :
  Calls Tryz.prog 176 #[.string s, .func (.func 177) #[] #[]] w fun e w'=>e = .returned (.bool (decide (0 ≤ Lib.idxFunc pR true s))) ∧ Below w.heap.size w w' ∧ w.drawn ≤ w'.drawn:=by
 have cI:=Zhy s w
 have e212 : ∀ args w,(callFunc 212 args).run Tryz.prog w = .ok (.enter 212 args) w:=enters_of Tryz.func212 (by kernel_rfl) rfl
 obtain ⟨I,hI⟩ : ∃ I,Lib.idxFunc pR true s = I:=⟨_,rfl⟩
 rw [hI] at cI ⊢
 go_enter Tryz.func176,Tryz.ntmps176
 go_wp2_with (go_at_fn 212; refine cI.mono ?_; rintro e w' ⟨rfl,hb⟩)
 go_ret
 exact ⟨rfl,hb⟩
theorem ZkB {w w' : World} {G : GH} (hG : G.In w) (h : Below w.heap.size w w') (hd : w.drawn ≤ w'.drawn) : Res [] w G w' G:=
 ⟨⟨h.os,h.tape,h.output,hd,h.size,fun k hk _=>h.block k hk⟩,G.le_refl,fun _ _=>rfl,fun b o hb=>(h.block b (hG.lt hb)).trans (hG b o hb)⟩
theorem ZlC {G : GH} {w : World} (hG : G.In w) (s : List UInt8) : Calls Tryz.prog (nat_lit 176) #[Zb s, .func (.func 177) #[] #[]] w fun e w'=>∃ r G',e = .returned r ∧ Res [] w G w' G' ∧ r = .bool (!s.all okC):=
 (Zhz ⟨s.toArray⟩ w).mono fun e w' ⟨he,hb,hd⟩=>⟨_,G,he,ZkB hG hb hd,by rw [Zu3]⟩
end Go.Civ
namespace Go.Civ
open Go.RowKit
set_option linter.unusedVariables false
def Zf1 (P : Program) : List ResultVar → Env → World → List Value → Prop
 | [],_,_,vs=>vs = []
 | .tmp t :: r,ρ,w,vs=>∃ vs',vs = ρ t :: vs' ∧ Zf1 P r ρ w vs'
 | .cell a t :: r,ρ,w,vs=>∃ v vs' p,vs = v :: vs' ∧ ρ a = .pointer (some p) ∧ (loadVar t p).run P w = .ok v w ∧ Zf1 P r ρ w vs'
def tup : List Value → Value
 | [v]=>v
 | vs=> .tuple vs.toArray
def ZwJ (P : Program) (rs : List ResultVar) (R : Ending → World → Prop) : Exit → Env → World → Prop
 | .normal,ρ,w | .ret,ρ,w=>∃ vs,Zf1 P rs ρ w vs ∧ R (.returned (tup vs)) w
 | _,_,_=>False
section
variable {P : Program} {N : Nat} {Q : Exit → Env → World → Prop} {ρ : Env} {w : World}
theorem ZqE (rs : List ResultVar) (tmps : Array Value) {vs : List Value} (h : ∀ t,tmps.getD t undef = ρ t) (hv : Zf1 P rs ρ w vs) :
  (rs.mapM (rv tmps)).run P w = .ok vs w:=by
 induction rs generalizing vs with
 | nil=>simp only [Zf1] at hv; subst hv; simp
 | cons r rs ih=>
  cases r with
  | tmp t=>
   obtain ⟨vs',rfl,h1⟩:=hv
   have:=ih h1
   simp only [List.mapM_cons]
   simp only [Sem.run_bind,this,Result.andThen,Sem.run_pure,rv,h]
  | cell a t=>
   obtain ⟨v,vs',p,rfl,h1,h2,h3⟩:=hv
   have:=ih h3
   simp only [List.mapM_cons]
   simp only [Sem.run_bind,this,Result.andThen,Sem.run_pure,rv,h,h1,asAddr,h2]
theorem Zf2 {fn : Func} {a : Act} {vs : List Value} (ha : Fits N a ρ) (hv : Zf1 P fn.results.toList ρ w vs) : (results fn a.tmps).run P w = .ok (tup vs) w:=by
 have h:=ZqE fn.results.toList a.tmps ha.get hv
 rw [ZgY,Array.mapM_eq_mapM_toList,Sem.run_bind,Sem.run_map,h]
 match vs with
 | []=>simp [Result.andThen,tup]
 | [x]=>simp [Result.andThen,tup]
 | x :: y :: z=>simp [Result.andThen,tup]
theorem ZkK {f : FuncId} {fn : Func} {c : Code} {args : Array Value} {R : Ending → World → Prop}
  (hf : P.funcs[f]? = some fn) (hb : fn.body = some c) (hN : fn.ntmps = N) (hle : Nat.ble args.size N = true)
  (h : WC P N c (ZwJ P fn.results.toList R) (fun t=>args.getD t undef) w) : Calls P f args w R:=by
 refine calls_of_wp hf hb ?_
 have hle' : args.size ≤ N:=by simpa using hle
 have ha : Fits N { tmps:=args ++ Array.replicate (fn.ntmps - args.size) undef,defers:=[] } (fun t=>args.getD t undef):=by
  refine ⟨by simp [hN]; omega,fun t=>?_,rfl⟩
  simp only [Array.getD_eq_getD_getElem?,Array.getElem?_append,Array.getElem?_replicate,hN]
  split
  ·rfl
  ·rename_i hlt
   rw [Array.getElem?_eq_none (xs:=args) (by omega)]
   split <;> rfl
 refine wp_mono (h _ ha) ?_
 rintro e a' w' ⟨ρ',hf',hq⟩
 cases e with
 | normal=>obtain ⟨v,hv,hR⟩:=hq; exact ⟨hf'.defers,_,Zf2 hf' hv,hR⟩
 | ret=>obtain ⟨v,hv,hR⟩:=hq; exact ⟨hf'.defers,_,Zf2 hf' hv,hR⟩
 | exit id=>exact hq.elim
 | goto l=>exact hq.elim
 | panic ch=>exact hq.elim
 | outgrown=>exact hq.elim
structure RQR (P : Program) (rs : List ResultVar) (R : Ending → World → Prop) (ρ : Env) (w : World) : Prop where
 h : ∃ vs,Zf1 P rs ρ w vs ∧ R (.returned (tup vs)) w
def Zwm (P : Program) (rs : List ResultVar) (R : Ending → World → Prop) : Exit → Env → World → Prop
 | .normal,ρ,w=>RQR P rs R ρ w
 | .ret,ρ,w=>RQR P rs R ρ w
 | _,_,_=>False
theorem YB {f : FuncId} {fn : Func} {c : Code} {args : Array Value} {R : Ending → World → Prop} (F : FTab P) (J : List Nat)
  (hf : P.funcs[f]? = some fn) (hb : fn.body = some c) (hle : Nat.ble args.size fn.ntmps = true)
  (h : goC F fn.ntmps J c (Zwm P fn.results.toList R) (fun t=>args.getD t undef) w) (hok : okD fn.ntmps c = true:=by kernel_rfl) : Calls P f args w R:=by
 refine ZkK (N:=fn.ntmps) hf hb rfl hle ((goC.ok hok h).mono fun e ρ w hq=>?_)
 cases e with
 | normal=>exact hq.h
 | ret=>exact hq.h
 | _=>exact hq.elim
theorem Xe {rs : List ResultVar} {w0 : World} {X : List Nat} {G0 G : GH} {L : Own} {B : GH → World → Value → Prop} (vs : List Value) (hS : St w0 X G0 G L w) (hv : Zf1 P rs ρ w vs) (hB : B G w (tup vs)) :
  RQR P rs (fun e w'=>∃ r G',e = .returned r ∧ Res X w0 G0 w' G' ∧ B G' w' r) ρ w:=⟨vs,hv,_,G,rfl,hS.res,hB⟩
end
section
variable {P : Program} {w0 w w' : World} {X : List Nat} {G0 G G' : GH} {L : Own} {o : OB}
theorem St.loadA {t : TypeId} {ti : TI} (hS : St w0 X G0 G L w) (i : Nat) (b : Nat) (e : TypeId) (cs : List Value) (off : Nat) (vs : List Value) (hi : L[i]? = some (some (b,e,cs))) (hv : (cs.drop off).take ti.size = vs) (hn : vs.length = ti.size)
  (ht : Yb P t = some ti) (ha : ti.agg = true) : (loadVar t ⟨b,off,none⟩).run P w = .ok (.agg vs.toArray) w:=by
 have hc : ∀ (j : Nat) v,vs[j]? = some v → w.cell? ((⟨b,off,none⟩ : Addr).add j) = some v:=fun j v h=>by
  rw [YC _ _ rfl]
  refine hS.cell i hi ?_
  subst hv
  rw [List.getElem?_take] at h
  split at h
  ·rwa [List.getElem?_drop] at h
  ·cases h
 simp [loadVar,Zc9 ht,ha,XK ht,ZbT hn hc,Result.andThen]
theorem St.loadC {t : TypeId} {ti : TI} {p : Addr} {cs : List Value} (hS : St w0 X G0 G L w) (hc : Xw G p cs) (ht : Yb P t = some ti) (ha : ti.agg = true) (hn : cs.length = ti.size) : (loadVar t p).run P w = .ok (.agg cs.toArray) w:=by
 simp [loadVar,Zc9 ht,ha,XK ht,ZbT hn (fun _ _ h=>hc.cell hS.imm h),Result.andThen]
theorem St.sealAt {b : Nat} {e : TypeId} {cs : List Value} (h : St w0 X G0 G L w) (i : Nat) (hi : L[i]? = some (some (b,e,cs))) (hb : w0.heap.size ≤ b) : ∃ G',G.le G' ∧ Xw G' ⟨b,0,none⟩ cs ∧ St w0 X G0 G' (L.set i none) w:=by
 have f:=h.freeze i (b:=b) (e:=e) (cs:=cs) hi hb
 have hG : G b = none:=(h.sep i _ hi).2
 exact ⟨_,G.add_le _ hG,⟨rfl,_,_,_,GH.add_at _ _ _,fun j v hv=>by simpa using hv⟩,f⟩
theorem St.sealSlAt {α : Type} {E : Enc α} {by_ : Nat} {l : List α} {b : Nat} {e : TypeId} {cs : List Value} (h : St w0 X G0 G L w) (i : Nat) (hi : L[i]? = some (some (b,e,cs))) (hb : w0.heap.size ≤ b) (hf : X2 E G l cs) {n : Nat} (hn : n = l.length) (hby : n * by_ ≤ reach) (hlen : n ≤ reach) :
  ∃ G',G.le G' ∧ Sl E by_ G' (.slice (some ⟨b,0,none⟩) n n) l ∧ St w0 X G0 G' (L.set i none) w:=by
 obtain ⟨G',h1,h2,h3⟩:=h.sealAt i hi hb
 subst hn
 refine ⟨G',h1,⟨some ⟨b,0,none⟩,l.length,rfl,Nat.le_refl _,hby,hlen,fun i x hx=>⟨_,rfl,rfl,?_⟩⟩,h3⟩
 exact (hf.mono h1).rows h2 i x hx
theorem St.callRowR (h : St w0 X G0 G L w) (i : Nat) (hi : L[i]? = some o) {o' : OB} (r : Res (blk o) w G w' G') {α : Type} {E : Enc α} {by_ : Nat} {e : TypeId} {v v' : Value} {l l' : List α}
  (h1 : Ye E by_ e G v l o) (h2 : Ye E by_ e G' v' l' o') (hl : XJ w' G' o') (hb : blk o' = blk o) : St w0 X G0 G' (L.set i o') w':=by
 cases o with
 | none=>
  cases o' with
  | none=>exact (h.call r).drop i
  | some p=>simp [blk] at hb
 | some p=>
  cases o' with
  | none=>simp [blk] at hb
  | some q=>
   obtain ⟨b,e1,cs⟩:=p
   obtain ⟨b',e2,cs'⟩:=q
   simp [blk] at hb
   subst hb
   have e1e : e1 = e:=by rcases h1 with ⟨h0,_⟩ | ⟨_,_,_,_,h0,_⟩ <;> simp at h0; exact h0.2.1
   have e2e : e2 = e:=by rcases h2 with ⟨h0,_⟩ | ⟨_,_,_,_,h0,_⟩ <;> simp at h0; exact h0.2.1
   subst e1e; subst e2e
   exact h.callX i hi cs' r (hl _ rfl).1
end
section
variable {P : Program} {Q : Exit → Env → World → Prop} {ρ : Env} {w : World} {ops : Array Oper} {rest : List Oper} {K : Env → World → Prop}
variable {d : Nat} {ty : TypeId} {pos : String} {af : Array Edge} {g : Option (Nat × Bool)}
end
end Go.Civ
namespace Go.Civ
open Go.RowKit Go.Maps
set_option linter.unusedVariables false
structure Apart (w0 : World) (G : GH) (L : Own) (b : Nat) : Prop where
 new : w0.heap.size ≤ b
 gh : G b = none
 own : ∀ (i : Nat) p,L[i]? = some (some p) → p.1 ≠ b
section
variable {P : Program} {N : Nat} {Q : Exit → Env → World → Prop} {ρ : Env} {w w0 : World} {ops : Array Oper} {rest : List Oper} {K KK : Env → World → Prop} {d : Nat} {ty : TypeId} {pos : String} {af : Array Edge} {g : Option (Nat × Bool)}
variable {X : List Nat} {G0 G : GH} {L : Own} {b : Nat}
theorem Zeo {H : Type} {R : Value → Option (DataW H × List MemPlace)} {kt t e : TypeId} {n : Nat} {D : DataW H} (h : w.ownsMap P kt R b n D) (K : Keyed P kt) (ht : P.underlying t = some (.map kt e)) (hn : n < maxLen) {key val : Value} {kl : Lit} {dd : DataW H} {ps : List MemPlace}
  (hkey : keyOf P kt key = some kl) (hv : R val = some (dd,ps)) : ∃ w',(Instr.mapUpdate t (.map (some b)) key val).run P w = .ok () w' ∧ w'.ownsMap P kt R b (n + 1) (D.put kl dd) ∧ w.grownBy w' (some b) ∧ w.drawn ≤ w'.drawn:=by
 obtain ⟨w',h1,h2,h3⟩:=World.ownsMap.update h K ht hn hkey hv
 obtain ⟨es,clock,hb,F,hs,rfl⟩:=h
 obtain ⟨es',clock',hrun,_⟩:=Maps.fit_store (R':=R) K ht hb F (Nat.lt_of_le_of_lt hs hn) (fun _ _ _ _ hz=>hz) hkey hv
 refine ⟨w',h1,h2,h3,?_⟩
 rw [hrun] at h1
 injection h1 with _ e
 subst e
 exact Nat.le_refl _
theorem St.grown (h : St w0 X G0 G L w) (ha : Apart w0 G L b) {w' : World} (hg : w.grownBy w' (some b)) (hd : w.drawn ≤ w'.drawn) : St w0 X G0 G L w':=by
 have blk : ∀ k,k < w.heap.size → k ≠ b → w'.heap[k]? = w.heap[k]? :=fun k hk hne=>hg.block k hk (fun e=>hne (Option.some.inj e))
 refine ⟨⟨hg.os.trans h.kept.os,hg.tape.trans h.kept.tape,hg.output.trans h.kept.output,Nat.le_trans h.kept.drawn hd,Nat.le_trans h.kept.size hg.size,fun k hk hX=>?_⟩,h.le,h.new,fun k o hk=>?_,fun i p hp=>?_,h.sep,h.nd⟩
 ·rw [blk k (Nat.lt_of_lt_of_le hk h.kept.size) (by have:=ha.new; omega)]; exact h.kept.block k hk hX
 ·have hne : k ≠ b:=fun e=>by subst e; rw [ha.gh] at hk; cases hk
  rw [blk k (h.imm.lt hk) hne]; exact h.imm k o hk
 ·rw [blk p.1 (h.ownLt hp) (ha.own i p hp)]; exact h.own i p hp
abbrev Zns (P : Program) (K E : TypeId) (w : World) (b n : Nat) (D : DataW Unit) : Prop:=w.ownsMap P K (plainElem P E) b n D
theorem Zbi {t : TypeId} (K E : TypeId) (hS : St w0 X G0 G L w) (hw : Region.wanted ⟨some d, .makeMap t none,ty,pos,af,g⟩ (Zr ops ρ) = true)
  (k : ∀ b w',Zns P K E w' b 0 (.map []) → Apart w0 G L b → St w0 X G0 G L w' → KK (Z5 ρ d (.map (some b))) w') : OW P ops ⟨some d, .makeMap t none,ty,pos,af,g⟩ ρ w KK:=by
 refine WL.val (v:= .map (some w.heap.size)) (w':=w.alloc (.map #[] 0)) hw ?_ rfl (k _ _ (World.ownsMap_made w P K _) ⟨h1,hS.imm.fresh (Nat.le_refl _),fun i p hp e=>?_⟩ ?_)
 ·simp [execOp,run_makeMap,Result.andThen]
 ·have:=hS.ownLt hp; omega
 ·exact hS.call (Res.alloc hS.imm _)
where h1:=hS.kept.size
theorem XC {t K E : TypeId} {m x y : Operand} {n : Nat} {D : DataW Unit} (ki vi : Int) (hS : St w0 X G0 G L w) (ho : Zns P K E w b n D) (ha : Apart w0 G L b) (ht : P.underlying t = some (.map K E)) (uK : P.underlying K = some (.int .i64)) (uE : P.underlying E = some (.int .i64))
  (hk : Zw ki) (hv : Zw vi) (hn : n < 1000) (hw : Region.wanted ⟨none, .insert t m x y,ty,pos,af,g⟩ (Zr ops ρ) = true) (hm : ev ρ m = .map (some b)) (hx : ev ρ x = .int .i64 ki) (hy : ev ρ y = .int .i64 vi)
  (k : ∀ w',Zns P K E w' b (n + 1) (D.put (.int .i64 ki) (.lit (.int .i64 vi))) → St w0 X G0 G L w' → KK ρ w') : OW P ops ⟨none, .insert t m x y,ty,pos,af,g⟩ ρ w KK:=by
 have wf : ∀ {z : Int},Zw z → (Lit.int .i64 z).wf = true:=fun {z} h=>by
  simp [Lit.wf,IntKind.min,IntKind.max,IntKind.signed,IntKind.bits]; exact ⟨h.1,by have:=h.2; omega⟩
 have hkey : keyOf P K (.int .i64 ki) = some (.int .i64 ki):=by unfold keyOf; rw [uK]; simp [mapKey,uK,wf hk]
 obtain ⟨w',hrun,ho',hg,hdr⟩:=Zeo ho (int_keyed uK) ht (by simp [maxLen]; omega) hkey (plainElem_int uE (wf hv))
 have:=k w' ho' (hS.grown ha hg hdr)
 exact ZjQ (w':=w') hw (by simp [execOp,hm,hx,hy,hrun,Result.andThen]) rfl this
theorem ZcF {t K E : TypeId} {m x : Operand} {n : Nat} {D : DataW Unit} (ki : Int) (ho : Zns P K E w b n D) (ht : P.underlying t = some (.map K E)) (uK : P.underlying K = some (.int .i64)) (uE : P.underlying E = some (.int .i64))
  (hk : Zw ki) (hz : (zeroValue E).run P w = .ok (.int .i64 0) w) (hw : Region.wanted ⟨some d, .lookup t m x false,ty,pos,af,g⟩ (Zr ops ρ) = true) (hm : ev ρ m = .map (some b)) (hx : ev ρ x = .int .i64 ki)
  (k : ∀ c,D.atKey (.int .i64 ki) (.lit (.int .i64 0)) = .lit (.int .i64 c) → KK (Z5 ρ d (.int .i64 c)) w) : OW P ops ⟨some d, .lookup t m x false,ty,pos,af,g⟩ ρ w KK:=by
 have wf : (Lit.int .i64 ki).wf = true:=by
  simp [Lit.wf,IntKind.min,IntKind.max,IntKind.signed,IntKind.bits]; exact ⟨hk.1,by have:=hk.2; omega⟩
 have hkey : keyOf P K (.int .i64 ki) = some (.int .i64 ki):=by unfold keyOf; rw [uK]; simp [mapKey,uK,wf]
 obtain ⟨c,hrun,hat,_⟩:=World.ownsMap.lookup_int ho (int_keyed uK) ht uE hz hkey
 refine WL.val hw ?_ rfl (k c hat)
 simp [execOp,hm,hx,hrun,Result.andThen]
end
theorem Zd8 {c : Cond} (hk : c.kind = 1 ∨ c.kind = 2) (h : (SCmp.b .eql c.oth [] != Zz c.v) = true) : ZL c = false:=by
 have h1 : Yg c = true:=by unfold Yg; rcases hk with h | h <;> rw [h] <;> rfl
 unfold ZL
 rw [h1]
 simp only [SCmp.b] at h
 by_cases g : c.oth = []
 ·rw [decide_eq_true g] at h ⊢
  cases hv : Zz c.v with
  | true=>rw [hv] at h; cases h
  | false=>simp
 ·rw [decide_eq_false g] at h ⊢
  have hv : Zz c.v = true:=by cases hv : Zz c.v with | true=>rfl | false=>rw [hv] at h; cases h
  have hz : c.v ≠ zeroV:=fun e=>by rw [e] at hv; exact absurd hv (by decide)
  rw [decide_eq_false hz]; simp
theorem Zmd {c : Cond} (hk : c.kind = 1 ∨ c.kind = 2) (hc : c.col ≠ []) (ho : c.oth = []) (hb : (SCmp.b .eql c.oth [] != Zz c.v) = false) : ZL c = decide ((c.l.length : Int) = 0):=by
 have h1 : Yg c = true:=by unfold Yg; rcases hk with h | h <;> rw [h] <;> rfl
 simp only [SCmp.b] at hb
 rw [decide_eq_true ho] at hb
 have hv : Zz c.v = true:=by cases hv : Zz c.v with | true=>rfl | false=>rw [hv] at hb; cases hb
 unfold ZL; rw [h1,decide_eq_false hc,decide_eq_true ho,hv]
 rw [Bool.eq_iff_iff]; simp
theorem Zme {c : Cond} (hk : c.kind = 1 ∨ c.kind = 2) (hc : c.col ≠ []) (ho : c.oth ≠ []) (hv : c.v = zeroV) : ZL c = decide ((c.l.length : Int) = 0):=by
 have h1 : Yg c = true:=by unfold Yg; rcases hk with h | h <;> rw [h] <;> rfl
 unfold ZL; rw [h1,decide_eq_false hc,decide_eq_false ho,decide_eq_true hv]
 rw [Bool.eq_iff_iff]; simp
theorem Zge {c : Cond} {op : Int} (hk : c.kind = 3 ∨ c.kind = 4 ∨ c.kind = 5 ∨ c.kind = 6) (h1 : c.col = []) (h2 : c.oth = []) (h3 : c.v = zeroV) (h : op = (Yy c.kind : Int)) : ZL c = decide ((c.l.length : Int) = op):=by
 have g1 : Yg c = false:=by unfold Yg; rw [decide_eq_false (by omega),decide_eq_false (by omega)]; rfl
 have g2 : Xo c = true:=by unfold Xo; rcases hk with h | h | h | h <;> rw [h] <;> rfl
 unfold ZL; rw [g1,g2,decide_eq_true h1,decide_eq_true h2,decide_eq_true h3,h]
 rw [Bool.eq_iff_iff]; simp; omega
def Zd9 : DataW Unit:=(((DataW.map []).put (.int .i64 4) (.lit (.int .i64 1))).put (.int .i64 5) (.lit (.int .i64 2))).put (.int .i64 6) (.lit (.int .i64 2))
theorem ZuH {k c : Int} (h : k = 3) (hat : Zd9.atKey (.int .i64 k) (.lit (.int .i64 0)) = .lit (.int .i64 c)) : c = (Yy k : Int):=by
 subst h
 have e : Zd9.atKey (.int .i64 3) (.lit (.int .i64 0)) = .lit (.int .i64 0):=by rfl
 rw [e] at hat; injection hat with h1; injection h1 with _ h2; rw [← h2]; rfl
theorem ZuI {k c : Int} (h : k = 4) (hat : Zd9.atKey (.int .i64 k) (.lit (.int .i64 0)) = .lit (.int .i64 c)) : c = (Yy k : Int):=by
 subst h
 have e : Zd9.atKey (.int .i64 4) (.lit (.int .i64 0)) = .lit (.int .i64 1):=by rfl
 rw [e] at hat; injection hat with h1; injection h1 with _ h2; rw [← h2]; rfl
theorem ZuJ {k c : Int} (h : k = 5) (hat : Zd9.atKey (.int .i64 k) (.lit (.int .i64 0)) = .lit (.int .i64 c)) : c = (Yy k : Int):=by
 subst h
 have e : Zd9.atKey (.int .i64 5) (.lit (.int .i64 0)) = .lit (.int .i64 2):=by rfl
 rw [e] at hat; injection hat with h1; injection h1 with _ h2; rw [← h2]; rfl
theorem ZuK {k c : Int} (h : k = 6) (hat : Zd9.atKey (.int .i64 k) (.lit (.int .i64 0)) = .lit (.int .i64 c)) : c = (Yy k : Int):=by
 subst h
 have e : Zd9.atKey (.int .i64 6) (.lit (.int .i64 0)) = .lit (.int .i64 2):=by rfl
 rw [e] at hat; injection hat with h1; injection h1 with _ h2; rw [← h2]; rfl
end Go.Civ
set_option linter.unusedVariables false
namespace Go.Civ
open Go.Proofs Go.Shelf Go.RowKit Go.Lib Go.Sort
abbrev BSpan:={ s : Span // -4398046511104 ≤ s.a ∧ s.a ≤ 4398046511104 }
instance : Inhabited BSpan:=⟨⟨⟨0,0⟩,by decide⟩⟩
def ZbI (x : BSpan) : List Value:=[.int .i64 x.1.a, .int .i64 x.1.b]
def cfB (x y : BSpan) : Int:=x.1.a - y.1.a
set_option maxHeartbeats 1000000 in
theorem Zn2 (x y : BSpan) (W : World) : Calls Tryz.prog 190 #[.agg #[.int .i64 x.1.a, .int .i64 x.1.b], .agg #[.int .i64 y.1.a, .int .i64 y.1.b]] W fun e w'=>e = .returned (.int .i64 (cfB x y)) ∧ ∃ q os',w' = grow (W.drewN q) os':=by
 obtain ⟨⟨xa,xb⟩,hx⟩:=x
 obtain ⟨⟨ya,yb⟩,hy⟩:=y
 simp only [cfB]
 have hw : IntKind.wrap .i64 (xa - ya) = xa - ya:=Zea ⟨by simp at hx hy; omega,by simp at hx hy; omega⟩
 go_enter Tryz.func190,Tryz.ntmps190
 go_wp2
 go_ret
 exact ⟨rfl,0,_,by rw [alloc_eq_grow,alloc_eq_grow,grow_grow]; rfl⟩
theorem ZwK : SWO (ltOf cfB) where
 irrefl x:=decide_eq_false (show ¬ x.1.a - x.1.a < 0 by omega)
 trans x y z h1 h2:=by
  have h1' : x.1.a - y.1.a < 0:=of_decide_eq_true h1
  have h2' : y.1.a - z.1.a < 0:=of_decide_eq_true h2
  exact decide_eq_true (show x.1.a - z.1.a < 0 by omega)
 ntrans x y z h1 h2:=by
  have h1' : ¬ x.1.a - y.1.a < 0:=of_decide_eq_false h1
  have h2' : ¬ y.1.a - z.1.a < 0:=of_decide_eq_false h2
  exact decide_eq_false (show ¬ x.1.a - z.1.a < 0 by omega)
theorem ZkW {α : Type} (enc : α → List Value) (h2 : ∀ x,(enc x).length = 2) : ∀ (l : List α) (t : Nat),(l.flatMap enc)[t]? = (l[t / 2]?).bind fun x=>(enc x)[t % 2]?
 | [],t=>by simp
 | x :: l,t=>by
  rw [List.flatMap_cons,List.getElem?_append]
  by_cases ht : t < 2
  ·rw [if_pos (by rw [h2]; exact ht),show t / 2 = 0 by omega,Nat.mod_eq_of_lt ht]; rfl
  ·rw [if_neg (by rw [h2]; exact ht),h2,ZkW enc h2 l (t - 2),show (t - 2) / 2 = t / 2 - 1 by omega,show (t - 2) % 2 = t % 2 by omega]
   obtain ⟨m,hm⟩ : ∃ m,t / 2 = m + 1:=⟨t / 2 - 1,by omega⟩
   rw [hm]; simp
theorem ZkX {α : Type} [Inhabited α] (enc : α → List Value) (h2 : ∀ x,(enc x).length = 2) (d : Array α) (t : Nat) (ht : t < d.size * 2) : (d.toList.flatMap enc)[t]? = some ((flatK enc 2 d)[t]!):=by
 rw [ZkW enc h2,get_flatK enc 2 d t ht]
 have hd : t / 2 < d.size:=by omega
 have e : d.toList[t / 2]? = some d[t / 2]! :=by
  rw [getElem!_pos d (t / 2) hd,Array.getElem?_toList,Array.getElem?_eq_getElem hd]
 rw [e]
 simp only [Option.bind_some]
 have hl : t % 2 < (enc d[t / 2]!).length:=by rw [h2]; omega
 rw [List.getElem?_eq_getElem hl,getElem!_pos (enc d[t / 2]!) (t % 2) hl]
theorem ZgF {G : GH} : ∀ (l : List BSpan),(∀ x ∈ l,Zw x.1.b) → X2 SpanE G (l.map (·.1)) (l.flatMap ZbI)
 | [],_=>rfl
 | x :: l,h=>⟨ZbI x,l.flatMap ZbI,rfl,Zs x.1 ⟨by have:=x.2; omega,by have:=x.2; omega⟩ (h x (by simp)),ZgF l fun y hy=>h y (by simp [hy])⟩
theorem ZhA {G : GH} : ∀ (l : List BSpan) (xs : List Value),X2 SpanE G (l.map (·.1)) xs → xs = l.flatMap ZbI ∧ ∀ x ∈ l,Zw x.1.b
 | [],xs,h=>⟨h,by simp⟩
 | x :: l,xs,⟨c,r,h1,h2,h3⟩=>by
  obtain ⟨rfl,_,hb⟩:=ZE h2
  obtain ⟨rfl,h4⟩:=ZhA l r h3
  refine ⟨h1,fun y hy=>?_⟩
  rcases List.mem_cons.1 hy with rfl | hy
  ·exact hb
  ·exact h4 y hy
theorem Zgy : ∀ (l : List Span),(∀ s ∈ l, -4398046511104 ≤ s.a ∧ s.a ≤ 4398046511104) → ∃ d : List BSpan,d.map (·.1) = l
 | [],_=>⟨[],rfl⟩
 | s :: l,h=>by
  obtain ⟨d,hd⟩:=Zgy l fun x hx=>h x (by simp [hx])
  exact ⟨⟨s,h s (by simp)⟩ :: d,by simp [hd]⟩
set_option maxHeartbeats 1000000 in
theorem Ztl {G : GH} {w : World} (hG : G.In w) (l : List Span) (vd : Value) (od : OB) (hvd : Ye SpanE 16 (nat_lit 33) G vd l od) (hod : XJ w G od) (hB : ∀ s ∈ l, -4398046511104 ≤ s.a ∧ s.a ≤ 4398046511104) :
  Calls Tryz.prog (nat_lit 189) #[vd, .func (.func 190) #[] #[]] w fun e w'=>∃ r G',e = .returned r ∧ Res (blk od) w G w' G' ∧ r = .tuple #[] ∧ ∃ (l' : List Span) (o' : OB),Ye SpanE 16 (nat_lit 33) G' vd l' o' ∧ XJ w' G' o' ∧ (l'.Perm l ∧ Zqa l'):=by
 rcases hvd with ⟨rfl,rfl,rfl⟩ | ⟨b,cs,cap,xs,rfl,rfl,h3,h4,h5,h6,h7,h8,h9⟩
 ·exact (AnyF.slices_SortFunc_none (P:=Tryz.prog) (ρ:=Tryz.sortSp_ren) { Tryz.sortSp with } none 0 (.func (.func 190) #[] #[]) w).mono fun e w' ⟨he,hw⟩=>by
   subst hw
   exact ⟨_,G,he,Res.refl hG,rfl,[],none, .inl ⟨rfl,rfl,rfl⟩,fun p hp=>(by cases hp),List.Perm.refl _,List.Pairwise.nil⟩
 ·obtain ⟨hb1,hb2⟩:=hod _ rfl
  obtain ⟨dl,rfl⟩:=Zgy l hB
  obtain ⟨rfl,hI⟩:=ZhA dl xs h6
  have hsz : dl.toArray.size = (dl.map (·.1)).length:=by simp
  have hcell : ∀ t,t < dl.toArray.size * 2 → cs[t]? = some ((flatK ZbI 2 dl.toArray)[t]!):=fun t ht=>by
   rw [← ZkX ZbI (fun _=>rfl) dl.toArray t ht]
   rw [← h7,List.getElem?_take,if_pos (by rw [← hsz]; exact ht)]
  have hH : HoldsK ZbI 2 w b 0 dl.toArray:=fun t ht=>by
   rw [size_flatK] at ht
   refine ⟨?_,?_⟩
   ·rw [Nat.zero_add]
    simp only [World.cell?,hb1,ZaK]
    have:=hcell t ht
    simpa using this
   ·simp [World.frozen?,hb1,ZaK]
  have hcon:=AnyQ.slices_SortFunc Tryz.sortSp 2 Tryz.isAgg33 Tryz.sizeOf33 ZbI (fun _=>rfl) (fun x v hv=>by simp [ZbI] at hv; rcases hv with rfl | rfl <;> rfl) cfB ZwK 190 #[] b 0 cap dl.toArray w
   (enters_of Tryz.func190 (by kernel_rfl) rfl) (fun _ _ _ _ x y=>Zn2 x y _) hH (Array.getElem?_eq_some_iff.1 hb1).1 (by rw [hsz]; unfold reach at h9; omega)
  rw [hsz] at hcon
  refine hcon.mono fun e w' ⟨he,d',n,os,hp,hs,hw⟩=>?_
  obtain ⟨hp1,hp2,hp3⟩:=hp
  have hd' : d'.size = dl.length:=by simpa using hp1
  have hperm : d'.toList.Perm dl:=by
   have e1 : d'.extract 0 dl.toArray.size = d':=by rw [← hp1]; simp
   have e2 : dl.toArray.extract 0 dl.toArray.size = dl.toArray:=by simp
   rw [hsz.symm,e1,e2] at hp3; simpa using hp3
  have hbl : b < w.heap.size:=(Array.getElem?_eq_some_iff.1 hb1).1
  subst hw
  obtain ⟨cs',hcs'⟩ : ∃ cs' : List Value,cs' = (putCells id 0 (flatK ZbI 2 d') cs.toArray).toList:=⟨_,rfl⟩
  have hget : ∀ k,(sortWorldK ZbI 2 w b 0 n d' os).heap[k]? = if k < w.heap.size then (if b = k then some (.cells cs'.toArray (nat_lit 33) (0,0)) else w.heap[k]?) else os[k - w.heap.size]? :=fun k=>by
   have hah : (Go.Sort.ahead w n).heap = w.heap:=rfl
   simp only [sortWorldK,putRowK,putRow,mapBlock,grow,hah]
   rw [Array.getElem?_append]
   simp only [Array.size_modify]
   by_cases hk : k < w.heap.size
   ·rw [if_pos hk,if_pos hk,Array.getElem?_modify]
    by_cases hkb : b = k
    ·subst hkb
     rw [if_pos rfl,if_pos rfl,hb1]
     simp [ZaK,onCells,hcs']
    ·rw [if_neg hkb,if_neg hkb]
   ·rw [if_neg hk,if_neg hk]
  have hres : Res [b] w G (sortWorldK ZbI 2 w b 0 n d' os) G:=by
   refine ⟨⟨rfl,rfl,rfl,Nat.le_add_right _ _,?_,fun k hk hkb=>?_⟩,G.le_refl,fun _ _=>rfl,fun k o hk=>?_⟩
   ·have hah : (Go.Sort.ahead w n).heap = w.heap:=rfl
    simp [sortWorldK,putRowK,putRow,mapBlock,grow]
    try simp [hah]
   ·rw [hget,if_pos hk,if_neg (by simpa [eq_comm] using hkb)]
   ·have hk1:=hG.lt hk
    have hkb : b ≠ k:=fun e=>by subst e; simp only at hb2; rw [hb2] at hk; cases hk
    rw [hget,if_pos hk1,if_neg hkb]; exact hG k o hk
  have hI' : ∀ x ∈ d'.toList,Zw x.1.b:=fun x hx=>hI x (hperm.mem_iff.1 hx)
  have hlen : (d'.toList.map (·.1)).length = (dl.map (·.1)).length:=by simp [hd']
  have hln : (dl.map (·.1)).length = dl.length:=by simp
  refine ⟨_,G,he,hres,rfl,d'.toList.map (·.1),some (b,nat_lit 33,cs'), .inr ⟨b,cs',cap,d'.toList.flatMap ZbI,rfl,by rw [hlen],by rw [hlen]; exact h3,h4,?_,ZgF _ hI',?_,by rw [hlen]; exact h8,by rw [hlen]; exact h9⟩,fun p hp=>?_,?_,?_⟩
  ·subst hcs'; simpa [putCells] using h5
  ·
   have h5' : cs.length = cap * 2:=h5
   apply List.ext_getElem?
   intro t
   rw [List.getElem?_take]
   have hn2 : (d'.toList.map (·.1)).length * SpanE.n = d'.size * 2:=by simp; rfl
   rw [hn2]
   by_cases ht : t < d'.size * 2
   ·have htc : t < cs.length:=by rw [h5']; rw [hln] at h3; omega
    rw [if_pos ht,ZkX ZbI (fun _=>rfl) d' t ht,hcs']
    simp only [putCells,Array.getElem?_toList,Array.getElem?_mapIdx,size_flatK]
    simp only [List.getElem?_toArray]
    rw [List.getElem?_eq_getElem htc]
    simp [ht]
   ·rw [if_neg ht,List.getElem?_eq_none]
    have:=X2.len (ZgF (G:=G) d'.toList hI')
    omega
  ·obtain rfl:=Option.some.inj hp
   exact ⟨by rw [hget,if_pos hbl,if_pos rfl]; rfl,hb2⟩
  ·exact hperm.map _
  ·unfold Zqa
   rw [List.pairwise_map,List.pairwise_iff_getElem]
   intro i j hi hj hij
   have h:=hs i j (by omega) hij (by rw [← hsz,← hp1]; simpa using hj)
   have hi' : i < d'.size:=by simpa using hi
   have hj' : j < d'.size:=by simpa using hj
   rw [getElem!_pos d' i hi',getElem!_pos d' j hj'] at h
   have:=of_decide_eq_false h
   simp only [cfB] at this
   simp only [Array.getElem_toList]
   omega
end Go.Civ
