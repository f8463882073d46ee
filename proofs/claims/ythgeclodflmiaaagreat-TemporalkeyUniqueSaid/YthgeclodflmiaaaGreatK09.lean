/- Lemmas. -/
import Derived.Test.YthgeclodflmiaaaGreatK07
import Derived.Test.YthgeclodflmiaaaGreatProg
import Derived.WalkKit
import Derived.Below
import Derived.Shelf.GgClosure.StringsRunes
set_option linter.unusedVariables false
namespace Go.Civ
open Go.Proofs Go.Shelf Go.RowKit Go.Lib
theorem below_drewNg (w : World) : ∀ n,Below w.heap.size w (w.drewN n)
  | 0=>Below.refl _ _
  | n + 1=>(below_drewNg w n).drew
def pR (r : Nat) : Bool:=decide (r < 32) || decide (126 < r)
set_option maxHeartbeats 1000000 in
theorem rune_of (r : Nat) (W : World) : Calls Tryz.prog 177 #[.int .i32 (r : Int)] W fun e w'=>e = .returned (.bool (pR r)) ∧ ∃ q,w' = W.drewN q:=by
  by_cases h1 : r < 32 <;> by_cases h2 : 126 < r
  all_goals
    have z1 : (r : Int) < 32 ↔ r < 32:=by omega
    have z2 : (126 : Int) < (r : Int) ↔ 126 < r:=by omega
    go_enter Tryz.func177,Tryz.ntmps177
    go_wp2
    all_goals first | (exfalso; omega) | (go_ret; exact ⟨by simp [pR,h1,h2],0,rfl⟩)
set_option maxHeartbeats 2000000 in
set_option maxRecDepth 1000000 in
theorem strIndexFunc (s : ByteArray) (w : World) :
    Calls Tryz.prog 246 #[.string s, .func (.func 177) #[] #[], .bool true] w fun e w'=>e = .returned (.int .i64 (Lib.idxFunc pR true s)) ∧ Below w.heap.size w w' ∧ w.drawn ≤ w'.drawn:=by
  have e177 : ∀ args w,(callFunc 177 args).run Tryz.prog w = .ok (.enter 177 args) w:=enters_of Tryz.func177 (by kernel_rfl) rfl
  go_enter Tryz.func246,Tryz.ntmps246
  go_wp2
  go_loopg [] s.size (fun gf wx=>∃ pos : Nat,wx.heap[w.heap.size]? = some (.stringIter s pos) ∧ Below w.heap.size w wx ∧ Lib.idxFuncFrom pR true s gf pos = Lib.idxFunc pR true s ∧ s.size ≤ pos + gf ∧ w.drawn ≤ wx.drawn)
  case atStart=>exact ⟨0,World.iter_heap w s 0,(Below.refl _ w).alloc (Nat.le_refl _) _,rfl,by omega,Nat.le_refl _⟩
  case round=>
    obtain ⟨pos,hit,hbw,hleft,hfu,hdr⟩:=hrel
    by_cases hps : pos < s.size
    · obtain ⟨g',rfl⟩ : ∃ g',gk = g' + 1:=⟨gk - 1,by omega⟩
      have hnx : ∀ ty,(Instr.next (.pointer (some ⟨w.heap.size,0,none⟩)) true ty).run Tryz.prog wr = _:=fun ty=>Lib.run_next_any_at wr w.heap.size s pos ty hit hps
      have hwd:=Lib.width_pos s pos
      obtain ⟨R,hR⟩ : ∃ R,(Utf8.decode s pos).1 = R:=⟨_,rfl⟩
      obtain ⟨K,hK⟩ : ∃ K,(Utf8.decode s pos).2 = K:=⟨_,rfl⟩
      simp only [Lib.idxFuncFrom,hps,if_true,hR,hK] at hleft
      rw [hR,hK] at hnx
      rw [hK] at hwd
      have hit2:=Lib.iterAt_heap wr w.heap.size s pos (pos + K) hit
      have hbw2:=Lib.below_iterAt hbw (k:=w.heap.size) (Nat.le_refl _) s (pos + K)
      have hdW : w.drawn ≤ (wr.iterAt w.heap.size s (pos + K)).drawn:=hdr
      obtain ⟨W,hWd⟩ : ∃ W,wr.iterAt w.heap.size s (pos + K) = W:=⟨_,rfl⟩
      rw [hWd] at hnx hit2 hbw2 hdW
      have hltW : w.heap.size < W.heap.size:=(Array.getElem?_eq_some_iff.1 hit2).1
      have cS : Calls Tryz.prog 177 (#[.int .i32 (R : Int)] ++ #[]) W _:=rune_of R W
      cases hsp : pR R <;> rw [hsp] at cS <;> simp only [hsp,if_true,Bool.false_eq_true,if_false] at hleft
      · go_wp2_with (go_at_fn 177; refine cS.mono ?_; rintro e W' ⟨rfl,q,rfl⟩)
        have hbc:=below_drewNg W q
        go_roundg g'
        case measure=>omega
        case rel=>exact ⟨pos + K,(hbc.block _ hltW).trans hit2,(hbw2.trans (hbc.mono hbw2.size)),hleft,by omega,Nat.le_trans hdW (Nat.le_add_right _ _)⟩
      · go_wp2_with (go_at_fn 177; refine cS.mono ?_; rintro e W' ⟨rfl,q,rfl⟩)
        have hbc:=below_drewNg W q
        go_ret
        exact ⟨by rw [← hleft] <;> rfl,(hbw2.trans (hbc.mono hbw2.size)),Nat.le_trans hdW (Nat.le_add_right _ _)⟩
    · have hnx : ∀ ty,(Instr.next (.pointer (some ⟨w.heap.size,0,none⟩)) true ty).run Tryz.prog wr = _:=fun ty=>Lib.run_next_end_at wr w.heap.size s pos ty hit hps
      rw [Lib.idxFuncFrom_end pR true s gk pos hps] at hleft
      go_wp2
      go_ret
      exact ⟨by rw [← hleft] <;> rfl,hbw,hdr⟩
theorem dec_big (n b0 b1 b2 b3 : Nat) (h : 128 ≤ b0) : 128 ≤ (Lib.decodeN n b0 b1 b2 b3).1:=by
  unfold Lib.decodeN
  repeat' split
  all_goals simp_all
  all_goals omega
theorem get_at (s : List UInt8) (i : Nat) (c : UInt8) (h : s[i]? = some c) : (⟨s.toArray⟩ : ByteArray).get! i = c:=by
  obtain ⟨hl,he⟩:=List.getElem?_eq_some_iff.1 h
  show (s.toArray)[i]! = c
  simp [hl,he]
theorem idx_all (s : List UInt8) : ∀ (f pos : Nat),s.length ≤ pos + f → (0 ≤ Lib.idxFuncFrom pR true ⟨s.toArray⟩ f pos ↔ ¬ ∀ c ∈ s.drop pos,okC c = true)
  | 0,pos,h=>by
    have : s.drop pos = []:=List.drop_eq_nil_of_le (by omega)
    simp [Lib.idxFuncFrom,this]
  | f + 1,pos,h=>by
    have hsz : (⟨s.toArray⟩ : ByteArray).size = s.length:=by simp [ByteArray.size]
    unfold Lib.idxFuncFrom
    by_cases hp : pos < s.length
    · obtain ⟨c,hc⟩ : ∃ c,s[pos]? = some c:=⟨_,List.getElem?_eq_getElem hp⟩
      have hd : s.drop pos = c :: s.drop (pos + 1):=by
        rw [List.drop_eq_getElem_cons hp]; rw [List.getElem?_eq_getElem hp] at hc; rw [Option.some.inj hc]
      rw [if_pos (by rw [hsz]; exact hp),hd,Lib.decode_at,get_at s pos c hc]
      by_cases hb : c.toNat < 128
      · rw [show Lib.decodeN ((⟨s.toArray⟩ : ByteArray).size - pos) c.toNat ((⟨s.toArray⟩ : ByteArray).get! (pos + 1)).toNat ((⟨s.toArray⟩ : ByteArray).get! (pos + 2)).toNat ((⟨s.toArray⟩ : ByteArray).get! (pos + 3)).toNat = (c.toNat,1) from by simp [Lib.decodeN,hb]]
        have ih:=idx_all s f (pos + 1) (by omega)
        by_cases ho : okC c = true
        · have : pR c.toNat = false:=by simp [okC,pR] at *; omega
          simp only [this]
          rw [if_neg (by simp),ih]; simp [ho]
        · have : pR c.toNat = true:=by simp [okC,pR] at *; omega
          simp only [this,if_true]
          simp [ho]
      · have h2:=dec_big ((⟨s.toArray⟩ : ByteArray).size - pos) c.toNat ((⟨s.toArray⟩ : ByteArray).get! (pos + 1)).toNat ((⟨s.toArray⟩ : ByteArray).get! (pos + 2)).toNat ((⟨s.toArray⟩ : ByteArray).get! (pos + 3)).toNat (by omega)
        have h3 : pR (Lib.decodeN ((⟨s.toArray⟩ : ByteArray).size - pos) c.toNat ((⟨s.toArray⟩ : ByteArray).get! (pos + 1)).toNat ((⟨s.toArray⟩ : ByteArray).get! (pos + 2)).toNat ((⟨s.toArray⟩ : ByteArray).get! (pos + 3)).toNat).1 = true:=by simp [pR]; omega
        have ho : okC c = false:=by simp [okC]; omega
        rw [if_pos h3]; simp [ho]
    · have : s.drop pos = []:=List.drop_eq_nil_of_le (by omega)
      rw [if_neg (by rw [hsz]; exact hp)]
      simp [this]
theorem idx_ok (s : List UInt8) : decide (0 ≤ Lib.idxFunc pR true ⟨s.toArray⟩) = !s.all okC:=by
  have h:=idx_all s s.length 0 (by omega)
  unfold Lib.idxFunc
  have hsz : (⟨s.toArray⟩ : ByteArray).size = s.length:=by simp [ByteArray.size]
  rw [hsz,Bool.eq_iff_iff]
  simp only [decide_eq_true_eq,h,List.drop_zero,Bool.not_eq_true',← Bool.not_eq_true,List.all_eq_true]
set_option maxHeartbeats 2000000 in
theorem strIndexFuncTop (s : ByteArray) (w : World) :
    Calls Tryz.prog 212 #[.string s, .func (.func 177) #[] #[]] w fun e w'=>e = .returned (.int .i64 (Lib.idxFunc pR true s)) ∧ Below w.heap.size w w' ∧ w.drawn ≤ w'.drawn:=by
  have cI:=strIndexFunc s w
  have e246 : ∀ args w,(callFunc 246 args).run Tryz.prog w = .ok (.enter 246 args) w:=enters_of Tryz.func246 (by kernel_rfl) rfl
  go_enter Tryz.func212,Tryz.ntmps212
  go_wp2_with (go_at_fn 246; refine cI.mono ?_; rintro e w' ⟨rfl,hb⟩)
  go_ret
  exact ⟨rfl,hb⟩
set_option maxHeartbeats 2000000 in
theorem strContainsFunc (s : ByteArray) (w : World) :
    Calls Tryz.prog 176 #[.string s, .func (.func 177) #[] #[]] w fun e w'=>e = .returned (.bool (decide (0 ≤ Lib.idxFunc pR true s))) ∧ Below w.heap.size w w' ∧ w.drawn ≤ w'.drawn:=by
  have cI:=strIndexFuncTop s w
  have e212 : ∀ args w,(callFunc 212 args).run Tryz.prog w = .ok (.enter 212 args) w:=enters_of Tryz.func212 (by kernel_rfl) rfl
  obtain ⟨I,hI⟩ : ∃ I,Lib.idxFunc pR true s = I:=⟨_,rfl⟩
  rw [hI] at cI ⊢
  go_enter Tryz.func176,Tryz.ntmps176
  go_wp2_with (go_at_fn 212; refine cI.mono ?_; rintro e w' ⟨rfl,hb⟩)
  go_ret
  exact ⟨rfl,hb⟩
theorem res_of_below {w w' : World} {G : GH} (hG : G.In w) (h : Below w.heap.size w w') (hd : w.drawn ≤ w'.drawn) : Res [] w G w' G:=
  ⟨⟨h.os,h.tape,h.output,hd,h.size,fun k hk _=>h.block k hk⟩,G.le_refl,fun _ _=>rfl,fun b o hb=>(h.block b (hG.lt hb)).trans (hG b o hb)⟩
theorem c_ContainsS {G : GH} {w : World} (hG : G.In w) (s : List UInt8) : Calls Tryz.prog (nat_lit 176) #[strV s, .func (.func 177) #[] #[]] w fun e w'=>∃ r G',e = .returned r ∧ Res [] w G w' G' ∧ r = .bool (!s.all okC):=
  (strContainsFunc ⟨s.toArray⟩ w).mono fun e w' ⟨he,hb,hd⟩=>⟨_,G,he,res_of_below hG hb hd,by rw [idx_ok]⟩
end Go.Civ
namespace Go.Civ
open Go.RowKit
set_option linter.unusedVariables false
def resR (P : Program) : List ResultVar → Env → World → List Value → Prop
  | [],_,_,vs=>vs = []
  | .tmp t :: r,ρ,w,vs=>∃ vs',vs = ρ t :: vs' ∧ resR P r ρ w vs'
  | .cell a t :: r,ρ,w,vs=>∃ v vs' p,vs = v :: vs' ∧ ρ a = .pointer (some p) ∧ (loadVar t p).run P w = .ok v w ∧ resR P r ρ w vs'
def tup : List Value → Value
  | [v]=>v
  | vs=> .tuple vs.toArray
def retR (P : Program) (rs : List ResultVar) (R : Ending → World → Prop) : Exit → Env → World → Prop
  | .normal,ρ,w | .ret,ρ,w=>∃ vs,resR P rs ρ w vs ∧ R (.returned (tup vs)) w
  | _,_,_=>False
section
variable {P : Program} {N : Nat} {Q : Exit → Env → World → Prop} {ρ : Env} {w : World}
theorem resR_run (rs : List ResultVar) (tmps : Array Value) {vs : List Value} (h : ∀ t,tmps.getD t undef = ρ t) (hv : resR P rs ρ w vs) :
    (rs.mapM (rv tmps)).run P w = .ok vs w:=by
  induction rs generalizing vs with
  | nil=>simp only [resR] at hv; subst hv; simp
  | cons r rs ih=>
    cases r with
    | tmp t=>
      obtain ⟨vs',rfl,h1⟩:=hv
      have:=ih h1
      simp only [List.mapM_cons]
      simp only [Sem.run_bind,this,Result.andThen,Sem.run_pure,rv,h]
    | cell a t=>
      obtain ⟨v,vs',p,rfl,h1,h2,h3⟩:=hv
      have:=ih h3
      simp only [List.mapM_cons]
      simp only [Sem.run_bind,this,Result.andThen,Sem.run_pure,rv,h,h1,asAddr,h2]
theorem resultsR_run {fn : Func} {a : Act} {vs : List Value} (ha : Fits N a ρ) (hv : resR P fn.results.toList ρ w vs) : (results fn a.tmps).run P w = .ok (tup vs) w:=by
  have h:=resR_run fn.results.toList a.tmps ha.get hv
  rw [results_rv,Array.mapM_eq_mapM_toList,Sem.run_bind,Sem.run_map,h]
  match vs with
  | []=>simp [Result.andThen,tup]
  | [x]=>simp [Result.andThen,tup]
  | x :: y :: z=>simp [Result.andThen,tup]
theorem calls_of_WCR {f : FuncId} {fn : Func} {c : Code} {args : Array Value} {R : Ending → World → Prop}
    (hf : P.funcs[f]? = some fn) (hb : fn.body = some c) (hN : fn.ntmps = N) (hle : Nat.ble args.size N = true)
    (h : WC P N c (retR P fn.results.toList R) (fun t=>args.getD t undef) w) : Calls P f args w R:=by
  refine calls_of_wp hf hb ?_
  have hle' : args.size ≤ N:=by simpa using hle
  have ha : Fits N { tmps:=args ++ Array.replicate (fn.ntmps - args.size) undef,defers:=[] } (fun t=>args.getD t undef):=by
    refine ⟨by simp [hN]; omega,fun t=>?_,rfl⟩
    simp only [Array.getD_eq_getD_getElem?,Array.getElem?_append,Array.getElem?_replicate,hN]
    split
    · rfl
    · rename_i hlt
      rw [Array.getElem?_eq_none (xs:=args) (by omega)]
      split <;> rfl
  refine wp_mono (h _ ha) ?_
  rintro e a' w' ⟨ρ',hf',hq⟩
  cases e with
  | normal=>obtain ⟨v,hv,hR⟩:=hq; exact ⟨hf'.defers,_,resultsR_run hf' hv,hR⟩
  | ret=>obtain ⟨v,hv,hR⟩:=hq; exact ⟨hf'.defers,_,resultsR_run hf' hv,hR⟩
  | exit id=>exact hq.elim
  | goto l=>exact hq.elim
  | panic ch=>exact hq.elim
  | outgrown=>exact hq.elim
structure RQR (P : Program) (rs : List ResultVar) (R : Ending → World → Prop) (ρ : Env) (w : World) : Prop where
  h : ∃ vs,resR P rs ρ w vs ∧ R (.returned (tup vs)) w
def retGR (P : Program) (rs : List ResultVar) (R : Ending → World → Prop) : Exit → Env → World → Prop
  | .normal,ρ,w=>RQR P rs R ρ w
  | .ret,ρ,w=>RQR P rs R ρ w
  | _,_,_=>False
theorem calls_of_goR {f : FuncId} {fn : Func} {c : Code} {args : Array Value} {R : Ending → World → Prop} (F : FTab P) (J : List Nat)
    (hf : P.funcs[f]? = some fn) (hb : fn.body = some c) (hle : Nat.ble args.size fn.ntmps = true)
    (h : goC F fn.ntmps J c (retGR P fn.results.toList R) (fun t=>args.getD t undef) w) (hok : okD fn.ntmps c = true:=by kernel_rfl) : Calls P f args w R:=by
  refine calls_of_WCR (N:=fn.ntmps) hf hb rfl hle ((goC.ok hok h).mono fun e ρ w hq=>?_)
  cases e with
  | normal=>exact hq.h
  | ret=>exact hq.h
  | _=>exact hq.elim
theorem RTR {rs : List ResultVar} {w0 : World} {X : List Nat} {G0 G : GH} {L : Own} {B : GH → World → Value → Prop} (vs : List Value) (hS : St w0 X G0 G L w) (hv : resR P rs ρ w vs) (hB : B G w (tup vs)) :
    RQR P rs (fun e w'=>∃ r G',e = .returned r ∧ Res X w0 G0 w' G' ∧ B G' w' r) ρ w:=⟨vs,hv,_,G,rfl,hS.res,hB⟩
end
section
variable {P : Program} {w0 w w' : World} {X : List Nat} {G0 G G' : GH} {L : Own} {o : OB}
theorem St.loadA {t : TypeId} {ti : TI} (hS : St w0 X G0 G L w) (i : Nat) (b : Nat) (e : TypeId) (cs : List Value) (off : Nat) (vs : List Value) (hi : L[i]? = some (some (b,e,cs))) (hv : (cs.drop off).take ti.size = vs) (hn : vs.length = ti.size)
    (ht : tinfo P t = some ti) (ha : ti.agg = true) : (loadVar t ⟨b,off,none⟩).run P w = .ok (.agg vs.toArray) w:=by
  have hc : ∀ (j : Nat) v,vs[j]? = some v → w.cell? ((⟨b,off,none⟩ : Addr).add j) = some v:=fun j v h=>by
    rw [addr_add _ _ rfl]
    refine hS.cell i hi ?_
    subst hv
    rw [List.getElem?_take] at h
    split at h
    · rwa [List.getElem?_drop] at h
    · cases h
  simp [loadVar,run_isAgg' ht,ha,run_sizeOf' ht,run_loadCells' hn hc,Result.andThen]
theorem St.loadC {t : TypeId} {ti : TI} {p : Addr} {cs : List Value} (hS : St w0 X G0 G L w) (hc : Cells G p cs) (ht : tinfo P t = some ti) (ha : ti.agg = true) (hn : cs.length = ti.size) : (loadVar t p).run P w = .ok (.agg cs.toArray) w:=by
  simp [loadVar,run_isAgg' ht,ha,run_sizeOf' ht,run_loadCells' hn (fun _ _ h=>hc.cell hS.imm h),Result.andThen]
theorem St.sealAt {b : Nat} {e : TypeId} {cs : List Value} (h : St w0 X G0 G L w) (i : Nat) (hi : L[i]? = some (some (b,e,cs))) (hb : w0.heap.size ≤ b) : ∃ G',G.le G' ∧ Cells G' ⟨b,0,none⟩ cs ∧ St w0 X G0 G' (L.set i none) w:=by
  have f:=h.freeze i (b:=b) (e:=e) (cs:=cs) hi hb
  have hG : G b = none:=(h.sep i _ hi).2
  exact ⟨_,G.add_le _ hG,⟨rfl,_,_,_,GH.add_at _ _ _,fun j v hv=>by simpa using hv⟩,f⟩
theorem St.sealSlAt {α : Type} {E : Enc α} {by_ : Nat} {l : List α} {b : Nat} {e : TypeId} {cs : List Value} (h : St w0 X G0 G L w) (i : Nat) (hi : L[i]? = some (some (b,e,cs))) (hb : w0.heap.size ≤ b) (hf : Flat E G l cs) {n : Nat} (hn : n = l.length) (hby : n * by_ ≤ reach) (hlen : n ≤ reach) :
    ∃ G',G.le G' ∧ Sl E by_ G' (.slice (some ⟨b,0,none⟩) n n) l ∧ St w0 X G0 G' (L.set i none) w:=by
  obtain ⟨G',h1,h2,h3⟩:=h.sealAt i hi hb
  subst hn
  refine ⟨G',h1,⟨some ⟨b,0,none⟩,l.length,rfl,Nat.le_refl _,hby,hlen,fun i x hx=>⟨_,rfl,rfl,?_⟩⟩,h3⟩
  exact (hf.mono h1).rows h2 i x hx
theorem St.callRowR (h : St w0 X G0 G L w) (i : Nat) (hi : L[i]? = some o) {o' : OB} (r : Res (blk o) w G w' G') {α : Type} {E : Enc α} {by_ : Nat} {e : TypeId} {v v' : Value} {l l' : List α}
    (h1 : Row E by_ e G v l o) (h2 : Row E by_ e G' v' l' o') (hl : Lent w' G' o') (hb : blk o' = blk o) : St w0 X G0 G' (L.set i o') w':=by
  cases o with
  | none=>
    cases o' with
    | none=>exact (h.call r).drop i
    | some p=>simp [blk] at hb
  | some p=>
    cases o' with
    | none=>simp [blk] at hb
    | some q=>
      obtain ⟨b,e1,cs⟩:=p
      obtain ⟨b',e2,cs'⟩:=q
      simp [blk] at hb
      subst hb
      have e1e : e1 = e:=by rcases h1 with ⟨h0,_⟩ | ⟨_,_,_,_,h0,_⟩ <;> simp at h0; exact h0.2.1
      have e2e : e2 = e:=by rcases h2 with ⟨h0,_⟩ | ⟨_,_,_,_,h0,_⟩ <;> simp at h0; exact h0.2.1
      subst e1e; subst e2e
      exact h.callX i hi cs' r (hl _ rfl).1
end
section
variable {P : Program} {Q : Exit → Env → World → Prop} {ρ : Env} {w : World} {ops : Array Oper} {rest : List Oper} {K : Env → World → Prop}
variable {d : Nat} {ty : TypeId} {pos : String} {af : Array Edge} {g : Option (Nat × Bool)}
end
end Go.Civ
