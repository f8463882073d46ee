/- Lemmas. -/
import Derived.Test.YtecneejegecmhaaGreatDoorK18
set_option linter.unusedVariables false
set_option linter.unusedSimpArgs false
set_option linter.unnecessarySimpa false
namespace Go.Civ
open Go.RowKit Go.Lib
set_option linter.unusedVariables false
section
variable {P : Program} {Q : Exit → Env → World → Prop} {ρ : Env} {w w0 : World} {ops : Array Oper} {rest : List Oper} {K : Env → World → Prop}
variable {d : Nat} {ty : TypeId} {pos : String} {af : Array Edge} {g : Option (Nat × Bool)} {G G0 : GH} {X : List Nat} {L : Own}
theorem Zl5 : ∀ n : Nat,Qx Enc.int G (List.replicate n 0) (List.replicate n (Value.int .i64 0))
 | 0=>rfl
 | n + 1=>⟨[.int .i64 0],List.replicate n (Value.int .i64 0),rfl,⟨rfl,Yf⟩,Zl5 n⟩
theorem Zeh {t e : TypeId} {ti : TI} {l c : Operand} (ht : TSl P t e ti) (hE : ti.size = 1) (hby : ti.bytes = 8) (hz : ti.zero.cells = #[.int .i64 0]) (n : Nat) (hn : n ≤ 1000) (hS : St w0 X G0 G L w)
  (hw : Region.wanted ⟨some d, .makeSlice t l c,ty,pos,af,g⟩ (Zu ops ρ) = true) (hl : ev ρ l = .int .i64 (n : Int)) (hc : ev ρ c = .int .i64 (n : Int))
  (k : ∀ v o w',YX Enc.int 8 e G v (List.replicate n (0 : Int)) o → St w0 X G0 G (o :: L) w' → K (ZQ ρ d v) w') : OW P ops ⟨some d, .makeSlice t l c,ty,pos,af,g⟩ ρ w K:=by
 obtain ⟨ds,ii,h1,h2,h3,h4,h5,h6⟩:=Zaq ht.i
 have hrun:=run_make (P:=P) w t e ii ti.zero ht.u h2 h3 .i64 .i64 (n : Int) (n : Int) (by omega) (by omega) (by rw [h6,hby]; omega) (by omega)
 simp only [Int.toNat_natCast] at hrun
 have hsz : ii.size = 1:=h5.trans hE
 have hmc : madeCells ti.zero.cells (n * ii.size) = (List.replicate n (Value.int .i64 0)).toArray:=by
  rw [hsz,Nat.mul_one,hz]
  apply Array.ext'
  simp only [madeCells]
  apply List.ext_getElem
  ·simp
  ·intro i a b; simp [Nat.mod_one]
 refine WL.val (w':=w.alloc (.cells (madeCells ti.zero.cells (n * ii.size)) e)) hw ?_ rfl (k _ (some (w.heap.size,e,List.replicate n (Value.int .i64 0))) _ (.inr ⟨w.heap.size,List.replicate n (Value.int .i64 0),n,List.replicate n (Value.int .i64 0),rfl,by rw [List.length_replicate],by rw [List.length_replicate]; exact Nat.le_refl _,by unfold maxLen; omega,by simp [Enc.int],Zl5 n,by simp [Enc.int],by rw [List.length_replicate]; unfold reach; omega,by rw [List.length_replicate]; unfold reach; omega⟩) ?_)
 ·have e1 : execOp (ev ρ) ⟨some d, .makeSlice t l c,ty,pos,af,g⟩ = Next.value <$> Instr.makeSlice t (ev ρ l) (ev ρ c):=rfl
  rw [e1,hl,hc,map_eq_pure_bind]
  simp only [Sem.run_bind,hrun,Result.andThen,Sem.run_pure]
 ·have:=hS.alloc e (List.replicate n (Value.int .i64 0))
  rw [hmc]; exact this
end
section
variable {s : Stp} {u : List Int} {i x y : Int} {k : Nat}
def stU (u : List Int) (s : Stp) (k : Nat) : List Int:=if k = 0 then u else if k = 1 then ZaS u s.a else ZaS (ZaS u s.a) s.b
def okU (s : Stp) (i : Int) (k : Nat) : Prop:=(1 ≤ k → if 1 ≤ ZT s.q.kind then 0 ≤ s.a ∧ s.a < i else s.a = -1) ∧ (2 ≤ k → if ZT s.q.kind = 2 then 0 ≤ s.b ∧ s.b < i else s.b = -1)
theorem Zy5 : (stU u s k).length = u.length:=by unfold stU; split <;> (try split) <;> simp [Zl2]
theorem ZwK {m : Int} (h : smU u m) (hm : 0 ≤ m) : smU (stU u s k) (m + 2):=by
 unfold stU
 split
 ·intro y hy; have:=h y hy; omega
 ·split
  ·intro y hy; have:=Zg2 h hm y hy; omega
  ·intro y hy; have:=Zg2 (Zg2 h hm) (by omega) y hy; omega
theorem Zdd (hx : ([s.a,s.b] : List Int)[k]? = some x) : (k = 0 ∧ x = s.a) ∨ (k = 1 ∧ x = s.b):=by
 match k,hx with
 | 0,h=>exact .inl ⟨rfl,(Option.some.inj h).symm⟩
 | 1,h=>exact .inr ⟨rfl,(Option.some.inj h).symm⟩
theorem Zy6 (hx : ([s.a,s.b] : List Int)[k]? = some x) (h : x = -1) : stU u s k = stU u s (k + 1):=by
 rcases Zdd hx with ⟨rfl,rfl⟩ | ⟨rfl,rfl⟩
 ·unfold stU; rw [if_pos rfl,if_neg (by omega),if_pos rfl,Zp6 h]
 ·unfold stU; rw [if_neg (by omega),if_pos rfl,if_neg (by omega),if_neg (by omega),Zp6 h]
theorem Zy7 (hx : ([s.a,s.b] : List Int)[k]? = some x) (h0 : 0 ≤ x) (hy : (stU u s k)[x.toNat]? = some y) : (stU u s k).set x.toNat (y + 1) = stU u s (k + 1):=by
 rw [ZfW h0 hy]
 rcases Zdd hx with ⟨rfl,rfl⟩ | ⟨rfl,rfl⟩
 ·unfold stU; rw [if_pos rfl,if_neg (by omega),if_pos rfl]
 ·unfold stU; rw [if_neg (by omega),if_pos rfl,if_neg (by omega),if_neg (by omega)]
theorem Zy8 : okU s i 0:=⟨fun h=>by omega,fun h=>by omega⟩
theorem Zy9 (h : okU s i k) (hx : ([s.a,s.b] : List Int)[k]? = some x) (hn : (k : Int) < ZT s.q.kind) (h0 : 0 ≤ x ∧ x < i) : okU s i (k + 1):=by
 have hb:=@Zbq s.q.kind
 rcases Zdd hx with ⟨rfl,rfl⟩ | ⟨rfl,rfl⟩
 ·exact ⟨fun _=>by rw [if_pos (by omega)]; exact h0,fun h=>by omega⟩
 ·exact ⟨fun _=>h.1 (by omega),fun _=>by rw [if_pos (by omega)]; exact h0⟩
theorem ZyA (h : okU s i k) (hx : ([s.a,s.b] : List Int)[k]? = some x) (hn : ¬ (k : Int) < ZT s.q.kind) (h0 : x = -1) : okU s i (k + 1):=by
 have hb:=@Zbq s.q.kind
 rcases Zdd hx with ⟨rfl,rfl⟩ | ⟨rfl,rfl⟩
 ·exact ⟨fun _=>by rw [if_neg (by omega)]; exact h0,fun h=>by omega⟩
 ·exact ⟨fun _=>h.1 (by omega),fun _=>by rw [if_neg (by omega)]; exact h0⟩
theorem ZwL (hx : ([s.a,s.b] : List Int)[k]? = some x) (hn : ¬ (k : Int) < ZT s.q.kind) (h0 : ¬ x = -1) : Xu s i = false:=by
 have hb:=@Zbq s.q.kind
 rcases Zdd hx with ⟨rfl,rfl⟩ | ⟨rfl,rfl⟩
 ·exact ZsQ (by rw [if_neg (by omega)]; exact h0)
 ·exact ZsR (by rw [if_neg (by omega)]; exact h0)
theorem ZpA (hx : ([s.a,s.b] : List Int)[k]? = some x) (hn : (k : Int) < ZT s.q.kind) (h0 : ¬ (0 ≤ x ∧ x < i)) : Xu s i = false:=by
 have hb:=@Zbq s.q.kind
 rcases Zdd hx with ⟨rfl,rfl⟩ | ⟨rfl,rfl⟩
 ·exact ZsQ (by rw [if_pos (by omega)]; exact h0)
 ·exact ZsR (by rw [if_pos (by omega)]; exact h0)
theorem ZyB (hr : Qg s = true) (h : okU s i k) (hk : 2 ≤ k) : Xu s i = true:=Zy4 hr (h.1 (by omega)) (h.2 hk)
theorem ZyC {n : Nat} {l : List Stp} {j : Nat} (hs : l[j]? = some s) (hk : k = 2) : stU (Ql n (l.take j)) s k = Ql n (l.take (j + 1)):=by
 rw [Zid hs,hk]; rfl
end
def Zl7 : List Str:=[[],[32,111,102,32,115,99,97,110,32,116],[32,40,115,99,97,110,32,116,44,32,115,99,97,110,32,116,41]]
section
variable {q : Query} {c : Str} {s : Stp}
theorem ZsS : Z0 scT = [115,99,97,110,32,116]:=(ZqT (q:=scT) rfl).symm.trans (Zlm (q:=scT) rfl).symm
theorem txw (hk : 1 ≤ q.kind ∧ q.kind ≤ 10) (h : Zl7[(ZT q.kind).toNat]? = some c) : Z0 (Ye q) = Ya q ++ c:=by
 have hb:=@Zbq q.kind
 have hl : (Ye q).l = Zhj q.kind:=by unfold Ye; rw [if_pos hk]; rfl
 rw [ZfM (q:=Ye q),hl,show Ya (Ye q) = Ya q from rfl]
 congr 1
 have e : ZT q.kind = 0 ∨ ZT q.kind = 1 ∨ ZT q.kind = 2:=by omega
 unfold Zhj
 rcases e with e | e | e <;> rw [e] at h ⊢ <;> obtain rfl:=Option.some.inj h
 ·rfl
 ·show ZeU ([Z0 scT]) = _; rw [ZsS]; rfl
 ·show ZeU ([Z0 scT,Z0 scT]) = _; rw [ZsS]; rfl
theorem Zih {n : Nat} (h : X8 n q = true) : 1 ≤ q.kind ∧ q.kind ≤ 10:=by
 unfold X8 at h
 have h1:=of_decide_eq_true h
 cases n with
 | zero=>rw [Y4] at h1; omega
 | succ n=>
  rw [Y4,if_neg (by omega)] at h1
  have hp : Xd (n + 1) q = true:=by
   cases e : Xd (n + 1) q with
   | true=>rfl
   | false=>rw [if_pos e] at h1; omega
  by_cases e : 1 ≤ q.kind ∧ q.kind ≤ 10
  ·exact e
  ·rw [Zgt (by omega) (by omega) (by omega) (by omega) (by omega) (by omega) (by omega) (by omega) (by omega) (by omega)] at hp; cases hp
theorem Q5 {m : Nat} (h : (Z0 (Ye q)).length ≤ m) : (Ya q).length ≤ m:=by
 rw [ZfM] at h; simp only [List.length_append] at h; exact Nat.le_trans (Nat.le_add_right _ _) h
theorem ZwM (h : Qg s = true) : 1 ≤ s.q.kind ∧ s.q.kind ≤ 10:=Zih (q:=Ye s.q) (Zif h).vl
end
end Go.Civ
namespace Go.Civ
set_option linter.unusedVariables false
def Yv (a b : Int) : Int:=if 4398046511104 < a * b then 4398046511104 else a * b
def YI (est : List Int) (x : Int) : Int:=if 0 ≤ x then (est[x.toNat]?).getD 0 else 0
def YT (f : Str → Int) (est : List Int) (s : Stp) : Int:=
 if s.q.kind = 1 then min (max (f s.q.table) 0) 4398046511104
 else if s.q.kind = 2 then (YI est s.a + 1) / 2
 else if s.q.kind = 5 then (if (s.keys.length : Int) = 0 then Yv (YI est s.a) (YI est s.b) else max (YI est s.a) (YI est s.b))
 else if s.q.kind = 6 then min (YI est s.a + YI est s.b) 4398046511104
 else if s.q.kind = 10 then Yv (YI est s.a) (YI est s.b)
 else YI est s.a
def YF (f : Str → Int) (l : List Stp) : List Int × Int:=l.foldl (fun u s=>(u.1 ++ [YT f u.1 s],min (u.2 + YT f u.1 s) 4398046511104)) ([],0)
def Xs (y : Int) : Prop:=0 ≤ y ∧ y ≤ 4398046511104
section
variable {a b y x : Int} {f : Str → Int} {est : List Int} {s : Stp} {l : List Stp} {k n : Nat} {i : Int}
theorem Zuy (ha : 0 < a) (hb : 4398046511104 / a < b) : 4398046511104 = Yv a b:=by
 unfold Yv
 have h1 : 4398046511104 < a * (4398046511104 / a + 1):=by
  have:=Int.lt_mul_ediv_self_add ha (x:=4398046511104)
  rw [Int.mul_add,Int.mul_one]; exact this
 have h2 : a * (4398046511104 / a + 1) ≤ a * b:=Int.mul_le_mul_of_nonneg_left (by omega) (by omega)
 rw [if_pos (by omega)]
theorem Zl8 (ha : 0 ≤ a) (hb : 0 ≤ b) (h : ¬ 0 < a ∨ ¬ 4398046511104 / a < b) : 0 ≤ a * b ∧ a * b ≤ 4398046511104:=by
 refine ⟨Int.mul_nonneg ha hb,?_⟩
 by_cases h0 : 0 < a
 ·have h1 : b ≤ 4398046511104 / a:=by rcases h with h | h <;> omega
  have h2 : a * b ≤ a * (4398046511104 / a):=Int.mul_le_mul_of_nonneg_left h1 (by omega)
  have h3:=Int.mul_ediv_self_le (x:=4398046511104) (show a ≠ 0 by omega)
  omega
 ·rw [show a = 0 by omega,Int.zero_mul]; decide
theorem ZmQ (ha : 0 ≤ a) (hb : 0 ≤ b) (h : ¬ 0 < a ∨ ¬ 4398046511104 / a < b) : a * b = Yv a b:=by
 have:=(Zl8 ha hb h).2
 unfold Yv; rw [if_neg (by omega)]
theorem Ze7 (ha : 0 ≤ a) (hb : 0 ≤ b) : Xs (Yv a b):=by
 have:=Int.mul_nonneg ha hb
 unfold Yv Xs; split <;> omega
theorem Zde (h : Xs y) : Zj y:=by obtain ⟨h1,h2⟩:=h; constructor <;> omega
theorem Zl9 (a b : Int) (ha : Xs a) (hb : Xs b) : Zj (Yv a b):=Zde (Ze7 ha.1 hb.1)
theorem Qe (h : ∀ y ∈ est,Xs y) : Xs (YI est x):=by
 unfold YI
 split
 ·cases e : est[x.toNat]? with
  | none=>exact ⟨by simp,by simp⟩
  | some z=>exact h z (List.mem_of_getElem? e)
 ·exact ⟨by omega,by decide⟩
theorem QB (h : ∀ y ∈ est,Xs y) : Xs (YT f est s):=by
 have h1:=Qe (x:=s.a) h
 have h2:=Qe (x:=s.b) h
 unfold YT
 split
 ·exact ⟨by omega,by omega⟩
 ·split
  ·exact ⟨by have:=h1.1; omega,by have:=h1.2; have:=h1.1; omega⟩
  ·split
   ·split
    ·exact Ze7 h1.1 h2.1
    ·exact ⟨by have:=h1.1; omega,by have:=h1.2; have:=h2.2; omega⟩
   ·split
    ·exact ⟨by have:=h1.1; have:=h2.1; omega,by omega⟩
    ·split
     ·exact Ze7 h1.1 h2.1
     ·exact h1
theorem Zg3 (h : l[k]? = some s) : YF f (l.take (k + 1)) = ((YF f (l.take k)).1 ++ [YT f (YF f (l.take k)).1 s],min ((YF f (l.take k)).2 + YT f (YF f (l.take k)).1 s) 4398046511104):=by
 unfold YF; rw [List.take_add_one,h]; simp
theorem Xj : ∀ k : Nat,(∀ y ∈ (YF f (l.take k)).1,Xs y) ∧ Xs (YF f (l.take k)).2
 | 0=>⟨fun y hy=>(List.not_mem_nil (a:=y) hy).elim,(by decide : (0 : Int) ≤ 0),(by decide : (0 : Int) ≤ 4398046511104)⟩
 | k + 1=>by
  have ih:=Xj k
  cases h : l[k]? with
  | none=>
   have e : l.take (k + 1) = l.take k:=by rw [List.take_add_one,h]; simp
   rw [e]; exact ih
  | some s=>
   rw [Zg3 h]
   have he:=QB (f:=f) (s:=s) ih.1
   refine ⟨fun y hy=>?_,?_⟩
   ·rcases List.mem_append.1 hy with hy | hy
    ·exact ih.1 y hy
    ·rw [List.mem_singleton.1 hy]; exact he
   ·exact ⟨by have:=ih.2.1; have:=he.1; show 0 ≤ min _ _; omega,by show min _ _ ≤ _; omega⟩
theorem Zg4 : ∀ k : Nat,k ≤ l.length → (YF f (l.take k)).1.length = k
 | 0,_=>rfl
 | k + 1,hk=>by
  obtain ⟨s,h⟩ : ∃ s,l[k]? = some s:=⟨_,List.getElem?_eq_getElem (by omega)⟩
  rw [Zg3 h]; simp only [List.length_append,List.length_cons,List.length_nil]; rw [Zg4 k (by omega)]
def Zas (f : Str → Int) (l : List Stp) (k : Nat) : List Int:=(YF f (l.take k)).1 ++ List.replicate (l.length - k) 0
theorem ZwN : List.replicate l.length 0 = Zas f l 0:=by unfold Zas YF; simp
theorem Zci (hk : k ≤ l.length) : (Zas f l k).length = l.length:=by unfold Zas; rw [List.length_append,Zg4 k hk,List.length_replicate]; omega
theorem ZiF {v : Int} (hk : k ≤ l.length) (h0 : 0 ≤ x) (hx : x < k) (h : (Zas f l k)[x.toNat]? = some v) : v = YI (YF f (l.take k)).1 x:=by
 unfold Zas at h
 rw [List.getElem?_append_left (by rw [Zg4 k hk]; omega)] at h
 unfold YI; rw [if_pos h0,h]; rfl
theorem ZcH {e : Int} (h : l[k]? = some s) (he : e = YT f (YF f (l.take k)).1 s) : (Zas f l k).set k e = Zas f l (k + 1):=by
 have hk:=(List.getElem?_eq_some_iff.1 h).1
 unfold Zas
 rw [Zg3 h,he]
 simp only
 have hl:=Zg4 (f:=f) k (Nat.le_of_lt hk)
 rw [List.set_append_right _ _ (by omega),hl,Nat.sub_self,List.append_assoc]
 congr 1
 rw [show l.length - k = (l.length - (k + 1)) + 1 by omega,List.replicate_succ]; rfl
theorem ZyD (h : l[k]? = some s) : (YF f (l.take k)).1 ++ [YT f (YF f (l.take k)).1 s] = (YF f (l.take (k + 1))).1:=by rw [Zg3 h]
theorem Ze8 (h : ¬ 0 ≤ x) : 0 = YI est x:=by unfold YI; rw [if_neg h]
theorem ZwO (h : s.q.kind = 1) : min (max (f s.q.table) 0) 4398046511104 = YT f est s:=by unfold YT; rw [if_pos h]
theorem ZwP (h : s.q.kind = 2) : (YI est s.a + 1) / 2 = YT f est s:=by unfold YT; rw [if_neg (by omega),if_pos h]
theorem ZsU (h : s.q.kind = 5) (h2 : (s.keys.length : Int) = 0) : Yv (YI est s.a) (YI est s.b) = YT f est s:=by unfold YT; rw [if_neg (by omega),if_neg (by omega),if_pos h,if_pos h2]
theorem ZsV (h : s.q.kind = 5) (h2 : ¬ (s.keys.length : Int) = 0) : max (YI est s.a) (YI est s.b) = YT f est s:=by unfold YT; rw [if_neg (by omega),if_neg (by omega),if_pos h,if_neg h2]
theorem Z0X (h : s.q.kind = 6) : min (YI est s.a + YI est s.b) 4398046511104 = YT f est s:=by unfold YT; rw [if_neg (by omega),if_neg (by omega),if_neg (by omega),if_pos h]
theorem ZsW (h : s.q.kind = 10) : Yv (YI est s.a) (YI est s.b) = YT f est s:=by unfold YT; rw [if_neg (by omega),if_neg (by omega),if_neg (by omega),if_neg (by omega),if_pos h]
theorem ZwQ (h1 : ¬ s.q.kind = 1) (h2 : ¬ s.q.kind = 2) (h5 : ¬ s.q.kind = 5) (h6 : ¬ s.q.kind = 6) (h10 : ¬ s.q.kind = 10) : YI est s.a = YT f est s:=by unfold YT; rw [if_neg h1,if_neg h2,if_neg h5,if_neg h6,if_neg h10]
theorem Ze9 (h : Xu s i = true) : (0 ≤ s.a ↔ ¬ s.q.kind = 1) ∧ (0 ≤ s.b ↔ (s.q.kind = 5 ∨ s.q.kind = 6 ∨ s.q.kind = 7 ∨ s.q.kind = 10)) ∧ (0 ≤ s.a → s.a < i) ∧ (0 ≤ s.b → s.b < i):=by
 obtain ⟨h1,h2⟩:=ZwJ h
 have e1 : ZT s.q.kind = 0 ↔ s.q.kind = 1:=by unfold ZT; split <;> (try split) <;> omega
 have e2 : ZT s.q.kind = 2 ↔ (s.q.kind = 5 ∨ s.q.kind = 6 ∨ s.q.kind = 7 ∨ s.q.kind = 10):=by unfold ZT; split <;> (try split) <;> omega
 have hb:=@Zbq s.q.kind
 split at h1 <;> split at h2 <;> omega
theorem ZwR (h1 : ¬ s.q.kind = 1) (h2 : ¬ s.q.kind = 2) (h5 : ¬ s.q.kind = 5) (h6 : ¬ s.q.kind = 6) (h10 : ¬ s.q.kind = 10) (hE : ∀ y ∈ est,Xs y) (ha : a = YI est s.a) : min a 4398046511104 = YT f est s:=by
 have h:=(Qe (x:=s.a) hE).2; rw [← ZwQ h1 h2 h5 h6 h10,ha]; omega
theorem Z0Y (h : s.q.kind = 2) (hE : ∀ y ∈ est,Xs y) (ha : a = YI est s.a) : min ((a + 1) / 2) 4398046511104 = YT f est s:=by
 obtain ⟨h8,h9⟩:=Qe (x:=s.a) hE; rw [← ZwP h,ha]; omega
theorem ZyE (h : s.q.kind = 5) (h2 : (s.keys.length : Int) = 0) (hE : ∀ y ∈ est,Xs y) (ha : a = YI est s.a) (hb : b = YI est s.b) : min (Yv a b) 4398046511104 = YT f est s:=by
 have h9:=(Ze7 (Qe (x:=s.a) hE).1 (Qe (x:=s.b) hE).1).2; rw [← ZsU h h2,ha,hb]; omega
theorem ZyF (h : s.q.kind = 5) (h2 : ¬ (s.keys.length : Int) = 0) (hE : ∀ y ∈ est,Xs y) (ha : a = YI est s.a) (hb : b = YI est s.b) : min (max a b) 4398046511104 = YT f est s:=by
 have h8:=(Qe (x:=s.a) hE).2; have h9:=(Qe (x:=s.b) hE).2; rw [← ZsV h h2,ha,hb]; omega
theorem ZwS (h : s.q.kind = 6) (ha : a = YI est s.a) (hb : b = YI est s.b) : min (a + b) 4398046511104 = YT f est s:=by rw [← Z0X h,ha,hb]
theorem ZyG (h : s.q.kind = 10) (hE : ∀ y ∈ est,Xs y) (ha : a = YI est s.a) (hb : b = YI est s.b) : min (Yv a b) 4398046511104 = YT f est s:=by
 have h9:=(Ze7 (Qe (x:=s.a) hE).1 (Qe (x:=s.b) hE).1).2; rw [← ZsW h,ha,hb]; omega
theorem Zcj {v : Int} (h : l[k]? = some s) (hv : (Zas f l (k + 1))[k]? = some v) : v = YT f (YF f (l.take k)).1 s:=by
 have hk:=(List.getElem?_eq_some_iff.1 h).1
 have hl:=Zg4 (f:=f) k (Nat.le_of_lt hk)
 unfold Zas at hv
 rw [Zg3 h] at hv
 simp only at hv
 rw [List.getElem?_append_left (by simp; omega),List.getElem?_append_right (by omega),hl,Nat.sub_self] at hv
 exact (Option.some.inj hv).symm
theorem Za0 {ss v : Int} (h : l[k]? = some s) (hs : ss = (YF f (l.take k)).2) (hv : v = YT f (YF f (l.take k)).1 s) : min (ss + v) 4398046511104 = (YF f (l.take (k + 1))).2:=by rw [Zg3 h,hs,hv]
theorem ZsX {ss : Int} (h : ss = (YF f (l.take k)).2) (hk : ¬ k < l.length) : ss = (YF f l).2:=by rw [h,List.take_of_length_le (by omega)]
theorem ZbB {v : Int} (h : l[k]? = some s) (hv : (Zas f l (k + 1))[k]? = some v) : 0 ≤ v ∧ v ≤ 4398046511104:=by rw [Zcj h hv]; exact QB (Xj k).1
noncomputable def Qp (f : Str → Int) (p : Pln) : Int:=if XC p = true then (YF f p.steps).2 else 0
theorem ZwT {p : Pln} (h : XC p = false) : 0 = Qp f p:=by unfold Qp; rw [h]; rfl
theorem ZwU {p : Pln} (h : XC p = true) : (YF f p.steps).2 = Qp f p:=by unfold Qp; rw [if_pos h]
theorem Zrv {p : Int} (ha : Xs a) (hb : Xs b) (h0 : ¬ b = 0) (hp : p = IntKind.i64.wrap (a * b)) (h : Int.tdiv p b = a) : min p 4398046511104 = Yv a b:=by
 unfold Yv
 obtain ⟨a0,a1⟩:=ha
 obtain ⟨b0,b1⟩:=hb
 have h1:=Int.mul_tdiv_add_tmod p b
 rw [h] at h1
 have h2:=Int.tmod_lt_of_pos p (show 0 < b by omega)
 have h3 : (p.tmod b).natAbs < b.natAbs:=by rw [Int.natAbs_tmod]; exact Nat.mod_lt _ (by omega)
 have hab:=Int.mul_comm a b
 have hm:=Int.mul_nonneg a0 b0
 have hM : a * b ≤ 4398046511104 * 4398046511104:=Int.mul_le_mul a1 b1 b0 (by decide)
 rw [IntKind.wrap_i64] at hp
 generalize p.tmod b = r at h1 h2 h3
 rw [← hab] at h1
 generalize a * b = c at *
 have e : p = c:=by omega
 rw [e]; omega
end
end Go.Civ
namespace Go.Civ
open Go.RowKit
set_option linter.unusedVariables false
section
variable {P : Program} {ρ : Env} {w w0 : World} {ops : Array Oper} {K : Env → World → Prop} {X : List Nat} {G0 G : GH} {L : Own}
variable {d : Nat} {ty : TypeId} {pos : String} {af : Array Edge} {g : Option (Nat × Bool)}
def Zby (s : Str) : List Value:=s.map fun b=>Value.int .u8 (b.toNat : Int)
theorem ZdQ : ∀ s : Str,Qx Enc.u8 G s (Zby s)
 | []=>rfl
 | c :: s=>⟨[.int .u8 (c.toNat : Int)],Zby s,rfl,rfl,ZdQ s⟩
theorem Zrw (s : Str) : (Zby s).length = s.length:=List.length_map _
theorem ZlY {t u e : TypeId} {ti : TI} {v : Value} {l m : Str} {o : Option (Nat × TypeId × List Value)} (ht : TSl P t e ti) (hu : P.underlying u = some .string) (hE : ti.size = 1) (hby : ti.bytes = 1) (hz : ti.zero = .int .u8 0)
  (hr : YX Enc.u8 1 e G v l o) (hS : St w0 X G0 G L w) (i : Nat) (hi : L[i]? = some o) (tty : TypeId) (hb : l.length + m.length ≤ reach) :
  ∃ v' o' w',(Builtin.append_ #[t,u] tty #[v,Za m]).run P w = .ok v' w' ∧ YX Enc.u8 1 e G v' (l ++ m) o' ∧ St w0 X G0 G (L.set i o') w':=by
 obtain ⟨ds,ii,h1,h2,h3,h4,h5,h6⟩:=Zaq ht.i
 have hreach : reach = 140737488355328:=rfl
 have hsz : ii.size = 1:=h5.trans hE
 have hyb : ii.bytes = 1:=h6.trans hby
 rw [hz] at h3
 have hms : (⟨m.toArray⟩ : ByteArray).size = m.length:=by simp [ByteArray.size]
 have hsc : Lib.strCells ⟨m.toArray⟩ = Zby m:=rfl
 have hml:=Zrw m
 have hz1 : (Value.int IntKind.u8 0).cells.size = 1:=rfl
 have hil : i < L.length:=(List.getElem?_eq_some_iff.1 hi).1
 have hd:=hS.same (w':=w.drew) rfl rfl rfl rfl (Nat.le_succ _)
 rcases hr with ⟨rfl,rfl,rfl⟩ | ⟨b,cs,cap,xs,rfl,rfl,k3,k4,k5,k6,k7,k8,k9⟩
 ·simp only [List.length_nil,Nat.zero_add] at hb
  by_cases hm0 : m.length = 0
  ·obtain rfl : m = []:=List.eq_nil_of_length_eq_zero hm0
   have hLe : L.set i none = L:=by
    apply List.ext_getElem?; intro j
    rw [List.getElem?_set]; split
    ·rename_i hj; subst hj; simp [hi]
    ·rfl
   refine ⟨.slice none 0 0,none,w,?_, .inl ⟨rfl,rfl,rfl⟩,by rw [hLe]; exact hS⟩
   have hf:=Lib.run_firstCells_string (P:=P) w 1 ⟨([] : Str).toArray⟩
   simp only [hms,List.length_nil] at hf
   simp [Builtin.append_,run_underlying ht.u,run_underlying hu,sizeOf,typeInfo,h2,Builtin.lenOf,Za,Builtin.firstCells,ByteArray.size]
  ·have hrun:=run_append_nil_string (P:=P) w t u tty e ii (.int .u8 0) ht.u hu h2 h3 ⟨m.toArray⟩ (by omega) (by omega) (by rw [hms,hyb]; omega)
   rw [hms] at hrun
   have hge:=grownCap_ge w m.length 0 e
   have hmax:=grownCap_le_maxLen w m.length 0 e (by unfold maxLen; omega)
   have hS':=hd.alloc e (Zby m ++ (Builtin.zeroCells (Value.int .u8 0).cells (grownCap w m.length 0 e - m.length)).toList)
   refine ⟨_,some (w.heap.size,e,Zby m ++ (Builtin.zeroCells (Value.int .u8 0).cells (grownCap w m.length 0 e - m.length)).toList),_,hrun, .inr ⟨w.heap.size,_,grownCap w m.length 0 e,Zby m,rfl,rfl,by simpa using hge,hmax,?_,by simpa using ZdQ m,?_,by simpa using hb,by simpa using hb⟩,?_⟩
   ·rw [List.length_append,ZbC,hz1,hml]; show _ = _ * 1; omega
   ·show List.take (m.length * 1) _ = _; rw [Nat.mul_one,← hml]; exact List.take_left
   ·have e1 : (⟨m.toArray⟩ : ByteArray).data.map (fun b=>Value.int .u8 b.toNat) ++ Builtin.zeroCells (Value.int .u8 0).cells (grownCap w m.length 0 e - m.length) = (Zby m ++ (Builtin.zeroCells (Value.int .u8 0).cells (grownCap w m.length 0 e - m.length)).toList).toArray:=Array.ext' (by simp [Zby])
    rw [e1]; exact hS'.place i
 ·have k5' : cs.length = cap:=by rw [k5]; show cap * 1 = _; omega
  have k7' : cs.take l.length = xs:=by rw [← k7]; show _ = List.take (l.length * 1) cs; rw [Nat.mul_one]
  have hxl : xs.length = l.length:=by rw [k6.len]; show _ * 1 = _; omega
  by_cases hroom : l.length + m.length ≤ cap
  ·have hg:=hS.get i hi
   have hrun:=Lib.run_append_room_string (P:=P) w t u tty e ii ht.u hu h2 hsz b l.length cap cs.toArray hg ⟨m.toArray⟩ (by rw [hms]; exact hroom) (by rw [hms]; simp; omega)
   rw [hms,hsc] at hrun
   refine ⟨_,some (b,e,cs.take l.length ++ Zby m ++ cs.drop (l.length + m.length)),_,hrun, .inr ⟨b,_,cap,xs ++ Zby m,rfl,by rw [List.length_append],by rw [List.length_append]; exact hroom,k4,?_,k6.append (ZdQ m),?_,by rw [List.length_append]; omega,by rw [List.length_append]; exact hb⟩,?_⟩
   ·simp only [List.length_append,List.length_take,List.length_drop,hml]; show _ = cap * 1; omega
   ·rw [k7',List.length_append]
    show List.take ((l.length + m.length) * 1) _ = _
    rw [Nat.mul_one,← hxl,← hml,← List.length_append]; exact List.take_left
   ·refine hS.write i hi _ rfl rfl rfl (Nat.le_refl _) (by simp) (setRow_heap w b cs.toArray _ e _ hg) (fun k hk=>setRow_other w b k _ hk)
  ·have holds : ∀ j u,xs[j]? = some u → w.cell? ((⟨b,0,none⟩ : Addr).add j) = some u:=fun j u hu=>by
    rw [YC _ _ rfl]
    refine hS.cell i hi ?_
    rw [← k7',List.getElem?_take] at hu
    rw [Nat.zero_add]
    split at hu
    ·exact hu
    ·cases hu
   have hrun:=Lib.run_append_grow_string (P:=P) w t u tty e ii (.int .u8 0) ht.u hu h2 h3 ⟨b,0,none⟩ l.length cap xs (by rw [hsz,hxl]; omega) holds ⟨m.toArray⟩ (by rw [hms]; omega) (by rw [hms]; omega) (growslice_fits (by rw [hms]; omega) (by rw [hms,hyb]; omega))
   rw [hms,hsc] at hrun
   have hge:=grownCap_ge w (l.length + m.length) cap e
   have hmax:=grownCap_le_maxLen w (l.length + m.length) cap e (by unfold maxLen; omega)
   have hS':=hd.alloc e (xs ++ Zby m ++ (Builtin.zeroCells (Value.int .u8 0).cells (grownCap w (l.length + m.length) cap e - (l.length + m.length))).toList)
   refine ⟨_,some (w.heap.size,e,xs ++ Zby m ++ (Builtin.zeroCells (Value.int .u8 0).cells (grownCap w (l.length + m.length) cap e - (l.length + m.length))).toList),_,hrun, .inr ⟨w.heap.size,_,grownCap w (l.length + m.length) cap e,xs ++ Zby m,rfl,by rw [List.length_append],by rw [List.length_append]; exact hge,hmax,?_,k6.append (ZdQ m),?_,by rw [List.length_append]; omega,by rw [List.length_append]; exact hb⟩,?_⟩
   ·rw [List.length_append,List.length_append,ZbC,hz1,hml,hxl]; show _ = _ * 1; omega
   ·rw [List.length_append]; show List.take ((l.length + m.length) * 1) _ = _
    rw [Nat.mul_one,← hxl,← hml,← List.length_append]; exact List.take_left
   ·have e1 : xs.toArray ++ (Zby m).toArray ++ Builtin.zeroCells (Value.int .u8 0).cells (grownCap w (l.length + m.length) cap e - (l.length + m.length)) = (xs ++ Zby m ++ (Builtin.zeroCells (Value.int .u8 0).cells (grownCap w (l.length + m.length) cap e - (l.length + m.length))).toList).toArray:=Array.ext' (by simp)
    rw [e1]; exact hS'.place i
theorem ZpB {t u e : TypeId} {ti : TI} {s x : Operand} {v : Value} {l m : Str} {o : Option (Nat × TypeId × List Value)} (ht : TSl P t e ti) (hu : P.underlying u = some .string) (hE : ti.size = 1) (hby : ti.bytes = 1) (hz : ti.zero = .int .u8 0)
  (hr : YX Enc.u8 1 e G v l o) (hS : St w0 X G0 G L w) (i : Nat) (hi : L[i]? = some o) (hb : l.length + m.length ≤ reach)
  (hw : Region.wanted ⟨some d, .call ⟨.builtin .append,#[s,x],#[t,u]⟩,ty,pos,af,g⟩ (Zu ops ρ) = true) (hs : ev ρ s = v) (hx : ev ρ x = Za m)
  (k : ∀ v' o' w',YX Enc.u8 1 e G v' (l ++ m) o' → St w0 X G0 G (L.set i o') w' → K (ZQ ρ d v') w') : OW P ops ⟨some d, .call ⟨.builtin .append,#[s,x],#[t,u]⟩,ty,pos,af,g⟩ ρ w K:=by
 obtain ⟨v',o',w',hrun,hr',hS'⟩:=ZlY ht hu hE hby hz hr hS i hi ty hb
 refine WL.val (w':=w') hw ?_ rfl (k v' o' w' hr' hS')
 simp [execOp,resolve,invoke,builtin,hs,hx,hrun,Result.andThen]
end
def opA (x : Int) : Str:=if 0 ≤ x then [32,35] ++ ZA x.toNat 1 else []
noncomputable def Zbz (s : Stp) : Str:=
 if ¬ s.q.kind = 1 ∨ s.span = ⟨-62135596800,253402300800⟩ then [] else if s.span = ⟨0,0⟩ then [32,110,101,118,101,114] else [32,102,114,111,109,32] ++ Yk s.span.a ++ [32,116,111,32] ++ Yk s.span.b
noncomputable def txS (i : Nat) (s : Stp) : Str:=ZA i 1 ++ [32] ++ Ya s.q ++ opA s.a ++ opA s.b ++ Zbz s ++ [10]
noncomputable def Qm (l : List Stp) : Str:=(l.zipIdx.map fun p=>txS p.2 p.1).flatten
def TxS (s : Stp) : Prop:=TxQ (Y7 (Ye s.q)) (Ye s.q) ∧ (Z0 (Ye s.q)).length ≤ 300000
section
variable {l : List Stp} {s : Stp} {k i : Nat} {x : Int} {u : Str}
theorem ZiG (h : l[k]? = some s) : Qm (l.take (k + 1)) = Qm (l.take k) ++ txS k s:=by
 have hk:=(List.getElem?_eq_some_iff.1 h).1
 unfold Qm
 rw [List.take_add_one,h,Option.toList_some,List.zipIdx_append,List.map_append,List.flatten_append]
 simp [Nat.min_eq_left (Nat.le_of_lt hk)]
def Zad (s : Stp) (k : Nat) : Str:=if k = 0 then [] else if k = 1 then opA s.a else opA s.a ++ opA s.b
theorem Z0Z (hx : ([s.a,s.b] : List Int)[k]? = some x) (h : 0 ≤ x) : u ++ Zad s k ++ ([32,35] ++ ZA x.toNat 1) = u ++ Zad s (k + 1):=by
 have e : [32,35] ++ ZA x.toNat 1 = opA x:=by unfold opA; rw [if_pos h]
 rw [e]
 rcases Zdd hx with ⟨rfl,rfl⟩ | ⟨rfl,rfl⟩ <;> simp [Zad]
theorem Z1a (hx : ([s.a,s.b] : List Int)[k]? = some x) (h : ¬ 0 ≤ x) : u ++ Zad s k = u ++ Zad s (k + 1):=by
 have e : opA x = []:=by unfold opA; rw [if_neg h]
 rcases Zdd hx with ⟨rfl,rfl⟩ | ⟨rfl,rfl⟩ <;> simp [Zad,e]
theorem ZyH {n : Nat} (hx : ([s.a,s.b] : List Int)[k]? = some (n : Int)) : u ++ Zad s k ++ ([32,35] ++ ZA n 1) = u ++ Zad s (k + 1):=by
 have:=Z0Z (u:=u) hx (by omega); rwa [Int.toNat_natCast] at this
theorem Z1b : u ++ Zad s 0 = u:=by simp [Zad]
theorem ZwV (hk : k = 2) : Zad s k = opA s.a ++ opA s.b:=by rw [hk]; rfl
theorem ZlA (h : ¬ s.q.kind = 1 ∨ s.span = ⟨-62135596800,253402300800⟩) : Zbz s = []:=by unfold Zbz; rw [if_pos h]
theorem ZwW (h1 : s.q.kind = 1) (h2 : ¬ s.span = ⟨-62135596800,253402300800⟩) (h : s.span = ⟨0,0⟩) : Zbz s = [32,110,101,118,101,114]:=by unfold Zbz; rw [if_neg (fun e=>e.elim (fun e=>e h1) h2),if_pos h]
theorem ZwX (h1 : s.q.kind = 1) (h2 : ¬ s.span = ⟨-62135596800,253402300800⟩) (h : ¬ s.span = ⟨0,0⟩) : Zbz s = [32,102,114,111,109,32] ++ Yk s.span.a ++ [32,116,111,32] ++ Yk s.span.b:=by unfold Zbz; rw [if_neg (fun e=>e.elim (fun e=>e h1) h2),if_neg h]
theorem ZiH {i : Int} (h : Xu s i = true) (h1 : s.q.kind = 1) (h0 : ¬ s.span = ⟨0,0⟩) : (-62135596800 ≤ s.span.a ∧ s.span.a ≤ 253402300800) ∧ (-62135596800 ≤ s.span.b ∧ s.span.b ≤ 253402300800):=by
 have h9:=(Zif (ZjT h)).sp
 rcases h9 with h9 | ⟨_,h9⟩
 ·exact absurd h9 h0
 ·unfold ZF at h9
  simp only [Bool.and_eq_true,decide_eq_true_eq] at h9
  omega
theorem Zg5 (n : Nat) (h : n < 100) : (ZA n 1).length ≤ 2:=Zi6 (j:=2) (by omega) (by omega)
theorem Zii {n : Nat} (h : n < 100) : (ZA n 1).length ≤ 2:=Zg5 n h
theorem ZyI {i : Int} (hx : ([s.a,s.b] : List Int)[k]? = some x) (h : Xu s i = true) (h0 : 0 ≤ x) : x < i:=by
 obtain ⟨_,_,h3,h4⟩:=Ze9 h
 rcases Zdd hx with ⟨rfl,rfl⟩ | ⟨rfl,rfl⟩
 ·exact h3 h0
 ·exact h4 h0
theorem ZjU (h : x < 100) : (opA x).length ≤ 4:=by
 unfold opA; split
 ·have:=Zii (n:=x.toNat) (by omega); simp only [List.length_append,List.length_cons,List.length_nil]; omega
 ·simp
theorem ZwY (ha : s.a < 100) (hb : s.b < 100) : (Zad s k).length ≤ 8:=by
 have h1:=ZjU ha; have h2:=ZjU hb
 unfold Zad; split
 ·simp
 ·split
  ·omega
  ·rw [List.length_append]; omega
theorem ZpC {i : Nat} (h : Xu s i = true) (hi : i ≤ 100) : s.a < 100 ∧ s.b < 100:=by
 obtain ⟨_,_,h3,h4⟩:=Ze9 h
 refine ⟨?_,?_⟩
 ·by_cases e : 0 ≤ s.a
  ·have:=h3 e; omega
  ·omega
 ·by_cases e : 0 ≤ s.b
  ·have:=h4 e; omega
  ·omega
theorem ZpD {i : Int} (h : Xu s i = true) : (Zbz s).length ≤ 48:=by
 unfold Zbz
 split
 ·simp
 ·rename_i h1
  split
  ·simp
  ·rename_i h2
   obtain ⟨ha,hb⟩:=ZiH h (Classical.byContradiction fun e=>h1 (.inl e)) h2
   have l1:=Xa _ ha; have l2:=Xa _ hb
   simp only [List.length_append,List.length_cons,List.length_nil]; omega
theorem ZyJ {i : Nat} (h : Xu s i = true) (hi : i < 100) (ht : TxS s) : (txS i s).length ≤ 300100:=by
 have h1:=Zii hi
 have h2:=Q5 ht.2
 obtain ⟨ha,hb⟩:=ZpC h (by omega)
 have h3:=ZjU ha; have h4:=ZjU hb; have h5:=ZpD h
 unfold txS; simp only [List.length_append,List.length_cons,List.length_nil]; omega
theorem Zrx (hv : ∀ j s,l[j]? = some s → Xu s ((j : Nat) : Int) = true) (ht : ∀ s ∈ l,TxS s) : ∀ k : Nat,k ≤ 100 → (Qm (l.take k)).length ≤ k * 300100
 | 0,_=>by simp [Qm]
 | k + 1,hk=>by
  have ih:=Zrx hv ht k (by omega)
  cases h : l[k]? with
  | none=>
   have e : l.take (k + 1) = l.take k:=by rw [List.take_add_one,h]; simp
   rw [e]; exact Nat.le_trans ih (Nat.mul_le_mul_right _ (Nat.le_succ k))
  | some s=>
   have h1:=ZyJ (hv k s h) (by omega) (ht s (List.mem_of_getElem? h))
   rw [ZiG h,List.length_append,Nat.add_one_mul]; exact Nat.add_le_add ih h1
theorem ZsY (h : l[k]? = some s) {j : Nat} (hj : j = 2) (hs : Zbz s = []) : Qm (l.take k) ++ (ZA k 1 ++ [32] ++ Ya s.q) ++ Zad s j ++ [10] = Qm (l.take (k + 1)):=by
 rw [ZiG h,ZwV hj]; unfold txS; rw [hs]; simp only [List.append_assoc,List.append_nil]
theorem ZsZ (h : l[k]? = some s) {j : Nat} (hj : j = 2) {z : Str} (hs : Zbz s = z) : Qm (l.take k) ++ (ZA k 1 ++ [32] ++ Ya s.q) ++ Zad s j ++ z ++ [10] = Qm (l.take (k + 1)):=by
 rw [ZiG h,ZwV hj]; unfold txS; rw [hs]; simp only [List.append_assoc]
noncomputable def tpT (p : Pln) : Str:=if XC p = true then Qm p.steps else []
noncomputable def tpE (p : Pln) : Int:=if XC p = true then 0 else 1
theorem Zta {p : Pln} (h : XC p = false) : [] = tpT p:=by unfold tpT; rw [h]; rfl
theorem Ztb {p : Pln} (h : XC p = false) : 1 = tpE p:=by unfold tpE; rw [h]; rfl
theorem ZyK {p : Pln} (h : XC p = true) (hk : p.steps.length ≤ k) : Qm (p.steps.take k) = tpT p:=by unfold tpT; rw [if_pos h,List.take_of_length_le hk]
theorem Ztc {p : Pln} (h : XC p = true) : 0 = tpE p:=by unfold tpE; rw [if_pos h]
theorem ZyL (h : 1 ≤ l.length) : Qm (l.take l.length) ≠ []:=by
 rw [List.take_length]
 intro e
 match l,h with
 | s :: l,_=>
  have h9 : Qm (s :: l) = txS 0 s ++ (l.zipIdx 1 |>.map fun p=>txS p.2 p.1).flatten:=by simp [Qm,List.zipIdx_cons]
  rw [h9] at e
  have:=congrArg List.length e
  unfold txS at this
  simp only [List.length_append,List.length_cons,List.length_nil] at this; omega
theorem ZyM {k : Nat} (h : 1 ≤ l.length) (hk : l.length ≤ k) : Qm (l.take k) ≠ []:=by
 rw [List.take_of_length_le hk]; have:=ZyL h; rwa [List.take_length] at this
end
end Go.Civ
namespace Go.Civ
open Go.RowKit
set_option linter.unusedVariables false
def rwQ (q : Query) : Query:=Ym q (List.replicate (ZT q.kind).toNat scT)
section
variable {s : Stp} {q : Query} {i : Int} {k n : Nat} {p : Pln} {u : List Int} {x y : Int}
theorem ntT {p : Prop} [Decidable p] (h : (!decide p) = true) : ¬ p:=by simpa using h
theorem ntF {p : Prop} [Decidable p] (h : (!decide p) = false) : p:=by simpa using h
theorem Zxa : ∀ m,Xd m scT = true:=fun m=>by
 unfold Xd; exact (if_pos (rfl : scT.kind = 1)).trans (by decide)
theorem Zuz : Y4 (n + 1) scT 2 = 1:=by
 rw [Y4,if_neg (by omega),Zxa,if_neg (by decide)]; rfl
theorem ZcA : (rwQ q).kind = q.kind:=rfl
theorem Zij (h : 1 ≤ q.kind ∧ q.kind ≤ 10) : Ye q = rwQ q:=by unfold Ye rwQ Zhj; rw [if_pos h]
theorem Zik (hn : Xx (rwQ q) n) : X8 (Y7 (Ye q)) (Ye q) = Xd n (rwQ q):=by
 by_cases h : 1 ≤ q.kind ∧ q.kind ≤ 10
 ·have e:=Zij h
  rw [e,Zhi (QI _) (Nat.le_succ_of_le (Nat.le_succ_of_le hn) : Xx (rwQ q) (n + 2))]
  have hp : Xd (n + 2) (rwQ q) = Xd n (rwQ q):=Zlw (Nat.le_succ_of_le (Nat.le_succ_of_le (Zaz hn))) (Zaz hn)
  unfold X8
  rw [Y4,if_neg (by omega),hp]
  cases e9 : Xd n (rwQ q) with
  | false=>rw [if_pos rfl]; rfl
  | true=>
   rw [if_neg (by decide)]
   have hb:=@Zbq q.kind
   show decide (Xp (fun x=>Y4 (n + 1) x (1 + 1)) (List.replicate (ZT q.kind).toNat scT) 1 ≤ 60) = true
   have e3 : (ZT q.kind).toNat = 0 ∨ (ZT q.kind).toNat = 1 ∨ (ZT q.kind).toNat = 2:=by omega
   have e4 : Y4 (n + 1) scT 2 = 1:=Zuz
   rcases e3 with e3 | e3 | e3 <;> rw [e3] <;> simp [List.replicate,Xp,e4]
 ·have h1 : X8 (Y7 (Ye q)) (Ye q) = false:=by
   cases e : X8 (Y7 (Ye q)) (Ye q) with
   | false=>rfl
   | true=>exact absurd (Zih e) h
  rw [h1]
  exact (Zgt (q:=rwQ q) (by rw [ZcA]; omega) (by rw [ZcA]; omega) (by rw [ZcA]; omega) (by rw [ZcA]; omega) (by rw [ZcA]; omega) (by rw [ZcA]; omega) (by rw [ZcA]; omega) (by rw [ZcA]; omega) (by rw [ZcA]; omega) (by rw [ZcA]; omega)).symm
theorem sr (h : false = Qg s) : false = Xu s i:=(ZwE h.symm).symm
theorem Zry (h : ¬ s.span = ⟨0,0⟩) (h2 : ¬ s.q.kind = 1 ∨ ZF s.span = false) : false = Qg s:=by
 have : Zeg s = false:=by
  unfold Zeg; rw [decide_eq_false h]
  rcases h2 with h2 | h2
  ·rw [decide_eq_false h2]; rfl
  ·rw [h2]; simp
 unfold Qg; rw [this]; simp
theorem Zrz (h1 : (s.q.l.length : Int) = 0) (h2 : X8 (Y7 (Ye s.q)) (Ye s.q) = true) (h3 : (s.keys.length : Int) ≤ 8) (h4 : (s.keys.length : Int) = 0 ∨ s.q.kind = 5) (h6 : s.span = ⟨0,0⟩ ∨ (s.q.kind = 1 ∧ ZF s.span = true)) (h5 : ∀ j,j < k → ∀ y,s.keys[j]? = some y → kyB y = true) (hk : s.keys.length ≤ k) : Qg s = true:=by
 rw [← ZfV h1 h2 h3 h4 h5 hk]
 unfold Zeg
 rcases h6 with h6 | ⟨h6,h7⟩
 ·rw [decide_eq_true h6]; rfl
 ·rw [decide_eq_true h6,h7]; simp
theorem Zr0 (hr : Qg s = true) (h : Zar s.a i (Cmp.b .geq (ZT s.q.kind) 1) = false) : false = Xu s i:=by
 have e : Zar s.a i (decide (1 ≤ ZT s.q.kind)) = false:=h
 unfold Xu; rw [hr,e]; rfl
theorem Zr1 (hr : Qg s = true) (h : Zar s.a i (Cmp.b .geq (ZT s.q.kind) 1) = true) : Zar s.b i (Cmp.b .eql (ZT s.q.kind) 2) = Xu s i:=by
 have e : Zar s.a i (decide (1 ≤ ZT s.q.kind)) = true:=h
 unfold Xu; rw [hr,e]; rfl
theorem ZyN {k : Nat} (h : u[k]? = some y) (hk : k + 1 < u.length) (hy : ¬ y = 1) : Zbr u = false:=by
 unfold Zbr
 have : (u.take (u.length - 1)).all (fun k=>decide (k = 1)) = false:=List.all_eq_false.2 ⟨y,List.mem_of_getElem? (i:=k) (by rw [List.getElem?_take,if_pos (by omega)]; exact h),by simpa using hy⟩
 rw [this,Bool.and_false]
theorem Z1c {k : Nat} (h : u[k]? = some y) (hk : k + 1 = u.length) (hy : ¬ y = 0) : Zbr u = false:=by
 unfold Zbr
 rw [show u.length - 1 = k by omega,h]
 have : ¬ (some y = some (0 : Int)):=fun e=>hy (Option.some.inj e)
 rw [decide_eq_false this]; rfl
def laS (u : List Int) (k : Nat) : Prop:=∀ j,j < k → ∀ y,u[j]? = some y → (j + 1 < u.length → y = 1) ∧ (j + 1 = u.length → y = 0)
theorem Z1d (h : laS u k) (hk : u.length ≤ k) (h0 : 1 ≤ u.length) : Zbr u = true:=by
 unfold Zbr
 have h1 : u[u.length - 1]? = some 0:=by
  obtain ⟨y,hy⟩ : ∃ y,u[u.length - 1]? = some y:=⟨_,List.getElem?_eq_getElem (by omega)⟩
  rw [hy,(h _ (by omega) y hy).2 (by omega)]
 rw [h1,decide_eq_true rfl,Bool.true_and,List.all_eq_true]
 intro x hx
 obtain ⟨j,hj⟩:=List.getElem?_of_mem hx
 rw [List.getElem?_take] at hj
 split at hj
 ·exact decide_eq_true ((h j (by omega) x hj).1 (by omega))
 ·cases hj
theorem Zxb (h : laS u k) (hy : u[k]? = some y) (h1 : k + 1 < u.length → y = 1) (h2 : k + 1 = u.length → y = 0) : laS u (k + 1):=fun j hj z hz=>by
 by_cases e : j = k
 ·subst e; rw [hy] at hz; obtain rfl:=Option.some.inj hz; exact ⟨h1,h2⟩
 ·exact h j (by omega) z hz
theorem Z1e : laS u 0:=fun j hj=>by omega
theorem Zxc (h : Zbr (Ql p.steps.length p.steps) = false) : false = XC p:=by unfold XC; rw [h]; simp
theorem Z1f (h : 1 ≤ p.steps.length ∧ p.steps.length ≤ 60 ∧ 1 ≤ p.cols.length ∧ p.cols.length ≤ 8) (h2 : Zg1 p.cols = true) (h3 : Zfa p.steps = true) (h4 : Zbr (Ql p.steps.length p.steps) = true) : true = XC p:=by rw [← Zru h h2 h3,h4]
theorem ZyO {cs : List Col} {c : Col} (h : ∀ j,j < k → ∀ x,cs[j]? = some x → ¬ x.name = c.name) : ((cs.take k).any fun d=>decide (d.name = c.name)) = false:=by
 rw [List.any_eq_false]
 intro d hd
 obtain ⟨j,hj⟩:=List.getElem?_of_mem hd
 rw [List.getElem?_take] at hj
 split at hj
 ·rename_i h9; simpa using h j h9 d hj
 ·cases hj
theorem ZyP {cs : List Col} {c d : Col} {j : Nat} (h : cs[j]? = some d) (hj : j < k) (he : d.name = c.name) : ((cs.take k).any fun d=>decide (d.name = c.name)) = true:=by
 rw [List.any_eq_true]
 exact ⟨d,List.mem_of_getElem? (i:=j) (by rw [List.getElem?_take,if_pos hj]; exact h),decide_eq_true he⟩
theorem ZyQ {l : List Stp} (h : l[k]? = some s) (ha : ¬ 0 ≤ s.a) (hb : ¬ 0 ≤ s.b) : Ql n (l.take k) = Ql n (l.take (k + 1)):=by
 rw [Zid h]; unfold ZaS; rw [if_neg hb,if_neg ha]
theorem ZyR {l : List Stp} (h : l[k]? = some s) (ha : 0 ≤ s.a) (hy : (Ql n (l.take k))[s.a.toNat]? = some y) (hb : ¬ 0 ≤ s.b) : (Ql n (l.take k)).set s.a.toNat (y + 1) = Ql n (l.take (k + 1)):=by
 rw [Zid h,ZfW ha hy]; exact (if_neg hb).symm
theorem ZyS {l : List Stp} (h : l[k]? = some s) (ha : 0 ≤ s.a) (hy : (Ql n (l.take k))[s.a.toNat]? = some y) (hb : 0 ≤ s.b) (hz : ((Ql n (l.take k)).set s.a.toNat (y + 1))[s.b.toNat]? = some x) : ((Ql n (l.take k)).set s.a.toNat (y + 1)).set s.b.toNat (x + 1) = Ql n (l.take (k + 1)):=by
 rw [Zid h,ZfW hb hz,ZfW ha hy]
end
end Go.Civ
