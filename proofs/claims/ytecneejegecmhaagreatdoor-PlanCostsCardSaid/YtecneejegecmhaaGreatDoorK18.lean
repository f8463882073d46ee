/- Lemmas. -/
import Derived.Test.YtecneejegecmhaaGreatDoorK17
set_option linter.unusedVariables false
set_option linter.unusedSimpArgs false
set_option linter.unnecessarySimpa false
namespace Go.Civ
set_option linter.unusedVariables false
def Zah (r : Int) : Str:=(relN[r.toNat]?).getD []
theorem Zpr {r : Int} {c : Str} (h : relN[r.toNat]? = some c) : c = Zah r:=by unfold Zah; rw [h]; rfl
theorem Zll (r : Int) : (Zah r).length ≤ 12:=by
 unfold Zah
 cases h : relN[r.toNat]? with
 | none=>simp
 | some c=>
  have hm:=List.mem_of_getElem? h
  have : ∀ c ∈ relN,c.length ≤ 12:=by decide
  exact this c hm
section
variable {c x y : Cond} {n k : Nat} {ks : List Int} {a b : Int}
theorem XP (hw : QU (n + 1) c) (hx : x ∈ c.l) : QU n x:=hw.2 x hx
theorem Zi8 (hw : QU n c) (h0 : ¬ n = 0) : c.kind = 1 ∨ c.kind = 2 ∨ c.kind = 3 ∨ c.kind = 4 ∨ c.kind = 5 ∨ c.kind = 6:=by
 obtain ⟨j,rfl⟩ : ∃ j,n = j + 1:=⟨n - 1,by omega⟩
 have h:=hw.1
 unfold Zw ZE Yc at h
 by_cases h1 : c.kind = 1 <;> by_cases h2 : c.kind = 2 <;> by_cases h3 : c.kind = 3 <;> by_cases h4 : c.kind = 4 <;> by_cases h5 : c.kind = 5 <;> by_cases h6 : c.kind = 6 <;> simp_all
theorem ZfS (hw : QU (n + 1) c) (h3 : ¬ c.kind = 3) (h4 : ¬ c.kind = 4) (h5 : ¬ c.kind = 5) (h6 : ¬ c.kind = 6) (ho : c.oth = []) : Yo c.v = true:=by
 have hk:=Zi8 hw (by omega)
 have h:=hw.1
 have hc : ZE c = true:=by unfold ZE; rcases hk with e | e | e | e | e | e <;> first | (rw [e]; rfl) | contradiction
 unfold Zw at h
 rw [hc,decide_eq_true ho] at h
 simp at h
 exact h.2
theorem Zwv (hn : Qd c (n + 1)) (h : c.l[k]? = some x) (e : n = 0) : False:=ZaU (e ▸ Xb hn (List.mem_of_getElem? h))
theorem Zps : (YL x).length ≤ (ZN ks x).length:=by
 unfold ZN; split
 ·simp only [List.length_append,List.length_cons,List.length_nil]; omega
 ·exact Nat.le_refl _
theorem Zs9 (h : c.kind = 4) (h0 : c.l[0]? = some x) : (ZN [5,6] x).length ≤ (YL c).length:=by rw [← Znt h h0]; simp only [List.length_append,List.length_cons,List.length_nil]; omega
theorem ZsA (h : c.kind = 5) (h0 : c.l[0]? = some x) (h1 : c.l[1]? = some y) : (ZN [6] x).length ≤ (YL c).length ∧ (ZN [6,5] y).length ≤ (YL c).length:=by
 rw [← Zed h h0 h1]; simp only [List.length_append]; omega
theorem ZsB (h : c.kind = 6) (h0 : c.l[0]? = some x) (h1 : c.l[1]? = some y) : (ZN [] x).length ≤ (YL c).length ∧ (ZN [6] y).length ≤ (YL c).length:=by
 rw [← ZfL h h0 h1]; simp only [List.length_append]; omega
theorem Zww (h : ks[k]? = some a) (e : x.kind = a) : [40] ++ YL x ++ [41] = ZN ks x:=ZvZ (by rw [e]; exact List.mem_of_getElem? h)
theorem Zyv (h : ∀ j,j < k → ∀ z,ks[j]? = some z → ¬ x.kind = z) (hk : ks.length ≤ k) : YL x = ZN ks x:=Zwa fun hm=>by
 obtain ⟨i,hi⟩:=List.getElem?_of_mem hm
 exact h i (Nat.lt_of_lt_of_le (List.getElem?_eq_some_iff.1 hi).1 hk) x.kind hi rfl
theorem ZsC (h : x.kind = a ∨ x.kind = b) : [40] ++ YL x ++ [41] = ZN [a,b] x:=ZvZ (by simpa using h)
theorem Zyw (h : ¬ x.kind = a) (h2 : ¬ x.kind = b) : YL x = ZN [a,b] x:=Zwa (by simp [h,h2])
theorem ZhW : ZN [6,6] x = ZN [6] x:=by unfold ZN; simp
theorem Zpt (h : ¬ x.kind = 0) : ZN [0,0] x = ZN [] x:=by unfold ZN; simp [h]
theorem Zwx (h3 : ¬ c.kind = 3) (h4 : ¬ c.kind = 4) (h5 : ¬ c.kind = 5) (h6 : ¬ c.kind = 6) (h1 : c.kind = 1) (ho : ¬ c.oth = []) : c.col ++ [32,61,32] ++ c.oth = YL c:=by rw [← Zlf h3 h4 h5 h6,if_pos h1,if_neg ho]
theorem Zwy (h3 : ¬ c.kind = 3) (h4 : ¬ c.kind = 4) (h5 : ¬ c.kind = 5) (h6 : ¬ c.kind = 6) (h1 : ¬ c.kind = 1) (ho : ¬ c.oth = []) : c.col ++ [32,60,32] ++ c.oth = YL c:=by rw [← Zlf h3 h4 h5 h6,if_neg h1,if_neg ho]
theorem Zwz (h3 : ¬ c.kind = 3) (h4 : ¬ c.kind = 4) (h5 : ¬ c.kind = 5) (h6 : ¬ c.kind = 6) (h1 : c.kind = 1) (ho : c.oth = []) : c.col ++ [32,61,32] ++ QK c.v = YL c:=by rw [← Zlf h3 h4 h5 h6,if_pos h1,if_pos ho]
theorem Zw0 (h3 : ¬ c.kind = 3) (h4 : ¬ c.kind = 4) (h5 : ¬ c.kind = 5) (h6 : ¬ c.kind = 6) (h1 : ¬ c.kind = 1) (ho : c.oth = []) : c.col ++ [32,60,32] ++ QK c.v = YL c:=by rw [← Zlf h3 h4 h5 h6,if_neg h1,if_pos ho]
theorem Zyx {v : Val} (h : v.k = 2) : [34] ++ (v.s.flatMap fun x=>if x = 92 then [92,92] else [x]).flatMap (fun x=>if x = 34 then [92,34] else [x]) ++ [34] = QK v:=by
 rw [Zus]; unfold QK; rw [if_neg (by omega),if_neg (by omega),if_neg (by omega)]
theorem ZfT (s : Str) (k : Nat) (h : s.length ≤ k) (c a b : UInt8) : (s.flatMap fun x=>if x = c then [a,b] else [x]).length ≤ 2 * k:=Nat.le_trans (Zrb s) (by omega)
end
end Go.Civ
namespace Go.Civ
open Go.RowKit
set_option linter.unusedVariables false
def fnv (y : Nat) : Value:=if y = 0 then .nilFunc else .func (.func y) #[] #[]
def Zw2 : Enc Nat where
 n:=1
 rep _ x cs:=cs = [fnv x]
 len h:=by rw [h]; rfl
 mono _ h:=h
 one h c hc:=by
  rw [h] at hc; simp at hc; subst hc
  unfold fnv; split <;> rfl
structure TxN (n : Nat) (q : Query) : Prop where
 kd : 1 ≤ q.kind ∧ q.kind ≤ 10
 cd : q.kind = 2 → QU n q.cond
 sp : q.kind = 8 → (-62135596800 ≤ q.span.a ∧ q.span.a ≤ 253402300800) ∧ (-62135596800 ≤ q.span.b ∧ q.span.b ≤ 253402300800)
 gr : q.kind = 9 → (1 ≤ q.fn ∧ q.fn ≤ 4) ∧ (q.names.length : Int) = if q.fn = 1 then 1 else 2
 rn : q.kind = 4 → q.names.length = q.cols.length
 rl : q.kind = 10 → 0 ≤ q.rel
 nc : ∀ s ∈ q.cols,s.length ≤ 60
 nn : ∀ s ∈ q.names,s.length ≤ 60
 lc : q.cols.length ≤ 20
 ln : (Ya q).length ≤ 100000
 a0 : q.kind = 1 → q.l.length = 0
 a2 : q.kind = 5 ∨ q.kind = 6 ∨ q.kind = 7 ∨ q.kind = 10 → q.l.length = 2
 a1 : q.kind = 2 ∨ q.kind = 3 ∨ q.kind = 4 ∨ q.kind = 8 ∨ q.kind = 9 → q.l.length = 1
def TxQ : Nat → Query → Prop
 | 0,_=>False
 | n + 1,q=>TxN (n + 1) q ∧ ∀ x ∈ q.l,TxQ n x
section
variable {n k : Nat} {q x y : Query} {s t : Str} {cs ns : List Str} {l : List Str}
theorem Zlm (h : q.kind = 1) : [115,99,97,110,32] ++ q.table = Ya q:=by unfold Ya; rw [if_pos h]
theorem Zn5 (h : q.kind = 2) : [115,101,108,101,99,116,32,40] ++ YL q.cond ++ [41] = Ya q:=by unfold Ya; rw [if_neg (by omega),if_pos h]
theorem Zn6 (h : q.kind = 3) : [112,114,111,106,101,99,116,32] ++ Z2 sJ q.cols = Ya q:=by unfold Ya; rw [if_neg (by omega),if_neg (by omega),if_pos h]
theorem Zn7 (h : q.kind = 4) : [114,101,110,97,109,101,32] ++ Z2 sJ (Qy q.cols q.names) = Ya q:=by unfold Ya; rw [if_neg (by omega),if_neg (by omega),if_neg (by omega),if_pos h]
theorem Zrc (h : q.kind = 5) : [106,111,105,110] = Ya q:=by unfold Ya; rw [if_neg (by omega),if_neg (by omega),if_neg (by omega),if_neg (by omega),if_pos h]
theorem Zrd (h : q.kind = 6) : [117,110,105,111,110] = Ya q:=by unfold Ya; rw [if_neg (by omega),if_neg (by omega),if_neg (by omega),if_neg (by omega),if_neg (by omega),if_pos h]
theorem Zre (h : q.kind = 7) : [101,120,99,101,112,116] = Ya q:=by unfold Ya; rw [if_neg (by omega),if_neg (by omega),if_neg (by omega),if_neg (by omega),if_neg (by omega),if_neg (by omega),if_pos h]
theorem Zrf (h : q.kind = 8) : [100,117,114,105,110,103,32] ++ Yk q.span.a ++ [32,116,111,32] ++ Yk q.span.b = Ya q:=by
 unfold Ya; rw [if_neg (by omega),if_neg (by omega),if_neg (by omega),if_neg (by omega),if_neg (by omega),if_neg (by omega),if_neg (by omega),if_pos h]
theorem Zee (h : q.kind = 9) : Z2 [32] (Zbw q) = Ya q:=by
 unfold Ya; rw [if_neg (by omega),if_neg (by omega),if_neg (by omega),if_neg (by omega),if_neg (by omega),if_neg (by omega),if_neg (by omega),if_neg (by omega),if_pos h]
theorem ZjQ (h : q.kind = 10) : [114,101,108,97,116,101,32] ++ Z2 sJ (XA q.rel 13) = Ya q:=by
 unfold Ya; rw [if_neg (by omega),if_neg (by omega),if_neg (by omega),if_neg (by omega),if_neg (by omega),if_neg (by omega),if_neg (by omega),if_neg (by omega),if_neg (by omega)]
theorem Zrg (h : q.kind = 2) (hb : (Ya q).length ≤ 100000) : (YL q.cond).length ≤ 100000:=by rw [← Zn5 h] at hb; simp at hb; omega
theorem Zrh (h : q.kind = 3) (hb : (Ya q).length ≤ 100000) : (Z2 sJ q.cols).length ≤ 1000000:=by rw [← Zn6 h] at hb; simp at hb; omega
theorem Zri (h : q.kind = 4) (hb : (Ya q).length ≤ 100000) : (Z2 sJ (Qy q.cols q.names)).length ≤ 1000000:=by rw [← Zn7 h] at hb; simp at hb; omega
theorem Zln (h : q.kind = 9) (hb : (Ya q).length ≤ 100000) : (Z2 [32] (Zbw q)).length ≤ 1000000:=by rw [Zee h]; omega
theorem ZsD (h : q.kind = 10) (hb : (Ya q).length ≤ 100000) : (Z2 sJ (XA q.rel 13)).length ≤ 1000000:=by rw [← ZjQ h] at hb; simp at hb; omega
theorem ZsE {a b : Str} (h1 : cs[k]? = some a) (h2 : ns[k]? = some b) : Qy (cs.take (k + 1)) (ns.take (k + 1)) = Qy (cs.take k) (ns.take k) ++ [a ++ [32,116,111,32] ++ b]:=by
 have l1:=(List.getElem?_eq_some_iff.1 h1).1
 have l2:=(List.getElem?_eq_some_iff.1 h2).1
 unfold Qy
 rw [List.take_add_one,List.take_add_one,h1,h2]
 simp only [Option.toList_some]
 rw [List.zip_append (by rw [List.length_take,List.length_take]; omega)]
 simp
theorem ZsF : (Qy (cs.take k) (ns.take k)).length ≤ k:=by
 unfold Qy; simp only [List.length_map,List.length_zip,List.length_take]; omega
theorem Zyy {r : Int} (h : Go.bits .and .i64 (r / 2 ^ ((k : Int)).toNat) 1 = 1) : Zhd r k = true:=by unfold Zhd; rw [Int.toNat_natCast] at h; exact decide_eq_true h
theorem Zyz {r : Int} (h : ¬ Go.bits .and .i64 (r / 2 ^ ((k : Int)).toNat) 1 = 1) : Zhd r k = false:=by unfold Zhd; rw [Int.toNat_natCast] at h; exact decide_eq_false h
theorem Zpu {r : Int} (hk : k < 13) : XA r (k + 1) = XA r k ++ (if Zhd r k = true then [Zah k] else []):=by
 have hl : k < relN.length:=hk
 obtain ⟨c,hc⟩ : ∃ c,relN[k]? = some c:=⟨_,List.getElem?_eq_getElem hl⟩
 have e : Zah k = c:=by unfold Zah; rw [Int.toNat_natCast,hc]; rfl
 unfold XA
 rw [List.take_add_one,hc,List.zipIdx_append]
 simp only [Option.toList_some,List.filterMap_append]
 congr 1
 have e2 : (relN.take k).length = k:=by rw [List.length_take]; omega
 rw [e2,e]
 by_cases h : Zhd r k = true <;> simp [h]
theorem Zpv {r : Int} (hk : k < 13) (h : Go.bits .and .i64 (r / 2 ^ ((k : Int)).toNat) 1 = 1) : XA r k ++ [Zah k] = XA r (k + 1):=by rw [Zpu hk,if_pos (Zyy h)]
theorem Zpw {r : Int} (hk : k < 13) (h : ¬ Go.bits .and .i64 (r / 2 ^ ((k : Int)).toNat) 1 = 1) : XA r k = XA r (k + 1):=by rw [Zpu hk,if_neg (by rw [Zyz h]; simp),List.append_nil]
theorem Zlo {r : Int} : (XA r k).length ≤ 13:=by
 unfold XA
 refine Nat.le_trans (List.length_filterMap_le _ _) ?_
 rw [List.length_zipIdx,List.length_take]
 exact Nat.min_le_right _ _
theorem ZdP {c : Str} (h : ([[],[99,111,117,110,116],[115,117,109],[109,105,110],[109,97,120]] : List Str)[q.fn.toNat]? = some c) (h1 : 1 ≤ q.fn ∧ q.fn ≤ 4) : c = fnN q.fn:=by
 have e : q.fn = 1 ∨ q.fn = 2 ∨ q.fn = 3 ∨ q.fn = 4:=by omega
 unfold fnN
 rcases e with e | e | e | e <;> rw [e] at h ⊢ <;> exact (Option.some.inj h).symm
theorem Zpx {c : Str} (h : ([[99,111,117,110,116],[115,117,109],[109,105,110],[109,97,120]] : List Str)[(q.fn - 1).toNat]? = some c) (h1 : 1 ≤ q.fn ∧ q.fn ≤ 4) : c = fnN q.fn:=by
 have e : q.fn = 1 ∨ q.fn = 2 ∨ q.fn = 3 ∨ q.fn = 4:=by omega
 unfold fnN
 rcases e with e | e | e | e <;> rw [e] at h ⊢ <;> exact (Option.some.inj h).symm
theorem Zlp (f : Int) : (fnN f).length ≤ 5:=by unfold fnN; split <;> (try split) <;> (try split) <;> decide
theorem Zlq {f : Str} (hf : f = fnN q.fn) (h1 : 0 < (q.cols.length : Int)) (h2 : 1 < (q.names.length : Int)) (hx : q.names[0]? = some s) (hy : q.names[q.names.length - 1]? = some t) :
  [[103,114,111,117,112]] ++ [Z2 sJ q.cols] ++ [f] ++ [s] ++ [[97,115],t] = Zbw q:=by
 subst hf; unfold Zbw; rw [if_neg (by intro e; rw [e] at h1; simp at h1),if_pos (by omega),hx,hy]; rfl
theorem Zlr {f : Str} (hf : f = fnN q.fn) (h1 : 0 < (q.cols.length : Int)) (h2 : ¬ 1 < (q.names.length : Int)) (hy : q.names[q.names.length - 1]? = some t) :
  [[103,114,111,117,112]] ++ [Z2 sJ q.cols] ++ [f] ++ [[97,115],t] = Zbw q:=by
 subst hf; unfold Zbw; rw [if_neg (by intro e; rw [e] at h1; simp at h1),if_neg (by omega),hy]; simp
theorem Zls {f : Str} (hf : f = fnN q.fn) (h1 : ¬ 0 < (q.cols.length : Int)) (h2 : 1 < (q.names.length : Int)) (hx : q.names[0]? = some s) (hy : q.names[q.names.length - 1]? = some t) :
  [[103,114,111,117,112]] ++ [f] ++ [s] ++ [[97,115],t] = Zbw q:=by
 subst hf; unfold Zbw; rw [if_pos (List.length_eq_zero_iff.1 (by omega)),if_pos (by omega),hx,hy]; simp
theorem Zlt {f : Str} (hf : f = fnN q.fn) (h1 : ¬ 0 < (q.cols.length : Int)) (h2 : ¬ 1 < (q.names.length : Int)) (hy : q.names[q.names.length - 1]? = some t) :
  [[103,114,111,117,112]] ++ [f] ++ [[97,115],t] = Zbw q:=by
 subst hf; unfold Zbw; rw [if_pos (List.length_eq_zero_iff.1 (by omega)),if_neg (by omega),hy]; simp
theorem Zlu : Z2 s [] = []:=rfl
theorem Zb8 {a : Str} : Z2 s [a] = a:=by simp [Z2,List.intercalate]
theorem ZaN {a b : Str} : Z2 s (a :: b :: l) = a ++ (s ++ Z2 s (b :: l)):=by simp [Z2,List.intercalate]
theorem ZhX {a : Str} : ∀ {l : List Str},a ∈ l → a.length ≤ (Z2 s l).length
 | [b],h=>by rw [List.mem_singleton.1 h,Zb8]; exact Nat.le_refl _
 | b :: d :: r,h=>by
  rw [ZaN]
  simp only [List.length_append]
  rcases List.mem_cons.1 h with rfl | h
  ·omega
  ·have:=@ZhX a (d :: r) h; omega
theorem ZmK {a : Str} : ∀ {l : List Str},l ≠ [] → Z2 s (l ++ [a]) = Z2 s l ++ s ++ a
 | [b],_=>by rw [Zb8,List.singleton_append,ZaN,Zb8]; simp
 | b :: d :: r,_=>by
  rw [List.cons_append,List.cons_append,ZaN,ZaN,← List.cons_append,ZmK (by simp)]; simp
theorem Zpy (m : Nat) : ∀ {l : List Str},(∀ a ∈ l,a.length ≤ m) → (Z2 s l).length ≤ l.length * (m + s.length)
 | [],_=>by simp [Zlu]
 | [a],h=>by rw [Zb8]; have:=h a (by simp); simp; omega
 | a :: b :: r,h=>by
  rw [ZaN]
  have h1:=h a (by simp)
  have h2:=@Zpy m (b :: r) fun x hx=>h x (List.mem_cons_of_mem _ hx)
  simp only [List.length_append,List.length_cons] at h2 ⊢
  rw [Nat.add_mul (r.length + 1) 1 (m + s.length)]
  omega
theorem Zn8 (h : q.kind = 9) (hb : (Ya q).length ≤ 100000) (hc : 0 < (q.cols.length : Int)) : (Z2 sJ q.cols).length ≤ 1000000:=by
 refine Nat.le_trans (ZhX (s:=[32]) (l:=Zbw q) ?_) (Zln h hb)
 unfold Zbw; rw [if_neg (by intro e; rw [e] at hc; simp at hc)]; simp
theorem ZsG (t : Int) (h : -62135596800 ≤ t ∧ t ≤ 253402300800) : Yo ⟨4,t,[]⟩ = true:=by
 unfold Yo; simp only
 rw [if_neg (by decide),if_neg (by decide),if_neg (by decide),if_pos trivial,decide_eq_true h.1,decide_eq_true h.2]; rfl
theorem Zw3 {t : Int} : QK ⟨4,t,[]⟩ = Yk t:=by unfold QK; simp
theorem Za5 (h : TxQ (n + 1) q) (hx : x ∈ q.l) : TxQ n x:=h.2 x hx
theorem Zdb (h : (q.l.length : Int) = 1) (h0 : q.l[0]? = some x) : (Ya q).length + (Z0 x).length + 4 ≤ (Z0 q).length:=by rw [← ZqU h h0]; simp only [List.length_append,List.length_cons,List.length_nil]; omega
theorem ZhY (h0 : q.l[0]? = some x) (h1 : q.l[1]? = some y) : (Ya q).length + (Z0 x).length + (Z0 y).length + 5 ≤ (Z0 q).length:=by rw [← ZqV h0 h1]; simp only [List.length_append,List.length_cons,List.length_nil]; omega
end
end Go.Civ
namespace Go.Civ
open Go.RowKit
set_option linter.unusedVariables false
section
variable {n k : Nat} {q x y : Query} {S : List Schema} {p p' : Span} {s s' : Bool} {acc : List Stp}
theorem Zy0 (h : Xd n q = true) : (q.kind = 1 ∧ q.l.length = 0) ∨ ((q.kind = 2 ∨ q.kind = 3 ∨ q.kind = 4 ∨ q.kind = 8 ∨ q.kind = 9) ∧ q.l.length = 1) ∨ ((q.kind = 5 ∨ q.kind = 6 ∨ q.kind = 7 ∨ q.kind = 10) ∧ q.l.length = 2):=by
 have key : ∀ m : Int,(q.kind = 1 ∧ m = 0) ∨ ((q.kind = 2 ∨ q.kind = 3 ∨ q.kind = 4 ∨ q.kind = 8 ∨ q.kind = 9) ∧ m = 1) ∨ ((q.kind = 5 ∨ q.kind = 6 ∨ q.kind = 7 ∨ q.kind = 10) ∧ m = 2) → (q.l.length : Int) = m:=fun m hm=>by
  by_cases e : (q.l.length : Int) = m
  ·exact e
  ·rw [← Znp hm e] at h; cases h
 have hk : (q.kind = 1) ∨ (q.kind = 2 ∨ q.kind = 3 ∨ q.kind = 4 ∨ q.kind = 8 ∨ q.kind = 9) ∨ (q.kind = 5 ∨ q.kind = 6 ∨ q.kind = 7 ∨ q.kind = 10) ∨ (¬ q.kind = 1 ∧ ¬ q.kind = 2 ∧ ¬ q.kind = 3 ∧ ¬ q.kind = 4 ∧ ¬ q.kind = 5 ∧ ¬ q.kind = 6 ∧ ¬ q.kind = 7 ∧ ¬ q.kind = 8 ∧ ¬ q.kind = 9 ∧ ¬ q.kind = 10):=by omega
 rcases hk with h1 | h2 | h3 | ⟨h1,h2,h3,h4,h5,h6,h7,h8,h9,h10⟩
 ·have:=key 0 (.inl ⟨h1,rfl⟩); exact .inl ⟨h1,by omega⟩
 ·have:=key 1 (.inr (.inl ⟨h2,rfl⟩)); exact .inr (.inl ⟨h2,by omega⟩)
 ·have:=key 2 (.inr (.inr ⟨h3,rfl⟩)); exact .inr (.inr ⟨h3,by omega⟩)
 ·rw [Zgt h1 h2 h3 h4 h5 h6 h7 h8 h9 h10] at h; cases h
theorem Zw5 (h8 : ¬ q.kind = 8) (h10 : ¬ q.kind = 10) : ndT q p s = (p,s):=by unfold ndT; rw [if_neg h8,if_neg h10]
theorem ZsL (h8 : q.kind = 8) (hs : s = true) : ndT q p s = ZX p q.span:=by unfold ndT; rw [if_pos h8,hs]; rfl
theorem ZsM (h8 : q.kind = 8) (hs : s = false) : ndT q p s = (p,false):=by unfold ndT; rw [if_pos h8,hs]; rfl
theorem Z0V (h : q.kind = 1) (hs : s = true) : spT q p s = p:=by unfold spT; rw [if_pos ⟨h,hs⟩]
theorem ZnC (h : ¬ q.kind = 1 ∨ s = false) : spT q p s = ⟨0,0⟩:=by
 unfold spT; rw [if_neg (fun e=>by rcases h with h | h; exact h e.1; rw [h] at e; exact absurd e.2 (by simp))]
theorem ZhZ (h : ¬ q.kind = 5) : Zef S q = []:=by unfold Zef; rw [if_neg h]
theorem ZsN (hl : q.l.length = 0) : acc ++ [⟨ZU q, -1, -1,Zef S q,spT q p s⟩] = acc ++ YS S (n + 1) q p s acc.length:=by
 have e : q.l = []:=List.eq_nil_of_length_eq_zero hl
 simp [YS,e]
theorem ZnD (hl : q.l.length = 1) (hx : q.l[0]? = some x) (hd : ndT q p s = (p',s')) :
  acc ++ YS S n x p' s' acc.length ++ [⟨ZU q,(((acc ++ YS S n x p' s' acc.length).length - 1 : Nat) : Int), -1,Zef S q,spT q p s⟩] = acc ++ YS S (n + 1) q p s acc.length:=by
 match e : q.l,hl,hx with
 | [y],_,hx=>
  obtain rfl:=Option.some.inj hx
  simp [YS,e,hd]
theorem ZiA (hx : q.l[0]? = some x) (hd : ndT q p s = (p',s')) (h : acc.length + (YS S (n + 1) q p s acc.length).length ≤ 1000000) : acc.length + (YS S n x p' s' acc.length).length ≤ 999999:=by
 rw [YS] at h
 simp only [hx,hd,List.length_append,List.length_cons,List.length_nil] at h
 omega
variable {a b : List Col} {c : Col}
end
theorem St.pickT {w0 w : World} {X : List Nat} {G0 G : GH} {A R : Own} (h : St w0 X G0 G (A ++ R) w) (is : List Nat) (hnd : is.Nodup:=by decide) (hlt : is.all (fun i=>decide (i < A.length)) = true:=by rfl) : St w0 X G0 G ((is.map fun i=>(A[i]?).getD none) ++ R) w:=by
 have hl : ∀ j,j < is.length → is.getD j 0 < A.length:=fun j hj=>by
  rw [List.getD_eq_getElem?_getD,List.getElem?_eq_getElem hj]
  exact of_decide_eq_true (List.all_eq_true.1 hlt _ (List.getElem_mem hj))
 refine h.reindex _ (fun j=>if j < is.length then is.getD j 0 else j - is.length + A.length) (fun j p hp=>?_) (fun j k hj hk he=>?_)
 ·by_cases hj : j < is.length
  ·have h1:=hl j hj
   simp only [if_pos hj]
   rw [List.getElem?_append_left (by rw [List.length_map]; exact hj),List.getElem?_map,List.getElem?_eq_getElem hj] at hp
   simp only [Option.map_some,Option.some.injEq] at hp
   rw [List.getD_eq_getElem?_getD,List.getElem?_eq_getElem hj] at h1 ⊢
   simp only [Option.getD_some] at h1 ⊢
   rw [List.getElem?_append_left h1]
   rw [List.getElem?_eq_getElem h1] at hp ⊢
   simp only [Option.getD_some] at hp
   rw [hp]
  ·simp only [if_neg hj]
   rw [List.getElem?_append_right (by rw [List.length_map]; omega),List.length_map] at hp
   rw [List.getElem?_append_right (by omega)]
   rw [show j - is.length + A.length - A.length = j - is.length by omega]; exact hp
 ·by_cases hj' : j < is.length <;> by_cases hk' : k < is.length
  ·simp only [if_pos hj',if_pos hk'] at he
   rw [List.getD_eq_getElem?_getD,List.getD_eq_getElem?_getD,List.getElem?_eq_getElem hj',List.getElem?_eq_getElem hk'] at he
   exact (List.getElem_inj hnd).1 (by simpa using he)
  ·have:=hl j hj'; simp only [if_pos hj',if_neg hk'] at he; omega
  ·have:=hl k hk'; simp only [if_neg hj',if_pos hk'] at he; omega
  ·simp only [if_neg hj',if_neg hk'] at he; omega
end Go.Civ
namespace Go.Civ
open Go.RowKit
set_option linter.unusedVariables false
structure Pln where
 steps : List Stp
 cols : List Col
def PlnE : Enc Pln:=(Enc.pair (StpE.slice 280) (ColE.slice 24)).via fun x=>(x.steps,x.cols)
section
variable {G : GH} {cs : List Value}
theorem Za8 {x : Pln} (h : PlnE.rep G x cs) : ∃ sv cv,cs = [sv,cv] ∧ Sl StpE 280 G sv x.steps ∧ Sl ColE 24 G cv x.cols:=by
 obtain ⟨_,_,rfl,⟨sv,rfl,hs⟩,cv,rfl,hc⟩:=h
 exact ⟨sv,cv,rfl,hs,hc⟩
theorem QN (x : Pln) {sv cv : Value} (h1 : Sl StpE 280 G sv x.steps) (h2 : Sl ColE 24 G cv x.cols) : PlnE.rep G x [sv,cv]:=⟨[sv],[cv],rfl,⟨sv,rfl,h1⟩,cv,rfl,h2⟩
end
noncomputable def ofT (q : Query) (S : List Schema) : Pln × Int:=if (X9 (Y7 q) q S).2 ≠ 0 then (⟨[],[]⟩,(X9 (Y7 q) q S).2) else (⟨YS S (Y7 q) q Zrp true 0,(X9 (Y7 q) q S).1⟩,0)
section
variable {n : Nat} {q x y : Query} {S : List Schema} {p : Span} {s : Bool} {k : Nat}
theorem Zw6 (h : (X9 (Y7 q) q S).2 ≠ 0) : Pln.mk [] [] = (ofT q S).1 ∧ (X9 (Y7 q) q S).2 = (ofT q S).2:=by unfold ofT; rw [if_pos h]; exact ⟨rfl,rfl⟩
theorem Zrs (h : (X9 (Y7 q) q S).2 = 0) : Pln.mk (([] : List Stp) ++ YS S (Y7 q) q (Span.mk (-62135596800) 253402300800) true ([] : List Stp).length) (X9 (Y7 q) q S).1 = (ofT q S).1 ∧ 0 = (ofT q S).2:=by
 unfold ofT; rw [if_neg (fun e=>e h)]; exact ⟨rfl,rfl⟩
theorem ZiB {f : Query → Int} (h0 : ∀ x,1 ≤ f x) : ∀ {l : List Query} {m : Int},m ≤ Xp f l m
 | [],m=>Int.le_refl _
 | z :: l,m=>by
  rw [Xp]
  split
  ·have h1:=@ZiB f h0 l (m + f z); have:=h0 z; omega
  ·exact Int.le_refl _
theorem Zgy : ∀ {n : Nat} {q : Query} {p : Span} {s : Bool} {k : Nat} {dep : Int},0 ≤ dep ∧ dep ≤ 13 → Y4 n q dep ≤ 60 → ((YS S n q p s k).length : Int) ≤ Y4 n q dep
 | 0,q,p,s,k,dep,_,h=>by rw [Y4] at h; omega
 | n + 1,q,p,s,k,dep,hd,h=>by
  rw [Y4] at h ⊢
  by_cases g1 : 12 < dep
  ·rw [if_pos g1] at h; omega
  rw [if_neg g1] at h ⊢
  by_cases g2 : Xd (n + 1) q = false
  ·rw [if_pos g2] at h; omega
  rw [if_neg g2] at h ⊢
  have h0 : ∀ x,1 ≤ Y4 n x (dep + 1):=fun x=>(Ze2 n x (dep + 1) (by omega)).1
  rw [YS]
  match e : q.l with
  | []=>simp [Xp]
  | [a]=>
   rw [e] at h
   simp only [Xp] at h ⊢
   have hu : Y4 n a (dep + 1) ≤ 60:=by rw [if_pos (by decide)] at h; omega
   have i1:=Zgy (p:=(ndT q p s).1) (s:=(ndT q p s).2) (k:=k) (show 0 ≤ dep + 1 ∧ dep + 1 ≤ 13 by omega) hu
   simp only [List.length_append,List.length_cons,List.length_nil,List.getElem?_cons_zero,List.getElem?_cons_succ,List.getElem?_nil]
   rw [if_pos (by decide)]; omega
  | a :: b :: r=>
   rw [e] at h
   have up:=@ZiB (fun x=>Y4 n x (dep + 1)) h0 (b :: r) (1 + Y4 n a (dep + 1))
   have e1 : Xp (fun x=>Y4 n x (dep + 1)) (a :: b :: r) 1 = Xp (fun x=>Y4 n x (dep + 1)) (b :: r) (1 + Y4 n a (dep + 1)):=by rw [Xp,if_pos (by decide)]
   rw [e1] at h ⊢
   have ha : 1 + Y4 n a (dep + 1) ≤ 60:=by omega
   have e2 : Xp (fun x=>Y4 n x (dep + 1)) (b :: r) (1 + Y4 n a (dep + 1)) = Xp (fun x=>Y4 n x (dep + 1)) r (1 + Y4 n a (dep + 1) + Y4 n b (dep + 1)):=by rw [Xp,if_pos ha]
   have up2:=@ZiB (fun x=>Y4 n x (dep + 1)) h0 r (1 + Y4 n a (dep + 1) + Y4 n b (dep + 1))
   rw [e2] at h ⊢
   have hb : Y4 n b (dep + 1) ≤ 60:=by have:=h0 a; omega
   have i1:=Zgy (p:=(ndT q p s).1) (s:=(ndT q p s).2) (k:=k) (show 0 ≤ dep + 1 ∧ dep + 1 ≤ 13 by omega) (show Y4 n a (dep + 1) ≤ 60 by omega)
   have i2:=Zgy (p:=(ndT q p s).1) (s:=(ndT q p s).2) (k:=k + (YS S n a (ndT q p s).1 (ndT q p s).2 k).length) (show 0 ≤ dep + 1 ∧ dep + 1 ≤ 13 by omega) hb
   simp only [List.length_append,List.length_cons,List.length_nil,List.getElem?_cons_zero,List.getElem?_cons_succ]
   omega
theorem Zy1 (h : X8 n q = true) : (YS S n q p s k).length ≤ 60:=by
 have h1:=of_decide_eq_true h
 have:=Zgy (S:=S) (p:=p) (s:=s) (k:=k) (show (0 : Int) ≤ 1 ∧ (1 : Int) ≤ 13 by decide) h1
 omega
theorem Zlz : ∀ {n m : Nat} {q : Query} {p : Span} {s : Bool} {k : Nat},Xx q n → Xx q m → YS S n q p s k = YS S m q p s k
 | 0,_,q,_,_,_,h,_=>(ZaH h).elim
 | _ + 1,0,q,_,_,_,_,h=>(ZaH h).elim
 | n + 1,m + 1,q,p,s,k,h,h'=>by
  have e : ∀ x p s k,x ∈ q.l → YS S n x p s k = YS S m x p s k:=fun x p s k hx=>Zlz (XN h hx) (XN h' hx)
  rw [YS,YS]
  match e0 : q.l[0]?,e1 : q.l[1]? with
  | none,none=>rfl
  | some a,none=>simp only [e a _ _ _ (List.mem_of_getElem? e0)]
  | none,some b=>simp only [e b _ _ _ (List.mem_of_getElem? e1)]
  | some a,some b=>simp only [e a _ _ _ (List.mem_of_getElem? e0),e b _ _ _ (List.mem_of_getElem? e1)]
end
abbrev pw0 : Query:=⟨1,[116],[],[],noC,0,0,⟨0,0⟩,[]⟩
abbrev pwC : Cond:=⟨2,[97],[],⟨1,3,[]⟩,[]⟩
abbrev pw1 : Query:=⟨2,[],[],[],pwC,0,0,⟨0,0⟩,[pw0]⟩
abbrev pwQ : Query:=⟨8,[],[],[],noC,0,0,⟨0,10⟩,[pw1]⟩
abbrev pwL : List Schema:=[⟨[116],[⟨[97],1⟩],1,[]⟩]
abbrev pwD : Query:=⟨8,[],[],[],noC,0,0,⟨0,10⟩,[pw0]⟩
abbrev pwX : Query:=⟨2,[],[],[],pwC,0,0,⟨0,0⟩,[pwD]⟩
theorem Zp1 : Xx pwQ 1000:=Nat.le_of_ble_eq_true (by kernel_rfl)
theorem Zw7 : Xx pwX 1000:=Nat.le_of_ble_eq_true (by kernel_rfl)
theorem Zp2 : (X9 (Y7 pwQ) pwQ pwL).2 = 0:=by rw [Zrr (QI _) Zp1]; decide
theorem Zp3 : Yg pwL pwQ = pwX:=by
 have e0 : Yg pwL pw0 = pw0:=(Zro (q:=pw0) (by decide) (by decide)).symm
 have e1 : Yg pwL pw1 = pw1:=by
  rw [← Zrn (q:=pw1) (y:=pw0) rfl (by simp [e0])]
  exact (Zrl (x:=pw0) (by decide) (by decide) (by decide) (by decide) (by decide) (by decide) (by decide)).symm
 rw [← Zrm (q:=pwQ) (y:=pw1) rfl (by simp [e1]),← ZqQ (x:=pw1) (y:=pw0) (.inl rfl) rfl,← ZqR (x:=pw0) (by decide) (by decide) (by decide) (by decide) (by decide) (by decide) (by decide) (by decide)]
 rfl
theorem Zw8 : X8 (Y7 (Yg pwL pwQ)) (Yg pwL pwQ) = true:=by rw [Zp3,Zhi (QI _) Zw7]; decide
theorem ZnE : XZ pwQ pwL = (pwX,0):=by
 have h:=ZnB Zp2 Zw8
 rw [Zp3] at h
 exact Prod.ext h.1.symm h.2.symm
theorem Z0W : YS pwL (Y7 pwQ) pwQ Zrp true 0 = [⟨pw0, -1, -1,[],⟨0,10⟩⟩,⟨ZU pw1,0, -1,[],⟨0,0⟩⟩,⟨ZU pwQ,1, -1,[],⟨0,0⟩⟩]:=by
 rw [Zlz (QI _) Zp1]; rfl
theorem Zrt : (ofT pwQ pwL).2 = 0 ∧ (ofT pwQ pwL).1.steps = [⟨pw0, -1, -1,[],⟨0,10⟩⟩,⟨ZU pw1,0, -1,[],⟨0,0⟩⟩,⟨ZU pwQ,1, -1,[],⟨0,0⟩⟩]:=by
 have h:=Zrs Zp2
 refine ⟨h.2.symm,?_⟩
 rw [← h.1]; exact Z0W
end Go.Civ
namespace Go.Civ
open Go.RowKit
set_option linter.unusedVariables false
def ZT (k : Int) : Int:=if k = 1 then 0 else if k = 5 ∨ k = 6 ∨ k = 7 ∨ k = 10 then 2 else 1
def scQ (s : Str) : Query:=⟨1,s,[],[],noC,0,0,⟨0,0⟩,[]⟩
abbrev scT : Query:=scQ [116]
def Zhj (k : Int) : List Query:=List.replicate (ZT k).toNat scT
def Ye (q : Query) : Query:=Ym q (if 1 ≤ q.kind ∧ q.kind ≤ 10 then Zhj q.kind else [])
section
variable {k n : Nat} {q x : Query} {u : Int}
theorem Zbq : 0 ≤ ZT u ∧ ZT u ≤ 2:=by unfold ZT; split <;> (try split) <;> omega
theorem ZnF (h : u = 1) : 0 = ZT u:=by unfold ZT; rw [if_pos h]
theorem Zdc (h : u = 5 ∨ u = 6 ∨ u = 7 ∨ u = 10) : 2 = ZT u:=by unfold ZT; rw [if_neg (by omega),if_pos h]
theorem ZnG (h1 : ¬ u = 1) (h : ¬ (u = 5 ∨ u = 6 ∨ u = 7 ∨ u = 10)) : 1 = ZT u:=by unfold ZT; rw [if_neg h1,if_neg h]
theorem Zy2 (h : 1 ≤ q.kind ∧ q.kind ≤ 10) (hk : ZT q.kind ≤ (k : Int)) (hk2 : (k : Int) ≤ ZT q.kind) : Ym q (List.replicate k scT) = Ye q:=by
 unfold Ye Zhj; rw [if_pos h]; congr 2; omega
theorem ZsO (h : ¬ (1 ≤ q.kind ∧ q.kind ≤ 10)) : Ym q [] = Ye q:=by unfold Ye; rw [if_neg h]
theorem ZnH : List.replicate k scT ++ [scT] = List.replicate (k + 1) scT:=by rw [List.replicate_succ']
end
end Go.Civ
namespace Go.Civ
open Go.RowKit
set_option linter.unusedVariables false
def Y8 : Nat → Cond → Int → Int → Bool × Int
 | 0,_,_,m=>(false,m)
 | n + 1,c,dep,m=>if 1 ≤ m ∧ dep ≤ 20 ∧ c.col.length ≤ 60 ∧ c.oth.length ≤ 60 ∧ c.v.s.length ≤ 60 then YM (fun x i=>Y8 n x (dep + 1) i) c.l (m - 1) else (false,m - 1)
def Zib (q : Query) : Bool:=(q.cols ++ q.names).any fun s=>decide (60 < (s.length : Int))
def YW : Nat → Query → Int → Int → Bool × Int
 | 0,_,_,m=>(false,m)
 | n + 1,q,dep,m=>if 1 ≤ m ∧ dep ≤ 20 ∧ q.table.length ≤ 60 ∧ q.cols.length ≤ 20 ∧ q.names.length ≤ 20 then
   (if (Y8 (n + 1) q.cond 0 (m - 1)).1 = true then (if Zib q = true then (false,(Y8 (n + 1) q.cond 0 (m - 1)).2) else YM (fun x i=>YW n x (dep + 1) i) q.l (Y8 (n + 1) q.cond 0 (m - 1)).2) else (false,(Y8 (n + 1) q.cond 0 (m - 1)).2))
   else (false,m - 1)
section
variable {n : Nat} {c : Cond} {q : Query} {dep m : Int}
theorem Zb9 (h : ¬ (1 ≤ m ∧ dep ≤ 20 ∧ c.col.length ≤ 60 ∧ c.oth.length ≤ 60 ∧ c.v.s.length ≤ 60)) : false = (Y8 (n + 1) c dep m).1 ∧ m - 1 = (Y8 (n + 1) c dep m).2:=by unfold Y8; rw [if_neg h]; exact ⟨rfl,rfl⟩
theorem ZmN (h : 1 ≤ m ∧ dep ≤ 20 ∧ c.col.length ≤ 60 ∧ c.oth.length ≤ 60 ∧ c.v.s.length ≤ 60) : YM (fun x i=>Y8 n x (dep + 1) i) c.l (m - 1) = Y8 (n + 1) c dep m:=by
 conv=>rhs; unfold Y8
 rw [if_pos h]
theorem ZbA (h : ¬ (1 ≤ m ∧ dep ≤ 20 ∧ q.table.length ≤ 60 ∧ q.cols.length ≤ 20 ∧ q.names.length ≤ 20)) : false = (YW (n + 1) q dep m).1 ∧ m - 1 = (YW (n + 1) q dep m).2:=by unfold YW; rw [if_neg h]; exact ⟨rfl,rfl⟩
theorem ZsP (h : 1 ≤ m ∧ dep ≤ 20 ∧ q.table.length ≤ 60 ∧ q.cols.length ≤ 20 ∧ q.names.length ≤ 20) (h2 : (Y8 (n + 1) q.cond 0 (m - 1)).1 = false) : false = (YW (n + 1) q dep m).1 ∧ (Y8 (n + 1) q.cond 0 (m - 1)).2 = (YW (n + 1) q dep m).2:=by
 unfold YW; rw [if_pos h,if_neg (by rw [h2]; simp)]; exact ⟨rfl,rfl⟩
theorem Zg0 (h : 1 ≤ m ∧ dep ≤ 20 ∧ q.table.length ≤ 60 ∧ q.cols.length ≤ 20 ∧ q.names.length ≤ 20) (h2 : (Y8 (n + 1) q.cond 0 (m - 1)).1 = true) (h3 : Zib q = true) : false = (YW (n + 1) q dep m).1 ∧ (Y8 (n + 1) q.cond 0 (m - 1)).2 = (YW (n + 1) q dep m).2:=by
 unfold YW; rw [if_pos h,if_pos h2,if_pos h3]; exact ⟨rfl,rfl⟩
theorem ZmO (h : 1 ≤ m ∧ dep ≤ 20 ∧ q.table.length ≤ 60 ∧ q.cols.length ≤ 20 ∧ q.names.length ≤ 20) (h2 : (Y8 (n + 1) q.cond 0 (m - 1)).1 = true) (h3 : Zib q = false) : YM (fun x i=>YW n x (dep + 1) i) q.l (Y8 (n + 1) q.cond 0 (m - 1)).2 = YW (n + 1) q dep m:=by
 conv=>rhs; unfold YW
 rw [if_pos h,if_pos h2,if_neg (by rw [h3]; simp)]
end
def NB (p : Bool × Int) : Prop:=-1 ≤ p.2 ∧ p.2 ≤ 120 ∧ (p.1 = true → 0 ≤ p.2)
theorem ZiD {α : Type} {f : α → Int → Bool × Int} (hf : ∀ x m,0 ≤ m → m ≤ 120 → NB (f x m)) : ∀ {l : List α} {n : Int},0 ≤ n → n ≤ 120 → NB (YM f l n)
 | [],n,h1,h2=>⟨by show -1 ≤ n; omega,h2,fun _=>h1⟩
 | x :: r,n,h1,h2=>by
  obtain ⟨a,b,c⟩:=hf x n h1 h2
  unfold YM
  split
  ·rename_i q; exact ZiD hf (c q) b
  ·exact ⟨a,b,fun h=>by cases h⟩
theorem Ze5 : ∀ (n : Nat) (c : Cond) (dep m : Int),0 ≤ m → m ≤ 120 → NB (Y8 n c dep m)
 | 0,c,dep,m,h1,h2=>⟨by show -1 ≤ m; omega,h2,fun h=>by cases h⟩
 | n + 1,c,dep,m,h1,h2=>by
  unfold Y8
  split
  ·rename_i q
   exact ZiD (fun x i a b=>Ze5 n x (dep + 1) i a b) (by omega) (by omega)
  ·exact ⟨by show -1 ≤ m - 1; omega,by show m - 1 ≤ 120; omega,fun h=>by cases h⟩
theorem Zl0 : ∀ (n : Nat) (q : Query) (dep m : Int),0 ≤ m → m ≤ 120 → NB (YW n q dep m)
 | 0,c,dep,m,h1,h2=>⟨by show -1 ≤ m; omega,h2,fun h=>by cases h⟩
 | n + 1,q,dep,m,h1,h2=>by
  unfold YW
  split
  ·rename_i g
   have hb:=Ze5 (n + 1) q.cond 0 (m - 1) (by omega) (by omega)
   split
   ·rename_i g2
    split
    ·exact ⟨hb.1,hb.2.1,fun h=>by cases h⟩
    ·exact ZiD (fun x i a b=>Zl0 n x (dep + 1) i a b) (hb.2.2 g2) hb.2.1
   ·exact ⟨hb.1,hb.2.1,fun h=>by cases h⟩
  ·exact ⟨by show -1 ≤ m - 1; omega,by show m - 1 ≤ 120; omega,fun h=>by cases h⟩
end Go.Civ
namespace Go.Civ
open Go.RowKit
theorem Zw9 {m i : Int} {p : Bool × Int} (h : NB p) (hm : p.1 = true) : 0 ≤ p.2 ∧ p.2 ≤ 120:=⟨h.2.2 hm,h.2.1⟩
theorem ZwA {p : Bool × Int} (h : NB p) : Zj p.2:=by obtain ⟨a,b,_⟩:=h; constructor <;> omega
theorem Zuw {n : Nat} {x : Cond} {dep m : Int} (h1 : (!(Y8 n x dep m).1) = false) (h2 : 0 ≤ m ∧ m ≤ 120) : 0 ≤ (Y8 n x dep m).2 ∧ (Y8 n x dep m).2 ≤ 120:=
 ⟨(Ze5 n x dep m h2.1 h2.2).2.2 (by simpa using h1),(Ze5 n x dep m h2.1 h2.2).2.1⟩
theorem Zux {n : Nat} {x : Query} {dep m : Int} (h1 : (!(YW n x dep m).1) = false) (h2 : 0 ≤ m ∧ m ≤ 120) : 0 ≤ (YW n x dep m).2 ∧ (YW n x dep m).2 ≤ 120:=
 ⟨(Zl0 n x dep m h2.1 h2.2).2.2 (by simpa using h1),(Zl0 n x dep m h2.1 h2.2).2.1⟩
section
variable {l : List Schema} {s : Schema} {k : Nat} {q : Query}
end
theorem YX.freezeL {α : Type} {E : Enc α} {by_ : Nat} {e : TypeId} {v : Value} {l : List α} {o : Option (Nat × TypeId × List Value)} {w0 w : World} {G0 G : GH} {L : Own} {pb : Nat} {e2 : TypeId} {cs2 : List Value} (h : YX E by_ e G v l o) (hS : St w0 [pb] G0 G L w) (i j : Nat) (hi : L[i]? = some o) (hj : L[j]? = some (some (pb,e2,cs2))) (hne : i ≠ j:=by decide) :
  ∃ G',G.le G' ∧ Sl E by_ G' v l ∧ St w0 [pb] G0 G' (L.set i none) w:=by
 rcases h with ⟨rfl,rfl,rfl⟩ | ⟨b,cs,cap,xs,rfl,rfl,h3,h4,h5,h6,h7,h8,h9⟩
 ·exact ⟨G,G.le_refl,Sl.nil _ _ _,hS.drop i⟩
 ·have hb : w0.heap.size ≤ b:=by
   rcases (hS.sep i _ hi).1 with h | h
   ·exact h
   ·exact absurd (hS.nd i j _ _ hi hj (List.mem_singleton.1 h)) hne
  have f:=hS.freeze i hi hb
  have hG : G b = none:=(hS.sep i _ hi).2
  have hle:=G.add_le (.cells cs.toArray e) hG
  refine ⟨_,hle,⟨some ⟨b,0,none⟩,cap,rfl,h3,h8,h9,fun j x hx=>⟨_,rfl,rfl,?_⟩⟩,f⟩
  refine (h6.mono hle).rows (p:=⟨b,0,none⟩) ⟨rfl,_,_,_,GH.add_at _ _ _,fun q u hu=>?_⟩ j x hx
  rw [← h7,List.getElem?_take] at hu
  split at hu
  ·simpa using hu
  ·cases hu
section
variable {s : Schema}
end
end Go.Civ
namespace Go.Civ
open Go.RowKit
set_option linter.unusedVariables false
def kyB (k : Int × Int) : Bool:=decide (0 ≤ k.1) && decide (0 ≤ k.2) && decide (k.1 < 8) && decide (k.2 < 8)
def Zeg (s : Stp) : Bool:=decide (s.span = ⟨0,0⟩) || (decide (s.q.kind = 1) && ZF s.span)
noncomputable def Qg (s : Stp) : Bool:=
 decide ((s.q.l.length : Int) = 0) && (X8 (Y7 (Ye s.q)) (Ye s.q) && (decide ((s.keys.length : Int) ≤ 8) && ((decide ((s.keys.length : Int) = 0) || decide (s.q.kind = 5)) && (s.keys.all kyB && Zeg s))))
def Zar (k i : Int) (need : Bool) : Bool:=if need = true then decide (0 ≤ k) && decide (k < i) else decide (k = -1)
noncomputable def Xu (s : Stp) (i : Int) : Bool:=Qg s && (Zar s.a i (decide (1 ≤ ZT s.q.kind)) && Zar s.b i (decide (ZT s.q.kind = 2)))
def ZaS (l : List Int) (x : Int) : List Int:=if 0 ≤ x then l.set x.toNat ((l[x.toNat]?).getD 0 + 1) else l
def Ql (n : Nat) (l : List Stp) : List Int:=l.foldl (fun u s=>ZaS (ZaS u s.a) s.b) (List.replicate n 0)
noncomputable def Zfa (l : List Stp) : Bool:=l.zipIdx.all fun p=>Xu p.1 p.2
def Zbx (l : List Col) (j : Nat) (c : Col) : Bool:=X5 c.name && !(l.take j).any fun d=>decide (d.name = c.name)
def Zg1 (l : List Col) : Bool:=l.zipIdx.all fun p=>Zbx l p.2 p.1
def Zbr (l : List Int) : Bool:=decide (l[l.length - 1]? = some 0) && (l.take (l.length - 1)).all fun k=>decide (k = 1)
noncomputable def XC (p : Pln) : Bool:=
 decide (1 ≤ p.steps.length) && (decide (p.steps.length ≤ 60) && (decide (1 ≤ p.cols.length) && (decide (p.cols.length ≤ 8) && (Zg1 p.cols && (Zfa p.steps && Zbr (Ql p.steps.length p.steps))))))
section
variable {s : Stp} {p : Pln} {l : List Stp} {u : List Int} {k n : Nat} {x i : Int} {c : Col} {cs : List Col}
theorem Zp5 {α : Type} {P : Nat → α → Bool} {l : List α} {k : Nat} {a : α} (h : l[k]? = some a) (hs : P k a = false) : (l.zipIdx.all fun p=>P p.2 p.1) = false:=by
 rw [Bool.eq_false_iff]
 intro e
 rw [List.all_eq_true] at e
 have:=e (a,k) (List.mem_zipIdx_iff_getElem?.2 h)
 simp only at this
 rw [hs] at this; cases this
theorem ZmP {α : Type} {P : Nat → α → Bool} {l : List α} {k : Nat} (h : ∀ j,j < k → ∀ a,l[j]? = some a → P j a = true) (hk : l.length ≤ k) : (l.zipIdx.all fun p=>P p.2 p.1) = true:=by
 rw [List.all_eq_true]
 rintro ⟨a,j⟩ hm
 have hj:=List.mem_zipIdx_iff_getElem?.1 hm
 exact h j (Nat.lt_of_lt_of_le (List.getElem?_eq_some_iff.1 hj).1 hk) a hj
theorem ZcQ (h : ¬ (s.q.l.length : Int) = 0) : false = Qg s:=by unfold Qg; rw [decide_eq_false h]; rfl
theorem ZwB (h : X8 (Y7 (Ye s.q)) (Ye s.q) = false) : false = Qg s:=by unfold Qg; rw [h]; simp
theorem ZwC (h : ¬ (s.keys.length : Int) ≤ 8) : false = Qg s:=by unfold Qg; rw [decide_eq_false h]; simp
theorem ZwD (h : ¬ (s.keys.length : Int) = 0) (h2 : ¬ s.q.kind = 5) : false = Qg s:=by unfold Qg; rw [decide_eq_false h,decide_eq_false h2]; simp
theorem ZiE {y : Int × Int} (h : s.keys[k]? = some y) (h2 : ¬ (0 ≤ y.1 ∧ 0 ≤ y.2 ∧ y.1 < 8 ∧ y.2 < 8)) : false = Qg s:=by
 have : s.keys.all kyB = false:=List.all_eq_false.2 ⟨y,List.mem_of_getElem? h,by unfold kyB; simp only [Bool.and_eq_true,decide_eq_true_eq]; omega⟩
 unfold Qg; rw [this]; simp
theorem Zl1 {y : Int × Int} (h2 : 0 ≤ y.1 ∧ 0 ≤ y.2 ∧ y.1 < 8 ∧ y.2 < 8) : kyB y = true:=by unfold kyB; simp only [Bool.and_eq_true,decide_eq_true_eq]; omega
theorem ZfV (h1 : (s.q.l.length : Int) = 0) (h2 : X8 (Y7 (Ye s.q)) (Ye s.q) = true) (h3 : (s.keys.length : Int) ≤ 8) (h4 : (s.keys.length : Int) = 0 ∨ s.q.kind = 5) (h5 : ∀ j,j < k → ∀ y,s.keys[j]? = some y → kyB y = true) (hk : s.keys.length ≤ k) : Zeg s = Qg s:=by
 have h6 : s.keys.all kyB = true:=Zbk h5 hk
 unfold Qg; rw [decide_eq_true h1,h2,decide_eq_true h3,h6]
 rcases h4 with h | h <;> rw [decide_eq_true h] <;> simp
theorem Zch (h : s.span = ⟨0,0⟩) : true = Zeg s:=by unfold Zeg; rw [decide_eq_true h]; rfl
theorem Zhm (h : ¬ s.span = ⟨0,0⟩) : (decide (s.q.kind = 1) && ZF s.span) = Zeg s:=by unfold Zeg; rw [decide_eq_false h]; rfl
theorem Zl2 : (ZaS u x).length = u.length:=by unfold ZaS; split <;> simp
theorem Zic : (Ql n l).length = n:=by
 unfold Ql
 have : ∀ (l : List Stp) (u : List Int),(l.foldl (fun u s=>ZaS (ZaS u s.a) s.b) u).length = u.length:=by
  intro l
  induction l with
  | nil=>intro u; rfl
  | cons s l ih=>intro u; rw [List.foldl_cons,ih,Zl2,Zl2]
 rw [this]; simp
theorem Zid (h : l[k]? = some s) : Ql n (l.take (k + 1)) = ZaS (ZaS (Ql n (l.take k)) s.a) s.b:=by
 unfold Ql; rw [List.take_add_one,h]; simp
theorem Zp6 (h : x = -1) : ZaS u x = u:=by unfold ZaS; rw [if_neg (by omega)]
theorem ZfW {y : Int} (h0 : 0 ≤ x) (h : u[x.toNat]? = some y) : u.set x.toNat (y + 1) = ZaS u x:=by unfold ZaS; rw [if_pos h0,h]; rfl
def smU (u : List Int) (m : Int) : Prop:=∀ y ∈ u,0 ≤ y ∧ y ≤ m
theorem Zy3 : smU (List.replicate n 0) 0:=fun y hy=>by rw [(List.mem_replicate.1 hy).2]; omega
theorem Zg2 {m : Int} (h : smU u m) (hm : 0 ≤ m) : smU (ZaS u x) (m + 1):=fun y hy=>by
 unfold ZaS at hy
 split at hy
 ·rcases List.mem_or_eq_of_mem_set hy with hy | rfl
  ·have:=h y hy; omega
  ·cases e : u[x.toNat]? with
   | none=>simp; omega
   | some z=>have:=h z (List.mem_of_getElem? e); simp; omega
 ·have:=h y hy; omega
theorem ZjR : ∀ k : Nat,smU (Ql n (l.take k)) (2 * k)
 | 0=>by unfold Ql; exact Zy3
 | k + 1=>by
  cases h : l[k]? with
  | none=>
   have e : l.take (k + 1) = l.take k:=by rw [List.take_add_one,h]; simp
   rw [e]
   intro y hy; have:=ZjR k y hy; omega
  | some s=>
   rw [Zid h]
   intro y hy
   have:=Zg2 (x:=s.b) (Zg2 (x:=s.a) (ZjR k) (by omega)) (by omega) y hy
   omega
theorem ZfX {m : Int} {y : Int} (h : smU u m) (hy : u[k]? = some y) : 0 ≤ y ∧ y ≤ m:=h y (List.mem_of_getElem? hy)
theorem ZwE (h : Qg s = false) : Xu s i = false:=by unfold Xu; rw [h]; rfl
theorem Zfb (h : ¬ (1 ≤ p.steps.length ∧ p.steps.length ≤ 60 ∧ 1 ≤ p.cols.length ∧ p.cols.length ≤ 8)) : false = XC p:=by
 have : XC p ≠ true:=fun e=>h (by unfold XC at e; simp only [Bool.and_eq_true,decide_eq_true_eq] at e; exact ⟨e.1,e.2.1,e.2.2.1,e.2.2.2.1⟩)
 exact ((Bool.not_eq_true _).mp this).symm
theorem ZnI (h : Zg1 p.cols = false) : false = XC p:=by unfold XC; rw [h]; simp
theorem Zl4 (h : Zfa p.steps = false) : false = XC p:=by unfold XC; rw [h]; simp
theorem Zru (h : 1 ≤ p.steps.length ∧ p.steps.length ≤ 60 ∧ 1 ≤ p.cols.length ∧ p.cols.length ≤ 8) (h2 : Zg1 p.cols = true) (h3 : Zfa p.steps = true) : Zbr (Ql p.steps.length p.steps) = XC p:=by
 unfold XC; rw [decide_eq_true h.1,decide_eq_true h.2.1,decide_eq_true h.2.2.1,decide_eq_true h.2.2.2,h2,h3]; simp
theorem ZjS (h : cs[k]? = some c) (hs : Zbx cs k c = false) : Zg1 cs = false:=Zp5 (P:=fun j c=>Zbx cs j c) h hs
theorem Zp7 (h : ∀ j,j < k → ∀ c,cs[j]? = some c → Zbx cs j c = true) (hk : cs.length ≤ k) : Zg1 cs = true:=ZmP (P:=fun j c=>Zbx cs j c) h hk
theorem Zie (h : l[k]? = some s) (hs : Xu s k = false) : Zfa l = false:=Zp5 (P:=fun j s=>Xu s (j : Int)) h hs
theorem Zp8 (h : ∀ j,j < k → ∀ s,l[j]? = some s → Xu s (j : Int) = true) (hk : l.length ≤ k) : Zfa l = true:=ZmP (P:=fun j s=>Xu s (j : Int)) h hk
theorem ZwF (h : X5 c.name = false) : Zbx cs k c = false:=by unfold Zbx; rw [h]; rfl
theorem ZwG (h : ((cs.take k).any fun d=>decide (d.name = c.name)) = true) : Zbx cs k c = false:=by unfold Zbx; rw [h]; simp
theorem ZwH (h : X5 c.name = true) (h2 : ((cs.take k).any fun d=>decide (d.name = c.name)) = false) : Zbx cs k c = true:=by unfold Zbx; rw [h,h2]; rfl
theorem Zy4 {i : Int} {s : Stp} (hr : Qg s = true) (ha : if 1 ≤ ZT s.q.kind then 0 ≤ s.a ∧ s.a < i else s.a = -1) (hb : if ZT s.q.kind = 2 then 0 ≤ s.b ∧ s.b < i else s.b = -1) : Xu s i = true:=by
 unfold Xu Zar
 rw [hr,Bool.true_and]
 split at ha <;> split at hb <;> simp_all
theorem ZsQ {i : Int} {s : Stp} (ha : ¬ if 1 ≤ ZT s.q.kind then 0 ≤ s.a ∧ s.a < i else s.a = -1) : Xu s i = false:=by
 unfold Xu Zar
 split at ha
 ·rename_i h
  have : (decide (0 ≤ s.a) && decide (s.a < i)) = false:=by rw [Bool.and_eq_false_iff]; simp only [decide_eq_false_iff_not]; omega
  simp [h,this]
 ·rename_i h; simp [h,ha]
theorem ZsR {i : Int} {s : Stp} (hb : ¬ if ZT s.q.kind = 2 then 0 ≤ s.b ∧ s.b < i else s.b = -1) : Xu s i = false:=by
 unfold Xu Zar
 split at hb
 ·rename_i h
  have : (decide (0 ≤ s.b) && decide (s.b < i)) = false:=by rw [Bool.and_eq_false_iff]; simp only [decide_eq_false_iff_not]; omega
  simp [h,this]
 ·rename_i h; simp [h,hb]
theorem Zp9 {m : Nat} {y : Int} (hm : u.length = m) (hy : u[m - 1]? = some y) : (decide (y = 0) && !((u.take (m - 1)).any fun k=>!decide (k = 1))) = Zbr u:=by
 subst hm
 unfold Zbr; rw [hy]
 simp [List.all_eq_not_any_not]
theorem ZwI {m : Nat} {y : Int} (hm : u.length = m) (hy : u[m - 1]? = some y) (h : ¬ y = 0) : false = Zbr u:=by rw [← Zp9 hm hy,decide_eq_false h]; rfl
end
section
variable {s : Stp} {i : Int} {p : Pln} {k : Nat}
structure RgS (s : Stp) : Prop where
 l0 : (s.q.l.length : Int) = 0
 vl : X8 (Y7 (Ye s.q)) (Ye s.q) = true
 sp : s.span = ⟨0,0⟩ ∨ (s.q.kind = 1 ∧ ZF s.span = true)
theorem Zif (h : Qg s = true) : RgS s:=by
 unfold Qg Zeg at h
 simp only [Bool.and_eq_true,Bool.or_eq_true,decide_eq_true_eq] at h
 exact ⟨h.1,h.2.1,h.2.2.2.2.2⟩
theorem Zdx (h : XC p = true) (hs : p.steps[k]? = some s) : Xu s k = true:=by
 unfold XC Zfa at h
 simp only [Bool.and_eq_true] at h
 have:=List.all_eq_true.1 h.2.2.2.2.2.1 (s,k) (List.mem_zipIdx_iff_getElem?.2 hs)
 exact this
theorem Zig (h : XC p = true) : 1 ≤ p.steps.length ∧ p.steps.length ≤ 60:=by
 unfold XC at h
 simp only [Bool.and_eq_true,decide_eq_true_eq] at h
 exact ⟨h.1,h.2.1⟩
theorem ZjT (h : Xu s i = true) : Qg s = true:=by unfold Xu at h; simp only [Bool.and_eq_true] at h; exact h.1
theorem ZwJ (h : Xu s i = true) : (if 1 ≤ ZT s.q.kind then 0 ≤ s.a ∧ s.a < i else s.a = -1) ∧ (if ZT s.q.kind = 2 then 0 ≤ s.b ∧ s.b < i else s.b = -1):=by
 unfold Xu Zar at h
 simp only [Bool.and_eq_true] at h
 refine ⟨?_,?_⟩
 ·have:=h.2.1
  by_cases e : 1 ≤ ZT s.q.kind <;> simp [e] at this ⊢ <;> exact this
 ·have:=h.2.2
  by_cases e : ZT s.q.kind = 2 <;> simp [e] at this ⊢ <;> exact this
end
end Go.Civ
