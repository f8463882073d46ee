/- Lemmas. -/
import Derived.Test.YtecneejegecmhaaGreatDoorK15
import Derived.Laws.Runes
import Derived.Lib.SplitLaws
import Derived.Lib.ItoaNum
import Derived.Lib.Replace
import Derived.Lib.Join
import Derived.Lib.Strings
set_option linter.unusedVariables false
set_option linter.unusedSimpArgs false
set_option linter.unnecessarySimpa false
namespace Go.Civ
open Go.RowKit
set_option linter.unusedVariables false
section
variable {P : Program} {Q : Exit → Env → World → Prop} {ρ : Env} {w w0 : World} {ops : Array Oper} {rest : List Oper} {K : Env → World → Prop}
variable {d : Nat} {ty : TypeId} {pos : String} {af : Array Edge} {g : Option (Nat × Bool)} {G G0 : GH} {X : List Nat} {L : Own}
theorem ZqY {t t' : TypeId} {x : Operand} (n : Int) (h0 : 0 ≤ n) (h1 : n < 128) (hs : P.underlying t = some (.int .i64)) (h : P.underlying t' = some (.int .i32))
  (hw : Region.wanted ⟨some d, .convert t t' x,ty,pos,af,g⟩ (Zu ops ρ) = true) (hx : ev ρ x = .int .i64 n)
  (kk : K (ZQ ρ d (.int .i32 n)) w) : OW P ops ⟨some d, .convert t t' x,ty,pos,af,g⟩ ρ w K:=by
 refine WL.val hw ?_ rfl kk
 have e : IntKind.i32.wrap n = n:=by simp [IntKind.wrap,IntKind.bits,IntKind.signed]; omega
 simp [execOp,hx,convert,Yt hs,Yt h,Conv.intToInt,Result.andThen,e]
theorem Zph (n : Int) (h0 : 0 ≤ n) (h1 : n < 128) : Utf8.encode n = ⟨#[UInt8.ofNat n.toNat]⟩:=by
 have hv : Utf8.valid n = true:=by simp [Utf8.valid]; omega
 unfold Utf8.encode
 simp only [hv,if_true]
 rw [if_pos (by omega)]
theorem Znu {t t' : TypeId} {x : Operand} (n : Int) (h0 : 0 ≤ n) (h1 : n < 128) (hs : P.underlying t = some (.int .i32)) (h : P.underlying t' = some .string)
  (hw : Region.wanted ⟨some d, .convert t t' x,ty,pos,af,g⟩ (Zu ops ρ) = true) (hx : ev ρ x = .int .i32 n)
  (kk : K (ZQ ρ d (Za [UInt8.ofNat n.toNat])) w) : OW P ops ⟨some d, .convert t t' x,ty,pos,af,g⟩ ρ w K:=by
 refine WL.val hw ?_ rfl kk
 have e:=run_convert_int_string w t t' .i32 n (by rw [hs]; rfl) h
 rw [Zph n h0 h1] at e
 simp [execOp,hx,e,Result.andThen,Za]
theorem ZfN {t e : TypeId} {x ix : Operand} {m : Nat} {ti : TI} (l : List Int) (n : Nat) (hlt : n < l.length) (hu : P.underlying t = some (.array m e)) (hm : l.length = m) (ht : Yj P e = some ti) (ha : ti.agg = false) (hsz : ti.size = 1)
  (hw : Region.wanted ⟨some d, .index t x ix,ty,pos,af,g⟩ (Zu ops ρ) = true) (hx : ev ρ x = .agg (l.map (Value.int .i64)).toArray) (hi : ev ρ ix = .int .i64 (n : Int))
  (k : ∀ c,l[n]? = some c → K (ZQ ρ d (.int .i64 c)) w) : OW P ops ⟨some d, .index t x ix,ty,pos,af,g⟩ ρ w K:=by
 have hv : ((l.map (Value.int .i64)).toArray)[n]? = some (.int .i64 l[n]):=by simp [hlt]
 have hA : (isAgg e).run P w = .ok false w:=by rw [Zbh ht,ha]
 have hZ : (sizeOf e).run P w = .ok 1 w:=by rw [Xt ht,hsz]
 refine WL.val hw ?_ rfl (k l[n] (List.getElem?_eq_getElem hlt))
 have hc : (0 : Int) ≤ (n : Int) ∧ (n : Int) < (m : Nat):=by omega
 simp only [execOp,hx,hi,Instr.index,asIntOf,map_eq_pure_bind,Sem.run_bind,Sem.run_pure,Yt hu,Result.andThen]
 rw [if_pos hc]
 simp only [Sem.run_bind,hZ,hA,Result.andThen,Int.toNat_natCast,Nat.mul_one,Go.part]
 simp [hA,hv]
theorem Zdv {t e : TypeId} {x ix : Operand} {m : Nat} {ti : TI} (l : List Str) (n : Nat) (hlt : n < l.length) (hu : P.underlying t = some (.array m e)) (hm : l.length = m) (ht : Yj P e = some ti) (ha : ti.agg = false) (hsz : ti.size = 1)
  (hw : Region.wanted ⟨some d, .index t x ix,ty,pos,af,g⟩ (Zu ops ρ) = true) (hx : ev ρ x = .agg (l.map Za).toArray) (hi : ev ρ ix = .int .i64 (n : Int))
  (k : ∀ c,l[n]? = some c → K (ZQ ρ d (Za c)) w) : OW P ops ⟨some d, .index t x ix,ty,pos,af,g⟩ ρ w K:=by
 have hv : ((l.map Za).toArray)[n]? = some (Za l[n]):=by simp [hlt]
 have hA : (isAgg e).run P w = .ok false w:=by rw [Zbh ht,ha]
 have hZ : (sizeOf e).run P w = .ok 1 w:=by rw [Xt ht,hsz]
 refine WL.val hw ?_ rfl (k l[n] (List.getElem?_eq_getElem hlt))
 have hc : (0 : Int) ≤ (n : Int) ∧ (n : Int) < (m : Nat):=by omega
 simp only [execOp,hx,hi,Instr.index,asIntOf,map_eq_pure_bind,Sem.run_bind,Sem.run_pure,Yt hu,Result.andThen]
 rw [if_pos hc]
 simp only [Sem.run_bind,hZ,hA,Result.andThen,Int.toNat_natCast,Nat.mul_one,Go.part]
 simp [hA,hv]
theorem Zdl {a b : Int} (ha : Zj a) (hb : 1 ≤ b) : Zj (Int.tdiv a b):=by
 have h1 : (a.tdiv b).natAbs ≤ a.natAbs:=by rw [Int.natAbs_tdiv]; exact Nat.div_le_self _ _
 have h2 : 0 ≤ a → 0 ≤ a.tdiv b:=fun h=>Int.tdiv_nonneg h (by omega)
 have h5 : a ≤ 0 → 0 ≤ (-a).tdiv b:=fun h=>Int.tdiv_nonneg (by omega) (by omega)
 rw [Int.neg_tdiv] at h5
 obtain ⟨h3,h4⟩:=ha
 generalize a.tdiv b = q at h1 h2 h5
 constructor <;> omega
theorem ZbT {a b : Int} (ha : Zj a) (hb : 1 ≤ b) : Zj (Int.tmod a b):=by
 have h1 : (a.tmod b).natAbs ≤ a.natAbs:=by rw [Int.natAbs_tmod]; exact Nat.mod_le _ _
 have h2 : 0 ≤ a → 0 ≤ a.tmod b:=fun h=>Int.tmod_nonneg _ h
 obtain ⟨h3,h4⟩:=ha
 have h5 : a ≤ 0 → 0 ≤ (-a).tmod b:=fun h=>Int.tmod_nonneg _ (by omega)
 rw [Int.neg_tmod] at h5
 generalize a.tmod b = q at h1 h2 h5
 constructor <;> omega
theorem Zm8 {n : Nat} (h : n < 18446744073709551616) : IntKind.u64.wrap (n : Int) = (n : Int):=by simp [IntKind.wrap,IntKind.bits,IntKind.signed]; omega
theorem Zm9 {t ty' : TypeId} {x y : Operand} (a b : Nat) (h : a + b < 18446744073709551616)
  (hw : Region.wanted ⟨some d, .binOp .add t x y ty',ty,pos,af,g⟩ (Zu ops ρ) = true) (hx : ev ρ x = .int .u64 (a : Int)) (hy : ev ρ y = .int .u64 (b : Int))
  (kk : K (ZQ ρ d (.int .u64 ((a + b : Nat) : Int))) w) : OW P ops ⟨some d, .binOp .add t x y ty',ty,pos,af,g⟩ ρ w K:=by
 refine WL.val hw ?_ rfl kk
 have e:=Zm8 h
 rw [Int.natCast_add] at e
 simp [execOp,hx,hy,binOp,XV,Op.intArith,e,Result.andThen]
theorem ZmA {t ty' : TypeId} {x y : Operand} (a b : Nat) (h : a < 18446744073709551616 ∧ 0 < b)
  (hw : Region.wanted ⟨some d, .binOp .quo t x y ty',ty,pos,af,g⟩ (Zu ops ρ) = true) (hx : ev ρ x = .int .u64 (a : Int)) (hy : ev ρ y = .int .u64 (b : Int))
  (kk : K (ZQ ρ d (.int .u64 ((a / b : Nat) : Int))) w) : OW P ops ⟨some d, .binOp .quo t x y ty',ty,pos,af,g⟩ ρ w K:=by
 have h1 : a / b ≤ a:=Nat.div_le_self a b
 have e1 : Int.tdiv (a : Int) (b : Int) = ((a / b : Nat) : Int):=by rw [Int.tdiv_eq_ediv_of_nonneg (by omega)]; simp
 generalize a / b = q at h1 e1 kk
 refine WL.val hw ?_ rfl kk
 simp [execOp,hx,hy,binOp,XV,Op.intDiv,show b ≠ 0 by omega,e1,Zm8 (show q < 18446744073709551616 by omega),Result.andThen]
theorem ZmB {t ty' : TypeId} {x y : Operand} (a b : Nat) (h : 0 < b)
  (hw : Region.wanted ⟨some d, .binOp .rem t x y ty',ty,pos,af,g⟩ (Zu ops ρ) = true) (hx : ev ρ x = .int .u64 (a : Int)) (hy : ev ρ y = .int .u64 (b : Int))
  (kk : K (ZQ ρ d (.int .u64 ((a % b : Nat) : Int))) w) : OW P ops ⟨some d, .binOp .rem t x y ty',ty,pos,af,g⟩ ρ w K:=by
 have e1 : Int.tmod (a : Int) (b : Int) = ((a % b : Nat) : Int):=by rw [Int.tmod_eq_emod_of_nonneg (by omega)]; simp
 generalize a % b = q at e1 kk
 refine WL.val hw ?_ rfl kk
 simp [execOp,hx,hy,binOp,XV,Op.intDiv,show b ≠ 0 by omega,e1,Result.andThen]
theorem Zui {t ty' : TypeId} {x y : Operand} (a b : Nat)
  (hw : Region.wanted ⟨some d, .binOp .neq t x y ty',ty,pos,af,g⟩ (Zu ops ρ) = true) (hx : ev ρ x = .int .u64 (a : Int)) (hy : ev ρ y = .int .u64 (b : Int))
  (k1 : a ≠ b → K (ZQ ρ d (.bool true)) w) (k2 : ¬ a ≠ b → K (ZQ ρ d (.bool false)) w) : OW P ops ⟨some d, .binOp .neq t x y ty',ty,pos,af,g⟩ ρ w K:=by
 by_cases h : a = b
 ·refine WL.val hw ?_ rfl (k2 (fun e=>e h))
  simp [execOp,hx,hy,binOp,XV,Op.intCmp,h,Result.andThen]
 ·have h9 : ¬ (a : Int) = (b : Int):=by omega
  refine WL.val hw ?_ rfl (k1 h)
  simp [execOp,hx,hy,binOp,XV,Op.intCmp,h9,Result.andThen]
theorem Zlg {t t' : TypeId} {x : Operand} {k k' : IntKind} (n : Nat) (hs : P.underlying t = some (.int k)) (h : P.underlying t' = some (.int .u8))
  (hw : Region.wanted ⟨some d, .convert t t' x,ty,pos,af,g⟩ (Zu ops ρ) = true) (hx : ev ρ x = .int k' (n : Int))
  (kk : K (ZQ ρ d (.int .u8 ((UInt8.ofNat n).toNat : Int))) w) : OW P ops ⟨some d, .convert t t' x,ty,pos,af,g⟩ ρ w K:=
 Zez (n : Int) (by omega) hs h hw hx (by rw [Int.toNat_natCast]; exact kk)
theorem YX.ofArr (b : Nat) (e : TypeId) (m : Nat) (hm : m ≤ 1000) : YX Enc.u8 1 e G (.slice (some ⟨b,0,none⟩) m m) (List.replicate m 0) (some (b,e,List.replicate m (Value.int .u8 0))):=by
 have hf : Qx Enc.u8 G (List.replicate m 0) (List.replicate m (Value.int .u8 0)):=by
  have:=@Zmw G (List.replicate m 0)
  rw [List.map_replicate] at this
  exact this
 refine .inr ⟨b,_,m,List.replicate m (Value.int .u8 0),rfl,by rw [List.length_replicate],by rw [List.length_replicate]; exact Nat.le_refl _,?_,?_,hf,?_,?_,?_⟩ <;> first | rfl | omega | (simp [Enc.u8,reach]; done) | (simp [Enc.u8,reach]; omega) | (unfold maxLen; omega)
theorem Zcf {α : Type} {E : Enc α} {by_ : Nat} {e' : TypeId} {t e : TypeId} {x ix : Operand} {m cap b : Nat} {l : List α} {o : Option (Nat × TypeId × List Value)} {ti : TI} (hr : YX E by_ e' G (.slice (some ⟨b,0,none⟩) m cap) l o) (n : Nat) (hlt : n < l.length) (hu : P.underlying t = some (.array m e)) (ht : Yj P e = some ti) (hE : ti.size = E.n)
  (hw : Region.wanted ⟨some d, .indexAddr t x ix,ty,pos,af,g⟩ (Zu ops ρ) = true) (hx : ev ρ x = .pointer (some ⟨b,0,none⟩)) (hi : ev ρ ix = .int .i64 (n : Int))
  (k : ∀ p y ec,l[n]? = some y → E.rep G y ec → RowAt o E.n n p ec → K (ZQ ρ d (.pointer (some p))) w) : OW P ops ⟨some d, .indexAddr t x ix,ty,pos,af,g⟩ ρ w K:=by
 obtain ⟨b',cs,cap',ec,rfl,hv,h1,h2⟩:=hr.at n hlt
 simp only [Value.slice.injEq,Option.some.injEq,Addr.mk.injEq] at hv
 obtain ⟨⟨rfl,_,_⟩,rfl,rfl⟩:=hv
 refine Yy ⟨b,0,none⟩ l.length n (by simpa using hlt) hu ht hw hx hi ?_
 rw [YC _ _ rfl,hE,Nat.zero_add]
 exact k _ l[n] ec (List.getElem?_eq_getElem hlt) h1 h2
theorem ZgN {α : Type} {E : Enc α} {by_ : Nat} {t e : TypeId} {x lo : Operand} {m b : Nat} {l : List α} {ti : TI} (hs : Sl E by_ G (.slice (some ⟨b,0,none⟩) m m) l) (n : Nat) (hlt : n < l.length) (hu : P.underlying t = some (.array m e)) (ht : Yj P e = some ti) (hE : ti.size = E.n)
  (hw : Region.wanted ⟨some d, .slice t x (some lo) none none,ty,pos,af,g⟩ (Zu ops ρ) = true) (hx : ev ρ x = .pointer (some ⟨b,0,none⟩)) (hi : ev ρ lo = .int .i64 (n : Int))
  (k : ∀ v,Sl E by_ G v (l.drop n) → K (ZQ ρ d v) w) : OW P ops ⟨some d, .slice t x (some lo) none none,ty,pos,af,g⟩ ρ w K:=by
 have hml : m = l.length:=by
  obtain ⟨_,_,e,_⟩:=id hs
  simp only [Value.slice.injEq] at e
  exact e.2.1
 have e1 : P.arrayLen t = m:=by simp [Program.arrayLen,hu]
 have e2 : P.elem t = e:=by simp [Program.elem,hu]
 have hu' : P.underlying t = some (.array (P.arrayLen t) (P.elem t)):=by rw [e1,e2]; exact hu
 have run : (Instr.sliceAt t (.pointer (some ⟨b,0,none⟩)) (some (.int .i64 (n : Int))) none none).run P w = .ok (sliced (some ⟨b,0,none⟩) n m m E.n) w:=by
  rw [run_sliceAt_array_l w t ⟨b,0,none⟩ hu' .i64 (n : Int) (by omega) (by rw [e1]; omega),e2,Xt ht,hE,e1]
  simp only [Result.andThen,Int.toNat_natCast,slicedAt,sliced]
  split <;> rfl
 refine WL.val hw ?_ rfl (k _ (hs.dropV (by omega)))
 simp [execOp,hx,hi,run,Result.andThen]
theorem Zc1 {t e : TypeId} {n : Nat} {parts : Array (Nat × Operand)} {ti : TI} (ps : List (Nat × Value)) (pc : List (Nat × List Value)) (z0 : Value) (vs : List Value) (hS : St w0 X G0 G L w) (ht : TSl P t e ti) (hlim : Nat.ble n 16777216 = true) (hsz : ti.size = 1) (hz : ti.zero.cells = #[z0])
  (hw : Region.wanted ⟨some d, .buildSlice t n parts,ty,pos,af,g⟩ (Zu ops ρ) = true) (hps : parts.toList.map (fun q=>(q.1,ev ρ q.2)) = ps) (hpc : ps.map (fun q=>(q.1,q.2.cells.toList)) = pc)
  (hfill : Zal (ZaX n 1) pc (List.replicate n z0) = some (z0 :: vs))
  (k : ∀ b w',w0.heap.size ≤ b → St w0 X G0 G (some (b,e,z0 :: vs) :: L) w' → K (ZQ ρ d (.slice (some ⟨b,0,none⟩) n n)) w') : OW P ops ⟨some d, .buildSlice t n parts,ty,pos,af,g⟩ ρ w K:=by
 refine WL.val (w':={ w with heap:=w.heap.push (.cells (z0 :: vs).toArray e) }) hw ?_ rfl (k _ _ hS.kept.size (hS.alloc e (z0 :: vs)))
 subst hpc
 have hpe : (parts.map fun x=>(x.1,ev ρ x.2)).toList = ps:=by simpa using hps
 have hlim' : n ≤ 2 ^ 24:=by simpa using hlim
 simp only [execOp,Instr.buildSlice,Sem.run_bind,Yt ht.u,Xt ht.i,Result.andThen,hsz,Nat.mul_one]
 rw [if_neg (by omega)]
 have hf : Instr.fill (fun i=>some (i,1)) (Array.replicate n z0) ps = some (z0 :: vs).toArray:=by
  have:=ZeE 1 n ps (Array.replicate n z0) (z0 :: vs) (by rw [Array.toList_replicate]; exact hfill)
  simpa using this
 by_cases h0 : n = 0
 ·rw [if_pos h0]
  subst h0
  simp only [pure_bind,hpe]
  rw [show ((Array.range 0).map fun x=>(#[] : Array Value)[x % (#[] : Array Value).size]!) = Array.replicate 0 z0 from by simp,hf]
  simp [newRow,newObj,Sem.run,Result.andThen]
 ·rw [if_neg h0]
  simp only [Sem.run_bind,Za3 ht.i,Result.andThen,Sem.run_pure,hpe,hz]
  rw [show ((Array.range n).map fun x=>(#[z0] : Array Value)[x % (#[z0] : Array Value).size]!) = Array.replicate n z0 from by
   apply Array.ext'
   apply List.ext_getElem
   ·simp
   ·intro i h1 h2; simp [Nat.mod_one],hf]
  simp [newRow,newObj,Sem.run,Result.andThen]
def pcs : Nat → List Value → List (Nat × List Value)
 | _,[]=>[]
 | j,v :: r=>(j,[v]) :: pcs (j + 1) r
theorem ZeV (n : Nat) : ∀ (vs : List Value) (j : Nat) (z : List Value),z.length = n → j + vs.length = n → Zal (ZaX n 1) (pcs j vs) z = some (z.take j ++ vs)
 | [],j,z,h1,h2=>by
  rw [pcs,Zal,List.take_of_length_le (by simp at h2; omega),List.append_nil]
 | v :: r,j,z,h1,h2=>by
  have hj : j < n:=by simp at h2; omega
  have hl : (ZaX n 1)[j]? = some (j,1):=by simp [ZaX,hj]
  rw [pcs,Zal,hl]
  simp only
  rw [if_pos ⟨rfl,by omega⟩,ZeV n r (j + 1) _ (by simp; omega) (by simp at h2; omega)]
  congr 1
  rw [List.take_append_of_le_length (by simp; omega)]
  simp [List.take_append,List.take_take,Nat.min_eq_left (show j ≤ z.length by omega)]
theorem Zpi {z0 : Value} (v1 v2 v3 v4 : Value) : Zal (ZaX 5 1) [(1,[v1]),(2,[v2]),(3,[v3]),(4,[v4])] (List.replicate 5 z0) = some (z0 :: [v1,v2,v3,v4]):=ZeV 5 [v1,v2,v3,v4] 1 (List.replicate 5 z0) rfl rfl
theorem Zuj {z0 : Value} (v1 v2 v3 v4 v5 v6 v7 v8 v9 v10 : Value) : Zal (ZaX 11 1) [(1,[v1]),(2,[v2]),(3,[v3]),(4,[v4]),(5,[v5]),(6,[v6]),(7,[v7]),(8,[v8]),(9,[v9]),(10,[v10])] (List.replicate 11 z0) = some (z0 :: [v1,v2,v3,v4,v5,v6,v7,v8,v9,v10]):=ZeV 11 [v1,v2,v3,v4,v5,v6,v7,v8,v9,v10] 1 (List.replicate 11 z0) rfl rfl
theorem Zwd (v0 v1 v2 v3 v4 v5 v6 v7 v8 v9 v10 v11 v12 : Value) : ∀ z : List Value,z.length = 13 * 1 → Zal (ZaX 13 1) [(0,[v0]),(1,[v1]),(2,[v2]),(3,[v3]),(4,[v4]),(5,[v5]),(6,[v6]),(7,[v7]),(8,[v8]),(9,[v9]),(10,[v10]),(11,[v11]),(12,[v12])] z = some [v0,v1,v2,v3,v4,v5,v6,v7,v8,v9,v10,v11,v12]:=fun z hz=>ZeV 13 [v0,v1,v2,v3,v4,v5,v6,v7,v8,v9,v10,v11,v12] 0 z hz rfl
end
end Go.Civ
namespace Go.Civ
set_option linter.unusedVariables false
theorem Zwq {m : Nat} (h : m ≠ 0) : ZA m 0 = ZA m 1:=by
 have:=ZtS h
 have h1 : 1 ≤ (XE m).length:=by cases q : XE m with
  | nil=>exact absurd q this
  | cons a l=>simp
 rw [ZA,ZA,show 0 - (XE m).length = 0 by omega,show 1 - (XE m).length = 0 by omega]
theorem Zur : ∀ u : Nat,Lib.decDigits u = ZA u 1:=by
 intro u
 induction u using Nat.strongRecOn with
 | _ u ih=>
  rw [Lib.decDigits]
  by_cases h : u < 10
  ·rw [dif_pos h,Zgq (.inr (by omega)),show u / 10 = 0 by omega,show 1 - 1 = 0 from rfl,ZjG,show u % 10 = u by omega]; rfl
  ·rw [dif_neg h,Zgq (.inr (by omega)),ih (u / 10) (by omega),Zwq (by omega)]; rfl
theorem Zpo {c : UInt8} {new : Str} : ∀ s : Str,Lib.replaceK [c] new (s.count c) s = s.flatMap fun x=>if x = c then new else [x]
 | []=>rfl
 | x :: s=>by
  have ih:=@Zpo c new s
  by_cases h : x = c
  ·subst h
   rw [List.count_cons_self,Lib.replaceK_hit _ _ _ _ 0 (by rw [Lib.index]; simp),List.flatMap_cons,if_pos rfl]
   simp only [List.take_zero,List.nil_append,List.length_cons,List.length_nil,Nat.zero_add,List.drop_succ_cons,List.drop_zero]
   rw [ih]
  ·rw [List.count_cons_of_ne h,List.flatMap_cons,if_neg h,← ih]
   cases hk : s.count c with
   | zero=>rfl
   | succ k=>
    have h0 : 0 < Lib.count s [c]:=by rw [Lib.count_one,hk]; omega
    obtain ⟨i,hi⟩:=Lib.index_of_count h0
    have hi2 : Lib.index (x :: s) [c] = ((i + 1 : Nat) : Int):=by
     rw [Lib.index,if_neg (by simp [List.isPrefixOf]; exact fun e=>h e.symm),if_neg (by rw [hi]; simp),hi]; omega
    rw [Lib.replaceK_hit _ _ _ _ _ hi,Lib.replaceK_hit _ _ _ _ _ hi2]
    simp
theorem Zra {c : UInt8} {new : Str} (s : Str) (h : ¬ [c] = new) : Lib.replaceAll s [c] new = s.flatMap fun x=>if x = c then new else [x]:=by
 rw [Lib.replaceAll,Lib.replace,if_neg (by simpa using h),Lib.replaceNum,if_pos (.inl (by omega)),Lib.count_one,Zpo]
theorem Zus (s : Str) : (s.flatMap fun x=>if x = 92 then [92,92] else [x]).flatMap (fun x=>if x = 34 then [92,34] else [x]) = ZbK s:=by
 rw [List.flatMap_assoc]
 unfold ZbK
 congr 1
 funext x
 by_cases h : x = 92
 ·subst h; rfl
 ·by_cases h2 : x = 34
  ·subst h2; rfl
  ·simp [h,h2]
theorem Zrb {c : UInt8} {a b : UInt8} (s : Str) : (s.flatMap fun x=>if x = c then [a,b] else [x]).length ≤ 2 * s.length:=by
 induction s with
 | nil=>simp
 | cons x s ih=>rw [List.flatMap_cons,List.length_append,List.length_cons]; split <;> simp only [List.length_cons,List.length_nil] <;> omega
theorem ZmJ (s : Str) : (ZbK s).length ≤ 2 * s.length:=by
 unfold ZbK
 induction s with
 | nil=>simp
 | cons x s ih=>rw [List.flatMap_cons,List.length_append,List.length_cons]; split <;> simp only [List.length_cons,List.length_nil] <;> omega
end Go.Civ
namespace Go.Civ
open Go.RowKit
set_option linter.unusedVariables false
def Z0S (c : Cond) : List Str:=(if c.col = [] then [] else [c.col]) ++ (if c.oth = [] then [] else [c.oth])
def Zrj : Nat → Cond → List Str
 | 0,_=>[]
 | n + 1,c=>Z0S c ++ (c.l.map (Zrj n)).flatten
def Z0T (n : Nat) (c : Cond) (l : List Str) : Bool:=(Zrj n c).all fun s=>decide (0 ≤ ixS l s)
def bkL (cols names : List Str) (s : Str) : Str:=if s ≠ [] ∧ 0 ≤ ixS names s then (cols[(ixS names s).toNat]?).getD [] else s
abbrev bkS (q : Query) (s : Str) : Str:=bkL q.cols q.names s
def ZsH : Nat → Cond → Query → Cond
 | 0,c,_=>c
 | n + 1,c,q=>⟨c.kind,bkS q c.col,bkS q c.oth,c.v,c.l.map fun x=>ZsH n x q⟩
section
variable {n k : Nat} {c x : Cond} {q : Query} {s t a b : Str} {l : List Str}
end
end Go.Civ
namespace Go.Civ
open Go.RowKit
set_option linter.unusedVariables false
noncomputable abbrev csz (c : Cond) : Nat:=SizeOf.sizeOf c
noncomputable abbrev Y7 (q : Query) : Nat:=SizeOf.sizeOf q
noncomputable abbrev Z0U (c : Cond) : List Str:=Zrj (csz c) c
noncomputable abbrev Zi9 (c : Cond) (l : List Str) : Bool:=Z0T (csz c) c l
noncomputable abbrev Zn9 (c : Cond) (q : Query) : Cond:=ZsH (csz c) c q
noncomputable abbrev ZnA (S : List Schema) (q : Query) : List Str:=(X9 (Y7 q) q S).1.map Col.name
abbrev Zrk (nd : Query) (c : Cond) : Query:=⟨nd.kind,nd.table,nd.cols,nd.names,c,nd.rel,nd.fn,nd.span,nd.l⟩
def GdN (q : Query) : Prop:=q.cols.length ≤ 20 ∧ q.names.length ≤ 20 ∧ (q.kind = 4 → q.names.length = q.cols.length) ∧ (q.kind = 3 ∨ q.kind = 4 ∨ q.kind = 9 → QF q.cols = true) ∧ (q.kind = 2 → (Z0U q.cond).length ≤ 1000000)
inductive GdQ : Query → Prop
 | mk (q : Query) : GdN q → arQ q → (∀ x,x ∈ q.l → GdQ x) → GdQ q
section
variable {q x y z nd : Query} {n : Nat} {l : List Schema} {S : List Schema}
theorem GdQ.node (h : GdQ q) : GdN q:=by cases h; assumption
theorem GdQ.ar (h : GdQ q) : arQ q:=by cases h; assumption
theorem GdQ.kid (h : GdQ q) (hx : x ∈ q.l) : GdQ x:=by cases h with | mk _ _ _ h2=>exact h2 x hx
theorem GdQ.wf : ∀ {q : Query},GdQ q → WfQ q
 | _, .mk q _ h1 h2=> .mk q h1 fun x hx=>(h2 x hx).wf
theorem GdQ.sm : ∀ {n : Nat} {q : Query},GdQ q → smQ n q
 | 0,_,_=>trivial
 | n + 1,q,h=>⟨h.node.1,h.node.2.1,fun x hx=>(h.kid hx).sm⟩
end
noncomputable def QL (S : List Schema) (nd x : Query) : Query:=
 if x.kind = 3 ∨ (x.kind = 9 ∧ Zi9 nd.cond x.cols = true) then Ym x ((x.l.attach.take 1).map fun y=>QL S nd y.1)
 else if x.kind = 4 then Ym x ((x.l.attach.take 1).map fun y=>QL S (Zrk nd (Zn9 nd.cond x)) y.1)
 else if x.kind = 6 ∨ x.kind = 7 then Ym x ((x.l.attach.take 2).map fun y=>QL S nd y.1)
 else if (x.kind = 5 ∨ x.kind = 10) ∧ Zi9 nd.cond (ZnA S ((x.l[0]?).getD noQ)) = true then Ym x (((x.l.attach.take 1).map fun y=>QL S nd y.1) ++ (x.l.take 2).drop 1)
 else if (x.kind = 5 ∨ x.kind = 10) ∧ Zi9 nd.cond (ZnA S ((x.l[1]?).getD noQ)) = true then Ym x (x.l.take 1 ++ (((x.l.attach.take 2).map fun y=>QL S nd y.1)).drop 1)
 else Ym nd [x]
termination_by SizeOf.sizeOf x
decreasing_by all_goals exact szQ y.2
section
variable {q x y z nd : Query} {n : Nat} {S : List Schema}
theorem Zut : QL S nd x = if x.kind = 3 ∨ (x.kind = 9 ∧ Zi9 nd.cond x.cols = true) then Ym x ((x.l.take 1).map (QL S nd))
 else if x.kind = 4 then Ym x ((x.l.take 1).map (QL S (Zrk nd (Zn9 nd.cond x))))
 else if x.kind = 6 ∨ x.kind = 7 then Ym x ((x.l.take 2).map (QL S nd))
 else if (x.kind = 5 ∨ x.kind = 10) ∧ Zi9 nd.cond (ZnA S ((x.l[0]?).getD noQ)) = true then Ym x ((x.l.take 1).map (QL S nd) ++ (x.l.take 2).drop 1)
 else if (x.kind = 5 ∨ x.kind = 10) ∧ Zi9 nd.cond (ZnA S ((x.l[1]?).getD noQ)) = true then Ym x (x.l.take 1 ++ ((x.l.take 2).map (QL S nd)).drop 1)
 else Ym nd [x]:=by
 rw [QL,Zc0 (QL S nd),Zc0 (QL S nd),Zc0 (QL S (Zrk nd (Zn9 nd.cond x)))]
theorem Zrl (h3 : ¬ x.kind = 3) (h4 : ¬ x.kind = 4) (h6 : ¬ x.kind = 6) (h7 : ¬ x.kind = 7) (h9 : ¬ x.kind = 9) (h5 : ¬ x.kind = 5) (h10 : ¬ x.kind = 10) : Ym nd [x] = QL S nd x:=by
 rw [Zut (x:=x),if_neg (by omega),if_neg h4,if_neg (by omega),if_neg (fun e=>by omega),if_neg (fun e=>by omega)]
theorem QI (q : Query) : Xx q (Y7 q):=Nat.le_refl _
end
noncomputable def Yg (S : List Schema) (q : Query) : Query:=
 if q.kind = 8 then XY (ZU q) (((q.l.attach.map fun y=>Yg S y.1)[0]?).getD noQ)
 else if q.kind = 2 then QL S (ZU q) (((q.l.attach.map fun y=>Yg S y.1)[0]?).getD noQ)
 else Ym q (q.l.attach.map fun y=>Yg S y.1)
termination_by SizeOf.sizeOf q
decreasing_by all_goals exact szQ y.2
section
variable {q x y z nd : Query} {n : Nat} {S : List Schema}
theorem Zuu {α β : Type} (f : α → β) (l : List α) : (l.attach.map fun y=>f y.1) = l.map f:=by simp
theorem Zhh : Yg S q = if q.kind = 8 then XY (ZU q) (((q.l.map (Yg S))[0]?).getD noQ) else if q.kind = 2 then QL S (ZU q) (((q.l.map (Yg S))[0]?).getD noQ) else Ym q (q.l.map (Yg S)):=by
 rw [Yg,Zuu (Yg S)]
theorem Zrm (hk : q.kind = 8) (h : (q.l.map (Yg S))[0]? = some y) : XY (ZU q) y = Yg S q:=by rw [Zhh (q:=q),if_pos hk,h]; rfl
theorem Zrn (hk : q.kind = 2) (h : (q.l.map (Yg S))[0]? = some y) : QL S (ZU q) y = Yg S q:=by rw [Zhh (q:=q),if_neg (by omega),if_pos hk,h]; rfl
theorem Zro (h8 : ¬ q.kind = 8) (h2 : ¬ q.kind = 2) : Ym q (q.l.map (Yg S)) = Yg S q:=by rw [Zhh (q:=q),if_neg h8,if_neg h2]
theorem Zuv {k : Nat} (h : q.l[k]? = some x) : (q.l.take (k + 1)).map (Yg S) = (q.l.take k).map (Yg S) ++ [Yg S x]:=by rw [List.take_add_one,h]; simp
noncomputable def XZ (q : Query) (S : List Schema) : Query × Int:=
 if (X9 (Y7 q) q S).2 ≠ 0 then (noQ,(X9 (Y7 q) q S).2) else if X8 (Y7 (Yg S q)) (Yg S q) = true then (Yg S q,0) else (q,0)
theorem ZsJ (h : (X9 (Y7 q) q S).2 ≠ 0) : noQ = (XZ q S).1 ∧ (X9 (Y7 q) q S).2 = (XZ q S).2:=by unfold XZ; rw [if_pos h]; exact ⟨rfl,rfl⟩
theorem ZnB (h : (X9 (Y7 q) q S).2 = 0) (h2 : X8 (Y7 (Yg S q)) (Yg S q) = true) : Yg S q = (XZ q S).1 ∧ 0 = (XZ q S).2:=by unfold XZ; rw [if_neg (fun e=>e h),if_pos h2]; exact ⟨rfl,rfl⟩
theorem ZsK (h : (X9 (Y7 q) q S).2 = 0) (h2 : X8 (Y7 (Yg S q)) (Yg S q) = false) : q = (XZ q S).1 ∧ 0 = (XZ q S).2:=by unfold XZ; rw [if_neg (fun e=>e h),if_neg (by rw [h2]; simp)]; exact ⟨rfl,rfl⟩
theorem Zpz {n : Nat} (h : (X9 n q S).2 = 0) : gdS S = true ∧ X8 n q = true:=by
 unfold X9 at h
 split at h
 ·split at h
  ·exact ⟨‹_›,‹_›⟩
  ·simp at h
 ·simp at h
end
end Go.Civ
namespace Go.Civ
open Go.RowKit
set_option linter.unusedVariables false
structure Stp where
 q : Query
 a : Int
 b : Int
 keys : List (Int × Int)
 span : Span
def StpE : Enc Stp:=(Enc.pair QryE (Enc.pair .int (Enc.pair .int (Enc.pair (PairE.slice 16) SpanE)))).via fun x=>(x.q,x.a,x.b,x.keys,x.span)
section
variable {G : GH} {cs : List Value}
theorem Q8 {x : Stp} (h : StpE.rep G x cs) : ∃ cv nv clv lv kv,cs = [.int .i64 x.q.kind,Za x.q.table,cv,nv, .int .i64 x.q.cond.kind,Za x.q.cond.col,Za x.q.cond.oth, .int .i64 x.q.cond.v.k, .int .i64 x.q.cond.v.n,Za x.q.cond.v.s,clv, .int .i64 x.q.rel, .int .i64 x.q.fn, .int .i64 x.q.span.a, .int .i64 x.q.span.b,lv, .int .i64 x.a, .int .i64 x.b,kv, .int .i64 x.span.a, .int .i64 x.span.b] ∧
  Zj x.q.kind ∧ x.q.table.length ≤ reach ∧ Sl Enc.str 16 G cv x.q.cols ∧ Sl Enc.str 16 G nv x.q.names ∧ Zj x.q.cond.kind ∧ x.q.cond.col.length ≤ reach ∧ x.q.cond.oth.length ≤ reach ∧ Zj x.q.cond.v.k ∧ Zj x.q.cond.v.n ∧ x.q.cond.v.s.length ≤ reach ∧ Sl CndE 96 G clv x.q.cond.l ∧
  Zj x.q.rel ∧ Zj x.q.fn ∧ Zj x.q.span.a ∧ Zj x.q.span.b ∧ Sl QryE 224 G lv x.q.l ∧ Zj x.a ∧ Zj x.b ∧ Sl PairE 16 G kv x.keys ∧ Zj x.span.a ∧ Zj x.span.b:=by
 obtain ⟨c1,c2,rfl,hq,_,_,rfl,⟨rfl,ha⟩,_,_,rfl,⟨rfl,hb⟩,_,_,rfl,⟨kv,rfl,hk⟩,hs⟩:=h
 obtain ⟨cv,nv,clv,lv,rfl,h2,h3,h4,h5,h6,h7,h8,h9,h10,h11,h12,h13,h14,h15,h16,h17⟩:=Zs hq
 obtain ⟨rfl,hs1,hs2⟩:=QH hs
 exact ⟨cv,nv,clv,lv,kv,rfl,h2,h3,h4,h5,h6,h7,h8,h9,h10,h11,h12,h13,h14,h15,h16,h17,ha,hb,hk,hs1,hs2⟩
theorem Zdn (x : Stp) {cv nv clv lv kv : Value} (h2 : Zj x.q.kind) (h3 : x.q.table.length ≤ reach) (h4 : Sl Enc.str 16 G cv x.q.cols) (h5 : Sl Enc.str 16 G nv x.q.names) (h6 : Zj x.q.cond.kind) (h7 : x.q.cond.col.length ≤ reach) (h8 : x.q.cond.oth.length ≤ reach) (h9 : Zj x.q.cond.v.k) (h10 : Zj x.q.cond.v.n) (h11 : x.q.cond.v.s.length ≤ reach) (h12 : Sl CndE 96 G clv x.q.cond.l)
  (h13 : Zj x.q.rel) (h14 : Zj x.q.fn) (h15 : Zj x.q.span.a) (h16 : Zj x.q.span.b) (h17 : Sl QryE 224 G lv x.q.l) (h18 : Zj x.a) (h19 : Zj x.b) (h20 : Sl PairE 16 G kv x.keys) (h21 : Zj x.span.a) (h22 : Zj x.span.b) :
  StpE.rep G x [.int .i64 x.q.kind,Za x.q.table,cv,nv, .int .i64 x.q.cond.kind,Za x.q.cond.col,Za x.q.cond.oth, .int .i64 x.q.cond.v.k, .int .i64 x.q.cond.v.n,Za x.q.cond.v.s,clv, .int .i64 x.q.rel, .int .i64 x.q.fn, .int .i64 x.q.span.a, .int .i64 x.q.span.b,lv, .int .i64 x.a, .int .i64 x.b,kv, .int .i64 x.span.a, .int .i64 x.span.b]:=
 ⟨_,_,rfl,Zr x.q h2 h3 h4 h5 h6 h7 h8 h9 h10 h11 h12 h13 h14 h15 h16 h17,_,_,rfl,⟨rfl,h18⟩,_,_,rfl,⟨rfl,h19⟩,_,_,rfl,⟨kv,rfl,h20⟩,QD _ h21 h22⟩
end
def Zw4 (a : List Col) : List Col → Int → List (Int × Int)
 | [],_=>[]
 | c :: b,j=>(if 0 ≤ Xi a c.name then [(Xi a c.name,j)] else []) ++ Zw4 a b (j + 1)
section
variable {a b : List Col} {c : Col} {k : Nat}
end
def Zrp : Span:=⟨-62135596800,253402300800⟩
def ndT (q : Query) (p : Span) (s : Bool) : Span × Bool:=if q.kind = 8 then (if s then ZX p q.span else (p,s)) else if q.kind = 10 then (Zrp,true) else (p,s)
def spT (q : Query) (p : Span) (s : Bool) : Span:=if q.kind = 1 ∧ s = true then p else ⟨0,0⟩
noncomputable def Zef (S : List Schema) (q : Query) : List (Int × Int):=if q.kind = 5 then Zw4 (X9 (Y7 ((q.l[0]?).getD noQ)) ((q.l[0]?).getD noQ) S).1 (X9 (Y7 ((q.l[1]?).getD noQ)) ((q.l[1]?).getD noQ) S).1 0 else []
noncomputable def YS (S : List Schema) : Nat → Query → Span → Bool → Nat → List Stp
 | 0,_,_,_,_=>[]
 | n + 1,q,p,s,k=>
  let r:=ndT q p s
  let l0:=match q.l[0]? with | some x=>YS S n x r.1 r.2 k | none=>[]
  let l1:=match q.l[1]? with | some x=>YS S n x r.1 r.2 (k + l0.length) | none=>[]
  l0 ++ l1 ++ [⟨ZU q,if q.l = [] then -1 else ((k + l0.length - 1 : Nat) : Int),if q.l.length ≤ 1 then -1 else ((k + l0.length + l1.length - 1 : Nat) : Int),Zef S q,spT q p s⟩]
end Go.Civ
namespace Go.Civ
open Go.RowKit
set_option linter.unusedVariables false
theorem Zjs {f g : Cond → Int} : ∀ {l : List Cond} {n : Int},(∀ x ∈ l,f x = g x) → YP f l n = YP g l n
 | [],_,_=>rfl
 | x :: l,n,h=>by rw [YP,YP,h x List.mem_cons_self,Zjs fun y hy=>h y (List.mem_cons_of_mem _ hy)]
theorem ZeY : ∀ {n m : Nat} {c : Cond} {dep : Int},Qd c n → Qd c m → Yi n c dep = Yi m c dep
 | 0,_,c,_,h,_=>(ZaU h).elim
 | _ + 1,0,c,_,_,h=>(ZaU h).elim
 | n + 1,m + 1,c,dep,h,k=>by
  rw [Yi,Yi,Zjs fun x hx=>ZeY (dep:=dep + 1) (Xb h hx) (Xb k hx)]
theorem Zjt {f g : Cond → Int} : ∀ {l : List Cond},(∀ x ∈ l,f x = g x) → Zam f l = Zam g l
 | [],_=>rfl
 | x :: l,h=>by rw [Zam,Zam,h x List.mem_cons_self,Zjt fun y hy=>h y (List.mem_cons_of_mem _ hy)]
theorem Zia : ∀ {n m : Nat} {c : Cond} {l : List Col},Qd c n → Qd c m → XL n c l = XL m c l
 | 0,_,c,_,h,_=>(ZaU h).elim
 | _ + 1,0,c,_,_,h=>(ZaU h).elim
 | n + 1,m + 1,c,l,h,k=>by rw [XL,XL,Zjt fun x hx=>Zia (Xb h hx) (Xb k hx)]
theorem Zrq {n m : Nat} {c : Cond} {l : List Col} (h : Qd c n) (k : Qd c m) : Q3 n c l = Q3 m c l:=by unfold Q3; rw [ZeY h k,Zia h k]
theorem ZmL : ∀ {n m : Nat} {c : Cond},Qd c n → Qd c m → QA n c = QA m c
 | 0,_,c,h,_=>(ZaU h).elim
 | _ + 1,0,c,_,h=>(ZaU h).elim
 | n + 1,m + 1,c,h,k=>by rw [QA,QA,ZkS fun x hx=>ZmL (Xb h hx) (Xb k hx)]
theorem Zlv {n m : Nat} {c : Cond} (h : Qd c n) (k : Qd c m) : ZaI n c = ZaI m c:=by unfold ZaI; rw [ZeY h k,ZmL h k]
theorem Zlw {n m : Nat} {q : Query} (h : Qd q.cond n) (k : Qd q.cond m) : Xd n q = Xd m q:=by unfold Xd; rw [Zlv h k]
theorem ZmM {f g : Query → Int} : ∀ {l : List Query} {n : Int},(∀ x ∈ l,f x = g x) → Xp f l n = Xp g l n
 | [],_,_=>rfl
 | x :: l,n,h=>by rw [Xp,Xp,h x List.mem_cons_self,ZmM fun y hy=>h y (List.mem_cons_of_mem _ hy)]
theorem Zlx : ∀ {n m : Nat} {q : Query} {dep : Int},Xx q n → Xx q m → Y4 n q dep = Y4 m q dep
 | 0,_,q,_,h,_=>(ZaH h).elim
 | _ + 1,0,q,_,_,h=>(ZaH h).elim
 | n + 1,m + 1,q,dep,h,k=>by
  rw [Y4,Y4,Zlw (Zaz h) (Zaz k),ZmM fun x hx=>Zlx (dep:=dep + 1) (XN h hx) (XN k hx)]
theorem Zhi {n m : Nat} {q : Query} (h : Xx q n) (k : Xx q m) : X8 n q = X8 m q:=by unfold X8; rw [Zlx h k]
theorem Zp0 {n m : Nat} {q : Query} {S : List Schema} {ins : List (List Col)} (h : Qd q.cond n) (k : Qd q.cond m) : Zac n q S ins = Zac m q S ins:=by unfold Zac; rw [Zrq h k]
theorem Zly : ∀ {n m : Nat} {q : Query} {S : List Schema},Xx q n → Xx q m → Xk n q S = Xk m q S
 | 0,_,q,_,h,_=>(ZaH h).elim
 | _ + 1,0,q,_,_,h=>(ZaH h).elim
 | n + 1,m + 1,q,S,h,k=>by
  have e : ∀ x ∈ q.l,Xk n x S = Xk m x S:=fun x hx=>Zly (XN h hx) (XN k hx)
  have e1 : (q.l.all fun x=>decide ((Xk n x S).2 = 0)) = q.l.all fun x=>decide ((Xk m x S).2 = 0):=by
   rw [Bool.eq_iff_iff,List.all_eq_true,List.all_eq_true]
   exact ⟨fun h x hx=>by rw [← e x hx]; exact h x hx,fun h x hx=>by rw [e x hx]; exact h x hx⟩
  have e2 : (q.l.map fun x=>(Xk n x S).1) = q.l.map fun x=>(Xk m x S).1:=List.map_congr_left fun x hx=>by rw [e x hx]
  have e3 : ∀ l : List Query,(∀ x ∈ l,Xk n x S = Xk m x S) → ((l.find? fun x=>!decide ((Xk n x S).2 = 0)).map fun x=>(Xk n x S).2) = ((l.find? fun x=>!decide ((Xk m x S).2 = 0)).map fun x=>(Xk m x S).2):=by
   intro l
   induction l with
   | nil=>intro _; rfl
   | cons x l ih=>
    intro hl
    have hx:=hl x List.mem_cons_self
    have:=ih fun y hy=>hl y (List.mem_cons_of_mem _ hy)
    rw [List.find?_cons,List.find?_cons,hx]
    split
    ·simp [hx]
    ·exact this
  rw [Xk,Xk,e1,e2,e3 _ e,Zp0 (Zaz h) (Zaz k)]
theorem Zrr {n m : Nat} {q : Query} {S : List Schema} (h : Xx q n) (k : Xx q m) : X9 n q S = X9 m q S:=by unfold X9; rw [Zhi h k,Zly h k]
noncomputable def kT (S : List Schema) (q : Query) (ins : List (List Col)) : List Col × Int:=Zac (csz q.cond) q S ins
section
variable {q x y z nd x' y' z' : Query} {S : List Schema} {ins ins' : List (List Col)}
end
end Go.Civ
