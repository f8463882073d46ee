/- Lemmas. -/
import Derived.Test.YtcopkjhdncdnmaaGreatDoorP16
import Derived.Test.YtcopkjhdncdnmaaGreatDoorP19
import Derived.Shelf.GgClosure.StringsRunes
import Derived.Shelf.Small.Strs
import Derived.Ground.NamesProg
import Derived.Lib.AppendStr
import Derived.Laws.BytesString
import Derived.Laws.Bits64
import Derived.Maps.Views
import Derived.Shelf.Spec.SlicesGrow
import Derived.Shelf.SlGeneric
import Derived.Ground.Names8Prog
set_option linter.unusedSimpArgs false
set_option linter.unusedVariables false
namespace Go.Civ
open Go.Proofs Go.Shelf Go.RowKit Go.Lib
theorem ZdH (w : World) : ∀ n,Below w.heap.size w (w.drewN n)
 | 0=>Below.refl _ _
 | n + 1=>(ZdH w n).drew
def pR (r : Nat) : Bool:=decide (r < 32) || decide (126 < r)
set_option maxHeartbeats 1000000 in
theorem ZpT (r : Nat) (W : World) : Calls Tryz.prog 252 #[.int .i32 (r : Int)] W fun e w'=>e = .returned (.bool (pR r)) ∧ ∃ q,w' = W.drewN q:=by
 by_cases h1 : r < 32 <;> by_cases h2 : 126 < r
 all_goals
  have z1 : (r : Int) < 32 ↔ r < 32:=by omega
  have z2 : (126 : Int) < (r : Int) ↔ 126 < r:=by omega
  go_enter Tryz.func252,Tryz.ntmps252
  go_wp2
  all_goals first | (exfalso; omega) | (go_ret; exact ⟨by simp [pR,h1,h2],0,rfl⟩)
set_option maxHeartbeats 2000000 in
set_option maxRecDepth 1000000 in
theorem ZjF (s : ByteArray) (w : World) :
  Calls Tryz.prog 375 #[.string s, .func (.func 252) #[] #[], .bool true] w fun e w'=>e = .returned (.int .i64 (Lib.idxFunc pR true s)) ∧ Below w.heap.size w w' ∧ w.drawn ≤ w'.drawn:=by
 have e252 : ∀ args w,(callFunc 252 args).run Tryz.prog w = .ok (.enter 252 args) w:=enters_of Tryz.func252 (by kernel_rfl) rfl
 go_enter Tryz.func375,Tryz.ntmps375
 go_wp2
 go_loopg [] s.size (fun gf wx=>∃ pos : Nat,wx.heap[w.heap.size]? = some (.stringIter s pos) ∧ Below w.heap.size w wx ∧ Lib.idxFuncFrom pR true s gf pos = Lib.idxFunc pR true s ∧ s.size ≤ pos + gf ∧ w.drawn ≤ wx.drawn)
 case atStart=>exact ⟨0,World.iter_heap w s 0,(Below.refl _ w).alloc (Nat.le_refl _) _,rfl,by omega,Nat.le_refl _⟩
 case round=>
  obtain ⟨pos,hit,hbw,hleft,hfu,hdr⟩:=hrel
  by_cases hps : pos < s.size
  ·obtain ⟨g',rfl⟩ : ∃ g',gk = g' + 1:=⟨gk - 1,by omega⟩
   have hnx : ∀ ty,(Instr.next (.pointer (some ⟨w.heap.size,0,none⟩)) true ty).run Tryz.prog wr = _:=fun ty=>Lib.run_next_any_at wr w.heap.size s pos ty hit hps
   have hwd:=Lib.width_pos s pos
   obtain ⟨R,hR⟩ : ∃ R,(Utf8.decode s pos).1 = R:=⟨_,rfl⟩
   obtain ⟨K,hK⟩ : ∃ K,(Utf8.decode s pos).2 = K:=⟨_,rfl⟩
   simp only [Lib.idxFuncFrom,hps,if_true,hR,hK] at hleft
   rw [hR,hK] at hnx
   rw [hK] at hwd
   have hit2:=Lib.iterAt_heap wr w.heap.size s pos (pos + K) hit
   have hbw2:=Lib.below_iterAt hbw (k:=w.heap.size) (Nat.le_refl _) s (pos + K)
   have hdW : w.drawn ≤ (wr.iterAt w.heap.size s (pos + K)).drawn:=hdr
   obtain ⟨W,hWd⟩ : ∃ W,wr.iterAt w.heap.size s (pos + K) = W:=⟨_,rfl⟩
   rw [hWd] at hnx hit2 hbw2 hdW
   have hltW : w.heap.size < W.heap.size:=(Array.getElem?_eq_some_iff.1 hit2).1
   have cS : Calls Tryz.prog 252 (#[.int .i32 (R : Int)] ++ #[]) W _:=ZpT R W
   cases hsp : pR R <;> rw [hsp] at cS <;> simp only [hsp,if_true,Bool.false_eq_true,if_false] at hleft
   ·go_wp2_with (go_at_fn 252; refine cS.mono ?_; rintro e W' ⟨rfl,q,rfl⟩)
    have hbc:=ZdH W q
    go_roundg g'
    case measure=>omega
    case rel=>exact ⟨pos + K,(hbc.block _ hltW).trans hit2,(hbw2.trans (hbc.mono hbw2.size)),hleft,by omega,Nat.le_trans hdW (Nat.le_add_right _ _)⟩
   ·go_wp2_with (go_at_fn 252; refine cS.mono ?_; rintro e W' ⟨rfl,q,rfl⟩)
    have hbc:=ZdH W q
    go_ret
    exact ⟨by rw [← hleft] <;> rfl,(hbw2.trans (hbc.mono hbw2.size)),Nat.le_trans hdW (Nat.le_add_right _ _)⟩
  ·have hnx : ∀ ty,(Instr.next (.pointer (some ⟨w.heap.size,0,none⟩)) true ty).run Tryz.prog wr = _:=fun ty=>Lib.run_next_end_at wr w.heap.size s pos ty hit hps
   rw [Lib.idxFuncFrom_end pR true s gk pos hps] at hleft
   go_wp2
   go_ret
   exact ⟨by rw [← hleft] <;> rfl,hbw,hdr⟩
theorem ZpU (n b0 b1 b2 b3 : Nat) (h : 128 ≤ b0) : 128 ≤ (Lib.decodeN n b0 b1 b2 b3).1:=by
 unfold Lib.decodeN
 repeat' split
 all_goals simp_all
 all_goals omega
theorem ZqZ (s : List UInt8) (i : Nat) (c : UInt8) (h : s[i]? = some c) : (⟨s.toArray⟩ : ByteArray).get! i = c:=by
 obtain ⟨hl,he⟩:=List.getElem?_eq_some_iff.1 h
 show (s.toArray)[i]! = c
 simp [hl,he]
theorem Zlc (s : List UInt8) : ∀ (f pos : Nat),s.length ≤ pos + f → (0 ≤ Lib.idxFuncFrom pR true ⟨s.toArray⟩ f pos ↔ ¬ ∀ c ∈ s.drop pos,okC c = true)
 | 0,pos,h=>by
  have : s.drop pos = []:=List.drop_eq_nil_of_le (by omega)
  simp [Lib.idxFuncFrom,this]
 | f + 1,pos,h=>by
  have hsz : (⟨s.toArray⟩ : ByteArray).size = s.length:=by simp [ByteArray.size]
  unfold Lib.idxFuncFrom
  by_cases hp : pos < s.length
  ·obtain ⟨c,hc⟩ : ∃ c,s[pos]? = some c:=⟨_,List.getElem?_eq_getElem hp⟩
   have hd : s.drop pos = c :: s.drop (pos + 1):=by
    rw [List.drop_eq_getElem_cons hp]; rw [List.getElem?_eq_getElem hp] at hc; rw [Option.some.inj hc]
   rw [if_pos (by rw [hsz]; exact hp),hd,Lib.decode_at,ZqZ s pos c hc]
   by_cases hb : c.toNat < 128
   ·rw [show Lib.decodeN ((⟨s.toArray⟩ : ByteArray).size - pos) c.toNat ((⟨s.toArray⟩ : ByteArray).get! (pos + 1)).toNat ((⟨s.toArray⟩ : ByteArray).get! (pos + 2)).toNat ((⟨s.toArray⟩ : ByteArray).get! (pos + 3)).toNat = (c.toNat,1) from by simp [Lib.decodeN,hb]]
    have ih:=Zlc s f (pos + 1) (by omega)
    by_cases ho : okC c = true
    ·have : pR c.toNat = false:=by simp [okC,pR] at *; omega
     simp only [this]
     rw [if_neg (by simp),ih]; simp [ho]
    ·have : pR c.toNat = true:=by simp [okC,pR] at *; omega
     simp only [this,if_true]
     simp [ho]
   ·have h2:=ZpU ((⟨s.toArray⟩ : ByteArray).size - pos) c.toNat ((⟨s.toArray⟩ : ByteArray).get! (pos + 1)).toNat ((⟨s.toArray⟩ : ByteArray).get! (pos + 2)).toNat ((⟨s.toArray⟩ : ByteArray).get! (pos + 3)).toNat (by omega)
    have h3 : pR (Lib.decodeN ((⟨s.toArray⟩ : ByteArray).size - pos) c.toNat ((⟨s.toArray⟩ : ByteArray).get! (pos + 1)).toNat ((⟨s.toArray⟩ : ByteArray).get! (pos + 2)).toNat ((⟨s.toArray⟩ : ByteArray).get! (pos + 3)).toNat).1 = true:=by simp [pR]; omega
    have ho : okC c = false:=by simp [okC]; omega
    rw [if_pos h3]; simp [ho]
  ·have : s.drop pos = []:=List.drop_eq_nil_of_le (by omega)
   rw [if_neg (by rw [hsz]; exact hp)]
   simp [this]
theorem Zra (s : List UInt8) : decide (0 ≤ Lib.idxFunc pR true ⟨s.toArray⟩) = !s.all okC:=by
 have h:=Zlc s s.length 0 (by omega)
 unfold Lib.idxFunc
 have hsz : (⟨s.toArray⟩ : ByteArray).size = s.length:=by simp [ByteArray.size]
 rw [hsz,Bool.eq_iff_iff]
 simp only [decide_eq_true_eq,h,List.drop_zero,Bool.not_eq_true',← Bool.not_eq_true,List.all_eq_true]
set_option maxHeartbeats 2000000 in
theorem Zhy (s : ByteArray) (w : World) :
  Calls Tryz.prog 318 #[.string s, .func (.func 252) #[] #[]] w fun e w'=>e = .returned (.int .i64 (Lib.idxFunc pR true s)) ∧ Below w.heap.size w w' ∧ w.drawn ≤ w'.drawn:=by
 have cI:=ZjF s w
 have e375 : ∀ args w,(callFunc 375 args).run Tryz.prog w = .ok (.enter 375 args) w:=enters_of Tryz.func375 (by kernel_rfl) rfl
 go_enter Tryz.func318,Tryz.ntmps318
 go_wp2_with (go_at_fn 375; refine cI.mono ?_; rintro e w' ⟨rfl,hb⟩)
 go_ret
 exact ⟨rfl,hb⟩
set_option maxHeartbeats 2000000 in
theorem Zhz (s : ByteArray) (w : World) :
  Calls Tryz.prog 251 #[.string s, .func (.func 252) #[] #[]] w fun e w'=>e = .returned (.bool (decide (0 ≤ Lib.idxFunc pR true s))) ∧ Below w.heap.size w w' ∧ w.drawn ≤ w'.drawn:=by
 have cI:=Zhy s w
 have e318 : ∀ args w,(callFunc 318 args).run Tryz.prog w = .ok (.enter 318 args) w:=enters_of Tryz.func318 (by kernel_rfl) rfl
 obtain ⟨I,hI⟩ : ∃ I,Lib.idxFunc pR true s = I:=⟨_,rfl⟩
 rw [hI] at cI ⊢
 go_enter Tryz.func251,Tryz.ntmps251
 go_wp2_with (go_at_fn 318; refine cI.mono ?_; rintro e w' ⟨rfl,hb⟩)
 go_ret
 exact ⟨rfl,hb⟩
theorem ZjG {w w' : World} {G : GH} (hG : G.In w) (h : Below w.heap.size w w') (hd : w.drawn ≤ w'.drawn) : Res [] w G w' G:=
 ⟨⟨h.os,h.tape,h.output,hd,h.size,fun k hk _=>h.block k hk⟩,G.le_refl,fun _ _=>rfl,fun b o hb=>(h.block b (hG.lt hb)).trans (hG b o hb)⟩
theorem ZkH {G : GH} {w : World} (hG : G.In w) (s : List UInt8) : Calls Tryz.prog (nat_lit 251) #[Zb s, .func (.func 252) #[] #[]] w fun e w'=>∃ r G',e = .returned r ∧ Res [] w G w' G' ∧ r = .bool (!s.all okC):=
 (Zhz ⟨s.toArray⟩ w).mono fun e w' ⟨he,hb,hd⟩=>⟨_,G,he,ZjG hG hb hd,by rw [Zra]⟩
end Go.Civ
namespace Go.Proofs
open Go.Shelf
def Tryz.ixByte_ren : Go.Shelf.Ren:=⟨fun | 137=>209 | 217=>288 | 266=>342 | n=>n,fun | 9=>9 | 5=>5 | 3=>3 | n=>n,fun | n=>n⟩
theorem Tryz.ixByte : Go.Proofs.Lays.n137 Tryz.prog Tryz.ixByte_ren:={
 mixed:=by kernel_rfl
 f137:=Tryz.func209.trans (congrArg some (by kernel_rfl))
 f217:=Tryz.func288.trans (congrArg some (by kernel_rfl))
 f266:=Tryz.func342.trans (congrArg some (by kernel_rfl))
 t3:=Tryz.underlying3
 a3:=Tryz.isAgg3
 z3:=Tryz.sizeOf3
 v3:=Tryz.zeroValue3
 t5:=Tryz.underlying5
 a5:=Tryz.isAgg5
 z5:=Tryz.sizeOf5
 v5:=Tryz.zeroValue5
 t9:=Tryz.underlying9
 a9:=Tryz.isAgg9
 z9:=Tryz.sizeOf9
 v9:=Tryz.zeroValue9 }
end Go.Proofs
set_option linter.unusedVariables false
namespace Go.Civ
open Go.Proofs Go.Shelf Go.RowKit
theorem ZkI {G : GH} {w : World} (hG : G.In w) (s : List UInt8) (c : Int) : Calls Tryz.prog (nat_lit 209) #[Zb s, .int .u8 c] w fun e w'=>∃ r G',e = .returned r ∧ Res [] w G w' G' ∧ r = .int .i64 (Lib.indexByte s c.toNat.toUInt8):=by
 refine (Any.strings_IndexByte Tryz.ixByte ⟨s.toArray⟩ c w).mono ?_
 rintro e w' ⟨rfl,rfl⟩
 exact ⟨_,G,rfl,Res.refl hG,rfl⟩
end Go.Civ
namespace Go.Civ
open Go.RowKit Go.Maps Go.Lib
set_option linter.unusedVariables false
def Enc.u8 : Enc UInt8 where
 n:=1
 rep _ x cs:=cs = [.int .u8 (x.toNat : Int)]
 len h:=by rw [h]; rfl
 mono _ h:=h
 one h c hc:=by rw [h] at hc; simp at hc; subst hc; rfl
section
variable {P : Program} {N : Nat} {Q : Exit → Env → World → Prop} {ρ : Env} {w w0 : World} {ops : Array Oper} {rest : List Oper} {K : Env → World → Prop} {d : Nat} {ty : TypeId} {pos : String} {af : Array Edge} {g : Option (Nat × Bool)}
variable {X : List Nat} {G0 G : GH} {L : Own} {b : Nat}
def blks (L : Own) : List Nat:=L.filterMap fun o=>o.map (·.1)
def Zrj (P : Program) (Kt E : TypeId) (w : World) (b n : Nat) (f : List UInt8 → Option Int) : Prop:=
 ∃ D : DataW Unit,IsMap D ∧ w.ownsMap P Kt (plainElem P E) b n D ∧ ∀ s zd,D.atKey (.string s) zd = match f s with | some c=> .lit (.int .i64 c) | none=>zd
end
end Go.Civ
namespace Go.Civ
open Go.RowKit
set_option linter.unusedVariables false
theorem Sl.i64 {G : GH} {v : Value} {l : List Val} (h : Sl ValE 32 G v l) : ∀ x ∈ l,ZM x.n:=fun x hx=>by
 obtain ⟨i,hi⟩:=List.getElem?_of_mem hx
 obtain ⟨a,cap,_,_,_,_,h4⟩:=h
 obtain ⟨p,_,_,cs,_,hr⟩:=h4 i x hi
 exact (ZdV hr).2.2.1
structure HRel (e : TypeId) (G : GH) (gs : List HGrp) (L : List (List Val × Value)) (O : Own) : Prop where
 len : L.length = gs.length
 olen : O.length = gs.length
 at_ : ∀ (i : Nat) g,gs[i]? = some g → ∃ p o,L[i]? = some p ∧ O[i]? = some o ∧ p.1 = g.v ∧ YH Zpf 56 e G p.2 g.t o
section
variable {e : TypeId} {G G' : GH} {gs : List HGrp} {L : List (List Val × Value)} {O : Own}
theorem HRel.nil : HRel e G [] [] []:=⟨rfl,rfl,fun i g h=>by simp at h⟩
theorem HRel.mono (h : HRel e G gs L O) (k : G.le G') : HRel e G' gs L O:=⟨h.len,h.olen,fun i g hg=>by
 obtain ⟨p,o,h1,h2,h3,h4⟩:=h.at_ i g hg
 exact ⟨p,o,h1,h2,h3,h4.mono k⟩⟩
theorem HRel.push (h : HRel e G gs L O) (v : List Val) : HRel e G (gs ++ [⟨v,[]⟩]) (L ++ [(v, .slice none 0 0)]) (O ++ [none]):=by
 refine ⟨by simp [h.len],by simp [h.olen],fun i g hg=>?_⟩
 rw [List.getElem?_append] at hg
 split at hg
 ·rename_i hi
  obtain ⟨p,o,h1,h2,h3,h4⟩:=h.at_ i g hg
  exact ⟨p,o,by rw [List.getElem?_append_left (by rw [h.len]; exact hi)]; exact h1,by rw [List.getElem?_append_left (by rw [h.olen]; exact hi)]; exact h2,h3,h4⟩
 ·rename_i hi
  obtain rfl : i = gs.length:=by
   have:=(List.getElem?_eq_some_iff.1 hg).1
   simp only [List.length_singleton] at this; omega
  simp at hg
  subst hg
  exact ⟨(v, .slice none 0 0),none,by rw [← h.len]; simp,by rw [← h.olen]; simp,rfl,YH.nil _ _ _ _⟩
theorem HRel.set (h : HRel e G gs L O) {i : Nat} {g : HGrp} (hg : gs[i]? = some g) {r : HRow} {p1 : List Val} {v2 : Value} {o2 : OB} (hp : p1 = g.v) (hr : YH Zpf 56 e G v2 (g.t ++ [r]) o2) : HRel e G (Zov gs i r) (L.set i (p1,v2)) (O.set i o2):=by
 subst hp
 have hi:=(List.getElem?_eq_some_iff.1 hg).1
 rw [ZpJ r hg]
 refine ⟨by simp [h.len],by simp [h.olen],fun j q hq=>?_⟩
 rw [List.getElem?_set] at hq
 split at hq
 ·rename_i hj; subst hj
  obtain rfl : _ = q:=by first | (rw [if_pos hi] at hq; exact Option.some.inj hq) | exact Option.some.inj hq
  exact ⟨(g.v,v2),o2,by rw [List.getElem?_set_self (by rw [h.len]; exact hi)],by rw [List.getElem?_set_self (by rw [h.olen]; exact hi)],rfl,hr⟩
 ·rename_i hj
  obtain ⟨p,o,h1,h2,h3,h4⟩:=h.at_ j q hq
  exact ⟨p,o,by rw [List.getElem?_set_ne hj]; exact h1,by rw [List.getElem?_set_ne hj]; exact h2,h3,h4⟩
variable {w0 w : World} {X : List Nat} {G0 : GH}
end
theorem Zrj.mono {P : Program} {Kt E : TypeId} {w : World} {b n n' : Nat} {f : List UInt8 → Option Int} (h : Zrj P Kt E w b n f) (hn : n ≤ n') : Zrj P Kt E w b n' f:=by
 obtain ⟨D,h1,h2,h3⟩:=h
 exact ⟨D,h1,h2.mono hn,h3⟩
end Go.Civ
namespace Go.Civ
end Go.Civ
namespace Go.Civ
end Go.Civ
namespace Go.Civ
open Go.RowKit
set_option linter.unusedVariables false
section
variable {P : Program} {Q : Exit → Env → World → Prop} {ρ : Env} {w : World} {ops : Array Oper} {rest : List Oper} {K : Env → World → Prop}
variable {d : Nat} {ty : TypeId} {pos : String} {af : Array Edge} {g : Option (Nat × Bool)} {G : GH}
end
def XX (l : List Span) (n : Nat) : Int:=if n = 2 * l.length then 8796093022208 else match l[n / 2]? with | some s=>if n % 2 = 0 then s.a else s.b | none=>0
theorem ZfI {l : List Span} {n : Nat} (h : n = 2 * l.length) : XX l n = 8796093022208:=by unfold XX; rw [if_pos h]
structure Behind (l : List Span) (n : Nat) (T : Int) : Prop where
 le : n ≤ 2 * l.length
 lo : ∀ (j : Nat) s,l[j]? = some s → (2 * j < n → s.a ≤ T) ∧ (2 * j + 1 < n → s.b ≤ T)
 hi : ∀ (j : Nat) s,l[j]? = some s → (n ≤ 2 * j → T < s.a) ∧ (n ≤ 2 * j + 1 → T < s.b)
theorem Behind.start {l : List Span} {T : Int} (h : ∀ s ∈ l,T < s.a ∧ T < s.b) : Behind l 0 T:=
 ⟨by omega,fun j s hs=>⟨fun h=>by omega,fun h=>by omega⟩,fun j s hs=>⟨fun _=>(h s (List.mem_of_getElem? hs)).1,fun _=>(h s (List.mem_of_getElem? hs)).2⟩⟩
theorem Behind.cover {l : List Span} {n : Nat} {T : Int} (h : Behind l n T) : cover l T ↔ n % 2 = 1:=by
 constructor
 ·rintro ⟨s,hs,h1,h2⟩
  obtain ⟨j,hj,rfl⟩:=List.mem_iff_getElem.1 hs
  have e:=List.getElem?_eq_getElem hj
  have a1:=(h.hi j _ e).1
  have a2:=(h.lo j _ e).2
  have b1 : ¬ n ≤ 2 * j:=fun q=>by have:=a1 q; omega
  have b2 : ¬ 2 * j + 1 < n:=fun q=>by have:=a2 q; omega
  omega
 ·intro hn
  have hl:=h.le
  have hj : n / 2 < l.length:=by omega
  have e:=List.getElem?_eq_getElem hj
  exact ⟨_,List.getElem_mem hj,(h.lo _ _ e).1 (by omega),(h.hi _ _ e).2 (by omega)⟩
theorem Zd0 {l : List Span} {n : Nat} (h : n < 2 * l.length) : ∃ s,l[n / 2]? = some s ∧ XX l n = if n % 2 = 0 then s.a else s.b:=by
 have hj : n / 2 < l.length:=by omega
 refine ⟨_,List.getElem?_eq_getElem hj,?_⟩
 unfold XX; rw [if_neg (by omega),List.getElem?_eq_getElem hj]
theorem ZjM {l : List Span} {n : Nat} (h : n < 2 * l.length) (hv : ∀ s ∈ l,s.a < 8796093022208 ∧ s.b < 8796093022208) : XX l n < 8796093022208:=by
 obtain ⟨s,hs,e⟩:=Zd0 h
 have:=hv s (List.mem_of_getElem? hs)
 rw [e]; split <;> omega
theorem Behind.gt {l : List Span} {n : Nat} {T : Int} (h : Behind l n T) (hT : T < 8796093022208) : T < XX l n:=by
 by_cases hn : n = 2 * l.length
 ·rw [ZfI hn]; exact hT
 ·have hl:=h.le
  obtain ⟨s,hs,e⟩:=Zd0 (l:=l) (n:=n) (by omega)
  rw [e]
  have:=h.hi _ _ hs
  split
  ·exact this.1 (by omega)
  ·exact this.2 (by omega)
theorem Zi1 {l : List Span} {n : Nat} (hC : Can l) (hn : n < 2 * l.length) (j : Nat) (s : Span) (hs : l[j]? = some s) : (n ≤ 2 * j → XX l n ≤ s.a) ∧ (n ≤ 2 * j + 1 → XX l n ≤ s.b) ∧ (n < 2 * j → XX l n < s.a) ∧ (n < 2 * j + 1 → XX l n < s.b):=by
 obtain ⟨s0,h0,e⟩:=Zd0 hn
 have p0:=hC.pos s0 (List.mem_of_getElem? h0)
 have p1:=hC.pos s (List.mem_of_getElem? hs)
 have ap : n / 2 < j → s0.b < s.a:=fun hlt=>by
  obtain ⟨q1,rfl⟩:=List.getElem?_eq_some_iff.1 h0
  obtain ⟨q2,rfl⟩:=List.getElem?_eq_some_iff.1 hs
  exact List.pairwise_iff_getElem.1 hC.apart _ _ q1 q2 hlt
 have eq : n / 2 = j → s0 = s:=fun he=>by rw [he] at h0; exact Option.some.inj (h0.symm.trans hs)
 rw [e]
 by_cases hj : n / 2 = j
 ·have:=eq hj; subst this
  refine ⟨fun q=>?_,fun q=>?_,fun q=>?_,fun q=>?_⟩ <;> split <;> omega
 ·refine ⟨fun q=>?_,fun q=>?_,fun q=>?_,fun q=>?_⟩ <;> (have:=ap (by omega); split <;> omega)
theorem Behind.up {l : List Span} {n : Nat} {T T' : Int} (h : Behind l n T) (hC : Can l) (hT : T ≤ T') (hlt : T' < XX l n ∨ n = 2 * l.length) : Behind l n T':=by
 refine ⟨h.le,fun j s hs=>⟨fun q=>Int.le_trans ((h.lo j s hs).1 q) hT,fun q=>Int.le_trans ((h.lo j s hs).2 q) hT⟩,fun j s hs=>?_⟩
 have hj:=(List.getElem?_eq_some_iff.1 hs).1
 by_cases hn : n = 2 * l.length
 ·exact ⟨fun q=>by omega,fun q=>by omega⟩
 ·have hl:=h.le
  have hm:=Zi1 hC (n:=n) (by omega) j s hs
  have hlt' : T' < XX l n:=by rcases hlt with h1 | h1 <;> omega
  exact ⟨fun q=>by have:=hm.1 q; omega,fun q=>by have:=hm.2.1 q; omega⟩
theorem Behind.step {l : List Span} {n : Nat} {T T' : Int} (h : Behind l n T) (hC : Can l) (hT : T ≤ T') (hn : n < 2 * l.length) (he : XX l n = T') : Behind l (n + 1) T':=by
 refine ⟨by omega,fun j s hs=>?_,fun j s hs=>?_⟩
 ·obtain ⟨s0,h0,e⟩:=Zd0 hn
  have eq : n / 2 = j → s0 = s:=fun he=>by rw [he] at h0; exact Option.some.inj (h0.symm.trans hs)
  constructor
  ·intro q
   by_cases hq : 2 * j < n
   ·exact Int.le_trans ((h.lo j s hs).1 hq) hT
   ·have:=eq (by omega); subst this
    rw [if_pos (by omega)] at e; omega
  ·intro q
   by_cases hq : 2 * j + 1 < n
   ·exact Int.le_trans ((h.lo j s hs).2 hq) hT
   ·have:=eq (by omega); subst this
    rw [if_neg (by omega)] at e; omega
 ·have hm:=Zi1 hC hn j s hs
  exact ⟨fun q=>by have:=hm.2.2.1 (by omega); omega,fun q=>by have:=hm.2.2.2 (by omega); omega⟩
def ZeP (i k : Nat) : Bool:=decide (((i % 2 : Nat) : Int) = 1) && !decide (((k % 2 : Nat) : Int) = 1)
structure Sweep (a b : List Span) (i k : Nat) (ins : Bool) (fr : Int) (out : List Span) (T : Int) : Prop where
 ba : Behind a i T
 bb : Behind b k T
 st : ins = ZeP i k
 can : Can out
 top : ∀ s ∈ out,s.b ≤ fr ∧ (ins = true → s.b < fr)
 frT : fr ≤ T ∨ (ins = false ∧ out = [])
 cov : ∀ x,x < T → ((cover out x ∨ (ins = true ∧ fr ≤ x)) ↔ (cover a x ∧ ¬ cover b x))
 len : 2 * out.length + (if ins then 1 else 0) ≤ i + k
 tb : T < 8796093022208
 bds : -8796093022208 ≤ T ∧ -8796093022208 ≤ fr ∧ fr ≤ 8796093022208
theorem Sweep.start {a b : List Span} (ha : ∀ s ∈ a,ZdX s = true) (hb : ∀ s ∈ b,ZdX s = true) : Sweep a b 0 0 false 0 [] (-8796093022208):=by
 have sv : ∀ s : Span,ZdX s = true → -8796093022208 < s.a ∧ -8796093022208 < s.b:=fun s hs=>by
  unfold ZdX ZiM at hs; simp at hs; omega
 refine ⟨Behind.start fun s hs=>sv s (ha s hs),Behind.start fun s hs=>sv s (hb s hs),rfl,⟨List.Pairwise.nil,by simp⟩,by simp, .inr ⟨rfl,rfl⟩,fun x hx=>?_,by simp,by decide,by decide⟩
 constructor
 ·rintro (⟨_,h,_⟩ | h)
  ·simp at h
  ·simp at h
 ·rintro ⟨⟨s,hs,h1,h2⟩,_⟩
  have:=sv s (ha s hs); omega
structure Adv (l : List Span) (i i' : Nat) (t : Int) : Prop where
 ok : (XX l i = t ∧ i' = i + 1) ∨ (XX l i ≠ t ∧ i' = i)
theorem Adv.yes {l : List Span} {i : Nat} {t : Int} (h : XX l i = t) : Adv l i (i + 1) t:=⟨.inl ⟨h,rfl⟩⟩
theorem Adv.no {l : List Span} {i : Nat} {t : Int} (h : XX l i ≠ t) : Adv l i i t:=⟨.inr ⟨h,rfl⟩⟩
structure Next (a b : List Span) (i k i' k' : Nat) (ins : Bool) (fr : Int) (out : List Span) (T t : Int) : Prop where
 ba : Behind a i' t
 bb : Behind b k' t
 lt : T < t
 tb : t < 8796093022208
 adv : i + k < i' + k'
 cov : ∀ x,x < t → ((cover out x ∨ (ins = true ∧ fr ≤ x)) ↔ (cover a x ∧ ¬ cover b x))
theorem Sweep.next {a b : List Span} {i k i' k' : Nat} {ins : Bool} {fr : Int} {out : List Span} {T t : Int} (h : Sweep a b i k ins fr out T)
  (hCa : Can a) (hCb : Can b) (ha : ∀ s ∈ a,ZdX s = true) (hb : ∀ s ∈ b,ZdX s = true)
  (ht : t = min (XX a i) (XX b k)) (hg : i < 2 * a.length ∨ k < 2 * b.length) (hi : Adv a i i' t) (hk : Adv b k k' t) : Next a b i k i' k' ins fr out T t:=by
 have sv : ∀ s : Span,ZdX s = true → s.a < 8796093022208 ∧ s.b < 8796093022208:=fun s hs=>by
  unfold ZdX ZiM at hs; simp at hs; omega
 have la:=h.ba.le; have lb:=h.bb.le
 have ga:=h.ba.gt h.tb; have gb:=h.bb.gt h.tb
 have hla : ∀ n,n < 2 * a.length → XX a n < 8796093022208:=fun n hn=>ZjM hn fun s hs=>sv s (ha s hs)
 have hlb : ∀ n,n < 2 * b.length → XX b n < 8796093022208:=fun n hn=>ZjM hn fun s hs=>sv s (hb s hs)
 have tb : t < 8796093022208:=by
  rcases hg with q | q
  ·have:=hla i q; omega
  ·have:=hlb k q; omega
 have hlt : T < t:=by omega
 have na : XX a i = t → i < 2 * a.length:=fun q=>by
  rcases Nat.lt_or_ge i (2 * a.length) with c | c
  ·exact c
  ·have:=ZfI (l:=a) (n:=i) (by omega); omega
 have nb : XX b k = t → k < 2 * b.length:=fun q=>by
  rcases Nat.lt_or_ge k (2 * b.length) with c | c
  ·exact c
  ·have:=ZfI (l:=b) (n:=k) (by omega); omega
 refine ⟨?_,?_,hlt,tb,?_,fun x hx=>?_⟩
 ·rcases hi.ok with ⟨q,rfl⟩ | ⟨q,rfl⟩
  ·exact h.ba.step hCa (by omega) (na q) q
  ·exact h.ba.up hCa (by omega) (.inl (by omega))
 ·rcases hk.ok with ⟨q,rfl⟩ | ⟨q,rfl⟩
  ·exact h.bb.step hCb (by omega) (nb q) q
  ·exact h.bb.up hCb (by omega) (.inl (by omega))
 ·rcases hi.ok with ⟨q,rfl⟩ | ⟨q,rfl⟩ <;> rcases hk.ok with ⟨q',rfl⟩ | ⟨q',rfl⟩ <;> omega
 ·rcases Int.lt_or_le x T with hxT | hxT
  ·exact h.cov x hxT
  ·have c1:=(h.ba.up hCa hxT (.inl (by omega))).cover
   have c2:=(h.bb.up hCb hxT (.inl (by omega))).cover
   have hst:=h.st
   rw [c1,c2]
   constructor
   ·rintro (⟨s,hs,h1,h2⟩ | ⟨q,_⟩)
    ·have:=(h.top s hs).1
     rcases h.frT with q | ⟨_,q⟩
     ·omega
     ·rw [q] at hs; simp at hs
    ·rw [q] at hst; unfold ZeP at hst; simp at hst; omega
   ·intro q
    right
    have e : ins = true:=by rw [hst]; unfold ZeP; simp; omega
    refine ⟨e,?_⟩
    rcases h.frT with q' | ⟨q',_⟩
    ·omega
    ·rw [e] at q'; cases q'
theorem Sweep.open {a b : List Span} {i k i' k' : Nat} {fr : Int} {out : List Span} {T t : Int} (h : Sweep a b i k false fr out T) (hn : Next a b i k i' k' false fr out T t) (he : ZeP i' k' = true) : Sweep a b i' k' true t out t:=by
 have tp : ∀ s ∈ out,s.b < t:=fun s hs=>by
  have:=(h.top s hs).1
  rcases h.frT with q | ⟨_,q⟩
  ·have:=hn.lt; omega
  ·rw [q] at hs; simp at hs
 refine ⟨hn.ba,hn.bb,he.symm,h.can,fun s hs=>⟨by have:=tp s hs; omega,fun _=>tp s hs⟩, .inl (by omega),fun x hx=>?_,by have:=h.len; have:=hn.adv; simp at this ⊢; simp at *; omega,hn.tb,by have:=h.bds; have:=hn.lt; have:=hn.tb; omega⟩
 rw [← hn.cov x hx]
 constructor
 ·rintro (q | ⟨_,q⟩)
  ·exact .inl q
  ·omega
 ·rintro (q | ⟨q,_⟩)
  ·exact .inl q
  ·cases q
theorem Sweep.push {a b : List Span} {i k i' k' : Nat} {fr : Int} {out : List Span} {T t : Int} (h : Sweep a b i k true fr out T) (hn : Next a b i k i' k' true fr out T t) (he : ZeP i' k' = false) : Sweep a b i' k' false t (out ++ [⟨fr,t⟩]) t:=by
 have hfr : fr ≤ T:=by
  rcases h.frT with q | ⟨q,_⟩
  ·exact q
  ·cases q
 have hlt:=hn.lt
 refine ⟨hn.ba,hn.bb,he.symm,⟨List.pairwise_append.2 ⟨h.can.apart,List.pairwise_singleton _ _,fun s hs q hq=>?_⟩,fun s hs=>?_⟩,fun s hs=>⟨?_,fun q=>by cases q⟩, .inl (by omega),fun x hx=>?_,?_,hn.tb,by have:=h.bds; have:=hn.tb; omega⟩
 ·simp at hq; subst hq; exact (h.top s hs).2 rfl
 ·rcases List.mem_append.1 hs with q | q
  ·exact h.can.pos s q
  ·simp at q; subst q; show fr < t; omega
 ·rcases List.mem_append.1 hs with q | q
  ·have:=(h.top s q).1; omega
  ·simp at q; subst q; show t ≤ t; omega
 ·rw [← hn.cov x hx]
  constructor
  ·rintro (⟨s,hs,h1,h2⟩ | ⟨q,_⟩)
   ·rcases List.mem_append.1 hs with q | q
    ·exact .inl ⟨s,q,h1,h2⟩
    ·simp at q; subst q; exact .inr ⟨rfl,h1⟩
   ·cases q
  ·rintro (⟨s,hs,h1,h2⟩ | ⟨_,q⟩)
   ·exact .inl ⟨s,List.mem_append_left _ hs,h1,h2⟩
   ·exact .inl ⟨⟨fr,t⟩,by simp,q,hx⟩
 ·have:=h.len; have:=hn.adv; simp at *; omega
theorem Sweep.done {a b : List Span} {i k : Nat} {ins : Bool} {fr : Int} {out : List Span} {T : Int} (h : Sweep a b i k ins fr out T) (hCa : Can a) (hCb : Can b)
  (hi : ¬ (i < 2 * a.length)) (hk : ¬ (k < 2 * b.length)) : out = ZiP 3 a b ∧ out.length ≤ a.length + b.length:=by
 have la:=h.ba.le; have lb:=h.bb.le
 have ei : i = 2 * a.length:=by omega
 have ek : k = 2 * b.length:=by omega
 have hst : ins = false:=by rw [h.st]; unfold ZeP; simp; omega
 obtain ⟨h1,h2⟩:=ZmT (kind:=3) (a:=a) (b:=b) rfl hCa.pos hCb.pos
 refine ⟨Can.unique h.can h1 fun x=>?_,by have:=h.len; omega⟩
 rw [h2 x]
 have key : (cover a x ∧ ¬ cover b x) ↔ Zbr 3 (inR a x) (inR b x) = true:=by
  rw [← ZdB,← ZdB]
  simp [Zbr]
 rw [← key]
 rcases Int.lt_or_le x T with q | q
 ·rw [← h.cov x q,hst]; simp
 ·have c1:=(h.ba.up hCa q (.inr ei)).cover
  constructor
  ·rintro ⟨s,hs,u1,u2⟩
   have:=(h.top s hs).1
   rcases h.frT with q' | ⟨_,q'⟩
   ·omega
   ·rw [q'] at hs; simp at hs
  ·rintro ⟨u1,_⟩
   have:=c1.1 u1; omega
def Zpm (gs : List Group) (v : List Val) : Prop:=∀ (p q : Nat) (x y : Group),p < q → gs[p]? = some x → gs[q]? = some y → ZeG y.v v < 0 → ZeG x.v v < 0
def Zrk (gs : List Group) (v : List Val) (i : Nat) : Prop:=∀ (j : Nat),j < i → ∀ (u : Group),gs[j]? = some u → ZeG u.v v < 0
def Zpn (gs : List Group) (v : List Val) (i : Nat) : Prop:=∀ (j : Nat),i ≤ j → ∀ (u : Group),gs[j]? = some u → ¬ ZeG u.v v < 0
theorem Zrk.zero {gs : List Group} {v : List Val} : Zrk gs v 0:=fun j hj=>by omega
theorem Zpn.all {gs : List Group} {v : List Val} : Zpn gs v gs.length:=fun j hj u hu=>by have:=(List.getElem?_eq_some_iff.1 hu).1; omega
theorem Zrk.step {gs : List Group} {v : List Val} {h : Nat} {x : Group} (hs : Zpm gs v) (hx : gs[h]? = some x) (hc : ZeG x.v v < 0) : Zrk gs v (h + 1):=fun j hj u hu=>by
 by_cases e : j = h
 ·subst e; rw [hx] at hu; cases hu; exact hc
 ·exact hs j h u x (by omega) hu hx hc
theorem Zpn.step {gs : List Group} {v : List Val} {h : Nat} {x : Group} (hs : Zpm gs v) (hx : gs[h]? = some x) (hc : 0 ≤ ZeG x.v v) : Zpn gs v h:=fun j hj u hu k=>by
 by_cases e : j = h
 ·subst e; rw [hx] at hu; cases hu; omega
 ·have:=hs h j x u (by omega) hx hu k; omega
end Go.Civ
namespace Go.Proofs
open Go.Shelf
def Tryz.growC_ren : Go.Shelf.Ren:=⟨fun | 4=>225 | n=>n,fun | 22=>43 | 25=>48 | 3=>3 | 4=>4 | 9=>9 | 20=>20 | 0=>0 | n=>n,fun | n=>n⟩
theorem Tryz.growC : Go.Proofs.Lays8.n4 Tryz.prog Tryz.growC_ren:={
 mixed:=by kernel_rfl
 f4:=⟨Tryz.f225.name,by decide,Tryz.func225.trans (congrArg some (by kernel_rfl))⟩
 t0:=Tryz.underlying0
 a0:=Tryz.isAgg0
 z0:=Tryz.sizeOf0
 v0:=Tryz.zeroValue0
 t3:=Tryz.underlying3
 a3:=Tryz.isAgg3
 z3:=Tryz.sizeOf3
 v3:=Tryz.zeroValue3
 t4:=Tryz.underlying4
 a4:=Tryz.isAgg4
 z4:=Tryz.sizeOf4
 v4:=Tryz.zeroValue4
 t9:=Tryz.underlying9
 a9:=Tryz.isAgg9
 z9:=Tryz.sizeOf9
 v9:=Tryz.zeroValue9
 t20:=Tryz.underlying20
 a20:=Tryz.isAgg20
 z20:=Tryz.sizeOf20
 v20:=Tryz.zeroValue20
 t22:=Tryz.underlying43
 a22:=Tryz.isAgg43
 z22:=Tryz.sizeOf43
 v22:=Tryz.zeroValue43 }
end Go.Proofs
