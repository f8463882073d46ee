/- Lemmas. -/
import Derived.Test.YthgeclodflmiaaaGreatN06
import Derived.Test.YthgeclodflmiaaaGreatN10
import Derived.Test.YthgeclodflmiaaaGreatN12
import Derived.Test.YthgeclodflmiaaaGreatN15
import Derived.Test.YthgeclodflmiaaaGreatProg
import Derived.WalkKit
import Derived.Below
import Derived.Shelf.GgClosure.StringsRunes
set_option linter.unusedVariables false
namespace Go.Civ
open Go.Proofs Go.Shelf Go.RowKit Go.Lib
theorem ZcK (w : World) : ∀ n,Below w.heap.size w (w.drewN n)
 | 0=>Below.refl _ _
 | n + 1=>(ZcK w n).drew
def pR (r : Nat) : Bool:=decide (r < 32) || decide (126 < r)
set_option maxHeartbeats 1000000 in
theorem ZsB (r : Nat) (W : World) : Calls Tryz.prog 177 #[.int .i32 (r : Int)] W fun e w'=>e = .returned (.bool (pR r)) ∧ ∃ q,w' = W.drewN q:=by
 by_cases h1 : r < 32 <;> by_cases h2 : 126 < r
 all_goals
  have z1 : (r : Int) < 32 ↔ r < 32:=by omega
  have z2 : (126 : Int) < (r : Int) ↔ 126 < r:=by omega
  go_enter Tryz.func177,Tryz.ntmps177
  go_wp2
  all_goals first | (exfalso; omega) | (go_ret; exact ⟨by simp [pR,h1,h2],0,rfl⟩)
set_option maxHeartbeats 2000000 in
set_option maxRecDepth 1000000 in
theorem Zko (s : ByteArray) (w : World) :
  Calls Tryz.prog 246 #[.string s, .func (.func 177) #[] #[], .bool true] w fun e w'=>e = .returned (.int .i64 (Lib.idxFunc pR true s)) ∧ Below w.heap.size w w' ∧ w.drawn ≤ w'.drawn:=by
 have e177 : ∀ args w,(callFunc 177 args).run Tryz.prog w = .ok (.enter 177 args) w:=enters_of Tryz.func177 (by kernel_rfl) rfl
 go_enter Tryz.func246,Tryz.ntmps246
 go_wp2
 go_loopg [] s.size (fun gf wx=>∃ pos : Nat,wx.heap[w.heap.size]? = some (.stringIter s pos) ∧ Below w.heap.size w wx ∧ Lib.idxFuncFrom pR true s gf pos = Lib.idxFunc pR true s ∧ s.size ≤ pos + gf ∧ w.drawn ≤ wx.drawn)
 case atStart=>exact ⟨0,World.iter_heap w s 0,(Below.refl _ w).alloc (Nat.le_refl _) _,rfl,by omega,Nat.le_refl _⟩
 case round=>
  obtain ⟨pos,hit,hbw,hleft,hfu,hdr⟩:=hrel
  by_cases hps : pos < s.size
  ·obtain ⟨g',rfl⟩ : ∃ g',gk = g' + 1:=⟨gk - 1,by omega⟩
   have hnx : ∀ ty,(Instr.next (.pointer (some ⟨w.heap.size,0,none⟩)) true ty).run Tryz.prog wr = _:=fun ty=>Lib.run_next_any_at wr w.heap.size s pos ty hit hps
   have hwd:=Lib.width_pos s pos
   obtain ⟨R,hR⟩ : ∃ R,(Utf8.decode s pos).1 = R:=⟨_,rfl⟩
   obtain ⟨K,hK⟩ : ∃ K,(Utf8.decode s pos).2 = K:=⟨_,rfl⟩
   simp only [Lib.idxFuncFrom,hps,if_true,hR,hK] at hleft
   rw [hR,hK] at hnx
   rw [hK] at hwd
   have hit2:=Lib.iterAt_heap wr w.heap.size s pos (pos + K) hit
   have hbw2:=Lib.below_iterAt hbw (k:=w.heap.size) (Nat.le_refl _) s (pos + K)
   have hdW : w.drawn ≤ (wr.iterAt w.heap.size s (pos + K)).drawn:=hdr
   obtain ⟨W,hWd⟩ : ∃ W,wr.iterAt w.heap.size s (pos + K) = W:=⟨_,rfl⟩
   rw [hWd] at hnx hit2 hbw2 hdW
   have hltW : w.heap.size < W.heap.size:=(Array.getElem?_eq_some_iff.1 hit2).1
   have cS : Calls Tryz.prog 177 (#[.int .i32 (R : Int)] ++ #[]) W _:=ZsB R W
   cases hsp : pR R <;> rw [hsp] at cS <;> simp only [hsp,if_true,Bool.false_eq_true,if_false] at hleft
   ·go_wp2_with (go_at_fn 177; refine cS.mono ?_; rintro e W' ⟨rfl,q,rfl⟩)
    have hbc:=ZcK W q
    go_roundg g'
    case measure=>omega
    case rel=>exact ⟨pos + K,(hbc.block _ hltW).trans hit2,(hbw2.trans (hbc.mono hbw2.size)),hleft,by omega,Nat.le_trans hdW (Nat.le_add_right _ _)⟩
   ·go_wp2_with (go_at_fn 177; refine cS.mono ?_; rintro e W' ⟨rfl,q,rfl⟩)
    have hbc:=ZcK W q
    go_ret
    exact ⟨by rw [← hleft] <;> rfl,(hbw2.trans (hbc.mono hbw2.size)),Nat.le_trans hdW (Nat.le_add_right _ _)⟩
  ·have hnx : ∀ ty,(Instr.next (.pointer (some ⟨w.heap.size,0,none⟩)) true ty).run Tryz.prog wr = _:=fun ty=>Lib.run_next_end_at wr w.heap.size s pos ty hit hps
   rw [Lib.idxFuncFrom_end pR true s gk pos hps] at hleft
   go_wp2
   go_ret
   exact ⟨by rw [← hleft] <;> rfl,hbw,hdr⟩
theorem ZsC (n b0 b1 b2 b3 : Nat) (h : 128 ≤ b0) : 128 ≤ (Lib.decodeN n b0 b1 b2 b3).1:=by
 unfold Lib.decodeN
 repeat' split
 all_goals simp_all
 all_goals omega
theorem Zug (s : List UInt8) (i : Nat) (c : UInt8) (h : s[i]? = some c) : (⟨s.toArray⟩ : ByteArray).get! i = c:=by
 obtain ⟨hl,he⟩:=List.getElem?_eq_some_iff.1 h
 show (s.toArray)[i]! = c
 simp [hl,he]
theorem ZlO (s : List UInt8) : ∀ (f pos : Nat),s.length ≤ pos + f → (0 ≤ Lib.idxFuncFrom pR true ⟨s.toArray⟩ f pos ↔ ¬ ∀ c ∈ s.drop pos,okC c = true)
 | 0,pos,h=>by
  have : s.drop pos = []:=List.drop_eq_nil_of_le (by omega)
  simp [Lib.idxFuncFrom,this]
 | f + 1,pos,h=>by
  have hsz : (⟨s.toArray⟩ : ByteArray).size = s.length:=by simp [ByteArray.size]
  unfold Lib.idxFuncFrom
  by_cases hp : pos < s.length
  ·obtain ⟨c,hc⟩ : ∃ c,s[pos]? = some c:=⟨_,List.getElem?_eq_getElem hp⟩
   have hd : s.drop pos = c :: s.drop (pos + 1):=by
    rw [List.drop_eq_getElem_cons hp]; rw [List.getElem?_eq_getElem hp] at hc; rw [Option.some.inj hc]
   rw [if_pos (by rw [hsz]; exact hp),hd,Lib.decode_at,Zug s pos c hc]
   by_cases hb : c.toNat < 128
   ·rw [show Lib.decodeN ((⟨s.toArray⟩ : ByteArray).size - pos) c.toNat ((⟨s.toArray⟩ : ByteArray).get! (pos + 1)).toNat ((⟨s.toArray⟩ : ByteArray).get! (pos + 2)).toNat ((⟨s.toArray⟩ : ByteArray).get! (pos + 3)).toNat = (c.toNat,1) from by simp [Lib.decodeN,hb]]
    have ih:=ZlO s f (pos + 1) (by omega)
    by_cases ho : okC c = true
    ·have : pR c.toNat = false:=by simp [okC,pR] at *; omega
     simp only [this]
     rw [if_neg (by simp),ih]; simp [ho]
    ·have : pR c.toNat = true:=by simp [okC,pR] at *; omega
     simp only [this,if_true]
     simp [ho]
   ·have h2:=ZsC ((⟨s.toArray⟩ : ByteArray).size - pos) c.toNat ((⟨s.toArray⟩ : ByteArray).get! (pos + 1)).toNat ((⟨s.toArray⟩ : ByteArray).get! (pos + 2)).toNat ((⟨s.toArray⟩ : ByteArray).get! (pos + 3)).toNat (by omega)
    have h3 : pR (Lib.decodeN ((⟨s.toArray⟩ : ByteArray).size - pos) c.toNat ((⟨s.toArray⟩ : ByteArray).get! (pos + 1)).toNat ((⟨s.toArray⟩ : ByteArray).get! (pos + 2)).toNat ((⟨s.toArray⟩ : ByteArray).get! (pos + 3)).toNat).1 = true:=by simp [pR]; omega
    have ho : okC c = false:=by simp [okC]; omega
    rw [if_pos h3]; simp [ho]
  ·have : s.drop pos = []:=List.drop_eq_nil_of_le (by omega)
   rw [if_neg (by rw [hsz]; exact hp)]
   simp [this]
theorem Zuh (s : List UInt8) : decide (0 ≤ Lib.idxFunc pR true ⟨s.toArray⟩) = !s.all okC:=by
 have h:=ZlO s s.length 0 (by omega)
 unfold Lib.idxFunc
 have hsz : (⟨s.toArray⟩ : ByteArray).size = s.length:=by simp [ByteArray.size]
 rw [hsz,Bool.eq_iff_iff]
 simp only [decide_eq_true_eq,h,List.drop_zero,Bool.not_eq_true',← Bool.not_eq_true,List.all_eq_true]
set_option maxHeartbeats 2000000 in
theorem Zhl (s : ByteArray) (w : World) :
  Calls Tryz.prog 212 #[.string s, .func (.func 177) #[] #[]] w fun e w'=>e = .returned (.int .i64 (Lib.idxFunc pR true s)) ∧ Below w.heap.size w w' ∧ w.drawn ≤ w'.drawn:=by
 have cI:=Zko s w
 have e246 : ∀ args w,(callFunc 246 args).run Tryz.prog w = .ok (.enter 246 args) w:=enters_of Tryz.func246 (by kernel_rfl) rfl
 go_enter Tryz.func212,Tryz.ntmps212
 go_wp2_with (go_at_fn 246; refine cI.mono ?_; rintro e w' ⟨rfl,hb⟩)
 go_ret
 exact ⟨rfl,hb⟩
set_option maxHeartbeats 2000000 in
theorem Zhm (s : ByteArray) (w : World) :
  Calls Tryz.prog 176 #[.string s, .func (.func 177) #[] #[]] w fun e w'=>e = .returned (.bool (decide (0 ≤ Lib.idxFunc pR true s))) ∧ Below w.heap.size w w' ∧ w.drawn ≤ w'.drawn:=by
 have cI:=Zhl s w
 have e212 : ∀ args w,(callFunc 212 args).run Tryz.prog w = .ok (.enter 212 args) w:=enters_of Tryz.func212 (by kernel_rfl) rfl
 obtain ⟨I,hI⟩ : ∃ I,Lib.idxFunc pR true s = I:=⟨_,rfl⟩
 rw [hI] at cI ⊢
 go_enter Tryz.func176,Tryz.ntmps176
 go_wp2_with (go_at_fn 212; refine cI.mono ?_; rintro e w' ⟨rfl,hb⟩)
 go_ret
 exact ⟨rfl,hb⟩
theorem Zkp {w w' : World} {G : GH} (hG : G.In w) (h : Below w.heap.size w w') (hd : w.drawn ≤ w'.drawn) : Res [] w G w' G:=
 ⟨⟨h.os,h.tape,h.output,hd,h.size,fun k hk _=>h.block k hk⟩,G.le_refl,fun _ _=>rfl,fun b o hb=>(h.block b (hG.lt hb)).trans (hG b o hb)⟩
theorem Zlu {G : GH} {w : World} (hG : G.In w) (s : List UInt8) : Calls Tryz.prog (nat_lit 176) #[Zb s, .func (.func 177) #[] #[]] w fun e w'=>∃ r G',e = .returned r ∧ Res [] w G w' G' ∧ r = .bool (!s.all okC):=
 (Zhm ⟨s.toArray⟩ w).mono fun e w' ⟨he,hb,hd⟩=>⟨_,G,he,Zkp hG hb hd,by rw [Zuh]⟩
end Go.Civ
set_option linter.unusedVariables false
namespace Go.Civ
open Go.Proofs Go.Shelf Go.RowKit Go.Lib Go.Sort
theorem ZqT (l : List Int) : ZbE l = Zj0 l:=rfl
set_option maxHeartbeats 1000000 in
theorem ZoR {G : GH} {w : World} (hG : G.In w) (l : List Int) (vd : Value) (od : OB) (hvd : Yf Enc.int 8 (nat_lit 3) G vd l od) (hod : QW w G od) :
  Calls Tryz.prog (nat_lit 146) #[vd] w fun e w'=>∃ r G',e = .returned r ∧ Res (QL od) w G w' G' ∧ ∃ (o' : OB),Yf Enc.int 8 (nat_lit 3) G' r (compact l) o' ∧ QW w' G' o' ∧ QL o' = QL od:=by
 rcases hvd with ⟨rfl,rfl,rfl⟩ | ⟨b,cs,cap,xs,rfl,rfl,h3,h4,h5,h6,h7,h8,h9⟩
 ·exact (Any.slices_Compact_int_empty Tryz.laysCompact none 0 w).mono fun e w' ⟨he,hw⟩=>by
   subst hw
   exact ⟨_,G,he,Res.refl hG,none, .inl ⟨rfl,rfl,rfl⟩,fun p hp=>(by cases hp),rfl⟩
 ·obtain ⟨hb1,hb2⟩:=hod _ rfl
  obtain ⟨rfl,hI⟩:=Zcw l xs h6
  have hE : Enc.int.n = 1:=rfl
  rw [hE,Nat.mul_one] at h5 h7
  have hcell : ∀ t,t < l.length → cs[t]? = some (.int .i64 l[t]!):=fun t ht=>by
   have:=congrArg (·[t]?) h7
   simp only [List.getElem?_take,if_pos ht,List.getElem?_map] at this
   rw [this,List.getElem?_eq_getElem ht,getElem!_pos l t ht]; rfl
  have hH : Holds (Value.int .i64) w b 0 l.toArray:=fun t ht=>by
   have ht' : t < l.length:=by simpa using ht
   refine ⟨?_,?_⟩
   ·rw [Nat.zero_add]
    simp only [World.cell?,hb1,Zan]
    have:=hcell t ht'
    rw [getElem!_pos l t ht'] at this
    rw [getElem!_pos l.toArray t ht]
    simpa using this
   ·simp [World.frozen?,hb1,Zan]
  have hcon:=Any.slices_Compact_int Tryz.laysCompact b 0 cap l w hH (by unfold reach at h9; omega) h3
  refine hcon.mono fun e w' ⟨he,q,hw⟩=>?_
  have hlen:=Zlw l
  have hbl : b < w.heap.size:=(Array.getElem?_eq_some_iff.1 hb1).1
  obtain ⟨z,hz⟩ : ∃ z : List Int,z = compact l ++ List.replicate (l.length - (compact l).length) 0:=⟨_,rfl⟩
  have hzl : z.length = l.length:=by subst hz; simp; omega
  rw [← hz] at hw
  obtain ⟨cs',hcs'⟩ : ∃ cs' : List Value,cs' = (putCells (Value.int .i64) 0 z.toArray cs.toArray).toList:=⟨_,rfl⟩
  have hget : ∀ k,w'.heap[k]? = if b = k then some (.cells cs'.toArray (nat_lit 3) (0,0)) else w.heap[k]? :=fun k=>by
   subst hw
   have hah : (Go.Sort.ahead w q).heap = w.heap:=rfl
   simp only [putRow,mapBlock,hah]
   rw [Array.getElem?_modify]
   by_cases hkb : b = k
   ·subst hkb
    rw [if_pos rfl,if_pos rfl,hb1]
    simp [Zan,onCells,hcs']
   ·rw [if_neg hkb,if_neg hkb]
  have hres : Res [b] w G w' G:=by
   refine ⟨?_,G.le_refl,fun _ _=>rfl,fun k o hk=>?_⟩
   ·refine ⟨by subst hw; rfl,by subst hw; rfl,by subst hw; rfl,by subst hw; exact Nat.le_add_right _ _,?_,fun k hk hkb=>?_⟩
    ·subst hw
     have hah : (Go.Sort.ahead w q).heap = w.heap:=rfl
     simp [putRow,mapBlock]
     try simp [hah]
    ·rw [hget,if_neg (by simpa [eq_comm] using hkb)]
   ·have hkb : b ≠ k:=fun e=>by subst e; simp only at hb2; rw [hb2] at hk; cases hk
    rw [hget,if_neg hkb]; exact hG k o hk
  have hI' : ∀ x ∈ compact l,Zv x:=fun x hx=>by
   unfold compact compactUpTo at hx
   obtain ⟨j,hj,rfl⟩:=List.mem_map.1 hx
   have hj' : j < l.length:=by simpa using (List.mem_filter.1 hj).1
   rw [getElem!_pos l.toArray j (by simpa using hj')]
   exact hI _ (by simp)
  have hby : (compact l).length * 8 ≤ reach:=Nat.le_trans (Nat.mul_le_mul_right _ hlen) h8
  refine ⟨_,G,he,hres,some (b,nat_lit 3,cs'), .inr ⟨b,cs',cap,(compact l).map (Value.int .i64),rfl,rfl,Nat.le_trans hlen h3,h4,?_,Zib _ hI',?_,hby,Nat.le_trans hlen h9⟩,fun p hp=>?_,rfl⟩
  ·subst hcs'; rw [hE]; simpa [putCells] using h5
  ·rw [hE,Nat.mul_one]
   apply List.ext_getElem?
   intro t
   rw [List.getElem?_take]
   by_cases ht : t < (compact l).length
   ·have htc : t < cs.length:=by omega
    have htz : z[t]? = (compact l)[t]? :=by rw [hz,List.getElem?_append_left ht]
    have htz' : t < z.length:=by omega
    rw [if_pos ht,hcs']
    simp only [putCells,Array.getElem?_toList,Array.getElem?_mapIdx]
    simp only [List.getElem?_toArray]
    rw [List.getElem?_eq_getElem htc,List.getElem?_map,← htz,List.getElem?_eq_getElem htz']
    simp [htz']
   ·rw [if_neg ht,List.getElem?_eq_none]
    simp; omega
  ·obtain rfl:=Option.some.inj hp
   exact ⟨by rw [hget,if_pos rfl]; rfl,hb2⟩
end Go.Civ
namespace Go.Civ
open Go.RowKit
set_option linter.unusedVariables false
theorem Ztf {x : HRow} (h : (x.v.any fun x=>!Zy x) = true) : false = Y0 x:=by
 have:=ZcB h; unfold Y0; rw [this]; rfl
theorem Ztg {x : HRow} (h : (x.v.any fun x=>!Zy x) = false) (h2 : ZC x.r.d = false) : false = Y0 x:=by
 have:=ZcB h; unfold Y0; rw [this,h2]; rfl
theorem Zth {x : HRow} (h : (x.v.any fun x=>!Zy x) = false) (h2 : ZC x.r.d = true) : ZC x.r.x = Y0 x:=by
 have:=ZcB h; unfold Y0; rw [this,h2]; simp
def Qe (l : List HRow) : List HRow:=if 1000 < l.length then [] else if l.all Y0 then (if (Z5 l).length ≤ 500 then Z5 l else []) else []
def Q8 (l : List HRow) : Int:=if 1000 < l.length then 5 else if l.all Y0 then (if (Z5 l).length ≤ 500 then 0 else 5) else 1
theorem Zgj {l : List HRow} (h : (l.any fun r=>!Y0 r) = false) : ZA l:=fun r hr=>by
 rw [List.any_eq_false] at h; simpa using h r hr
theorem Zh2 {l : List HRow} (h : (l.any fun r=>!Y0 r) = false) : l.all Y0 = true:=List.all_eq_true.2 (Zgj h)
theorem Zl3 {l : List HRow} (h : (l.any fun r=>!Y0 r) = true) : l.all Y0 = false:=by rw [← Bool.not_eq_true,List.all_eq_true]; rw [List.any_eq_true] at h; obtain ⟨r,hr,h1⟩:=h; intro e; rw [e r hr] at h1; cases h1
theorem ZiK {l : List HRow} (h : 1000 < (l.length : Int)) : Qe l = [] ∧ Q8 l = 5:=by
 refine ⟨?_,?_⟩ <;> simp only [Qe,Q8,if_pos (show 1000 < l.length by omega)]
theorem ZiL {l : List HRow} (h : (l.length : Int) ≤ 1000) (h2 : (l.any fun r=>!Y0 r) = true) : Qe l = [] ∧ Q8 l = 1:=by
 refine ⟨?_,?_⟩ <;> simp only [Qe,Q8,if_neg (show ¬ 1000 < l.length by omega),Zl3 h2,Bool.false_eq_true,if_false]
theorem Zh3 {l : List HRow} (h : (l.length : Int) ≤ 1000) (h2 : (l.any fun r=>!Y0 r) = false) (h3 : 500 < ((Z5 l).length : Int)) : Qe l = [] ∧ Q8 l = 5:=by
 refine ⟨?_,?_⟩ <;> simp only [Qe,Q8,if_neg (show ¬ 1000 < l.length by omega),Zh2 h2,if_neg (show ¬ (Z5 l).length ≤ 500 by omega),if_true]
theorem Zg1 {l : List HRow} (h : (l.length : Int) ≤ 1000) (h2 : (l.any fun r=>!Y0 r) = false) (h3 : ((Z5 l).length : Int) ≤ 500) : Qe l = Z5 l ∧ Q8 l = 0:=by
 refine ⟨?_,?_⟩ <;> simp only [Qe,Q8,if_neg (show ¬ 1000 < l.length by omega),Zh2 h2,if_pos (show (Z5 l).length ≤ 500 by omega),if_true]
theorem ZoS {x y : HRow} (h : decide (x.v = y.v) = false) : false = decide (x = y):=(decide_eq_false fun e=>(of_decide_eq_false h) (by rw [e])).symm
theorem ZoT {x y : HRow} (h : decide (x.v = y.v) = true) : decide (x.r = y.r) = decide (x = y):=decide_eq_decide.2 ⟨fun e=>by
 have:=of_decide_eq_true h
 cases x; cases y; simp_all,fun e=>by rw [e]⟩
end Go.Civ
namespace Go.Civ
open Go.RowKit
set_option linter.unusedVariables false
def Qv (t : Table) : Bool:=YE t.s && decide (-62135596801 ≤ t.last) && decide (t.last < 253402300800) && decide (t.rows.length ≤ 500)
theorem Znr {t : Table} (h1 : YE t.s = true) (h2 : -62135596801 ≤ t.last) (h3 : t.last < 253402300800) (h4 : (t.rows.length : Int) ≤ 500) : Qv t = true:=by
 unfold Qv; rw [h1,decide_eq_true h2,decide_eq_true h3,decide_eq_true (show t.rows.length ≤ 500 by omega)]; rfl
theorem Zbv (t : Table) : Z3 t = ((Qv t && t.rows.all (YF t.s t.last)) && decide (t.rows = Z5 t.rows)):=rfl
theorem ZeB {t : Table} (h : Qv t = false) : false = Z3 t:=by rw [Zbv,h]; rfl
theorem ZqW {t : Table} (h : YE t.s = false) : Qv t = false:=by unfold Qv; rw [h]; rfl
theorem ZqX {t : Table} (h : t.last < -62135596801) : Qv t = false:=by unfold Qv; rw [decide_eq_false (show ¬ -62135596801 ≤ t.last by omega)]; simp
theorem ZqY {t : Table} (h : 253402300800 ≤ t.last) : Qv t = false:=by unfold Qv; rw [decide_eq_false (show ¬ t.last < 253402300800 by omega)]; simp
theorem ZqZ {t : Table} (h : 500 < (t.rows.length : Int)) : Qv t = false:=by unfold Qv; rw [decide_eq_false (show ¬ t.rows.length ≤ 500 by omega)]; simp
theorem Zc6 {t : Table} {k : Nat} {x : HRow} (h : t.rows[k]? = some x) (hx : YF t.s t.last x = false) : false = Z3 t:=by
 rw [Zbv,ZcH h hx]; simp
theorem ZoU {t : Table} (h1 : Qv t = true) (h2 : t.rows.all (YF t.s t.last) = true) : Qp (fun x y=>decide (x = y)) t.rows (Z5 t.rows) = Z3 t:=by
 rw [Zbv,h1,h2,Xy]; rfl
theorem Zti {s : Schema} {last : Int} {x : HRow} (h : YJ s x.v ≠ 0) : YF s last x = false:=by unfold YF; rw [decide_eq_false h]; rfl
theorem Ztj {s : Schema} {last : Int} {x : HRow} (h : Y0 x = false) : YF s last x = false:=by unfold YF; rw [h]; simp
theorem Ztk {s : Schema} {last : Int} {x : HRow} (h : last < x.r.x.a) : YF s last x = false:=by unfold YF; rw [decide_eq_false (show ¬ x.r.x.a ≤ last by omega)]; simp
theorem Ztl {s : Schema} {last : Int} {x : HRow} (h : last < x.r.x.b) (h2 : x.r.x.b ≠ 253402300800) : YF s last x = false:=by unfold YF; rw [decide_eq_false (show ¬ x.r.x.b ≤ last by omega),decide_eq_false h2]; simp
theorem Zic {s : Schema} {last : Int} {x : HRow} (h1 : YJ s x.v = 0) (h2 : Y0 x = true) (h3 : x.r.x.a ≤ last) (h4 : x.r.x.b ≤ last ∨ x.r.x.b = 253402300800) : YF s last x = true:=by
 unfold YF; rw [decide_eq_true h1,h2,decide_eq_true h3]
 rcases h4 with h4 | h4
 ·rw [decide_eq_true h4]; rfl
 ·rw [decide_eq_true h4]; simp
theorem ZoV {s : Schema} {last : Int} {l : List HRow} (h : l.all (YF s last) = true) : ZA l ∧ ∀ r ∈ l,r.v.length ≤ 8:=by
 rw [List.all_eq_true] at h
 refine ⟨fun r hr=>?_,fun r hr=>?_⟩
 ·have:=h r hr; unfold YF at this; simp only [Bool.and_eq_true,decide_eq_true_eq] at this; exact this.1.1.2
 ·have:=h r hr; unfold YF at this; simp only [Bool.and_eq_true,decide_eq_true_eq] at this; exact (Qu this.1.1.1).1
theorem ZkE {l : List HRow} (h : ∀ r ∈ l,r.v.length ≤ 8) : ∀ r ∈ l,r.v.length ≤ 1000:=fun r hr=>Nat.le_trans (h r hr) (by decide)
theorem ZeC {t : Table} {tx : Int} {l : List HRow} (h : ((Z5 l).length : Int) ≤ 500) : (⟨t.s,Z5 l,tx⟩ : Table) = ZV t tx l ∧ 0 = Qi l:=by
 unfold ZV Qi; rw [if_pos (by omega),if_pos (by omega)]; exact ⟨rfl,rfl⟩
theorem ZfO {t : Table} {tx : Int} {l : List HRow} (h : 500 < ((Z5 l).length : Int)) : noT = ZV t tx l ∧ 5 = Qi l:=by
 unfold ZV Qi; rw [if_neg (by omega),if_neg (by omega)]; exact ⟨rfl,rfl⟩
theorem ZoW {t : Table} {tx : Int} (h : Yu tx = false) : 2 = XK t tx:=by unfold XK; rw [h]; rfl
theorem Zu6 {t : Table} {tx : Int} (h : Yu tx = true) (h2 : tx ≤ t.last) : 6 = XK t tx:=by unfold XK; rw [h,if_pos rfl,if_pos h2]
theorem ZoX {t : Table} {tx : Int} (h : Yu tx = true) (h2 : t.last < tx) : 0 = XK t tx:=by unfold XK; rw [h,if_pos rfl,if_neg (by omega)]
theorem Zra (t : Table) (tx : Int) : Zv (XK t tx):=by unfold XK; split <;> (try split) <;> constructor <;> decide
theorem Zea (a b : Int) : Qb [a,b] = or2 a b:=by
 unfold Qb or2
 by_cases ha : a = 0
 ·by_cases hb : b = 0 <;> simp [ha,hb]
 ·simp [ha]
theorem Zsl {a b : Int} (h : or2 a b = 0) : a = 0 ∧ b = 0:=by unfold or2 at h; split at h <;> omega
theorem ZoY {t : Table} {tx : Int} (h : XK t tx = 0) : Yu tx = true ∧ t.last < tx:=by
 unfold XK at h
 split at h
 ·rename_i h1; split at h <;> first | omega | exact ⟨h1,by omega⟩
 ·omega
theorem Xp {x : Int} (h : Yu x = true) : -62135596800 ≤ x ∧ x < 253402300800:=by unfold Yu at h; simpa using h
theorem ZlW {t : Table} {d : Span} (h : Z3 t = false) : Zac t d = false:=by unfold Zac; rw [h]; rfl
theorem ZlX {t : Table} {d : Span} (h : ZC d = false) : Zac t d = false:=by unfold Zac; rw [h]; simp
theorem ZfP {t : Table} {d : Span} (h1 : Z3 t = true) (h2 : ZC d = true) : Zac t d = true:=by unfold Zac; rw [h1,h2]; rfl
theorem Zh4 {t : Table} {tx : Int} {v : List Val} {d : Span} (h : Zac t d = false) : noT = ZP t tx v d ∧ 1 = Yi t tx v d:=by
 have : ZcQ t tx v d = 1:=by unfold ZcQ; rw [h]; rfl
 unfold ZP Yi; rw [this]; exact ⟨rfl,rfl⟩
theorem ZiM {t : Table} {tx : Int} {v : List Val} {d : Span} (h : Zac t d = true) : ZcQ t tx v d = or2 (YJ t.s v) (XK t tx):=by unfold ZcQ; rw [h]; rfl
theorem Zj2 {t : Table} {tx : Int} {v : List Val} {d : Span} (h : Zac t d = true) (h2 : Qb [YJ t.s v,XK t tx] ≠ 0) : noT = ZP t tx v d ∧ Qb [YJ t.s v,XK t tx] = Yi t tx v d:=by
 rw [Zea] at *
 unfold ZP Yi; rw [ZiM h,if_neg h2,if_neg h2]; exact ⟨rfl,rfl⟩
theorem Zbj {t : Table} {tx : Int} {v : List Val} {d : Span} (h : Zac t d = true) (h2 : Qb [YJ t.s v,XK t tx] = 0) : ZV t tx (Qd t tx v d) = ZP t tx v d ∧ Qi (Qd t tx v d) = Yi t tx v d:=by
 rw [Zea] at *
 unfold ZP Yi; rw [ZiM h,if_pos h2,if_pos h2]; exact ⟨rfl,rfl⟩
theorem ZcS {t : Table} {tx : Int} {v : List Val} {d : Span} (h : Z3 t = true) (hd : ZC d = true) (h2 : Qb [YJ t.s v,XK t tx] = 0) :
  ZA (Qd t tx v d) ∧ (∀ r ∈ Qd t tx v d,r.v.length ≤ 1000) ∧ (Qd t tx v d).length ≤ 501:=by
 obtain ⟨g1,g2,g3,_⟩:=ZS h
 rw [Zea] at h2
 obtain ⟨e1,e2⟩:=Zsl h2
 obtain ⟨e3,e4⟩:=ZoY e2
 have e5:=Xp e3
 obtain ⟨r1,r2,_,_⟩:=Qu e1
 unfold Qd
 refine ⟨fun r hr=>?_,fun r hr=>?_,by simp; omega⟩
 ·rcases List.mem_append.1 hr with hr | hr
  ·exact g1 r hr
  ·rw [List.mem_singleton.1 hr]
   unfold Y0
   simp only [r2,hd,Bool.true_and]
   unfold ZC
   simp; omega
 ·rcases List.mem_append.1 hr with hr | hr
  ·exact Nat.le_trans (g3 r hr) (by decide)
  ·rw [List.mem_singleton.1 hr]; exact Nat.le_trans r1 (by decide)
def Zce (gs : List HGrp) (at_ tx : Int) : List (List Val):=(gs.filter fun g=>YC (Z4 g.t tx) at_).map HGrp.v
theorem ZoZ {gs : List HGrp} {k : Nat} {g : HGrp} {at_ tx : Int} (h : gs[k]? = some g) (hi : YC (Z4 g.t tx) at_ = true) : Zce (gs.take (k + 1)) at_ tx = Zce (gs.take k) at_ tx ++ [g.v]:=by
 rw [List.take_add_one,h]; unfold Zce; simp [hi]
theorem Zrb {gs : List HGrp} {k : Nat} {g : HGrp} {at_ tx : Int} (h : gs[k]? = some g) (hi : YC (Z4 g.t tx) at_ = false) : Zce (gs.take (k + 1)) at_ tx = Zce (gs.take k) at_ tx:=by
 rw [List.take_add_one,h]; unfold Zce; simp [hi]
theorem Zpa (gs : List HGrp) (k : Nat) (at_ tx : Int) : (Zce (gs.take k) at_ tx).length ≤ gs.length:=by
 unfold Zce; rw [List.length_map]; exact Nat.le_trans (List.length_filter_le _ _) (List.length_take_le' _ _)
theorem Zu7 {t : Table} {at_ tx : Int} (h : Z3 t = false) : [] = YB t at_ tx:=by unfold YB; rw [h]; rfl
theorem Zu8 {t : Table} {at_ tx : Int} (h : Yu at_ = false) : [] = YB t at_ tx:=by unfold YB; rw [h]; simp
theorem Zu9 {t : Table} {at_ tx : Int} (h : Yu tx = false) : [] = YB t at_ tx:=by unfold YB; rw [h]; simp
theorem ZuA {t : Table} {at_ tx : Int} {k : Nat} (h1 : Z3 t = true) (h2 : Yu at_ = true) (h3 : Yu tx = true) (hk : (Ys t.rows).length ≤ k) : Zce ((Ys t.rows).take k) at_ tx = YB t at_ tx:=by
 unfold YB; rw [h1,h2,h3,List.take_of_length_le hk]; rfl
def ZaZ (gs : List HGrp) (tx : Int) : List Fact:=gs.flatMap fun g=>(Z4 g.t tx).map (Fact.mk g.v)
theorem Zl4 {gs : List HGrp} {k : Nat} {g : HGrp} {tx : Int} (h : gs[k]? = some g) : ZaZ (gs.take (k + 1)) tx = ZaZ (gs.take k) tx ++ (Z4 g.t tx).map (Fact.mk g.v):=by
 rw [List.take_add_one,h]; simp [ZaZ]
theorem Zns {gs : List HGrp} {tx : Int} (h : ∀ g ∈ gs,g.t.length ≤ 500) : (ZaZ gs tx).length ≤ gs.length * 500:=by
 induction gs with
 | nil=>simp [ZaZ]
 | cons g gs ih=>
  have h1:=Nat.le_trans (Zb5 g.t tx) (h g (by simp))
  have h2:=ih fun x hx=>h x (by simp [hx])
  simp only [ZaZ,List.flatMap_cons,List.length_append,List.length_cons,List.length_map] at *
  rw [Nat.add_mul]; omega
theorem Zid {l : List HRow} {k : Nat} {tx : Int} (hl : l.length ≤ 500) : (ZaZ ((Ys l).take k) tx).length ≤ 250000:=by
 have h1:=Zns (gs:=(Ys l).take k) (tx:=tx) fun g hg=>Nat.le_trans (Zhy g (List.mem_of_mem_take hg)) hl
 have h2:=List.length_take_le' k (Ys l)
 have h3:=@ZcR l
 exact Nat.le_trans h1 (Nat.le_trans (Nat.mul_le_mul_right 500 (show ((Ys l).take k).length ≤ 500 by omega)) (by decide))
theorem ZwA {t : Table} {tx : Int} (h : Z3 t = false) : [] = atH t tx:=by unfold atH; rw [h]; rfl
theorem ZwB {t : Table} {tx : Int} (h : Yu tx = false) : [] = atH t tx:=by unfold atH; rw [h]; simp
theorem ZwC {t : Table} {tx : Int} {k : Nat} (h1 : Z3 t = true) (h3 : Yu tx = true) (hk : (Ys t.rows).length ≤ k) : ZaZ ((Ys t.rows).take k) tx = atH t tx:=by
 unfold atH; rw [h1,h3,List.take_of_length_le hk]; rfl
theorem Q9 {α β : Type} {f : α → β} {l : List α} {k : Nat} {x : α} (h : l[k]? = some x) : (l.take (k + 1)).map f = (l.take k).map f ++ [f x]:=by rw [List.take_add_one,h]; simp
end Go.Civ
namespace Go.Civ
def Z9 (s : Schema) : Table:=if YE s then ⟨s,[], -62135596801⟩ else noT
def ZbV (s : Schema) : Int:=if YE s then 0 else 1
theorem Zj3 {s : Schema} (h : YE s = true) : (⟨s,[], -62135596801⟩ : Table) = Z9 s ∧ 0 = ZbV s:=by unfold Z9 ZbV; rw [h]; exact ⟨rfl,rfl⟩
theorem Zsm {s : Schema} (h : YE s = false) : noT = Z9 s ∧ 1 = ZbV s:=by unfold Z9 ZbV; rw [h]; exact ⟨rfl,rfl⟩
end Go.Civ
namespace Go.Civ
theorem Zrc {α β : Type} {f : α → β} {l : List α} {k : Nat} (h : l.length ≤ k) : (l.take k).map f = l.map f:=by rw [List.take_of_length_le h]
end Go.Civ
