/- Lemmas. -/
import Derived.Test.YthgeclodflmiaaaGreatC06
import Derived.Test.YthgeclodflmiaaaGreatC16
import Derived.Test.YthgeclodflmiaaaGreatProg
import Derived.WalkKit
import Derived.Below
import Derived.Shelf.GgClosure.StringsRunes
set_option linter.unusedVariables false
namespace Go.Civ
open Go.Proofs Go.Shelf Go.RowKit Go.Lib
theorem ZcD (w : World) : ∀ n,Below w.heap.size w (w.drewN n)
 | 0=>Below.refl _ _
 | n + 1=>(ZcD w n).drew
def pR (r : Nat) : Bool:=decide (r < 32) || decide (126 < r)
set_option maxHeartbeats 1000000 in
theorem Zry (r : Nat) (W : World) : Calls Tryz.prog 177 #[.int .i32 (r : Int)] W fun e w'=>e = .returned (.bool (pR r)) ∧ ∃ q,w' = W.drewN q:=by
 by_cases h1 : r < 32 <;> by_cases h2 : 126 < r
 all_goals
  have z1 : (r : Int) < 32 ↔ r < 32:=by omega
  have z2 : (126 : Int) < (r : Int) ↔ 126 < r:=by omega
  go_enter Tryz.func177,Tryz.ntmps177
  go_wp2
  all_goals first | (exfalso; omega) | (go_ret; exact ⟨by simp [pR,h1,h2],0,rfl⟩)
set_option maxHeartbeats 2000000 in
set_option maxRecDepth 1000000 in
theorem Zj2 (s : ByteArray) (w : World) :
  Calls Tryz.prog 246 #[.string s, .func (.func 177) #[] #[], .bool true] w fun e w'=>e = .returned (.int .i64 (Lib.idxFunc pR true s)) ∧ Below w.heap.size w w' ∧ w.drawn ≤ w'.drawn:=by
 have e177 : ∀ args w,(callFunc 177 args).run Tryz.prog w = .ok (.enter 177 args) w:=enters_of Tryz.func177 (by kernel_rfl) rfl
 go_enter Tryz.func246,Tryz.ntmps246
 go_wp2
 go_loopg [] s.size (fun gf wx=>∃ pos : Nat,wx.heap[w.heap.size]? = some (.stringIter s pos) ∧ Below w.heap.size w wx ∧ Lib.idxFuncFrom pR true s gf pos = Lib.idxFunc pR true s ∧ s.size ≤ pos + gf ∧ w.drawn ≤ wx.drawn)
 case atStart=>exact ⟨0,World.iter_heap w s 0,(Below.refl _ w).alloc (Nat.le_refl _) _,rfl,by omega,Nat.le_refl _⟩
 case round=>
  obtain ⟨pos,hit,hbw,hleft,hfu,hdr⟩:=hrel
  by_cases hps : pos < s.size
  ·obtain ⟨g',rfl⟩ : ∃ g',gk = g' + 1:=⟨gk - 1,by omega⟩
   have hnx : ∀ ty,(Instr.next (.pointer (some ⟨w.heap.size,0,none⟩)) true ty).run Tryz.prog wr = _:=fun ty=>Lib.run_next_any_at wr w.heap.size s pos ty hit hps
   have hwd:=Lib.width_pos s pos
   obtain ⟨R,hR⟩ : ∃ R,(Utf8.decode s pos).1 = R:=⟨_,rfl⟩
   obtain ⟨K,hK⟩ : ∃ K,(Utf8.decode s pos).2 = K:=⟨_,rfl⟩
   simp only [Lib.idxFuncFrom,hps,if_true,hR,hK] at hleft
   rw [hR,hK] at hnx
   rw [hK] at hwd
   have hit2:=Lib.iterAt_heap wr w.heap.size s pos (pos + K) hit
   have hbw2:=Lib.below_iterAt hbw (k:=w.heap.size) (Nat.le_refl _) s (pos + K)
   have hdW : w.drawn ≤ (wr.iterAt w.heap.size s (pos + K)).drawn:=hdr
   obtain ⟨W,hWd⟩ : ∃ W,wr.iterAt w.heap.size s (pos + K) = W:=⟨_,rfl⟩
   rw [hWd] at hnx hit2 hbw2 hdW
   have hltW : w.heap.size < W.heap.size:=(Array.getElem?_eq_some_iff.1 hit2).1
   have cS : Calls Tryz.prog 177 (#[.int .i32 (R : Int)] ++ #[]) W _:=Zry R W
   cases hsp : pR R <;> rw [hsp] at cS <;> simp only [hsp,if_true,Bool.false_eq_true,if_false] at hleft
   ·go_wp2_with (go_at_fn 177; refine cS.mono ?_; rintro e W' ⟨rfl,q,rfl⟩)
    have hbc:=ZcD W q
    go_roundg g'
    case measure=>omega
    case rel=>exact ⟨pos + K,(hbc.block _ hltW).trans hit2,(hbw2.trans (hbc.mono hbw2.size)),hleft,by omega,Nat.le_trans hdW (Nat.le_add_right _ _)⟩
   ·go_wp2_with (go_at_fn 177; refine cS.mono ?_; rintro e W' ⟨rfl,q,rfl⟩)
    have hbc:=ZcD W q
    go_ret
    exact ⟨by rw [← hleft] <;> rfl,(hbw2.trans (hbc.mono hbw2.size)),Nat.le_trans hdW (Nat.le_add_right _ _)⟩
  ·have hnx : ∀ ty,(Instr.next (.pointer (some ⟨w.heap.size,0,none⟩)) true ty).run Tryz.prog wr = _:=fun ty=>Lib.run_next_end_at wr w.heap.size s pos ty hit hps
   rw [Lib.idxFuncFrom_end pR true s gk pos hps] at hleft
   go_wp2
   go_ret
   exact ⟨by rw [← hleft] <;> rfl,hbw,hdr⟩
theorem Zrz (n b0 b1 b2 b3 : Nat) (h : 128 ≤ b0) : 128 ≤ (Lib.decodeN n b0 b1 b2 b3).1:=by
 unfold Lib.decodeN
 repeat' split
 all_goals simp_all
 all_goals omega
theorem ZsT (s : List UInt8) (i : Nat) (c : UInt8) (h : s[i]? = some c) : (⟨s.toArray⟩ : ByteArray).get! i = c:=by
 obtain ⟨hl,he⟩:=List.getElem?_eq_some_iff.1 h
 show (s.toArray)[i]! = c
 simp [hl,he]
theorem Zla (s : List UInt8) : ∀ (f pos : Nat),s.length ≤ pos + f → (0 ≤ Lib.idxFuncFrom pR true ⟨s.toArray⟩ f pos ↔ ¬ ∀ c ∈ s.drop pos,okC c = true)
 | 0,pos,h=>by
  have : s.drop pos = []:=List.drop_eq_nil_of_le (by omega)
  simp [Lib.idxFuncFrom,this]
 | f + 1,pos,h=>by
  have hsz : (⟨s.toArray⟩ : ByteArray).size = s.length:=by simp [ByteArray.size]
  unfold Lib.idxFuncFrom
  by_cases hp : pos < s.length
  ·obtain ⟨c,hc⟩ : ∃ c,s[pos]? = some c:=⟨_,List.getElem?_eq_getElem hp⟩
   have hd : s.drop pos = c :: s.drop (pos + 1):=by
    rw [List.drop_eq_getElem_cons hp]; rw [List.getElem?_eq_getElem hp] at hc; rw [Option.some.inj hc]
   rw [if_pos (by rw [hsz]; exact hp),hd,Lib.decode_at,ZsT s pos c hc]
   by_cases hb : c.toNat < 128
   ·rw [show Lib.decodeN ((⟨s.toArray⟩ : ByteArray).size - pos) c.toNat ((⟨s.toArray⟩ : ByteArray).get! (pos + 1)).toNat ((⟨s.toArray⟩ : ByteArray).get! (pos + 2)).toNat ((⟨s.toArray⟩ : ByteArray).get! (pos + 3)).toNat = (c.toNat,1) from by simp [Lib.decodeN,hb]]
    have ih:=Zla s f (pos + 1) (by omega)
    by_cases ho : okC c = true
    ·have : pR c.toNat = false:=by simp [okC,pR] at *; omega
     simp only [this]
     rw [if_neg (by simp),ih]; simp [ho]
    ·have : pR c.toNat = true:=by simp [okC,pR] at *; omega
     simp only [this,if_true]
     simp [ho]
   ·have h2:=Zrz ((⟨s.toArray⟩ : ByteArray).size - pos) c.toNat ((⟨s.toArray⟩ : ByteArray).get! (pos + 1)).toNat ((⟨s.toArray⟩ : ByteArray).get! (pos + 2)).toNat ((⟨s.toArray⟩ : ByteArray).get! (pos + 3)).toNat (by omega)
    have h3 : pR (Lib.decodeN ((⟨s.toArray⟩ : ByteArray).size - pos) c.toNat ((⟨s.toArray⟩ : ByteArray).get! (pos + 1)).toNat ((⟨s.toArray⟩ : ByteArray).get! (pos + 2)).toNat ((⟨s.toArray⟩ : ByteArray).get! (pos + 3)).toNat).1 = true:=by simp [pR]; omega
    have ho : okC c = false:=by simp [okC]; omega
    rw [if_pos h3]; simp [ho]
  ·have : s.drop pos = []:=List.drop_eq_nil_of_le (by omega)
   rw [if_neg (by rw [hsz]; exact hp)]
   simp [this]
theorem ZsU (s : List UInt8) : decide (0 ≤ Lib.idxFunc pR true ⟨s.toArray⟩) = !s.all okC:=by
 have h:=Zla s s.length 0 (by omega)
 unfold Lib.idxFunc
 have hsz : (⟨s.toArray⟩ : ByteArray).size = s.length:=by simp [ByteArray.size]
 rw [hsz,Bool.eq_iff_iff]
 simp only [decide_eq_true_eq,h,List.drop_zero,Bool.not_eq_true',← Bool.not_eq_true,List.all_eq_true]
set_option maxHeartbeats 2000000 in
theorem Zg5 (s : ByteArray) (w : World) :
  Calls Tryz.prog 212 #[.string s, .func (.func 177) #[] #[]] w fun e w'=>e = .returned (.int .i64 (Lib.idxFunc pR true s)) ∧ Below w.heap.size w w' ∧ w.drawn ≤ w'.drawn:=by
 have cI:=Zj2 s w
 have e246 : ∀ args w,(callFunc 246 args).run Tryz.prog w = .ok (.enter 246 args) w:=enters_of Tryz.func246 (by kernel_rfl) rfl
 go_enter Tryz.func212,Tryz.ntmps212
 go_wp2_with (go_at_fn 246; refine cI.mono ?_; rintro e w' ⟨rfl,hb⟩)
 go_ret
 exact ⟨rfl,hb⟩
set_option maxHeartbeats 2000000 in
theorem Zg6 (s : ByteArray) (w : World) :
  Calls Tryz.prog 176 #[.string s, .func (.func 177) #[] #[]] w fun e w'=>e = .returned (.bool (decide (0 ≤ Lib.idxFunc pR true s))) ∧ Below w.heap.size w w' ∧ w.drawn ≤ w'.drawn:=by
 have cI:=Zg5 s w
 have e212 : ∀ args w,(callFunc 212 args).run Tryz.prog w = .ok (.enter 212 args) w:=enters_of Tryz.func212 (by kernel_rfl) rfl
 obtain ⟨I,hI⟩ : ∃ I,Lib.idxFunc pR true s = I:=⟨_,rfl⟩
 rw [hI] at cI ⊢
 go_enter Tryz.func176,Tryz.ntmps176
 go_wp2_with (go_at_fn 212; refine cI.mono ?_; rintro e w' ⟨rfl,hb⟩)
 go_ret
 exact ⟨rfl,hb⟩
theorem Zj3 {w w' : World} {G : GH} (hG : G.In w) (h : Below w.heap.size w w') (hd : w.drawn ≤ w'.drawn) : Res [] w G w' G:=
 ⟨⟨h.os,h.tape,h.output,hd,h.size,fun k hk _=>h.block k hk⟩,G.le_refl,fun _ _=>rfl,fun b o hb=>(h.block b (hG.lt hb)).trans (hG b o hb)⟩
theorem ZkC {G : GH} {w : World} (hG : G.In w) (s : List UInt8) : Calls Tryz.prog (nat_lit 176) #[Zc s, .func (.func 177) #[] #[]] w fun e w'=>∃ r G',e = .returned r ∧ Res [] w G w' G' ∧ r = .bool (!s.all okC):=
 (Zg6 ⟨s.toArray⟩ w).mono fun e w' ⟨he,hb,hd⟩=>⟨_,G,he,Zj3 hG hb hd,by rw [ZsU]⟩
end Go.Civ
namespace Go.Civ
open Go.RowKit
set_option linter.unusedVariables false
def Qj (t : Table) : Bool:=Yu t.s && decide (-62135596801 ≤ t.last) && decide (t.last < 253402300800) && decide (t.rows.length ≤ 500)
theorem Zmu {t : Table} (h1 : Yu t.s = true) (h2 : -62135596801 ≤ t.last) (h3 : t.last < 253402300800) (h4 : (t.rows.length : Int) ≤ 500) : Qj t = true:=by
 unfold Qj; rw [h1,decide_eq_true h2,decide_eq_true h3,decide_eq_true (show t.rows.length ≤ 500 by omega)]; rfl
theorem Zbi (t : Table) : Zy t = ((Qj t && t.rows.all (YI t.s t.last)) && decide (t.rows = ZZ t.rows)):=rfl
theorem Zef {t : Table} (h : Qj t = false) : false = Zy t:=by rw [Zbi,h]; rfl
theorem ZpI {t : Table} (h : Yu t.s = false) : Qj t = false:=by unfold Qj; rw [h]; rfl
theorem ZpJ {t : Table} (h : t.last < -62135596801) : Qj t = false:=by unfold Qj; rw [decide_eq_false (show ¬ -62135596801 ≤ t.last by omega)]; simp
theorem ZpK {t : Table} (h : 253402300800 ≤ t.last) : Qj t = false:=by unfold Qj; rw [decide_eq_false (show ¬ t.last < 253402300800 by omega)]; simp
theorem ZpL {t : Table} (h : 500 < (t.rows.length : Int)) : Qj t = false:=by unfold Qj; rw [decide_eq_false (show ¬ t.rows.length ≤ 500 by omega)]; simp
theorem Zcv {t : Table} {k : Nat} {x : HRow} (h : t.rows[k]? = some x) (hx : YI t.s t.last x = false) : false = Zy t:=by
 rw [Zbi,Ze8 h hx]; simp
theorem ZnG {t : Table} (h1 : Qj t = true) (h2 : t.rows.all (YI t.s t.last) = true) : QI (fun x y=>decide (x = y)) t.rows (ZZ t.rows) = Zy t:=by
 rw [Zbi,h1,h2,Zas]; rfl
theorem ZrR {s : Schema} {last : Int} {x : HRow} (h : Xg s x.v ≠ 0) : YI s last x = false:=by unfold YI; rw [decide_eq_false h]; rfl
theorem ZrS {s : Schema} {last : Int} {x : HRow} (h : Y1 x = false) : YI s last x = false:=by unfold YI; rw [h]; simp
theorem ZrT {s : Schema} {last : Int} {x : HRow} (h : last < x.r.x.a) : YI s last x = false:=by unfold YI; rw [decide_eq_false (show ¬ x.r.x.a ≤ last by omega)]; simp
theorem ZrU {s : Schema} {last : Int} {x : HRow} (h : last < x.r.x.b) (h2 : x.r.x.b ≠ 253402300800) : YI s last x = false:=by unfold YI; rw [decide_eq_false (show ¬ x.r.x.b ≤ last by omega),decide_eq_false h2]; simp
theorem Zh1 {s : Schema} {last : Int} {x : HRow} (h1 : Xg s x.v = 0) (h2 : Y1 x = true) (h3 : x.r.x.a ≤ last) (h4 : x.r.x.b ≤ last ∨ x.r.x.b = 253402300800) : YI s last x = true:=by
 unfold YI; rw [decide_eq_true h1,h2,decide_eq_true h3]
 rcases h4 with h4 | h4
 ·rw [decide_eq_true h4]; rfl
 ·rw [decide_eq_true h4]; simp
theorem ZnH {s : Schema} {last : Int} {l : List HRow} (h : l.all (YI s last) = true) : Z5 l ∧ ∀ r ∈ l,r.v.length ≤ 8:=by
 rw [List.all_eq_true] at h
 refine ⟨fun r hr=>?_,fun r hr=>?_⟩
 ·have:=h r hr; unfold YI at this; simp only [Bool.and_eq_true,decide_eq_true_eq] at this; exact this.1.1.2
 ·have:=h r hr; unfold YI at this; simp only [Bool.and_eq_true,decide_eq_true_eq] at this; exact (Zbd this.1.1.1).1
theorem ZjR {l : List HRow} (h : ∀ r ∈ l,r.v.length ≤ 8) : ∀ r ∈ l,r.v.length ≤ 1000:=fun r hr=>Nat.le_trans (h r hr) (by decide)
theorem Zeg {t : Table} {tx : Int} {l : List HRow} (h : ((ZZ l).length : Int) ≤ 500) : (⟨t.s,ZZ l,tx⟩ : Table) = ZT t tx l ∧ 0 = Qi l:=by
 unfold ZT Qi; rw [if_pos (by omega),if_pos (by omega)]; exact ⟨rfl,rfl⟩
theorem Zfv {t : Table} {tx : Int} {l : List HRow} (h : 500 < ((ZZ l).length : Int)) : noT = ZT t tx l ∧ 5 = Qi l:=by
 unfold ZT Qi; rw [if_neg (by omega),if_neg (by omega)]; exact ⟨rfl,rfl⟩
theorem Ztq {t : Table} {tx : Int} (h : Yt tx = false) : 2 = XR t tx:=by unfold XR; rw [h]; rfl
theorem Ztr {t : Table} {tx : Int} (h : Yt tx = true) (h2 : tx ≤ t.last) : 6 = XR t tx:=by unfold XR; rw [h,if_pos rfl,if_pos h2]
theorem Zts {t : Table} {tx : Int} (h : Yt tx = true) (h2 : t.last < tx) : 0 = XR t tx:=by unfold XR; rw [h,if_pos rfl,if_neg (by omega)]
theorem ZpM (t : Table) (tx : Int) : Z1 (XR t tx):=by unfold XR; split <;> (try split) <;> constructor <;> decide
theorem ZgN (a b : Int) : Qz [a,b] = or2 a b:=by
 unfold Qz or2
 by_cases ha : a = 0
 ·by_cases hb : b = 0 <;> simp [ha,hb]
 ·simp [ha]
theorem Zrb {a b : Int} (h : or2 a b = 0) : a = 0 ∧ b = 0:=by unfold or2 at h; split at h <;> omega
theorem ZnI {t : Table} {tx : Int} (h : XR t tx = 0) : Yt tx = true ∧ t.last < tx:=by
 unfold XR at h
 split at h
 ·rename_i h1; split at h <;> first | omega | exact ⟨h1,by omega⟩
 ·omega
theorem Qd {x : Int} (h : Yt x = true) : -62135596800 ≤ x ∧ x < 253402300800:=by unfold Yt at h; simpa using h
theorem Zlj {t : Table} {d : Span} (h : Zy t = false) : QV t d = false:=by unfold QV; rw [h]; rfl
theorem Zlk {t : Table} {d : Span} (h : ZM d = false) : QV t d = false:=by unfold QV; rw [h]; simp
theorem Zh2 {t : Table} {d : Span} (h1 : Zy t = true) (h2 : ZM d = true) : QV t d = true:=by unfold QV; rw [h1,h2]; rfl
theorem ZgO {t : Table} {tx : Int} {v : List Val} {d : Span} (h : QV t d = false) : noT = ZR t tx v d ∧ 1 = Y6 t tx v d:=by
 have : ZcI t tx v d = 1:=by unfold ZcI; rw [h]; rfl
 unfold ZR Y6; rw [this]; exact ⟨rfl,rfl⟩
theorem Zih {t : Table} {tx : Int} {v : List Val} {d : Span} (h : QV t d = true) : ZcI t tx v d = or2 (Xg t.s v) (XR t tx):=by unfold ZcI; rw [h]; rfl
theorem Zmv {t : Table} {tx : Int} {v : List Val} {d : Span} (h : QV t d = true) (h2 : Qz [Xg t.s v,XR t tx] ≠ 0) : noT = ZR t tx v d ∧ Qz [Xg t.s v,XR t tx] = Y6 t tx v d:=by
 rw [ZgN] at *
 unfold ZR Y6; rw [Zih h,if_neg h2,if_neg h2]; exact ⟨rfl,rfl⟩
theorem Zb0 {t : Table} {tx : Int} {v : List Val} {d : Span} (h : QV t d = true) (h2 : Qz [Xg t.s v,XR t tx] = 0) : ZT t tx (QL t tx v d) = ZR t tx v d ∧ Qi (QL t tx v d) = Y6 t tx v d:=by
 rw [ZgN] at *
 unfold ZR Y6; rw [Zih h,if_pos h2,if_pos h2]; exact ⟨rfl,rfl⟩
theorem ZeR {t : Table} {tx : Int} {v : List Val} {d : Span} (h : Zy t = true) (hd : ZM d = true) (h2 : Qz [Xg t.s v,XR t tx] = 0) :
  Z5 (QL t tx v d) ∧ (∀ r ∈ QL t tx v d,r.v.length ≤ 1000) ∧ (QL t tx v d).length ≤ 501:=by
 obtain ⟨g1,g2,g3,_⟩:=ZW h
 rw [ZgN] at h2
 obtain ⟨e1,e2⟩:=Zrb h2
 obtain ⟨e3,e4⟩:=ZnI e2
 have e5:=Qd e3
 obtain ⟨r1,r2,_,_⟩:=Zbd e1
 unfold QL
 refine ⟨fun r hr=>?_,fun r hr=>?_,by simp; omega⟩
 ·rcases List.mem_append.1 hr with hr | hr
  ·exact g1 r hr
  ·rw [List.mem_singleton.1 hr]
   unfold Y1
   simp only [r2,hd,Bool.true_and]
   unfold ZM
   simp; omega
 ·rcases List.mem_append.1 hr with hr | hr
  ·exact Nat.le_trans (g3 r hr) (by decide)
  ·rw [List.mem_singleton.1 hr]; exact Nat.le_trans r1 (by decide)
def ZbS (gs : List HGrp) (at_ tx : Int) : List (List Val):=(gs.filter fun g=>YY (ZI g.t tx) at_).map HGrp.v
theorem ZnJ {gs : List HGrp} {k : Nat} {g : HGrp} {at_ tx : Int} (h : gs[k]? = some g) (hi : YY (ZI g.t tx) at_ = true) : ZbS (gs.take (k + 1)) at_ tx = ZbS (gs.take k) at_ tx ++ [g.v]:=by
 rw [List.take_add_one,h]; unfold ZbS; simp [hi]
theorem ZpN {gs : List HGrp} {k : Nat} {g : HGrp} {at_ tx : Int} (h : gs[k]? = some g) (hi : YY (ZI g.t tx) at_ = false) : ZbS (gs.take (k + 1)) at_ tx = ZbS (gs.take k) at_ tx:=by
 rw [List.take_add_one,h]; unfold ZbS; simp [hi]
theorem ZnK (gs : List HGrp) (k : Nat) (at_ tx : Int) : (ZbS (gs.take k) at_ tx).length ≤ gs.length:=by
 unfold ZbS; rw [List.length_map]; exact Nat.le_trans (List.length_filter_le _ _) (List.length_take_le' _ _)
theorem Ztt {t : Table} {at_ tx : Int} (h : Zy t = false) : [] = Y7 t at_ tx:=by unfold Y7; rw [h]; rfl
theorem Ztu {t : Table} {at_ tx : Int} (h : Yt at_ = false) : [] = Y7 t at_ tx:=by unfold Y7; rw [h]; simp
theorem Ztv {t : Table} {at_ tx : Int} (h : Yt tx = false) : [] = Y7 t at_ tx:=by unfold Y7; rw [h]; simp
theorem Ztw {t : Table} {at_ tx : Int} {k : Nat} (h1 : Zy t = true) (h2 : Yt at_ = true) (h3 : Yt tx = true) (hk : (Yo t.rows).length ≤ k) : ZbS ((Yo t.rows).take k) at_ tx = Y7 t at_ tx:=by
 unfold Y7; rw [h1,h2,h3,List.take_of_length_le hk]; rfl
def ZaW (gs : List HGrp) (tx : Int) : List Fact:=gs.flatMap fun g=>(ZI g.t tx).map (Fact.mk g.v)
theorem ZkJ {gs : List HGrp} {k : Nat} {g : HGrp} {tx : Int} (h : gs[k]? = some g) : ZaW (gs.take (k + 1)) tx = ZaW (gs.take k) tx ++ (ZI g.t tx).map (Fact.mk g.v):=by
 rw [List.take_add_one,h]; simp [ZaW]
theorem Zmw {gs : List HGrp} {tx : Int} (h : ∀ g ∈ gs,g.t.length ≤ 500) : (ZaW gs tx).length ≤ gs.length * 500:=by
 induction gs with
 | nil=>simp [ZaW]
 | cons g gs ih=>
  have h1:=Nat.le_trans (Zcq g.t tx) (h g (by simp))
  have h2:=ih fun x hx=>h x (by simp [hx])
  simp only [ZaW,List.flatMap_cons,List.length_append,List.length_cons,List.length_map] at *
  rw [Nat.add_mul]; omega
theorem Zh3 {l : List HRow} {k : Nat} {tx : Int} (hl : l.length ≤ 500) : (ZaW ((Yo l).take k) tx).length ≤ 250000:=by
 have h1:=Zmw (gs:=(Yo l).take k) (tx:=tx) fun g hg=>Nat.le_trans (ZgH g (List.mem_of_mem_take hg)) hl
 have h2:=List.length_take_le' k (Yo l)
 have h3:=@ZcL l
 exact Nat.le_trans h1 (Nat.le_trans (Nat.mul_le_mul_right 500 (show ((Yo l).take k).length ≤ 500 by omega)) (by decide))
theorem Zv3 {t : Table} {tx : Int} (h : Zy t = false) : [] = atH t tx:=by unfold atH; rw [h]; rfl
theorem Zv4 {t : Table} {tx : Int} (h : Yt tx = false) : [] = atH t tx:=by unfold atH; rw [h]; simp
theorem Zv5 {t : Table} {tx : Int} {k : Nat} (h1 : Zy t = true) (h3 : Yt tx = true) (hk : (Yo t.rows).length ≤ k) : ZaW ((Yo t.rows).take k) tx = atH t tx:=by
 unfold atH; rw [h1,h3,List.take_of_length_le hk]; rfl
theorem YC {α β : Type} {f : α → β} {l : List α} {k : Nat} {x : α} (h : l[k]? = some x) : (l.take (k + 1)).map f = (l.take k).map f ++ [f x]:=by rw [List.take_add_one,h]; simp
end Go.Civ
namespace Go.Civ
def Z9 (s : Schema) : Table:=if Yu s then ⟨s,[], -62135596801⟩ else noT
def ZbI (s : Schema) : Int:=if Yu s then 0 else 1
theorem ZiM {s : Schema} (h : Yu s = true) : (⟨s,[], -62135596801⟩ : Table) = Z9 s ∧ 0 = ZbI s:=by unfold Z9 ZbI; rw [h]; exact ⟨rfl,rfl⟩
theorem Zrc {s : Schema} (h : Yu s = false) : noT = Z9 s ∧ 1 = ZbI s:=by unfold Z9 ZbI; rw [h]; exact ⟨rfl,rfl⟩
end Go.Civ
namespace Go.Civ
theorem ZpO {α β : Type} {f : α → β} {l : List α} {k : Nat} (h : l.length ≤ k) : (l.take k).map f = l.map f:=by rw [List.take_of_length_le h]
end Go.Civ
namespace Go.Civ
open Go.RowKit
set_option linter.unusedVariables false
structure FnO (P : Program) {α : Type} (A : GH → Value → α → Prop) (fid : Nat) (cap : Array Value) (G : GH) (on : α → Prop) (nx : α → Option (List Val)) : Prop where
 body : Zk P fid
 call : ∀ (G' : GH) (w' : World) (v : Value) (x : α),G.le G' → G'.In w' → on x → A G' v x →
  Calls P fid ([v] ++ cap.toList).toArray w' fun e w''=>∃ r G'',e = .returned r ∧ Res [] w' G' w'' G'' ∧ ∃ r0 r1,r = .tuple #[r0,r1] ∧ Sl ValE 32 G'' r0 ((nx x).getD []) ∧ r1 = .bool (nx x).isSome
theorem FnO.up {P : Program} {α : Type} {A : GH → Value → α → Prop} {fid : Nat} {cap : Array Value} {G G' : GH} {on : α → Prop} {nx : α → Option (List Val)} (h : FnO P A fid cap G on nx) (k : G.le G') : FnO P A fid cap G' on nx:=
 ⟨h.body,fun G2 w' v x hle=>h.call G2 w' v x (k.trans hle)⟩
theorem ZdE {s : Span} (h : s.a < s.b) : Can [s]:=⟨by simp,by simpa using h⟩
def ZaF (r d : Span) : List Span:=(if r.a < d.a then [⟨r.a,d.a⟩] else []) ++ (if d.b < r.b then [⟨d.b,r.b⟩] else [])
theorem Zmx {r d : Span} (hr : r.a < r.b) (hd : d.a < d.b) (h1 : r.a < d.b) (h2 : d.a < r.b) : Can (ZaF r d):=by
 unfold ZaF
 by_cases c1 : r.a < d.a <;> by_cases c2 : d.b < r.b <;> simp only [c1,c2,if_true,if_false,List.nil_append,List.append_nil]
 ·exact ⟨by simp; omega,fun s hs=>by simp at hs; rcases hs with rfl | rfl <;> simp <;> omega⟩
 ·exact ZdE c1
 ·exact ZdE c2
 ·exact ⟨List.Pairwise.nil,by simp⟩
theorem ZpP {r d : Span} (hr : r.a < r.b) (hd : d.a < d.b) (h1 : r.a < d.b) (h2 : d.a < r.b) : Yr 3 [r] [d] = ZaF r d:=by
 have h:=Zbg (kind:=3) (a:=[r]) (b:=[d]) rfl (by simpa using hr) (by simpa using hd)
 refine Can.unique h.1 (Zmx hr hd h1 h2) fun x=>?_
 rw [h.2]
 have e : Qo 3 (YY [r] x) (YY [d] x) = true ↔ ((r.a ≤ x ∧ x < r.b) ∧ ¬ (d.a ≤ x ∧ x < d.b)):=by
  unfold Qo YY; simp; omega
 rw [e]
 unfold ZaF
 by_cases c1 : r.a < d.a <;> by_cases c2 : d.b < r.b <;> simp only [c1,c2,if_true,if_false,List.nil_append,List.append_nil,List.cons_append,YO] <;> simp [cover] <;> omega
theorem ZkK {r d : Span} (hr : ZM r = true) (hd : ZM d = true) (h1 : r.a < d.b) (h2 : d.a < r.b) : ∀ s ∈ ZaF r d,ZM s = true:=fun s hs=>by
 unfold ZM at hr hd ⊢
 simp at hr hd ⊢
 unfold ZaF at hs
 rcases List.mem_append.1 hs with hs | hs
 ·split at hs
  ·obtain rfl:=List.mem_singleton.1 hs; simp only; omega
  ·cases hs
 ·split at hs
  ·obtain rfl:=List.mem_singleton.1 hs; simp only; omega
  ·cases hs
theorem ZgP (r d : Span) : (ZaF r d).length ≤ 2:=by unfold ZaF; rw [List.length_append]; split <;> split <;> simp
theorem Zeh {r d : Span} (hr : ZM r = true) (hd : ZM d = true) (h1 : r.a < d.b) (h2 : d.a < r.b) : Yr 3 [r] [d] = ZaF r d:=ZpP (YB hr) (YB hd) h1 h2
theorem ZnL {r d : Span} (hr : ZM r = true) (hd : ZM d = true) (h1 : r.a < d.b) (h2 : d.a < r.b) : ZM (Zmk r d) = true:=by
 unfold ZM at hr hd ⊢
 unfold Zmk
 simp at hr hd ⊢
 omega
def Ztx (nx : List Val → Option (List Val)) (l : List HRow) : Prop:=∀ r ∈ l,∀ u,nx r.v = some u → u.all ZK = true ∧ u.length ≤ 8
structure ChgOk (t : Table) (tx : Int) (d : Span) (nx : List Val → Option (List Val)) : Prop where
 valid : Zy t = true
 span : ZM d = true
 inst : Yt tx = true
 late : t.last < tx
 next : Ztx nx t.rows
section
variable {t : Table} {tx : Int} {d : Span} {nx : List Val → Option (List Val)} {hl : List Val → Bool}
theorem Zae (h : Zy t = true) {r : HRow} (hr : r ∈ t.rows) : Y1 r = true ∧ r.v.length ≤ 8 ∧ r.r.x.a ≤ t.last ∧ r.v.length = t.s.cols.length ∧ r.v.all ZK = true ∧ t.s.cols.length ≤ 8:=by
 rw [Zbi] at h
 simp only [Bool.and_eq_true] at h
 have h1:=List.all_eq_true.1 h.1.2 r hr
 unfold YI at h1
 simp only [Bool.and_eq_true,decide_eq_true_eq] at h1
 obtain ⟨a,b,c,_⟩:=Zbd h1.1.1.1
 exact ⟨h1.1.1.2,a,h1.1.2,c,b,by omega⟩
theorem ZnM (hc : ChgOk t tx d nx) {r : HRow} (hr : r ∈ t.rows) : (Zbt hl nx tx d r).length ≤ 4:=by
 unfold Zbt
 split
 ·rename_i h
  simp only [Bool.and_eq_true] at h
  unfold ZcJ at h
  simp only [Bool.and_eq_true,decide_eq_true_eq] at h
  have hg:=Yd (Zae hc.valid hr).1
  rw [Zeh hg.2.1 hc.span h.1.1.2 h.1.2]
  have:=ZgP r.r.d d
  have h2 : (ZgA (nx r.v) r.r.d d tx).length ≤ 1:=by unfold ZgA; split <;> simp
  simp only [List.length_append,ZcK,List.length_cons,List.length_nil]
  omega
 ·simp
theorem ZfE (hc : ChgOk t tx d nx) : ∀ k,(ZaE hl nx tx d (t.rows.take k)).length ≤ 4 * k
 | 0=>by simp [ZaE]
 | k + 1=>by
  have ih:=ZfE hc k
  cases e : t.rows[k]? with
  | none=>rw [List.take_add_one,e]; simp only [Option.toList,List.append_nil]; omega
  | some r=>
   rw [ZjE e,List.length_append]
   have:=ZnM (hl:=hl) hc (List.mem_of_getElem? e)
   omega
theorem ZgQ (hc : ChgOk t tx d nx) {r : HRow} (hr : r ∈ t.rows) : ∀ q ∈ Zbt hl nx tx d r,Y1 q = true ∧ q.v.length ≤ 1000:=by
 obtain ⟨g1,g2,g3,_⟩:=Zae hc.valid hr
 have hg:=Yd g1
 have ht:=Qd hc.inst
 have hl:=hc.late
 have mk : ∀ (v : List Val) (a b : Span),v.all ZK = true → ZM a = true → ZM b = true → Y1 ⟨v,⟨a,b⟩⟩ = true:=fun v a b h1 h2 h3=>by unfold Y1; simp only; rw [h1,h2,h3]; rfl
 have hx:=hg.2.2
 unfold ZM at hx
 simp at hx
 have hT : ZM ⟨tx,253402300800⟩ = true:=by unfold ZM; simp; omega
 unfold Zbt
 split
 ·rename_i h
  simp only [Bool.and_eq_true] at h
  unfold ZcJ at h
  simp only [Bool.and_eq_true,decide_eq_true_eq] at h
  rw [Zeh hg.2.1 hc.span h.1.1.2 h.1.2]
  intro q hq
  rcases List.mem_append.1 hq with hq | hq
  ·rcases List.mem_append.1 hq with hq | hq
   ·rw [List.mem_singleton.1 hq]
    exact ⟨mk _ _ _ hg.1 hg.2.1 (by unfold ZM; simp; omega),Nat.le_trans g2 (by decide)⟩
   ·unfold Xz at hq
    obtain ⟨s,hs,rfl⟩:=List.mem_map.1 hq
    exact ⟨mk _ _ _ hg.1 (ZkK hg.2.1 hc.span h.1.1.2 h.1.2 s hs) hT,Nat.le_trans g2 (by decide)⟩
  ·unfold ZgA at hq
   split at hq
   ·rename_i u hu
    rw [List.mem_singleton.1 hq]
    obtain ⟨u1,u2⟩:=hc.next r hr u hu
    exact ⟨mk _ _ _ u1 (ZnL hg.2.1 hc.span h.1.1.2 h.1.2) hT,Nat.le_trans u2 (by decide)⟩
   ·cases hq
 ·intro q hq
  rw [List.mem_singleton.1 hq]; exact ⟨g1,Nat.le_trans g2 (by decide)⟩
theorem ZjS (hc : ChgOk t tx d nx) : Z5 (ZaE hl nx tx d t.rows) ∧ (∀ r ∈ ZaE hl nx tx d t.rows,r.v.length ≤ 1000) ∧ (ZaE hl nx tx d t.rows).length ≤ 2000:=by
 refine ⟨fun q hq=>?_,fun q hq=>?_,?_⟩
 ·obtain ⟨r,hr,h⟩:=List.mem_flatMap.1 hq; exact (ZgQ hc hr q h).1
 ·obtain ⟨r,hr,h⟩:=List.mem_flatMap.1 hq; exact (ZgQ hc hr q h).2
 ·have h1:=ZfE (hl:=hl) hc t.rows.length
  rw [List.take_length] at h1
  have:=(ZW hc.valid).2.1
  omega
end
end Go.Civ
namespace Go.Civ
end Go.Civ
namespace Go.Civ
end Go.Civ
