/- Lemmas. -/
import Derived.Test.YthgeclodflmiaaaGreatM06
import Derived.Test.YthgeclodflmiaaaGreatM17
import Derived.Test.YthgeclodflmiaaaGreatProg
import Derived.WalkKit
import Derived.Below
import Derived.Shelf.GgClosure.StringsRunes
set_option linter.unusedVariables false
namespace Go.Civ
open Go.Proofs Go.Shelf Go.RowKit Go.Lib
theorem Zc7 (w : World) : ∀ n,Below w.heap.size w (w.drewN n)
 | 0=>Below.refl _ _
 | n + 1=>(Zc7 w n).drew
def pR (r : Nat) : Bool:=decide (r < 32) || decide (126 < r)
set_option maxHeartbeats 1000000 in
theorem ZrI (r : Nat) (W : World) : Calls Tryz.prog 177 #[.int .i32 (r : Int)] W fun e w'=>e = .returned (.bool (pR r)) ∧ ∃ q,w' = W.drewN q:=by
 by_cases h1 : r < 32 <;> by_cases h2 : 126 < r
 all_goals
  have z1 : (r : Int) < 32 ↔ r < 32:=by omega
  have z2 : (126 : Int) < (r : Int) ↔ 126 < r:=by omega
  go_enter Tryz.func177,Tryz.ntmps177
  go_wp2
  all_goals first | (exfalso; omega) | (go_ret; exact ⟨by simp [pR,h1,h2],0,rfl⟩)
set_option maxHeartbeats 2000000 in
set_option maxRecDepth 1000000 in
theorem Zj9 (s : ByteArray) (w : World) :
  Calls Tryz.prog 246 #[.string s, .func (.func 177) #[] #[], .bool true] w fun e w'=>e = .returned (.int .i64 (Lib.idxFunc pR true s)) ∧ Below w.heap.size w w' ∧ w.drawn ≤ w'.drawn:=by
 have e177 : ∀ args w,(callFunc 177 args).run Tryz.prog w = .ok (.enter 177 args) w:=enters_of Tryz.func177 (by kernel_rfl) rfl
 go_enter Tryz.func246,Tryz.ntmps246
 go_wp2
 go_loopg [] s.size (fun gf wx=>∃ pos : Nat,wx.heap[w.heap.size]? = some (.stringIter s pos) ∧ Below w.heap.size w wx ∧ Lib.idxFuncFrom pR true s gf pos = Lib.idxFunc pR true s ∧ s.size ≤ pos + gf ∧ w.drawn ≤ wx.drawn)
 case atStart=>exact ⟨0,World.iter_heap w s 0,(Below.refl _ w).alloc (Nat.le_refl _) _,rfl,by omega,Nat.le_refl _⟩
 case round=>
  obtain ⟨pos,hit,hbw,hleft,hfu,hdr⟩:=hrel
  by_cases hps : pos < s.size
  ·obtain ⟨g',rfl⟩ : ∃ g',gk = g' + 1:=⟨gk - 1,by omega⟩
   have hnx : ∀ ty,(Instr.next (.pointer (some ⟨w.heap.size,0,none⟩)) true ty).run Tryz.prog wr = _:=fun ty=>Lib.run_next_any_at wr w.heap.size s pos ty hit hps
   have hwd:=Lib.width_pos s pos
   obtain ⟨R,hR⟩ : ∃ R,(Utf8.decode s pos).1 = R:=⟨_,rfl⟩
   obtain ⟨K,hK⟩ : ∃ K,(Utf8.decode s pos).2 = K:=⟨_,rfl⟩
   simp only [Lib.idxFuncFrom,hps,if_true,hR,hK] at hleft
   rw [hR,hK] at hnx
   rw [hK] at hwd
   have hit2:=Lib.iterAt_heap wr w.heap.size s pos (pos + K) hit
   have hbw2:=Lib.below_iterAt hbw (k:=w.heap.size) (Nat.le_refl _) s (pos + K)
   have hdW : w.drawn ≤ (wr.iterAt w.heap.size s (pos + K)).drawn:=hdr
   obtain ⟨W,hWd⟩ : ∃ W,wr.iterAt w.heap.size s (pos + K) = W:=⟨_,rfl⟩
   rw [hWd] at hnx hit2 hbw2 hdW
   have hltW : w.heap.size < W.heap.size:=(Array.getElem?_eq_some_iff.1 hit2).1
   have cS : Calls Tryz.prog 177 (#[.int .i32 (R : Int)] ++ #[]) W _:=ZrI R W
   cases hsp : pR R <;> rw [hsp] at cS <;> simp only [hsp,if_true,Bool.false_eq_true,if_false] at hleft
   ·go_wp2_with (go_at_fn 177; refine cS.mono ?_; rintro e W' ⟨rfl,q,rfl⟩)
    have hbc:=Zc7 W q
    go_roundg g'
    case measure=>omega
    case rel=>exact ⟨pos + K,(hbc.block _ hltW).trans hit2,(hbw2.trans (hbc.mono hbw2.size)),hleft,by omega,Nat.le_trans hdW (Nat.le_add_right _ _)⟩
   ·go_wp2_with (go_at_fn 177; refine cS.mono ?_; rintro e W' ⟨rfl,q,rfl⟩)
    have hbc:=Zc7 W q
    go_ret
    exact ⟨by rw [← hleft] <;> rfl,(hbw2.trans (hbc.mono hbw2.size)),Nat.le_trans hdW (Nat.le_add_right _ _)⟩
  ·have hnx : ∀ ty,(Instr.next (.pointer (some ⟨w.heap.size,0,none⟩)) true ty).run Tryz.prog wr = _:=fun ty=>Lib.run_next_end_at wr w.heap.size s pos ty hit hps
   rw [Lib.idxFuncFrom_end pR true s gk pos hps] at hleft
   go_wp2
   go_ret
   exact ⟨by rw [← hleft] <;> rfl,hbw,hdr⟩
theorem ZrJ (n b0 b1 b2 b3 : Nat) (h : 128 ≤ b0) : 128 ≤ (Lib.decodeN n b0 b1 b2 b3).1:=by
 unfold Lib.decodeN
 repeat' split
 all_goals simp_all
 all_goals omega
theorem Ztn (s : List UInt8) (i : Nat) (c : UInt8) (h : s[i]? = some c) : (⟨s.toArray⟩ : ByteArray).get! i = c:=by
 obtain ⟨hl,he⟩:=List.getElem?_eq_some_iff.1 h
 show (s.toArray)[i]! = c
 simp [hl,he]
theorem Zlh (s : List UInt8) : ∀ (f pos : Nat),s.length ≤ pos + f → (0 ≤ Lib.idxFuncFrom pR true ⟨s.toArray⟩ f pos ↔ ¬ ∀ c ∈ s.drop pos,okC c = true)
 | 0,pos,h=>by
  have : s.drop pos = []:=List.drop_eq_nil_of_le (by omega)
  simp [Lib.idxFuncFrom,this]
 | f + 1,pos,h=>by
  have hsz : (⟨s.toArray⟩ : ByteArray).size = s.length:=by simp [ByteArray.size]
  unfold Lib.idxFuncFrom
  by_cases hp : pos < s.length
  ·obtain ⟨c,hc⟩ : ∃ c,s[pos]? = some c:=⟨_,List.getElem?_eq_getElem hp⟩
   have hd : s.drop pos = c :: s.drop (pos + 1):=by
    rw [List.drop_eq_getElem_cons hp]; rw [List.getElem?_eq_getElem hp] at hc; rw [Option.some.inj hc]
   rw [if_pos (by rw [hsz]; exact hp),hd,Lib.decode_at,Ztn s pos c hc]
   by_cases hb : c.toNat < 128
   ·rw [show Lib.decodeN ((⟨s.toArray⟩ : ByteArray).size - pos) c.toNat ((⟨s.toArray⟩ : ByteArray).get! (pos + 1)).toNat ((⟨s.toArray⟩ : ByteArray).get! (pos + 2)).toNat ((⟨s.toArray⟩ : ByteArray).get! (pos + 3)).toNat = (c.toNat,1) from by simp [Lib.decodeN,hb]]
    have ih:=Zlh s f (pos + 1) (by omega)
    by_cases ho : okC c = true
    ·have : pR c.toNat = false:=by simp [okC,pR] at *; omega
     simp only [this]
     rw [if_neg (by simp),ih]; simp [ho]
    ·have : pR c.toNat = true:=by simp [okC,pR] at *; omega
     simp only [this,if_true]
     simp [ho]
   ·have h2:=ZrJ ((⟨s.toArray⟩ : ByteArray).size - pos) c.toNat ((⟨s.toArray⟩ : ByteArray).get! (pos + 1)).toNat ((⟨s.toArray⟩ : ByteArray).get! (pos + 2)).toNat ((⟨s.toArray⟩ : ByteArray).get! (pos + 3)).toNat (by omega)
    have h3 : pR (Lib.decodeN ((⟨s.toArray⟩ : ByteArray).size - pos) c.toNat ((⟨s.toArray⟩ : ByteArray).get! (pos + 1)).toNat ((⟨s.toArray⟩ : ByteArray).get! (pos + 2)).toNat ((⟨s.toArray⟩ : ByteArray).get! (pos + 3)).toNat).1 = true:=by simp [pR]; omega
    have ho : okC c = false:=by simp [okC]; omega
    rw [if_pos h3]; simp [ho]
  ·have : s.drop pos = []:=List.drop_eq_nil_of_le (by omega)
   rw [if_neg (by rw [hsz]; exact hp)]
   simp [this]
theorem Zto (s : List UInt8) : decide (0 ≤ Lib.idxFunc pR true ⟨s.toArray⟩) = !s.all okC:=by
 have h:=Zlh s s.length 0 (by omega)
 unfold Lib.idxFunc
 have hsz : (⟨s.toArray⟩ : ByteArray).size = s.length:=by simp [ByteArray.size]
 rw [hsz,Bool.eq_iff_iff]
 simp only [decide_eq_true_eq,h,List.drop_zero,Bool.not_eq_true',← Bool.not_eq_true,List.all_eq_true]
set_option maxHeartbeats 2000000 in
theorem ZgF (s : ByteArray) (w : World) :
  Calls Tryz.prog 212 #[.string s, .func (.func 177) #[] #[]] w fun e w'=>e = .returned (.int .i64 (Lib.idxFunc pR true s)) ∧ Below w.heap.size w w' ∧ w.drawn ≤ w'.drawn:=by
 have cI:=Zj9 s w
 have e246 : ∀ args w,(callFunc 246 args).run Tryz.prog w = .ok (.enter 246 args) w:=enters_of Tryz.func246 (by kernel_rfl) rfl
 go_enter Tryz.func212,Tryz.ntmps212
 go_wp2_with (go_at_fn 246; refine cI.mono ?_; rintro e w' ⟨rfl,hb⟩)
 go_ret
 exact ⟨rfl,hb⟩
set_option maxHeartbeats 2000000 in
theorem ZgG (s : ByteArray) (w : World) :
  Calls Tryz.prog 176 #[.string s, .func (.func 177) #[] #[]] w fun e w'=>e = .returned (.bool (decide (0 ≤ Lib.idxFunc pR true s))) ∧ Below w.heap.size w w' ∧ w.drawn ≤ w'.drawn:=by
 have cI:=ZgF s w
 have e212 : ∀ args w,(callFunc 212 args).run Tryz.prog w = .ok (.enter 212 args) w:=enters_of Tryz.func212 (by kernel_rfl) rfl
 obtain ⟨I,hI⟩ : ∃ I,Lib.idxFunc pR true s = I:=⟨_,rfl⟩
 rw [hI] at cI ⊢
 go_enter Tryz.func176,Tryz.ntmps176
 go_wp2_with (go_at_fn 212; refine cI.mono ?_; rintro e w' ⟨rfl,hb⟩)
 go_ret
 exact ⟨rfl,hb⟩
theorem ZjA {w w' : World} {G : GH} (hG : G.In w) (h : Below w.heap.size w w') (hd : w.drawn ≤ w'.drawn) : Res [] w G w' G:=
 ⟨⟨h.os,h.tape,h.output,hd,h.size,fun k hk _=>h.block k hk⟩,G.le_refl,fun _ _=>rfl,fun b o hb=>(h.block b (hG.lt hb)).trans (hG b o hb)⟩
theorem ZkK {G : GH} {w : World} (hG : G.In w) (s : List UInt8) : Calls Tryz.prog (nat_lit 176) #[Zd s, .func (.func 177) #[] #[]] w fun e w'=>∃ r G',e = .returned r ∧ Res [] w G w' G' ∧ r = .bool (!s.all okC):=
 (ZgG ⟨s.toArray⟩ w).mono fun e w' ⟨he,hb,hd⟩=>⟨_,G,he,ZjA hG hb hd,by rw [Zto]⟩
end Go.Civ
namespace Go.Civ
open Go.RowKit
set_option linter.unusedVariables false
def Ql (t : Table) : Bool:=Yt t.s && decide (-62135596801 ≤ t.last) && decide (t.last < 253402300800) && decide (t.rows.length ≤ 500)
theorem Zm2 {t : Table} (h1 : Yt t.s = true) (h2 : -62135596801 ≤ t.last) (h3 : t.last < 253402300800) (h4 : (t.rows.length : Int) ≤ 500) : Ql t = true:=by
 unfold Ql; rw [h1,decide_eq_true h2,decide_eq_true h3,decide_eq_true (show t.rows.length ≤ 500 by omega)]; rfl
theorem Zbe (t : Table) : Zo t = ((Ql t && t.rows.all (YA t.s t.last)) && decide (t.rows = ZT t.rows)):=rfl
theorem Zec {t : Table} (h : Ql t = false) : false = Zo t:=by rw [Zbe,h]; rfl
theorem ZpV {t : Table} (h : Yt t.s = false) : Ql t = false:=by unfold Ql; rw [h]; rfl
theorem ZpW {t : Table} (h : t.last < -62135596801) : Ql t = false:=by unfold Ql; rw [decide_eq_false (show ¬ -62135596801 ≤ t.last by omega)]; simp
theorem ZpX {t : Table} (h : 253402300800 ≤ t.last) : Ql t = false:=by unfold Ql; rw [decide_eq_false (show ¬ t.last < 253402300800 by omega)]; simp
theorem ZpY {t : Table} (h : 500 < (t.rows.length : Int)) : Ql t = false:=by unfold Ql; rw [decide_eq_false (show ¬ t.rows.length ≤ 500 by omega)]; simp
theorem Zcp {t : Table} {k : Nat} {x : HRow} (h : t.rows[k]? = some x) (hx : YA t.s t.last x = false) : false = Zo t:=by
 rw [Zbe,Ze6 h hx]; simp
theorem ZnO {t : Table} (h1 : Ql t = true) (h2 : t.rows.all (YA t.s t.last) = true) : QF (fun x y=>decide (x = y)) t.rows (ZT t.rows) = Zo t:=by
 rw [Zbe,h1,h2,Xp]; rfl
theorem Zsm {s : Schema} {last : Int} {x : HRow} (h : YU s x.v ≠ 0) : YA s last x = false:=by unfold YA; rw [decide_eq_false h]; rfl
theorem Zsn {s : Schema} {last : Int} {x : HRow} (h : Yo x = false) : YA s last x = false:=by unfold YA; rw [h]; simp
theorem Zso {s : Schema} {last : Int} {x : HRow} (h : last < x.r.x.a) : YA s last x = false:=by unfold YA; rw [decide_eq_false (show ¬ x.r.x.a ≤ last by omega)]; simp
theorem Zsp {s : Schema} {last : Int} {x : HRow} (h : last < x.r.x.b) (h2 : x.r.x.b ≠ 253402300800) : YA s last x = false:=by unfold YA; rw [decide_eq_false (show ¬ x.r.x.b ≤ last by omega),decide_eq_false h2]; simp
theorem ZhB {s : Schema} {last : Int} {x : HRow} (h1 : YU s x.v = 0) (h2 : Yo x = true) (h3 : x.r.x.a ≤ last) (h4 : x.r.x.b ≤ last ∨ x.r.x.b = 253402300800) : YA s last x = true:=by
 unfold YA; rw [decide_eq_true h1,h2,decide_eq_true h3]
 rcases h4 with h4 | h4
 ·rw [decide_eq_true h4]; rfl
 ·rw [decide_eq_true h4]; simp
theorem ZnP {s : Schema} {last : Int} {l : List HRow} (h : l.all (YA s last) = true) : Z2 l ∧ ∀ r ∈ l,r.v.length ≤ 8:=by
 rw [List.all_eq_true] at h
 refine ⟨fun r hr=>?_,fun r hr=>?_⟩
 ·have:=h r hr; unfold YA at this; simp only [Bool.and_eq_true,decide_eq_true_eq] at this; exact this.1.1.2
 ·have:=h r hr; unfold YA at this; simp only [Bool.and_eq_true,decide_eq_true_eq] at this; exact (ZaY this.1.1.1).1
theorem Zka {l : List HRow} (h : ∀ r ∈ l,r.v.length ≤ 8) : ∀ r ∈ l,r.v.length ≤ 1000:=fun r hr=>Nat.le_trans (h r hr) (by decide)
theorem Zed {t : Table} {tx : Int} {l : List HRow} (h : ((ZT l).length : Int) ≤ 500) : (⟨t.s,ZT l,tx⟩ : Table) = ZP t tx l ∧ 0 = Qk l:=by
 unfold ZP Qk; rw [if_pos (by omega),if_pos (by omega)]; exact ⟨rfl,rfl⟩
theorem Zf1 {t : Table} {tx : Int} {l : List HRow} (h : 500 < ((ZT l).length : Int)) : noT = ZP t tx l ∧ 5 = Qk l:=by
 unfold ZP Qk; rw [if_neg (by omega),if_neg (by omega)]; exact ⟨rfl,rfl⟩
theorem ZtB {t : Table} {tx : Int} (h : ZM tx = false) : 2 = XP t tx:=by unfold XP; rw [h]; rfl
theorem ZtC {t : Table} {tx : Int} (h : ZM tx = true) (h2 : tx ≤ t.last) : 6 = XP t tx:=by unfold XP; rw [h,if_pos rfl,if_pos h2]
theorem ZtD {t : Table} {tx : Int} (h : ZM tx = true) (h2 : t.last < tx) : 0 = XP t tx:=by unfold XP; rw [h,if_pos rfl,if_neg (by omega)]
theorem ZpZ (t : Table) (tx : Int) : Zz (XP t tx):=by unfold XP; split <;> (try split) <;> constructor <;> decide
theorem ZgY (a b : Int) : Qx [a,b] = or2 a b:=by
 unfold Qx or2
 by_cases ha : a = 0
 ·by_cases hb : b = 0 <;> simp [ha,hb]
 ·simp [ha]
theorem Zrr {a b : Int} (h : or2 a b = 0) : a = 0 ∧ b = 0:=by unfold or2 at h; split at h <;> omega
theorem ZnQ {t : Table} {tx : Int} (h : XP t tx = 0) : ZM tx = true ∧ t.last < tx:=by
 unfold XP at h
 split at h
 ·rename_i h1; split at h <;> first | omega | exact ⟨h1,by omega⟩
 ·omega
theorem Qc {x : Int} (h : ZM x = true) : -62135596800 ≤ x ∧ x < 253402300800:=by unfold ZM at h; simpa using h
theorem Zlr {t : Table} {d : Span} (h : Zo t = false) : QT t d = false:=by unfold QT; rw [h]; rfl
theorem Zls {t : Table} {d : Span} (h : ZF d = false) : QT t d = false:=by unfold QT; rw [h]; simp
theorem ZhC {t : Table} {d : Span} (h1 : Zo t = true) (h2 : ZF d = true) : QT t d = true:=by unfold QT; rw [h1,h2]; rfl
theorem ZgZ {t : Table} {tx : Int} {v : List Val} {d : Span} (h : QT t d = false) : noT = ZN t tx v d ∧ 1 = Yw t tx v d:=by
 have : ZcB t tx v d = 1:=by unfold ZcB; rw [h]; rfl
 unfold ZN Yw; rw [this]; exact ⟨rfl,rfl⟩
theorem Zim {t : Table} {tx : Int} {v : List Val} {d : Span} (h : QT t d = true) : ZcB t tx v d = or2 (YU t.s v) (XP t tx):=by unfold ZcB; rw [h]; rfl
theorem Zm3 {t : Table} {tx : Int} {v : List Val} {d : Span} (h : QT t d = true) (h2 : Qx [YU t.s v,XP t tx] ≠ 0) : noT = ZN t tx v d ∧ Qx [YU t.s v,XP t tx] = Yw t tx v d:=by
 rw [ZgY] at *
 unfold ZN Yw; rw [Zim h,if_neg h2,if_neg h2]; exact ⟨rfl,rfl⟩
theorem Zb0 {t : Table} {tx : Int} {v : List Val} {d : Span} (h : QT t d = true) (h2 : Qx [YU t.s v,XP t tx] = 0) : ZP t tx (QJ t tx v d) = ZN t tx v d ∧ Qk (QJ t tx v d) = Yw t tx v d:=by
 rw [ZgY] at *
 unfold ZN Yw; rw [Zim h,if_pos h2,if_pos h2]; exact ⟨rfl,rfl⟩
theorem ZeQ {t : Table} {tx : Int} {v : List Val} {d : Span} (h : Zo t = true) (hd : ZF d = true) (h2 : Qx [YU t.s v,XP t tx] = 0) :
  Z2 (QJ t tx v d) ∧ (∀ r ∈ QJ t tx v d,r.v.length ≤ 1000) ∧ (QJ t tx v d).length ≤ 501:=by
 obtain ⟨g1,g2,g3,_⟩:=ZD h
 rw [ZgY] at h2
 obtain ⟨e1,e2⟩:=Zrr h2
 obtain ⟨e3,e4⟩:=ZnQ e2
 have e5:=Qc e3
 obtain ⟨r1,r2,_,_⟩:=ZaY e1
 unfold QJ
 refine ⟨fun r hr=>?_,fun r hr=>?_,by simp; omega⟩
 ·rcases List.mem_append.1 hr with hr | hr
  ·exact g1 r hr
  ·rw [List.mem_singleton.1 hr]
   unfold Yo
   simp only [r2,hd,Bool.true_and]
   unfold ZF
   simp; omega
 ·rcases List.mem_append.1 hr with hr | hr
  ·exact Nat.le_trans (g3 r hr) (by decide)
  ·rw [List.mem_singleton.1 hr]; exact Nat.le_trans r1 (by decide)
def ZbN (gs : List HGrp) (at_ tx : Int) : List (List Val):=(gs.filter fun g=>Yu (ZB g.t tx) at_).map HGrp.v
theorem ZnR {gs : List HGrp} {k : Nat} {g : HGrp} {at_ tx : Int} (h : gs[k]? = some g) (hi : Yu (ZB g.t tx) at_ = true) : ZbN (gs.take (k + 1)) at_ tx = ZbN (gs.take k) at_ tx ++ [g.v]:=by
 rw [List.take_add_one,h]; unfold ZbN; simp [hi]
theorem Zqa {gs : List HGrp} {k : Nat} {g : HGrp} {at_ tx : Int} (h : gs[k]? = some g) (hi : Yu (ZB g.t tx) at_ = false) : ZbN (gs.take (k + 1)) at_ tx = ZbN (gs.take k) at_ tx:=by
 rw [List.take_add_one,h]; unfold ZbN; simp [hi]
theorem ZnS (gs : List HGrp) (k : Nat) (at_ tx : Int) : (ZbN (gs.take k) at_ tx).length ≤ gs.length:=by
 unfold ZbN; rw [List.length_map]; exact Nat.le_trans (List.length_filter_le _ _) (List.length_take_le' _ _)
theorem ZtE {t : Table} {at_ tx : Int} (h : Zo t = false) : [] = Yy t at_ tx:=by unfold Yy; rw [h]; rfl
theorem ZtF {t : Table} {at_ tx : Int} (h : ZM at_ = false) : [] = Yy t at_ tx:=by unfold Yy; rw [h]; simp
theorem ZtG {t : Table} {at_ tx : Int} (h : ZM tx = false) : [] = Yy t at_ tx:=by unfold Yy; rw [h]; simp
theorem ZtH {t : Table} {at_ tx : Int} {k : Nat} (h1 : Zo t = true) (h2 : ZM at_ = true) (h3 : ZM tx = true) (hk : (ZY t.rows).length ≤ k) : ZbN ((ZY t.rows).take k) at_ tx = Yy t at_ tx:=by
 unfold Yy; rw [h1,h2,h3,List.take_of_length_le hk]; rfl
def ZaQ (gs : List HGrp) (tx : Int) : List Fact:=gs.flatMap fun g=>(ZB g.t tx).map (Fact.mk g.v)
theorem ZkR {gs : List HGrp} {k : Nat} {g : HGrp} {tx : Int} (h : gs[k]? = some g) : ZaQ (gs.take (k + 1)) tx = ZaQ (gs.take k) tx ++ (ZB g.t tx).map (Fact.mk g.v):=by
 rw [List.take_add_one,h]; simp [ZaQ]
theorem Zm4 {gs : List HGrp} {tx : Int} (h : ∀ g ∈ gs,g.t.length ≤ 500) : (ZaQ gs tx).length ≤ gs.length * 500:=by
 induction gs with
 | nil=>simp [ZaQ]
 | cons g gs ih=>
  have h1:=Nat.le_trans (Zbr g.t tx) (h g (by simp))
  have h2:=ih fun x hx=>h x (by simp [hx])
  simp only [ZaQ,List.flatMap_cons,List.length_append,List.length_cons,List.length_map] at *
  rw [Nat.add_mul]; omega
theorem Zd6 {l : List HRow} {k : Nat} {tx : Int} (hl : l.length ≤ 500) : (ZaQ ((ZY l).take k) tx).length ≤ 250000:=by
 have h1:=Zm4 (gs:=(ZY l).take k) (tx:=tx) fun g hg=>Nat.le_trans (ZgS g (List.mem_of_mem_take hg)) hl
 have h2:=List.length_take_le' k (ZY l)
 have h3:=@ZcE l
 exact Nat.le_trans h1 (Nat.le_trans (Nat.mul_le_mul_right 500 (show ((ZY l).take k).length ≤ 500 by omega)) (by decide))
theorem ZvI {t : Table} {tx : Int} (h : Zo t = false) : [] = Qb t tx:=by unfold Qb; rw [h]; rfl
theorem ZvJ {t : Table} {tx : Int} (h : ZM tx = false) : [] = Qb t tx:=by unfold Qb; rw [h]; simp
theorem ZvK {t : Table} {tx : Int} {k : Nat} (h1 : Zo t = true) (h3 : ZM tx = true) (hk : (ZY t.rows).length ≤ k) : ZaQ ((ZY t.rows).take k) tx = Qb t tx:=by
 unfold Qb; rw [h1,h3,List.take_of_length_le hk]; rfl
theorem YX {α β : Type} {f : α → β} {l : List α} {k : Nat} {x : α} (h : l[k]? = some x) : (l.take (k + 1)).map f = (l.take k).map f ++ [f x]:=by rw [List.take_add_one,h]; simp
end Go.Civ
namespace Go.Civ
def Z5 (s : Schema) : Table:=if Yt s then ⟨s,[], -62135596801⟩ else noT
def ZbE (s : Schema) : Int:=if Yt s then 0 else 1
theorem ZiS {s : Schema} (h : Yt s = true) : (⟨s,[], -62135596801⟩ : Table) = Z5 s ∧ 0 = ZbE s:=by unfold Z5 ZbE; rw [h]; exact ⟨rfl,rfl⟩
theorem Zrs {s : Schema} (h : Yt s = false) : noT = Z5 s ∧ 1 = ZbE s:=by unfold Z5 ZbE; rw [h]; exact ⟨rfl,rfl⟩
end Go.Civ
namespace Go.Civ
theorem Zee {α β : Type} {f : α → β} {l : List α} {k : Nat} (h : l.length ≤ k) : (l.take k).map f = l.map f:=by rw [List.take_of_length_le h]
end Go.Civ
namespace Go.Civ
open Go.RowKit
set_option linter.unusedVariables false
structure FnO (P : Program) {α : Type} (A : GH → Value → α → Prop) (fid : Nat) (cap : Array Value) (G : GH) (on : α → Prop) (nx : α → Option (List Val)) : Prop where
 body : Zk P fid
 call : ∀ (G' : GH) (w' : World) (v : Value) (x : α),G.le G' → G'.In w' → on x → A G' v x →
  Calls P fid ([v] ++ cap.toList).toArray w' fun e w''=>∃ r G'',e = .returned r ∧ Res [] w' G' w'' G'' ∧ ∃ r0 r1,r = .tuple #[r0,r1] ∧ Sl ValE 32 G'' r0 ((nx x).getD []) ∧ r1 = .bool (nx x).isSome
theorem FnO.up {P : Program} {α : Type} {A : GH → Value → α → Prop} {fid : Nat} {cap : Array Value} {G G' : GH} {on : α → Prop} {nx : α → Option (List Val)} (h : FnO P A fid cap G on nx) (k : G.le G') : FnO P A fid cap G' on nx:=
 ⟨h.body,fun G2 w' v x hle=>h.call G2 w' v x (k.trans hle)⟩
theorem Zd7 {s : Span} (h : s.a < s.b) : Can [s]:=⟨by simp,by simpa using h⟩
def Za8 (r d : Span) : List Span:=(if r.a < d.a then [⟨r.a,d.a⟩] else []) ++ (if d.b < r.b then [⟨d.b,r.b⟩] else [])
theorem Zm5 {r d : Span} (hr : r.a < r.b) (hd : d.a < d.b) (h1 : r.a < d.b) (h2 : d.a < r.b) : Can (Za8 r d):=by
 unfold Za8
 by_cases c1 : r.a < d.a <;> by_cases c2 : d.b < r.b <;> simp only [c1,c2,if_true,if_false,List.nil_append,List.append_nil]
 ·exact ⟨by simp; omega,fun s hs=>by simp at hs; rcases hs with rfl | rfl <;> simp <;> omega⟩
 ·exact Zd7 c1
 ·exact Zd7 c2
 ·exact ⟨List.Pairwise.nil,by simp⟩
theorem Zqb {r d : Span} (hr : r.a < r.b) (hd : d.a < d.b) (h1 : r.a < d.b) (h2 : d.a < r.b) : ZL 3 [r] [d] = Za8 r d:=by
 have h:=QL (kind:=3) (a:=[r]) (b:=[d]) rfl (by simpa using hr) (by simpa using hd)
 refine Can.unique h.1 (Zm5 hr hd h1 h2) fun x=>?_
 rw [h.2]
 have e : YW 3 (Yu [r] x) (Yu [d] x) = true ↔ ((r.a ≤ x ∧ x < r.b) ∧ ¬ (d.a ≤ x ∧ x < d.b)):=by
  unfold YW Yu; simp; omega
 rw [e]
 unfold Za8
 by_cases c1 : r.a < d.a <;> by_cases c2 : d.b < r.b <;> simp only [c1,c2,if_true,if_false,List.nil_append,List.append_nil,List.cons_append,YG] <;> simp [cover] <;> omega
theorem ZkS {r d : Span} (hr : ZF r = true) (hd : ZF d = true) (h1 : r.a < d.b) (h2 : d.a < r.b) : ∀ s ∈ Za8 r d,ZF s = true:=fun s hs=>by
 unfold ZF at hr hd ⊢
 simp at hr hd ⊢
 unfold Za8 at hs
 rcases List.mem_append.1 hs with hs | hs
 ·split at hs
  ·obtain rfl:=List.mem_singleton.1 hs; simp only; omega
  ·cases hs
 ·split at hs
  ·obtain rfl:=List.mem_singleton.1 hs; simp only; omega
  ·cases hs
theorem Zha (r d : Span) : (Za8 r d).length ≤ 2:=by unfold Za8; rw [List.length_append]; split <;> split <;> simp
theorem Zef {r d : Span} (hr : ZF r = true) (hd : ZF d = true) (h1 : r.a < d.b) (h2 : d.a < r.b) : ZL 3 [r] [d] = Za8 r d:=Zqb (Y3 hr) (Y3 hd) h1 h2
theorem ZnT {r d : Span} (hr : ZF r = true) (hd : ZF d = true) (h1 : r.a < d.b) (h2 : d.a < r.b) : ZF (Zms r d) = true:=by
 unfold ZF at hr hd ⊢
 unfold Zms
 simp at hr hd ⊢
 omega
def ZtI (nx : List Val → Option (List Val)) (l : List HRow) : Prop:=∀ r ∈ l,∀ u,nx r.v = some u → u.all ZE = true ∧ u.length ≤ 8
structure ChgOk (t : Table) (tx : Int) (d : Span) (nx : List Val → Option (List Val)) : Prop where
 valid : Zo t = true
 span : ZF d = true
 inst : ZM tx = true
 late : t.last < tx
 next : ZtI nx t.rows
section
variable {t : Table} {tx : Int} {d : Span} {nx : List Val → Option (List Val)} {hl : List Val → Bool}
theorem Q5 (h : Zo t = true) {r : HRow} (hr : r ∈ t.rows) : Yo r = true ∧ r.v.length ≤ 8 ∧ r.r.x.a ≤ t.last ∧ r.v.length = t.s.cols.length ∧ r.v.all ZE = true ∧ t.s.cols.length ≤ 8:=by
 rw [Zbe] at h
 simp only [Bool.and_eq_true] at h
 have h1:=List.all_eq_true.1 h.1.2 r hr
 unfold YA at h1
 simp only [Bool.and_eq_true,decide_eq_true_eq] at h1
 obtain ⟨a,b,c,_⟩:=ZaY h1.1.1.1
 exact ⟨h1.1.1.2,a,h1.1.2,c,b,by omega⟩
theorem ZnU (hc : ChgOk t tx d nx) {r : HRow} (hr : r ∈ t.rows) : (Zbu hl nx tx d r).length ≤ 4:=by
 unfold Zbu
 split
 ·rename_i h
  simp only [Bool.and_eq_true] at h
  unfold ZcC at h
  simp only [Bool.and_eq_true,decide_eq_true_eq] at h
  have hg:=ZS (Q5 hc.valid hr).1
  rw [Zef hg.2.1 hc.span h.1.1.2 h.1.2]
  have:=Zha r.r.d d
  have h2 : (ZgL (nx r.v) r.r.d d tx).length ≤ 1:=by unfold ZgL; split <;> simp
  simp only [List.length_append,ZcD,List.length_cons,List.length_nil]
  omega
 ·simp
theorem ZfK (hc : ChgOk t tx d nx) : ∀ k,(Za6 hl nx tx d (t.rows.take k)).length ≤ 4 * k
 | 0=>by simp [Za6]
 | k + 1=>by
  have ih:=ZfK hc k
  cases e : t.rows[k]? with
  | none=>rw [List.take_add_one,e]; simp only [Option.toList,List.append_nil]; omega
  | some r=>
   rw [ZjO e,List.length_append]
   have:=ZnU (hl:=hl) hc (List.mem_of_getElem? e)
   omega
theorem Zhb (hc : ChgOk t tx d nx) {r : HRow} (hr : r ∈ t.rows) : ∀ q ∈ Zbu hl nx tx d r,Yo q = true ∧ q.v.length ≤ 1000:=by
 obtain ⟨g1,g2,g3,_⟩:=Q5 hc.valid hr
 have hg:=ZS g1
 have ht:=Qc hc.inst
 have hl:=hc.late
 have mk : ∀ (v : List Val) (a b : Span),v.all ZE = true → ZF a = true → ZF b = true → Yo ⟨v,⟨a,b⟩⟩ = true:=fun v a b h1 h2 h3=>by unfold Yo; simp only; rw [h1,h2,h3]; rfl
 have hx:=hg.2.2
 unfold ZF at hx
 simp at hx
 have hT : ZF ⟨tx,253402300800⟩ = true:=by unfold ZF; simp; omega
 unfold Zbu
 split
 ·rename_i h
  simp only [Bool.and_eq_true] at h
  unfold ZcC at h
  simp only [Bool.and_eq_true,decide_eq_true_eq] at h
  rw [Zef hg.2.1 hc.span h.1.1.2 h.1.2]
  intro q hq
  rcases List.mem_append.1 hq with hq | hq
  ·rcases List.mem_append.1 hq with hq | hq
   ·rw [List.mem_singleton.1 hq]
    exact ⟨mk _ _ _ hg.1 hg.2.1 (by unfold ZF; simp; omega),Nat.le_trans g2 (by decide)⟩
   ·unfold Xx at hq
    obtain ⟨s,hs,rfl⟩:=List.mem_map.1 hq
    exact ⟨mk _ _ _ hg.1 (ZkS hg.2.1 hc.span h.1.1.2 h.1.2 s hs) hT,Nat.le_trans g2 (by decide)⟩
  ·unfold ZgL at hq
   split at hq
   ·rename_i u hu
    rw [List.mem_singleton.1 hq]
    obtain ⟨u1,u2⟩:=hc.next r hr u hu
    exact ⟨mk _ _ _ u1 (ZnT hg.2.1 hc.span h.1.1.2 h.1.2) hT,Nat.le_trans u2 (by decide)⟩
   ·cases hq
 ·intro q hq
  rw [List.mem_singleton.1 hq]; exact ⟨g1,Nat.le_trans g2 (by decide)⟩
theorem Zkb (hc : ChgOk t tx d nx) : Z2 (Za6 hl nx tx d t.rows) ∧ (∀ r ∈ Za6 hl nx tx d t.rows,r.v.length ≤ 1000) ∧ (Za6 hl nx tx d t.rows).length ≤ 2000:=by
 refine ⟨fun q hq=>?_,fun q hq=>?_,?_⟩
 ·obtain ⟨r,hr,h⟩:=List.mem_flatMap.1 hq; exact (Zhb hc hr q h).1
 ·obtain ⟨r,hr,h⟩:=List.mem_flatMap.1 hq; exact (Zhb hc hr q h).2
 ·have h1:=ZfK (hl:=hl) hc t.rows.length
  rw [List.take_length] at h1
  have:=(ZD hc.valid).2.1
  omega
end
end Go.Civ
namespace Go.Civ
end Go.Civ
namespace Go.Civ
end Go.Civ
