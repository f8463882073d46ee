/- Lemmas. -/
import Derived.Test.YthgeclodflmiaaaGreatH03
import Derived.Test.YthgeclodflmiaaaGreatH04
import Derived.Test.YthgeclodflmiaaaGreatH11
import Derived.Test.YthgeclodflmiaaaGreatH12
import Derived.Test.YthgeclodflmiaaaGreatH14
import Derived.Test.YthgeclodflmiaaaGreatH17
set_option linter.unusedVariables false
namespace Go.Civ
open Go.Proofs Go.Shelf Go.RowKit Go.Lib Go.Sort
theorem ZqZ (l : List Int) : ZbJ l = ZjF l:=rfl
set_option maxHeartbeats 1000000 in
theorem ZoT {G : GH} {w : World} (hG : G.In w) (l : List Int) (vd : Value) (od : OB) (hvd : Ye Enc.int 8 (nat_lit 3) G vd l od) (hod : XJ w G od) :
  Calls Tryz.prog (nat_lit 146) #[vd] w fun e w'=>∃ r G',e = .returned r ∧ Res (blk od) w G w' G' ∧ ∃ (o' : OB),Ye Enc.int 8 (nat_lit 3) G' r (compact l) o' ∧ XJ w' G' o' ∧ blk o' = blk od:=by
 rcases hvd with ⟨rfl,rfl,rfl⟩ | ⟨b,cs,cap,xs,rfl,rfl,h3,h4,h5,h6,h7,h8,h9⟩
 ·exact (Any.slices_Compact_int_empty Tryz.laysCompact none 0 w).mono fun e w' ⟨he,hw⟩=>by
   subst hw
   exact ⟨_,G,he,Res.refl hG,none, .inl ⟨rfl,rfl,rfl⟩,fun p hp=>(by cases hp),rfl⟩
 ·obtain ⟨hb1,hb2⟩:=hod _ rfl
  obtain ⟨rfl,hI⟩:=Zc4 l xs h6
  have hE : Enc.int.n = 1:=rfl
  rw [hE,Nat.mul_one] at h5 h7
  have hcell : ∀ t,t < l.length → cs[t]? = some (.int .i64 l[t]!):=fun t ht=>by
   have:=congrArg (·[t]?) h7
   simp only [List.getElem?_take,if_pos ht,List.getElem?_map] at this
   rw [this,List.getElem?_eq_getElem ht,getElem!_pos l t ht]; rfl
  have hH : Holds (Value.int .i64) w b 0 l.toArray:=fun t ht=>by
   have ht' : t < l.length:=by simpa using ht
   refine ⟨?_,?_⟩
   ·rw [Nat.zero_add]
    simp only [World.cell?,hb1,ZaK]
    have:=hcell t ht'
    rw [getElem!_pos l t ht'] at this
    rw [getElem!_pos l.toArray t ht]
    simpa using this
   ·simp [World.frozen?,hb1,ZaK]
  have hcon:=Any.slices_Compact_int Tryz.laysCompact b 0 cap l w hH (by unfold reach at h9; omega) h3
  refine hcon.mono fun e w' ⟨he,q,hw⟩=>?_
  have hlen:=ZlE l
  have hbl : b < w.heap.size:=(Array.getElem?_eq_some_iff.1 hb1).1
  obtain ⟨z,hz⟩ : ∃ z : List Int,z = compact l ++ List.replicate (l.length - (compact l).length) 0:=⟨_,rfl⟩
  have hzl : z.length = l.length:=by subst hz; simp; omega
  rw [← hz] at hw
  obtain ⟨cs',hcs'⟩ : ∃ cs' : List Value,cs' = (putCells (Value.int .i64) 0 z.toArray cs.toArray).toList:=⟨_,rfl⟩
  have hget : ∀ k,w'.heap[k]? = if b = k then some (.cells cs'.toArray (nat_lit 3) (0,0)) else w.heap[k]? :=fun k=>by
   subst hw
   have hah : (Go.Sort.ahead w q).heap = w.heap:=rfl
   simp only [putRow,mapBlock,hah]
   rw [Array.getElem?_modify]
   by_cases hkb : b = k
   ·subst hkb
    rw [if_pos rfl,if_pos rfl,hb1]
    simp [ZaK,onCells,hcs']
   ·rw [if_neg hkb,if_neg hkb]
  have hres : Res [b] w G w' G:=by
   refine ⟨?_,G.le_refl,fun _ _=>rfl,fun k o hk=>?_⟩
   ·refine ⟨by subst hw; rfl,by subst hw; rfl,by subst hw; rfl,by subst hw; exact Nat.le_add_right _ _,?_,fun k hk hkb=>?_⟩
    ·subst hw
     have hah : (Go.Sort.ahead w q).heap = w.heap:=rfl
     simp [putRow,mapBlock]
     try simp [hah]
    ·rw [hget,if_neg (by simpa [eq_comm] using hkb)]
   ·have hkb : b ≠ k:=fun e=>by subst e; simp only at hb2; rw [hb2] at hk; cases hk
    rw [hget,if_neg hkb]; exact hG k o hk
  have hI' : ∀ x ∈ compact l,Zw x:=fun x hx=>by
   unfold compact compactUpTo at hx
   obtain ⟨j,hj,rfl⟩:=List.mem_map.1 hx
   have hj' : j < l.length:=by simpa using (List.mem_filter.1 hj).1
   rw [getElem!_pos l.toArray j (by simpa using hj')]
   exact hI _ (by simp)
  have hby : (compact l).length * 8 ≤ reach:=Nat.le_trans (Nat.mul_le_mul_right _ hlen) h8
  refine ⟨_,G,he,hres,some (b,nat_lit 3,cs'), .inr ⟨b,cs',cap,(compact l).map (Value.int .i64),rfl,rfl,Nat.le_trans hlen h3,h4,?_,Zio _ hI',?_,hby,Nat.le_trans hlen h9⟩,fun p hp=>?_,rfl⟩
  ·subst hcs'; rw [hE]; simpa [putCells] using h5
  ·rw [hE,Nat.mul_one]
   apply List.ext_getElem?
   intro t
   rw [List.getElem?_take]
   by_cases ht : t < (compact l).length
   ·have htc : t < cs.length:=by omega
    have htz : z[t]? = (compact l)[t]? :=by rw [hz,List.getElem?_append_left ht]
    have htz' : t < z.length:=by omega
    rw [if_pos ht,hcs']
    simp only [putCells,Array.getElem?_toList,Array.getElem?_mapIdx]
    simp only [List.getElem?_toArray]
    rw [List.getElem?_eq_getElem htc,List.getElem?_map,← htz,List.getElem?_eq_getElem htz']
    simp [htz']
   ·rw [if_neg ht,List.getElem?_eq_none]
    simp; omega
  ·obtain rfl:=Option.some.inj hp
   exact ⟨by rw [hget,if_pos rfl]; rfl,hb2⟩
end Go.Civ
namespace Go.Civ
open Go.RowKit
set_option linter.unusedVariables false
theorem Zto {x : HRow} (h : (x.v.any fun x=>!Zz x) = true) : false = Y0 x:=by
 have:=ZcO h; unfold Y0; rw [this]; rfl
theorem Ztp {x : HRow} (h : (x.v.any fun x=>!Zz x) = false) (h2 : ZI x.r.d = false) : false = Y0 x:=by
 have:=ZcO h; unfold Y0; rw [this,h2]; rfl
theorem Ztq {x : HRow} (h : (x.v.any fun x=>!Zz x) = false) (h2 : ZI x.r.d = true) : ZI x.r.x = Y0 x:=by
 have:=ZcO h; unfold Y0; rw [this,h2]; simp
def Qg (l : List HRow) : List HRow:=if 1000 < l.length then [] else if l.all Y0 then (if (ZS l).length ≤ 500 then ZS l else []) else []
def QH (l : List HRow) : Int:=if 1000 < l.length then 5 else if l.all Y0 then (if (ZS l).length ≤ 500 then 0 else 5) else 1
theorem Zgz {l : List HRow} (h : (l.any fun r=>!Y0 r) = false) : ZK l:=fun r hr=>by
 rw [List.any_eq_false] at h; simpa using h r hr
theorem ZhB {l : List HRow} (h : (l.any fun r=>!Y0 r) = false) : l.all Y0 = true:=List.all_eq_true.2 (Zgz h)
theorem ZlJ {l : List HRow} (h : (l.any fun r=>!Y0 r) = true) : l.all Y0 = false:=by rw [← Bool.not_eq_true,List.all_eq_true]; rw [List.any_eq_true] at h; obtain ⟨r,hr,h1⟩:=h; intro e; rw [e r hr] at h1; cases h1
theorem ZiZ {l : List HRow} (h : 1000 < (l.length : Int)) : Qg l = [] ∧ QH l = 5:=by
 refine ⟨?_,?_⟩ <;> simp only [Qg,QH,if_pos (show 1000 < l.length by omega)]
theorem Zja {l : List HRow} (h : (l.length : Int) ≤ 1000) (h2 : (l.any fun r=>!Y0 r) = true) : Qg l = [] ∧ QH l = 1:=by
 refine ⟨?_,?_⟩ <;> simp only [Qg,QH,if_neg (show ¬ 1000 < l.length by omega),ZlJ h2,Bool.false_eq_true,if_false]
theorem ZhC {l : List HRow} (h : (l.length : Int) ≤ 1000) (h2 : (l.any fun r=>!Y0 r) = false) (h3 : 500 < ((ZS l).length : Int)) : Qg l = [] ∧ QH l = 5:=by
 refine ⟨?_,?_⟩ <;> simp only [Qg,QH,if_neg (show ¬ 1000 < l.length by omega),ZhB h2,if_neg (show ¬ (ZS l).length ≤ 500 by omega),if_true]
theorem ZgH {l : List HRow} (h : (l.length : Int) ≤ 1000) (h2 : (l.any fun r=>!Y0 r) = false) (h3 : ((ZS l).length : Int) ≤ 500) : Qg l = ZS l ∧ QH l = 0:=by
 refine ⟨?_,?_⟩ <;> simp only [Qg,QH,if_neg (show ¬ 1000 < l.length by omega),ZhB h2,if_pos (show (ZS l).length ≤ 500 by omega),if_true]
theorem ZoU {x y : HRow} (h : decide (x.v = y.v) = false) : false = decide (x = y):=(decide_eq_false fun e=>(of_decide_eq_false h) (by rw [e])).symm
theorem ZoV {x y : HRow} (h : decide (x.v = y.v) = true) : decide (x.r = y.r) = decide (x = y):=decide_eq_decide.2 ⟨fun e=>by
 have:=of_decide_eq_true h
 cases x; cases y; simp_all,fun e=>by rw [e]⟩
end Go.Civ
namespace Go.Civ
open Go.RowKit
set_option linter.unusedVariables false
def Q0 (t : Table) : Bool:=YM t.s && decide (-62135596801 ≤ t.last) && decide (t.last < 253402300800) && decide (t.rows.length ≤ 500)
theorem Zn3 {t : Table} (h1 : YM t.s = true) (h2 : -62135596801 ≤ t.last) (h3 : t.last < 253402300800) (h4 : (t.rows.length : Int) ≤ 500) : Q0 t = true:=by
 unfold Q0; rw [h1,decide_eq_true h2,decide_eq_true h3,decide_eq_true (show t.rows.length ≤ 500 by omega)]; rfl
theorem Zbx (t : Table) : Z2 t = ((Q0 t && t.rows.all (YN t.s t.last)) && decide (t.rows = ZS t.rows)):=rfl
theorem ZeM {t : Table} (h : Q0 t = false) : false = Z2 t:=by rw [Zbx,h]; rfl
theorem Zrc {t : Table} (h : YM t.s = false) : Q0 t = false:=by unfold Q0; rw [h]; rfl
theorem Zrd {t : Table} (h : t.last < -62135596801) : Q0 t = false:=by unfold Q0; rw [decide_eq_false (show ¬ -62135596801 ≤ t.last by omega)]; simp
theorem Zre {t : Table} (h : 253402300800 ≤ t.last) : Q0 t = false:=by unfold Q0; rw [decide_eq_false (show ¬ t.last < 253402300800 by omega)]; simp
theorem Zrf {t : Table} (h : 500 < (t.rows.length : Int)) : Q0 t = false:=by unfold Q0; rw [decide_eq_false (show ¬ t.rows.length ≤ 500 by omega)]; simp
theorem ZcI {t : Table} {k : Nat} {x : HRow} (h : t.rows[k]? = some x) (hx : YN t.s t.last x = false) : false = Z2 t:=by
 rw [Zbx,Zfj h hx]; simp
theorem ZoW {t : Table} (h1 : Q0 t = true) (h2 : t.rows.all (YN t.s t.last) = true) : Qr (fun x y=>decide (x = y)) t.rows (ZS t.rows) = Z2 t:=by
 rw [Zbx,h1,h2,XS]; rfl
theorem Ztr {s : Schema} {last : Int} {x : HRow} (h : YQ s x.v ≠ 0) : YN s last x = false:=by unfold YN; rw [decide_eq_false h]; rfl
theorem Zts {s : Schema} {last : Int} {x : HRow} (h : Y0 x = false) : YN s last x = false:=by unfold YN; rw [h]; simp
theorem Ztt {s : Schema} {last : Int} {x : HRow} (h : last < x.r.x.a) : YN s last x = false:=by unfold YN; rw [decide_eq_false (show ¬ x.r.x.a ≤ last by omega)]; simp
theorem Ztu {s : Schema} {last : Int} {x : HRow} (h : last < x.r.x.b) (h2 : x.r.x.b ≠ 253402300800) : YN s last x = false:=by unfold YN; rw [decide_eq_false (show ¬ x.r.x.b ≤ last by omega),decide_eq_false h2]; simp
theorem Zip {s : Schema} {last : Int} {x : HRow} (h1 : YQ s x.v = 0) (h2 : Y0 x = true) (h3 : x.r.x.a ≤ last) (h4 : x.r.x.b ≤ last ∨ x.r.x.b = 253402300800) : YN s last x = true:=by
 unfold YN; rw [decide_eq_true h1,h2,decide_eq_true h3]
 rcases h4 with h4 | h4
 ·rw [decide_eq_true h4]; rfl
 ·rw [decide_eq_true h4]; simp
theorem ZoX {s : Schema} {last : Int} {l : List HRow} (h : l.all (YN s last) = true) : ZK l ∧ ∀ r ∈ l,r.v.length ≤ 8:=by
 rw [List.all_eq_true] at h
 refine ⟨fun r hr=>?_,fun r hr=>?_⟩
 ·have:=h r hr; unfold YN at this; simp only [Bool.and_eq_true,decide_eq_true_eq] at this; exact this.1.1.2
 ·have:=h r hr; unfold YN at this; simp only [Bool.and_eq_true,decide_eq_true_eq] at this; exact (Zbt this.1.1.1).1
theorem ZkY {l : List HRow} (h : ∀ r ∈ l,r.v.length ≤ 8) : ∀ r ∈ l,r.v.length ≤ 1000:=fun r hr=>Nat.le_trans (h r hr) (by decide)
theorem ZeN {t : Table} {tx : Int} {l : List HRow} (h : ((ZS l).length : Int) ≤ 500) : (⟨t.s,ZS l,tx⟩ : Table) = Z1 t tx l ∧ 0 = X0 l:=by
 unfold Z1 X0; rw [if_pos (by omega),if_pos (by omega)]; exact ⟨rfl,rfl⟩
theorem Zgg {t : Table} {tx : Int} {l : List HRow} (h : 500 < ((ZS l).length : Int)) : Qs = Z1 t tx l ∧ 5 = X0 l:=by
 unfold Z1 X0; rw [if_neg (by omega),if_neg (by omega)]; exact ⟨rfl,rfl⟩
theorem ZuU {t : Table} {tx : Int} (h : Yp tx = false) : 2 = YG t tx:=by unfold YG; rw [h]; rfl
theorem ZuV {t : Table} {tx : Int} (h : Yp tx = true) (h2 : tx ≤ t.last) : 6 = YG t tx:=by unfold YG; rw [h,if_pos rfl,if_pos h2]
theorem ZuW {t : Table} {tx : Int} (h : Yp tx = true) (h2 : t.last < tx) : 0 = YG t tx:=by unfold YG; rw [h,if_pos rfl,if_neg (by omega)]
theorem ZkZ (t : Table) (tx : Int) : Zw (YG t tx):=by unfold YG; split <;> (try split) <;> constructor <;> decide
theorem Zdp (a b : Int) : XM [a,b] = or2 a b:=by
 unfold XM or2
 by_cases ha : a = 0
 ·by_cases hb : b = 0 <;> simp [ha,hb]
 ·simp [ha]
theorem Zn4 {a b : Int} (h : or2 a b = 0) : a = 0 ∧ b = 0:=by unfold or2 at h; split at h <;> omega
theorem ZhD {t : Table} {tx : Int} (h : YG t tx = 0) : Yp tx = true ∧ t.last < tx:=by
 unfold YG at h
 split at h
 ·rename_i h1; split at h <;> first | omega | exact ⟨h1,by omega⟩
 ·omega
theorem Qa {x : Int} (h : Yp x = true) : -62135596800 ≤ x ∧ x < 253402300800:=by unfold Yp at h; simpa using h
theorem ZcP {t : Table} {d : Span} (h : Z2 t = false) : YZ t d = false:=by unfold YZ; rw [h]; rfl
theorem ZcQ {t : Table} {d : Span} (h : ZI d = false) : YZ t d = false:=by unfold YZ; rw [h]; simp
theorem Zep {t : Table} {d : Span} (h1 : Z2 t = true) (h2 : ZI d = true) : YZ t d = true:=by unfold YZ; rw [h1,h2]; rfl
theorem ZhE {t : Table} {tx : Int} {v : List Val} {d : Span} (h : YZ t d = false) : Qs = ZF t tx v d ∧ 1 = Y2 t tx v d:=by
 have : Zdl t tx v d = 1:=by unfold Zdl; rw [h]; rfl
 unfold ZF Y2; rw [this]; exact ⟨rfl,rfl⟩
theorem Zjb {t : Table} {tx : Int} {v : List Val} {d : Span} (h : YZ t d = true) : Zdl t tx v d = or2 (YQ t.s v) (YG t tx):=by unfold Zdl; rw [h]; rfl
theorem Zn5 {t : Table} {tx : Int} {v : List Val} {d : Span} (h : YZ t d = true) (h2 : XM [YQ t.s v,YG t tx] ≠ 0) : Qs = ZF t tx v d ∧ XM [YQ t.s v,YG t tx] = Y2 t tx v d:=by
 rw [Zdp] at *
 unfold ZF Y2; rw [Zjb h,if_neg h2,if_neg h2]; exact ⟨rfl,rfl⟩
theorem ZbK {t : Table} {tx : Int} {v : List Val} {d : Span} (h : YZ t d = true) (h2 : XM [YQ t.s v,YG t tx] = 0) : Z1 t tx (QV t tx v d) = ZF t tx v d ∧ X0 (QV t tx v d) = Y2 t tx v d:=by
 rw [Zdp] at *
 unfold ZF Y2; rw [Zjb h,if_pos h2,if_pos h2]; exact ⟨rfl,rfl⟩
theorem Zf7 {t : Table} {tx : Int} {v : List Val} {d : Span} (h : Z2 t = true) (hd : ZI d = true) (h2 : XM [YQ t.s v,YG t tx] = 0) :
  ZK (QV t tx v d) ∧ (∀ r ∈ QV t tx v d,r.v.length ≤ 1000) ∧ (QV t tx v d).length ≤ 501:=by
 obtain ⟨g1,g2,g3,_⟩:=Y5 h
 rw [Zdp] at h2
 obtain ⟨e1,e2⟩:=Zn4 h2
 obtain ⟨e3,e4⟩:=ZhD e2
 have e5:=Qa e3
 obtain ⟨r1,r2,_,_⟩:=Zbt e1
 unfold QV
 refine ⟨fun r hr=>?_,fun r hr=>?_,by simp; omega⟩
 ·rcases List.mem_append.1 hr with hr | hr
  ·exact g1 r hr
  ·rw [List.mem_singleton.1 hr]
   unfold Y0
   simp only [r2,hd,Bool.true_and]
   unfold ZI
   simp; omega
 ·rcases List.mem_append.1 hr with hr | hr
  ·exact Nat.le_trans (g3 r hr) (by decide)
  ·rw [List.mem_singleton.1 hr]; exact Nat.le_trans r1 (by decide)
def Zcn (gs : List HGrp) (at_ tx : Int) : List (List Val):=(gs.filter fun g=>Xq (ZB g.t tx) at_).map HGrp.v
theorem ZoY {gs : List HGrp} {k : Nat} {g : HGrp} {at_ tx : Int} (h : gs[k]? = some g) (hi : Xq (ZB g.t tx) at_ = true) : Zcn (gs.take (k + 1)) at_ tx = Zcn (gs.take k) at_ tx ++ [g.v]:=by
 rw [List.take_add_one,h]; unfold Zcn; simp [hi]
theorem Zrg {gs : List HGrp} {k : Nat} {g : HGrp} {at_ tx : Int} (h : gs[k]? = some g) (hi : Xq (ZB g.t tx) at_ = false) : Zcn (gs.take (k + 1)) at_ tx = Zcn (gs.take k) at_ tx:=by
 rw [List.take_add_one,h]; unfold Zcn; simp [hi]
theorem ZoZ (gs : List HGrp) (k : Nat) (at_ tx : Int) : (Zcn (gs.take k) at_ tx).length ≤ gs.length:=by
 unfold Zcn; rw [List.length_map]; exact Nat.le_trans (List.length_filter_le _ _) (List.length_take_le' _ _)
theorem ZuX {t : Table} {at_ tx : Int} (h : Z2 t = false) : [] = YF t at_ tx:=by unfold YF; rw [h]; rfl
theorem ZuY {t : Table} {at_ tx : Int} (h : Yp at_ = false) : [] = YF t at_ tx:=by unfold YF; rw [h]; simp
theorem ZuZ {t : Table} {at_ tx : Int} (h : Yp tx = false) : [] = YF t at_ tx:=by unfold YF; rw [h]; simp
theorem Zva {t : Table} {at_ tx : Int} {k : Nat} (h1 : Z2 t = true) (h2 : Yp at_ = true) (h3 : Yp tx = true) (hk : (Yl t.rows).length ≤ k) : Zcn ((Yl t.rows).take k) at_ tx = YF t at_ tx:=by
 unfold YF; rw [h1,h2,h3,List.take_of_length_le hk]; rfl
def Zbj (gs : List HGrp) (tx : Int) : List Fact:=gs.flatMap fun g=>(ZB g.t tx).map (Fact.mk g.v)
theorem ZlK {gs : List HGrp} {k : Nat} {g : HGrp} {tx : Int} (h : gs[k]? = some g) : Zbj (gs.take (k + 1)) tx = Zbj (gs.take k) tx ++ (ZB g.t tx).map (Fact.mk g.v):=by
 rw [List.take_add_one,h]; simp [Zbj]
theorem Zn6 {gs : List HGrp} {tx : Int} (h : ∀ g ∈ gs,g.t.length ≤ 500) : (Zbj gs tx).length ≤ gs.length * 500:=by
 induction gs with
 | nil=>simp [Zbj]
 | cons g gs ih=>
  have h1:=Nat.le_trans (ZcC g.t tx) (h g (by simp))
  have h2:=ih fun x hx=>h x (by simp [hx])
  simp only [Zbj,List.flatMap_cons,List.length_append,List.length_cons,List.length_map] at *
  rw [Nat.add_mul]; omega
theorem Ziq {l : List HRow} {k : Nat} {tx : Int} (hl : l.length ≤ 500) : (Zbj ((Yl l).take k) tx).length ≤ 250000:=by
 have h1:=Zn6 (gs:=(Yl l).take k) (tx:=tx) fun g hg=>Nat.le_trans (Zh7 g (List.mem_of_mem_take hg)) hl
 have h2:=List.length_take_le' k (Yl l)
 have h3:=@Zdo l
 exact Nat.le_trans h1 (Nat.le_trans (Nat.mul_le_mul_right 500 (show ((Yl l).take k).length ≤ 500 by omega)) (by decide))
theorem ZwL {t : Table} {tx : Int} (h : Z2 t = false) : [] = atH t tx:=by unfold atH; rw [h]; rfl
theorem ZwM {t : Table} {tx : Int} (h : Yp tx = false) : [] = atH t tx:=by unfold atH; rw [h]; simp
theorem ZwN {t : Table} {tx : Int} {k : Nat} (h1 : Z2 t = true) (h3 : Yp tx = true) (hk : (Yl t.rows).length ≤ k) : Zbj ((Yl t.rows).take k) tx = atH t tx:=by
 unfold atH; rw [h1,h3,List.take_of_length_le hk]; rfl
theorem ZaE {α β : Type} {f : α → β} {l : List α} {k : Nat} {x : α} (h : l[k]? = some x) : (l.take (k + 1)).map f = (l.take k).map f ++ [f x]:=by rw [List.take_add_one,h]; simp
end Go.Civ
namespace Go.Civ
def Z7 (s : Schema) : Table:=if YM s then ⟨s,[], -62135596801⟩ else Qs
def Zcd (s : Schema) : Int:=if YM s then 0 else 1
theorem ZjI {s : Schema} (h : YM s = true) : (⟨s,[], -62135596801⟩ : Table) = Z7 s ∧ 0 = Zcd s:=by unfold Z7 Zcd; rw [h]; exact ⟨rfl,rfl⟩
theorem Zsu {s : Schema} (h : YM s = false) : Qs = Z7 s ∧ 1 = Zcd s:=by unfold Z7 Zcd; rw [h]; exact ⟨rfl,rfl⟩
end Go.Civ
namespace Go.Civ
theorem Zrh {α β : Type} {f : α → β} {l : List α} {k : Nat} (h : l.length ≤ k) : (l.take k).map f = l.map f:=by rw [List.take_of_length_le h]
end Go.Civ
namespace Go.Civ
open Go.RowKit
set_option linter.unusedVariables false
def TGI (P : Program) (ops : Array Oper) (p : Plan) (C I : World → Prop) (Q : Exit → Env → World → Prop) : Nat → List Nat → Env → World → Prop
 | 0,R,ρ,w=>R = [] → Q .normal ρ w
 | n + 1,R,ρ,w=>(R = [] → Q .normal ρ w) ∧ ∀ j ∈ R,(∀ i ∈ R,waits p.M j i = false) → match ops[j]? with
  | some o=>oW P ops o ρ w fun ρ' w'=>(Q1 p j = true → C w') ∧ I w' ∧ TGI P ops p C I Q n (R.filter fun i=>i != j) ρ' w'
  | none=>False
section
variable {P : Program} {N : Nat} {ops : List Oper} {p : Plan} {C I : World → Prop} {Q : Exit → Env → World → Prop} {ρH : Env}
theorem TGI.toTG : ∀ (n : Nat) (R : List Nat) (ρ : Env) (w : World),TGI P ops.toArray p C I Q n R ρ w → TG P ops.toArray p C Q n R ρ w
 | 0,R,ρ,w,h=>h
 | n + 1,R,ρ,w,h=>⟨h.1,fun j hj hw=>by
  have h2:=h.2 j hj hw
  simp only [List.getElem?_toArray] at h2 ⊢
  cases ho : ops[j]? with
  | none=>rw [ho] at h2; exact h2
  | some o=>
   rw [ho] at h2
   exact oW.mono (fun ρ' w' k=>⟨k.1,TGI.toTG n _ _ _ k.2.2⟩) h2⟩
abbrev ANI (I : World → Prop) (K : Env → World → Prop) : Env → World → Prop:=fun ρ w=>I w ∧ K ρ w
def TAI (P : Program) (ops : List Oper) (p : Plan) (C I : World → Prop) (Q : Exit → Env → World → Prop) (n : Nat) (R : List Nat) (ρ : Env) (w : World) : List Nat → Prop
 | []=>True
 | j :: r=>(match ops[j]? with
  | some o=>OW P ops.toArray o ρ w (AN (Q1 p j) C (ANI I (TGI P ops.toArray p C I Q n (R.filter fun i=>i != j))))
  | none=>False) ∧ TAI P ops p C I Q n R ρ w r
theorem TAI.nil {n : Nat} {R : List Nat} {ρ : Env} {w : World} : TAI P ops p C I Q n R ρ w []:=trivial
theorem TAI.cons {n j : Nat} {R r : List Nat} {ρ : Env} {w : World} {o : Oper} (ho : ops[j]? = some o)
  (h : OW P ops.toArray o ρ w (AN (Q1 p j) C (ANI I (TGI P ops.toArray p C I Q n (R.filter fun i=>i != j))))) (hr : TAI P ops p C I Q n R ρ w r) : TAI P ops p C I Q n R ρ w (j :: r):=by
 simp only [TAI,ho]; exact ⟨h,hr⟩
theorem TAI.get {n : Nat} {R : List Nat} {ρ : Env} {w : World} : ∀ {l : List Nat},TAI P ops p C I Q n R ρ w l → ∀ j ∈ l,match ops.toArray[j]? with
  | some o=>oW P ops.toArray o ρ w fun ρ' w'=>(Q1 p j = true → C w') ∧ I w' ∧ TGI P ops.toArray p C I Q n (R.filter fun i=>i != j) ρ' w'
  | none=>False
 | [],_,j,hj=>by cases hj
 | a :: l,h,j,hj=>by
  rcases List.mem_cons.1 hj with rfl | hj
  ·have h1:=h.1
   rw [List.getElem?_toArray]
   cases ho : ops[j]? with
   | none=>rw [ho] at h1; exact h1
   | some o=>rw [ho] at h1; exact h1.h
  ·exact TAI.get h.2 j hj
theorem TGI.fork {ρ : Env} {w : World} (n : Nat) (R av : List Nat) {R0 : List Nat} {n0 : Nat} (hn : n0 = n + 1) (hR : R0 = R) (hav : (R.filter fun j=>R.all fun i=>!waits p.M j i) = av) (hne : R ≠ [])
  (h : TAI P ops p C I Q n R ρ w av) : TGI P ops.toArray p C I Q n0 R0 ρ w:=by
 subst hn hR
 refine ⟨fun z=>absurd z hne,fun j hj hw=>h.get j ?_⟩
 rw [← hav,List.mem_filter,List.all_eq_true]
 exact ⟨hj,fun i hi=>by rw [hw i hi]; rfl⟩
theorem TGI.quietG {j : Nat} {o : Oper} {d : Nat} {v : Value} (ho : ops[j]? = some o) (hd : o.dst = some d) : ∀ (n : Nat) (R : List Nat) (ρ : Env) (w : World),I w → Quiet ops p R j o d → (R.filter fun i=>i != j).length ≤ n →
  (∀ w,I w → ∀ K,K (Z5 ρ d v) w → OW P ops.toArray o ρ w K) → TGI P ops.toArray p C I Q n (R.filter fun i=>i != j) (Z5 ρ d v) w → TGI P ops.toArray p C I Q (n + 1) R ρ w:=by
 intro n
 induction n with
 | zero=>
  intro R ρ w hI hQ hn hq h
  refine ⟨fun e=>(by rw [e] at hQ; exact absurd hQ.mem (by simp)),fun k hk hav=>?_⟩
  by_cases hkj : k = j
  ·subst hkj
   simp only [List.getElem?_toArray,ho]
   exact (hq w hI _ ⟨fun e=>(by rw [hQ.need] at e; cases e),hI,h⟩).h
  ·have : k ∈ R.filter fun i=>i != j:=List.mem_filter.2 ⟨hk,by simpa using hkj⟩
   have e0:=List.eq_nil_of_length_eq_zero (Nat.le_zero.1 hn)
   rw [e0] at this; cases this
 | succ n ih=>
  intro R ρ w hI hQ hn hq h
  refine ⟨fun e=>(by rw [e] at hQ; exact absurd hQ.mem (by simp)),fun k hk hav=>?_⟩
  by_cases hkj : k = j
  ·subst hkj
   simp only [List.getElem?_toArray,ho]
   exact (hq w hI _ ⟨fun e=>(by rw [hQ.need] at e; cases e),hI,h⟩).h
  ·have hk' : k ∈ R.filter fun i=>i != j:=List.mem_filter.2 ⟨hk,by simpa using hkj⟩
   have h2:=h.2 k hk' fun i hi=>hav i (List.mem_filter.1 hi).1
   simp only [List.getElem?_toArray] at h2 ⊢
   cases hok : ops[k]? with
   | none=>rw [hok] at h2; exact h2
   | some q=>
    rw [hok] at h2
    simp only at h2 ⊢
    obtain ⟨q1,q2,q3,q4⟩:=hQ.other k hk hkj q hok
    have hdl : ¬ d ∈ q.looksAt ops.toArray:=fun hl=>by rw [hav j hQ.mem] at q2; cases q2 hl
    refine Zac q4 (fun t ht=>Zdw (ρ:=ρ) (v:=v) (show t ≠ d from fun e=>hdl (by rw [← e]; exact ht))) (fun x w' hK=>⟨hK.1,hK.2.1,?_⟩) h2
    have hcm : Xc (Z5 ρ d v) q.dst x = Z5 (Xc ρ q.dst x) d v:=by
     cases hqd : q.dst with
     | none=>rfl
     | some t=>exact Zke fun e=>q1 (by rw [hqd,e])
    have hlo : ∀ t,t ∈ o.looksAt ops.toArray → ρ t = Xc ρ q.dst x t:=fun t ht=>by
     cases hqd : q.dst with
     | none=>rfl
     | some t'=>exact (Zdw (ρ:=ρ) (v:=x) (show t ≠ t' from fun e=>q3 t' hqd (by rw [← e]; exact ht))).symm
    have hff : (R.filter fun i=>i != k).filter (fun i=>i != j) = (R.filter fun i=>i != j).filter fun i=>i != k:=by
     rw [List.filter_filter,List.filter_filter]; congr 1; funext i; exact Bool.and_comm _ _
    refine ih _ _ w' hK.2.1 ⟨List.mem_filter.2 ⟨hQ.mem,by simpa using Ne.symm hkj⟩,fun i hi=>hQ.av i (List.mem_filter.1 hi).1,hQ.need,hQ.sel,fun i hi=>hQ.other i (List.mem_filter.1 hi).1⟩ ?_ (fun w2 hI2 K hK2=>⟨?_⟩) ?_
    ·rw [hff]
     have h3 : ((R.filter fun i=>i != j).filter fun i=>i != k).length < (R.filter fun i=>i != j).length:=List.length_filter_lt_length_iff_exists.2 ⟨k,hk',by simp⟩
     omega
    ·refine Zac (K:=fun r w3=>r = Z5 ρ d v ∧ w3 = w2) hQ.sel hlo (fun y w3 hy=>?_) (hq w2 hI2 _ ⟨rfl,rfl⟩).h
     rw [hd] at hy ⊢
     obtain ⟨e1,rfl⟩:=hy
     have e2 : y = v:=by have:=congrFun e1 d; simp only [Xc,Zkf] at this; exact this
     subst e2; exact hK2
    ·rw [hff,← hcm]; exact hK.2.2
theorem TGI.quiet {ρ : Env} {w : World} (n : Nat) (R : List Nat) (j : Nat) {o : Oper} {d : Nat} {v : Value} {R0 : List Nat} {n0 : Nat} (hn : n0 = n + 1) (hR : R0 = R) (ho : ops[j]? = some o) (hd : o.dst = some d) (hb : Zhe ops p R j = true) (hl : (R.filter fun i=>i != j).length ≤ n) (hI : I w)
  (hq : ∀ w,I w → ∀ K,K (Z5 ρ d v) w → OW P ops.toArray o ρ w K) (h : TGI P ops.toArray p C I Q n (R.filter fun i=>i != j) (Z5 ρ d v) w) : TGI P ops.toArray p C I Q n0 R0 ρ w:=by
 subst hn hR; exact TGI.quietG ho hd _ _ _ _ hI (Zi6 ho hd hb) hl hq h
theorem TGI.fin {ρ : Env} {w : World} {n : Nat} {R0 : List Nat} (hR : R0 = []) (h : Q .normal ρ w) : TGI P ops.toArray p C I Q n R0 ρ w:=by
 subst hR
 cases n with
 | zero=>exact fun _=>h
 | succ n=>exact ⟨fun _=>h,fun j hj=>by cases hj⟩
theorem GH.In.down {G G' : GH} {w : World} (h : G'.In w) (k : G.le G') : G.In w:=fun b o e=>h b o (k b o e)
end
end Go.Civ
