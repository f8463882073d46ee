/- Lemmas. -/
import Derived.Test.YthgeclodflmiaaaGreatD03
import Derived.Test.YthgeclodflmiaaaGreatD04
import Derived.Test.YthgeclodflmiaaaGreatD12
import Derived.Test.YthgeclodflmiaaaGreatD14
import Derived.Test.YthgeclodflmiaaaGreatD15
import Derived.Test.YthgeclodflmiaaaGreatD18
set_option linter.unusedVariables false
namespace Go.Civ
open Go.Proofs Go.Shelf Go.RowKit Go.Lib Go.Sort
theorem Zmy (l : List Int) : Zc6 l = Q4 l:=rfl
set_option maxHeartbeats 1000000 in
theorem Zkm {G : GH} {w : World} (hG : G.In w) (l : List Int) (vd : Value) (od : OB) (hvd : ZS Enc.int 8 (nat_lit 3) G vd l od) (hod : XP w G od) :
  Calls Tryz.prog (nat_lit 146) #[vd] w fun e w'=>∃ r G',e = .returned r ∧ Res (QU od) w G w' G' ∧ ∃ (o' : OB),ZS Enc.int 8 (nat_lit 3) G' r (compact l) o' ∧ XP w' G' o' ∧ QU o' = QU od:=by
 rcases hvd with ⟨rfl,rfl,rfl⟩ | ⟨b,cs,cap,xs,rfl,rfl,h3,h4,h5,h6,h7,h8,h9⟩
 ·exact (Any.slices_Compact_int_empty Tryz.laysCompact none 0 w).mono fun e w' ⟨he,hw⟩=>by
   subst hw
   exact ⟨_,G,he,Res.refl hG,none, .inl ⟨rfl,rfl,rfl⟩,fun p hp=>(by cases hp),rfl⟩
 ·obtain ⟨hb1,hb2⟩:=hod _ rfl
  obtain ⟨rfl,hI⟩:=Zds l xs h6
  have hE : Enc.int.n = 1:=rfl
  rw [hE,Nat.mul_one] at h5 h7
  have hcell : ∀ t,t < l.length → cs[t]? = some (.int .i64 l[t]!):=fun t ht=>by
   have:=congrArg (·[t]?) h7
   simp only [List.getElem?_take,if_pos ht,List.getElem?_map] at this
   rw [this,List.getElem?_eq_getElem ht,getElem!_pos l t ht]; rfl
  have hH : Holds (Value.int .i64) w b 0 l.toArray:=fun t ht=>by
   have ht' : t < l.length:=by simpa using ht
   refine ⟨?_,?_⟩
   ·rw [Nat.zero_add]
    simp only [World.cell?,hb1,Zbb]
    have:=hcell t ht'
    rw [getElem!_pos l t ht'] at this
    rw [getElem!_pos l.toArray t ht]
    simpa using this
   ·simp [World.frozen?,hb1,Zbb]
  have hcon:=Any.slices_Compact_int Tryz.laysCompact b 0 cap l w hH (by unfold reach at h9; omega) h3
  refine hcon.mono fun e w' ⟨he,q,hw⟩=>?_
  have hlen:=Zhp l
  have hbl : b < w.heap.size:=(Array.getElem?_eq_some_iff.1 hb1).1
  obtain ⟨z,hz⟩ : ∃ z : List Int,z = compact l ++ List.replicate (l.length - (compact l).length) 0:=⟨_,rfl⟩
  have hzl : z.length = l.length:=by subst hz; simp; omega
  rw [← hz] at hw
  obtain ⟨cs',hcs'⟩ : ∃ cs' : List Value,cs' = (putCells (Value.int .i64) 0 z.toArray cs.toArray).toList:=⟨_,rfl⟩
  have hget : ∀ k,w'.heap[k]? = if b = k then some (.cells cs'.toArray (nat_lit 3) (0,0)) else w.heap[k]? :=fun k=>by
   subst hw
   have hah : (Go.Sort.ahead w q).heap = w.heap:=rfl
   simp only [putRow,mapBlock,hah]
   rw [Array.getElem?_modify]
   by_cases hkb : b = k
   ·subst hkb
    rw [if_pos rfl,if_pos rfl,hb1]
    simp [Zbb,onCells,hcs']
   ·rw [if_neg hkb,if_neg hkb]
  have hres : Res [b] w G w' G:=by
   refine ⟨?_,G.le_refl,fun _ _=>rfl,fun k o hk=>?_⟩
   ·refine ⟨by subst hw; rfl,by subst hw; rfl,by subst hw; rfl,by subst hw; exact Nat.le_add_right _ _,?_,fun k hk hkb=>?_⟩
    ·subst hw
     have hah : (Go.Sort.ahead w q).heap = w.heap:=rfl
     simp [putRow,mapBlock]
     try simp [hah]
    ·rw [hget,if_neg (by simpa [eq_comm] using hkb)]
   ·have hkb : b ≠ k:=fun e=>by subst e; simp only at hb2; rw [hb2] at hk; cases hk
    rw [hget,if_neg hkb]; exact hG k o hk
  have hI' : ∀ x ∈ compact l,Z0 x:=fun x hx=>by
   unfold compact compactUpTo at hx
   obtain ⟨j,hj,rfl⟩:=List.mem_map.1 hx
   have hj' : j < l.length:=by simpa using (List.mem_filter.1 hj).1
   rw [getElem!_pos l.toArray j (by simpa using hj')]
   exact hI _ (by simp)
  have hby : (compact l).length * 8 ≤ reach:=Nat.le_trans (Nat.mul_le_mul_right _ hlen) h8
  refine ⟨_,G,he,hres,some (b,nat_lit 3,cs'), .inr ⟨b,cs',cap,(compact l).map (Value.int .i64),rfl,rfl,Nat.le_trans hlen h3,h4,?_,Zjz _ hI',?_,hby,Nat.le_trans hlen h9⟩,fun p hp=>?_,rfl⟩
  ·subst hcs'; rw [hE]; simpa [putCells] using h5
  ·rw [hE,Nat.mul_one]
   apply List.ext_getElem?
   intro t
   rw [List.getElem?_take]
   by_cases ht : t < (compact l).length
   ·have htc : t < cs.length:=by omega
    have htz : z[t]? = (compact l)[t]? :=by rw [hz,List.getElem?_append_left ht]
    have htz' : t < z.length:=by omega
    rw [if_pos ht,hcs']
    simp only [putCells,Array.getElem?_toList,Array.getElem?_mapIdx]
    simp only [List.getElem?_toArray]
    rw [List.getElem?_eq_getElem htc,List.getElem?_map,← htz,List.getElem?_eq_getElem htz']
    simp [htz']
   ·rw [if_neg ht,List.getElem?_eq_none]
    simp; omega
  ·obtain rfl:=Option.some.inj hp
   exact ⟨by rw [hget,if_pos rfl]; rfl,hb2⟩
end Go.Civ
namespace Go.Civ
open Go.RowKit
set_option linter.unusedVariables false
theorem ZvS {x : HRow} (h : (x.v.any fun x=>!Z4 x) = true) : false = YA x:=by
 have:=ZdD h; unfold YA; rw [this]; rfl
theorem ZvT {x : HRow} (h : (x.v.any fun x=>!Z4 x) = false) (h2 : ZN x.r.d = false) : false = YA x:=by
 have:=ZdD h; unfold YA; rw [this,h2]; rfl
theorem ZvU {x : HRow} (h : (x.v.any fun x=>!Z4 x) = false) (h2 : ZN x.r.d = true) : ZN x.r.x = YA x:=by
 have:=ZdD h; unfold YA; rw [this,h2]; simp
def QD (l : List HRow) : List HRow:=if 1000 < l.length then [] else if l.all YA then (if (Yd l).length ≤ 500 then Yd l else []) else []
def Zam (l : List HRow) : Int:=if 1000 < l.length then 5 else if l.all YA then (if (Yd l).length ≤ 500 then 0 else 5) else 1
theorem Zhv {l : List HRow} (h : (l.any fun r=>!YA r) = false) : Z8 l:=fun r hr=>by
 rw [List.any_eq_false] at h; simpa using h r hr
theorem ZiH {l : List HRow} (h : (l.any fun r=>!YA r) = false) : l.all YA = true:=List.all_eq_true.2 (Zhv h)
theorem Zny {l : List HRow} (h : (l.any fun r=>!YA r) = true) : l.all YA = false:=by rw [← Bool.not_eq_true,List.all_eq_true]; rw [List.any_eq_true] at h; obtain ⟨r,hr,h1⟩:=h; intro e; rw [e r hr] at h1; cases h1
theorem Zkn {l : List HRow} (h : 1000 < (l.length : Int)) : QD l = [] ∧ Zam l = 5:=by
 refine ⟨?_,?_⟩ <;> simp only [QD,Zam,if_pos (show 1000 < l.length by omega)]
theorem Zko {l : List HRow} (h : (l.length : Int) ≤ 1000) (h2 : (l.any fun r=>!YA r) = true) : QD l = [] ∧ Zam l = 1:=by
 refine ⟨?_,?_⟩ <;> simp only [QD,Zam,if_neg (show ¬ 1000 < l.length by omega),Zny h2,Bool.false_eq_true,if_false]
theorem ZiI {l : List HRow} (h : (l.length : Int) ≤ 1000) (h2 : (l.any fun r=>!YA r) = false) (h3 : 500 < ((Yd l).length : Int)) : QD l = [] ∧ Zam l = 5:=by
 refine ⟨?_,?_⟩ <;> simp only [QD,Zam,if_neg (show ¬ 1000 < l.length by omega),ZiH h2,if_neg (show ¬ (Yd l).length ≤ 500 by omega),if_true]
theorem ZhL {l : List HRow} (h : (l.length : Int) ≤ 1000) (h2 : (l.any fun r=>!YA r) = false) (h3 : ((Yd l).length : Int) ≤ 500) : QD l = Yd l ∧ Zam l = 0:=by
 refine ⟨?_,?_⟩ <;> simp only [QD,Zam,if_neg (show ¬ 1000 < l.length by omega),ZiH h2,if_pos (show (Yd l).length ≤ 500 by omega),if_true]
theorem ZqJ {x y : HRow} (h : decide (x.v = y.v) = false) : false = decide (x = y):=(decide_eq_false fun e=>(of_decide_eq_false h) (by rw [e])).symm
theorem ZqK {x y : HRow} (h : decide (x.v = y.v) = true) : decide (x.r = y.r) = decide (x = y):=decide_eq_decide.2 ⟨fun e=>by
 have:=of_decide_eq_true h
 cases x; cases y; simp_all,fun e=>by rw [e]⟩
end Go.Civ
namespace Go.Civ
open Go.RowKit
set_option linter.unusedVariables false
def QY (t : Table) : Bool:=YB t.s && decide (-62135596801 ≤ t.last) && decide (t.last < 253402300800) && decide (t.rows.length ≤ 500)
theorem Zpl {t : Table} (h1 : YB t.s = true) (h2 : -62135596801 ≤ t.last) (h3 : t.last < 253402300800) (h4 : (t.rows.length : Int) ≤ 500) : QY t = true:=by
 unfold QY; rw [h1,decide_eq_true h2,decide_eq_true h3,decide_eq_true (show t.rows.length ≤ 500 by omega)]; rfl
theorem Zch (t : Table) : Zu t = ((QY t && t.rows.all (Xc t.s t.last)) && decide (t.rows = Yd t.rows)):=rfl
theorem Zf3 {t : Table} (h : QY t = false) : false = Zu t:=by rw [Zch,h]; rfl
theorem Zto {t : Table} (h : YB t.s = false) : QY t = false:=by unfold QY; rw [h]; rfl
theorem Ztp {t : Table} (h : t.last < -62135596801) : QY t = false:=by unfold QY; rw [decide_eq_false (show ¬ -62135596801 ≤ t.last by omega)]; simp
theorem Ztq {t : Table} (h : 253402300800 ≤ t.last) : QY t = false:=by unfold QY; rw [decide_eq_false (show ¬ t.last < 253402300800 by omega)]; simp
theorem Ztr {t : Table} (h : 500 < (t.rows.length : Int)) : QY t = false:=by unfold QY; rw [decide_eq_false (show ¬ t.rows.length ≤ 500 by omega)]; simp
theorem Zd8 {t : Table} {k : Nat} {x : HRow} (h : t.rows[k]? = some x) (hx : Xc t.s t.last x = false) : false = Zu t:=by
 rw [Zch,ZfV h hx]; simp
theorem ZqL {t : Table} (h1 : QY t = true) (h2 : t.rows.all (Xc t.s t.last) = true) : eqF (fun x y=>decide (x = y)) t.rows (Yd t.rows) = Zu t:=by
 rw [Zch,h1,h2,XE]; rfl
theorem ZvV {s : Schema} {last : Int} {x : HRow} (h : X3 s x.v ≠ 0) : Xc s last x = false:=by unfold Xc; rw [decide_eq_false h]; rfl
theorem ZvW {s : Schema} {last : Int} {x : HRow} (h : YA x = false) : Xc s last x = false:=by unfold Xc; rw [h]; simp
theorem ZvX {s : Schema} {last : Int} {x : HRow} (h : last < x.r.x.a) : Xc s last x = false:=by unfold Xc; rw [decide_eq_false (show ¬ x.r.x.a ≤ last by omega)]; simp
theorem ZvY {s : Schema} {last : Int} {x : HRow} (h : last < x.r.x.b) (h2 : x.r.x.b ≠ 253402300800) : Xc s last x = false:=by unfold Xc; rw [decide_eq_false (show ¬ x.r.x.b ≤ last by omega),decide_eq_false h2]; simp
theorem Zj0 {s : Schema} {last : Int} {x : HRow} (h1 : X3 s x.v = 0) (h2 : YA x = true) (h3 : x.r.x.a ≤ last) (h4 : x.r.x.b ≤ last ∨ x.r.x.b = 253402300800) : Xc s last x = true:=by
 unfold Xc; rw [decide_eq_true h1,h2,decide_eq_true h3]
 rcases h4 with h4 | h4
 ·rw [decide_eq_true h4]; rfl
 ·rw [decide_eq_true h4]; simp
theorem ZqM {s : Schema} {last : Int} {l : List HRow} (h : l.all (Xc s last) = true) : Z8 l ∧ ∀ r ∈ l,r.v.length ≤ 8:=by
 rw [List.all_eq_true] at h
 refine ⟨fun r hr=>?_,fun r hr=>?_⟩
 ·have:=h r hr; unfold Xc at this; simp only [Bool.and_eq_true,decide_eq_true_eq] at this; exact this.1.1.2
 ·have:=h r hr; unfold Xc at this; simp only [Bool.and_eq_true,decide_eq_true_eq] at this; exact (Zca this.1.1.1).1
theorem Zm0 {l : List HRow} (h : ∀ r ∈ l,r.v.length ≤ 8) : ∀ r ∈ l,r.v.length ≤ 1000:=fun r hr=>Nat.le_trans (h r hr) (by decide)
theorem Zf4 {t : Table} {tx : Int} {l : List HRow} (h : ((Yd l).length : Int) ≤ 500) : (⟨t.s,Yd l,tx⟩ : Table) = ZQ t tx l ∧ 0 = XT l:=by
 unfold ZQ XT; rw [if_pos (by omega),if_pos (by omega)]; exact ⟨rfl,rfl⟩
theorem ZgS {t : Table} {tx : Int} {l : List HRow} (h : 500 < ((Yd l).length : Int)) : Qs = ZQ t tx l ∧ 5 = XT l:=by
 unfold ZQ XT; rw [if_neg (by omega),if_neg (by omega)]; exact ⟨rfl,rfl⟩
theorem ZxC {t : Table} {tx : Int} (h : Y1 tx = false) : 2 = Xk t tx:=by unfold Xk; rw [h]; rfl
theorem ZxD {t : Table} {tx : Int} (h : Y1 tx = true) (h2 : tx ≤ t.last) : 6 = Xk t tx:=by unfold Xk; rw [h,if_pos rfl,if_pos h2]
theorem ZxE {t : Table} {tx : Int} (h : Y1 tx = true) (h2 : t.last < tx) : 0 = Xk t tx:=by unfold Xk; rw [h,if_pos rfl,if_neg (by omega)]
theorem Zm1 (t : Table) (tx : Int) : Z0 (Xk t tx):=by unfold Xk; split <;> (try split) <;> constructor <;> decide
theorem Zdl (a b : Int) : Qf [a,b] = or2 a b:=by
 unfold Qf or2
 by_cases ha : a = 0
 ·by_cases hb : b = 0 <;> simp [ha,hb]
 ·simp [ha]
theorem Zlf {a b : Int} (h : or2 a b = 0) : a = 0 ∧ b = 0:=by unfold or2 at h; split at h <;> omega
theorem Zm2 {t : Table} {tx : Int} (h : Xk t tx = 0) : Y1 tx = true ∧ t.last < tx:=by
 unfold Xk at h
 split at h
 ·rename_i h1; split at h <;> first | omega | exact ⟨h1,by omega⟩
 ·omega
theorem Qm {x : Int} (h : Y1 x = true) : -62135596800 ≤ x ∧ x < 253402300800:=by unfold Y1 at h; simpa using h
theorem ZgT {t : Table} {d : Span} (h : Zu t = false) : Qh t d = false:=by unfold Qh; rw [h]; rfl
theorem ZgU {t : Table} {d : Span} (h : ZN d = false) : Qh t d = false:=by unfold Qh; rw [h]; simp
theorem ZgV {t : Table} {d : Span} (h1 : Zu t = true) (h2 : ZN d = true) : Qh t d = true:=by unfold Qh; rw [h1,h2]; rfl
theorem ZiJ {t : Table} {tx : Int} {v : List Val} {d : Span} (h : Qh t d = false) : Qs = Yt t tx v d ∧ 1 = YS t tx v d:=by
 have : ZdS t tx v d = 1:=by unfold ZdS; rw [h]; rfl
 unfold Yt YS; rw [this]; exact ⟨rfl,rfl⟩
theorem Zkp {t : Table} {tx : Int} {v : List Val} {d : Span} (h : Qh t d = true) : ZdS t tx v d = or2 (X3 t.s v) (Xk t tx):=by unfold ZdS; rw [h]; rfl
theorem Zpm {t : Table} {tx : Int} {v : List Val} {d : Span} (h : Qh t d = true) (h2 : Qf [X3 t.s v,Xk t tx] ≠ 0) : Qs = Yt t tx v d ∧ Qf [X3 t.s v,Xk t tx] = YS t tx v d:=by
 rw [Zdl] at *
 unfold Yt YS; rw [Zkp h,if_neg h2,if_neg h2]; exact ⟨rfl,rfl⟩
theorem Zc7 {t : Table} {tx : Int} {v : List Val} {d : Span} (h : Qh t d = true) (h2 : Qf [X3 t.s v,Xk t tx] = 0) : ZQ t tx (Za7 t tx v d) = Yt t tx v d ∧ XT (Za7 t tx v d) = YS t tx v d:=by
 rw [Zdl] at *
 unfold Yt YS; rw [Zkp h,if_pos h2,if_pos h2]; exact ⟨rfl,rfl⟩
theorem Zgt {t : Table} {tx : Int} {v : List Val} {d : Span} (h : Zu t = true) (hd : ZN d = true) (h2 : Qf [X3 t.s v,Xk t tx] = 0) :
  Z8 (Za7 t tx v d) ∧ (∀ r ∈ Za7 t tx v d,r.v.length ≤ 1000) ∧ (Za7 t tx v d).length ≤ 501:=by
 obtain ⟨g1,g2,g3,_⟩:=ZY h
 rw [Zdl] at h2
 obtain ⟨e1,e2⟩:=Zlf h2
 obtain ⟨e3,e4⟩:=Zm2 e2
 have e5:=Qm e3
 obtain ⟨r1,r2,_,_⟩:=Zca e1
 unfold Za7
 refine ⟨fun r hr=>?_,fun r hr=>?_,by simp; omega⟩
 ·rcases List.mem_append.1 hr with hr | hr
  ·exact g1 r hr
  ·rw [List.mem_singleton.1 hr]
   unfold YA
   simp only [r2,hd,Bool.true_and]
   unfold ZN
   simp; omega
 ·rcases List.mem_append.1 hr with hr | hr
  ·exact Nat.le_trans (g3 r hr) (by decide)
  ·rw [List.mem_singleton.1 hr]; exact Nat.le_trans r1 (by decide)
def Zdd (gs : List HGrp) (at_ tx : Int) : List (List Val):=(gs.filter fun g=>Xx (ZH g.t tx) at_).map HGrp.v
theorem ZqN {gs : List HGrp} {k : Nat} {g : HGrp} {at_ tx : Int} (h : gs[k]? = some g) (hi : Xx (ZH g.t tx) at_ = true) : Zdd (gs.take (k + 1)) at_ tx = Zdd (gs.take k) at_ tx ++ [g.v]:=by
 rw [List.take_add_one,h]; unfold Zdd; simp [hi]
theorem Zts {gs : List HGrp} {k : Nat} {g : HGrp} {at_ tx : Int} (h : gs[k]? = some g) (hi : Xx (ZH g.t tx) at_ = false) : Zdd (gs.take (k + 1)) at_ tx = Zdd (gs.take k) at_ tx:=by
 rw [List.take_add_one,h]; unfold Zdd; simp [hi]
theorem ZqO (gs : List HGrp) (k : Nat) (at_ tx : Int) : (Zdd (gs.take k) at_ tx).length ≤ gs.length:=by
 unfold Zdd; rw [List.length_map]; exact Nat.le_trans (List.length_filter_le _ _) (List.length_take_le' _ _)
theorem ZxF {t : Table} {at_ tx : Int} (h : Zu t = false) : [] = YO t at_ tx:=by unfold YO; rw [h]; rfl
theorem ZxG {t : Table} {at_ tx : Int} (h : Y1 at_ = false) : [] = YO t at_ tx:=by unfold YO; rw [h]; simp
theorem ZxH {t : Table} {at_ tx : Int} (h : Y1 tx = false) : [] = YO t at_ tx:=by unfold YO; rw [h]; simp
theorem ZxI {t : Table} {at_ tx : Int} {k : Nat} (h1 : Zu t = true) (h2 : Y1 at_ = true) (h3 : Y1 tx = true) (hk : (Yx t.rows).length ≤ k) : Zdd ((Yx t.rows).take k) at_ tx = YO t at_ tx:=by
 unfold YO; rw [h1,h2,h3,List.take_of_length_le hk]; rfl
def ZbS (gs : List HGrp) (tx : Int) : List Fact:=gs.flatMap fun g=>(ZH g.t tx).map (Fact.mk g.v)
theorem Znz {gs : List HGrp} {k : Nat} {g : HGrp} {tx : Int} (h : gs[k]? = some g) : ZbS (gs.take (k + 1)) tx = ZbS (gs.take k) tx ++ (ZH g.t tx).map (Fact.mk g.v):=by
 rw [List.take_add_one,h]; simp [ZbS]
theorem Zpn {gs : List HGrp} {tx : Int} (h : ∀ g ∈ gs,g.t.length ≤ 500) : (ZbS gs tx).length ≤ gs.length * 500:=by
 induction gs with
 | nil=>simp [ZbS]
 | cons g gs ih=>
  have h1:=Nat.le_trans (Zd2 g.t tx) (h g (by simp))
  have h2:=ih fun x hx=>h x (by simp [hx])
  simp only [ZbS,List.flatMap_cons,List.length_append,List.length_cons,List.length_map] at *
  rw [Nat.add_mul]; omega
theorem Zj1 {l : List HRow} {k : Nat} {tx : Int} (hl : l.length ≤ 500) : (ZbS ((Yx l).take k) tx).length ≤ 250000:=by
 have h1:=Zpn (gs:=(Yx l).take k) (tx:=tx) fun g hg=>Nat.le_trans (ZiD g (List.mem_of_mem_take hg)) hl
 have h2:=List.length_take_le' k (Yx l)
 have h3:=@ZdU l
 exact Nat.le_trans h1 (Nat.le_trans (Nat.mul_le_mul_right 500 (show ((Yx l).take k).length ≤ 500 by omega)) (by decide))
theorem Z0g {t : Table} {tx : Int} (h : Zu t = false) : [] = atH t tx:=by unfold atH; rw [h]; rfl
theorem Z0h {t : Table} {tx : Int} (h : Y1 tx = false) : [] = atH t tx:=by unfold atH; rw [h]; simp
theorem Z0i {t : Table} {tx : Int} {k : Nat} (h1 : Zu t = true) (h3 : Y1 tx = true) (hk : (Yx t.rows).length ≤ k) : ZbS ((Yx t.rows).take k) tx = atH t tx:=by
 unfold atH; rw [h1,h3,List.take_of_length_le hk]; rfl
theorem Xi {α β : Type} {f : α → β} {l : List α} {k : Nat} {x : α} (h : l[k]? = some x) : (l.take (k + 1)).map f = (l.take k).map f ++ [f x]:=by rw [List.take_add_one,h]; simp
end Go.Civ
namespace Go.Civ
def ZO (s : Schema) : Table:=if YB s then ⟨s,[], -62135596801⟩ else Qs
def ZcQ (s : Schema) : Int:=if YB s then 0 else 1
theorem Zlg {s : Schema} (h : YB s = true) : (⟨s,[], -62135596801⟩ : Table) = ZO s ∧ 0 = ZcQ s:=by unfold ZO ZcQ; rw [h]; exact ⟨rfl,rfl⟩
theorem ZuN {s : Schema} (h : YB s = false) : Qs = ZO s ∧ 1 = ZcQ s:=by unfold ZO ZcQ; rw [h]; exact ⟨rfl,rfl⟩
end Go.Civ
namespace Go.Civ
theorem Ztt {α β : Type} {f : α → β} {l : List α} {k : Nat} (h : l.length ≤ k) : (l.take k).map f = l.map f:=by rw [List.take_of_length_le h]
end Go.Civ
namespace Go.Civ
open Go.RowKit
set_option linter.unusedVariables false
structure FnO (P : Program) {α : Type} (A : GH → Value → α → Prop) (fid : Nat) (cap : Array Value) (G : GH) (on : α → Prop) (nx : α → Option (List Val)) : Prop where
 body : Zk P fid
 call : ∀ (G' : GH) (w' : World) (v : Value) (x : α),G.le G' → G'.In w' → on x → A G' v x →
  Calls P fid ([v] ++ cap.toList).toArray w' fun e w''=>∃ r G'',e = .returned r ∧ Res [] w' G' w'' G'' ∧ ∃ r0 r1,r = .tuple #[r0,r1] ∧ Sl ValE 32 G'' r0 ((nx x).getD []) ∧ r1 = .bool (nx x).isSome
theorem FnO.up {P : Program} {α : Type} {A : GH → Value → α → Prop} {fid : Nat} {cap : Array Value} {G G' : GH} {on : α → Prop} {nx : α → Option (List Val)} (h : FnO P A fid cap G on nx) (k : G.le G') : FnO P A fid cap G' on nx:=
 ⟨h.body,fun G2 w' v x hle=>h.call G2 w' v x (k.trans hle)⟩
theorem ZcR {s : Span} (h : s.a < s.b) : Can [s]:=⟨by simp,by simpa using h⟩
def Zb6 (r d : Span) : List Span:=(if r.a < d.a then [⟨r.a,d.a⟩] else []) ++ (if d.b < r.b then [⟨d.b,r.b⟩] else [])
theorem Zpo {r d : Span} (hr : r.a < r.b) (hd : d.a < d.b) (h1 : r.a < d.b) (h2 : d.a < r.b) : Can (Zb6 r d):=by
 unfold Zb6
 by_cases c1 : r.a < d.a <;> by_cases c2 : d.b < r.b <;> simp only [c1,c2,if_true,if_false,List.nil_append,List.append_nil]
 ·exact ⟨by simp; omega,fun s hs=>by simp at hs; rcases hs with rfl | rfl <;> simp <;> omega⟩
 ·exact ZcR c1
 ·exact ZcR c2
 ·exact ⟨List.Pairwise.nil,by simp⟩
theorem Ztu {r d : Span} (hr : r.a < r.b) (hd : d.a < d.b) (h1 : r.a < d.b) (h2 : d.a < r.b) : Yh 3 [r] [d] = Zb6 r d:=by
 have h:=Zcf (kind:=3) (a:=[r]) (b:=[d]) rfl (by simpa using hr) (by simpa using hd)
 refine Can.unique h.1 (Zpo hr hd h1 h2) fun x=>?_
 rw [h.2]
 have e : Zab 3 (Xx [r] x) (Xx [d] x) = true ↔ ((r.a ≤ x ∧ x < r.b) ∧ ¬ (d.a ≤ x ∧ x < d.b)):=by
  unfold Zab Xx; simp; omega
 rw [e]
 unfold Zb6
 by_cases c1 : r.a < d.a <;> by_cases c2 : d.b < r.b <;> simp only [c1,c2,if_true,if_false,List.nil_append,List.append_nil,List.cons_append,Xp] <;> simp [cover] <;> omega
theorem Zn0 {r d : Span} (hr : ZN r = true) (hd : ZN d = true) (h1 : r.a < d.b) (h2 : d.a < r.b) : ∀ s ∈ Zb6 r d,ZN s = true:=fun s hs=>by
 unfold ZN at hr hd ⊢
 simp at hr hd ⊢
 unfold Zb6 at hs
 rcases List.mem_append.1 hs with hs | hs
 ·split at hs
  ·obtain rfl:=List.mem_singleton.1 hs; simp only; omega
  ·cases hs
 ·split at hs
  ·obtain rfl:=List.mem_singleton.1 hs; simp only; omega
  ·cases hs
theorem Zf5 (r d : Span) : (Zb6 r d).length ≤ 2:=by unfold Zb6; rw [List.length_append]; split <;> split <;> simp
theorem Zd9 {r d : Span} (hr : ZN r = true) (hd : ZN d = true) (h1 : r.a < d.b) (h2 : d.a < r.b) : Yh 3 [r] [d] = Zb6 r d:=Ztu (YG hr) (YG hd) h1 h2
theorem ZqP {r d : Span} (hr : ZN r = true) (hd : ZN d = true) (h1 : r.a < d.b) (h2 : d.a < r.b) : ZN (Zle r d) = true:=by
 unfold ZN at hr hd ⊢
 unfold Zle
 simp at hr hd ⊢
 omega
def ZxJ (nx : List Val → Option (List Val)) (l : List HRow) : Prop:=∀ r ∈ l,∀ u,nx r.v = some u → u.all Z4 = true ∧ u.length ≤ 8
structure ChgOk (t : Table) (tx : Int) (d : Span) (nx : List Val → Option (List Val)) : Prop where
 valid : Zu t = true
 span : ZN d = true
 inst : Y1 tx = true
 late : t.last < tx
 next : ZxJ nx t.rows
section
variable {t : Table} {tx : Int} {d : Span} {nx : List Val → Option (List Val)} {hl : List Val → Bool}
theorem Zas (h : Zu t = true) {r : HRow} (hr : r ∈ t.rows) : YA r = true ∧ r.v.length ≤ 8 ∧ r.r.x.a ≤ t.last ∧ r.v.length = t.s.cols.length ∧ r.v.all Z4 = true ∧ t.s.cols.length ≤ 8:=by
 rw [Zch] at h
 simp only [Bool.and_eq_true] at h
 have h1:=List.all_eq_true.1 h.1.2 r hr
 unfold Xc at h1
 simp only [Bool.and_eq_true,decide_eq_true_eq] at h1
 obtain ⟨a,b,c,_⟩:=Zca h1.1.1.1
 exact ⟨h1.1.1.2,a,h1.1.2,c,b,by omega⟩
theorem ZqQ (hc : ChgOk t tx d nx) {r : HRow} (hr : r ∈ t.rows) : (ZaN hl nx tx d r).length ≤ 4:=by
 unfold ZaN
 split
 ·rename_i h
  simp only [Bool.and_eq_true] at h
  unfold Zc0 at h
  simp only [Bool.and_eq_true,decide_eq_true_eq] at h
  have hg:=Yk (Zas hc.valid hr).1
  rw [Zd9 hg.2.1 hc.span h.1.1.2 h.1.2]
  have:=Zf5 r.r.d d
  have h2 : (Zdc (nx r.v) r.r.d d tx).length ≤ 1:=by unfold Zdc; split <;> simp
  simp only [List.length_append,ZcP,List.length_cons,List.length_nil]
  omega
 ·simp
theorem ZeB (hc : ChgOk t tx d nx) : ∀ k,(Ys hl nx tx d (t.rows.take k)).length ≤ 4 * k
 | 0=>by simp [Ys]
 | k + 1=>by
  have ih:=ZeB hc k
  cases e : t.rows[k]? with
  | none=>rw [List.take_add_one,e]; simp only [Option.toList,List.append_nil]; omega
  | some r=>
   rw [QX e,List.length_append]
   have:=ZqQ (hl:=hl) hc (List.mem_of_getElem? e)
   omega
theorem ZiK (hc : ChgOk t tx d nx) {r : HRow} (hr : r ∈ t.rows) : ∀ q ∈ ZaN hl nx tx d r,YA q = true ∧ q.v.length ≤ 1000:=by
 obtain ⟨g1,g2,g3,_⟩:=Zas hc.valid hr
 have hg:=Yk g1
 have ht:=Qm hc.inst
 have hl:=hc.late
 have mk : ∀ (v : List Val) (a b : Span),v.all Z4 = true → ZN a = true → ZN b = true → YA ⟨v,⟨a,b⟩⟩ = true:=fun v a b h1 h2 h3=>by unfold YA; simp only; rw [h1,h2,h3]; rfl
 have hx:=hg.2.2
 unfold ZN at hx
 simp at hx
 have hT : ZN ⟨tx,253402300800⟩ = true:=by unfold ZN; simp; omega
 unfold ZaN
 split
 ·rename_i h
  simp only [Bool.and_eq_true] at h
  unfold Zc0 at h
  simp only [Bool.and_eq_true,decide_eq_true_eq] at h
  rw [Zd9 hg.2.1 hc.span h.1.1.2 h.1.2]
  intro q hq
  rcases List.mem_append.1 hq with hq | hq
  ·rcases List.mem_append.1 hq with hq | hq
   ·rw [List.mem_singleton.1 hq]
    exact ⟨mk _ _ _ hg.1 hg.2.1 (by unfold ZN; simp; omega),Nat.le_trans g2 (by decide)⟩
   ·unfold X1 at hq
    obtain ⟨s,hs,rfl⟩:=List.mem_map.1 hq
    exact ⟨mk _ _ _ hg.1 (Zn0 hg.2.1 hc.span h.1.1.2 h.1.2 s hs) hT,Nat.le_trans g2 (by decide)⟩
  ·unfold Zdc at hq
   split at hq
   ·rename_i u hu
    rw [List.mem_singleton.1 hq]
    obtain ⟨u1,u2⟩:=hc.next r hr u hu
    exact ⟨mk _ _ _ u1 (ZqP hg.2.1 hc.span h.1.1.2 h.1.2) hT,Nat.le_trans u2 (by decide)⟩
   ·cases hq
 ·intro q hq
  rw [List.mem_singleton.1 hq]; exact ⟨g1,Nat.le_trans g2 (by decide)⟩
theorem Zbs (hc : ChgOk t tx d nx) : Z8 (Ys hl nx tx d t.rows) ∧ (∀ r ∈ Ys hl nx tx d t.rows,r.v.length ≤ 1000) ∧ (Ys hl nx tx d t.rows).length ≤ 2000:=by
 refine ⟨fun q hq=>?_,fun q hq=>?_,?_⟩
 ·obtain ⟨r,hr,h⟩:=List.mem_flatMap.1 hq; exact (ZiK hc hr q h).1
 ·obtain ⟨r,hr,h⟩:=List.mem_flatMap.1 hq; exact (ZiK hc hr q h).2
 ·have h1:=ZeB (hl:=hl) hc t.rows.length
  rw [List.take_length] at h1
  have:=(ZY hc.valid).2.1
  omega
end
end Go.Civ
namespace Go.Civ
theorem ZnO {L : List HRow} {q : HRow} {v : List Val} {ss : List Span} {k : Nat} {tx : Int} {nx : Option (List Val)} {r d : Span} (hk : ss.length ≤ k) (h : nx.isSome = true) :
  ((L ++ [q]) ++ X1 v (ss.take k) tx 253402300800) ++ [⟨nx.getD [],⟨⟨max r.a d.a,min r.b d.b⟩,⟨tx,253402300800⟩⟩⟩] = L ++ ([q] ++ X1 v ss tx 253402300800 ++ Zdc nx r d tx):=by
 rw [List.take_of_length_le hk]
 cases nx with
 | none=>cases h
 | some u=>simp [Zdc,Zle]
theorem ZqR {L : List HRow} {q : HRow} {v : List Val} {ss : List Span} {k : Nat} {tx : Int} {nx : Option (List Val)} {r d : Span} (hk : ss.length ≤ k) (h : nx.isSome = false) :
  (L ++ [q]) ++ X1 v (ss.take k) tx 253402300800 = L ++ ([q] ++ X1 v ss tx 253402300800 ++ Zdc nx r d tx):=by
 rw [List.take_of_length_le hk]
 cases nx with
 | none=>simp [Zdc]
 | some u=>cases h
end Go.Civ
namespace Go.Civ
end Go.Civ
namespace Go.Civ
open Go.RowKit
set_option linter.unusedVariables false
def TGI (P : Program) (ops : Array Oper) (p : Plan) (C I : World → Prop) (Q : Exit → Env → World → Prop) : Nat → List Nat → Env → World → Prop
 | 0,R,ρ,w=>R = [] → Q .normal ρ w
 | n + 1,R,ρ,w=>(R = [] → Q .normal ρ w) ∧ ∀ j ∈ R,(∀ i ∈ R,waits p.M j i = false) → match ops[j]? with
  | some o=>oW P ops o ρ w fun ρ' w'=>(QZ p j = true → C w') ∧ I w' ∧ TGI P ops p C I Q n (R.filter fun i=>i != j) ρ' w'
  | none=>False
section
variable {P : Program} {N : Nat} {ops : List Oper} {p : Plan} {C I : World → Prop} {Q : Exit → Env → World → Prop} {ρH : Env}
theorem TGI.toTG : ∀ (n : Nat) (R : List Nat) (ρ : Env) (w : World),TGI P ops.toArray p C I Q n R ρ w → TG P ops.toArray p C Q n R ρ w
 | 0,R,ρ,w,h=>h
 | n + 1,R,ρ,w,h=>⟨h.1,fun j hj hw=>by
  have h2:=h.2 j hj hw
  simp only [List.getElem?_toArray] at h2 ⊢
  cases ho : ops[j]? with
  | none=>rw [ho] at h2; exact h2
  | some o=>
   rw [ho] at h2
   exact oW.mono (fun ρ' w' k=>⟨k.1,TGI.toTG n _ _ _ k.2.2⟩) h2⟩
abbrev ANI (I : World → Prop) (K : Env → World → Prop) : Env → World → Prop:=fun ρ w=>I w ∧ K ρ w
def TAI (P : Program) (ops : List Oper) (p : Plan) (C I : World → Prop) (Q : Exit → Env → World → Prop) (n : Nat) (R : List Nat) (ρ : Env) (w : World) : List Nat → Prop
 | []=>True
 | j :: r=>(match ops[j]? with
  | some o=>OW P ops.toArray o ρ w (AN (QZ p j) C (ANI I (TGI P ops.toArray p C I Q n (R.filter fun i=>i != j))))
  | none=>False) ∧ TAI P ops p C I Q n R ρ w r
theorem TAI.nil {n : Nat} {R : List Nat} {ρ : Env} {w : World} : TAI P ops p C I Q n R ρ w []:=trivial
theorem TAI.cons {n j : Nat} {R r : List Nat} {ρ : Env} {w : World} {o : Oper} (ho : ops[j]? = some o)
  (h : OW P ops.toArray o ρ w (AN (QZ p j) C (ANI I (TGI P ops.toArray p C I Q n (R.filter fun i=>i != j))))) (hr : TAI P ops p C I Q n R ρ w r) : TAI P ops p C I Q n R ρ w (j :: r):=by
 simp only [TAI,ho]; exact ⟨h,hr⟩
theorem TAI.get {n : Nat} {R : List Nat} {ρ : Env} {w : World} : ∀ {l : List Nat},TAI P ops p C I Q n R ρ w l → ∀ j ∈ l,match ops.toArray[j]? with
  | some o=>oW P ops.toArray o ρ w fun ρ' w'=>(QZ p j = true → C w') ∧ I w' ∧ TGI P ops.toArray p C I Q n (R.filter fun i=>i != j) ρ' w'
  | none=>False
 | [],_,j,hj=>by cases hj
 | a :: l,h,j,hj=>by
  rcases List.mem_cons.1 hj with rfl | hj
  ·have h1:=h.1
   rw [List.getElem?_toArray]
   cases ho : ops[j]? with
   | none=>rw [ho] at h1; exact h1
   | some o=>rw [ho] at h1; exact h1.h
  ·exact TAI.get h.2 j hj
theorem TGI.fork {ρ : Env} {w : World} (n : Nat) (R av : List Nat) {R0 : List Nat} {n0 : Nat} (hn : n0 = n + 1) (hR : R0 = R) (hav : (R.filter fun j=>R.all fun i=>!waits p.M j i) = av) (hne : R ≠ [])
  (h : TAI P ops p C I Q n R ρ w av) : TGI P ops.toArray p C I Q n0 R0 ρ w:=by
 subst hn hR
 refine ⟨fun z=>absurd z hne,fun j hj hw=>h.get j ?_⟩
 rw [← hav,List.mem_filter,List.all_eq_true]
 exact ⟨hj,fun i hi=>by rw [hw i hi]; rfl⟩
theorem TGI.quietG {j : Nat} {o : Oper} {d : Nat} {v : Value} (ho : ops[j]? = some o) (hd : o.dst = some d) : ∀ (n : Nat) (R : List Nat) (ρ : Env) (w : World),I w → Quiet ops p R j o d → (R.filter fun i=>i != j).length ≤ n →
  (∀ w,I w → ∀ K,K (ZB ρ d v) w → OW P ops.toArray o ρ w K) → TGI P ops.toArray p C I Q n (R.filter fun i=>i != j) (ZB ρ d v) w → TGI P ops.toArray p C I Q (n + 1) R ρ w:=by
 intro n
 induction n with
 | zero=>
  intro R ρ w hI hQ hn hq h
  refine ⟨fun e=>(by rw [e] at hQ; exact absurd hQ.mem (by simp)),fun k hk hav=>?_⟩
  by_cases hkj : k = j
  ·subst hkj
   simp only [List.getElem?_toArray,ho]
   exact (hq w hI _ ⟨fun e=>(by rw [hQ.need] at e; cases e),hI,h⟩).h
  ·have : k ∈ R.filter fun i=>i != j:=List.mem_filter.2 ⟨hk,by simpa using hkj⟩
   have e0:=List.eq_nil_of_length_eq_zero (Nat.le_zero.1 hn)
   rw [e0] at this; cases this
 | succ n ih=>
  intro R ρ w hI hQ hn hq h
  refine ⟨fun e=>(by rw [e] at hQ; exact absurd hQ.mem (by simp)),fun k hk hav=>?_⟩
  by_cases hkj : k = j
  ·subst hkj
   simp only [List.getElem?_toArray,ho]
   exact (hq w hI _ ⟨fun e=>(by rw [hQ.need] at e; cases e),hI,h⟩).h
  ·have hk' : k ∈ R.filter fun i=>i != j:=List.mem_filter.2 ⟨hk,by simpa using hkj⟩
   have h2:=h.2 k hk' fun i hi=>hav i (List.mem_filter.1 hi).1
   simp only [List.getElem?_toArray] at h2 ⊢
   cases hok : ops[k]? with
   | none=>rw [hok] at h2; exact h2
   | some q=>
    rw [hok] at h2
    simp only at h2 ⊢
    obtain ⟨q1,q2,q3,q4⟩:=hQ.other k hk hkj q hok
    have hdl : ¬ d ∈ q.looksAt ops.toArray:=fun hl=>by rw [hav j hQ.mem] at q2; cases q2 hl
    refine ZaF q4 (fun t ht=>Zeb (ρ:=ρ) (v:=v) (show t ≠ d from fun e=>hdl (by rw [← e]; exact ht))) (fun x w' hK=>⟨hK.1,hK.2.1,?_⟩) h2
    have hcm : Xj (ZB ρ d v) q.dst x = ZB (Xj ρ q.dst x) d v:=by
     cases hqd : q.dst with
     | none=>rfl
     | some t=>exact Zl4 fun e=>q1 (by rw [hqd,e])
    have hlo : ∀ t,t ∈ o.looksAt ops.toArray → ρ t = Xj ρ q.dst x t:=fun t ht=>by
     cases hqd : q.dst with
     | none=>rfl
     | some t'=>exact (Zeb (ρ:=ρ) (v:=x) (show t ≠ t' from fun e=>q3 t' hqd (by rw [← e]; exact ht))).symm
    have hff : (R.filter fun i=>i != k).filter (fun i=>i != j) = (R.filter fun i=>i != j).filter fun i=>i != k:=by
     rw [List.filter_filter,List.filter_filter]; congr 1; funext i; exact Bool.and_comm _ _
    refine ih _ _ w' hK.2.1 ⟨List.mem_filter.2 ⟨hQ.mem,by simpa using Ne.symm hkj⟩,fun i hi=>hQ.av i (List.mem_filter.1 hi).1,hQ.need,hQ.sel,fun i hi=>hQ.other i (List.mem_filter.1 hi).1⟩ ?_ (fun w2 hI2 K hK2=>⟨?_⟩) ?_
    ·rw [hff]
     have h3 : ((R.filter fun i=>i != j).filter fun i=>i != k).length < (R.filter fun i=>i != j).length:=List.length_filter_lt_length_iff_exists.2 ⟨k,hk',by simp⟩
     omega
    ·refine ZaF (K:=fun r w3=>r = ZB ρ d v ∧ w3 = w2) hQ.sel hlo (fun y w3 hy=>?_) (hq w2 hI2 _ ⟨rfl,rfl⟩).h
     rw [hd] at hy ⊢
     obtain ⟨e1,rfl⟩:=hy
     have e2 : y = v:=by have:=congrFun e1 d; simp only [Xj,Zl5] at this; exact this
     subst e2; exact hK2
    ·rw [hff,← hcm]; exact hK.2.2
theorem TGI.quiet {ρ : Env} {w : World} (n : Nat) (R : List Nat) (j : Nat) {o : Oper} {d : Nat} {v : Value} {R0 : List Nat} {n0 : Nat} (hn : n0 = n + 1) (hR : R0 = R) (ho : ops[j]? = some o) (hd : o.dst = some d) (hb : Zih ops p R j = true) (hl : (R.filter fun i=>i != j).length ≤ n) (hI : I w)
  (hq : ∀ w,I w → ∀ K,K (ZB ρ d v) w → OW P ops.toArray o ρ w K) (h : TGI P ops.toArray p C I Q n (R.filter fun i=>i != j) (ZB ρ d v) w) : TGI P ops.toArray p C I Q n0 R0 ρ w:=by
 subst hn hR; exact TGI.quietG ho hd _ _ _ _ hI (ZjM ho hd hb) hl hq h
theorem TGI.fin {ρ : Env} {w : World} {n : Nat} {R0 : List Nat} (hR : R0 = []) (h : Q .normal ρ w) : TGI P ops.toArray p C I Q n R0 ρ w:=by
 subst hR
 cases n with
 | zero=>exact fun _=>h
 | succ n=>exact ⟨fun _=>h,fun j hj=>by cases hj⟩
theorem GH.In.down {G G' : GH} {w : World} (h : G'.In w) (k : G.le G') : G.In w:=fun b o e=>h b o (k b o e)
end
end Go.Civ
namespace Go.Civ
open Go.RowKit
set_option linter.unusedVariables false
theorem ZkG {α : Type} {E : Enc α} {G : GH} {y : α} {zs : List Value} (h : E.rep G y zs) : ∀ (m : Nat),XA E G (List.replicate m y) (List.replicate m zs).flatten
 | 0=>rfl
 | m + 1=>⟨zs,(List.replicate m zs).flatten,rfl,h,ZkG h m⟩
theorem Zhe {zs : List Value} (n : Nat) : (List.replicate n zs).flatten.length = n * zs.length:=by
 induction n with
 | zero=>simp
 | succ n ih=>rw [List.replicate_succ,List.flatten_cons,List.length_append,ih,Nat.add_mul]; omega
theorem ZjF {zs : List Value} (n : Nat) : (Builtin.zeroCells zs.toArray n).toList = (List.replicate n zs).flatten:=by
 show ((Array.range (n * zs.toArray.size)).map fun i=>zs.toArray[i % zs.toArray.size]!).toList = _
 rw [Array.toList_map,Array.toList_range,List.size_toArray]
 apply List.ext_getElem?
 intro i
 induction n generalizing i with
 | zero=>simp
 | succ n ih=>
  rw [List.replicate_succ,List.flatten_cons]
  by_cases h : i < zs.length
  ·rw [List.getElem?_append_left h,List.getElem?_map,List.getElem?_range (by rw [Nat.add_mul]; omega)]
   simp only [Option.map_some,Nat.mod_eq_of_lt h]
   rw [List.getElem?_eq_getElem h]
   simp [h]
  ·rw [List.getElem?_append_right (by omega),← ih (i - zs.length),List.getElem?_map,List.getElem?_map]
   have e : (i - zs.length) % zs.length = i % zs.length:=(Nat.mod_eq_sub_mod (by omega)).symm
   by_cases h2 : i < (n + 1) * zs.length
   ·rw [List.getElem?_range h2,List.getElem?_range (by rw [Nat.add_mul] at h2; omega)]
    simp only [Option.map_some,e]
   ·rw [List.getElem?_eq_none (by simp; omega),List.getElem?_eq_none (by rw [Nat.add_mul] at h2; simp; omega)]
section
variable {P : Program} {Q : Exit → Env → World → Prop} {ρ : Env} {w w0 : World} {ops : Array Oper} {rest : List Oper} {K : Env → World → Prop} {X : List Nat} {G0 G : GH} {L : Own}
variable {d : Nat} {ty : TypeId} {pos : String} {af : Array Edge} {g : Option (Nat × Bool)}
def Zvc (sz : Nat) (v v' : Value) (o : OB) (n : Nat) : Prop:=∃ b e cs len cap,o = some (b,e,cs) ∧ v = .slice (some ⟨b,0,none⟩) len cap ∧ n < len ∧ v' = .slice (some ⟨b,n * sz,none⟩) (len - n) (cap - n)
theorem ZkR {α : Type} {E : Enc α} {by_ : Nat} {t e e' : TypeId} {x lo : Operand} {v : Value} {l : List α} {o : OB} {ti : TI} (hs : ZS E by_ e' G v l o) (n : Nat) (hn : n < l.length) (hu : P.underlying t = some (.slice e)) (ht : Yi P e = some ti) (h1 : ti.size = E.n)
  (hw : Region.wanted ⟨some d, .slice t x (some lo) none none,ty,pos,af,g⟩ (Zv ops ρ) = true) (hx : ev ρ x = v) (hh : ev ρ lo = .int .i64 (n : Int))
  (k : ∀ v',Zvc E.n v v' o n → K (ZB ρ d v') w) : OW P ops ⟨some d, .slice t x (some lo) none none,ty,pos,af,g⟩ ρ w K:=by
 rcases hs with ⟨_,_,rfl⟩ | ⟨b,cs,cap,xs,rfl,rfl,h3,h4,h5,h6,h7,h8,h9⟩
 ·simp at hn
 ·have he:=ZgO hu
  have hu' : P.underlying t = some (.slice (P.elem t)):=by rw [he]; exact hu
  have run : (Instr.sliceAt t (.slice (some ⟨b,0,none⟩) l.length cap) (some (.int .i64 (n : Int))) none none).run P w = .ok (sliced (some ⟨b,0,none⟩) n l.length cap E.n) w:=by
   rw [run_sliceAt_slice w t _ _ _ _ hu',run_slice_l w t (some ⟨b,0,none⟩) l.length cap hu' .i64 (n : Int) (by omega) (by omega),he,X8 ht,h1]; rfl
  refine WL.val hw ?_ rfl (k _ ⟨b,_,cs,l.length,cap,rfl,rfl,hn,rfl⟩)
  have e1 : sliced (some ⟨b,0,none⟩) n l.length cap E.n = .slice (some ⟨b,n * E.n,none⟩) (l.length - n) (cap - n):=by
   unfold sliced
   rw [if_neg (by omega)]
   simp [Addr.add]
   try (intro h; exact h.symm)
  simp [execOp,hx,hh,run,e1,Result.andThen]
theorem ZpF (w : World) (t e e' ty : TypeId) (z : Value) (zs : List Value) (ht : P.underlying t = some (.slice e)) (hv : ∀ w,(zeroValue e).run P w = .ok z w) (hz : z.cells = zs.toArray) (h1 : ∀ v ∈ zs,v.oneCell' = true) {b o n c : Nat} (hn : 0 < n) {cs : List Value}
  (hb : w.heap[b]? = some (.cells cs.toArray e' (0,0))) (hfit : o + n * zs.length ≤ cs.length) :
  (Builtin.clear_ #[t] ty #[.slice (some ⟨b,o,none⟩) n c]).run P w = .ok (.tuple #[]) (w.setRow b (Xh cs o (List.replicate n zs).flatten).toArray):=by
 have hzc : (Builtin.zeroCells z.cells n).toList = (List.replicate n zs).flatten:=by rw [hz]; exact ZjF n
 have hst:=run_storeCells_at P b o e' (List.replicate n zs).flatten 0 cs.toArray w hb (by rw [Zhe]; simpa using hfit) (by
  intro v hv'
  obtain ⟨l,hl,hvl⟩:=List.mem_flatten.1 hv'
  rw [List.eq_of_mem_replicate hl] at hvl
  exact h1 v hvl)
 simp only [Nat.add_zero] at hst
 obtain ⟨m,rfl⟩ : ∃ m,n = m + 1:=⟨n - 1,by omega⟩
 simp [Builtin.clear_,run_underlying ht,hv,hzc,hst,Xh]
theorem ZkS {α : Type} {E : Enc α} {by_ : Nat} {t e e' : TypeId} {x : Operand} {v v' : Value} {l : List α} {o : OB} {n : Nat} {ti : TI} (hs : ZS E by_ e' G v l o) (hT : Zvc E.n v v' o n) (hS : St w0 X G0 G L w) (i : Nat) (hi : L[i]? = some o)
  (z : Value) (zs : List Value) (y : α) (hu : P.underlying t = some (.slice e)) (ht : Yi P e = some ti) (hz : ti.zero = z) (hzc : z.cells = zs.toArray) (hz1 : zs.all (·.oneCell') = true) (hy : E.rep G y zs)
  (hw : Region.wanted ⟨none, .call ⟨.builtin .clear,#[x],#[t]⟩,ty,pos,af,g⟩ (Zv ops ρ) = true) (hx : ev ρ x = v')
  (k : ∀ o' w',ZS E by_ e' G v (l.take n ++ List.replicate (l.length - n) y) o' → St w0 X G0 G (L.set i o') w' → K ρ w') : OW P ops ⟨none, .call ⟨.builtin .clear,#[x],#[t]⟩,ty,pos,af,g⟩ ρ w K:=by
 obtain ⟨b,e2,cs,len,cap,rfl,rfl,hlt,rfl⟩:=hT
 rcases hs with ⟨h0,_⟩ | ⟨b2,cs2,cap2,xs,h0,h00,h3,h4,h5,h6,h7,h8,h9⟩
 ·cases h0
 ·simp only [Option.some.injEq,Prod.mk.injEq] at h0
  obtain ⟨rfl,rfl,rfl⟩:=h0
  simp only [Value.slice.injEq] at h00
  obtain ⟨_,rfl,rfl⟩:=h00
  have hg:=hS.get i hi
  have hzl : zs.length = E.n:=E.len hy
  have hll : l.length * E.n ≤ cs.length:=by rw [h5]; exact Nat.mul_le_mul_right _ h3
  have hsum : n * E.n + (l.length - n) * E.n = l.length * E.n:=by rw [← Nat.add_mul]; congr 1; omega
  have hrun:=ZpF (P:=P) w t e _ ty z zs hu (fun w=>by rw [Zb1 ht,hz]) hzc (List.all_eq_true.1 hz1) (b:=b) (o:=n * E.n) (n:=l.length - n) (c:=cap - n) (by omega) hg (by rw [hzl]; omega)
  have hS':=hS.write i hi (Xh cs (n * E.n) (List.replicate (l.length - n) zs).flatten) (w':=w.setRow b (Xh cs (n * E.n) (List.replicate (l.length - n) zs).flatten).toArray) rfl rfl rfl (Nat.le_refl _) (by simp) (setRow_heap w b cs.toArray _ _ _ hg) (fun k hk=>setRow_other w b k _ hk)
  have e9 : (l.take n ++ List.replicate (l.length - n) y).length = l.length:=by simp; omega
  refine Zwy (v:= .tuple #[]) hw (by simp [execOp,resolve,invoke,builtin,hx,hrun,Result.andThen]) rfl (k _ _ (.inr ⟨b,_,cap,_,rfl,?_,?_,h4,?_,(h6.takeF n).append (ZkG hy (l.length - n)),?_,?_,?_⟩) hS')
  ·rw [e9]
  ·rw [e9]; exact h3
  ·simp only [Xh,List.length_append,List.length_take,List.length_drop,Zhe,hzl]; omega
  ·rw [e9]
   have hxl : xs.length = l.length * E.n:=h6.len
   simp only [Xh]
   have e1 : cs.take (n * E.n) = xs.take (n * E.n):=by rw [← h7,List.take_take]; congr 1; omega
   rw [List.take_append_of_le_length (by simp only [List.length_append,List.length_take,Zhe,hzl]; omega),List.take_of_length_le (by simp only [List.length_append,List.length_take,Zhe,hzl]; omega),e1]
  ·rw [e9]; exact h8
  ·rw [e9]; exact h9
end
end Go.Civ
