/- Lemmas. -/
import Derived.Test.YthgeclodflmiaaaGreatC13
import Derived.Test.YthgeclodflmiaaaGreatC17
import Derived.Test.YthgeclodflmiaaaGreatC21
import Derived.Test.YthgeclodflmiaaaGreatC26
import Derived.Test.YthgeclodflmiaaaGreatC28
import Derived.Test.YthgeclodflmiaaaGreatC29
import Derived.Test.YthgeclodflmiaaaGreatC30
import Derived.Test.YthgeclodflmiaaaGreatC31
import Derived.Test.YthgeclodflmiaaaGreatProg
import Derived.KernelRfl
import Derived.WalkKit
namespace Go.Civ
open Go.RowKit
set_option linter.unusedVariables false
def Zam (K : Nat) (l : List HRow) (tx : Int) (v : List Val) (d : Span) (k : Nat) : List HRow:=⟨v,⟨d,⟨tx,253402300800⟩⟩⟩ :: (l.take k).flatMap (Zb1 K v tx d)
section
variable {K k : Nat} {l : List HRow} {tx : Int} {v : List Val} {d : Span} {r : HRow}
theorem Zhd (h : l[k]? = some r) : Zam K l tx v d (k + 1) = Zam K l tx v d k ++ Zb1 K v tx d r:=by
 unfold Zam
 rw [List.take_add_one,h]; simp
theorem ZbM (h : l[k]? = some r) (hc : r.r.x.b ≠ 253402300800 ∨ decide (r.v.take K = v.take K) = false ∨ decide (Yr 3 [r.r.d] [d] = [r.r.d]) = true) : Zam K l tx v d (k + 1) = Zam K l tx v d k ++ [r]:=by
 rw [Zhd h]
 unfold Zb1
 rw [if_neg]
 rintro ⟨z1,z2,z3⟩
 rcases hc with hc | hc | hc
 ·exact hc z1
 ·unfold Zh8 at z2; rw [z2] at hc; cases hc
 ·exact z3 (of_decide_eq_true hc)
theorem Ziv (h : l[k]? = some r) (h1 : r.r.x.b = 253402300800) (h2 : decide (r.v.take K = v.take K) = true) (h3 : decide (Yr 3 [r.r.d] [d] = [r.r.d]) = false) :
  Zam K l tx v d (k + 1) = (Zam K l tx v d k ++ Xz r.v (Yr 3 [r.r.d] [d]) tx 253402300800) ++ [⟨r.v,⟨r.r.d,⟨r.r.x.a,tx⟩⟩⟩]:=by
 rw [Zhd h,List.append_assoc]
 unfold Zb1
 rw [if_pos ⟨h1,h2,of_decide_eq_false h3⟩]
theorem Zow (h : l.length ≤ k) : Zam K l tx v d k = Zc2 K l tx v d:=by unfold Zam Zc2; rw [List.take_of_length_le h]
theorem Zox (hg : Z5 l) (hd : ZM d = true) : (Zam K l tx v d k).length ≤ 3 * k + 1:=by
 unfold Zam
 rw [List.length_cons]
 have:=Zlt (k:=K) (v:=v) (tx:=tx) hg hd k
 omega
theorem Zqn {r : HRow} (hr : Y1 r = true) (hd : ZM d = true) : (Yr 3 [r.r.d] [d]).length ≤ 4:=by
 have h:=ZnO (kind:=3) (a:=[r.r.d]) (b:=[d])
 simpa using h
theorem Zqo {α : Type} {l : List α} {x : α} (h : l[k]? = some x) : l.set k x = l:=by
 obtain ⟨h1,h2⟩:=List.getElem?_eq_some_iff.1 h
 rw [← h2]; exact List.set_getElem_self h1
theorem Zqp {t : Table} (H : InsOk t tx v d) : t.s.key ≤ v.length:=by
 have h1:=Zbd H.row
 have h2:=Zoj (XS H.valid).1
 omega
theorem Zt8 {t : Table} (H : InsOk t tx v d) : ∀ r ∈ Zc2 K t.rows tx v d,r.v.length ≤ 1000:=fun r hr=>by
 have h:=Zff H r hr
 exact Nat.le_trans (Zbd (Qe h).1).1 (by decide)
end
end Go.Civ
set_option linter.unusedVariables false
set_option linter.unusedSimpArgs false
set_option maxRecDepth 100000
set_option maxHeartbeats 4000000
namespace Go.Civ
open Go.Proofs
theorem Zqs {G : GH} {w : World} (hG : G.In w) (x : HRow) (cx : List Value) (hcx : HRowE.rep G x cx) : CL Tryz.prog (nat_lit 59) #[.agg cx.toArray] [] w G fun _ _ r=>r = .bool (Zkr x):=by
 refine Zh ft [] Tryz.func59 rfl rfl ?_
 have hS:=St.start (X:=[]) hG
 obtain ⟨v1,rfl,hs1,hb1,hb2,hb3,hb4⟩:=Z7 hcx
 refine Z3 [v1, .int .i64 x.r.d.a, .int .i64 x.r.d.b, .int .i64 x.r.x.a, .int .i64 x.r.x.b] _ hS rfl rfl rfl (fun p1 w1 G1 hle1 hsp1 hc1 hS1=>?_)
 refine Za hS1 (XL.drop 0 hc1) ZN rfl rfl rfl ?_
 have bd1:=hs1.bound
 refine Zl (hs1.mono hle1) Yz rfl rfl <| Yh .gtr rfl .i64 (x.v.length : Int) 20 rfl rfl rfl ?_
 exact RB hS1 rfl (by rfl)
theorem Zsl {G : GH} {w : World} (hG : G.In w) (t : Table) (ct : List Value) (hct : TableE.rep G t ct) : CL Tryz.prog (nat_lit 12) #[.agg ct.toArray] [] w G fun _ _ r=>r = .bool (Zb2 t):=by
 refine Zh ft [] Tryz.func12 rfl rfl ?_
 have hS:=St.start (X:=[]) hG
 obtain ⟨v1,v2,v3,rfl,hb1,hs1,hb2,hs2,hs3,hb3⟩:=Z0 hct
 refine Z3 [Zc t.s.name,v1, .int .i64 t.s.key,v2,v3, .int .i64 t.last] _ hS rfl rfl rfl (fun p1 w1 G1 hle1 hsp1 hc1 hS1=>?_)
 refine Za hS1 (XL.drop 4 hc1) YJ rfl rfl rfl ?_
 have bd1:=hs3.bound
 refine Zl (hs3.mono hle1) Yn rfl rfl ?_
 refine QH (t.rows.length : Int) 24 rfl rfl rfl (fun h1=>?_) (fun h1=>?_)
 ·refine Za hS1 (XL.drop 1 (XL.drop 0 hc1)) Zce rfl rfl rfl ?_
  have bd2:=hs1.bound
  refine Zl (hs1.mono hle1) ZaN rfl rfl ?_
  refine QH (t.s.cols.length : Int) 10 rfl rfl rfl (fun h2=>?_) (fun h2=>?_)
  ·refine Za hS1 (XL.drop 3 (XL.drop 0 hc1)) Zhl rfl rfl rfl ?_
   have bd3:=hs2.bound
   refine Zl (hs2.mono hle1) Zdr rfl rfl ?_
   refine QH (t.s.fks.length : Int) 10 rfl rfl rfl (fun h3=>?_) (fun h3=>?_)
   ·refine Za hS1 (XL.drop 4 hc1) YJ rfl rfl rfl ?_
    refine Zn hS1 ZsJ rfl rfl rfl (ZfF hS1.imm t.rows (fun x8=>Zkr x8) _ (hs3.mono hle1) 59 #[] ⟨Zvp,fun G8 w8 v8 x8 hle8 hG8 hon8 hA8=>by obtain ⟨cs_x8,rfl,hr_x8⟩:=hA8; exact Zqs hG8 x8 cs_x8 hr_x8⟩) (fun w2 G2 hS2 hle2=>?_)
    exact RB hS2 rfl (by unfold Zb2; simp_all [Cmp.b] <;> (first | omega | (intros; omega) | (rw [Bool.eq_iff_iff]; simp <;> omega) | (rw [Bool.eq_iff_iff]; simp_all <;> omega)))
   exact RB hS1 rfl (by unfold Zb2; simp_all [Cmp.b] <;> (omega))
  exact RB hS1 rfl (by unfold Zb2; simp_all [Cmp.b] <;> (omega))
 exact RB hS1 rfl (by unfold Zb2; simp_all [Cmp.b] <;> (omega))
end Go.Civ
set_option linter.unusedVariables false
set_option linter.unusedSimpArgs false
set_option maxRecDepth 100000
set_option maxHeartbeats 4000000
namespace Go.Civ
open Go.Proofs
theorem Zd2 {G : GH} {w : World} (hG : G.In w) (l : List HRow) (at_ tx : Int) (vl : Value) (hvl : Sl HRowE 56 G vl l) (hl : l.length ≤ 2000) : CL Tryz.prog (nat_lit 70) #[vl, .int .i64 at_, .int .i64 tx] [] w G fun G' _ r=>Sl (ValE.slice 32) 24 G' r (ZJ l at_ tx):=by
 refine Zh ft [] Tryz.func70 rfl rfl ?_
 have hS:=St.start (X:=[]) hG
 have hS2:=hS.pad
 refine LP.go ft [] (fun m ρ1 w1=>∃ (k1 : Nat),∃ (v1 : Value) (o1 : OB),∃ (G1 : GH),m = l.length - k1 ∧ G.le G1 ∧ St w [] G G1 [o1] w1 ∧ Yb HRowE 56 37 G1 v1 (QW (l.take k1) at_ tx) o1 ∧ FR ρ1 [(0,vl),(1, .int .i64 at_),(2, .int .i64 tx),(7,v1),(8, .int .i64 (k1 : Int))] ∧ k1 ≤ l.length) _ ⟨0,(.slice none 0 0),none,G,rfl,(G.le_refl),hS2,(Yb.cast (Yb.nil HRowE 56 37 G) (by rfl)),⟨rfl,rfl,rfl,rfl,rfl,trivial⟩,(by omega)⟩ ?_
 rintro m ρ1 w1 ⟨k1,v1,o1,G1,rfl,hle1,hS1,hr1,hF9,f1⟩
 refine hF9.set ?_
 clear hF9
 have hhl:=ZnQ l at_ tx k1
 have bd1:=hvl.bound
 refine Zl (hvl.mono hle1) Yn rfl rfl ?_
 refine Zm (k1 : Int) (l.length : Int) rfl rfl rfl (fun h1=>?_) (fun h1=>?_)
 ·refine WL.indexAddr (hvl.mono hle1) k1 (by omega) Yn Zt rfl rfl rfl rfl (fun p1 x1 hx1 he1=>?_)
  obtain ⟨cs1,hc1,hr2⟩:=he1
  obtain ⟨v2,rfl,hs1,hb1,hb2,hb3,hb4⟩:=Z7 hr2
  refine Zd hS1 (XL.drop 1 hc1) [.int .i64 x1.r.d.a, .int .i64 x1.r.d.b, .int .i64 x1.r.x.a, .int .i64 x1.r.x.b] Zcf rfl rfl rfl rfl rfl ?_
  refine WL.alloc hS1 Zcf rfl rfl (fun b1 w2 hn1 hS3=>?_)
  refine WL.store hS3 0 _ _ _ 0 _ [.int .i64 x1.r.d.a, .int .i64 x1.r.d.b, .int .i64 x1.r.x.a, .int .i64 x1.r.x.b] [.int .i64 x1.r.d.a, .int .i64 x1.r.d.b, .int .i64 x1.r.x.a, .int .i64 x1.r.x.b] _ rfl rfl Zcf rfl (Nat.le_of_ble_eq_true rfl) rfl rfl rfl rfl rfl rfl (fun w3 hS4=>?_)
  obtain ⟨G2,hle2,hc2,hS5⟩:=hS4.shutB hn1
  refine Za hS5 (XL.drop 0 (XL.drop 0 hc2)) Zr rfl rfl rfl ?_
  refine QH x1.r.d.a at_ rfl rfl rfl (fun h2=>?_) (fun h2=>?_)
  ·refine Za hS5 (XL.drop 1 (XL.drop 0 hc2)) Zr rfl rfl rfl ?_
   refine Zm at_ x1.r.d.b rfl rfl rfl (fun h3=>?_) (fun h3=>?_)
   ·refine Za hS5 (XL.drop 0 (XL.drop 2 hc2)) Zr rfl rfl rfl ?_
    refine QH x1.r.x.a tx rfl rfl rfl (fun h4=>?_) (fun h4=>?_)
    ·refine Za hS5 (XL.drop 1 (XL.drop 2 hc2)) Zr rfl rfl rfl ?_
     refine Zm tx x1.r.x.b rfl rfl rfl (fun h5=>?_) (fun h5=>?_)
     ·refine WL.indexAddr (hvl.mono (hle1.trans hle2)) k1 (by omega) Yn Zt rfl rfl rfl rfl (fun p2 x2 hx2 he2=>?_)
      obtain rfl : x1 = x2:=Option.some.inj (hx1.symm.trans hx2)
      obtain ⟨cs2,hc3,hr3⟩:=he2
      obtain ⟨v3,rfl,hs2,hb5,hb6,hb7,hb8⟩:=Z7 hr3
      refine Zd hS5 hc3 [v3, .int .i64 x1.r.d.a, .int .i64 x1.r.d.b, .int .i64 x1.r.x.a, .int .i64 x1.r.x.b] Zt rfl rfl rfl rfl rfl ?_
      refine WL.buildSlice _ [(0,[v3, .int .i64 x1.r.d.a, .int .i64 x1.r.d.b, .int .i64 x1.r.x.a, .int .i64 x1.r.x.b])] [v3, .int .i64 x1.r.d.a, .int .i64 x1.r.d.b, .int .i64 x1.r.x.a, .int .i64 x1.r.x.b] hS5 YQ rfl rfl rfl rfl (fun z hz=>by match z,hz with | [z0,z1,z2,z3,z4],_=>rfl) (fun b2 w4 hn2 hS6=>?_)
      refine WL.push (m:=([x1] : List HRow)) YQ rfl rfl rfl (hr1.mono hle2) hS6 1 rfl 0 _ _ _ _ _ rfl ⟨[v3, .int .i64 x1.r.d.a, .int .i64 x1.r.d.b, .int .i64 x1.r.x.a, .int .i64 x1.r.x.b],_,rfl,(Ya x1 hs2 hb5 hb6 hb7 hb8),rfl⟩ rfl (by have hreach : reach = 140737488355328:=rfl; simp only [List.length_append,List.length_map,List.length_cons,List.length_nil]; omega) (by have hreach : reach = 140737488355328:=rfl; simp only [List.length_append,List.length_map,List.length_cons,List.length_nil]; omega) rfl rfl rfl (fun v4 o2 w5 hr4 hS7=>?_)
      have hS8:=hS7.tail
      refine Zj k1 (by have hreach : reach = 140737488355328:=rfl; omega) rfl rfl rfl ?_
      exact BK.mk' _ ⟨k1 + 1,v4,o2,G2,rfl,(hle1.trans hle2),hS8,(Yb.cast hr4 (by (exact (ZnP ‹_› ‹_› ‹_› ‹_› ‹_›).symm))),⟨rfl,rfl,rfl,rfl,rfl,trivial⟩,(by omega)⟩ (show l.length - (k1 + 1) < l.length - k1 by omega)
     refine Zj k1 (by have hreach : reach = 140737488355328:=rfl; omega) rfl rfl rfl ?_
     exact BK.mk' _ ⟨k1 + 1,v1,o1,G2,rfl,(hle1.trans hle2),hS5,(Yb.cast (hr1.mono hle2) (by (exact (Zei ‹_› (by omega)).symm))),⟨rfl,rfl,rfl,rfl,rfl,trivial⟩,(by omega)⟩ (show l.length - (k1 + 1) < l.length - k1 by omega)
    refine Zj k1 (by have hreach : reach = 140737488355328:=rfl; omega) rfl rfl rfl ?_
    exact BK.mk' _ ⟨k1 + 1,v1,o1,G2,rfl,(hle1.trans hle2),hS5,(Yb.cast (hr1.mono hle2) (by (exact (Zei ‹_› (by omega)).symm))),⟨rfl,rfl,rfl,rfl,rfl,trivial⟩,(by omega)⟩ (show l.length - (k1 + 1) < l.length - k1 by omega)
   refine Zj k1 (by have hreach : reach = 140737488355328:=rfl; omega) rfl rfl rfl ?_
   exact BK.mk' _ ⟨k1 + 1,v1,o1,G2,rfl,(hle1.trans hle2),hS5,(Yb.cast (hr1.mono hle2) (by (exact (Zei ‹_› (by omega)).symm))),⟨rfl,rfl,rfl,rfl,rfl,trivial⟩,(by omega)⟩ (show l.length - (k1 + 1) < l.length - k1 by omega)
  refine Zj k1 (by have hreach : reach = 140737488355328:=rfl; omega) rfl rfl rfl ?_
  exact BK.mk' _ ⟨k1 + 1,v1,o1,G2,rfl,(hle1.trans hle2),hS5,(Yb.cast (hr1.mono hle2) (by (exact (Zei ‹_› (by omega)).symm))),⟨rfl,rfl,rfl,rfl,rfl,trivial⟩,(by omega)⟩ (show l.length - (k1 + 1) < l.length - k1 by omega)
 obtain ⟨G3,hle3,hs3,hS9⟩:=Yb.freeze hr1 hS1 0 rfl
 refine Z8 hS9 Zup rfl rfl rfl (Zqr hS9.imm (QW (l.take k1) at_ tx) _ hs3 (by omega)) (fun w6 G4 r1 hpost1 hS10 hle4=>?_)
 exact RT hS10 rfl (Sl.cast hpost1 (by rw [List.take_of_length_le (by omega)]; rfl))
end Go.Civ
namespace Go.Civ
open Go.RowKit
set_option linter.unusedVariables false
section
variable {s t o : Schema} {f : Foreign} {cs : List (List UInt8)} {c nm : List UInt8} {v u : List Val} {k : Nat} {x : Col}
theorem Zo8 {a : Val} (h : cs[k]? = some c) (h1 : v[(Xf (s.cols.map Col.name) c).toNat]? = some a) : Zb4 s (cs.take (k + 1)) v = Zb4 s (cs.take k) v ++ [a]:=by
 unfold Zb4
 rw [List.take_add_one,h]; simp [Zev h1]
theorem Zq3 (cs : List (List UInt8)) (k : Nat) : (Zb4 s (cs.take k) v).length ≤ cs.length:=by unfold Zb4; rw [List.length_map]; exact List.length_take_le' _ _
theorem ZtG {k : Nat} (h : ∀ j,j < k → ∀ x,s.cols[j]? = some x → decide (x.name = nm) = false) (hx : s.cols[k]? = some x) (e : x.name = nm) : (k : Int) = Xf (s.cols.map Col.name) nm:=by
 refine (Qy (p:=fun x=>decide (x = nm)) k (l:=s.cols.map Col.name) (x:=x.name) ?_ ?_ ?_).symm
 ·rw [List.getElem?_map,hx]; rfl
 ·exact decide_eq_true e
 ·intro j hj y hy
  rw [List.getElem?_map] at hy
  obtain ⟨z,hz,rfl⟩:=Option.map_eq_some_iff.1 hy
  exact h j hj z hz
theorem ZtH {k : Nat} (h : ∀ j,j < k → ∀ x,s.cols[j]? = some x → decide (x.name = nm) = false) (hk : s.cols.length ≤ k) : (-1 : Int) = Xf (s.cols.map Col.name) nm:=by
 refine (XX (p:=fun x=>decide (x = nm)) (l:=s.cols.map Col.name) (k:=k) (fun j hj y hy=>?_) (by rw [List.length_map]; exact hk)).symm
 rw [List.getElem?_map] at hy
 obtain ⟨z,hz,rfl⟩:=Option.map_eq_some_iff.1 hy
 exact h j hj z hz
theorem Zq4 {α : Type} {p : α → Bool} {l : List α} {x : α} (h : l[k]? = some x) (hx : p x = true) : true = l.any p:=(List.any_eq_true.2 ⟨x,List.mem_of_getElem? h,hx⟩).symm
end
theorem Zgi {α : Type} {p : α → Bool} {x : α} : ∀ {l : List α} {k : Nat},(∀ j,j < k → ∀ y,l[j]? = some y → p y = false) → l[k]? = some x → p x = true → l.find? p = some x
 | [],k,_,h,_=>by cases h
 | a :: l,0,_,h,hx=>by obtain rfl:=Option.some.inj h; rw [List.find?_cons,hx]
 | a :: l,k + 1,h1,h,hx=>by
  rw [List.find?_cons,h1 0 (by omega) a rfl]
  exact Zgi (k:=k) (fun j hj y hy=>h1 (j + 1) (by omega) y (by simpa using hy)) (by simpa using h) hx
theorem Zq5 {α : Type} {p : α → Bool} {l : List α} {k : Nat} (h : ∀ j,j < k → ∀ y,l[j]? = some y → p y = false) (hk : l.length ≤ k) : l.find? p = none:=by
 rw [List.find?_eq_none]
 intro x hx
 obtain ⟨i,hi⟩:=List.getElem?_of_mem hx
 obtain ⟨hlt,_⟩:=List.getElem?_eq_some_iff.1 hi
 rw [h i (by omega) x hi]; simp
section
variable {t o : Table} {f : Foreign} {x y fr : Int} {k i j : Nat} {v : List Val}
theorem ZmJ {s : Schema} (h : Yu s = true) : s.key ≤ 8:=by
 have h1:=Zgh h
 unfold Yu XQ at h
 simp only [Bool.and_eq_true,decide_eq_true_eq] at h
 omega
abbrev gXS (t o : Table) (fr : Int) : List Int:=ZU ((fr :: t.rows.map (fun (r : HRow)=>r.r.x.a)) ++ o.rows.map (fun (r : HRow)=>r.r.x.b))
abbrev gYS (t o : Table) : List Int:=ZU ((t.rows.map (fun (r : HRow)=>r.r.d.a)) ++ o.rows.map (fun (r : HRow)=>r.r.d.b))
abbrev gM (t o : Table) (f : Foreign) : List Val → List Val → Bool:=rM t.s o.s f.cols
theorem ZtI (ht : Z5 t.rows) (ho : Z5 o.rows) (hf : Z1 fr ∧ fr ≤ 253402300800) (h : (gXS t o fr)[k]? = some x) : Z1 x ∧ x ≤ 253402300800:=by
 have h1:=Za3.1 (List.mem_of_getElem? h)
 rcases List.mem_append.1 h1 with h2 | h2
 ·rcases List.mem_cons.1 h2 with e | h2
  ·rw [e]; exact hf
  ·obtain ⟨r,hr,rfl⟩:=List.mem_map.1 h2; exact (Zc3 ht hr).2.2.1
 ·obtain ⟨r,hr,rfl⟩:=List.mem_map.1 h2; exact (Zc3 ho hr).2.2.2
theorem ZtJ (ht : Z5 t.rows) (ho : Z5 o.rows) (h : (gYS t o)[k]? = some x) : Z1 x ∧ x ≤ 253402300800:=by
 have h1:=Za3.1 (List.mem_of_getElem? h)
 rcases List.mem_append.1 h1 with h2 | h2
 ·obtain ⟨r,hr,rfl⟩:=List.mem_map.1 h2; exact (Zc3 ht hr).1
 ·obtain ⟨r,hr,rfl⟩:=List.mem_map.1 h2; exact (Zc3 ho hr).2.1
theorem Zo9 (h : x < fr ∨ 253402300800 ≤ x) : ZaI (gM t o f) o.rows t.rows fr (gYS t o) x = none:=by unfold ZaI; rw [if_pos h]
theorem ZtK (h1 : fr ≤ x) (h2 : x < 253402300800) (h : ∀ i,i < j → ∀ y,(gYS t o)[i]? = some y → ((Zan (gM t o f) o.rows t.rows x y).map fun v=>Pt.mk x y v) = none) (hj : (gYS t o).length ≤ j) : ZaI (gM t o f) o.rows t.rows fr (gYS t o) x = none:=by
 unfold ZaI; rw [if_neg (by omega)]; exact Zeq h hj
theorem Zsq (h : ∀ i,i < k → ∀ v,(ZJ t.rows y x)[i]? = some v → (!(ZJ o.rows y x).any (gM t o f v)) = false) (hk : (ZJ t.rows y x).length ≤ k) : ((Zan (gM t o f) o.rows t.rows x y).map fun v=>Pt.mk x y v) = none:=by
 have : Zan (gM t o f) o.rows t.rows x y = none:=Zq5 h hk
 rw [this]; rfl
theorem ZoA (h1 : ∀ i',i' < i → ∀ x,(gXS t o fr)[i']? = some x → ZaI (gM t o f) o.rows t.rows fr (gYS t o) x = none) (hx : (gXS t o fr)[i]? = some x) (g1 : fr ≤ x) (g2 : x < 253402300800)
  (h2 : ∀ i',i' < j → ∀ y,(gYS t o)[i']? = some y → ((Zan (gM t o f) o.rows t.rows x y).map fun v=>Pt.mk x y v) = none) (hy : (gYS t o)[j]? = some y)
  (h3 : ∀ i',i' < k → ∀ v,(ZJ t.rows y x)[i']? = some v → (!(ZJ o.rows y x).any (gM t o f v)) = false) (hv : (ZJ t.rows y x)[k]? = some v) (h4 : (ZJ o.rows y x).any (gM t o f v) = false) :
  ZH (some (Pt.mk x y v)) = ZH (YS t o f fr) ∧ true = (YS t o f fr).isSome:=by
 have hV : Zan (gM t o f) o.rows t.rows x y = some v:=Zgi h3 hv (by rw [h4]; rfl)
 have hG : ZaI (gM t o f) o.rows t.rows fr (gYS t o) x = some ⟨x,y,v⟩:=by
  unfold ZaI; rw [if_neg (by omega)]
  exact ZcP h2 hy (by rw [hV]; rfl)
 have : YS t o f fr = some ⟨x,y,v⟩:=ZcP h1 hx hG
 rw [this]; exact ⟨rfl,rfl⟩
theorem ZoB (h1 : ∀ i',i' < i → ∀ x,(gXS t o fr)[i']? = some x → ZaI (gM t o f) o.rows t.rows fr (gYS t o) x = none) (hi : (gXS t o fr).length ≤ i) :
  HRow.mk [] (Rect.mk (Span.mk 0 0) (Span.mk 0 0)) = ZH (YS t o f fr) ∧ false = (YS t o f fr).isSome:=by
 have : YS t o f fr = none:=Zeq h1 hi
 rw [this]; exact ⟨rfl,rfl⟩
theorem ZoC (hv : Zy t = true) (y x : Int) : ∀ v ∈ ZJ t.rows y x,t.s.cols.length ≤ v.length:=fun v h=>by
 rw [← Za2 (ZW hv).1,QA (ZW hv).1] at h
 obtain ⟨r,hr,rfl,_⟩:=h
 have:=(Zae hv hr).2.2.2.1
 omega
end
section
variable {M : List Val → List Val → Bool} {os fs : List Fact} {k : Nat} {x : Fact}
end
end Go.Civ
namespace Go.Civ
end Go.Civ
