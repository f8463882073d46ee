/- Lemmas. -/
import Derived.Test.YthgeclodflmiaaaGreatP17
import Derived.Test.YthgeclodflmiaaaGreatP26
import Derived.Test.YthgeclodflmiaaaGreatP31
import Derived.Test.YthgeclodflmiaaaGreatP34
import Derived.Test.YthgeclodflmiaaaGreatP39
import Derived.Test.YthgeclodflmiaaaGreatProg
import Derived.KernelRfl
import Derived.WalkKit
set_option linter.unusedVariables false
set_option linter.unusedSimpArgs false
set_option maxRecDepth 100000
set_option maxHeartbeats 4000000
namespace Go.Civ
open Go.Proofs
theorem Zpm {G : GH} {w : World} (hG : G.In w) (x : HRow) (cx : List Value) (hcx : HRowE.rep G x cx) : CL Tryz.prog (nat_lit 59) #[.agg cx.toArray] [] w G fun _ _ r=>r = .bool (ZgI x):=by
 refine Zg ft [] Tryz.func59 rfl rfl ?_
 have hS:=St.start (X:=[]) hG
 obtain ⟨v1,rfl,hs1,hb1,hb2,hb3,hb4⟩:=ZK hcx
 refine Zu [v1, .int .i64 x.r.d.a, .int .i64 x.r.d.b, .int .i64 x.r.x.a, .int .i64 x.r.x.b] _ hS rfl rfl rfl (fun p1 w1 G1 hle1 hsp1 hc1 hS1=>?_)
 refine Zb hS1 (Xl.drop 0 hc1) ZG rfl rfl rfl ?_
 have bd1:=hs1.bound
 refine Zi (hs1.mono hle1) Ys rfl rfl <| ZY .gtr rfl .i64 (x.v.length : Int) 20 rfl rfl rfl ?_
 exact RB hS1 rfl (by rfl)
theorem Zfd {G : GH} {w : World} (hG : G.In w) (t : Table) (ct : List Value) (hct : TableE.rep G t ct) : CL Tryz.prog (nat_lit 12) #[.agg ct.toArray] [] w G fun _ _ r=>r = .bool (Xq t):=by
 refine Zg ft [] Tryz.func12 rfl rfl ?_
 have hS:=St.start (X:=[]) hG
 obtain ⟨v1,v2,v3,rfl,hb1,hs1,hb2,hs2,hs3,hb3⟩:=Z0 hct
 refine Zu [Zd t.s.name,v1, .int .i64 t.s.key,v2,v3, .int .i64 t.last] _ hS rfl rfl rfl (fun p1 w1 G1 hle1 hsp1 hc1 hS1=>?_)
 refine Zb hS1 (Xl.drop 4 hc1) YW rfl rfl rfl ?_
 have bd1:=hs3.bound
 refine Zi (hs3.mono hle1) YB rfl rfl ?_
 refine Zad (t.rows.length : Int) 24 rfl rfl rfl (fun h1=>?_) (fun h1=>?_)
 ·refine Zb hS1 (Xl.drop 1 (Xl.drop 0 hc1)) QM rfl rfl rfl ?_
  have bd2:=hs1.bound
  refine Zi (hs1.mono hle1) Qa rfl rfl ?_
  refine Zad (t.s.cols.length : Int) 10 rfl rfl rfl (fun h2=>?_) (fun h2=>?_)
  ·refine Zb hS1 (Xl.drop 3 (Xl.drop 0 hc1)) ZcN rfl rfl rfl ?_
   have bd3:=hs2.bound
   refine Zi (hs2.mono hle1) ZbH rfl rfl ?_
   refine Zad (t.s.fks.length : Int) 10 rfl rfl rfl (fun h3=>?_) (fun h3=>?_)
   ·refine Zb hS1 (Xl.drop 4 hc1) YW rfl rfl rfl ?_
    refine Zj hS1 Zr5 rfl rfl rfl (Zfr hS1.imm t.rows (fun x8=>ZgI x8) _ (hs3.mono hle1) 59 #[] ⟨ZtG,fun G8 w8 v8 x8 hle8 hG8 hon8 hA8=>by obtain ⟨cs_x8,rfl,hr_x8⟩:=hA8; exact Zpm hG8 x8 cs_x8 hr_x8⟩) (fun w2 G2 hS2 hle2=>?_)
    exact RB hS2 rfl (by unfold Xq; simp_all [Cmp.b] <;> (first | omega | (intros; omega) | (rw [Bool.eq_iff_iff]; simp <;> omega) | (rw [Bool.eq_iff_iff]; simp_all <;> omega)))
   exact RB hS1 rfl (by unfold Xq; simp_all [Cmp.b] <;> (omega))
  exact RB hS1 rfl (by unfold Xq; simp_all [Cmp.b] <;> (omega))
 exact RB hS1 rfl (by unfold Xq; simp_all [Cmp.b] <;> (omega))
theorem Znz {G : GH} {w : World} (hG : G.In w) (y : HRow) (cy : List Value) (hcy : HRowE.rep G y cy) : CL Tryz.prog (nat_lit 15) #[.agg cy.toArray] [] w G fun _ _ r=>r = .bool (ZaX y):=by
 refine Zg ft [] Tryz.func15 rfl rfl ?_
 have hS:=St.start (X:=[]) hG
 obtain ⟨v1,rfl,hs1,hb1,hb2,hb3,hb4⟩:=ZK hcy
 refine Zu [v1, .int .i64 y.r.d.a, .int .i64 y.r.d.b, .int .i64 y.r.x.a, .int .i64 y.r.x.b] _ hS rfl rfl rfl (fun p1 w1 G1 hle1 hsp1 hc1 hS1=>?_)
 refine Zb hS1 (Xl.drop 0 hc1) ZG rfl rfl rfl ?_
 have bd1:=hs1.bound
 refine Zi (hs1.mono hle1) Ys rfl rfl ?_
 refine YC (y.v.length : Int) 0 rfl rfl rfl (fun h1=>?_) (fun h1=>?_)
 ·refine Zc hS1 (Xl.drop 1 hc1) [.int .i64 y.r.d.a, .int .i64 y.r.d.b, .int .i64 y.r.x.a, .int .i64 y.r.x.b] ZcO rfl rfl rfl rfl rfl <| WL.build _ [] [.int .i64 0, .int .i64 0, .int .i64 0, .int .i64 0] ZcO rfl Zfy rfl rfl rfl rfl <| Zdq (ZiV y.r (Rect.mk (Span.mk 0 0) (Span.mk 0 0))) ZpP rfl rfl rfl ?_
  exact RB hS1 rfl (by unfold ZaX; simp_all [Cmp.b] <;> (first | omega | (intros; omega) | (rw [Bool.eq_iff_iff]; simp <;> omega) | (rw [Bool.eq_iff_iff]; simp_all <;> omega)))
 exact RB hS1 rfl (by unfold ZaX; simp_all [Cmp.b] <;> (first | omega | (intros; omega) | (rw [Bool.eq_iff_iff]; simp <;> omega) | (rw [Bool.eq_iff_iff]; simp_all <;> omega)))
end Go.Civ
namespace Go.Civ
open Go.RowKit
set_option linter.unusedVariables false
def YO (s : Schema) (v : List Val) : List Val:=if Yz s v = 0 then v.take s.key.toNat else []
theorem ZkH {s : Schema} {v : List Val} (h : Yz s v ≠ 0) : [] = YO s v:=by unfold YO; rw [if_neg h]
theorem ZfL {s : Schema} {v : List Val} (h : Yz s v = 0) : v.take s.key.toNat = YO s v:=by unfold YO; rw [if_pos h]
theorem Zpv {s : Schema} {v : List Val} (h : Yz s v = 0) : 1 ≤ s.key ∧ s.key ≤ v.length:=by
 have h1:=QA h
 have h2:=ZdN h1.2.2.2
 omega
def ZaZ (s : Schema) (w : List Val) (l : VV) : Nat:=(l.filter fun v=>decide (YO s v = YO s w)).length
section
variable {s : Schema} {w x : List Val} {l : VV} {k : Nat}
theorem ZjN (h : l[k]? = some x) (e : decide (YO s x = YO s w) = true) : ZaZ s w (l.take (k + 1)) = ZaZ s w (l.take k) + 1:=by
 unfold ZaZ; rw [List.take_add_one,h,List.filter_append]; simp [of_decide_eq_true e]
theorem ZkI (h : l[k]? = some x) (e : decide (YO s x = YO s w) = false) : ZaZ s w (l.take (k + 1)) = ZaZ s w (l.take k):=by
 unfold ZaZ; rw [List.take_add_one,h,List.filter_append]; simp [of_decide_eq_false e]
theorem Zpw (l : VV) (k : Nat) : ZaZ s w (l.take k) ≤ l.length:=by unfold ZaZ; exact Nat.le_trans (List.length_filter_le _ _) (List.length_take_le' _ _)
theorem Zs4 {α : Type} {l : List α} {a b : α} (ha : a ∈ l) (hb : b ∈ l) (h : a ≠ b) : 2 ≤ l.length:=by
 match l with
 | []=>cases ha
 | [c]=>rw [List.mem_singleton] at ha hb; exact absurd (ha.trans hb.symm) h
 | _ :: _ :: r=>simp
end
section
variable {t o : Table} {f : Foreign} {tx y fr : Int} {v : List Val}
theorem ZkJ (hv : Zm t = true) {a x : Int} {u : List Val} (h : Qt t.rows u a x) : Yz t.s u = 0:=by
 obtain ⟨r,hr,rfl,_⟩:=h
 exact (X4 ((Y3 hv).2.2.2.2.1 r hr)).1
theorem Zc0 (hv : Zm t = true) {a x : Int} {u : List Val} (h : Qt t.rows u a x) : YO t.s u = u.take t.s.key.toNat:=(ZfL (ZkJ hv h)).symm
theorem ZnJ (hv : Zm t = true) {a x : Int} {u : List Val} (ha : ZB a = true) (hx : ZB x = true) (h : Qt t.rows u a x) : Zct t u a x = true:=by
 unfold Zct
 rw [List.any_eq_true]
 exact ⟨u,(Qn hv ha hx).2 h,decide_eq_true rfl⟩
theorem Zpx (hv : Zm t = true) (h : YA t = false) : 2 ≤ ZaZ t.s (Z8 t).v (Zz t (Z8 t).r.d.a (Z8 t).r.x.a) ∧ Zct t (Z8 t).v (Z8 t).r.d.a (Z8 t).r.x.a = true:=by
 have hne : YX t.s.key.toNat t.rows ≠ []:=fun e=>by
  unfold YA at h
  rw [hv,ZdE e] at h; cases h
 obtain ⟨hg,_,_,hn⟩:=ZE hv
 have hm:=(Zcb (ZgA (k:=t.s.key.toNat) hg) hne).1
 obtain ⟨i1,i2⟩:=Ze8 hv hm
 have hc:=(Ze4 hg hn hm).1
 have he : Zr t = _:=Zcc hne
 generalize YN (YX t.s.key.toNat t.rows) = m at *
 obtain ⟨u,hu⟩:=Option.ne_none_iff_exists'.1 hc
 rw [hu] at he
 obtain ⟨h1,w,h2,h3,h4⟩:=Zg6 (ZdB hg _ _) hu
 have e : Z8 t = Yt (some ⟨m.tx,m.vd,u⟩):=by unfold Z8; rw [hv,he]; rfl
 rw [e]
 have p1 : Qt t.rows u m.vd m.tx:=(Zbs hg).1 h1
 have p2 : Qt t.rows w m.vd m.tx:=(Zbs hg).1 h2
 refine ⟨?_,ZnJ hv i2 i1 p1⟩
 show 2 ≤ ZaZ t.s u (Zz t m.vd m.tx)
 unfold ZaZ
 refine Zs4 (a:=u) (b:=w) ?_ ?_ (Ne.symm h3)
 ·exact List.mem_filter.2 ⟨(Qn hv i2 i1).2 p1,decide_eq_true rfl⟩
 ·exact List.mem_filter.2 ⟨(Qn hv i2 i1).2 p2,decide_eq_true (by rw [Zc0 hv p1,Zc0 hv p2]; exact h4)⟩
theorem Zs5 (h : Q2 t o f = false) (h2 : ZaX (Z5 t o f) = false) : Qq t o f = true ∧ (ZbQ t o f).isSome = true:=by
 cases e : Qq t o f with
 | false=>
  have h3:=(ZdO e).1
  rw [← h3] at h2
  exact absurd h2 (by decide)
 | true=>
  refine ⟨rfl,?_⟩
  cases e2 : ZbQ t o f with
  | none=>unfold Q2 at h; rw [e,e2] at h; cases h
  | some p=>rfl
theorem ZkK (h : Q2 t o f = false) (h2 : ZaX (Z5 t o f) = false) :
  (∀ c ∈ f.cols,0 ≤ Yy (t.s.cols.map Col.name) c) ∧ (Z5 t o f).v.length = t.s.cols.length ∧ Zct t (Z5 t o f).v (Z5 t o f).r.d.a (Z5 t o f).r.x.a = true ∧
  ((Zz o (Z5 t o f).r.d.a (Z5 t o f).r.x.a).any fun l=>decide (YO o.s l = YY t.s f.cols (Z5 t o f).v)) = false:=by
 obtain ⟨e,hs⟩:=Zs5 h h2
 obtain ⟨v1,v2,v3⟩:=Zkh e
 have hk:=Zbv v1 v2 v3
 obtain ⟨hm,hp⟩:=ZnH hk hs
 obtain ⟨i1,i2⟩:=ZfJ hk (by decide) hs
 have he : Z5 t o f = Yt (some (ZD (ZbQ t o f))):=(ZlT e hs).1.symm
 rw [he]
 generalize ZD (ZbQ t o f) = p at *
 obtain ⟨⟨hp1,hp2⟩,_⟩:=ZeF (ZE v2).1 (ZE v1).1 hm
 refine ⟨hk.cols,?_,ZnJ v1 i2 i1 hp1,?_⟩
 ·exact (QA (ZkJ v1 hp1)).2.2.1
 ·show ((Zz o p.vd p.tx).any fun l=>decide (YO o.s l = YY t.s f.cols p.v)) = false
  rw [List.any_eq_false]
  intro u hu hq
  have hu:=(Qn v2 i2 i1).1 hu
  have hq:=of_decide_eq_true hq
  rw [Zc0 v2 hu,show o.s.key.toNat = f.cols.length by have:=hk.key; simp only at this; omega] at hq
  exact hp2 u (decide_eq_true hq) hu
theorem ZjO {F : Span → List Span} : ∀ {ss : List Span},Can ss → (∀ s ∈ ss,Can (F s) ∧ ∀ x,cover (F s) x → s.a ≤ x ∧ x < s.b) → Can (ss.flatMap F)
 | [],_,_=>⟨List.Pairwise.nil,fun s hs=>by cases hs⟩
 | s :: ss,hc,h=>by
  have ih:=ZjO hc.tail fun z hz=>h z (by simp [hz])
  obtain ⟨h1,h2⟩:=h s (by simp)
  rw [List.flatMap_cons]
  refine ⟨List.pairwise_append.2 ⟨h1.apart,ih.apart,fun p hp q hq=>?_⟩,fun z hz=>?_⟩
  ·obtain ⟨s2,hs2,hq⟩:=List.mem_flatMap.1 hq
   have hp0:=h1.pos p hp
   obtain ⟨g1,g2⟩:=h s2 (by simp [hs2])
   have hq0:=g1.pos q hq
   have a1:=(h2 (p.b - 1) ⟨p,hp,by omega,by omega⟩).2
   have a2:=(g2 q.a ⟨q,hq,Int.le_refl _,hq0⟩).1
   have a3:=(List.pairwise_cons.1 hc.apart).1 s2 hs2
   omega
  ·rcases List.mem_append.1 hz with hz | hz
   ·exact h1.pos z hz
   ·exact ih.pos z hz
theorem ZlV {F : Span → List Span} {ss : List Span} {x : Int} : cover (ss.flatMap F) x ↔ ∃ s ∈ ss,cover (F s) x:=by
 unfold cover
 constructor
 ·rintro ⟨z,hz,k⟩; obtain ⟨s,hs,hz⟩:=List.mem_flatMap.1 hz; exact ⟨s,hs,z,hz,k⟩
 ·rintro ⟨s,hs,z,hz,k⟩; exact ⟨z,List.mem_flatMap.2 ⟨s,hs,hz⟩,k⟩
theorem ZdP {M : List Val → List Val → Bool} {l : List HRow} {G : List Val → List Span} {v : List Val} : ∀ {vs : VV},vs.Nodup → ZV (Qp M l tx (vs.flatMap fun u=>(G u).map (Fact.mk u))) v = if v ∈ vs then (G v).flatMap (fun s=>Yk M l v s tx) else []
 | [],_=>rfl
 | u :: vs,h=>by
  obtain ⟨h1,h2⟩:=List.nodup_cons.1 h
  have ih:=ZdP (M:=M) (l:=l) (G:=G) (v:=v) h2
  have e : Qp M l tx ((u :: vs).flatMap fun u=>(G u).map (Fact.mk u)) = (G u).flatMap (fun s=>(Yk M l u s tx).map (Fact.mk u)) ++ Qp M l tx (vs.flatMap fun u=>(G u).map (Fact.mk u)):=by
   unfold Qp
   rw [List.flatMap_cons,List.flatMap_append]
   congr 1
   rw [List.flatMap_map]
  have e2 : ∀ (ss : List Span),ZV (ss.flatMap (fun s=>(Yk M l u s tx).map (Fact.mk u))) v = if u = v then ss.flatMap (fun s=>Yk M l u s tx) else []:=by
   intro ss
   induction ss with
   | nil=>simp [ZV]
   | cons s ss ih2=>
    rw [List.flatMap_cons,Zdd,Zl7,ih2]
    by_cases q : u = v
    ·rw [if_pos q,if_pos q,if_pos q,List.flatMap_cons]
    ·rw [if_neg q,if_neg q,if_neg q]; rfl
  rw [e,Zdd,ih,e2]
  by_cases q : u = v
  ·subst q
   rw [if_pos rfl,if_neg h1,List.append_nil,if_pos (by simp)]
  ·rw [if_neg q,List.nil_append]
   by_cases r : v ∈ vs
   ·rw [if_pos r,if_pos (by simp [r])]
   ·rw [if_neg r,if_neg (by simp [r,Ne.symm q])]
theorem ZhY (h1 : Zm t = true) (h2 : Zm o = true) (h3 : YP t.s o.s f = true) (hx : ZB tx = true) (hy : ZB y = true) (hv : v ∈ Zz t y tx) :
  Can (ZV (ZW t o f tx) v) ∧ (∀ s ∈ ZV (ZW t o f tx) v,YM s = true) ∧ Y0 (ZV (ZW t o f tx) v) y = !((Zz o y tx).any fun u=>decide (YO o.s u = YY t.s f.cols v)):=by
 have hk:=Zbv h1 h2 h3
 have hgo:=(ZE h2).1
 have hgt:=(ZE h1).1
 have e : ZW t o f tx = Qp (XY t.s f.cols) o.rows tx (QI t.rows tx):=by
  unfold ZW
  rw [Zbw h1 h2 h3,hx,Bool.and_self,if_pos rfl]
  congr 1
  unfold X1; rw [h1,hx]; rfl
 have ef : QI t.rows tx = (YZ t.rows).flatMap fun u=>(Z1 (YI t.rows u) tx).map (Fact.mk u):=by
  unfold QI ZT; rw [List.flatMap_map]
 have hm : v ∈ YZ t.rows:=by
  obtain ⟨r,hr,e,_⟩:=(Qn h1 hy hx).1 hv
  exact Qk.2 ⟨r,hr,e⟩
 have et : ZV (ZW t o f tx) v = (Z1 (YI t.rows v) tx).flatMap (fun s=>Yk (XY t.s f.cols) o.rows v s tx):=by
  rw [e,ef,ZdP (Qj t.rows).nodup,if_pos hm]
 rw [et]
 have hcan:=QC (hgt.of v) tx
 have hL : ∀ s ∈ Z1 (YI t.rows v) tx,Can (Yk (XY t.s f.cols) o.rows v s tx) ∧ ∀ x,cover (Yk (XY t.s f.cols) o.rows v s tx) x → s.a ≤ x ∧ x < s.b:=fun s hs=>by
  have I:=Za4 (M:=XY t.s f.cols) (v:=v) (tx:=tx) hgo (hcan.pos s hs)
  exact ⟨I.1,fun x k=>((I.2 x).1 k).1⟩
 have hC:=ZjO hcan hL
 refine ⟨hC,fun z hz=>?_,?_⟩
 ·obtain ⟨s,hs,hz⟩:=List.mem_flatMap.1 hz
  have hsg:=Zb3 (hgt.of v) tx s hs
  have hp:=(hL s hs).1.pos z hz
  have a1:=(hL s hs).2 z.a ⟨z,hz,Int.le_refl _,hp⟩
  have a2:=(hL s hs).2 (z.b - 1) ⟨z,hz,by omega,by omega⟩
  refine Zbm ?_
  unfold ZC at hsg ⊢
  simp at hsg ⊢
  omega
 ·rw [Bool.eq_iff_iff,XL,ZlV,Bool.not_eq_true',List.any_eq_false]
  have hp:=(Qn h1 hy hx).1 hv
  have ky : o.s.key.toNat = f.cols.length:=by have:=hk.key; simp only at this; omega
  constructor
  ·rintro ⟨s,hs,k⟩ u hu hq
   have hu:=(Qn h2 hy hx).1 hu
   have hq:=of_decide_eq_true hq
   rw [Zc0 h2 hu,ky] at hq
   have I:=((Za4 (M:=XY t.s f.cols) (v:=v) (tx:=tx) hgo (hcan.pos s hs)).2 y).1 k
   obtain ⟨r,hr,er,hh⟩:=hu
   obtain ⟨z1,z2,z3,z4⟩:=QD.1 hh
   exact I.2 ⟨r,hr,by unfold Y6; simp; exact ⟨z3,z4⟩,by rw [er]; exact decide_eq_true hq,z1,z2⟩
  ·intro hn
   obtain ⟨s,hs,k1,k2⟩:=(Za9 hgt v y tx).2 hp
   refine ⟨s,hs,((Za4 (M:=XY t.s f.cols) (v:=v) (tx:=tx) hgo (hcan.pos s hs)).2 y).2 ⟨⟨k1,k2⟩,?_⟩⟩
   rintro ⟨r,hr,q1,q2,q3,q4⟩
   unfold Y6 at q1
   simp at q1
   have hr2 : Qt o.rows r.v y tx:=⟨r,hr,rfl,QD.2 ⟨q3,q4,q1.1,q1.2⟩⟩
   refine hn r.v ((Qn h2 hy hx).2 hr2) (decide_eq_true ?_)
   rw [Zc0 h2 hr2,ky]; exact of_decide_eq_true q2
theorem ZnK (h : Zm t = true) (h2 : Zm o = true) : (ZW t o f tx).length ≤ 1250000000:=by
 unfold ZW
 split
 ·have h3:=ZdX (M:=XY t.s f.cols) (tx:=tx) (fs:=X1 t tx) (ZE h2).2.1 (Znb h tx) (X1 t tx).length
  rwa [List.take_length] at h3
 ·exact Nat.zero_le _
theorem ZhZ (hv : Zm t = true) {y x : Int} {v : List Val} (h : v ∈ Zz t y x) : t.s.cols.length ≤ v.length:=by
 unfold Zz at h
 split at h
 ·obtain ⟨r,hr,rfl,_⟩:=(Zbs (ZE hv).1).1 h
  have:=(QK hv hr).2.2.2.1
  omega
 ·cases h
theorem Q3 {a b : Bool} (h : a = !b) : (a == b) = false:=by subst h; cases b <;> rfl
theorem ZjP {α β : Type} {F : α → List β} {n : Nat} (h : ∀ x,(F x).length ≤ n) : ∀ l : List α,(l.flatMap F).length ≤ l.length * n
 | []=>by simp
 | x :: l=>by
  have h1:=h x
  have h2:=ZjP h l
  rw [List.flatMap_cons,List.length_append,List.length_cons,Nat.add_mul]; omega
theorem ZjQ (hst : t.rows.length ≤ 24) (hso : o.rows.length ≤ 24) (h1 : Zm t = true) (h2 : Zm o = true) : (ZV (ZW t o f tx) v).length ≤ 2000:=by
 unfold ZW
 split
 ·rename_i hc
  have ef : X1 t tx = (YZ t.rows).flatMap fun u=>(Z1 (YI t.rows u) tx).map (Fact.mk u):=by
   rw [Bool.and_eq_true] at hc
   unfold X1; rw [h1,hc.2]
   show QI t.rows tx = _
   unfold QI ZT; rw [List.flatMap_map]
  rw [ef,ZdP (Qj t.rows).nodup]
  split
  ·have h3:=ZjP (F:=fun s=>Yk (XY t.s f.cols) o.rows v s tx) (n:=50) (fun s=>by
    have q1:=Zez (kind:=3) (a:=[s]) (b:=XD (Qw (XY t.s f.cols) o.rows v tx))
    have q2:=Zb9 (l:=Qw (XY t.s f.cols) o.rows v tx)
    have q3:=ZfI (M:=XY t.s f.cols) o.rows v tx
    unfold Yk
    simp only [List.length_cons,List.length_nil] at q1
    omega) (Z1 (YI t.rows v) tx)
   have h4:=ZaM (YI t.rows v) tx
   have h5 : (YI t.rows v).length ≤ t.rows.length:=by unfold YI; exact List.length_filter_le _ _
   exact Nat.le_trans h3 (Nat.le_trans (Nat.mul_le_mul_right 50 (show (Z1 (YI t.rows v) tx).length ≤ 24 by omega)) (by decide))
  ·exact Nat.zero_le _
 ·exact Nat.zero_le _
theorem X0 (h1 : Zm t = true) (h2 : Zm o = true) (h3 : YP t.s o.s f = true) (hx : ZB tx = true) (hc : Q2 t o f = true) : ¬ 0 < (((ZW t o f tx).length : Nat) : Int):=by
 intro hpos
 have hgo:=(ZE h2).1
 have hgt:=(ZE h1).1
 have hb:=X3 hx
 have e : ZW t o f tx = Qp (XY t.s f.cols) o.rows tx (QI t.rows tx):=by
  unfold ZW
  rw [Zbw h1 h2 h3,hx,Bool.and_self,if_pos rfl]
  congr 1
  unfold X1; rw [h1,hx]; rfl
 have hne : ZW t o f tx ≠ []:=fun q=>by rw [q] at hpos; simp at hpos
 obtain ⟨g,hg⟩:=List.exists_mem_of_ne_nil _ hne
 rw [e] at hg
 obtain ⟨fa,hfa,hg⟩:=List.mem_flatMap.1 hg
 obtain ⟨s,hs,rfl⟩:=List.mem_map.1 hg
 have hfp:=Zn1 hgt fa hfa
 have I:=Za4 (M:=XY t.s f.cols) (v:=fa.v) (tx:=tx) hgo hfp
 have hsp:=I.1.pos s hs
 obtain ⟨k1,k2⟩:=(I.2 s.a).1 ⟨s,hs,Int.le_refl _,hsp⟩
 have hp : Qt t.rows fa.v s.a tx:=by
  obtain ⟨gr,hgr,hfa⟩:=List.mem_flatMap.1 hfa
  obtain ⟨z,hz,rfl⟩:=List.mem_map.1 hfa
  unfold ZT at hgr
  obtain ⟨u,hu,rfl⟩:=List.mem_map.1 hgr
  exact (Za9 hgt u s.a tx).1 ⟨z,hz,k1.1,k1.2⟩
 have hG : ZgJ (XY t.s f.cols) o.rows t.rows fa.v s.a tx:=⟨hp,fun u hu=>by
  rintro ⟨r,hr,er,hh⟩
  obtain ⟨z1,z2,z3,z4⟩:=QD.1 hh
  exact k2 ⟨r,hr,by unfold Y6; simp; exact ⟨z3,z4⟩,by rw [er]; exact hu,z1,z2⟩⟩
 obtain ⟨p,hp2,_⟩:=ZgK (fr:=-62135596800) hgo hgt hb.1 hG
 unfold Q2 at hc
 rw [Bool.and_eq_true] at hc
 have hz : ZbQ t o f = some (YN (Yg (XY t.s f.cols) o.rows t.rows (-62135596800))):=ZeG (fun q=>by rw [q] at hp2; cases hp2)
 rw [hz] at hc
 cases hc.2
end
end Go.Civ
set_option linter.unusedVariables false
set_option linter.unusedSimpArgs false
set_option maxRecDepth 100000
set_option maxHeartbeats 4000000
namespace Go.Civ
open Go.Proofs
theorem ZgO {G : GH} {w : World} (hG : G.In w) (s : Schema) (v : List Val) (cs : List Value) (hcs : SchemaE.rep G s cs) (vv : Value) (hvv : Sl ValE 32 G vv v) : CL Tryz.prog (nat_lit 25) #[.agg cs.toArray,vv] [] w G fun G' _ r=>Sl ValE 32 G' r (YO s v):=by
 refine Zg ft [] Tryz.func25 rfl rfl ?_
 have hS:=St.start (X:=[]) hG
 obtain ⟨v1,v2,rfl,hb1,hs1,hb2,hs2⟩:=YJ hcs
 refine Zu [Zd s.name,v1, .int .i64 s.key,v2] _ hS rfl rfl rfl (fun p1 w1 G1 hle1 hsp1 hc1 hS1=>?_)
 refine Zc hS1 hc1 [Zd s.name,v1, .int .i64 s.key,v2] Xg rfl rfl rfl rfl rfl ?_
 refine Zj hS1 Zoi rfl rfl rfl (ZjF hS1.imm s v _ (ZL s hb1 (hs1.mono hle1) hb2 (hs2.mono hle1)) _ (hvv.mono hle1)) (fun w2 G2 hS2 hle2=>?_)
 refine YQ (Yz s v) 0 rfl rfl rfl (fun h1=>?_) (fun h1=>?_)
 ·exact RT hS2 rfl (Sl.cast (Sl.nil ValE 32 G2) (by first | exact ZkH ‹_› | exact ZfL ‹_›))
 have hkv:=Zpv (by assumption : Yz s v = 0)
 refine Zb hS2 (Xl.drop 2 (hc1.mono hle2)) Z7 rfl rfl rfl ?_
 refine YG (hvv.mono (hle1.trans hle2)) ((s.key).toNat) (by omega) Ys Ya rfl rfl rfl (congrArg (Value.int .i64) (Int.toNat_of_nonneg (by omega)).symm) (fun v3 hs3=>?_)
 refine Z3 hS2 ZcP rfl rfl rfl (XI hS2.imm (v.take ((s.key).toNat)) _ hs3) (fun w3 G3 r1 hpost1 hS3 hle3=>?_)
 exact RT hS3 rfl (Sl.cast hpost1 (by first | exact ZkH ‹_› | exact ZfL ‹_›))
theorem Zqi {G : GH} {w : World} (hG : G.In w) (l w8k : List Val) (nm : List UInt8) (cols : List Col) (key : Int) (fks : List Foreign) (rows : List HRow) (last : Int) (vl : Value) (hvl : Sl ValE 32 G vl l) (vcl : Value) (hvcl : Sl ColE 24 G vcl cols) (vf : Value) (hvf : Sl ForeignE 40 G vf fks) (vr : Value) (hvr : Sl HRowE 56 G vr rows) (po : Addr) (hpo : Xl G po [Zd nm,vcl, .int .i64 key,vf,vr, .int .i64 last]) (vk : Value) (hvk : Sl ValE 32 G vk w8k) (pk : Addr) (hpk : Xl G pk [vk]) (hnm : nm.length ≤ reach) (hkey : Zy key) : CL Tryz.prog (nat_lit 30) #[vl, .pointer (some po), .pointer (some pk)] [] w G fun _ _ r=>r = .bool (decide (YO (Schema.mk nm cols key fks) l = w8k)):=by
 refine Zg ft [] Tryz.func30 rfl rfl ?_
 have hS:=St.start (X:=[]) hG
 refine dr [(3,true),(5,false),(6,false)] [(6, .agg #[Zd nm,vcl, .int .i64 key,vf]),(9,vk)] hS ⟨fun _ hSw=>Zc hSw (Xl.drop 0 hpo) [Zd nm,vcl, .int .i64 key,vf] Xg rfl rfl rfl rfl rfl <| nu rfl rfl,fun _ hSw=>Zb hSw hpk ZG rfl rfl rfl <| nu rfl rfl,trivial⟩ (fun w1 hS1=>?_)
 refine Z3 hS1 Zf0 rfl rfl rfl (ZgO hS1.imm (Schema.mk nm cols key fks) l _ (ZL (Schema.mk nm cols key fks) hnm hvcl hkey hvf) _ hvl) (fun w2 G1 r1 hpost1 hS2 hle1=>?_)
 refine ⟨hS2.down hS1.le hle1,?_⟩
 refine Zj hS2 ZaK rfl rfl rfl (XK hS2.imm (YO (Schema.mk nm cols key fks) l) w8k _ hpost1 _ (hvk.mono hle1)) (fun w3 G2 hS3 hle2=>?_)
 exact RB hS3 rfl (by rfl)
theorem Zqj {G : GH} {w : World} (hG : G.In w) (l w8k : List Val) (nm : List UInt8) (cols : List Col) (key : Int) (fks : List Foreign) (rows : List HRow) (last : Int) (vl : Value) (hvl : Sl ValE 32 G vl l) (vcl : Value) (hvcl : Sl ColE 24 G vcl cols) (vf : Value) (hvf : Sl ForeignE 40 G vf fks) (vr : Value) (hvr : Sl HRowE 56 G vr rows) (po : Addr) (hpo : Xl G po [Zd nm,vcl, .int .i64 key,vf,vr, .int .i64 last]) (vk : Value) (hvk : Sl ValE 32 G vk w8k) (pk : Addr) (hpk : Xl G pk [vk]) (hnm : nm.length ≤ reach) (hkey : Zy key) : CL Tryz.prog (nat_lit 38) #[vl, .pointer (some po), .pointer (some pk)] [] w G fun _ _ r=>r = .bool (decide (YO (Schema.mk nm cols key fks) l = w8k)):=by
 refine Zg ft [] Tryz.func38 rfl rfl ?_
 have hS:=St.start (X:=[]) hG
 refine dr [(3,true),(5,false),(6,false)] [(6, .agg #[Zd nm,vcl, .int .i64 key,vf]),(9,vk)] hS ⟨fun _ hSw=>Zc hSw (Xl.drop 0 hpo) [Zd nm,vcl, .int .i64 key,vf] Xg rfl rfl rfl rfl rfl <| nu rfl rfl,fun _ hSw=>Zb hSw hpk ZG rfl rfl rfl <| nu rfl rfl,trivial⟩ (fun w1 hS1=>?_)
 refine Z3 hS1 Zf0 rfl rfl rfl (ZgO hS1.imm (Schema.mk nm cols key fks) l _ (ZL (Schema.mk nm cols key fks) hnm hvcl hkey hvf) _ hvl) (fun w2 G1 r1 hpost1 hS2 hle1=>?_)
 refine ⟨hS2.down hS1.le hle1,?_⟩
 refine Zj hS2 ZaK rfl rfl rfl (XK hS2.imm (YO (Schema.mk nm cols key fks) l) w8k _ hpost1 _ (hvk.mono hle1)) (fun w3 G2 hS3 hle2=>?_)
 exact RB hS3 rfl (by rfl)
end Go.Civ
