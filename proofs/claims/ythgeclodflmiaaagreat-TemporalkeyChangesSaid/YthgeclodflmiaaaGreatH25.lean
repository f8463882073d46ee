/- Lemmas. -/
import Derived.Test.YthgeclodflmiaaaGreatH18
import Derived.Test.YthgeclodflmiaaaGreatH22
import Derived.Test.YthgeclodflmiaaaGreatH24
import Derived.Test.YthgeclodflmiaaaGreatProg
import Derived.KernelRfl
import Derived.WalkKit
namespace Go.Civ
open Go.RowKit
set_option linter.unusedVariables false
structure Pt where
 tx : Int
 vd : Int
 v : List Val
def ovB (k : Nat) (a b : HRow) : Bool:=QO (max a.r.x.a b.r.x.a) a.r.x && QO (max a.r.x.a b.r.x.a) b.r.x && QO (max a.r.d.a b.r.d.a) a.r.d && QO (max a.r.d.a b.r.d.a) b.r.d && decide (a.v.take k = b.v.take k)
def ZdX (a b : HRow) : Pt:=⟨max a.r.x.a b.r.x.a,max a.r.d.a b.r.d.a,if X4 b.v a.v < 0 then b.v else a.v⟩
def ZdH (k : Nat) (l : List HRow) (i : Nat) : List Pt:=match l[i]? with
 | some a=>((l.take i).filter (ovB k a)).map (ZdX a)
 | none=>[]
def Xs (k : Nat) (l : List HRow) : List Pt:=(List.range l.length).flatMap (ZdH k l)
def QW (k : Nat) (l : List HRow) (tx vd : Int) : Option (List Val):=ZR k (ZaC l vd tx)
def ZhP (a b c d : Int) : Prop:=a < c ∨ (a = c ∧ b < d)
theorem Zt0 {x : Int} {s : Span} : QO x s = true ↔ s.a ≤ x ∧ x < s.b:=by unfold QO; simp
theorem Zpo {k : Nat} {a b : HRow} : ovB k a b = true ↔ Q3 (max a.r.d.a b.r.d.a) (max a.r.x.a b.r.x.a) a = true ∧ Q3 (max a.r.d.a b.r.d.a) (max a.r.x.a b.r.x.a) b = true ∧ a.v.take k = b.v.take k:=by
 unfold ovB
 simp only [Bool.and_eq_true,decide_eq_true_eq,Zt0,Zdr]
 constructor
 ·rintro ⟨⟨⟨⟨h1,h2⟩,h3⟩,h4⟩,h5⟩; exact ⟨⟨h3.1,h3.2,h1.1,h1.2⟩,⟨h4.1,h4.2,h2.1,h2.2⟩,h5⟩
 ·rintro ⟨⟨h1,h2,h3,h4⟩,⟨h5,h6,h7,h8⟩,h9⟩; exact ⟨⟨⟨⟨⟨h3,h4⟩,h7,h8⟩,h1,h2⟩,h5,h6⟩,h9⟩
section
variable {k : Nat} {l : List HRow} {tx vd : Int}
theorem ZnG (hg : ZK l) (hn : l = ZS l) (vd tx : Int) : l.Pairwise fun x y=>Q3 vd tx x = true → Q3 vd tx y = true → x.v ≠ y.v:=by
 have h:=Zpn hg vd tx
 rw [← hn] at h
 have nd : (rrL l vd tx).Nodup:=by rw [h]; exact (ZeR hg vd tx).nodup
 unfold rrL Zal at nd
 unfold List.Nodup at nd
 rw [List.pairwise_map,List.pairwise_filter] at nd
 exact nd.imp fun {x y} q=>fun h1 h2=>q h1 h2
theorem Zis {p : Pt} : p ∈ Xs k l ↔ ∃ (i j : Nat) (a b : HRow),l[i]? = some a ∧ l[j]? = some b ∧ j < i ∧ ovB k a b = true ∧ p = ZdX a b:=by
 unfold Xs
 rw [List.mem_flatMap]
 constructor
 ·rintro ⟨i,hi,hp⟩
  unfold ZdH at hp
  split at hp
  ·rename_i a ha
   obtain ⟨b,hb,rfl⟩:=List.mem_map.1 hp
   obtain ⟨hb1,hb2⟩:=List.mem_filter.1 hb
   obtain ⟨j,hj⟩:=List.getElem?_of_mem hb1
   rw [List.getElem?_take] at hj
   split at hj
   ·rename_i hji; exact ⟨i,j,a,b,ha,hj,hji,hb2,rfl⟩
   ·cases hj
  ·cases hp
 ·rintro ⟨i,j,a,b,ha,hb,hji,ho,rfl⟩
  refine ⟨i,List.mem_range.2 (List.getElem?_eq_some_iff.1 ha).1,?_⟩
  unfold ZdH
  rw [ha]
  exact List.mem_map.2 ⟨b,List.mem_filter.2 ⟨List.mem_of_getElem? (by rw [List.getElem?_take,if_pos hji]; exact hb),ho⟩,rfl⟩
theorem ZfF (hg : ZK l) (hn : l = ZS l) {p : Pt} (hp : p ∈ Xs k l) : QW k l p.tx p.vd ≠ none ∧ (∃ r ∈ l,r.r.x.a = p.tx) ∧ ∃ r ∈ l,r.r.d.a = p.vd:=by
 obtain ⟨i,j,a,b,ha,hb,hji,ho,rfl⟩:=Zis.1 hp
 obtain ⟨h1,h2,h3⟩:=Zpo.1 ho
 have ma:=List.mem_of_getElem? ha
 have mb:=List.mem_of_getElem? hb
 refine ⟨fun e=>?_,?_,?_⟩
 ·obtain ⟨i1,ea⟩:=List.getElem?_eq_some_iff.1 ha
  obtain ⟨j1,eb⟩:=List.getElem?_eq_some_iff.1 hb
  have hne:=List.pairwise_iff_getElem.1 (ZnG hg hn (max a.r.d.a b.r.d.a) (max a.r.x.a b.r.x.a)) j i j1 i1 hji
  rw [ea,eb] at hne
  have hne:=hne h2 h1
  exact ZnF (ZeR hg _ _) e b.v ((Zce hg).2 ⟨b,mb,rfl,h2⟩) a.v ((Zce hg).2 ⟨a,ma,rfl,h1⟩) (Ne.symm hne) h3
 ·rcases Int.le_total a.r.x.a b.r.x.a with q | q
  ·exact ⟨b,mb,by show b.r.x.a = max a.r.x.a b.r.x.a; omega⟩
  ·exact ⟨a,ma,by show a.r.x.a = max a.r.x.a b.r.x.a; omega⟩
 ·rcases Int.le_total a.r.d.a b.r.d.a with q | q
  ·exact ⟨b,mb,by show b.r.d.a = max a.r.d.a b.r.d.a; omega⟩
  ·exact ⟨a,ma,by show a.r.d.a = max a.r.d.a b.r.d.a; omega⟩
theorem Zji (hg : ZK l) {v : List Val} (h : QW k l tx vd = some v) : ∃ p ∈ Xs k l,p.tx ≤ tx ∧ p.vd ≤ vd:=by
 obtain ⟨h1,w,h2,h3,h4⟩:=ZhN (ZeR hg _ _) h
 obtain ⟨a,ma,ea,ha⟩:=(Zce hg).1 h1
 obtain ⟨b,mb,eb,hb⟩:=(Zce hg).1 h2
 have go : ∀ (x y : HRow) (i j : Nat),l[i]? = some x → l[j]? = some y → j < i → Q3 vd tx x = true → Q3 vd tx y = true → x.v.take k = y.v.take k → ∃ p ∈ Xs k l,p.tx ≤ tx ∧ p.vd ≤ vd:=by
  intro x y i j hx hy hji h5 h6 h7
  obtain ⟨a1,a2,a3,a4⟩:=Zdr.1 h5
  obtain ⟨b1,b2,b3,b4⟩:=Zdr.1 h6
  refine ⟨ZdX x y,Zis.2 ⟨i,j,x,y,hx,hy,hji,Zpo.2 ⟨Zdr.2 ?_,Zdr.2 ?_,h7⟩,rfl⟩,?_,?_⟩
  ·refine ⟨?_,?_,?_,?_⟩ <;> omega
  ·refine ⟨?_,?_,?_,?_⟩ <;> omega
  ·show max x.r.x.a y.r.x.a ≤ tx; omega
  ·show max x.r.d.a y.r.d.a ≤ vd; omega
 obtain ⟨i,hi⟩:=List.getElem?_of_mem ma
 obtain ⟨j,hj⟩:=List.getElem?_of_mem mb
 rcases Nat.lt_trichotomy j i with q | q | q
 ·exact go a b i j hi hj q ha hb (by rw [ea,eb]; exact h4.symm)
 ·subst q
  rw [hi] at hj
  obtain rfl:=Option.some.inj hj
  exact absurd (ea.symm.trans eb) (Ne.symm h3)
 ·exact go b a j i hj hi q hb ha (by rw [ea,eb]; exact h4)
theorem ZnH (hg : ZK l) {m : Pt} (hmin : ∀ q ∈ Xs k l,¬ ZhP q.tx q.vd m.tx m.vd) (h : ZhP tx vd m.tx m.vd) : QW k l tx vd = none:=by
 cases e : QW k l tx vd with
 | none=>rfl
 | some v=>
  obtain ⟨p,hp,h1,h2⟩:=Zji hg e
  refine absurd ?_ (hmin p hp)
  unfold ZhP at h ⊢
  omega
theorem Zpp (hg : ZK l) (h : Xs k l = []) (tx vd : Int) : QW k l tx vd = none:=by
 cases e : QW k l tx vd with
 | none=>rfl
 | some v=>
  obtain ⟨p,hp,_⟩:=Zji hg e
  rw [h] at hp; cases hp
end
end Go.Civ
set_option linter.unusedVariables false
set_option linter.unusedSimpArgs false
set_option maxRecDepth 100000
set_option maxHeartbeats 4000000
namespace Go.Civ
open Go.Proofs
theorem Zjp {G : GH} {w : World} (hG : G.In w) (x : HGrp) (cx : List Value) (hcx : ZbB.rep G x cx) (hgood : ZK x.t) (hl : x.t.length ≤ 2000) : CL Tryz.prog (nat_lit 128) #[.agg cx.toArray] [] w G fun G' _ r=>Sl HRowE 56 G' r (ZeD x):=by
 refine Zg ft [] Tryz.func128 rfl rfl ?_
 have hS:=St.start (X:=[]) hG
 obtain ⟨v1,v2,rfl,hs1,hs2⟩:=Zai hcx
 refine Zv [v1,v2] _ hS rfl rfl rfl (fun p1 w1 G1 hle1 hsp1 hc1 hS1=>?_)
 refine Za hS1 (Xw.drop 1 hc1) Xg rfl rfl rfl ?_
 have bd1:=hs2.bound
 refine Zj (hs2.mono hle1) Yq rfl rfl ?_
 have hS3:=hS1.pad
 refine LP.go ft [] (fun m ρ1 w1=>∃ (k1 : Nat),∃ (v3 : Value) (o1 : OB),∃ (G2 : GH),m = x.t.length - k1 ∧ G1.le G2 ∧ St w [] G G2 [o1] w1 ∧ Ye Enc.int 8 3 G2 v3 (ZbF (x.t.take k1)) o1 ∧ FR ρ1 [(1, .pointer (some p1)),(3,v3),(14,v2),(15, .int .i64 (x.t.length : Int)),(16, .int .i64 (k1 : Int))] ∧ k1 ≤ x.t.length) _ ⟨0,(.slice none 0 0),none,G1,rfl,(G1.le_refl),hS3,(Ye.nil Enc.int 8 3 G1),⟨rfl,rfl,rfl,rfl,rfl,trivial⟩,(by omega)⟩ ?_
 rintro m ρ1 w2 ⟨k1,v3,o1,G2,rfl,hle2,hS2,hr1,hF9,f1⟩
 refine hF9.set ?_
 clear hF9
 have hfl:=Zj4 x.t k1
 refine Zq (k1 : Int) (x.t.length : Int) rfl rfl rfl (fun h1=>?_) (fun h1=>?_)
 ·refine WL.indexAddr (hs2.mono (hle1.trans hle2)) k1 (by omega) Yq Zt rfl rfl rfl rfl (fun p2 x1 hx1 he1=>?_)
  obtain ⟨cs1,hc2,hr2⟩:=he1
  obtain ⟨v4,rfl,hs3,hb1,hb2,hb3,hb4⟩:=ZA hr2
  refine Zc hS2 hc2 [v4, .int .i64 x1.r.d.a, .int .i64 x1.r.d.b, .int .i64 x1.r.x.a, .int .i64 x1.r.x.b] Zt rfl rfl rfl rfl rfl ?_
  refine WL.alloc hS2 Zt rfl rfl (fun b1 w3 hn1 hS4=>?_)
  refine WL.store hS4 0 _ _ _ 0 _ [v4, .int .i64 x1.r.d.a, .int .i64 x1.r.d.b, .int .i64 x1.r.x.a, .int .i64 x1.r.x.b] [v4, .int .i64 x1.r.d.a, .int .i64 x1.r.d.b, .int .i64 x1.r.x.a, .int .i64 x1.r.x.b] _ rfl rfl Zt rfl (Nat.le_of_ble_eq_true rfl) (by simp only [List.all_cons,List.all_nil,hs3.oneC,Bool.true_and] <;> rfl) rfl rfl rfl rfl rfl (fun w4 hS5=>?_)
  obtain ⟨G3,hle3,hc3,hS6⟩:=hS5.shutB hn1
  refine Za hS6 (Xw.drop 0 (Xw.drop 2 (Xw.drop 1 hc3))) Zp rfl rfl rfl <| Za hS6 (Xw.drop 1 (Xw.drop 2 (Xw.drop 1 hc3))) Zp rfl rfl rfl ?_
  refine WL.buildSlice _ [(0,[.int .i64 x1.r.x.a]),(1,[.int .i64 x1.r.x.b])] [.int .i64 x1.r.x.a, .int .i64 x1.r.x.b] hS6 YU rfl rfl rfl rfl (fun z hz=>by match z,hz with | [z0,z1],_=>rfl) (fun b2 w5 hn2 hS7=>?_)
  refine WL.push (m:=([x1.r.x.a,x1.r.x.b] : List Int)) YU rfl rfl rfl (hr1.mono hle3) hS7 1 rfl 0 _ _ _ _ _ rfl ⟨[.int .i64 x1.r.x.a],_,rfl,⟨rfl,hb3⟩,⟨[.int .i64 x1.r.x.b],_,rfl,⟨rfl,hb4⟩,rfl⟩⟩ rfl (by have hreach : reach = 140737488355328:=rfl; simp only [List.length_cons,List.length_nil]; omega) (by have hreach : reach = 140737488355328:=rfl; simp only [List.length_cons,List.length_nil]; omega) rfl rfl rfl (fun v5 o2 w6 hr3 hS8=>?_)
  have hS9:=hS8.tail
  refine Zl k1 (by have hreach : reach = 140737488355328:=rfl; omega) rfl rfl rfl ?_
  exact BK.mk' _ ⟨k1 + 1,v5,o2,G3,rfl,(hle2.trans hle3),hS9,(Ye.cast hr3 (by (rw [Zn0 ‹_›]))),⟨rfl,rfl,rfl,rfl,rfl,trivial⟩,(by omega)⟩ (show x.t.length - (k1 + 1) < x.t.length - k1 by omega)
 refine Qf ZvK rfl rfl rfl (Ztm hS2.imm (ZbF (x.t.take k1)) _ _ hr1 (hS2.lentAt 0 rfl)) (fun w7 G4 r1 hres1 hpost1=>?_)
 have hle4:=hres1.le
 obtain ⟨rfl,l1,o3,hr4,hf1,hq1⟩:=hpost1
 have hS11:=hS2.callRow 0 rfl hres1 hr1 hr4 hf1
 refine Qf ZvL rfl rfl rfl (ZoT hS11.imm l1 _ _ hr4 (hS11.lentAt 0 rfl)) (fun w9 G5 r2 hres2 hpost2=>?_)
 have hle5:=hres2.le
 obtain ⟨o4,hr5,hf2,hq2⟩:=hpost2
 have hS13:=hS11.callRowR 0 rfl hres2 hr4 hr5 hf2 hq2
 refine WL.alloc hS13 Xg rfl rfl (fun b3 w10 hn3 hS14=>?_)
 refine WL.alloc hS14 ZmP rfl rfl (fun b4 w11 hn4 hS15=>?_)
 refine WL.alloc hS15 Zp rfl rfl (fun b5 w12 hn5 hS16=>?_)
 refine WL.store hS16 0 _ _ _ 0 _ [.int .i64 0] [.int .i64 0] _ rfl rfl Zp rfl (Nat.le_of_ble_eq_true rfl) rfl rfl rfl rfl rfl rfl (fun w13 hS17=>?_)
 have hS18:=hS17.pad
 have hcut:=Ye.cast (l':=Yo x.t) hr5 (by rw [hq1,ZqZ]; exact Zth (by omega))
 have hcl:=ZiO x.t
 have hci:=ZoI hgood
 have bd2:=hcut.bound
 refine Za3 hcut Yz rfl rfl ?_
 refine LP.go ft [] (fun m ρ1 w1=>∃ (k2 : Nat),∃ (nv : Value),∃ (nw : List Span),∃ (fr : Int),∃ (v6 : Value) (o5 : OB),∃ (G6 : GH),m = (Yo x.t).length - k2 ∧ G5.le G6 ∧ St w [] G G6 [o5,some (b5,3,[.int .i64 fr]),some (b4,71,[nv]),some (b3,26,[v6]),o4] w1 ∧ Ye HRowE 56 37 G6 v6 ((Xm x.v (ZB x.t) ((Yo x.t).take k2)).out) o5 ∧ FR ρ1 [(1, .pointer (some p1)),(6, .pointer (some ⟨b3,0,none⟩)),(7, .pointer (some ⟨b4,0,none⟩)),(8, .pointer (some ⟨b5,0,none⟩)),(9, .func (.func 178) #[] #[.pointer (some ⟨b4,0,none⟩), .pointer (some ⟨b3,0,none⟩), .pointer (some p1), .pointer (some ⟨b5,0,none⟩)]),(37,r2),(38, .int .i64 (((Yo x.t).length : Nat) : Int)),(39, .int .i64 (k2 : Int))] ∧ k2 ≤ (Yo x.t).length ∧ Sl SpanE 16 G6 nv nw ∧ nw = (Xm x.v (ZB x.t) ((Yo x.t).take k2)).now ∧ fr = (Xm x.v (ZB x.t) ((Yo x.t).take k2)).fr ∧ Zw fr) _ ⟨0, .slice none 0 0,[],0,(.slice none 0 0),none,G5,rfl,(G5.le_refl),hS18,(Ye.cast (Ye.nil HRowE 56 37 G5) (by simp [Xm])),⟨rfl,rfl,rfl,rfl,rfl,rfl,rfl,rfl,trivial⟩,(by omega),(Sl.nil SpanE 16 G5),(by simp [Xm]),(by simp [Xm]),(ZM)⟩ ?_
 rintro m ρ1 w14 ⟨k2,nv,nw,fr,v6,o5,G6,rfl,hle6,hS19,hr6,hF9,f2,f3,f4,f5,f6⟩
 refine hF9.set ?_
 clear hF9
 have hnw:=(by assumption : nw = (Xm x.v (ZB x.t) ((Yo x.t).take k2)).now)
 have hfr:=(by assumption : fr = (Xm x.v (ZB x.t) ((Yo x.t).take k2)).fr)
 have hnb:=Zh5 (g:=x) hl k2
 have hnl : nw.length ≤ 2000:=by rw [hnw]; exact hnb.2
 refine Zq (k2 : Int) (((Yo x.t).length : Nat) : Int) rfl rfl rfl (fun h2=>?_) (fun h2=>?_)
 ·refine QB (hcut.mono hle6) k2 (by omega) Yz Zp rfl rfl rfl rfl (fun p3 x2 ec1 hx2 hr7 ra1=>?_)
  obtain ⟨rfl,hb5⟩:=hr7
  refine Zm7 ra1 hS19 4 rfl _ rfl Zp rfl rfl rfl ?_
  have hc64:=hci _ (List.mem_of_getElem? (by assumption : (Yo x.t)[k2]? = some _))
  refine Za hS19 (Xw.drop 1 (hc1.mono (((hle2.trans hle4).trans hle5).trans hle6))) Xg rfl rfl rfl ?_
  refine Z6 hS19 Zq3 rfl rfl rfl (ZgG hS19.imm x.t x2 _ (hs2.mono ((((hle1.trans hle2).trans hle4).trans hle5).trans hle6)) hgood hl) (fun w15 G7 r3 hpost3 hS20 hle7=>?_)
  refine ZU hS20 2 _ _ _ 0 _ rfl rfl ZmP rfl rfl rfl ?_
  refine Zn hS20 Zq1 rfl rfl rfl (ZeL hS20.imm nw (ZB x.t x2) _ (f3.mono hle7) _ hpost3) (fun w16 G9 hS21 hle9=>?_)
  refine WL.split (fun (h3 : (decide (nw = (ZB x.t x2))) = true)=>?_) (fun (h3 : (decide (nw = (ZB x.t x2))) = false)=>?_)
  ·refine Zl k2 (by have hreach : reach = 140737488355328:=rfl; omega) rfl rfl rfl ?_
   exact BK.mk' _ ⟨k2 + 1,nv,nw,fr,v6,o5,G9,rfl,(hle6.trans (hle7.trans hle9)),hS21,(Ye.cast (hr6.mono (hle7.trans hle9)) (by (exact (congrArg NS.out (ZgE ‹_› (by rw [← hnw]; exact of_decide_eq_true ‹_›))).symm))),⟨rfl,rfl,rfl,rfl,rfl,rfl,rfl,rfl,trivial⟩,(by omega),((f3.mono (hle7.trans hle9))),(by (rw [ZgE ‹_› (by rw [← hnw]; exact of_decide_eq_true ‹_›)]; exact hnw)),(by (rw [ZgE ‹_› (by rw [← hnw]; exact of_decide_eq_true ‹_›)]; exact hfr)),‹_›⟩ (show (Yo x.t).length - (k2 + 1) < (Yo x.t).length - k2 by omega)
  have hP1 : St w [] G G9 [some (b4,71,[nv]),some (b3,26,[v6]),some (b5,3,[.int .i64 fr]),o5,o4] w16:=hS21.pick [2,3,1,0,4]
  refine ZcV [.int .i64 x2, .pointer (some ⟨b4,0,none⟩), .pointer (some ⟨b3,0,none⟩), .pointer (some p1), .pointer (some ⟨b5,0,none⟩)] #[.pointer (some ⟨b4,0,none⟩), .pointer (some ⟨b3,0,none⟩), .pointer (some p1), .pointer (some ⟨b5,0,none⟩)] ZvW rfl rfl rfl ((Ztn x.v fr x2 ((Xm x.v (ZB x.t) ((Yo x.t).take k2)).out) nw _ _ _ _ _ _ (f3.mono (hle7.trans hle9)) (hr6.mono (hle7.trans hle9)) hP1 _ (hs1.mono ((((((hle1.trans hle2).trans hle4).trans hle5).trans hle6).trans hle7).trans hle9)) _ _ (hc1.mono (((((hle2.trans hle4).trans hle5).trans hle6).trans hle7).trans hle9)) hc64 f6 (by omega)).mono ?_)
  rintro e14 w17 ⟨G10,v7,o6,rfl,hle10,hS22,hr8⟩
  refine ⟨_,rfl,?_⟩
  refine WL.store hS22 0 _ _ _ 0 _ [r3] [r3] _ rfl (hpost3.mono (hle9.trans hle10)).cells1 ZmP rfl (Nat.le_of_ble_eq_true rfl) (by simp only [List.all_cons,List.all_nil,(hpost3.mono (hle9.trans hle10)).oneC,Bool.true_and] <;> rfl) rfl rfl rfl rfl rfl (fun w18 hS23=>?_)
  refine WL.store hS23 2 _ _ _ 0 _ [.int .i64 x2] [.int .i64 x2] _ rfl rfl Zp rfl (Nat.le_of_ble_eq_true rfl) rfl rfl rfl rfl rfl rfl (fun w19 hS24=>?_)
  refine Zl k2 (by have hreach : reach = 140737488355328:=rfl; omega) rfl rfl rfl ?_
  have hP2 : St w [] G G10 [o6,some (b5,3,[.int .i64 x2]),some (b4,71,[r3]),some (b3,26,[v7]),o4] w19:=hS24.pick [3,2,0,1,4]
  exact BK.mk' _ ⟨k2 + 1,r3,ZB x.t x2,x2,v7,o6,G10,rfl,(hle6.trans ((hle7.trans hle9).trans hle10)),hP2,(Ye.cast hr8 (by ((rw [Zin ‹_› (by rw [← hnw]; exact of_decide_eq_false ‹_›)]; simp only [hnw,hfr])))),⟨rfl,rfl,rfl,rfl,rfl,rfl,rfl,rfl,trivial⟩,(by omega),((hpost3.mono (hle9.trans hle10))),(by (rw [Zin ‹_› (by rw [← hnw]; exact of_decide_eq_false ‹_›)])),(by (rw [Zin ‹_› (by rw [← hnw]; exact of_decide_eq_false ‹_›)])),‹_›⟩ (show (Yo x.t).length - (k2 + 1) < (Yo x.t).length - k2 by omega)
 refine ZU hS19 3 _ _ _ 0 _ rfl rfl Xg rfl rfl rfl ?_
 obtain ⟨G11,hle11,hs4,hS25⟩:=Ye.freeze hr6 hS19 0 rfl
 exact RT hS25 rfl (Sl.cast hs4 (by exact ZoJ (by omega)))
end Go.Civ
set_option linter.unusedVariables false
set_option linter.unusedSimpArgs false
set_option maxRecDepth 100000
set_option maxHeartbeats 4000000
namespace Go.Civ
open Go.Proofs
theorem ZfL {G : GH} {w : World} (hG : G.In w) (l : List HRow) (vl : Value) (hvl : Sl HRowE 56 G vl l) (hgood : ZK l) (hlen : ∀ r ∈ l,r.v.length ≤ 1000) (hl : l.length ≤ 2000) : CL Tryz.prog (nat_lit 66) #[vl] [] w G fun G' _ r=>Sl HRowE 56 G' r (ZS l):=by
 refine Zg ft [] Tryz.func66 rfl rfl ?_
 have hS:=St.start (X:=[]) hG
 refine Z6 hS Zne rfl rfl rfl (ZeV hS.imm l _ hvl hgood hlen hl) (fun w1 G1 r1 hpost1 hS1 hle1=>?_)
 have bd1:=hpost1.bound
 refine Zj hpost1 Zav rfl rfl ?_
 have hS3:=hS1.pad
 refine LP.go ft [] (fun m ρ1 w1=>∃ (k1 : Nat),∃ (v1 : Value) (o1 : OB),∃ (G2 : GH),m = (Yl l).length - k1 ∧ G1.le G2 ∧ St w [] G G2 [o1] w1 ∧ Ye HRowE 56 37 G2 v1 (ZcH ((Yl l).take k1)) o1 ∧ FR ρ1 [(3,v1),(7,r1),(8, .int .i64 (((Yl l).length : Nat) : Int)),(9, .int .i64 (k1 : Int))] ∧ k1 ≤ (Yl l).length) _ ⟨0,(.slice none 0 0),none,G1,rfl,(G1.le_refl),hS3,(Ye.nil HRowE 56 37 G1),⟨rfl,rfl,rfl,rfl,trivial⟩,(by omega)⟩ ?_
 rintro m ρ1 w2 ⟨k1,v1,o1,G2,rfl,hle2,hS2,hr1,hF9,f1⟩
 refine hF9.set ?_
 clear hF9
 have hgl:=@Zdo l
 have hpl:=Zfc (k:=k1) (fun g hg=>Nat.le_trans (Zh7 g hg) hl) (Nat.le_trans hgl hl)
 refine Zq (k1 : Int) (((Yl l).length : Nat) : Int) rfl rfl rfl (fun h1=>?_) (fun h1=>?_)
 ·refine WL.indexAddr (hpost1.mono hle2) k1 (by omega) Zav XI rfl rfl rfl rfl (fun p1 x1 hx1 he1=>?_)
  obtain ⟨cs1,hc1,hr2⟩:=he1
  obtain ⟨v2,v3,rfl,hs1,hs2⟩:=Zai hr2
  refine Zc hS2 hc1 [v2,v3] XI rfl rfl rfl rfl rfl ?_
  refine WL.alloc hS2 XI rfl rfl (fun b1 w3 hn1 hS4=>?_)
  refine WL.store hS4 0 _ _ _ 0 _ [v2,v3] [v2,v3] _ rfl rfl XI rfl (Nat.le_of_ble_eq_true rfl) (by simp only [List.all_cons,List.all_nil,hs1.oneC,hs2.oneC,Bool.true_and] <;> rfl) rfl rfl rfl rfl rfl (fun w4 hS5=>?_)
  obtain ⟨G3,hle3,hc2,hS6⟩:=hS5.shutB hn1
  have hok:=Zgf hgood hl (by assumption : (Yl l)[k1]? = some _); have hgn:=Zf6 hok.2
  refine Zc hS6 hc2 [v2,v3] XI rfl rfl rfl rfl rfl ?_
  refine Z6 hS6 Zsf rfl rfl rfl (Zjp hS6.imm x1 _ (ZeA x1 (hs1.mono hle3) (hs2.mono hle3)) hok.1 hok.2) (fun w5 G4 r2 hpost2 hS7 hle4=>?_)
  refine YE Y4 rfl rfl rfl (hr1.mono (hle3.trans hle4)) hS7 0 rfl hpost2 (by have hreach : reach = 140737488355328:=rfl; (show _ * 56 ≤ _; omega)) (by have hreach : reach = 140737488355328:=rfl; omega) rfl rfl rfl (fun v4 o2 w6 hr3 hS8=>?_)
  refine Zl k1 (by have hreach : reach = 140737488355328:=rfl; omega) rfl rfl rfl ?_
  exact BK.mk' _ ⟨k1 + 1,v4,o2,G4,rfl,(hle2.trans (hle3.trans hle4)),hS8,(Ye.cast hr3 (by (rw [Zh6 ‹_›]))),⟨rfl,rfl,rfl,rfl,trivial⟩,(by omega)⟩ (show (Yl l).length - (k1 + 1) < (Yl l).length - k1 by omega)
 obtain ⟨G5,hle5,hs3,hS9⟩:=Ye.freeze hr1 hS2 0 rfl
 exact RT hS9 rfl (Sl.cast hs3 (by rw [List.take_of_length_le (by omega)]; rfl))
theorem Zr4 {G : GH} {w : World} (hG : G.In w) (l : List HRow) (pf : HRow → Bool) (vl : Value) (hvl : Sl HRowE 56 G vl l) (fid : Nat) (fcap : Array Value) (hf : FnB Tryz.prog (Is HRowE) fid fcap G (fun x=>x ∈ l) pf) : CL Tryz.prog (nat_lit 113) #[vl, .func (.func fid) #[] fcap] [] w G fun _ _ r=>r = .int .i64 (Za4 pf l):=by
 refine Zg ft [] Tryz.func113 rfl rfl ?_
 have hS:=St.start (X:=[]) hG
 have bd1:=hvl.bound
 refine Zj hvl Yq rfl rfl ?_
 refine LP.go ft [] (fun m ρ1 w1=>∃ (k1 : Nat),∃ (G1 : GH),m = l.length - k1 ∧ G.le G1 ∧ St w [] G G1 [] w1 ∧ FR ρ1 [(0,vl),(1, .func (.func fid) #[] fcap),(7, .int .i64 (l.length : Int)),(8, .int .i64 (k1 : Int))] ∧ k1 ≤ l.length ∧ ∀ j,j < k1 → ∀ x,l[j]? = some x → pf x = false) _ ⟨0,G,rfl,(G.le_refl),hS,⟨rfl,rfl,rfl,rfl,trivial⟩,(by omega),(by intro j hj; omega)⟩ ?_
 rintro m ρ1 w1 ⟨k1,G1,rfl,hle1,hS1,hF9,f1,f2⟩
 refine hF9.set ?_
 clear hF9
 refine Zq (k1 : Int) (l.length : Int) rfl rfl rfl (fun h1=>?_) (fun h1=>?_)
 ·refine WL.indexAddr (hvl.mono hle1) k1 (by omega) Yq Zt rfl rfl rfl rfl (fun p1 x1 hx1 he1=>?_)
  obtain ⟨cs1,hc1,hr1⟩:=he1
  obtain ⟨v1,rfl,hs1,hb1,hb2,hb3,hb4⟩:=ZA hr1
  refine Zc hS1 hc1 [v1, .int .i64 x1.r.d.a, .int .i64 x1.r.d.b, .int .i64 x1.r.x.a, .int .i64 x1.r.x.b] Zt rfl rfl rfl rfl rfl ?_
  refine Zn hS1 hf.body rfl rfl rfl (hf.call _ _ (.agg #[v1, .int .i64 x1.r.d.a, .int .i64 x1.r.d.b, .int .i64 x1.r.x.a, .int .i64 x1.r.x.b]) x1 hle1 hS1.imm (List.mem_of_getElem? hx1) ⟨_,rfl,(ZQ x1 hs1 hb1 hb2 hb3 hb4)⟩) (fun w2 G2 hS2 hle2=>?_)
  refine WL.split (fun (h2 : (pf x1) = true)=>?_) (fun (h2 : (pf x1) = false)=>?_)
  ·exact RI hS2 rfl (by exact (Zcs _ ‹_› ‹_› ‹_›).symm)
  refine Zl k1 (by have hreach : reach = 140737488355328:=rfl; omega) rfl rfl rfl ?_
  exact BK.mk' _ ⟨k1 + 1,G2,rfl,(hle1.trans hle2),hS2,⟨rfl,rfl,rfl,rfl,trivial⟩,(by omega),(by exact Xy ‹_› ‹_› ‹_›)⟩ (show l.length - (k1 + 1) < l.length - k1 by omega)
 exact RI hS1 rfl (by exact (Zb5 ‹_› (by omega)).symm)
theorem Zg0 {G : GH} {w : World} (hG : G.In w) (l : List HRow) (pf : HRow → Bool) (vl : Value) (hvl : Sl HRowE 56 G vl l) (fid : Nat) (fcap : Array Value) (hf : FnB Tryz.prog (Is HRowE) fid fcap G (fun x=>x ∈ l) pf) : CL Tryz.prog (nat_lit 58) #[vl, .func (.func fid) #[] fcap] [] w G fun _ _ r=>r = .bool (l.any pf):=by
 refine Zg ft [] Tryz.func58 rfl rfl ?_
 have hS:=St.start (X:=[]) hG
 refine Zn hS Zv7 rfl rfl rfl (Zr4 hS.imm l pf _ hvl fid fcap (hf.up (G.le_refl))) (fun w1 G1 hS1 hle1=>?_)
 refine ZZ .geq rfl .i64 (Za4 pf l) 0 rfl rfl rfl ?_
 exact RB hS1 rfl (by exact Ze0 _ _)
theorem Zr5 {G : GH} {w : World} (hG : G.In w) (x : Val) (cx : List Value) (hcx : ValE.rep G x cx) : CL Tryz.prog (nat_lit 127) #[.agg cx.toArray] [] w G fun _ _ r=>r = .bool (!Zz x):=by
 refine Zg ft [] Tryz.func127 rfl rfl ?_
 have hS:=St.start (X:=[]) hG
 obtain ⟨rfl,hb1,hb2,hb3⟩:=ZV hcx
 refine Zv [.int .i64 x.k, .int .i64 x.n,Zb x.s] _ hS rfl rfl rfl (fun p1 w1 G1 hle1 hsp1 hc1 hS1=>?_)
 refine Zc hS1 hc1 [.int .i64 x.k, .int .i64 x.n,Zb x.s] Z3 rfl rfl rfl rfl rfl ?_
 refine Zn hS1 Zax rfl rfl rfl (XN hS1.imm x _ (Y3 x hb1 hb2 hb3)) (fun w2 G2 hS2 hle2=>?_)
 exact RB hS2 rfl (by rfl)
theorem Zmo {G : GH} {w : World} (hG : G.In w) (x : HRow) (cx : List Value) (hcx : HRowE.rep G x cx) : CL Tryz.prog (nat_lit 64) #[.agg cx.toArray] [] w G fun _ _ r=>r = .bool (Y0 x):=by
 refine Zg ft [] Tryz.func64 rfl rfl ?_
 have hS:=St.start (X:=[]) hG
 obtain ⟨v1,rfl,hs1,hb1,hb2,hb3,hb4⟩:=ZA hcx
 refine Zv [v1, .int .i64 x.r.d.a, .int .i64 x.r.d.b, .int .i64 x.r.x.a, .int .i64 x.r.x.b] _ hS rfl rfl rfl (fun p1 w1 G1 hle1 hsp1 hc1 hS1=>?_)
 refine Za hS1 (Xw.drop 0 hc1) ZH rfl rfl rfl ?_
 refine Zn hS1 Zng rfl rfl rfl (ZdN hS1.imm x.v (fun x8=>!Zz x8) _ (hs1.mono hle1) 127 #[] ⟨ZvD,fun G8 w8 v8 x8 hle8 hG8 hon8 hA8=>by obtain ⟨cs_x8,rfl,hr_x8⟩:=hA8; exact Zr5 hG8 x8 cs_x8 hr_x8⟩) (fun w2 G2 hS2 hle2=>?_)
 refine WL.split (fun (h1 : (x.v.any (fun x8=>!Zz x8)) = true)=>?_) (fun (h1 : (x.v.any (fun x8=>!Zz x8)) = false)=>?_)
 ·exact RB hS2 rfl (by exact Zto ‹_›)
 refine Zc hS2 (Xw.drop 0 (Xw.drop 1 (hc1.mono hle2))) [.int .i64 x.r.d.a, .int .i64 x.r.d.b] Zu rfl rfl rfl rfl rfl ?_
 refine Zn hS2 Zk6 rfl rfl rfl (Zeg hS2.imm x.r.d _ (Zs x.r.d hb1 hb2)) (fun w3 G3 hS3 hle3=>?_)
 refine WL.split (fun (h2 : (ZI x.r.d) = true)=>?_) (fun (h2 : (ZI x.r.d) = false)=>?_)
 ·refine Zc hS3 (Xw.drop 2 (Xw.drop 1 (hc1.mono (hle2.trans hle3)))) [.int .i64 x.r.x.a, .int .i64 x.r.x.b] Zu rfl rfl rfl rfl rfl ?_
  refine Zn hS3 Zk6 rfl rfl rfl (Zeg hS3.imm x.r.x _ (Zs x.r.x hb3 hb4)) (fun w4 G4 hS4 hle4=>?_)
  exact RB hS4 rfl (by exact Ztq ‹_› ‹_›)
 exact RB hS3 rfl (by exact Ztp ‹_› ‹_›)
theorem ZnJ {G : GH} {w : World} (hG : G.In w) (x : HRow) (cx : List Value) (hcx : HRowE.rep G x cx) : CL Tryz.prog (nat_lit 132) #[.agg cx.toArray] [] w G fun _ _ r=>r = .bool (!Y0 x):=by
 refine Zg ft [] Tryz.func132 rfl rfl ?_
 have hS:=St.start (X:=[]) hG
 obtain ⟨v1,rfl,hs1,hb1,hb2,hb3,hb4⟩:=ZA hcx
 refine Zv [v1, .int .i64 x.r.d.a, .int .i64 x.r.d.b, .int .i64 x.r.x.a, .int .i64 x.r.x.b] _ hS rfl rfl rfl (fun p1 w1 G1 hle1 hsp1 hc1 hS1=>?_)
 refine Zc hS1 hc1 [v1, .int .i64 x.r.d.a, .int .i64 x.r.d.b, .int .i64 x.r.x.a, .int .i64 x.r.x.b] Zt rfl rfl rfl rfl rfl ?_
 refine Zn hS1 Zuu rfl rfl rfl (Zmo hS1.imm x _ (ZQ x (hs1.mono hle1) hb1 hb2 hb3 hb4)) (fun w2 G2 hS2 hle2=>?_)
 exact RB hS2 rfl (by rfl)
theorem Zr6 {G : GH} {w : World} (hG : G.In w) (x y : HRow) (cx : List Value) (hcx : HRowE.rep G x cx) (cy : List Value) (hcy : HRowE.rep G y cy) : CL Tryz.prog (nat_lit 67) #[.agg cx.toArray, .agg cy.toArray] [] w G fun _ _ r=>r = .bool (decide (x = y)):=by
 refine Zg ft [] Tryz.func67 rfl rfl ?_
 have hS:=St.start (X:=[]) hG
 obtain ⟨v1,rfl,hs1,hb1,hb2,hb3,hb4⟩:=ZA hcx
 obtain ⟨v2,rfl,hs2,hb5,hb6,hb7,hb8⟩:=ZA hcy
 refine Zv [v1, .int .i64 x.r.d.a, .int .i64 x.r.d.b, .int .i64 x.r.x.a, .int .i64 x.r.x.b] _ hS rfl rfl rfl (fun p1 w1 G1 hle1 hsp1 hc1 hS1=>?_)
 refine Zv [v2, .int .i64 y.r.d.a, .int .i64 y.r.d.b, .int .i64 y.r.x.a, .int .i64 y.r.x.b] _ hS1 rfl rfl rfl (fun p2 w2 G2 hle2 hsp2 hc2 hS2=>?_)
 refine Za hS2 (Xw.drop 0 (hc1.mono hle2)) ZH rfl rfl rfl <| Za hS2 (Xw.drop 0 hc2) ZH rfl rfl rfl ?_
 refine Zn hS2 Zbs rfl rfl rfl (ZbY hS2.imm x.v y.v _ (hs1.mono (hle1.trans hle2)) _ (hs2.mono (hle1.trans hle2))) (fun w3 G3 hS3 hle3=>?_)
 refine WL.split (fun (h1 : (decide (x.v = y.v)) = true)=>?_) (fun (h1 : (decide (x.v = y.v)) = false)=>?_)
 ·refine Zc hS3 (Xw.drop 1 (hc1.mono (hle2.trans hle3))) [.int .i64 x.r.d.a, .int .i64 x.r.d.b, .int .i64 x.r.x.a, .int .i64 x.r.x.b] Zb8 rfl rfl rfl rfl rfl <| Zc hS3 (Xw.drop 1 (hc2.mono hle3)) [.int .i64 y.r.d.a, .int .i64 y.r.d.b, .int .i64 y.r.x.a, .int .i64 y.r.x.b] Zb8 rfl rfl rfl rfl rfl <| Zg5 (Zq4 x.r y.r) Zwk rfl rfl rfl ?_
  exact RB hS3 rfl (by exact ZoV ‹_›)
 exact RB hS3 rfl (by exact ZoU ‹_›)
theorem Zr7 {G : GH} {w : World} (hG : G.In w) (a b : List HRow) (pf : HRow → HRow → Bool) (va : Value) (hva : Sl HRowE 56 G va a) (vb : Value) (hvb : Sl HRowE 56 G vb b) (fid : Nat) (fcap : Array Value) (hf : FnB2 Tryz.prog (Is HRowE) (Is HRowE) fid fcap G (fun x y=>x ∈ a ∧ y ∈ b) pf) : CL Tryz.prog (nat_lit 65) #[va,vb, .func (.func fid) #[] fcap] [] w G fun _ _ r=>r = .bool (Qr pf a b):=by
 refine Zg ft [] Tryz.func65 rfl rfl ?_
 have hS:=St.start (X:=[]) hG
 have bd1:=hva.bound
 refine Zj hva Yq rfl rfl ?_
 have bd2:=hvb.bound
 refine Zj hvb Yq rfl rfl ?_
 refine Yf (a.length : Int) (b.length : Int) rfl rfl rfl (fun h1=>?_) (fun h1=>?_)
 ·exact RB hS rfl (by exact (Qw (by omega)).symm)
 have bd3:=hva.bound
 refine Zj hva Yq rfl rfl ?_
 refine LP.go ft [] (fun m ρ1 w1=>∃ (k1 : Nat),∃ (G1 : GH),m = a.length - k1 ∧ G.le G1 ∧ St w [] G G1 [] w1 ∧ FR ρ1 [(1,vb),(2, .func (.func fid) #[] fcap),(15,va),(16, .int .i64 (a.length : Int)),(17, .int .i64 (k1 : Int))] ∧ k1 ≤ a.length ∧ ∀ j,j < k1 → ∀ x y,a[j]? = some x → b[j]? = some y → pf x y = true) _ ⟨0,G,rfl,(G.le_refl),hS,⟨rfl,rfl,rfl,rfl,rfl,trivial⟩,(by omega),(by intro j hj; omega)⟩ ?_
 rintro m ρ1 w1 ⟨k1,G1,rfl,hle1,hS1,hF9,f1,f2⟩
 refine hF9.set ?_
 clear hF9
 refine Zq (k1 : Int) (a.length : Int) rfl rfl rfl (fun h2=>?_) (fun h2=>?_)
 ·refine WL.indexAddr (hva.mono hle1) k1 (by omega) Yq Zt rfl rfl rfl rfl (fun p1 x1 hx1 he1=>?_)
  obtain ⟨cs1,hc1,hr1⟩:=he1
  obtain ⟨v1,rfl,hs1,hb1,hb2,hb3,hb4⟩:=ZA hr1
  refine Zc hS1 hc1 [v1, .int .i64 x1.r.d.a, .int .i64 x1.r.d.b, .int .i64 x1.r.x.a, .int .i64 x1.r.x.b] Zt rfl rfl rfl rfl rfl ?_
  refine WL.alloc hS1 Zt rfl rfl (fun b1 w2 hn1 hS2=>?_)
  refine WL.store hS2 0 _ _ _ 0 _ [v1, .int .i64 x1.r.d.a, .int .i64 x1.r.d.b, .int .i64 x1.r.x.a, .int .i64 x1.r.x.b] [v1, .int .i64 x1.r.d.a, .int .i64 x1.r.d.b, .int .i64 x1.r.x.a, .int .i64 x1.r.x.b] _ rfl rfl Zt rfl (Nat.le_of_ble_eq_true rfl) (by simp only [List.all_cons,List.all_nil,hs1.oneC,Bool.true_and] <;> rfl) rfl rfl rfl rfl rfl (fun w3 hS3=>?_)
  obtain ⟨G2,hle2,hc2,hS4⟩:=hS3.shutB hn1
  refine WL.indexAddr (hvb.mono (hle1.trans hle2)) k1 (by omega) Yq Zt rfl rfl rfl rfl (fun p2 x2 hx2 he2=>?_)
  obtain ⟨cs2,hc3,hr2⟩:=he2
  obtain ⟨v2,rfl,hs2,hb5,hb6,hb7,hb8⟩:=ZA hr2
  refine Zc hS4 hc3 [v2, .int .i64 x2.r.d.a, .int .i64 x2.r.d.b, .int .i64 x2.r.x.a, .int .i64 x2.r.x.b] Zt rfl rfl rfl rfl rfl ?_
  refine WL.alloc hS4 Zt rfl rfl (fun b2 w4 hn2 hS5=>?_)
  refine WL.store hS5 0 _ _ _ 0 _ [v2, .int .i64 x2.r.d.a, .int .i64 x2.r.d.b, .int .i64 x2.r.x.a, .int .i64 x2.r.x.b] [v2, .int .i64 x2.r.d.a, .int .i64 x2.r.d.b, .int .i64 x2.r.x.a, .int .i64 x2.r.x.b] _ rfl rfl Zt rfl (Nat.le_of_ble_eq_true rfl) (by simp only [List.all_cons,List.all_nil,hs2.oneC,Bool.true_and] <;> rfl) rfl rfl rfl rfl rfl (fun w5 hS6=>?_)
  obtain ⟨G3,hle3,hc4,hS7⟩:=hS6.shutB hn2
  refine Zc hS7 (hc2.mono hle3) [v1, .int .i64 x1.r.d.a, .int .i64 x1.r.d.b, .int .i64 x1.r.x.a, .int .i64 x1.r.x.b] Zt rfl rfl rfl rfl rfl <| Zc hS7 hc4 [v2, .int .i64 x2.r.d.a, .int .i64 x2.r.d.b, .int .i64 x2.r.x.a, .int .i64 x2.r.x.b] Zt rfl rfl rfl rfl rfl ?_
  refine Zn hS7 hf.body rfl rfl rfl (hf.call _ _ (.agg #[v1, .int .i64 x1.r.d.a, .int .i64 x1.r.d.b, .int .i64 x1.r.x.a, .int .i64 x1.r.x.b]) (.agg #[v2, .int .i64 x2.r.d.a, .int .i64 x2.r.d.b, .int .i64 x2.r.x.a, .int .i64 x2.r.x.b]) x1 x2 ((hle1.trans hle2).trans hle3) hS7.imm ⟨(List.mem_of_getElem? hx1),(List.mem_of_getElem? hx2)⟩ ⟨_,rfl,(ZQ x1 (hs1.mono (hle2.trans hle3)) hb1 hb2 hb3 hb4)⟩ ⟨_,rfl,(ZQ x2 (hs2.mono hle3) hb5 hb6 hb7 hb8)⟩) (fun w6 G4 hS8 hle4=>?_)
  refine WL.split (fun (h3 : (pf x1 x2) = true)=>?_) (fun (h3 : (pf x1 x2) = false)=>?_)
  ·refine Zl k1 (by have hreach : reach = 140737488355328:=rfl; omega) rfl rfl rfl ?_
   exact BK.mk' _ ⟨k1 + 1,G4,rfl,(hle1.trans ((hle2.trans hle3).trans hle4)),hS8,⟨rfl,rfl,rfl,rfl,rfl,trivial⟩,(by omega),(by exact Zae ‹_› ‹_› ‹_› (by simp_all))⟩ (show a.length - (k1 + 1) < a.length - k1 by omega)
  exact RB hS8 rfl (by exact (QS ‹_› ‹_› (by simp_all)).symm)
 exact RB hS1 rfl (by exact (Q8 (by omega) ‹_› (by omega)).symm)
theorem ZdJ {G : GH} {w : World} (hG : G.In w) (x : Int) : CL Tryz.prog (nat_lit 85) #[.int .i64 x] [] w G fun _ _ r=>r = .bool (Yp x):=by
 refine Zg ft [] Tryz.func85 rfl rfl ?_
 have hS:=St.start (X:=[]) hG
 refine Qv x (-62135596800) rfl rfl rfl (fun h1=>?_) (fun h1=>?_)
 ·refine ZZ .lss rfl .i64 x 253402300800 rfl rfl rfl ?_
  exact RB hS rfl (by unfold Yp; simp_all [Cmp.b] <;> (first | omega | (intros; omega) | (rw [Bool.eq_iff_iff]; simp <;> omega) | (rw [Bool.eq_iff_iff]; simp_all <;> omega)))
 exact RB hS rfl (by unfold Yp; simp_all [Cmp.b] <;> (omega))
end Go.Civ
namespace Go.Civ
open Go.RowKit
set_option linter.unusedVariables false
theorem Zpy {α β : Type} {f : α → β → Bool} : ∀ {a : List α} {b : List β} {j : Nat} {x : α} {y : β},Qr f a b = true → a[j]? = some x → b[j]? = some y → f x y = true
 | [],_,_,_,_,_,h,_=>by simp at h
 | _ :: _,[],_,_,_,_,_,h=>by simp at h
 | x0 :: a,y0 :: b,0,x,y,h,h1,h2=>by simp at h1 h2; subst h1 h2; simp [Qr] at h; exact h.1
 | x0 :: a,y0 :: b,j + 1,x,y,h,h1,h2=>by simp [Qr] at h; exact Zpy h.2 (by simpa using h1) (by simpa using h2)
theorem ZnO {s : Schema} {v : List Val} (h : YQ s v = 0) : YM s = true ∧ v.all Zz = true ∧ Qr (fun (c : Col) (x : Val)=>decide (c.kind = x.k)) s.cols v = true:=by
 unfold YQ at h
 split at h
 ·rename_i h1
  split at h
  ·rename_i h2
   simp only [Bool.and_eq_true] at h1
   exact ⟨h1.1,h1.2,h2⟩
  ·cases h
 ·cases h
theorem ZtB {s : Schema} {v : List Val} (h1 : YM s = true) (h2 : v.all Zz = true) (h3 : Qr (fun (c : Col) (x : Val)=>decide (c.kind = x.k)) s.cols v = true) : YQ s v = 0:=by
 unfold YQ; rw [h1,h2,h3]; rfl
theorem Zlx : ∀ {v s : List Val} {m : List Bool} {j : Nat} {y : Val},(Yc v s m)[j]? = some y → ∃ x,v[j]? = some x ∧ (y = x ∨ (s[j]? = some y ∧ m[j]? = some true))
 | [],s,m,j,y,h=>by simp [Yc] at h
 | x :: v,[],m,j,y,h=>⟨y,by simpa [Yc] using h, .inl rfl⟩
 | x :: v,z :: s,[],j,y,h=>⟨y,by simpa [Yc] using h, .inl rfl⟩
 | x :: v,z :: s,b :: m,0,y,h=>by
  simp [Yc] at h
  subst h
  refine ⟨x,rfl,?_⟩
  cases b with
  | true=>exact .inr ⟨rfl,rfl⟩
  | false=>exact .inl rfl
 | x :: v,z :: s,b :: m,j + 1,y,h=>by
  simp [Yc] at h
  obtain ⟨x',h1,h2⟩:=Zlx h
  exact ⟨x',by simpa using h1,by simpa using h2⟩
theorem Zpz {cols : List Col} {set : List Val} {mask : List Bool} (h : Zar cols set mask = true) {j : Nat} {x : Val} {c : Col} (hm : mask[j]? = some true) (hs : set[j]? = some x) (hc : cols[j]? = some c) : x.k = c.kind:=by
 unfold Zar at h
 rw [List.all_eq_true] at h
 have h1:=h j (List.mem_range.2 (List.getElem?_eq_some_iff.1 hm).1)
 unfold okM at h1
 rw [hm,hs,hc] at h1
 simp at h1
 exact h1.2
theorem Zp0 {s : Schema} {v set : List Val} {mask : List Bool} (h : YQ s v = 0) (ht : Zar s.cols set mask = true) (hl : set.length = s.cols.length) : YQ s (Yc v set mask) = 0:=by
 obtain ⟨h1,h2,h3⟩:=ZnO h
 refine ZtB h1 (ZdW h2 fun j b x k1 k2 k3=>Zlc ht hl k1 k2 k3) (Zia (by rw [ZdC]; exact ZeG h3) fun j c y hc hy=>?_)
 obtain ⟨x,hx,h4⟩:=Zlx hy
 rcases h4 with h4 | ⟨h4,h5⟩
 ·rw [h4]; exact Zpy (f:=fun (c : Col) (x : Val)=>decide (c.kind = x.k)) h3 hc hx
 ·exact decide_eq_true (Zpz ht h5 h4 hc).symm
structure ChgP (t : Table) (tx : Int) (d : Span) (nx : List Val → Option (List Val)) (l : List HRow) (x : Table) : Prop where
 ok : ChgOk t tx d nx
 new : NewT t.s tx l x
structure UpdP (k : Nat) (t : Table) (tx : Int) (c : Cond) (set : List Val) (mask : List Bool) (d : Span) : Prop where
 chk : ZW k c t.s.cols = 0
 sl : set.length = t.s.cols.length
 ml : mask.length = t.s.cols.length
 chg : ChgP t tx d (fun v=>some (Yc v set mask)) (Zen k t tx c set mask d) (YH k t tx c set mask d)
theorem Zp1 {k : Nat} {t : Table} {tx : Int} {c : Cond} {set : List Val} {mask : List Bool} {d : Span} (h : Xv k t tx c set mask d = 0) : UpdP k t tx c set mask d:=by
 by_cases ho : YZ t d = true
 ·by_cases e1 : ZW k c t.s.cols = 0
  ·by_cases e2 : set.length ≠ t.s.cols.length ∨ mask.length ≠ t.s.cols.length
   ·have:=ZhI (d:=k) (t:=t) (tx:=tx) (c:=c) (set:=set) (mask:=mask) ho e1 e2
    rw [← this.2] at h; cases h
   ·have e3 : set.length = t.s.cols.length:=by omega
    have e4 : mask.length = t.s.cols.length:=by omega
    cases e5 : Zar t.s.cols set mask with
    | false=>
     have:=ZhJ (d:=k) (t:=t) (tx:=tx) (c:=c) (set:=set) (mask:=mask) ho e1 e3 e4 e5
     rw [← this.2] at h; cases h
    | true=>
     by_cases e6 : YG t tx = 0
     ·have h3:=ZnA (d:=k) (t:=t) (tx:=tx) (c:=c) (set:=set) (mask:=mask) ho e1 e3 e4 e5 e6
      rw [← h3.2] at h
      have hok:=Zpd ho e3 e5 e6
      have hlen:=Zlo h
      refine ⟨e1,e3,e4,hok,?_⟩
      rw [← h3.1]
      unfold Z1
      rw [if_pos hlen]
      refine Ztz hok (fun r hr v hv=>?_) hlen
      obtain rfl:=Option.some.inj hv
      exact Zp0 (XL ((Qe hok.valid).2.2.2.2.1 r hr)).1 e5 e3
     ·have:=Zn9 (d:=k) (t:=t) (tx:=tx) (c:=c) (set:=set) (mask:=mask) ho e1 e3 e4 e5 e6
      rw [← this.2] at h; exact absurd h e6
  ·have:=Zn8 (d:=k) (t:=t) (tx:=tx) (c:=c) (set:=set) (mask:=mask) ho e1
   rw [← this.2] at h; exact absurd h e1
 ·have:=ZhH (d:=k) (t:=t) (tx:=tx) (c:=c) (set:=set) (mask:=mask) (p:=d) (by simpa using ho)
  rw [← this.2] at h; cases h
def addN (out : VV) (m : List Val) : VV:=if out.any (fun l=>decide (l = m)) then out else out ++ [m]
section
variable {d : Nat} {c : Cond} {ns : List (List UInt8)} {set : List Val} {mask : List Bool} {b : VV}
end
section
variable {t : Table} {tx at_ later past : Int} {d : Span} {u : List Val}
end
end Go.Civ
namespace Go.Civ
section
variable {t : Table} {tx at_ later past : Int} {d : Span} {v : List Val} {b : VV} {k : Nat} {c : Cond} {ns : List (List UInt8)} {set : List Val} {mask : List Bool} {l : List Val}
end
end Go.Civ
