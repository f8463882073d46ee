/- Lemmas. -/
import Derived.Test.YthgeclodflmiaaaGreatC21
import Derived.Test.YthgeclodflmiaaaGreatC22
import Derived.Test.YthgeclodflmiaaaGreatC23
import Derived.Test.YthgeclodflmiaaaGreatC24
import Derived.Test.YthgeclodflmiaaaGreatC26
import Derived.Test.YthgeclodflmiaaaGreatProg
import Derived.KernelRfl
import Derived.WalkKit
set_option linter.unusedVariables false
set_option linter.unusedSimpArgs false
set_option maxRecDepth 100000
set_option maxHeartbeats 4000000
namespace Go.Civ
open Go.Proofs
theorem Zga {G : GH} {w : World} (hG : G.In w) (x y : Pt) (cx : List Value) (hcx : PtE.rep G x cx) (cy : List Value) (hcy : PtE.rep G y cy) : CL Tryz.prog (nat_lit 117) #[.agg cx.toArray, .agg cy.toArray] [] w G fun _ _ r=>r = .int .i64 (XT x y):=by
 refine Zh ft [] Tryz.func117 rfl rfl ?_
 have hS:=St.start (X:=[]) hG
 obtain ⟨v1,rfl,hb1,hb2,hs1⟩:=XK hcx
 obtain ⟨v2,rfl,hb3,hb4,hs2⟩:=XK hcy
 refine Z3 [.int .i64 x.tx, .int .i64 x.vd,v1] _ hS rfl rfl rfl (fun p1 w1 G1 hle1 hsp1 hc1 hS1=>?_)
 refine Z3 [.int .i64 y.tx, .int .i64 y.vd,v2] _ hS1 rfl rfl rfl (fun p2 w2 G2 hle2 hsp2 hc2 hS2=>?_)
 refine dr [(15,false),(16,false),(17,false)] [(6, .int .i64 x.tx),(8, .int .i64 y.tx),(9, .int .i64 (Yx x.tx y.tx)),(11, .int .i64 x.vd),(13, .int .i64 y.vd),(14, .int .i64 (Yx x.vd y.vd)),(16,v1),(18,v2),(19, .int .i64 (Xr x.v y.v))] hS2 ⟨fun _ hSw=>Za hSw (XL.drop 0 (hc1.mono hle2)) Zr rfl rfl rfl <| nu rfl rfl,fun _ hSw=>Za hSw (XL.drop 0 hc2) Zr rfl rfl rfl <| nu rfl rfl,fun _ hSw=>ZO hSw ZiK rfl rfl rfl (ZcY hSw.imm x.tx y.tx) rfl,fun _ hSw=>Za hSw (XL.drop 1 (hc1.mono hle2)) Zr rfl rfl rfl <| nu rfl rfl,fun _ hSw=>Za hSw (XL.drop 1 hc2) Zr rfl rfl rfl <| nu rfl rfl,fun _ hSw=>ZO hSw ZiK rfl rfl rfl (ZcY hSw.imm x.vd y.vd) rfl,fun _ hSw=>Za hSw (XL.drop 2 (hc1.mono hle2)) ZN rfl rfl rfl <| nu rfl rfl,fun _ hSw=>Za hSw (XL.drop 2 hc2) ZN rfl rfl rfl <| nu rfl rfl,fun _ hSw=>ZO hSw ZiJ rfl rfl rfl (Zfp hSw.imm x.v y.v _ (hs1.mono (hle1.trans hle2)) _ (hs2.mono (hle1.trans hle2))) rfl,trivial⟩ (fun w3 hS3=>?_)
 refine WL.buildSlice _ [(0,[.int .i64 (Yx x.tx y.tx)]),(1,[.int .i64 (Yx x.vd y.vd)]),(2,[.int .i64 (Xr x.v y.v)])] [.int .i64 (Yx x.tx y.tx), .int .i64 (Yx x.vd y.vd), .int .i64 (Xr x.v y.v)] hS3 ZS rfl rfl rfl rfl (fun z hz=>by match z,hz with | [z0,z1,z2],_=>rfl) (fun b1 w4 hn1 hS4=>?_)
 obtain ⟨G3,hle3,hs3,hS5⟩:=St.sealSl (E:=Enc.int) (by_:=8) (l:=([(Yx x.tx y.tx),(Yx x.vd y.vd),(Xr x.v y.v)] : List Int)) hS4 hn1 ⟨[.int .i64 (Yx x.tx y.tx)],_,rfl,⟨rfl,Zd9 x.tx y.tx⟩,⟨[.int .i64 (Yx x.vd y.vd)],_,rfl,⟨rfl,Zd9 x.vd y.vd⟩,⟨[.int .i64 (Xr x.v y.v)],_,rfl,⟨rfl,ZoQ x.v y.v⟩,rfl⟩⟩⟩ rfl (by simp [reach]) (by simp [reach])
 refine Zn hS5 ZqS rfl rfl rfl (ZsS hS5.imm [(Yx x.tx y.tx),(Yx x.vd y.vd),(Xr x.v y.v)] _ hs3) (fun w5 G4 hS6 hle4=>?_)
 exact RI hS6 rfl (by exact ZmW _ _ _)
theorem QF {G : GH} {w : World} (hG : G.In w) (s : Span) (x : Int) (cs : List Value) (hcs : SpanE.rep G s cs) : CL Tryz.prog (nat_lit 114) #[.agg cs.toArray, .int .i64 x] [] w G fun _ _ r=>r = .bool (X1 x s):=by
 refine Zh ft [] Tryz.func114 rfl rfl ?_
 have hS:=St.start (X:=[]) hG
 obtain ⟨rfl,hb1,hb2⟩:=ZP hcs
 refine Z3 [.int .i64 s.a, .int .i64 s.b] _ hS rfl rfl rfl (fun p1 w1 G1 hle1 hsp1 hc1 hS1=>?_)
 refine Za hS1 (XL.drop 0 hc1) Zr rfl rfl rfl ?_
 refine QH s.a x rfl rfl rfl (fun h1=>?_) (fun h1=>?_)
 ·refine Za hS1 (XL.drop 1 hc1) Zr rfl rfl rfl <| Yh .lss rfl .i64 x s.b rfl rfl rfl ?_
  exact RB hS1 rfl (by unfold X1; simp_all [Cmp.b] <;> (first | omega | (intros; omega) | (rw [Bool.eq_iff_iff]; simp <;> omega) | (rw [Bool.eq_iff_iff]; simp_all <;> omega)))
 exact RB hS1 rfl (by unfold X1; simp_all [Cmp.b] <;> (omega))
theorem ZrY {G : GH} {w : World} (hG : G.In w) (q : Pt) (cq : List Value) (hcq : PtE.rep G q cq) (h1 : Yt q.tx = true) (h2 : Yt q.vd = true) : CL Tryz.prog (nat_lit 61) #[.agg cq.toArray] [] w G fun G' _ r=>Is HRowE G' r (ZH (some q)):=by
 refine Y8 ft [] Tryz.func61 rfl rfl ?_
 have hS:=St.start (X:=[]) hG
 obtain ⟨v1,rfl,hb1,hb2,hs1⟩:=XK hcq
 refine Z3 [.int .i64 q.tx, .int .i64 q.vd,v1] _ hS rfl rfl rfl (fun p1 w1 G1 hle1 hsp1 hc1 hS1=>?_)
 refine WL.alloc hS1 Zt rfl rfl (fun b1 w2 hn1 hS2=>?_)
 have hi1 : Z1 (q.vd + 1):=by have b1:=Qd h1; have b2:=Qd h2; have:=hb2.1; have:=hb2.2; constructor <;> omega
 have hi2 : Z1 (q.tx + 1):=by have b1:=Qd h1; have b2:=Qd h2; have:=hb1.1; have:=hb1.2; constructor <;> omega
 refine dr [(2,true),(16,false),(17,false)] [(4,v1),(7, .int .i64 q.vd),(9, .int .i64 q.vd),(10, .int .i64 (q.vd + 1)),(11, .agg #[.int .i64 q.vd, .int .i64 (q.vd + 1)]),(13, .int .i64 q.tx),(15, .int .i64 q.tx),(16, .int .i64 (q.tx + 1)),(17, .agg #[.int .i64 q.tx, .int .i64 (q.tx + 1)]),(18, .agg #[.int .i64 q.vd, .int .i64 (q.vd + 1), .int .i64 q.tx, .int .i64 (q.tx + 1)])] hS2 ⟨fun _ hSw=>Za hSw (XL.drop 2 hc1) ZN rfl rfl rfl <| nu rfl rfl,fun _ hSw=>Za hSw (XL.drop 1 hc1) Zr rfl rfl rfl <| nu rfl rfl,fun _ hSw=>Za hSw (XL.drop 1 hc1) Zr rfl rfl rfl <| nu rfl rfl,fun _=>Zcn .add rfl q.vd 1 rfl rfl rfl hi1 <| nu rfl rfl,fun _=>WL.build _ [(0,[.int .i64 q.vd]),(1,[.int .i64 (q.vd + 1)])] [.int .i64 q.vd, .int .i64 (q.vd + 1)] Zz rfl Xs rfl rfl rfl rfl <| nu rfl rfl,fun _ hSw=>Za hSw (XL.drop 0 hc1) Zr rfl rfl rfl <| nu rfl rfl,fun _ hSw=>Za hSw (XL.drop 0 hc1) Zr rfl rfl rfl <| nu rfl rfl,fun _=>Zcn .add rfl q.tx 1 rfl rfl rfl hi2 <| nu rfl rfl,fun _=>WL.build _ [(0,[.int .i64 q.tx]),(1,[.int .i64 (q.tx + 1)])] [.int .i64 q.tx, .int .i64 (q.tx + 1)] Zz rfl Xs rfl rfl rfl rfl <| nu rfl rfl,fun _=>WL.build _ [(0,[.int .i64 q.vd, .int .i64 (q.vd + 1)]),(1,[.int .i64 q.tx, .int .i64 (q.tx + 1)])] [.int .i64 q.vd, .int .i64 (q.vd + 1), .int .i64 q.tx, .int .i64 (q.tx + 1)] Zcf rfl ZbB rfl rfl rfl rfl <| nu rfl rfl,trivial⟩ (fun w3 hS3=>?_)
 refine Z8 hS3 ZeC rfl rfl rfl (QP hS3.imm q.v _ (hs1.mono hle1)) (fun w4 G2 r1 hpost1 hS4 hle2=>?_)
 refine ⟨hS4.down hS3.le hle2,?_⟩
 refine WL.build _ [(0,[r1]),(1,[.int .i64 q.vd, .int .i64 (q.vd + 1), .int .i64 q.tx, .int .i64 (q.tx + 1)])] [r1, .int .i64 q.vd, .int .i64 (q.vd + 1), .int .i64 q.tx, .int .i64 (q.tx + 1)] Zt rfl Zag rfl rfl (by show [(0,(r1 : Value).cells.toList),(1,(.agg #[.int .i64 q.vd, .int .i64 (q.vd + 1), .int .i64 q.tx, .int .i64 (q.tx + 1)] : Value).cells.toList)] = _; simp only [hpost1.cells1] <;> rfl) rfl ?_
 refine WL.store hS4 0 _ _ _ 0 _ [r1, .int .i64 q.vd, .int .i64 (q.vd + 1), .int .i64 q.tx, .int .i64 (q.tx + 1)] [r1, .int .i64 q.vd, .int .i64 (q.vd + 1), .int .i64 q.tx, .int .i64 (q.tx + 1)] _ rfl rfl Zt rfl (Nat.le_of_ble_eq_true rfl) (by simp only [List.all_cons,List.all_nil,hpost1.oneC,Bool.true_and] <;> rfl) rfl rfl rfl rfl rfl (fun w5 hS5=>?_)
 obtain ⟨G3,hle3,hc2,hS6⟩:=hS5.shutB hn1
 exact X0 [.agg #[r1, .int .i64 q.vd, .int .i64 (q.vd + 1), .int .i64 q.tx, .int .i64 (q.tx + 1)]] hS6 ⟨_,_,_,rfl,rfl,hS6.loadC hc2 Zt rfl rfl,rfl⟩ (Is.cast ⟨_,rfl,(Ya (HRow.mk q.v (Rect.mk (Span.mk q.vd (q.vd + 1)) (Span.mk q.tx (q.tx + 1)))) (hpost1.mono hle3) hb2 hi1 hb1 hi2)⟩ (by rfl))
end Go.Civ
namespace Go.Civ
open Go.RowKit
set_option linter.unusedVariables false
def addN (out : VV) (m : List Val) : VV:=if out.any (fun l=>decide (l = m)) then out else out ++ [m]
section
variable {d : Nat} {c : Cond} {ns : List (List UInt8)} {set : List Val} {mask : List Bool} {b : VV}
end
section
variable {t : Table} {tx at_ later past : Int} {d : Span} {u : List Val}
end
end Go.Civ
namespace Go.Civ
section
variable {t : Table} {tx at_ later past : Int} {d : Span} {v : List Val} {b : VV} {k : Nat} {c : Cond} {ns : List (List UInt8)} {set : List Val} {mask : List Bool} {l : List Val}
end
end Go.Civ
set_option linter.unusedVariables false
set_option linter.unusedSimpArgs false
set_option maxRecDepth 100000
set_option maxHeartbeats 4000000
namespace Go.Civ
open Go.Proofs
theorem ZmC {G : GH} {w : World} (hG : G.In w) (l : List HRow) (vl : Value) (hvl : Sl HRowE 56 G vl l) (hgood : Z5 l) (hlen : ∀ r ∈ l,r.v.length ≤ 1000) (hl : l.length ≤ 2000) : CL Tryz.prog (nat_lit 66) #[vl] [] w G fun G' w' r=>∃ o,Yb HRowE 56 (nat_lit 37) G' r (ZZ l) o ∧ Zfk w w' G' o:=by
 refine Zh ft [] Tryz.func66 rfl rfl ?_
 have hS:=St.start (X:=[]) hG
 refine Z8 hS ZlY rfl rfl rfl (Zen hS.imm l _ hvl hgood hlen hl) (fun w1 G1 r1 hpost1 hS1 hle1=>?_)
 have bd1:=hpost1.bound
 refine Zl hpost1 Zaj rfl rfl ?_
 have hS3:=hS1.pad
 refine LP.go ft [] (fun m ρ1 w1=>∃ (k1 : Nat),∃ (v1 : Value) (o1 : OB),∃ (G2 : GH),m = (Yo l).length - k1 ∧ G1.le G2 ∧ St w [] G G2 [o1] w1 ∧ Yb HRowE 56 37 G2 v1 (Zcu ((Yo l).take k1)) o1 ∧ FR ρ1 [(3,v1),(7,r1),(8, .int .i64 (((Yo l).length : Nat) : Int)),(9, .int .i64 (k1 : Int))] ∧ k1 ≤ (Yo l).length) _ ⟨0,(.slice none 0 0),none,G1,rfl,(G1.le_refl),hS3,(Yb.nil HRowE 56 37 G1),⟨rfl,rfl,rfl,rfl,trivial⟩,(by omega)⟩ ?_
 rintro m ρ1 w2 ⟨k1,v1,o1,G2,rfl,hle2,hS2,hr1,hF9,f1⟩
 refine hF9.set ?_
 clear hF9
 have hgl:=@ZcL l
 have hpl:=Ze0 (k:=k1) (fun g hg=>Nat.le_trans (ZgH g hg) hl) (Nat.le_trans hgl hl)
 refine Zm (k1 : Int) (((Yo l).length : Nat) : Int) rfl rfl rfl (fun h1=>?_) (fun h1=>?_)
 ·refine WL.indexAddr (hpost1.mono hle2) k1 (by omega) Zaj X7 rfl rfl rfl rfl (fun p1 x1 hx1 he1=>?_)
  obtain ⟨cs1,hc1,hr2⟩:=he1
  obtain ⟨v2,v3,rfl,hs1,hs2⟩:=QU hr2
  refine Zd hS2 hc1 [v2,v3] X7 rfl rfl rfl rfl rfl ?_
  refine WL.alloc hS2 X7 rfl rfl (fun b1 w3 hn1 hS4=>?_)
  refine WL.store hS4 0 _ _ _ 0 _ [v2,v3] [v2,v3] _ rfl rfl X7 rfl (Nat.le_of_ble_eq_true rfl) (by simp only [List.all_cons,List.all_nil,hs1.oneC,hs2.oneC,Bool.true_and] <;> rfl) rfl rfl rfl rfl rfl (fun w4 hS5=>?_)
  obtain ⟨G3,hle3,hc2,hS6⟩:=hS5.shutB hn1
  have hok:=Zfu hgood hl (by assumption : (Yo l)[k1]? = some _); have hgn:=ZeQ hok.2
  refine Zd hS6 hc2 [v2,v3] X7 rfl rfl rfl rfl rfl ?_
  refine Z8 hS6 ZqL rfl rfl rfl (Zis hS6.imm x1 _ (ZdW x1 (hs1.mono hle3) (hs2.mono hle3)) hok.1 hok.2) (fun w5 G4 r2 hpost2 hS7 hle4=>?_)
  refine YA YQ rfl rfl rfl (hr1.mono (hle3.trans hle4)) hS7 0 rfl hpost2 (by have hreach : reach = 140737488355328:=rfl; (show _ * 56 ≤ _; omega)) (by have hreach : reach = 140737488355328:=rfl; omega) rfl rfl rfl (fun v4 o2 w6 hr3 hS8=>?_)
  refine Zj k1 (by have hreach : reach = 140737488355328:=rfl; omega) rfl rfl rfl ?_
  exact BK.mk' _ ⟨k1 + 1,v4,o2,G4,rfl,(hle2.trans (hle3.trans hle4)),hS8,(Yb.cast hr3 (by (rw [ZgG ‹_›]))),⟨rfl,rfl,rfl,rfl,trivial⟩,(by omega)⟩ (show (Yo l).length - (k1 + 1) < (Yo l).length - k1 by omega)
 exact RT hS2 rfl ⟨_,Yb.cast hr1 (by rw [List.take_of_length_le (by omega)]; rfl),hS2.freshAt 0 rfl⟩
theorem ZmD {G : GH} {w : World} (hG : G.In w) (l : List HRow) (vl : Value) (hvl : Sl HRowE 56 G vl l) (hlen : ∀ r ∈ l,r.v.length ≤ 1000) : CL Tryz.prog (nat_lit 76) #[vl] [] w G fun G' w' r=>∃ r0 r1,r = .tuple #[r0,r1] ∧ (∃ o,Yb HRowE 56 (nat_lit 37) G' r0 (XU l) o ∧ Zfk w w' G' o) ∧ r1 = .int .i64 (Q4 l):=by
 refine Zh ft [] Tryz.func76 rfl rfl ?_
 have hS:=St.start (X:=[]) hG
 have bd1:=hvl.bound
 refine Zl hvl Yn rfl rfl ?_
 refine YZ (l.length : Int) 1000 rfl rfl rfl (fun h1=>?_) (fun h1=>?_)
 ·exact RT hS rfl ⟨_,_,rfl,⟨none,Yb.cast (Yb.nil _ _ _ _) (by exact (Zif (by omega)).1.symm),fun _ h=>by cases h⟩,(congrArg (Value.int .i64) (by exact (Zif (by omega)).2.symm))⟩
 refine Zn hS ZsJ rfl rfl rfl (ZfF hS.imm l (fun x8=>!Y1 x8) _ hvl 132 #[] ⟨Zur,fun G8 w8 v8 x8 hle8 hG8 hon8 hA8=>by obtain ⟨cs_x8,rfl,hr_x8⟩:=hA8; exact Zm6 hG8 x8 cs_x8 hr_x8⟩) (fun w1 G1 hS1 hle1=>?_)
 refine WL.split (fun (h2 : (l.any (fun x8=>!Y1 x8)) = true)=>?_) (fun (h2 : (l.any (fun x8=>!Y1 x8)) = false)=>?_)
 ·exact RT hS1 rfl ⟨_,_,rfl,⟨none,Yb.cast (Yb.nil _ _ _ _) (by exact (Zig (by omega) ‹_›).1.symm),fun _ h=>by cases h⟩,(congrArg (Value.int .i64) (by exact (Zig (by omega) ‹_›).2.symm))⟩
 refine Zah ZlT rfl rfl rfl (ZmC hS1.imm l _ (hvl.mono hle1) (ZfD ‹_›) hlen (by omega)) (fun w2 G2 r1 hres1 hpost1=>?_)
 have hS2:=hS1.call hres1
 have hle2:=hres1.le
 obtain ⟨o1,hr1,hf1⟩:=hpost1
 have hS3:=hS1.adoptO hres1 hf1
 have bd2:=hr1.bound
 refine Qv hr1 Yn rfl rfl ?_
 refine YZ (((ZZ l).length : Nat) : Int) 500 rfl rfl rfl (fun h3=>?_) (fun h3=>?_)
 ·exact RT hS3 rfl ⟨_,_,rfl,⟨none,Yb.cast (Yb.nil _ _ _ _) (by exact (ZgM (by omega) ‹_› (by omega)).1.symm),fun _ h=>by cases h⟩,(congrArg (Value.int .i64) (by exact (ZgM (by omega) ‹_› (by omega)).2.symm))⟩
 exact RT hS3 rfl ⟨_,_,rfl,⟨_,Yb.cast hr1 (by exact (ZfX (by omega) ‹_› (by omega)).1.symm),hS3.freshAt 0 rfl⟩,(congrArg (Value.int .i64) (by exact (ZfX (by omega) ‹_› (by omega)).2.symm))⟩
end Go.Civ
namespace Go.Civ
open Go.RowKit
open Go.Lib (compact)
set_option linter.unusedVariables false
section
variable (M : List Val → List Val → Bool) (l : List HRow)
def Xd (r : HRow) (fr : Int) : List Int:=(l.filter fun o=>decide (Y2 r fr < o.r.x.b) && M r.v o.v).map fun o=>o.r.x.b
def Zes (r : HRow) (fr : Int) : List Int:=compact (XO (Y2 r fr :: Xd M l r fr))
def Y3 (t : List HRow) (fr : Int) : List Pt:=t.filterMap fun r=>XW M l r (Zes M l r fr)
def Zd3 (t : List HRow) (fr : Int) : Option Pt:=match Y3 M l t fr with
 | []=>none
 | q :: r=>some (Xm (q :: r))
def Zan (t : List HRow) (x y : Int) : Option (List Val):=(ZJ t y x).find? fun v=>!(ZJ l y x).any (M v)
def ZuP (t : List HRow) (ys : List Int) (x : Int) : Option Pt:=ys.findSome? fun y=>(Zan M l t x y).map fun v=>⟨x,y,v⟩
def ZaI (t : List HRow) (fr : Int) (ys : List Int) (x : Int) : Option Pt:=if x < fr ∨ 253402300800 ≤ x then none else ZuP M l t ys x
def Zqt (t : List HRow) (fr : Int) : Option Pt:=(ZU ((fr :: t.map fun r=>r.r.x.a) ++ l.map fun o=>o.r.x.b)).findSome? (ZaI M l t fr (ZU ((t.map fun r=>r.r.d.a) ++ l.map fun o=>o.r.d.b)))
end
theorem Zkt {P : List Val → Bool} {v m : List Val} : ∀ {l : VV},QT l → l.find? P = some v → m ∈ l → P m = true → v = m ∨ ZL cmpV v m < 0
 | [],_,h,_,_=>by cases h
 | x :: r,hi,h,hm,hP=>by
  obtain ⟨h1,h2⟩:=List.pairwise_cons.1 hi
  rw [List.find?_cons] at h
  cases hx : P x with
  | true=>
   rw [hx] at h
   obtain rfl:=Option.some.inj h
   rcases List.mem_cons.1 hm with rfl | hm
   ·exact .inl rfl
   ·exact .inr (h1 m hm)
  | false=>
   rw [hx] at h
   rcases List.mem_cons.1 hm with rfl | hm
   ·rw [hx] at hP; cases hP
   ·exact Zkt h2 h hm hP
section
variable {M : List Val → List Val → Bool} {l t : List HRow} {v : List Val} {x y fr : Int} {r : HRow} {p : Pt}
theorem Zqu (hg : Z5 l) (h : Zbe l v y x) : x < 253402300800:=by
 obtain ⟨r,hr,_,h⟩:=h
 have h1:=(Yd (hg r hr)).2.2
 unfold ZM at h1
 simp at h1
 have h2:=Q9.1 h
 omega
theorem Zoz : (Zes M l r fr).Pairwise (· < ·):=(Zdv (Zda _)).inc
theorem Ziy {z : Int} : z ∈ Zes M l r fr ↔ ZiO M l r fr z:=by
 unfold Zes ZiO Xd
 rw [Zf6 (Zda _),(ZdT _).mem_iff,List.mem_cons,List.mem_map]
 constructor
 ·rintro (h | ⟨o,ho,e⟩)
  ·exact .inl h
  ·rw [List.mem_filter,Bool.and_eq_true,decide_eq_true_eq] at ho
   exact .inr ⟨o,ho.1,ho.2.1,ho.2.2,e⟩
 ·rintro (h | ⟨o,ho,h1,h2,e⟩)
  ·exact .inl h
  ·exact .inr ⟨o,List.mem_filter.2 ⟨ho,by rw [Bool.and_eq_true,decide_eq_true_eq]; exact ⟨h1,h2⟩⟩,e⟩
theorem Zet : p ∈ Y3 M l t fr ↔ ∃ r ∈ t,XW M l r (Zes M l r fr) = some p:=List.mem_filterMap
theorem Zqv (hgt : Z5 t) : VP (Y3 M l t fr):=fun p hp=>by
 obtain ⟨r,hr,h⟩:=Zet.1 hp
 rw [(ZbY h).2.2.1]; exact (Yd (hgt r hr)).1
theorem Zku (hgl : Z5 l) (hgt : Z5 t) (hp : p ∈ Y3 M l t fr) :
  Zer M l t p.v p.vd p.tx ∧ fr ≤ p.tx ∧ (p.tx = fr ∨ (∃ q ∈ t,q.r.x.a = p.tx) ∨ ∃ o ∈ l,o.r.x.b = p.tx) ∧ ((∃ q ∈ t,q.r.d.a = p.vd) ∨ ∃ o ∈ l,o.r.d.b = p.vd):=by
 obtain ⟨r,hr,h⟩:=Zet.1 hp
 exact Zoy hgl hgt hr (fun z hz=>Ziy.1 hz) h
theorem Zb3 (hgl : Z5 l) (hgt : Z5 t) (hf : fr ≤ x) (h : Zer M l t v y x) : ∃ p ∈ Y3 M l t fr,p.v = v ∧ (p.tx < x ∨ (p.tx = x ∧ p.vd ≤ y)):=by
 obtain ⟨r,hr,e,k⟩:=Zks (fr:=fr) hgl hgt hf h
 obtain ⟨p,hp,hq⟩:=k _ Zoz (fun z=>Ziy)
 exact ⟨p,Zet.2 ⟨r,hr,hp⟩,by rw [(ZbY hp).2.2.1,e],hq⟩
theorem Ziz (h : Y3 M l t fr = []) : Zd3 M l t fr = none:=by unfold Zd3; rw [h]
theorem Zi0 (h : Y3 M l t fr ≠ []) : Zd3 M l t fr = some (Xm (Y3 M l t fr)):=by
 unfold Zd3
 cases e : Y3 M l t fr with
 | nil=>exact absurd e h
 | cons a r=>rfl
theorem Zkv (hgl : Z5 l) (hgt : Z5 t) : (v ∈ ZJ t y x ∧ (!(ZJ l y x).any (M v)) = true) ↔ Zer M l t v y x:=by
 rw [← Za2 hgt,← Za2 hgl,QA hgt]
 unfold Zer
 refine and_congr_right fun _=>?_
 rw [Bool.not_eq_true',List.any_eq_false]
 constructor
 ·intro h u hu hh; exact h u ((QA hgl).2 hh) hu
 ·intro h u hu hh; exact h u hh ((QA hgl).1 hu)
theorem Zgg (hgl : Z5 l) (hgt : Z5 t) (h : Zan M l t x y = some v) : Zer M l t v y x:=
 (Zkv hgl hgt).1 ⟨List.mem_of_find?_eq_some h,List.find?_some (p:=fun v=>!(ZJ l y x).any (M v)) h⟩
theorem Zt9 (hgl : Z5 l) (hgt : Z5 t) : Zqt M l t fr = Zd3 M l t fr:=by
 unfold Zqt
 by_cases e : Y3 M l t fr = []
 ·rw [Ziz e]
  refine QZ fun x _=>?_
  unfold ZaI
  split
  ·rfl
  ·refine QZ fun y _=>?_
   cases k : Zan M l t x y with
   | none=>rfl
   | some v=>
    obtain ⟨p,hp,_⟩:=Zb3 (fr:=fr) hgl hgt (by omega) (Zgg hgl hgt k)
    rw [e] at hp; cases hp
 ·rw [Zi0 e]
  have hV:=Zqv (M:=M) (l:=l) (fr:=fr) hgt
  obtain ⟨hm,hmin⟩:=Zcw hV e
  generalize Xm (Y3 M l t fr) = m at hm hmin ⊢
  obtain ⟨g1,g2,g3,g4⟩:=Zku hgl hgt hm
  have hlate : m.tx < 253402300800:=Zqu hgt g1.1
  have none_at : ∀ {a b : Int},fr ≤ a → Zdk a b m.tx m.vd → Zan M l t a b = none:=fun {a b} hf hlt=>by
   cases k : Zan M l t a b with
   | none=>rfl
   | some v=>
    obtain ⟨p,hp,_,h2⟩:=Zb3 (fr:=fr) hgl hgt hf (Zgg hgl hgt k)
    refine absurd ?_ (Zh7 (hmin p hp))
    unfold Zdk at hlt ⊢
    omega
  have here : Zan M l t m.tx m.vd = some m.v:=by
   obtain ⟨i1,i2⟩:=(Zkv hgl hgt).2 g1
   cases k : Zan M l t m.tx m.vd with
   | none=>
    unfold Zan at k
    rw [List.find?_eq_none] at k
    exact absurd i2 (k m.v i1)
   | some v=>
    have hinc : QT (ZJ t m.vd m.tx):=Q2 _
    rcases Zkt hinc k i1 i2 with h | h
    ·rw [h]
    ·exfalso
     obtain ⟨p,hp,h1,h2⟩:=Zb3 (fr:=fr) hgl hgt g2 (Zgg hgl hgt k)
     have h3:=Zh7 (hmin p hp)
     unfold Zdk at h3
     have e1 : p.tx = m.tx:=by omega
     have e2 : p.vd = m.vd:=by omega
     apply hmin p hp
     unfold XT Yx
     rw [e1,e2,if_neg (Int.lt_irrefl _),if_neg (Int.lt_irrefl _),if_neg (Int.lt_irrefl _),if_neg (Int.lt_irrefl _),XM (hV p hp) (hV m hm),h1]
     simpa using h
  refine ZaX (x:=m.tx) (Za3.2 ?_) (Zep _) (fun a _ ha=>?_) ?_
  ·rw [List.mem_append,List.mem_cons,List.mem_map,List.mem_map]
   rcases g3 with g | ⟨q,hq,g⟩ | ⟨o,ho,g⟩
   ·exact .inl (.inl g)
   ·exact .inl (.inr ⟨q,hq,g⟩)
   ·exact .inr ⟨o,ho,g⟩
  ·unfold ZaI
   split
   ·rfl
   ·refine QZ fun b _=>?_
    rw [none_at (by omega) (.inl ha)]; rfl
  ·unfold ZaI
   rw [if_neg (by omega)]
   refine ZaX (x:=m.vd) (Za3.2 ?_) (Zep _) (fun b _ hb=>?_) ?_
   ·rw [List.mem_append,List.mem_map,List.mem_map]
    rcases g4 with ⟨q,hq,g⟩ | ⟨o,ho,g⟩
    ·exact .inl ⟨q,hq,g⟩
    ·exact .inr ⟨o,ho,g⟩
   ·rw [none_at g2 (.inr ⟨rfl,hb⟩)]; rfl
   ·rw [here]; rfl
end
def Zb4 (s : Schema) (cs : List (List UInt8)) (v : List Val) : List Val:=cs.map fun c=>ZdO v (Xf (s.cols.map Col.name) c)
def mtB (s : Schema) (cs : List (List UInt8)) (v u : List Val) : Bool:=decide (u.take cs.length = Zb4 s cs v)
def ZmE (s : Schema) (f : Foreign) : Bool:=s.fks.any fun g=>decide (g.table = f.table) && decide (g.cols = f.cols)
def ZcR (t o : Schema) (j : Nat) (c : List UInt8) : Bool:=decide (Ze9 t.cols (Xf (t.cols.map Col.name) c) = Ze9 o.cols (j : Int))
def ZmF (t o : Schema) (cs : List (List UInt8)) : Bool:=cs.zipIdx.all fun p=>ZcR t o p.2 p.1
def Zeu (t o : Schema) (f : Foreign) : Bool:=ZmE t f && (decide (f.table = o.name) && (decide ((f.cols.length : Int) = o.key) && ZmF t o f.cols))
section
variable {s t o : Schema} {f : Foreign} {cs : List (List UInt8)} {c : List UInt8} {v u : List Val} {k : Nat}
theorem Zkw (hs : Yu s = true) (h : ZmE s f = true) : ∀ c ∈ f.cols,0 ≤ Xf (s.cols.map Col.name) c:=fun c hc=>by
 unfold ZmE at h
 rw [List.any_eq_true] at h
 obtain ⟨g,hg,e⟩:=h
 rw [Bool.and_eq_true,decide_eq_true_eq,decide_eq_true_eq] at e
 unfold Yu at hs
 simp only [Bool.and_eq_true,List.all_eq_true] at hs
 have h2:=hs.2.2 g hg
 unfold fkB at h2
 simp only [Bool.and_eq_true,List.all_eq_true,decide_eq_true_eq] at h2
 exact h2.2 c (by rw [e.2]; exact hc)
theorem ZtA {l : List (List UInt8)} : (Xf l c).toNat < l.length ∨ Xf l c < 0:=by
 unfold Xf Xe
 split
 ·rename_i i hi
  left
  have:=(List.findIdx?_eq_some_iff_getElem.1 hi).1
  omega
 ·right; decide
theorem Zkx (h : 0 ≤ Xf (s.cols.map Col.name) c) : (Xf (s.cols.map Col.name) c).toNat < s.cols.length:=by
 rcases ZtA (c:=c) (l:=s.cols.map Col.name) with k | k
 ·rwa [List.length_map] at k
 ·omega
theorem Zo0 (hs : Yu t = true) (h : Zeu t o f = true) : (∀ c ∈ f.cols,0 ≤ Xf (t.cols.map Col.name) c) ∧ (f.cols.length : Int) = o.key:=by
 unfold Zeu at h
 simp only [Bool.and_eq_true,decide_eq_true_eq] at h
 exact ⟨Zkw hs h.1,h.2.2.1⟩
theorem Zd4 {l : List Col} {i : Int} {x : Col} (h : l[i.toNat]? = some x) : Ze9 l i = x.kind:=by unfold Ze9; rw [h]
theorem Zhe {l : List Col} {i : Nat} {x : Col} (h : l[i]? = some x) : Ze9 l (i : Int) = x.kind:=Zd4 (by simpa using h)
theorem ZtB {j : Nat} {x z : Col} (h1 : t.cols[(Xf (t.cols.map Col.name) c).toNat]? = some x) (h2 : o.cols[j]? = some z) (h : x.kind = z.kind) : ZcR t o j c = true:=by
 unfold ZcR; rw [Zd4 h1,Zhe h2]; exact decide_eq_true h
theorem Zky {j : Nat} {x z : Col} (h1 : t.cols[(Xf (t.cols.map Col.name) c).toNat]? = some x) (h2 : o.cols[j]? = some z) (h : x.kind ≠ z.kind) : ZcR t o j c = false:=by
 unfold ZcR; rw [Zd4 h1,Zhe h2]; exact decide_eq_false h
theorem Zo1 {α : Type} {P : Nat → α → Bool} {l : List α} {x : α} (h : l[k]? = some x) (hx : P k x = false) : (l.zipIdx.all fun p=>P p.2 p.1) = false:=by
 rw [Bool.eq_false_iff]
 intro e
 rw [List.all_eq_true] at e
 have:=e (x,k) (List.mem_zipIdx_iff_getElem?.2 h)
 rw [hx] at this; cases this
theorem ZmG {α : Type} {P : Nat → α → Bool} {l : List α} (h : ∀ j,j < k → ∀ x,l[j]? = some x → P j x = true) (hk : l.length ≤ k) : (l.zipIdx.all fun p=>P p.2 p.1) = true:=by
 rw [List.all_eq_true]
 rintro ⟨x,j⟩ hm
 have hj:=List.mem_zipIdx_iff_getElem?.1 hm
 have:=(List.getElem?_eq_some_iff.1 hj).1
 exact h j (by simp at this ⊢; omega) x hj
theorem Zev {i : Int} {x : Val} (h : v[i.toNat]? = some x) : ZdO v i = x:=by unfold ZdO; rw [h]
theorem ZuQ {a b : Val} (h : cs[k]? = some c) (h1 : v[(Xf (s.cols.map Col.name) c).toNat]? = some a) (h2 : u[k]? = some b) (hne : a ≠ b) : false = mtB s cs v u:=by
 refine (decide_eq_false fun e=>hne ?_).symm
 have hk:=(List.getElem?_eq_some_iff.1 h).1
 have:=congrArg (fun (l : List Val)=>l[k]?) e
 simp only [Zb4,List.getElem?_map,h,Option.map_some,List.getElem?_take,if_pos hk,h2] at this
 rw [Zev h1] at this
 exact (Option.some.inj this).symm
theorem ZtC (hl : cs.length ≤ u.length) (h : ∀ j,j < k → ∀ c,cs[j]? = some c → u[j]? = some (ZdO v (Xf (s.cols.map Col.name) c))) (hk : cs.length ≤ k) : true = mtB s cs v u:=by
 refine (decide_eq_true ?_).symm
 apply List.ext_getElem?
 intro i
 unfold Zb4
 rw [List.getElem?_take,List.getElem?_map]
 split
 ·rename_i hi
  have hc : cs[i]? = some cs[i]:=List.getElem?_eq_getElem hi
  rw [h i (by omega) _ hc,hc]; rfl
 ·rw [List.getElem?_eq_none (by omega)]; rfl
theorem Zsm {a b : Val} (h : ∀ j,j < k → ∀ c,cs[j]? = some c → u[j]? = some (ZdO v (Xf (s.cols.map Col.name) c))) (hc : cs[k]? = some c) (h1 : v[(Xf (s.cols.map Col.name) c).toNat]? = some a) (h2 : u[k]? = some b) (e : a = b) :
  ∀ j,j < k + 1 → ∀ c,cs[j]? = some c → u[j]? = some (ZdO v (Xf (s.cols.map Col.name) c)):=fun j hj d hd=>by
 by_cases q : j = k
 ·subst q
  rw [hc] at hd
  obtain rfl:=Option.some.inj hd
  rw [Zev h1,h2,e]
 ·exact h j (by omega) d hd
end
end Go.Civ
