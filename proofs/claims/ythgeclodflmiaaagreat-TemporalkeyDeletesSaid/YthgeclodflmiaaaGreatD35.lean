/- Lemmas. -/
import Derived.Test.YthgeclodflmiaaaGreatD15
import Derived.Test.YthgeclodflmiaaaGreatD21
import Derived.Test.YthgeclodflmiaaaGreatD27
import Derived.Test.YthgeclodflmiaaaGreatD31
import Derived.Test.YthgeclodflmiaaaGreatD32
import Derived.Test.YthgeclodflmiaaaGreatD33
import Derived.Test.YthgeclodflmiaaaGreatD34
import Derived.Test.YthgeclodflmiaaaGreatProg
import Derived.KernelRfl
import Derived.WalkKit
set_option linter.unusedVariables false
set_option linter.unusedSimpArgs false
set_option maxRecDepth 100000
set_option maxHeartbeats 4000000
namespace Go.Civ
open Go.Proofs
theorem ZtL {G : GH} {w : World} (hG : G.In w) (t : Table) (ct : List Value) (hct : TableE.rep G t ct) : CL Tryz.prog (nat_lit 13) #[.agg ct.toArray] [] w G fun G' _ r=>∃ r0 r1,r = .tuple #[r0,r1] ∧ Is HRowE G' r0 (ZaR t) ∧ r1 = .bool (YI t):=by
 refine Y2 ft [] Tryz.func13 U U ?_
 have hS:=St.start (X:=[]) hG
 obtain ⟨v1,v2,v3,rfl,B1,A1,B2,A2,A3,B3⟩:=Zy hct
 refine Zw [Za t.s.name,v1,S t.s.key,v2,v3,S t.last] _ hS U U U (fun p1 w1 G1 L1 M1 C1 S1=>?_)
 refine WL.alloc S1 Zz U U (fun b1 w2 N1 S2=>?_)
 refine Zb S2 C1 [Za t.s.name,v1,S t.s.key,v2,v3,S t.last] Zm U U U U U ?_
 refine Zr S2 XF U U U (Zbv S2.imm t _ (Zo t B1 (A1.mono L1) B2 (A2.mono L1) (A3.mono L1) B3)) (fun w3 G2 S3 L2=>?_)
 refine WL.split (fun (h1 : (Zu t) = true)=>?_) (fun (h1 : (Zu t) = false)=>?_)
 ·refine Zb S3 (C1.mono L2) [Za t.s.name,v1,S t.s.key,v2,v3,S t.last] Zm U U U U U ?_
  have j1:=(L1.trans L2)
  refine Z9 S3 Zxa U U U (Zhy S3.imm t _ (Zo t B1 (A1.mono j1) B2 (A2.mono j1) (A3.mono j1) B3) ‹_›) ?_
  rintro w4 G3 _ ⟨r2,_,rfl,A4,rfl⟩ S4 L3
  obtain ⟨D1,rfl,R1⟩:=A4
  obtain ⟨v4,rfl,B4,B5,A5⟩:=QG R1
  refine WL.alloc S4 Yl U U (fun b2 w5 N2 S5=>?_)
  refine Zi S5 0 [S ((Y8 (Z5 t)).tx),S ((Y8 (Z5 t)).vd),v4] U U Yl U U (by simp only [ZA,A5.oneC] <;> rfl) U U U (fun w6 S6=>?_)
  obtain ⟨G4,L4,C2,S7⟩:=S6.shutB N2
  refine Qn (d:=14) U (fun (h2 : ((Z5 t).isSome) = true)=>?_) (fun (h2 : ((Z5 t).isSome) = false)=>?_)
  ·refine Zb S7 C2 [S ((Y8 (Z5 t)).tx),S ((Y8 (Z5 t)).vd),v4] Yl U U U U U ?_
   refine Z9 S7 ZzS U U U (Zwd S7.imm (Pt.mk ((Y8 (Z5 t)).tx) ((Y8 (Z5 t)).vd) ((Y8 (Z5 t)).v)) _ (Qv (Pt.mk ((Y8 (Z5 t)).tx) ((Y8 (Z5 t)).vd) ((Y8 (Z5 t)).v)) B4 B5 (A5.mono L4)) (ZiW ‹_› ‹_›).1 (ZiW ‹_› ‹_›).2) (fun w7 G5 r4 P2 S8 L5=>?_)
   obtain ⟨D2,rfl,R2⟩:=P2
   obtain ⟨v5,rfl,A6,B6,B7,B8,B9⟩:=Z7 R2
   refine Zi S8 0 [v5,S ((ZZ (some (Pt.mk ((Y8 (Z5 t)).tx) ((Y8 (Z5 t)).vd) ((Y8 (Z5 t)).v)))).r.d.a),S ((ZZ (some (Pt.mk ((Y8 (Z5 t)).tx) ((Y8 (Z5 t)).vd) ((Y8 (Z5 t)).v)))).r.d.b),S ((ZZ (some (Pt.mk ((Y8 (Z5 t)).tx) ((Y8 (Z5 t)).vd) ((Y8 (Z5 t)).v)))).r.x.a),S ((ZZ (some (Pt.mk ((Y8 (Z5 t)).tx) ((Y8 (Z5 t)).vd) ((Y8 (Z5 t)).v)))).r.x.b)] U U Zz U U (by simp only [ZA,A6.oneC] <;> rfl) U U U (fun w9 S9=>?_)
   exact Xr [.agg #[v5,S ((ZZ (some (Pt.mk ((Y8 (Z5 t)).tx) ((Y8 (Z5 t)).vd) ((Y8 (Z5 t)).v)))).r.d.a),S ((ZZ (some (Pt.mk ((Y8 (Z5 t)).tx) ((Y8 (Z5 t)).vd) ((Y8 (Z5 t)).v)))).r.d.b),S ((ZZ (some (Pt.mk ((Y8 (Z5 t)).tx) ((Y8 (Z5 t)).vd) ((Y8 (Z5 t)).v)))).r.x.a),S ((ZZ (some (Pt.mk ((Y8 (Z5 t)).tx) ((Y8 (Z5 t)).vd) ((Y8 (Z5 t)).v)))).r.x.b)], .bool false] S9 ⟨_,_,_,U,U,S9.loadA 0 _ _ _ 0 [v5,S ((ZZ (some (Pt.mk ((Y8 (Z5 t)).tx) ((Y8 (Z5 t)).vd) ((Y8 (Z5 t)).v)))).r.d.a),S ((ZZ (some (Pt.mk ((Y8 (Z5 t)).tx) ((Y8 (Z5 t)).vd) ((Y8 (Z5 t)).v)))).r.d.b),S ((ZZ (some (Pt.mk ((Y8 (Z5 t)).tx) ((Y8 (Z5 t)).vd) ((Y8 (Z5 t)).v)))).r.x.a),S ((ZZ (some (Pt.mk ((Y8 (Z5 t)).tx) ((Y8 (Z5 t)).vd) ((Y8 (Z5 t)).v)))).r.x.b)] U U U Zz U,⟨_,U,U⟩⟩ ⟨_,_,U,(Is.cast ⟨_,U,(ZT (HRow.mk ((ZZ (some (Pt.mk ((Y8 (Z5 t)).tx) ((Y8 (Z5 t)).vd) ((Y8 (Z5 t)).v)))).v) (Rect.mk (Span.mk ((ZZ (some (Pt.mk ((Y8 (Z5 t)).tx) ((Y8 (Z5 t)).vd) ((Y8 (Z5 t)).v)))).r.d.a) ((ZZ (some (Pt.mk ((Y8 (Z5 t)).tx) ((Y8 (Z5 t)).vd) ((Y8 (Z5 t)).v)))).r.d.b)) (Span.mk ((ZZ (some (Pt.mk ((Y8 (Z5 t)).tx) ((Y8 (Z5 t)).vd) ((Y8 (Z5 t)).v)))).r.x.a) ((ZZ (some (Pt.mk ((Y8 (Z5 t)).tx) ((Y8 (Z5 t)).vd) ((Y8 (Z5 t)).v)))).r.x.b)))) A6 B6 B7 B8 B9)⟩ (by exact (Zry ‹_› ‹_›).1)),(congrArg Value.bool (by exact (Zry ‹_› ‹_›).2))⟩
  refine WL.build _ [] [Ze,S 0,S 0,S 0,S 0] Zz U Za6 U U U U ?_
  refine Zi S7 0 [Ze,S 0,S 0,S 0,S 0] U U Zz U U U U U U (fun w10 S10=>?_)
  exact Xr [.agg #[Ze,S 0,S 0,S 0,S 0], .bool true] S10 ⟨_,_,_,U,U,S10.loadA 0 _ _ _ 0 [Ze,S 0,S 0,S 0,S 0] U U U Zz U,⟨_,U,U⟩⟩ ⟨_,_,U,(Is.cast ⟨_,U,(ZT (HRow.mk [] (Rect.mk (Span.mk 0 0) (Span.mk 0 0))) (Sl.nil ValE 32 G4) ZP ZP ZP ZP)⟩ (by exact (Zrz ‹_› ‹_›).1)),(congrArg Value.bool (by exact (Zrz ‹_› ‹_›).2))⟩
 refine WL.build _ [] [Ze,S 0,S 0,S 0,S 0] Zz U Za6 U U U U ?_
 refine Zi S3 0 [Ze,S 0,S 0,S 0,S 0] U U Zz U U U U U U (fun w11 S11=>?_)
 exact Xr [.agg #[Ze,S 0,S 0,S 0,S 0], .bool false] S11 ⟨_,_,_,U,U,S11.loadA 0 _ _ _ 0 [Ze,S 0,S 0,S 0,S 0] U U U Zz U,⟨_,U,U⟩⟩ ⟨_,_,U,(Is.cast ⟨_,U,(ZT (HRow.mk [] (Rect.mk (Span.mk 0 0) (Span.mk 0 0))) (Sl.nil ValE 32 G2) ZP ZP ZP ZP)⟩ (by exact (Zrx ‹_›).1)),(congrArg Value.bool (by exact (Zrx ‹_›).2))⟩
theorem Zj8 {G : GH} {w : World} (hG : G.In w) (t : Table) (ct : List Value) (hct : TableE.rep G t ct) : CL Tryz.prog (nat_lit 72) #[.agg ct.toArray] [] w G fun _ _ r=>r = .bool (YI t):=by
 refine Zh ft [] Tryz.func72 U U ?_
 have hS:=St.start (X:=[]) hG
 obtain ⟨v1,v2,v3,rfl,B1,A1,B2,A2,A3,B3⟩:=Zy hct
 refine Zw [Za t.s.name,v1,S t.s.key,v2,v3,S t.last] _ hS U U U (fun p1 w1 G1 L1 M1 C1 S1=>?_)
 refine Zb S1 C1 [Za t.s.name,v1,S t.s.key,v2,v3,S t.last] Zm U U U U U <| Z9 S1 Xa U U U (ZtL S1.imm t _ (Zo t B1 (A1.mono L1) B2 (A2.mono L1) (A3.mono L1) B3)) ?_
 rintro w2 G2 _ ⟨r2,_,rfl,A4,rfl⟩ S2 L2
 obtain ⟨D1,rfl,R1⟩:=A4
 obtain ⟨v4,rfl,A5,B4,B5,B6,B7⟩:=Z7 R1
 refine WL.alloc S2 Zz U U (fun b1 w3 N1 S3=>?_)
 refine Zi S3 0 [v4,S ((ZaR t).r.d.a),S ((ZaR t).r.d.b),S ((ZaR t).r.x.a),S ((ZaR t).r.x.b)] U U Zz U U (by simp only [ZA,A5.oneC] <;> rfl) U U U (fun w4 S4=>?_)
 obtain ⟨G3,L3,C2,S5⟩:=S4.shutB N1
 exact RB S5 U (by rfl)
theorem Zwq {G : GH} {w : World} (hG : G.In w) (t : Table) (e : Int) (ct : List Value) (hct : TableE.rep G t ct) (hv : e = 0 → Zu t = true) : CL Tryz.prog (nat_lit 106) #[.agg ct.toArray,S e] [] w G fun G' _ r=>∃ r0 r1,r = .tuple #[r0,r1] ∧ Is TableE G' r0 (ZaA t e) ∧ r1 = S (Zdu t e):=by
 refine Y2 ft [] Tryz.func106 U U ?_
 have hS:=St.start (X:=[]) hG
 obtain ⟨v1,v2,v3,rfl,B1,A1,B2,A2,A3,B3⟩:=Zy hct
 refine Zw [Za t.s.name,v1,S t.s.key,v2,v3,S t.last] _ hS U U U (fun p1 w1 G1 L1 M1 C1 S1=>?_)
 refine WL.alloc S1 Zm U U (fun b1 w2 N1 S2=>?_)
 refine Yr e 0 U U U (fun h1=>?_) (fun h1=>?_)
 ·refine WL.build _ [] [Za [],Ze,S 0,Ze,Ze,S 0] Zm U QF U U U U ?_
  refine Zi S2 0 [Za [],Ze,S 0,Ze,Ze,S 0] U U Zm U U U U U U (fun w3 S3=>?_)
  exact Xr [.agg #[Za [],Ze,S 0,Ze,Ze,S 0],S e] S3 ⟨_,_,_,U,U,S3.loadA 0 _ _ _ 0 [Za [],Ze,S 0,Ze,Ze,S 0] U U U Zm U,⟨_,U,U⟩⟩ ⟨_,_,U,(Is.cast ⟨_,U,(Zo (Table.mk (Schema.mk [] [] 0 []) [] 0) (by simp [reach]) (Sl.nil ColE 24 G1) ZP (Sl.nil ForeignE 40 G1) (Sl.nil HRowE 56 G1) ZP)⟩ (by exact (ZuU ‹_›).1)),(congrArg (Value.int .i64) (by exact (ZuU ‹_›).2))⟩
 refine Zb S2 C1 [Za t.s.name,v1,S t.s.key,v2,v3,S t.last] Zm U U U U U ?_
 refine Z9 S2 Zxa U U U (Zhy S2.imm t _ (Zo t B1 (A1.mono L1) B2 (A2.mono L1) (A3.mono L1) B3) (hv ‹_›)) ?_
 rintro w4 G2 _ ⟨r2,_,rfl,A4,rfl⟩ S4 L2
 obtain ⟨D1,rfl,R1⟩:=A4
 obtain ⟨v4,rfl,B4,B5,A5⟩:=QG R1
 refine WL.alloc S4 Yl U U (fun b2 w5 N2 S5=>?_)
 refine Zi S5 0 [S ((Y8 (Z5 t)).tx),S ((Y8 (Z5 t)).vd),v4] U U Yl U U (by simp only [ZA,A5.oneC] <;> rfl) U U U (fun w6 S6=>?_)
 obtain ⟨G3,L3,C2,S7⟩:=S6.shutB N2
 refine Qn (d:=16) U (fun (h2 : ((Z5 t).isSome) = true)=>?_) (fun (h2 : ((Z5 t).isSome) = false)=>?_)
 ·refine WL.build _ [] [Za [],Ze,S 0,Ze,Ze,S 0] Zm U QF U U U U ?_
  refine Zi S7 0 [Za [],Ze,S 0,Ze,Ze,S 0] U U Zm U U U U U U (fun w7 S8=>?_)
  exact Xr [.agg #[Za [],Ze,S 0,Ze,Ze,S 0],S 14] S8 ⟨_,_,_,U,U,S8.loadA 0 _ _ _ 0 [Za [],Ze,S 0,Ze,Ze,S 0] U U U Zm U,⟨_,U,U⟩⟩ ⟨_,_,U,(Is.cast ⟨_,U,(Zo (Table.mk (Schema.mk [] [] 0 []) [] 0) (by simp [reach]) (Sl.nil ColE 24 G3) ZP (Sl.nil ForeignE 40 G3) (Sl.nil HRowE 56 G3) ZP)⟩ (by exact (ZuV ‹_› ‹_›).1)),(congrArg (Value.int .i64) (by exact (ZuV ‹_› ‹_›).2))⟩
 refine Zb S7 (C1.mono (L2.trans L3)) [Za t.s.name,v1,S t.s.key,v2,v3,S t.last] Zm U U U U U ?_
 have j1:=((L1.trans L2).trans L3)
 refine Zi S7 0 [Za t.s.name,v1,S t.s.key,v2,v3,S t.last] U U Zm U U (by simp only [ZA,(A1.mono j1).oneC,(A2.mono j1).oneC,(A3.mono j1).oneC] <;> rfl) U U U (fun w9 S9=>?_)
 exact Xr [.agg #[Za t.s.name,v1,S t.s.key,v2,v3,S t.last],S 0] S9 ⟨_,_,_,U,U,S9.loadA 0 _ _ _ 0 [Za t.s.name,v1,S t.s.key,v2,v3,S t.last] U U U Zm U,⟨_,U,U⟩⟩ ⟨_,_,U,(Is.cast ⟨_,U,(Zo t B1 (A1.mono j1) B2 (A2.mono j1) (A3.mono j1) B3)⟩ (by exact (ZuW ‹_› ‹_›).1)),(congrArg (Value.int .i64) (by exact (ZuW ‹_› ‹_›).2))⟩
theorem Zex {G : GH} {w : World} (hG : G.In w) (t : Table) (tx : Int) (v : List Val) (d : Span) (ct : List Value) (hct : TableE.rep G t ct) (vv : Value) (hvv : Sl ValE 32 G vv v) (cd : List Value) (hcd : SpanE.rep G d cd) (htx64 : Z0 tx) : CL Tryz.prog (nat_lit 49) #[.agg ct.toArray,S tx,vv, .agg cd.toArray] [] w G fun G' _ r=>∃ r0 r1,r = .tuple #[r0,r1] ∧ Is TableE G' r0 (ZG t tx v d) ∧ r1 = S (ZaT t tx v d):=by
 refine Y2 ft [] Tryz.func49 U U ?_
 have hS:=St.start (X:=[]) hG
 obtain ⟨v1,v2,v3,rfl,B1,A1,B2,A2,A3,B3⟩:=Zy hct
 obtain ⟨rfl,B4,B5⟩:=ZI hcd
 refine Zw [Za t.s.name,v1,S t.s.key,v2,v3,S t.last] _ hS U U U (fun p1 w1 G1 L1 M1 C1 S1=>?_)
 refine Zw [S d.a,S d.b] _ S1 U U U (fun p2 w2 G2 L2 M2 C2 S2=>?_)
 refine WL.alloc S2 Zm U U (fun b1 w3 N1 S3=>?_)
 refine Zb S3 (C1.mono L2) [Za t.s.name,v1,S t.s.key,v2,v3,S t.last] Zm U U U U U ?_
 have j1:=(L1.trans L2)
 refine Zr S3 ZsC U U U (Zj8 S3.imm t _ (Zo t B1 (A1.mono j1) B2 (A2.mono j1) (A3.mono j1) B3)) (fun w4 G3 S4 L3=>?_)
 refine WL.split (fun (h1 : (YI t) = true)=>?_) (fun (h1 : (YI t) = false)=>?_)
 ·have j2:=(j1.trans L3)
  refine Zb S4 (C1.mono (L2.trans L3)) [Za t.s.name,v1,S t.s.key,v2,v3,S t.last] Zm U U U U U <| Zb S4 (C2.mono L3) [S d.a,S d.b] Z2 U U U U U <| Z9 S4 ZaI U U U (Zk3 S4.imm t tx v d _ (Zo t B1 (A1.mono j2) B2 (A2.mono j2) (A3.mono j2) B3) _ (hvv.mono j2) _ (Z1 d B4 B5) htx64) ?_
  rintro w5 G4 _ ⟨r2,_,rfl,A4,rfl⟩ S5 L4
  obtain ⟨D1,rfl,R1⟩:=A4
  obtain ⟨v4,v5,v6,rfl,B6,A5,B7,A6,A7,B8⟩:=Zy R1
  refine Z9 S5 Zy6 U U U (Zwq S5.imm (Yt t tx v d) (YS t tx v d) _ (Zo (Yt t tx v d) B6 A5 B7 A6 A7 B8) Zrw) ?_
  rintro w6 G5 _ ⟨r5,_,rfl,A8,rfl⟩ S6 L5
  obtain ⟨D2,rfl,R2⟩:=A8
  obtain ⟨v7,v9,v10,rfl,B9,A9,B10,A10,A11,Y6⟩:=Zy R2
  refine Zi S6 0 [Za ((ZaA (Yt t tx v d) (YS t tx v d)).s.name),v7,S ((ZaA (Yt t tx v d) (YS t tx v d)).s.key),v9,v10,S ((ZaA (Yt t tx v d) (YS t tx v d)).last)] U U Zm U U (by simp only [ZA,A9.oneC,A10.oneC,A11.oneC] <;> rfl) U U U (fun w7 S7=>?_)
  exact Xr [.agg #[Za ((ZaA (Yt t tx v d) (YS t tx v d)).s.name),v7,S ((ZaA (Yt t tx v d) (YS t tx v d)).s.key),v9,v10,S ((ZaA (Yt t tx v d) (YS t tx v d)).last)],S (Zdu (Yt t tx v d) (YS t tx v d))] S7 ⟨_,_,_,U,U,S7.loadA 0 _ _ _ 0 [Za ((ZaA (Yt t tx v d) (YS t tx v d)).s.name),v7,S ((ZaA (Yt t tx v d) (YS t tx v d)).s.key),v9,v10,S ((ZaA (Yt t tx v d) (YS t tx v d)).last)] U U U Zm U,⟨_,U,U⟩⟩ ⟨_,_,U,(Is.cast ⟨_,U,(Zo (ZaA (Yt t tx v d) (YS t tx v d)) B9 A9 B10 A10 A11 Y6)⟩ (by exact (ZiV ‹_›).1)),(congrArg (Value.int .i64) (by exact (ZiV ‹_›).2))⟩
 refine WL.build _ [] [Za [],Ze,S 0,Ze,Ze,S 0] Zm U QF U U U U ?_
 refine Zi S4 0 [Za [],Ze,S 0,Ze,Ze,S 0] U U Zm U U U U U U (fun w9 S8=>?_)
 exact Xr [.agg #[Za [],Ze,S 0,Ze,Ze,S 0],S 1] S8 ⟨_,_,_,U,U,S8.loadA 0 _ _ _ 0 [Za [],Ze,S 0,Ze,Ze,S 0] U U U Zm U,⟨_,U,U⟩⟩ ⟨_,_,U,(Is.cast ⟨_,U,(Zo (Table.mk (Schema.mk [] [] 0 []) [] 0) (by simp [reach]) (Sl.nil ColE 24 G3) ZP (Sl.nil ForeignE 40 G3) (Sl.nil HRowE 56 G3) ZP)⟩ (by exact (Zrv ‹_›).1)),(congrArg (Value.int .i64) (by exact (Zrv ‹_›).2))⟩
end Go.Civ
namespace Go.Civ
open Go.RowKit
set_option linter.unusedVariables false
def Zbh (K : Nat) (l : List HRow) (tx : Int) (v : List Val) (d : Span) (k : Nat) : List HRow:=⟨v,⟨d,⟨tx,253402300800⟩⟩⟩ :: (l.take k).flatMap (Zc8 K v tx d)
section
variable {K k : Nat} {l : List HRow} {tx : Int} {v : List Val} {d : Span} {r : HRow}
theorem ZiX (h : l[k]? = some r) : Zbh K l tx v d (k + 1) = Zbh K l tx v d k ++ Zc8 K v tx d r:=by
 unfold Zbh
 rw [List.take_add_one,h]; simp
theorem ZcT (h : l[k]? = some r) (hc : r.r.x.b ≠ 253402300800 ∨ decide (r.v.take K = v.take K) = false ∨ decide (Yh 3 [r.r.d] [d] = [r.r.d]) = true) : Zbh K l tx v d (k + 1) = Zbh K l tx v d k ++ [r]:=by
 rw [ZiX h]
 unfold Zc8
 rw [if_neg]
 rintro ⟨z1,z2,z3⟩
 rcases hc with hc | hc | hc
 ·exact hc z1
 ·unfold Zj6 at z2; rw [z2] at hc; cases hc
 ·exact z3 (of_decide_eq_true hc)
theorem Zk6 (h : l[k]? = some r) (h1 : r.r.x.b = 253402300800) (h2 : decide (r.v.take K = v.take K) = true) (h3 : decide (Yh 3 [r.r.d] [d] = [r.r.d]) = false) :
  Zbh K l tx v d (k + 1) = (Zbh K l tx v d k ++ X1 r.v (Yh 3 [r.r.d] [d]) tx 253402300800) ++ [⟨r.v,⟨r.r.d,⟨r.r.x.a,tx⟩⟩⟩]:=by
 rw [ZiX h,List.append_assoc]
 unfold Zc8
 rw [if_pos ⟨h1,h2,of_decide_eq_false h3⟩]
theorem Zr3 (h : l.length ≤ k) : Zbh K l tx v d k = ZdE K l tx v d:=by unfold Zbh ZdE; rw [List.take_of_length_le h]
theorem Zr4 (hg : Z8 l) (hd : ZN d = true) : (Zbh K l tx v d k).length ≤ 3 * k + 1:=by
 unfold Zbh
 rw [List.length_cons]
 have:=ZnZ (k:=K) (v:=v) (tx:=tx) hg hd k
 omega
theorem ZtM {r : HRow} (hr : YA r = true) (hd : ZN d = true) : (Yh 3 [r.r.d] [d]).length ≤ 4:=by
 have h:=ZqU (kind:=3) (a:=[r.r.d]) (b:=[d])
 simpa using h
theorem ZtN {α : Type} {l : List α} {x : α} (h : l[k]? = some x) : l.set k x = l:=by
 obtain ⟨h1,h2⟩:=List.getElem?_eq_some_iff.1 h
 rw [← h2]; exact List.set_getElem_self h1
theorem ZtO {t : Table} (H : InsOk t tx v d) : t.s.key ≤ v.length:=by
 have h1:=Zca H.row
 have h2:=Zrq (Xb H.valid).1
 omega
theorem ZxU {t : Table} (H : InsOk t tx v d) : ∀ r ∈ ZdE K t.rows tx v d,r.v.length ≤ 1000:=fun r hr=>by
 have h:=Zg8 H r hr
 exact Nat.le_trans (Zca (Q5 h).1).1 (by decide)
end
end Go.Civ
namespace Go.Civ
open Go.RowKit
set_option linter.unusedVariables false
def ZmU (x : HRow) : Bool:=decide (20 < (x.v.length : Int))
def Zbx (t : Table) : Bool:=decide ((t.rows.length : Int) ≤ 24) && decide ((t.s.cols.length : Int) ≤ 10) && decide ((t.s.fks.length : Int) ≤ 10) && !t.rows.any ZmU
def ZaU (t : Table) : Bool:=decide (t.s.name = []) && decide (t.rows.length = 0) && decide (t.last = 0)
def ZfE (a b : Table) : Bool:=decide (a.s.name = b.s.name) && decide (a.last = b.last) && decide (a.rows = b.rows)
theorem Zwr : Cmp.b .eql (((ZG (ZO Zad) 5 (Zn [97]) ⟨0,10⟩).rows.length : Nat) : Int) 1 = true:=by rw [Zg9.1]; rfl
theorem ZmV : ZaU Qs = true:=rfl
theorem Zr5 (t : Table) : ZfE t t = true:=by unfold ZfE; simp
end Go.Civ
namespace Go.Civ
open Go.RowKit
set_option linter.unusedVariables false
def Yq (d : Nat) (t : Table) (k tx : Int) (v : List Val) (c : Cond) (mask : List Bool) (p : Span) : Table:=if k = 1 then Yt t tx v p else if k = 2 then Z0d d t tx c v mask p else ZM d t tx c p
def Xt (d : Nat) (t : Table) (k tx : Int) (v : List Val) (c : Cond) (mask : List Bool) (p : Span) : Int:=if k = 1 then YS t tx v p else if k = 2 then Z0e d t tx c v mask p else Zar d t tx c p
section
variable {d : Nat} {t : Table} {k tx : Int} {v : List Val} {c : Cond} {mask : List Bool} {p : Span}
theorem Znj (h : ¬ k = 1) (h2 : ¬ k = 2) : ZM d t tx c p = Yq d t k tx v c mask p ∧ Zar d t tx c p = Xt d t k tx v c mask p:=by unfold Yq Xt; rw [if_neg h,if_neg h,if_neg h2,if_neg h2]; exact ⟨rfl,rfl⟩
end
end Go.Civ
namespace Go.Civ
open Go.RowKit
set_option linter.unusedVariables false
section
variable {t o : Table} {f : Foreign} {tx : Int} {v : List Val} {d : Span}
theorem ZrX (h : Zu t = true) (h2 : (XU t).isSome = true) : YI t = false:=by rw [(ZnY h).1,h2]; rfl
theorem ZpE (h : Zu t = true) (h2 : (XU t).isSome = false) : YI t = true:=by rw [(ZnY h).1,h2]; rfl
end
end Go.Civ
set_option linter.unusedVariables false
set_option linter.unusedSimpArgs false
set_option maxRecDepth 100000
set_option maxHeartbeats 4000000
namespace Go.Civ
open Go.Proofs
theorem Zuk {G : GH} {w : World} (hG : G.In w) (l : List Table) (pf : Table → Bool) (vl : Value) (hvl : Sl TableE 104 G vl l) (fid : Nat) (fcap : Array Value) (hf : FnB Tryz.prog (Is TableE) fid fcap G (fun x=>x ∈ l) pf) : CL Tryz.prog (nat_lit 45) #[vl, .func (.func fid) #[] fcap] [] w G fun _ _ r=>r = S (Qi pf l):=by
 refine Zh ft [] Tryz.func45 U U ?_
 have hS:=St.start (X:=[]) hG
 have V1:=hvl.bound
 refine Zl hvl Qw U U ?_
 refine LP.go ft [] (fun m ρ1 w1=>∃ (k1 : Nat),∃ (G1 : GH),m = l.length - k1 ∧ G.le G1 ∧ St w [] G G1 [] w1 ∧ FR ρ1 [(0,vl),(1, .func (.func fid) #[] fcap),(7,S (l.length : Int)),(8,S (k1 : Int))] ∧ k1 ≤ l.length ∧ ∀ j,j < k1 → ∀ x,l[j]? = some x → pf x = false) _ ⟨0,G,U,(G.le_refl),hS,(Zq U),(by omega),(by intro j hj; omega)⟩ ?_
 rintro m ρ1 w1 ⟨k1,G1,rfl,L1,S1,F9,f1,f2⟩
 refine F9.set ?_
 clear F9
 refine Zp (k1 : Int) (l.length : Int) U U U (fun h1=>?_) (fun h1=>?_)
 ·refine WL.indexAddr (hvl.mono L1) k1 (by omega) Qw Zm U U U U (fun p1 x1 U1 E1=>?_)
  obtain ⟨D1,C1,R1⟩:=E1
  obtain ⟨v1,v2,v3,rfl,B1,A1,B2,A2,A3,B3⟩:=Zy R1
  refine Zb S1 C1 [Za x1.s.name,v1,S x1.s.key,v2,v3,S x1.last] Zm U U U U U ?_
  refine Zr S1 hf.body U U U (hf.call _ _ (.agg #[Za x1.s.name,v1,S x1.s.key,v2,v3,S x1.last]) x1 L1 S1.imm (List.mem_of_getElem? U1) ⟨_,U,(Zo x1 B1 A1 B2 A2 A3 B3)⟩) (fun w2 G2 S2 L2=>?_)
  refine WL.split (fun (h2 : (pf x1) = true)=>?_) (fun (h2 : (pf x1) = false)=>?_)
  ·exact RI S2 U (by exact (QO _ ‹_› ‹_› ‹_›).symm)
  refine Zj k1 (by have:=Zc; omega) U U U ?_
  exact BK.mk' _ ⟨k1 + 1,G2,U,(L1.trans L2),S2,(Zq U),(by omega),(by exact ZW ‹_› ‹_› ‹_›)⟩ (show l.length - (k1 + 1) < l.length - k1 by omega)
 exact RI S1 U (by exact (Q2 ‹_› (by omega)).symm)
theorem Zh0 {G : GH} {w : World} (hG : G.In w) (l : List Table) (pf : Table → Bool) (vl : Value) (hvl : Sl TableE 104 G vl l) (fid : Nat) (fcap : Array Value) (hf : FnB Tryz.prog (Is TableE) fid fcap G (fun x=>x ∈ l) pf) : CL Tryz.prog (nat_lit 41) #[vl, .func (.func fid) #[] fcap] [] w G fun _ _ r=>r = .bool (l.any pf):=by
 refine Zh ft [] Tryz.func41 U U ?_
 have hS:=St.start (X:=[]) hG
 refine Zr hS Zjm U U U (Zuk hS.imm l pf _ hvl fid fcap (hf.up (G.le_refl))) (fun w1 G1 S1 L1=>?_)
 refine Yf .geq U .i64 (Qi pf l) 0 U U U ?_
 exact RB S1 U (by exact ZcH _ _)
end Go.Civ
namespace Go.Civ
open Go.RowKit
set_option linter.unusedVariables false
theorem Zw0 {G : GH} : TableE.rep G Qs [Za [], .slice none 0 0, .int .i64 0, .slice none 0 0, .slice none 0 0, .int .i64 0]:=Zo Qs (by simp [reach]) (Sl.nil ..) (by constructor <;> decide) (Sl.nil ..) (Sl.nil ..) (by constructor <;> decide)
def ZgD (t o : Table) : Bool:=decide (o.s.name = t.s.name)
def YV (t : Table) (l : List Table) : List Table:=l.filter fun o=>!ZgD t o
def toB (t : Table) (f : Foreign) : Bool:=decide (f.table = t.s.name)
def lkB (t o : Table) (f : Foreign) : Bool:=!toB t f || XN o.s t.s f
def lkA (t o : Table) : Bool:=o.s.fks.all (lkB t o)
def lks (t o : Table) (l : List Foreign) : List Link:=(l.filter (toB t)).map fun f=>Link.mk o Qs f
def QA (t : Table) (l : List Table) : List Link:=l.flatMap fun o=>lks t o o.s.fks
def Zul (t w : Table) (x : Link) : Link:=Link.mk (if ZgD t x.t then w else x.t) w x.f
def lkG (t w : Table) (tx : Int) (x : Link) : Bool:=(Zcc (Zul t w x) tx).isSome
def XQ (t : Table) (l : List Table) : Bool:=YI t && (decide (l.length ≤ 8) && (l.all Zu && (YV t l ++ [t]).all (lkA t)))
def Zhf (t w : Table) (tx : Int) (l : List Table) : Bool:=(QA t (YV t l ++ [t])).any (lkG t w tx)
def kdT (t w : Table) (e tx : Int) (l : List Table) : Table:=if XQ t l then (if e = 0 then (if Zhf t w tx l then Qs else w) else Qs) else Qs
def kdE (t w : Table) (e tx : Int) (l : List Table) : Int:=if XQ t l then (if e = 0 then (if Zhf t w tx l then 15 else 0) else e) else 1
def ZV (d : Nat) (t : Table) (tx : Int) (c : Cond) (p : Span) (l : List Table) : Table:=kdT t (ZM d t tx c p) (Zar d t tx c p) tx l
def XO (d : Nat) (t : Table) (tx : Int) (c : Cond) (p : Span) (l : List Table) : Int:=kdE t (ZM d t tx c p) (Zar d t tx c p) tx l
section
variable {d : Nat} {t w o : Table} {e tx : Int} {c : Cond} {p : Span} {l L : List Table} {x : Link} {f : Foreign} {k j : Nat}
theorem Zll (h : YI t = false) : XQ t l = false:=by unfold XQ; rw [h]; rfl
theorem Zvd (h : 8 < (l.length : Int)) : XQ t l = false:=by unfold XQ; rw [decide_eq_false (show ¬ l.length ≤ 8 by omega)]; simp
theorem ZpG (h : l[k]? = some o) (h2 : Zu o = false) : XQ t l = false:=by
 have : l.all Zu = false:=List.all_eq_false.2 ⟨o,List.mem_of_getElem? h,by rw [h2]; simp⟩
 unfold XQ; rw [this]; simp
theorem ZpH (h : (YV t l ++ [t])[k]? = some o) (h2 : o.s.fks[j]? = some f) (h3 : f.table = t.s.name) (h4 : XN o.s t.s f = false) : XQ t l = false:=by
 have h5 : lkA t o = false:=List.all_eq_false.2 ⟨f,List.mem_of_getElem? h2,by unfold lkB toB; rw [decide_eq_true h3,h4]; simp⟩
 have : (YV t l ++ [t]).all (lkA t) = false:=List.all_eq_false.2 ⟨o,List.mem_of_getElem? h,by rw [h5]; simp⟩
 unfold XQ; rw [this]; simp
theorem Zjd {α : Type} {P : α → Bool} {l : List α} (h : ∀ j,j < k → ∀ x,l[j]? = some x → P x = true) (hk : l.length ≤ k) : l.all P = true:=List.all_eq_true.2 fun x hx=>by
 obtain ⟨i,hi⟩:=List.getElem?_of_mem hx
 have:=(List.getElem?_eq_some_iff.1 hi).1
 exact h i (by omega) x hi
theorem Zz1 (h : YI t = true) (h2 : ¬ 8 < (l.length : Int)) (h3 : ∀ j,j < k → ∀ x,l[j]? = some x → Zu x = true) (h4 : l.length ≤ k) (h5 : ∀ i,i < j → ∀ x,(YV t l ++ [t])[i]? = some x → lkA t x = true) (h6 : (YV t l ++ [t]).length ≤ j) : XQ t l = true:=by
 unfold XQ
 rw [h,decide_eq_true (show l.length ≤ 8 by omega),Zjd h3 h4,Zjd h5 h6]; rfl
theorem Zno (h : ∀ j,j < k → ∀ f,o.s.fks[j]? = some f → lkB t o f = true) (hk : o.s.fks.length ≤ k) : lkA t o = true:=Zjd h hk
theorem ZpI (h : ¬ f.table = t.s.name) : lkB t o f = true:=by unfold lkB toB; rw [decide_eq_false h]; rfl
theorem ZfK (h : XN o.s t.s f = true) : lkB t o f = true:=by unfold lkB; rw [h]; simp
theorem ZgE (h : XQ t l = false) : Qs = ZV d t tx c p l ∧ 1 = XO d t tx c p l:=by unfold ZV XO kdT kdE; rw [h]; exact ⟨rfl,rfl⟩
theorem Zym (h : XQ t l = true) (h2 : Zar d t tx c p ≠ 0) : Qs = ZV d t tx c p l ∧ Zar d t tx c p = XO d t tx c p l:=by
 unfold ZV XO kdT kdE; rw [h,if_pos rfl,if_pos rfl,if_neg h2,if_neg h2]; exact ⟨rfl,rfl⟩
theorem ZpJ (h : XQ t l = true) (h2 : Zar d t tx c p = 0) (h3 : (QA t (YV t l ++ [t]))[k]? = some x) (h4 : lkG t (ZM d t tx c p) tx x = true) : Qs = ZV d t tx c p l ∧ 15 = XO d t tx c p l:=by
 have : Zhf t (ZM d t tx c p) tx l = true:=List.any_eq_true.2 ⟨x,List.mem_of_getElem? h3,h4⟩
 unfold ZV XO kdT kdE; rw [h,if_pos rfl,if_pos rfl,if_pos h2,if_pos h2,this]; exact ⟨rfl,rfl⟩
theorem Zyn (h : XQ t l = true) (h2 : Zar d t tx c p = 0) (h3 : ∀ j,j < k → ∀ x,(QA t (YV t l ++ [t]))[j]? = some x → lkG t (ZM d t tx c p) tx x = false) (h4 : (QA t (YV t l ++ [t])).length ≤ k) : ZM d t tx c p = ZV d t tx c p l ∧ 0 = XO d t tx c p l:=by
 have : Zhf t (ZM d t tx c p) tx l = false:=List.any_eq_false.2 fun x hx=>by
  obtain ⟨i,hi⟩:=List.getElem?_of_mem hx
  have:=(List.getElem?_eq_some_iff.1 hi).1
  rw [h3 i (by omega) x hi]; simp
 unfold ZV XO kdT kdE; rw [h,if_pos rfl,if_pos rfl,if_pos h2,if_pos h2,this]; exact ⟨rfl,rfl⟩
theorem Zz2 (h : o.s.fks[k]? = some f) (h2 : f.table = t.s.name) : lks t o (o.s.fks.take (k + 1)) = lks t o (o.s.fks.take k) ++ [Link.mk o Qs f]:=by
 rw [List.take_add_one,h]; unfold lks toB; simp [List.filter_append,h2]
theorem Zz3 (h : o.s.fks[k]? = some f) (h2 : ¬ f.table = t.s.name) : lks t o (o.s.fks.take (k + 1)) = lks t o (o.s.fks.take k):=by
 rw [List.take_add_one,h]; unfold lks toB; simp [List.filter_append,h2]
theorem ZkI (h : L[k]? = some o) (hj : o.s.fks.length ≤ j) : QA t (L.take (k + 1)) = QA t (L.take k) ++ lks t o (o.s.fks.take j):=by
 rw [List.take_of_length_le hj,List.take_add_one,h]; unfold QA; simp [List.flatMap_append]
theorem Zoo (fs : List Foreign) : (lks t o fs).length ≤ fs.length:=by unfold lks; rw [List.length_map]; exact List.length_filter_le _ _
theorem Zve (h : Zu o = true) : o.s.fks.length ≤ 8:=by
 have h:=(Xb h).1
 unfold YB Qx at h
 simp only [Bool.and_eq_true,decide_eq_true_eq] at h
 exact h.1.1.2
theorem Zum (hv : ∀ x ∈ L,Zu x = true) (k : Nat) : (QA t (L.take k)).length ≤ 8 * k:=by
 induction k with
 | zero=>simp [QA]
 | succ k ih=>
  cases h : L[k]? with
  | none=>rw [List.take_add_one,h]; simp; omega
  | some o=>
   rw [ZkI h (Nat.le_refl _),List.length_append]
   have h1:=Zoo (t:=t) (o:=o) (o.s.fks.take o.s.fks.length)
   have h2:=Zve (hv o (List.mem_of_getElem? h))
   rw [List.length_take] at h1
   omega
theorem Zop : (YV t l).length ≤ l.length:=List.length_filter_le _ _
theorem Zsb (ht : Zu t = true) (h : ∀ j,j < k → ∀ x,l[j]? = some x → Zu x = true) (hk : l.length ≤ k) : ∀ x ∈ YV t l ++ [t],Zu x = true:=fun x hx=>by
 rcases List.mem_append.1 hx with hx | hx
 ·exact List.all_eq_true.1 (Zjd h hk) x (List.mem_filter.1 hx).1
 ·rw [List.mem_singleton.1 hx]; exact ht
theorem ZpK (h : YI t = true) : Zu t = true:=by
 cases e : Zu t with
 | true=>rfl
 | false=>rw [(ZmS e).1] at h; cases h
theorem Zhg (h : x.t.s.name = t.s.name) : lkG t w tx x = (Zcc (Link.mk w w x.f) tx).isSome:=by unfold lkG Zul ZgD; rw [decide_eq_true h,if_pos rfl]
theorem Zhh (h : ¬ x.t.s.name = t.s.name) : lkG t w tx x = (Zcc (Link.mk x.t w x.f) tx).isSome:=by unfold lkG Zul ZgD; rw [decide_eq_false h]; rfl
theorem Zun (h : x ∈ QA t L) : x.t ∈ L ∧ x.f ∈ x.t.s.fks ∧ toB t x.f = true:=by
 unfold QA lks at h
 obtain ⟨o,ho,h⟩:=List.mem_flatMap.1 h
 obtain ⟨f,hf,rfl⟩:=List.mem_map.1 h
 exact ⟨ho,(List.mem_filter.1 hf).1,(List.mem_filter.1 hf).2⟩
structure DelW (t w : Table) (tx : Int) : Prop where
 valid : Zu w = true
 s : w.s = t.s
 tx : Z0 tx ∧ tx ≤ 253402300800
theorem Zvf (h : Zar d t tx c p = 0) : DelW t (ZM d t tx c p) tx:=by
 have H:=(Zrn h).2
 have hb:=Qm H.ok.inst
 exact ⟨H.new.valid,by rw [H.new.is],⟨by constructor <;> omega,by omega⟩⟩
theorem Znp (h : lkA t o = true) (hf : f ∈ o.s.fks) (h2 : toB t f = true) : XN o.s t.s f = true:=by
 have:=List.all_eq_true.1 h f hf
 unfold lkB at this
 rw [h2] at this
 simpa using this
theorem Zsc (W : DelW t w tx) (hv : Zu o = true) (h : lkA t o = true) (hf : f ∈ o.s.fks) (h2 : toB t f = true) : LinkOk (Link.mk o w f):=
 Zhc hv W.valid (by rw [W.s]; exact Znp h hf h2)
theorem Zvg (W : DelW t w tx) (hv : ∀ x ∈ YV t l ++ [t],Zu x = true) (h : XQ t l = true) (hx : (QA t (YV t l ++ [t]))[k]? = some x) : LinkOk (Link.mk x.t w x.f) ∧ (x.t.s.name = t.s.name → LinkOk (Link.mk w w x.f)):=by
 obtain ⟨h1,h2,h3⟩:=Zun (List.mem_of_getElem? hx)
 unfold XQ at h
 simp only [Bool.and_eq_true] at h
 have h4:=List.all_eq_true.1 h.2.2.2 _ h1
 refine ⟨Zsc W (hv _ h1) h4 h2 h3,fun hn=>?_⟩
 have ht : x.t = t:=by
  rcases List.mem_append.1 h1 with h1 | h1
  ·have:=(List.mem_filter.1 h1).2
   unfold ZgD at this
   rw [decide_eq_true hn] at this; cases this
  ·exact List.mem_singleton.1 h1
 rw [ht] at h2 h4
 exact Zhc W.valid W.valid (by rw [W.s]; exact Znp h4 h2 h3)
def ZcW (t : Table) (l : List Table) (tx : Int) (w : Table) (e : Int) (g : Table) (ge : Int) : Prop:=g = kdT t w e tx l ∧ ge = kdE t w e tx l ∧ (e = 0 → DelW t w tx)
def YM (t w : Table) (e : Int) (l : List Table) : List Table:=(if e = 0 then w else t) :: YV t l
def gpF (t w : Table) (e tx : Int) (x : Table) (f : Foreign) : Bool:=toB t f && (decide (e = 0) && (Qq x w f tx).isSome)
def gpO (t w : Table) (e tx : Int) (x : Table) : Bool:=x.s.fks.any (gpF t w e tx x)
variable {g : Table} {ge : Int} {v : List Val} {mask : List Bool}
theorem Zyo (t : Table) (l : List Table) (d : Nat) (tx : Int) (v : List Val) (c : Cond) (mask : List Bool) (p : Span) : ZcW t l tx (Yq d t 3 tx v c mask p) (Xt d t 3 tx v c mask p) (ZV d t tx c p l) (XO d t tx c p l):=by
 have h:=Znj (d:=d) (t:=t) (tx:=tx) (v:=v) (c:=c) (mask:=mask) (p:=p) (k:=3) (by decide) (by decide)
 rw [← h.1,← h.2]
 exact ⟨rfl,rfl,Zvf⟩
theorem Zje (H : ZcW t l tx w e g ge) (h : XQ t l = false) : ge = 1 ∧ ZaU g = true:=by
 obtain ⟨h1,h2, -⟩:=H
 unfold kdT at h1; unfold kdE at h2
 rw [h] at h1 h2
 exact ⟨h2,by rw [h1]; exact ZmV⟩
theorem Zvh (H : ZcW t l tx w e g ge) (h : Zu t = false) : ge = 1 ∧ ZaU g = true:=Zje H (Zll (ZmS h).1)
theorem Zvi (H : ZcW t l tx w e g ge) (h : l.any (fun x=>!Zu x) = true) : ge = 1 ∧ ZaU g = true:=by
 obtain ⟨o,ho,h2⟩:=List.any_eq_true.1 h
 obtain ⟨i,hi⟩:=List.getElem?_of_mem ho
 exact Zje H (ZpG hi (by simpa using h2))
theorem Zvj (H : ZcW t l tx w e g ge) (h : Zu t = true) (h2 : (XU t).isSome = true) : ge = 1 ∧ ZaU g = true:=Zje H (Zll (ZrX h h2))
theorem Znq (H : ZcW t l tx w e g ge) {x : Table} (hx : x ∈ YM t w e l) : ∃ y ∈ YV t l ++ [t],x.s = y.s:=by
 rcases List.mem_cons.1 hx with rfl | hx
 ·refine ⟨t,by simp,?_⟩
  split
  ·rename_i he; exact (H.2.2 he).s
  ·rfl
 ·exact ⟨x,List.mem_append_left _ hx,rfl⟩
theorem Zlm (H : ZcW t l tx w e g ge) (h : (YM t w e l)[k]? = some o) (h2 : o.s.fks[j]? = some f) (h3 : f.table = t.s.name) (h4 : XN o.s t.s f = false) : ge = 1 ∧ ZaU g = true:=by
 obtain ⟨y,hy,es⟩:=Znq H (List.mem_of_getElem? h)
 obtain ⟨i,hi⟩:=List.getElem?_of_mem hy
 rw [es] at h2 h4
 exact Zje H (ZpH hi h2 h3 h4)
theorem Zsd (H : ZcW t l tx w e g ge) (h : Zu t = true) (h2 : (XU t).isSome = false) (h3 : l.any (fun x=>!Zu x) = false) (h4 : (l.length : Int) ≤ 3) (h5 : ∀ j,j < k → ∀ x,(YM t w e l)[j]? = some x → lkA t x = true) (h6 : (YM t w e l).length ≤ k) : XQ t l = true:=by
 have ha:=Zjd h5 h6
 unfold XQ
 rw [ZpE h h2,decide_eq_true (show l.length ≤ 8 by omega)]
 rw [show l.all Zu = true from List.all_eq_true.2 fun x hx=>by simpa using List.any_eq_false.1 h3 x hx]
 simp only [Bool.true_and]
 unfold YM at ha
 rw [List.all_cons,Bool.and_eq_true] at ha
 rw [List.all_append,ha.2,List.all_cons,List.all_nil,Bool.and_true,Bool.true_and]
 refine Eq.trans ?_ ha.1
 split
 ·rename_i he
  have:=(H.2.2 he).s
  unfold lkA
  rw [this]
  congr 1
  funext f
  unfold lkB
  rw [this]
 ·rfl
theorem Zw1 (P : Link → Bool) : (QA t L).any P = L.any fun o=>o.s.fks.any fun f=>toB t f && P (Link.mk o Qs f):=by
 unfold QA lks
 rw [List.any_flatMap]
 congr 1
 funext o
 rw [List.any_map,List.any_filter]
 rfl
theorem ZjG {α : Type} {l : List α} {P Q : α → Bool} (h : ∀ x ∈ l,P x = Q x) : l.any P = l.any Q:=by
 induction l with
 | nil=>rfl
 | cons a l ih=>rw [List.any_cons,List.any_cons,h a (List.mem_cons_self),ih fun x hx=>h x (List.mem_cons_of_mem _ hx)]
theorem Zvk (W : DelW t w tx) (hv : ∀ x ∈ YV t l ++ [t],Zu x = true) (h : XQ t l = true) : Zhf t w tx l = (YM t w 0 l).any (gpO t w 0 tx):=by
 unfold XQ at h
 simp only [Bool.and_eq_true] at h
 have ha:=h.2.2.2
 unfold Zhf
 rw [Zw1,List.any_append,List.any_cons,List.any_nil,Bool.or_false,Bool.or_comm]
 unfold YM
 rw [if_pos rfl,List.any_cons]
 congr 1
 ·unfold gpO
  rw [W.s]
  refine ZjG fun f hf=>?_
  unfold gpF
  cases q : toB t f with
  | false=>rfl
  | true=>
   have hk : LinkOk (Link.mk w w f):=Zhc W.valid W.valid (by rw [W.s]; exact Znp (List.all_eq_true.1 ha t (by simp)) hf q)
   rw [Zhg (x:=Link.mk t Qs f) rfl]
   simp only [decide_true,Bool.true_and]
   rw [← Zof hk]
 ·refine ZjG fun o ho=>?_
  unfold gpO
  refine ZjG fun f hf=>?_
  unfold gpF
  cases q : toB t f with
  | false=>rfl
  | true=>
   have hm : o ∈ YV t l ++ [t]:=List.mem_append_left _ ho
   have hk : LinkOk (Link.mk o w f):=Zsc W (hv o hm) (List.all_eq_true.1 ha o hm) hf q
   have hn : ¬ o.s.name = t.s.name:=by
    have:=(List.mem_filter.1 ho).2
    unfold ZgD at this
    simpa using this
   rw [Zhh (x:=Link.mk o Qs f) hn]
   simp only [decide_true,Bool.true_and]
   rw [← Zof hk]
theorem Ze1 (h : Zu t = true) (h3 : l.any (fun x=>!Zu x) = false) : ∀ x ∈ YV t l ++ [t],Zu x = true:=fun x hx=>by
 rcases List.mem_append.1 hx with hx | hx
 ·simpa using List.any_eq_false.1 h3 x (List.mem_filter.1 hx).1
 ·rw [List.mem_singleton.1 hx]; exact h
theorem Zjf (H : ZcW t l tx w e g ge) (hok : XQ t l = true) (he : e ≠ 0) : ge = e ∧ ZaU g = true:=by
 obtain ⟨h1,h2, -⟩:=H
 unfold kdT at h1; unfold kdE at h2
 rw [hok,if_pos rfl,if_neg he] at h1 h2
 exact ⟨h2,by rw [h1]; exact ZmV⟩
theorem ZpL (H : ZcW t l tx w e g ge) (hok : XQ t l = true) (h : Zu t = true) (h3 : l.any (fun x=>!Zu x) = false) (he : e = 0) {b : Bool} (hb : b = ((YM t w e l).take k).any (gpO t w e tx)) (h6 : (YM t w e l).length ≤ k) (hy : b = true) : ge = 15 ∧ ZaU g = true:=by
 obtain ⟨h1,h2,h5⟩:=H
 have W:=h5 he
 subst he
 rw [List.take_of_length_le h6,← Zvk W (Ze1 h h3) hok] at hb
 unfold kdT at h1; unfold kdE at h2
 rw [hok,if_pos rfl,if_pos rfl,← hb,hy,if_pos rfl] at h1 h2
 exact ⟨h2,by rw [h1]; exact ZmV⟩
theorem Zln (H : ZcW t l tx w e g ge) (hok : XQ t l = true) (h : Zu t = true) (h3 : l.any (fun x=>!Zu x) = false) (he : e = 0) {b : Bool} (hb : b = ((YM t w e l).take k).any (gpO t w e tx)) (h6 : (YM t w e l).length ≤ k) (hy : b = false) : ge = 0 ∧ ZfE g w = true:=by
 obtain ⟨h1,h2,h5⟩:=H
 have W:=h5 he
 subst he
 rw [List.take_of_length_le h6,← Zvk W (Ze1 h h3) hok] at hb
 unfold kdT at h1; unfold kdE at h2
 rw [hok,if_pos rfl,if_pos rfl,← hb,hy] at h1 h2
 simp only [Bool.false_eq_true,if_false] at h1 h2
 exact ⟨h2,by rw [h1]; exact Zr5 _⟩
theorem Zw2 (h : L[k]? = some o) (hj : o.s.fks.length ≤ j) : (L.take (k + 1)).any (gpO t w e tx) = ((L.take k).any (gpO t w e tx) || (o.s.fks.take j).any (gpF t w e tx o)):=by
 rw [List.take_of_length_le hj,List.take_add_one,h]; simp [gpO]
theorem Zz4 {a : Bool} (h : o.s.fks[k]? = some f) (h2 : ¬ f.table = t.s.name) : (a || (o.s.fks.take (k + 1)).any (gpF t w e tx o)) = (a || (o.s.fks.take k).any (gpF t w e tx o)):=by
 rw [List.take_add_one,h]; unfold gpF toB; simp [h2]
theorem Zz5 {a : Bool} (h : o.s.fks[k]? = some f) (h2 : ¬ e = 0) : (a || (o.s.fks.take (k + 1)).any (gpF t w e tx o)) = (a || (o.s.fks.take k).any (gpF t w e tx o)):=by
 rw [List.take_add_one,h]; unfold gpF toB; simp [h2]
theorem Zz6 {a : Bool} (h : o.s.fks[k]? = some f) (h2 : f.table = t.s.name) (he : e = 0) : (a || (o.s.fks.take (k + 1)).any (gpF t w e tx o)) = ((a || (o.s.fks.take k).any (gpF t w e tx o)) || (Qq o w f tx).isSome):=by
 rw [List.take_add_one,h]; unfold gpF toB; simp [h2,he,Bool.or_assoc]
theorem Zjg (H : ZcW t l tx w e g ge) (h : Zu t = true) (h3 : l.any (fun x=>!Zu x) = false) (he : e = 0) (hx : (YM t w e l)[k]? = some o) (h2 : XN o.s t.s f = true) : LinkOk (Link.mk o w f) ∧ Zu o = true:=by
 have W:=H.2.2 he
 have hv : Zu o = true:=by
  rcases List.mem_cons.1 (List.mem_of_getElem? hx) with rfl | hm
  ·rw [if_pos he]; exact W.valid
  ·exact Ze1 h h3 o (List.mem_append_left _ hm)
 exact ⟨Zhc hv W.valid (by rw [W.s]; exact h2),hv⟩
theorem Zz7 (h : l[k]? = some o) (h2 : ¬ o.s.name = t.s.name) : YV t (l.take (k + 1)) = YV t (l.take k) ++ [o]:=by
 rw [List.take_add_one,h]; unfold YV ZgD; simp [List.filter_append,h2]
theorem Zz8 (h : l[k]? = some o) (h2 : o.s.name = t.s.name) : YV t (l.take (k + 1)) = YV t (l.take k):=by
 rw [List.take_add_one,h]; unfold YV ZgD; simp [List.filter_append,h2]
theorem Zvl (h : l[k]? = some o) (h2 : ¬ o.s.name = t.s.name) : YM t w e (l.take (k + 1)) = YM t w e (l.take k) ++ [o]:=by
 unfold YM; rw [Zz7 h h2]; rfl
theorem Zvm (h : l[k]? = some o) (h2 : o.s.name = t.s.name) : YM t w e (l.take (k + 1)) = YM t w e (l.take k):=by unfold YM; rw [Zz8 h h2]
theorem Zz9 (h : e = 0) : [w] = YM t w e (l.take 0):=by unfold YM; rw [if_pos h]; rfl
theorem ZzA (h : e ≠ 0) : [t] = YM t w e (l.take 0):=by unfold YM; rw [if_neg h]; rfl
theorem Zhi (k : Nat) : (YM t w e (l.take k)).length ≤ l.length + 1:=by
 have h1:=Zop (t:=t) (l:=l.take k)
 have h2:=List.length_take_le' k l
 unfold YM; rw [List.length_cons]; omega
theorem Zoq (H : ZcW t l tx w e g ge) (h : Zu t = true) (h3 : l.any (fun x=>!Zu x) = false) : ∀ x ∈ YM t w e l,YB x.s = true:=fun x hx=>by
 obtain ⟨y,hy,es⟩:=Znq H hx
 rw [es]; exact (Xb (Ze1 h h3 y hy)).1
theorem Zyp {a b : Bool} (h : b = (a || (o.s.fks.take k).any (gpF t w e tx o))) (hb : b = true) : true = (a || (o.s.fks.take (k + 1)).any (gpF t w e tx o)):=by
 rw [hb] at h
 rw [List.take_add_one,List.any_append,← Bool.or_assoc,← h]; rfl
theorem Zyq {a b : Bool} (h : b = (a || (o.s.fks.take k).any (gpF t w e tx o))) (hb : b = false) (hf : o.s.fks[k]? = some f) (h2 : f.table = t.s.name) (he : e = 0) : (Qq o w f tx).isSome = (a || (o.s.fks.take (k + 1)).any (gpF t w e tx o)):=by
 rw [Zz6 hf h2 he,← h,hb]; rfl
theorem ZpM {a b : Bool} (h : b = (a || (o.s.fks.take k).any (gpF t w e tx o))) (hf : o.s.fks[k]? = some f) (h2 : ¬ f.table = t.s.name ∨ ¬ e = 0) : b = (a || (o.s.fks.take (k + 1)).any (gpF t w e tx o)):=by
 rcases h2 with h2 | h2
 ·rw [Zz4 hf h2]; exact h
 ·rw [Zz5 hf h2]; exact h
theorem Zvn {b : Bool} (h : b = ((L.take k).any (gpO t w e tx) || (o.s.fks.take j).any (gpF t w e tx o))) (hx : L[k]? = some o) (hj : o.s.fks.length ≤ j) : b = (L.take (k + 1)).any (gpO t w e tx):=by rw [Zw2 hx hj]; exact h
end
end Go.Civ
