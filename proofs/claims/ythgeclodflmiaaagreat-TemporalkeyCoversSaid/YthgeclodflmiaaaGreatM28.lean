/- Lemmas. -/
import Derived.Test.YthgeclodflmiaaaGreatM18
import Derived.Test.YthgeclodflmiaaaGreatM22
import Derived.Test.YthgeclodflmiaaaGreatM24
import Derived.Test.YthgeclodflmiaaaGreatM26
import Derived.Test.YthgeclodflmiaaaGreatM27
import Derived.Test.YthgeclodflmiaaaGreatProg
import Derived.KernelRfl
import Derived.WalkKit
set_option linter.unusedVariables false
set_option linter.unusedSimpArgs false
set_option maxRecDepth 100000
set_option maxHeartbeats 4000000
namespace Go.Civ
open Go.Proofs
theorem Q8 {G : GH} {w : World} (hG : G.In w) (t : Table) (ct : List Value) (hct : TableE.rep G t ct) : CL Tryz.prog (nat_lit 14) #[.agg ct.toArray] [] w G fun _ _ r=>r = .bool (Zo t):=by
 refine Zg ft [] Tryz.func14 rfl rfl ?_
 have hS:=St.start (X:=[]) hG
 obtain ⟨v1,v2,v3,rfl,hb1,hs1,hb2,hs2,hs3,hb3⟩:=Z1 hct
 refine Zu [Zd t.s.name,v1, .int .i64 t.s.key,v2,v3, .int .i64 t.last] _ hS rfl rfl rfl (fun p1 w1 G1 hle1 hsp1 hc1 hS1=>?_)
 refine Zc hS1 (XV.drop 0 hc1) [Zd t.s.name,v1, .int .i64 t.s.key,v2] XG rfl rfl rfl rfl rfl ?_
 refine Zm hS1 Zpv rfl rfl rfl (Zgl hS1.imm t.s _ (Yb t.s hb1 (hs1.mono hle1) hb2 (hs2.mono hle1))) (fun w2 G2 hS2 hle2=>?_)
 refine WL.split (fun (h1 : (Yt t.s) = true)=>?_) (fun (h1 : (Yt t.s) = false)=>?_)
 ·refine Za hS2 (XV.drop 5 (hc1.mono hle2)) Zn rfl rfl rfl ?_
  refine Zl t.last (-62135596801) rfl rfl rfl (fun h2=>?_) (fun h2=>?_)
  ·exact RB hS2 rfl (by exact Zec (ZpW (by omega)))
  refine Za hS2 (XV.drop 5 (hc1.mono hle2)) Zn rfl rfl rfl ?_
  refine XE t.last 253402300800 rfl rfl rfl (fun h3=>?_) (fun h3=>?_)
  ·exact RB hS2 rfl (by exact Zec (ZpX (by omega)))
  refine Za hS2 (XV.drop 4 (hc1.mono hle2)) YD rfl rfl rfl ?_
  have bd1:=hs3.bound
  refine Zi (hs3.mono (hle1.trans hle2)) Yc rfl rfl ?_
  refine YP (t.rows.length : Int) 500 rfl rfl rfl (fun h4=>?_) (fun h4=>?_)
  ·exact RB hS2 rfl (by exact Zec (ZpY (by omega)))
  have hA:=Zm2 (by assumption : Yt t.s = true) (by omega) (by omega) (by omega)
  refine Za hS2 (XV.drop 4 (hc1.mono hle2)) YD rfl rfl rfl ?_
  have bd2:=hs3.bound
  refine Zi (hs3.mono (hle1.trans hle2)) Yc rfl rfl ?_
  refine LP.go ft [] (fun m ρ1 w1=>∃ (k1 : Nat),∃ (G3 : GH),m = t.rows.length - k1 ∧ G2.le G3 ∧ St w [] G G3 [] w1 ∧ FR ρ1 [(1, .pointer (some p1)),(27,v3),(28, .int .i64 (t.rows.length : Int)),(29, .int .i64 (k1 : Int))] ∧ k1 ≤ t.rows.length ∧ ∀ j,j < k1 → ∀ x,t.rows[j]? = some x → YA t.s t.last x = true) _ ⟨0,G2,rfl,(G2.le_refl),hS2,⟨rfl,rfl,rfl,rfl,trivial⟩,(by omega),(by intro j hj; omega)⟩ ?_
  rintro m ρ1 w3 ⟨k1,G3,rfl,hle3,hS3,hF9,f1,f2⟩
  refine hF9.set ?_
  clear hF9
  refine Zl (k1 : Int) (t.rows.length : Int) rfl rfl rfl (fun h5=>?_) (fun h5=>?_)
  ·refine WL.indexAddr (hs3.mono ((hle1.trans hle2).trans hle3)) k1 (by omega) Yc Zr rfl rfl rfl rfl (fun p2 x1 hx1 he1=>?_)
   obtain ⟨cs1,hc2,hr1⟩:=he1
   obtain ⟨v4,rfl,hs4,hb4,hb5,hb6,hb7⟩:=Z0 hr1
   refine Zc hS3 hc2 [v4, .int .i64 x1.r.d.a, .int .i64 x1.r.d.b, .int .i64 x1.r.x.a, .int .i64 x1.r.x.b] Zr rfl rfl rfl rfl rfl ?_
   refine WL.alloc hS3 Zr rfl rfl (fun b1 w4 hn1 hS4=>?_)
   refine WL.store hS4 0 _ _ _ 0 _ [v4, .int .i64 x1.r.d.a, .int .i64 x1.r.d.b, .int .i64 x1.r.x.a, .int .i64 x1.r.x.b] [v4, .int .i64 x1.r.d.a, .int .i64 x1.r.d.b, .int .i64 x1.r.x.a, .int .i64 x1.r.x.b] _ rfl rfl Zr rfl (Nat.le_of_ble_eq_true rfl) (by simp only [List.all_cons,List.all_nil,hs4.oneC,Bool.true_and] <;> rfl) rfl rfl rfl rfl rfl (fun w5 hS5=>?_)
   obtain ⟨G4,hle4,hc3,hS6⟩:=hS5.shutB hn1
   refine Zc hS6 (XV.drop 2 (XV.drop 1 hc3)) [.int .i64 x1.r.x.a, .int .i64 x1.r.x.b] Zs rfl rfl rfl rfl rfl ?_
   refine WL.alloc hS6 Zs rfl rfl (fun b2 w6 hn2 hS7=>?_)
   refine WL.store hS7 0 _ _ _ 0 _ [.int .i64 x1.r.x.a, .int .i64 x1.r.x.b] [.int .i64 x1.r.x.a, .int .i64 x1.r.x.b] _ rfl rfl Zs rfl (Nat.le_of_ble_eq_true rfl) rfl rfl rfl rfl rfl rfl (fun w7 hS8=>?_)
   obtain ⟨G5,hle5,hc4,hS9⟩:=hS8.shutB hn2
   refine Zc hS9 (XV.drop 0 (hc1.mono (((hle2.trans hle3).trans hle4).trans hle5))) [Zd t.s.name,v1, .int .i64 t.s.key,v2] XG rfl rfl rfl rfl rfl <| Za hS9 (XV.drop 0 (hc3.mono hle5)) Z9 rfl rfl rfl ?_
   refine Zm hS9 Zta rfl rfl rfl (Zom hS9.imm t.s x1.v _ (Yb t.s hb1 (hs1.mono ((((hle1.trans hle2).trans hle3).trans hle4).trans hle5)) hb2 (hs2.mono ((((hle1.trans hle2).trans hle3).trans hle4).trans hle5))) _ (hs4.mono (hle4.trans hle5))) (fun w9 G6 hS10 hle6=>?_)
   refine YO (YU t.s x1.v) 0 rfl rfl rfl (fun h6=>?_) (fun h6=>?_)
   ·exact RB hS10 rfl (by exact Zcp ‹_› (Zsm ‹_›))
   refine Zc hS10 (hc3.mono (hle5.trans hle6)) [v4, .int .i64 x1.r.d.a, .int .i64 x1.r.d.b, .int .i64 x1.r.x.a, .int .i64 x1.r.x.b] Zr rfl rfl rfl rfl rfl ?_
   refine Zm hS10 Ztb rfl rfl rfl (Zl2 hS10.imm x1 _ (ZH x1 (hs4.mono ((hle4.trans hle5).trans hle6)) hb4 hb5 hb6 hb7)) (fun w10 G7 hS11 hle7=>?_)
   refine WL.split (fun (h7 : (Yo x1) = true)=>?_) (fun (h7 : (Yo x1) = false)=>?_)
   ·refine Za hS11 (XV.drop 0 (hc4.mono (hle6.trans hle7))) Zn rfl rfl rfl <| Za hS11 (XV.drop 5 (hc1.mono (((((hle2.trans hle3).trans hle4).trans hle5).trans hle6).trans hle7))) Zn rfl rfl rfl ?_
    refine YP x1.r.x.a t.last rfl rfl rfl (fun h8=>?_) (fun h8=>?_)
    ·exact RB hS11 rfl (by exact Zcp ‹_› (Zso (by omega)))
    refine Za hS11 (XV.drop 1 (hc4.mono (hle6.trans hle7))) Zn rfl rfl rfl <| Za hS11 (XV.drop 5 (hc1.mono (((((hle2.trans hle3).trans hle4).trans hle5).trans hle6).trans hle7))) Zn rfl rfl rfl ?_
    refine YP x1.r.x.b t.last rfl rfl rfl (fun h9=>?_) (fun h9=>?_)
    ·refine Za hS11 (XV.drop 1 (hc4.mono (hle6.trans hle7))) Zn rfl rfl rfl ?_
     refine YO x1.r.x.b 253402300800 rfl rfl rfl (fun h10=>?_) (fun h10=>?_)
     ·exact RB hS11 rfl (by exact Zcp ‹_› (Zsp (by omega) (by omega)))
     refine Zj k1 (by have hreach : reach = 140737488355328:=rfl; omega) rfl rfl rfl ?_
     exact BK.mk' _ ⟨k1 + 1,G7,rfl,(hle3.trans (((hle4.trans hle5).trans hle6).trans hle7)),hS11,⟨rfl,rfl,rfl,rfl,trivial⟩,(by omega),(by exact YB ‹_› ‹_› (ZhB ‹_› ‹_› (by omega) (by exact .inr (by omega))))⟩ (show t.rows.length - (k1 + 1) < t.rows.length - k1 by omega)
    refine Zj k1 (by have hreach : reach = 140737488355328:=rfl; omega) rfl rfl rfl ?_
    exact BK.mk' _ ⟨k1 + 1,G7,rfl,(hle3.trans (((hle4.trans hle5).trans hle6).trans hle7)),hS11,⟨rfl,rfl,rfl,rfl,trivial⟩,(by omega),(by exact YB ‹_› ‹_› (ZhB ‹_› ‹_› (by omega) (by exact .inl (by omega))))⟩ (show t.rows.length - (k1 + 1) < t.rows.length - k1 by omega)
   exact RB hS11 rfl (by exact Zcp ‹_› (Zsn ‹_›))
  have hall:=Yj (p:=YA t.s t.last) ‹_› (by omega)
  obtain ⟨hg9,hl9⟩:=ZnP hall
  refine dr [(4,true),(5,false),(6,false)] [(68,v3),(70,v3)] hS3 ⟨fun _ hSw=>Za hSw (XV.drop 4 (hc1.mono (hle2.trans hle3))) YD rfl rfl rfl <| nu rfl rfl,fun _ hSw=>Za hSw (XV.drop 4 (hc1.mono (hle2.trans hle3))) YD rfl rfl rfl <| nu rfl rfl,trivial⟩ (fun w11 hS12=>?_)
  refine Z3 hS12 Zmb rfl rfl rfl (Zfe hS12.imm t.rows _ (hs3.mono ((hle1.trans hle2).trans hle3)) hg9 (Zka hl9) (by omega)) (fun w12 G9 r1 hpost1 hS13 hle9=>?_)
  refine ⟨hS13.down hS12.le hle9,?_⟩
  refine Zm hS13 Zv6 rfl rfl rfl (Zqu hS13.imm t.rows (ZT t.rows) (fun x8 y8=>decide (x8 = y8)) _ (hs3.mono (((hle1.trans hle2).trans hle3).trans hle9)) _ hpost1 67 #[] ⟨Zv7,fun G8 w8 v8 u8 x8 y8 hle8 hG8 hon8 hA8 hB8=>by obtain ⟨cs_x8,rfl,hr_x8⟩:=hA8; obtain ⟨cs_y8,rfl,hr_y8⟩:=hB8; exact Zqt hG8 x8 y8 cs_x8 hr_x8 cs_y8 hr_y8⟩) (fun w13 G10 hS14 hle10=>?_)
  exact RB hS14 rfl (by exact ZnO hA hall)
 exact RB hS2 rfl (by exact Zec (ZpV ‹_›))
theorem Zqv {G : GH} {w : World} (hG : G.In w) (t : Table) (tx : Int) (ct : List Value) (hct : TableE.rep G t ct) : CL Tryz.prog (nat_lit 79) #[.agg ct.toArray, .int .i64 tx] [] w G fun _ _ r=>r = .int .i64 (XP t tx):=by
 refine Zg ft [] Tryz.func79 rfl rfl ?_
 have hS:=St.start (X:=[]) hG
 obtain ⟨v1,v2,v3,rfl,hb1,hs1,hb2,hs2,hs3,hb3⟩:=Z1 hct
 refine Zu [Zd t.s.name,v1, .int .i64 t.s.key,v2,v3, .int .i64 t.last] _ hS rfl rfl rfl (fun p1 w1 G1 hle1 hsp1 hc1 hS1=>?_)
 refine Zm hS1 Zme rfl rfl rfl (Zdc hS1.imm tx) (fun w2 G2 hS2 hle2=>?_)
 refine WL.split (fun (h1 : (ZM tx) = true)=>?_) (fun (h1 : (ZM tx) = false)=>?_)
 ·refine Za hS2 (XV.drop 5 (hc1.mono hle2)) Zn rfl rfl rfl ?_
  refine Qe tx t.last rfl rfl rfl (fun h2=>?_) (fun h2=>?_)
  ·exact RI hS2 rfl (by exact ZtC ‹_› ‹_›)
  exact RI hS2 rfl (by exact ZtD ‹_› (by omega))
 exact RI hS2 rfl (by exact ZtB ‹_›)
theorem Zho {G : GH} {w : World} (hG : G.In w) (t : Table) (tx : Int) (l : List HRow) (ct : List Value) (hct : TableE.rep G t ct) (vl : Value) (hvl : Sl HRowE 56 G vl l) (htx64 : Zz tx) (hgood : Z2 l) (hlen : ∀ r ∈ l,r.v.length ≤ 1000) (hl : l.length ≤ 2000) : CL Tryz.prog (nat_lit 80) #[.agg ct.toArray, .int .i64 tx,vl] [] w G fun G' _ r=>∃ r0 r1,r = .tuple #[r0,r1] ∧ Is TableE G' r0 (ZP t tx l) ∧ r1 = .int .i64 (Qk l):=by
 refine Y9 ft [] Tryz.func80 rfl rfl ?_
 have hS:=St.start (X:=[]) hG
 obtain ⟨v1,v2,v3,rfl,hb1,hs1,hb2,hs2,hs3,hb3⟩:=Z1 hct
 refine Zu [Zd t.s.name,v1, .int .i64 t.s.key,v2,v3, .int .i64 t.last] _ hS rfl rfl rfl (fun p1 w1 G1 hle1 hsp1 hc1 hS1=>?_)
 refine WL.alloc hS1 Zv rfl rfl (fun b1 w2 hn1 hS2=>?_)
 refine drT [3,5,6,7] [(10, .agg #[Zd t.s.name,v1, .int .i64 t.s.key,v2])] hS2 ⟨fun _ hSw=>Zc hSw (XV.drop 0 hc1) [Zd t.s.name,v1, .int .i64 t.s.key,v2] XG rfl rfl rfl rfl rfl <| nu rfl rfl,trivial⟩ (fun w3 hS3=>?_)
 refine TG.fork 3 [3,5,6,7] [3,6] rfl rfl (by decide) (by decide) (TA.cons rfl ?_ (TA.cons rfl ?_ TA.nil))
 ·refine Z3 hS3 Zmb rfl rfl rfl (Zfe hS3.imm l _ (hvl.mono hle1) hgood hlen hl) (fun w4 G2 r1 hpost1 hS4 hle2=>?_)
  refine ⟨fun _=>hS4.down hS3.le hle2,?_⟩
  refine TG.quiet 2 [5,6,7] 5 rfl rfl rfl rfl rfl (by decide) (fun w9 K9 k9=>WL.build _ [(0,[Zd t.s.name,v1, .int .i64 t.s.key,v2]),(1,[r1]),(2,[.int .i64 tx])] [Zd t.s.name,v1, .int .i64 t.s.key,v2,r1, .int .i64 tx] Zv rfl ZaX rfl rfl (by show [(0,(.agg #[Zd t.s.name,v1, .int .i64 t.s.key,v2] : Value).cells.toList),(1,(r1 : Value).cells.toList),(2,(.int .i64 tx : Value).cells.toList)] = _; simp only [hpost1.cells1] <;> rfl) rfl k9) ?_
  refine TG.fork 1 [6,7] [6] rfl rfl (by decide) (by decide) (TA.cons rfl ?_ TA.nil)
  refine WL.alloc hS4 Zv rfl rfl (fun b2 w5 hn2 hS5=>?_)
  refine ⟨fun _=>hS5.tail.down hS3.le hle2,?_⟩
  refine TG.fork 0 [7] [7] rfl rfl (by decide) (by decide) (TA.cons rfl ?_ TA.nil)
  refine WL.store hS5 0 _ _ _ 0 _ [Zd t.s.name,v1, .int .i64 t.s.key,v2,r1, .int .i64 tx] [Zd t.s.name,v1, .int .i64 t.s.key,v2,r1, .int .i64 tx] _ rfl rfl Zv rfl (Nat.le_of_ble_eq_true rfl) (by simp only [List.all_cons,List.all_nil,(hs1.mono (hle1.trans hle2)).oneC,(hs2.mono (hle1.trans hle2)).oneC,hpost1.oneC,Bool.true_and] <;> rfl) rfl rfl rfl rfl rfl (fun w6 hS6=>?_)
  obtain ⟨G3,hle3,hc2,hS7⟩:=hS6.shutB hn2
  refine ⟨fun h=>absurd h (by decide),?_⟩
  refine TG.fin rfl ?_
  refine Za hS7 (XV.drop 4 hc2) YD rfl rfl rfl ?_
  have bd1:=hpost1.bound
  refine Zi (hpost1.mono hle3) Yc rfl rfl ?_
  refine YP (((ZT l).length : Nat) : Int) 500 rfl rfl rfl (fun h1=>?_) (fun h1=>?_)
  ·refine WL.build _ [] [Zd [], .slice none 0 0, .int .i64 0, .slice none 0 0, .slice none 0 0, .int .i64 0] Zv rfl ZaX rfl rfl rfl rfl ?_
   refine WL.store hS7 0 _ _ _ 0 _ [Zd [], .slice none 0 0, .int .i64 0, .slice none 0 0, .slice none 0 0, .int .i64 0] [Zd [], .slice none 0 0, .int .i64 0, .slice none 0 0, .slice none 0 0, .int .i64 0] _ rfl rfl Zv rfl (Nat.le_of_ble_eq_true rfl) rfl rfl rfl rfl rfl rfl (fun w7 hS8=>?_)
   exact Xr [.agg #[Zd [], .slice none 0 0, .int .i64 0, .slice none 0 0, .slice none 0 0, .int .i64 0], .int .i64 5] hS8 ⟨_,_,_,rfl,rfl,hS8.loadA 0 _ _ _ 0 [Zd [], .slice none 0 0, .int .i64 0, .slice none 0 0, .slice none 0 0, .int .i64 0] rfl rfl rfl Zv rfl,⟨_,rfl,rfl⟩⟩ ⟨_,_,rfl,(Is.cast ⟨_,rfl,(Zq (Table.mk (Schema.mk [] [] 0 []) [] 0) (by simp [reach]) (Sl.nil ColE 24 G3) ZO (Sl.nil ForeignE 40 G3) (Sl.nil HRowE 56 G3) ZO)⟩ (by exact (Zf1 (by omega)).1)),(congrArg (Value.int .i64) (by exact (Zf1 (t:=t) (tx:=tx) (by omega)).2))⟩
  refine Zc hS7 hc2 [Zd t.s.name,v1, .int .i64 t.s.key,v2,r1, .int .i64 tx] Zv rfl rfl rfl rfl rfl ?_
  refine WL.store hS7 0 _ _ _ 0 _ [Zd t.s.name,v1, .int .i64 t.s.key,v2,r1, .int .i64 tx] [Zd t.s.name,v1, .int .i64 t.s.key,v2,r1, .int .i64 tx] _ rfl rfl Zv rfl (Nat.le_of_ble_eq_true rfl) (by simp only [List.all_cons,List.all_nil,(hs1.mono ((hle1.trans hle2).trans hle3)).oneC,(hs2.mono ((hle1.trans hle2).trans hle3)).oneC,(hpost1.mono hle3).oneC,Bool.true_and] <;> rfl) rfl rfl rfl rfl rfl (fun w9 hS9=>?_)
  exact Xr [.agg #[Zd t.s.name,v1, .int .i64 t.s.key,v2,r1, .int .i64 tx], .int .i64 0] hS9 ⟨_,_,_,rfl,rfl,hS9.loadA 0 _ _ _ 0 [Zd t.s.name,v1, .int .i64 t.s.key,v2,r1, .int .i64 tx] rfl rfl rfl Zv rfl,⟨_,rfl,rfl⟩⟩ ⟨_,_,rfl,(Is.cast ⟨_,rfl,(Zq (Table.mk t.s (ZT l) tx) hb1 (hs1.mono ((hle1.trans hle2).trans hle3)) hb2 (hs2.mono ((hle1.trans hle2).trans hle3)) (hpost1.mono hle3) htx64)⟩ (by exact (Zed (by omega)).1)),(congrArg (Value.int .i64) (by exact (Zed (t:=t) (tx:=tx) (by omega)).2))⟩
 refine WL.alloc hS3 Zv rfl rfl (fun b3 w10 hn3 hS10=>?_)
 refine ⟨fun _=>hS10.tail.down hS3.le (G1.le_refl),?_⟩
 refine TG.fork 2 [3,5,7] [3] rfl rfl (by decide) (by decide) (TA.cons rfl ?_ TA.nil)
 refine Z3 hS10 Zmb rfl rfl rfl (Zfe hS10.imm l _ (hvl.mono hle1) hgood hlen hl) (fun w11 G4 r2 hpost2 hS11 hle4=>?_)
 refine ⟨fun _=>hS11.tail.down hS3.le hle4,?_⟩
 refine TG.quiet 1 [5,7] 5 rfl rfl rfl rfl rfl (by decide) (fun w9 K9 k9=>WL.build _ [(0,[Zd t.s.name,v1, .int .i64 t.s.key,v2]),(1,[r2]),(2,[.int .i64 tx])] [Zd t.s.name,v1, .int .i64 t.s.key,v2,r2, .int .i64 tx] Zv rfl ZaX rfl rfl (by show [(0,(.agg #[Zd t.s.name,v1, .int .i64 t.s.key,v2] : Value).cells.toList),(1,(r2 : Value).cells.toList),(2,(.int .i64 tx : Value).cells.toList)] = _; simp only [hpost2.cells1] <;> rfl) rfl k9) ?_
 refine TG.fork 0 [7] [7] rfl rfl (by decide) (by decide) (TA.cons rfl ?_ TA.nil)
 refine WL.store hS11 0 _ _ _ 0 _ [Zd t.s.name,v1, .int .i64 t.s.key,v2,r2, .int .i64 tx] [Zd t.s.name,v1, .int .i64 t.s.key,v2,r2, .int .i64 tx] _ rfl rfl Zv rfl (Nat.le_of_ble_eq_true rfl) (by simp only [List.all_cons,List.all_nil,(hs1.mono (hle1.trans hle4)).oneC,(hs2.mono (hle1.trans hle4)).oneC,hpost2.oneC,Bool.true_and] <;> rfl) rfl rfl rfl rfl rfl (fun w12 hS12=>?_)
 obtain ⟨G5,hle5,hc3,hS13⟩:=hS12.shutB hn3
 refine ⟨fun h=>absurd h (by decide),?_⟩
 refine TG.fin rfl ?_
 refine Za hS13 (XV.drop 4 hc3) YD rfl rfl rfl ?_
 have bd2:=hpost2.bound
 refine Zi (hpost2.mono hle5) Yc rfl rfl ?_
 refine YP (((ZT l).length : Nat) : Int) 500 rfl rfl rfl (fun h2=>?_) (fun h2=>?_)
 ·refine WL.build _ [] [Zd [], .slice none 0 0, .int .i64 0, .slice none 0 0, .slice none 0 0, .int .i64 0] Zv rfl ZaX rfl rfl rfl rfl ?_
  refine WL.store hS13 0 _ _ _ 0 _ [Zd [], .slice none 0 0, .int .i64 0, .slice none 0 0, .slice none 0 0, .int .i64 0] [Zd [], .slice none 0 0, .int .i64 0, .slice none 0 0, .slice none 0 0, .int .i64 0] _ rfl rfl Zv rfl (Nat.le_of_ble_eq_true rfl) rfl rfl rfl rfl rfl rfl (fun w13 hS14=>?_)
  exact Xr [.agg #[Zd [], .slice none 0 0, .int .i64 0, .slice none 0 0, .slice none 0 0, .int .i64 0], .int .i64 5] hS14 ⟨_,_,_,rfl,rfl,hS14.loadA 0 _ _ _ 0 [Zd [], .slice none 0 0, .int .i64 0, .slice none 0 0, .slice none 0 0, .int .i64 0] rfl rfl rfl Zv rfl,⟨_,rfl,rfl⟩⟩ ⟨_,_,rfl,(Is.cast ⟨_,rfl,(Zq (Table.mk (Schema.mk [] [] 0 []) [] 0) (by simp [reach]) (Sl.nil ColE 24 G5) ZO (Sl.nil ForeignE 40 G5) (Sl.nil HRowE 56 G5) ZO)⟩ (by exact (Zf1 (by omega)).1)),(congrArg (Value.int .i64) (by exact (Zf1 (t:=t) (tx:=tx) (by omega)).2))⟩
 refine Zc hS13 hc3 [Zd t.s.name,v1, .int .i64 t.s.key,v2,r2, .int .i64 tx] Zv rfl rfl rfl rfl rfl ?_
 refine WL.store hS13 0 _ _ _ 0 _ [Zd t.s.name,v1, .int .i64 t.s.key,v2,r2, .int .i64 tx] [Zd t.s.name,v1, .int .i64 t.s.key,v2,r2, .int .i64 tx] _ rfl rfl Zv rfl (Nat.le_of_ble_eq_true rfl) (by simp only [List.all_cons,List.all_nil,(hs1.mono ((hle1.trans hle4).trans hle5)).oneC,(hs2.mono ((hle1.trans hle4).trans hle5)).oneC,(hpost2.mono hle5).oneC,Bool.true_and] <;> rfl) rfl rfl rfl rfl rfl (fun w14 hS15=>?_)
 exact Xr [.agg #[Zd t.s.name,v1, .int .i64 t.s.key,v2,r2, .int .i64 tx], .int .i64 0] hS15 ⟨_,_,_,rfl,rfl,hS15.loadA 0 _ _ _ 0 [Zd t.s.name,v1, .int .i64 t.s.key,v2,r2, .int .i64 tx] rfl rfl rfl Zv rfl,⟨_,rfl,rfl⟩⟩ ⟨_,_,rfl,(Is.cast ⟨_,rfl,(Zq (Table.mk t.s (ZT l) tx) hb1 (hs1.mono ((hle1.trans hle4).trans hle5)) hb2 (hs2.mono ((hle1.trans hle4).trans hle5)) (hpost2.mono hle5) htx64)⟩ (by exact (Zed (by omega)).1)),(congrArg (Value.int .i64) (by exact (Zed (t:=t) (tx:=tx) (by omega)).2))⟩
theorem Zvh {G : GH} {w : World} (hG : G.In w) (l : List Int) (vl : Value) (hvl : Sl Enc.int 8 G vl l) : CL Tryz.prog (nat_lit 78) #[vl] [] w G fun _ _ r=>r = .int .i64 (Qx l):=by
 refine Zg ft [] Tryz.func78 rfl rfl ?_
 have hS:=St.start (X:=[]) hG
 have bd1:=hvl.bound
 refine Zi hvl ZlW rfl rfl ?_
 refine LP.go ft [] (fun m ρ1 w1=>∃ (k1 : Nat),∃ (G1 : GH),m = l.length - k1 ∧ G.le G1 ∧ St w [] G G1 [] w1 ∧ FR ρ1 [(3, .int .i64 0),(6,vl),(7, .int .i64 (l.length : Int)),(8, .int .i64 (k1 : Int))] ∧ k1 ≤ l.length ∧ ∀ j,j < k1 → ∀ x,l[j]? = some x → x = 0) _ ⟨0,G,rfl,(G.le_refl),hS,⟨rfl,rfl,rfl,rfl,trivial⟩,(by omega),(by intro j hj; omega)⟩ ?_
 rintro m ρ1 w1 ⟨k1,G1,rfl,hle1,hS1,hF9,f1,f2⟩
 refine hF9.set ?_
 clear hF9
 refine Zl (k1 : Int) (l.length : Int) rfl rfl rfl (fun h1=>?_) (fun h1=>?_)
 ·refine WL.indexAddr (hvl.mono hle1) k1 (by omega) ZlW Zpr rfl rfl rfl rfl (fun p1 x1 hx1 he1=>?_)
  obtain ⟨cs1,hc1,hr1⟩:=he1
  obtain ⟨rfl,hb1⟩:=hr1
  refine Za hS1 hc1 Zpr rfl rfl rfl ?_
  refine YO x1 0 rfl rfl rfl (fun h2=>?_) (fun h2=>?_)
  ·exact RI hS1 rfl (by exact (Zjo ‹_› ‹_› ‹_›).symm)
  refine Zj k1 (by have hreach : reach = 140737488355328:=rfl; omega) rfl rfl rfl ?_
  exact BK.mk' _ ⟨k1 + 1,G1,rfl,hle1,hS1,⟨rfl,rfl,rfl,rfl,trivial⟩,(by omega),(by exact YB ‹_› ‹_› ‹_›)⟩ (show l.length - (k1 + 1) < l.length - k1 by omega)
 exact RI hS1 rfl (by exact (Zg4 ‹_› (by omega)).symm)
theorem Zel {G : GH} {w : World} (hG : G.In w) (l : List HRow) (vl : Value) (hvl : Sl HRowE 56 G vl l) : CL Tryz.prog (nat_lit 81) #[vl] [] w G fun G' w' r=>∃ o,ZQ HRowE 56 (nat_lit 37) G' r l o ∧ Zfr w w' G' o:=by
 refine Zg ft [] Tryz.func81 rfl rfl ?_
 have hS:=St.start (X:=[]) hG
 refine ZfT hvl Yc rfl rfl rfl (fun h1=>?_) ?_
 ·exact RT hS rfl ⟨none,ZQ.cast (ZQ.nil _ _ _ _) (by exact Eq.symm ‹_›),fun _ h=>by cases h⟩
 refine WL.buildSlice _ [] [] hS YK rfl rfl rfl rfl (fun z hz=>by match z,hz with | [],_=>rfl) (fun b1 w1 hn1 hS1=>?_)
 have hr1:=ZQ.empty HRowE 56 37 G b1
 refine ZV YK rfl rfl rfl hr1 hS1 0 rfl hvl (by have hreach : reach = 140737488355328:=rfl; have:=hvl.bytes; have:=hvl.bound; simp only [List.length_nil,Nat.zero_add]; omega) (by have hreach : reach = 140737488355328:=rfl; have:=hvl.bytes; have:=hvl.bound; simp only [List.length_nil,Nat.zero_add]; omega) rfl rfl rfl (fun v1 o1 w2 hr2 hS2=>?_)
 exact RT hS2 rfl ⟨_,ZQ.cast hr2 (by rfl),hS2.freshAt 0 rfl⟩
theorem ZtN {G : GH} {w : World} (hG : G.In w) (s : Schema) (cs : List Value) (hcs : SchemaE.rep G s cs) : CL Tryz.prog (nat_lit 112) #[.agg cs.toArray] [] w G fun G' _ r=>∃ r0 r1,r = .tuple #[r0,r1] ∧ Is TableE G' r0 (Z5 s) ∧ r1 = .int .i64 (ZbE s):=by
 refine Y9 ft [] Tryz.func112 rfl rfl ?_
 have hS:=St.start (X:=[]) hG
 obtain ⟨v1,v2,rfl,hb1,hs1,hb2,hs2⟩:=YJ hcs
 refine Zu [Zd s.name,v1, .int .i64 s.key,v2] _ hS rfl rfl rfl (fun p1 w1 G1 hle1 hsp1 hc1 hS1=>?_)
 refine WL.alloc hS1 Zv rfl rfl (fun b1 w2 hn1 hS2=>?_)
 refine Zc hS2 hc1 [Zd s.name,v1, .int .i64 s.key,v2] XG rfl rfl rfl rfl rfl ?_
 refine Zm hS2 Zpv rfl rfl rfl (Zgl hS2.imm s _ (Yb s hb1 (hs1.mono hle1) hb2 (hs2.mono hle1))) (fun w3 G2 hS3 hle2=>?_)
 refine WL.split (fun (h1 : (Yt s) = true)=>?_) (fun (h1 : (Yt s) = false)=>?_)
 ·refine Zc hS3 (hc1.mono hle2) [Zd s.name,v1, .int .i64 s.key,v2] XG rfl rfl rfl rfl rfl <| WL.build _ [(0,[Zd s.name,v1, .int .i64 s.key,v2]),(2,[.int .i64 (-62135596801)])] [Zd s.name,v1, .int .i64 s.key,v2, .slice none 0 0, .int .i64 (-62135596801)] Zv rfl ZaX rfl rfl rfl rfl ?_
  refine WL.store hS3 0 _ _ _ 0 _ [Zd s.name,v1, .int .i64 s.key,v2, .slice none 0 0, .int .i64 (-62135596801)] [Zd s.name,v1, .int .i64 s.key,v2, .slice none 0 0, .int .i64 (-62135596801)] _ rfl rfl Zv rfl (Nat.le_of_ble_eq_true rfl) (by simp only [List.all_cons,List.all_nil,(hs1.mono (hle1.trans hle2)).oneC,(hs2.mono (hle1.trans hle2)).oneC,Bool.true_and] <;> rfl) rfl rfl rfl rfl rfl (fun w4 hS4=>?_)
  exact Xr [.agg #[Zd s.name,v1, .int .i64 s.key,v2, .slice none 0 0, .int .i64 (-62135596801)], .int .i64 0] hS4 ⟨_,_,_,rfl,rfl,hS4.loadA 0 _ _ _ 0 [Zd s.name,v1, .int .i64 s.key,v2, .slice none 0 0, .int .i64 (-62135596801)] rfl rfl rfl Zv rfl,⟨_,rfl,rfl⟩⟩ ⟨_,_,rfl,(Is.cast ⟨_,rfl,(Zq (Table.mk s [] (-62135596801)) hb1 (hs1.mono (hle1.trans hle2)) hb2 (hs2.mono (hle1.trans hle2)) (Sl.nil HRowE 56 G2) (show Zz (-62135596801) from by constructor <;> decide))⟩ (by exact (ZiS ‹_›).1)),(congrArg (Value.int .i64) (by exact (ZiS ‹_›).2))⟩
 refine WL.build _ [] [Zd [], .slice none 0 0, .int .i64 0, .slice none 0 0, .slice none 0 0, .int .i64 0] Zv rfl ZaX rfl rfl rfl rfl ?_
 refine WL.store hS3 0 _ _ _ 0 _ [Zd [], .slice none 0 0, .int .i64 0, .slice none 0 0, .slice none 0 0, .int .i64 0] [Zd [], .slice none 0 0, .int .i64 0, .slice none 0 0, .slice none 0 0, .int .i64 0] _ rfl rfl Zv rfl (Nat.le_of_ble_eq_true rfl) rfl rfl rfl rfl rfl rfl (fun w5 hS5=>?_)
 exact Xr [.agg #[Zd [], .slice none 0 0, .int .i64 0, .slice none 0 0, .slice none 0 0, .int .i64 0], .int .i64 1] hS5 ⟨_,_,_,rfl,rfl,hS5.loadA 0 _ _ _ 0 [Zd [], .slice none 0 0, .int .i64 0, .slice none 0 0, .slice none 0 0, .int .i64 0] rfl rfl rfl Zv rfl,⟨_,rfl,rfl⟩⟩ ⟨_,_,rfl,(Is.cast ⟨_,rfl,(Zq (Table.mk (Schema.mk [] [] 0 []) [] 0) (by simp [reach]) (Sl.nil ColE 24 G2) ZO (Sl.nil ForeignE 40 G2) (Sl.nil HRowE 56 G2) ZO)⟩ (by exact (Zrs ‹_›).1)),(congrArg (Value.int .i64) (by exact (Zrs ‹_›).2))⟩
end Go.Civ
namespace Go.Civ
open Go.RowKit
open Go.Lib (compact)
set_option linter.unusedVariables false
structure Link where
 t : Table
 o : Table
 f : Foreign
def Zhu : Enc Link:=(Enc.pair TableE (Enc.pair TableE ForeignE)).via fun x=>(x.t,x.o,x.f)
section
variable {G : GH} {cs : List Value}
theorem Zet {x : Link} (h : Zhu.rep G x cs) : ∃ v u r v' u' r' c,cs = [Zd x.t.s.name,v, .int .i64 x.t.s.key,u,r, .int .i64 x.t.last,Zd x.o.s.name,v', .int .i64 x.o.s.key,u',r', .int .i64 x.o.last,c,Zd x.f.table] ∧
  x.t.s.name.length ≤ reach ∧ Sl ColE 24 G v x.t.s.cols ∧ Zz x.t.s.key ∧ Sl ForeignE 40 G u x.t.s.fks ∧ Sl HRowE 56 G r x.t.rows ∧ Zz x.t.last ∧
  x.o.s.name.length ≤ reach ∧ Sl ColE 24 G v' x.o.s.cols ∧ Zz x.o.s.key ∧ Sl ForeignE 40 G u' x.o.s.fks ∧ Sl HRowE 56 G r' x.o.rows ∧ Zz x.o.last ∧ Sl Enc.str 16 G c x.f.cols ∧ x.f.table.length ≤ reach:=by
 obtain ⟨c1,c2,rfl,h1,c3,c4,rfl,h2,h3⟩:=h
 obtain ⟨v,u,r,rfl,a1,a2,a3,a4,a5,a6⟩:=Z1 h1
 obtain ⟨v',u',r',rfl,b1,b2,b3,b4,b5,b6⟩:=Z1 h2
 obtain ⟨c,rfl,d1,d2⟩:=Y6 h3
 exact ⟨v,u,r,v',u',r',c,rfl,a1,a2,a3,a4,a5,a6,b1,b2,b3,b4,b5,b6,d1,d2⟩
theorem ZcJ (x : Link) {v u r v' u' r' c : Value} (a1 : x.t.s.name.length ≤ reach) (a2 : Sl ColE 24 G v x.t.s.cols) (a3 : Zz x.t.s.key) (a4 : Sl ForeignE 40 G u x.t.s.fks) (a5 : Sl HRowE 56 G r x.t.rows) (a6 : Zz x.t.last)
  (b1 : x.o.s.name.length ≤ reach) (b2 : Sl ColE 24 G v' x.o.s.cols) (b3 : Zz x.o.s.key) (b4 : Sl ForeignE 40 G u' x.o.s.fks) (b5 : Sl HRowE 56 G r' x.o.rows) (b6 : Zz x.o.last) (d1 : Sl Enc.str 16 G c x.f.cols) (d2 : x.f.table.length ≤ reach) :
  Zhu.rep G x [Zd x.t.s.name,v, .int .i64 x.t.s.key,u,r, .int .i64 x.t.last,Zd x.o.s.name,v', .int .i64 x.o.s.key,u',r', .int .i64 x.o.last,c,Zd x.f.table]:=
 ⟨_,_,rfl,Zq x.t a1 a2 a3 a4 a5 a6,_,_,rfl,Zq x.o b1 b2 b3 b4 b5 b6,Xw x.f d1 d2⟩
end
theorem ZcK {s : Schema} (h : Yt s = true) : 1 ≤ s.key ∧ s.key ≤ s.cols.length:=by
 unfold Yt XO at h
 simp only [Bool.and_eq_true,decide_eq_true_eq] at h
 obtain ⟨⟨⟨⟨⟨⟨_,h2⟩,h3⟩,h4⟩,h5⟩,h6⟩,h7⟩:=h.1
 exact ⟨h4,h5⟩
structure LinkOk (x : Link) : Prop where
 t : Zo x.t = true
 o : Zo x.o = true
 cols : ∀ c ∈ x.f.cols,0 ≤ YL (x.t.s.cols.map Col.name) c
 key : (x.f.cols.length : Int) = x.o.s.key
abbrev lM (x : Link) : List Val → List Val → Bool:=mtB x.t.s x.f.cols
def YF (x : Link) (fr : Int) : Option Pt:=Zds (lM x) x.o.rows x.t.rows fr
theorem Zbi {t o : Table} {f : Foreign} (h1 : Zo t = true) (h2 : Zo o = true) (h3 : Xd t.s o.s f = true) : LinkOk ⟨t,o,f⟩:=by
 have hf:=ZoA (Yz h1).1 h3
 exact ⟨h1,h2,hf.1,hf.2⟩
section
variable {x : Link} {v : List Val} {r : HRow}
theorem LinkOk.len (h : LinkOk x) (hr : r ∈ x.t.rows) : x.t.s.cols.length ≤ r.v.length:=by
 have:=Q5 h.t hr
 have h4:=this.2.2.2.1
 omega
theorem LinkOk.olen (h : LinkOk x) (hr : r ∈ x.o.rows) : x.f.cols.length ≤ r.v.length:=by
 have h1:=Q5 h.o hr
 have h2:=ZcK (Yz h.o).1
 have h3:=h.key
 have h4:=h1.2.2.2.1
 omega
end
section
variable {M : List Val → List Val → Bool} {l t : List HRow} {v : List Val} {x tx fr : Int} {r o : HRow} {k : Nat} {ts : List Int}
theorem Zq9 (h : l[k]? = some o) (h1 : X0 tx o.r.x = true) (h2 : M v o.v = true) : Zaa M (l.take (k + 1)) v tx = Zaa M (l.take k) v tx ++ [o.r.d]:=by
 have h3 : Y7 tx o = true:=h1
 rw [List.take_add_one,h]; unfold Zaa; simp [h3,h2]
theorem ZlB (h : l[k]? = some o) (h1 : X0 tx o.r.x = false ∨ M v o.v = false) : Zaa M (l.take (k + 1)) v tx = Zaa M (l.take k) v tx:=by
 have h3 : (Y7 tx o && M v o.v) = false:=by
  have e : Y7 tx o = X0 tx o.r.x:=rfl
  rw [e]; rcases h1 with h1 | h1 <;> rw [h1] <;> simp
 rw [List.take_add_one,h]; unfold Zaa; simp [h3]
theorem ZkA (l : List HRow) (v : List Val) (tx : Int) : (Zaa M l v tx).length ≤ l.length:=by unfold Zaa; rw [List.length_map]; exact List.length_filter_le _ _
theorem ZkB (l : List HRow) (v : List Val) (tx : Int) (k : Nat) : (Zaa M (l.take k) v tx).length ≤ l.length:=Nat.le_trans (ZkA _ _ _) (List.length_take_le' _ _)
theorem ZoJ (h : l[k]? = some o) (h1 : Yp r fr < o.r.x.b) (h2 : M r.v o.v = true) : YR M (l.take (k + 1)) r fr = YR M (l.take k) r fr ++ [o.r.x.b]:=by
 rw [List.take_add_one,h]; unfold YR; simp [h1,h2]
theorem ZkC (h : l[k]? = some o) (h1 : o.r.x.b ≤ Yp r fr ∨ M r.v o.v = false) : YR M (l.take (k + 1)) r fr = YR M (l.take k) r fr:=by
 have h3 : (decide (Yp r fr < o.r.x.b) && M r.v o.v) = false:=by
  rcases h1 with h1 | h1
  ·rw [decide_eq_false (by omega)]; rfl
  ·rw [h1]; simp
 rw [List.take_add_one,h]; unfold YR; simp [h3]
theorem ZoK (l : List HRow) (k : Nat) : (YR M (l.take k) r fr).length ≤ l.length:=by
 unfold YR; rw [List.length_map]; exact Nat.le_trans (List.length_filter_le _ _) (List.length_take_le' _ _)
theorem ZhJ {α : Type} {l : List α} {a : α} (h : l[k]? = some a) : l.drop k = a :: l.drop (k + 1):=by
 obtain ⟨h1,h2⟩:=List.getElem?_eq_some_iff.1 h
 rw [List.drop_eq_getElem_cons h1,h2]
theorem ZqA (h : ts[k]? = some x) (h1 : X0 x r.r.x = false) : XU M l r (ts.drop k) = none:=by rw [ZhJ h]; unfold XU; rw [if_neg (by rw [h1]; simp)]
theorem ZqB {s : Span} (h : ts[k]? = some x) (h1 : X0 x r.r.x = true) (h2 : (YE M l r.v r.r.d x)[0]? = some s) : XU M l r (ts.drop k) = some ⟨x,s.a,r.v⟩:=by
 rw [ZhJ h]
 unfold XU
 rw [if_pos h1]
 cases e : YE M l r.v r.r.d x with
 | nil=>rw [e] at h2; cases h2
 | cons a q=>rw [e] at h2; obtain rfl:=Option.some.inj h2; rfl
theorem ZoL (h : ts[k]? = some x) (h1 : X0 x r.r.x = true) (h2 : ((YE M l r.v r.r.d x).length : Int) ≤ 0) : XU M l r (ts.drop k) = XU M l r (ts.drop (k + 1)):=by
 have e : YE M l r.v r.r.d x = []:=List.length_eq_zero_iff.1 (by omega)
 rw [ZhJ h]
 show (if X0 x r.r.x then (match YE M l r.v r.r.d x with | s :: _=>some ⟨x,s.a,r.v⟩ | []=>XU M l r (ts.drop (k + 1))) else none) = _
 rw [if_pos h1,e]
theorem ZqC (h : ts.length ≤ k) : XU M l r (ts.drop k) = none:=by rw [List.drop_eq_nil_of_le h]; rfl
theorem Zhv (h : t[k]? = some r) (h1 : XU M l r (Zeq M l r fr) = none) : Yi M l (t.take (k + 1)) fr = Yi M l (t.take k) fr:=by
 rw [List.take_add_one,h]; unfold Yi; simp [List.filterMap_append,h1]
theorem ZmN {p : Pt} (h : t[k]? = some r) (h1 : XU M l r (Zeq M l r fr) = some p) : Yi M l (t.take (k + 1)) fr = Yi M l (t.take k) fr ++ [p]:=by
 rw [List.take_add_one,h]; unfold Yi; simp [List.filterMap_append,h1]
theorem ZoM (t : List HRow) (k : Nat) : (Yi M l (t.take k) fr).length ≤ t.length:=by
 unfold Yi; exact Nat.le_trans (List.length_filterMap_le _ _) (List.length_take_le' _ _)
theorem Zr3 (h : ((Yi M l (t.take k) fr).length : Int) = 0) (hk : t.length ≤ k) : Pt.mk 0 0 [] = ZK (Zds M l t fr) ∧ false = (Zds M l t fr).isSome:=by
 rw [List.take_of_length_le hk] at h
 rw [Zfl (List.length_eq_zero_iff.1 (by omega))]; exact ⟨rfl,rfl⟩
theorem Zr4 (h : ((Yi M l (t.take k) fr).length : Int) ≠ 0) (hk : t.length ≤ k) : Xb (Yi M l (t.take k) fr) = ZK (Zds M l t fr) ∧ true = (Zds M l t fr).isSome:=by
 rw [List.take_of_length_le hk] at h ⊢
 rw [Zfm (fun e=>h (by rw [e]; rfl))]; exact ⟨rfl,rfl⟩
end
end Go.Civ
namespace Go.Civ
open Go.RowKit
open Go.Lib (compact)
section
variable {M : List Val → List Val → Bool} {l : List HRow} {r : HRow} {fr : Int}
theorem ZoN : (compact (XM (Yp r fr :: YR M l r fr))).length ≤ l.length + 1:=by
 have h1:=ZfE (XM (Yp r fr :: YR M l r fr))
 have h2 : (YR M l r fr).length ≤ l.length:=by unfold YR; rw [List.length_map]; exact List.length_filter_le _ _
 have h3:=(ZdP (Yp r fr :: YR M l r fr)).length_eq
 simp only [List.length_cons] at h3
 omega
theorem Zua {α : Type} {l : List α} (h : ((l.length : Nat) : Int) ≠ 0) : l ≠ []:=fun e=>h (by rw [e]; rfl)
theorem ZqD {q : List Pt} {x : Pt} (h : q[0]? = some x) : x = Xb (q.take 1):=by
 cases q with
 | nil=>cases h
 | cons a r=>obtain rfl:=Option.some.inj h; rfl
theorem Zi3 {q : List Pt} {x : Pt} {k : Nat} (h : q[k]? = some x) (hk : 1 ≤ k) : Xb (q.take (k + 1)) = QX (Xb (q.take k)) x:=by
 cases q with
 | nil=>cases h
 | cons a r=>exact Zoh h hk
end
end Go.Civ
namespace Go.Civ
open Go.RowKit
set_option linter.unusedVariables false
def ZaD (t o : Table) (f : Foreign) : Bool:=Zo t && (Zo o && Xd t.s o.s f)
abbrev Zgu (t o : Table) (f : Foreign) : Option Pt:=YF ⟨t,o,f⟩ (-62135596800)
def Y1 (t o : Table) (f : Foreign) : HRow:=if ZaD t o f then ZJ (Zgu t o f) else ZJ none
def QK (t o : Table) (f : Foreign) : Bool:=ZaD t o f && (Zgu t o f).isNone
def Zam (t o : Table) (f : Foreign) (tx : Int) : List Fact:=if ZaD t o f && ZM tx then ZaB (mtB t.s f.cols) o.rows tx (Qb t tx) else []
section
variable {t o : Table} {f : Foreign} {tx fr : Int}
theorem ZaR (h : Zo t = false ∨ Zo o = false ∨ Xd t.s o.s f = false) : ZaD t o f = false:=by
 unfold ZaD; rcases h with h | h | h <;> rw [h] <;> simp
theorem ZbI (h1 : Zo t = true) (h2 : Zo o = true) (h3 : Xd t.s o.s f = true) : ZaD t o f = true:=by unfold ZaD; rw [h1,h2,h3]; rfl
theorem Zeu (h : ZaD t o f = false) : HRow.mk [] (Rect.mk (Span.mk 0 0) (Span.mk 0 0)) = Y1 t o f ∧ false = QK t o f:=by unfold Y1 QK; rw [h]; exact ⟨rfl,rfl⟩
theorem Zr5 (h : ZaD t o f = true) (h2 : (Zgu t o f).isSome = true) : ZJ (some (ZK (Zgu t o f))) = Y1 t o f ∧ false = QK t o f:=by
 unfold Y1 QK; rw [h]
 cases e : Zgu t o f with
 | none=>rw [e] at h2; cases h2
 | some p=>exact ⟨rfl,rfl⟩
theorem Zr6 (h : ZaD t o f = true) (h2 : (Zgu t o f).isSome = false) : HRow.mk [] (Rect.mk (Span.mk 0 0) (Span.mk 0 0)) = Y1 t o f ∧ true = QK t o f:=by
 unfold Y1 QK; rw [h]
 cases e : Zgu t o f with
 | none=>exact ⟨rfl,rfl⟩
 | some p=>rw [e] at h2; cases h2
theorem Zuc {x : Link} (hk : LinkOk x) (h : (YF x fr).isSome = true) : ZK (YF x fr) ∈ Yi (lM x) x.o.rows x.t.rows fr ∧ YF x fr = some (ZK (YF x fr)):=by
 unfold YF at h ⊢
 by_cases e : Yi (lM x) x.o.rows x.t.rows fr = []
 ·rw [Zfl e] at h; cases h
 ·rw [Zfm e]
  exact ⟨(Zcq (Zk8 (ZD hk.t).1) e).1,rfl⟩
theorem ZkE {x : Link} (hk : LinkOk x) (hf : -62135596800 ≤ fr) (h : (YF x fr).isSome = true) : ZM (ZK (YF x fr)).tx = true ∧ ZM (ZK (YF x fr)).vd = true:=by
 have hgt:=(ZD hk.t).1
 have hgo:=(ZD hk.o).1
 obtain ⟨⟨⟨r,hr,_,hh⟩,_⟩,h2,_⟩:=Zfk hgo hgt (Zuc hk h).1
 obtain ⟨a1,a2,a3,a4⟩:=QW.1 hh
 have h3:=(ZS (hgt r hr)).2
 unfold ZF at h3
 simp at h3
 unfold ZM
 simp only [Bool.and_eq_true,decide_eq_true_eq]
 omega
theorem ZcL (h : ZaD t o f = false ∨ ZM tx = false) : [] = Zam t o f tx:=by
 unfold Zam; rcases h with h | h <;> rw [h] <;> simp
theorem Zud {k : Nat} (h : ZaD t o f = true) (h2 : ZM tx = true) (hk : (Qb t tx).length ≤ k) : ZaB (mtB t.s f.cols) o.rows tx ((Qb t tx).take k) = Zam t o f tx:=by
 unfold Zam; rw [h,h2,List.take_of_length_le hk]; rfl
theorem ZlC (h : tx < -62135596800 ∨ 253402300800 ≤ tx) : ZM tx = false:=by
 unfold ZM
 rcases h with h | h
 ·rw [decide_eq_false (by omega)]; rfl
 ·rw [decide_eq_false (show ¬ tx < 253402300800 by omega)]; simp
theorem ZqE (h1 : -62135596800 ≤ tx) (h2 : tx < 253402300800) : ZM tx = true:=by unfold ZM; rw [decide_eq_true h1,decide_eq_true h2]; rfl
section
variable {M : List Val → List Val → Bool} {l : List HRow} {fs : List Fact} {k : Nat} {x : Fact}
theorem ZmO (h : fs[k]? = some x) : ZaB M l tx (fs.take (k + 1)) = ZaB M l tx (fs.take k) ++ (YE M l x.v x.t tx).map (Fact.mk x.v):=by
 rw [List.take_add_one,h]; simp [ZaB]
theorem Zi5 {v : List Val} {d : Span} (hl : l.length ≤ 500) : (YE M l v d tx).length ≤ 5000:=by
 have h1:=ZbT (kind:=3) (a:=[d]) (b:=Qp (Zaa M l v tx))
 have h2:=ZcO (l:=Zaa M l v tx)
 have h3:=ZkA (M:=M) l v tx
 unfold YE
 simp only [List.length_cons,List.length_nil] at h1
 omega
theorem Zi6 (hl : l.length ≤ 500) : ∀ fs : List Fact,(ZaB M l tx fs).length ≤ fs.length * 5000
 | []=>by simp [ZaB]
 | f :: fs=>by
  have h1:=Zi5 (M:=M) (tx:=tx) (v:=f.v) (d:=f.t) hl
  have h2:=Zi6 hl fs
  simp only [ZaB,List.flatMap_cons,List.length_append,List.length_cons,List.length_map] at *
  rw [Nat.add_mul]; omega
theorem ZiJ (hl : l.length ≤ 500) (hf : fs.length ≤ 250000) (k : Nat) : (ZaB M l tx (fs.take k)).length ≤ 1250000000:=by
 have h1:=Zi6 (M:=M) (tx:=tx) hl (fs.take k)
 have h2:=List.length_take_le' k fs
 exact Nat.le_trans h1 (Nat.le_trans (Nat.mul_le_mul_right 5000 (show (fs.take k).length ≤ 250000 by omega)) (by decide))
end
theorem Zue {x : Fact} (hv : Zo t = true) (h : x ∈ Qb t tx) : (∃ r ∈ t.rows,r.v = x.v) ∧ ZF x.t = true:=by
 unfold Qb at h
 split at h
 ·obtain ⟨g,hg,h⟩:=List.mem_flatMap.1 h
  obtain ⟨s,hs,rfl⟩:=List.mem_map.1 h
  have hgood:=ZeP (ZD hv).1 g hg
  unfold ZY at hg
  obtain ⟨v,hvm,rfl⟩:=List.mem_map.1 hg
  exact ⟨Qa.1 hvm,Zdp hgood tx s hs⟩
 ·cases h
end
def rM (t o : Schema) (cs : List (List UInt8)) (v u : List Val) : Bool:=decide (u.take o.key.toNat = Zaz t cs v)
theorem Zr7 {t o : Schema} {cs : List (List UInt8)} (h : (cs.length : Int) = o.key) : rM t o cs = mtB t cs:=by
 funext v u
 unfold rM mtB
 rw [show o.key.toNat = cs.length by omega]
def YH (t o : Table) (f : Foreign) (fr : Int) : Option Pt:=Zq6 (rM t.s o.s f.cols) o.rows t.rows fr
def Zhw (t o : Table) (f : Foreign) (tx : Int) : List Fact:=ZaV (rM t.s o.s f.cols) (Yx o.rows tx (Z8 o.rows)) (Yx t.rows tx (Z8 t.rows))
section
variable {t o : Table} {f : Foreign} {tx fr : Int}
theorem Zs7 {x : Link} (hk : LinkOk x) : YH x.t x.o x.f fr = YF x fr:=by
 unfold YH YF
 rw [Zr7 hk.key]; exact ZtX (ZD hk.o).1 (ZD hk.t).1
theorem Zab (h : Zo t = false ∨ Zo o = false ∨ Xd t.s o.s f = false) : QK t o f = false ∧ Zb2 (Y1 t o f) = true ∧ Cmp.b .eql (((Zam t o f tx).length : Nat) : Int) 0 = true:=by
 have e:=ZaR h
 have h1:=Zeu e
 rw [← h1.1,← h1.2,← ZcL (.inl e)]
 exact ⟨rfl,(by decide : Zb2 (ZJ none) = true),rfl⟩
theorem ZkF (h1 : Zo t = true) (h2 : Zo o = true) (h3 : Xd t.s o.s f = true) : QK t o f = !(YH t o f (-62135596800)).isSome ∧ Zdd (Y1 t o f) (ZJ (YH t o f (-62135596800))) = true:=by
 have e:=ZbI h1 h2 h3
 have hr:=Zs7 (x:=⟨t,o,f⟩) (fr:=-62135596800) (Zbi h1 h2 h3)
 rw [hr]
 unfold QK Y1
 rw [e,if_pos rfl]
 refine ⟨?_,Zop _⟩
 show (true && (YF ⟨t,o,f⟩ (-62135596800)).isNone) = _
 cases YF ⟨t,o,f⟩ (-62135596800) <;> rfl
theorem ZqF (h : ZM tx = false) : Cmp.b .eql (((Zam t o f tx).length : Nat) : Int) 0 = true:=by rw [← ZcL (.inr h)]; rfl
theorem ZqG (h1 : Zo t = true) (h2 : Zo o = true) (h3 : Xd t.s o.s f = true) (h4 : ZM tx = true) : Zam t o f tx = Zhw t o f tx:=by
 have e:=ZbI h1 h2 h3
 have hk:=Zbi h1 h2 h3
 have hgo:=(ZD h2).1
 have hgt:=(ZD h1).1
 unfold Zam Zhw
 rw [e,h4,Bool.and_self,if_pos rfl,Zr7 hk.key,← Zcv hgo,← Zcv hgt]
 have ha : Qb t tx = Qf t.rows tx:=by unfold Qb; rw [h1,h4]; rfl
 rw [ha]
 exact Zs4 hgo (Zfj hgt)
end
end Go.Civ
