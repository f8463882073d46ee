/- Lemmas. -/
import Derived.Test.YthgeclodflmiaaaGreatC17
import Derived.Test.YthgeclodflmiaaaGreatC23
import Derived.Test.YthgeclodflmiaaaGreatC24
import Derived.Test.YthgeclodflmiaaaGreatC25
import Derived.Test.YthgeclodflmiaaaGreatProg
import Derived.KernelRfl
import Derived.WalkKit
set_option linter.unusedVariables false
set_option linter.unusedSimpArgs false
set_option maxRecDepth 100000
set_option maxHeartbeats 4000000
namespace Go.Civ
open Go.Proofs
theorem ZbK {G : GH} {w : World} (hG : G.In w) (t : Table) (ct : List Value) (hct : TableE.rep G t ct) : CL Tryz.prog (nat_lit 14) #[.agg ct.toArray] [] w G fun _ _ r=>r = .bool (Zy t):=by
 refine Zh ft [] Tryz.func14 rfl rfl ?_
 have hS:=St.start (X:=[]) hG
 obtain ⟨v1,v2,v3,rfl,hb1,hs1,hb2,hs2,hs3,hb3⟩:=Z0 hct
 refine Z3 [Zc t.s.name,v1, .int .i64 t.s.key,v2,v3, .int .i64 t.last] _ hS rfl rfl rfl (fun p1 w1 G1 hle1 hsp1 hc1 hS1=>?_)
 refine Zd hS1 (XL.drop 0 hc1) [Zc t.s.name,v1, .int .i64 t.s.key,v2] Y5 rfl rfl rfl rfl rfl ?_
 refine Zn hS1 ZlS rfl rfl rfl (Zem hS1.imm t.s _ (Yg t.s hb1 (hs1.mono hle1) hb2 (hs2.mono hle1))) (fun w2 G2 hS2 hle2=>?_)
 refine WL.split (fun (h1 : (Yu t.s) = true)=>?_) (fun (h1 : (Yu t.s) = false)=>?_)
 ·refine Za hS2 (XL.drop 5 (hc1.mono hle2)) Zr rfl rfl rfl ?_
  refine Zm t.last (-62135596801) rfl rfl rfl (fun h2=>?_) (fun h2=>?_)
  ·exact RB hS2 rfl (by exact Zef (ZpJ (by omega)))
  refine Za hS2 (XL.drop 5 (hc1.mono hle2)) Zr rfl rfl rfl ?_
  refine Qt t.last 253402300800 rfl rfl rfl (fun h3=>?_) (fun h3=>?_)
  ·exact RB hS2 rfl (by exact Zef (ZpK (by omega)))
  refine Za hS2 (XL.drop 4 (hc1.mono hle2)) YJ rfl rfl rfl ?_
  have bd1:=hs3.bound
  refine Zl (hs3.mono (hle1.trans hle2)) Yn rfl rfl ?_
  refine YZ (t.rows.length : Int) 500 rfl rfl rfl (fun h4=>?_) (fun h4=>?_)
  ·exact RB hS2 rfl (by exact Zef (ZpL (by omega)))
  have hA:=Zmu (by assumption : Yu t.s = true) (by omega) (by omega) (by omega)
  refine Za hS2 (XL.drop 4 (hc1.mono hle2)) YJ rfl rfl rfl ?_
  have bd2:=hs3.bound
  refine Zl (hs3.mono (hle1.trans hle2)) Yn rfl rfl ?_
  refine LP.go ft [] (fun m ρ1 w1=>∃ (k1 : Nat),∃ (G3 : GH),m = t.rows.length - k1 ∧ G2.le G3 ∧ St w [] G G3 [] w1 ∧ FR ρ1 [(1, .pointer (some p1)),(27,v3),(28, .int .i64 (t.rows.length : Int)),(29, .int .i64 (k1 : Int))] ∧ k1 ≤ t.rows.length ∧ ∀ j,j < k1 → ∀ x,t.rows[j]? = some x → YI t.s t.last x = true) _ ⟨0,G2,rfl,(G2.le_refl),hS2,⟨rfl,rfl,rfl,rfl,trivial⟩,(by omega),(by intro j hj; omega)⟩ ?_
  rintro m ρ1 w3 ⟨k1,G3,rfl,hle3,hS3,hF9,f1,f2⟩
  refine hF9.set ?_
  clear hF9
  refine Zm (k1 : Int) (t.rows.length : Int) rfl rfl rfl (fun h5=>?_) (fun h5=>?_)
  ·refine WL.indexAddr (hs3.mono ((hle1.trans hle2).trans hle3)) k1 (by omega) Yn Zt rfl rfl rfl rfl (fun p2 x1 hx1 he1=>?_)
   obtain ⟨cs1,hc2,hr1⟩:=he1
   obtain ⟨v4,rfl,hs4,hb4,hb5,hb6,hb7⟩:=Z7 hr1
   refine Zd hS3 hc2 [v4, .int .i64 x1.r.d.a, .int .i64 x1.r.d.b, .int .i64 x1.r.x.a, .int .i64 x1.r.x.b] Zt rfl rfl rfl rfl rfl ?_
   refine WL.alloc hS3 Zt rfl rfl (fun b1 w4 hn1 hS4=>?_)
   refine WL.store hS4 0 _ _ _ 0 _ [v4, .int .i64 x1.r.d.a, .int .i64 x1.r.d.b, .int .i64 x1.r.x.a, .int .i64 x1.r.x.b] [v4, .int .i64 x1.r.d.a, .int .i64 x1.r.d.b, .int .i64 x1.r.x.a, .int .i64 x1.r.x.b] _ rfl rfl Zt rfl (Nat.le_of_ble_eq_true rfl) (by simp only [List.all_cons,List.all_nil,hs4.oneC,Bool.true_and] <;> rfl) rfl rfl rfl rfl rfl (fun w5 hS5=>?_)
   obtain ⟨G4,hle4,hc3,hS6⟩:=hS5.shutB hn1
   refine Zd hS6 (XL.drop 2 (XL.drop 1 hc3)) [.int .i64 x1.r.x.a, .int .i64 x1.r.x.b] Zz rfl rfl rfl rfl rfl ?_
   refine WL.alloc hS6 Zz rfl rfl (fun b2 w6 hn2 hS7=>?_)
   refine WL.store hS7 0 _ _ _ 0 _ [.int .i64 x1.r.x.a, .int .i64 x1.r.x.b] [.int .i64 x1.r.x.a, .int .i64 x1.r.x.b] _ rfl rfl Zz rfl (Nat.le_of_ble_eq_true rfl) rfl rfl rfl rfl rfl rfl (fun w7 hS8=>?_)
   obtain ⟨G5,hle5,hc4,hS9⟩:=hS8.shutB hn2
   refine Zd hS9 (XL.drop 0 (hc1.mono (((hle2.trans hle3).trans hle4).trans hle5))) [Zc t.s.name,v1, .int .i64 t.s.key,v2] Y5 rfl rfl rfl rfl rfl <| Za hS9 (XL.drop 0 (hc3.mono hle5)) ZN rfl rfl rfl ?_
   refine Zn hS9 ZsK rfl rfl rfl (Zog hS9.imm t.s x1.v _ (Yg t.s hb1 (hs1.mono ((((hle1.trans hle2).trans hle3).trans hle4).trans hle5)) hb2 (hs2.mono ((((hle1.trans hle2).trans hle3).trans hle4).trans hle5))) _ (hs4.mono (hle4.trans hle5))) (fun w9 G6 hS10 hle6=>?_)
   refine Xn (Xg t.s x1.v) 0 rfl rfl rfl (fun h6=>?_) (fun h6=>?_)
   ·exact RB hS10 rfl (by exact Zcv ‹_› (ZrR ‹_›))
   refine Zd hS10 (hc3.mono (hle5.trans hle6)) [v4, .int .i64 x1.r.d.a, .int .i64 x1.r.d.b, .int .i64 x1.r.x.a, .int .i64 x1.r.x.b] Zt rfl rfl rfl rfl rfl ?_
   refine Zn hS10 ZsL rfl rfl rfl (Zlr hS10.imm x1 _ (Ya x1 (hs4.mono ((hle4.trans hle5).trans hle6)) hb4 hb5 hb6 hb7)) (fun w10 G7 hS11 hle7=>?_)
   refine WL.split (fun (h7 : (Y1 x1) = true)=>?_) (fun (h7 : (Y1 x1) = false)=>?_)
   ·refine Za hS11 (XL.drop 0 (hc4.mono (hle6.trans hle7))) Zr rfl rfl rfl <| Za hS11 (XL.drop 5 (hc1.mono (((((hle2.trans hle3).trans hle4).trans hle5).trans hle6).trans hle7))) Zr rfl rfl rfl ?_
    refine YZ x1.r.x.a t.last rfl rfl rfl (fun h8=>?_) (fun h8=>?_)
    ·exact RB hS11 rfl (by exact Zcv ‹_› (ZrT (by omega)))
    refine Za hS11 (XL.drop 1 (hc4.mono (hle6.trans hle7))) Zr rfl rfl rfl <| Za hS11 (XL.drop 5 (hc1.mono (((((hle2.trans hle3).trans hle4).trans hle5).trans hle6).trans hle7))) Zr rfl rfl rfl ?_
    refine YZ x1.r.x.b t.last rfl rfl rfl (fun h9=>?_) (fun h9=>?_)
    ·refine Za hS11 (XL.drop 1 (hc4.mono (hle6.trans hle7))) Zr rfl rfl rfl ?_
     refine Xn x1.r.x.b 253402300800 rfl rfl rfl (fun h10=>?_) (fun h10=>?_)
     ·exact RB hS11 rfl (by exact Zcv ‹_› (ZrU (by omega) (by omega)))
     refine Zj k1 (by have hreach : reach = 140737488355328:=rfl; omega) rfl rfl rfl ?_
     exact BK.mk' _ ⟨k1 + 1,G7,rfl,(hle3.trans (((hle4.trans hle5).trans hle6).trans hle7)),hS11,⟨rfl,rfl,rfl,rfl,trivial⟩,(by omega),(by exact Yj ‹_› ‹_› (Zh1 ‹_› ‹_› (by omega) (by exact .inr (by omega))))⟩ (show t.rows.length - (k1 + 1) < t.rows.length - k1 by omega)
    refine Zj k1 (by have hreach : reach = 140737488355328:=rfl; omega) rfl rfl rfl ?_
    exact BK.mk' _ ⟨k1 + 1,G7,rfl,(hle3.trans (((hle4.trans hle5).trans hle6).trans hle7)),hS11,⟨rfl,rfl,rfl,rfl,trivial⟩,(by omega),(by exact Yj ‹_› ‹_› (Zh1 ‹_› ‹_› (by omega) (by exact .inl (by omega))))⟩ (show t.rows.length - (k1 + 1) < t.rows.length - k1 by omega)
   exact RB hS11 rfl (by exact Zcv ‹_› (ZrS ‹_›))
  have hall:=Yw (p:=YI t.s t.last) ‹_› (by omega)
  obtain ⟨hg9,hl9⟩:=ZnH hall
  refine dr [(4,true),(5,false),(6,false)] [(68,v3),(70,v3)] hS3 ⟨fun _ hSw=>Za hSw (XL.drop 4 (hc1.mono (hle2.trans hle3))) YJ rfl rfl rfl <| nu rfl rfl,fun _ hSw=>Za hSw (XL.drop 4 (hc1.mono (hle2.trans hle3))) YJ rfl rfl rfl <| nu rfl rfl,trivial⟩ (fun w11 hS12=>?_)
  refine Z8 hS12 ZlT rfl rfl rfl (Zfd hS12.imm t.rows _ (hs3.mono ((hle1.trans hle2).trans hle3)) hg9 (ZjR hl9) (by omega)) (fun w12 G9 r1 hpost1 hS13 hle9=>?_)
  refine ⟨hS13.down hS12.le hle9,?_⟩
  refine Zn hS13 Zvr rfl rfl rfl (Zqi hS13.imm t.rows (ZZ t.rows) (fun x8 y8=>decide (x8 = y8)) _ (hs3.mono (((hle1.trans hle2).trans hle3).trans hle9)) _ hpost1 67 #[] ⟨Zvs,fun G8 w8 v8 u8 x8 y8 hle8 hG8 hon8 hA8 hB8=>by obtain ⟨cs_x8,rfl,hr_x8⟩:=hA8; obtain ⟨cs_y8,rfl,hr_y8⟩:=hB8; exact Zqh hG8 x8 y8 cs_x8 hr_x8 cs_y8 hr_y8⟩) (fun w13 G10 hS14 hle10=>?_)
  exact RB hS14 rfl (by exact ZnG hA hall)
 exact RB hS2 rfl (by exact Zef (ZpI ‹_›))
theorem Zqj {G : GH} {w : World} (hG : G.In w) (t : Table) (tx : Int) (ct : List Value) (hct : TableE.rep G t ct) : CL Tryz.prog (nat_lit 79) #[.agg ct.toArray, .int .i64 tx] [] w G fun _ _ r=>r = .int .i64 (XR t tx):=by
 refine Zh ft [] Tryz.func79 rfl rfl ?_
 have hS:=St.start (X:=[]) hG
 obtain ⟨v1,v2,v3,rfl,hb1,hs1,hb2,hs2,hs3,hb3⟩:=Z0 hct
 refine Z3 [Zc t.s.name,v1, .int .i64 t.s.key,v2,v3, .int .i64 t.last] _ hS rfl rfl rfl (fun p1 w1 G1 hle1 hsp1 hc1 hS1=>?_)
 refine Zn hS1 ZlX rfl rfl rfl (Zdm hS1.imm tx) (fun w2 G2 hS2 hle2=>?_)
 refine WL.split (fun (h1 : (Yt tx) = true)=>?_) (fun (h1 : (Yt tx) = false)=>?_)
 ·refine Za hS2 (XL.drop 5 (hc1.mono hle2)) Zr rfl rfl rfl ?_
  refine QH tx t.last rfl rfl rfl (fun h2=>?_) (fun h2=>?_)
  ·exact RI hS2 rfl (by exact Ztr ‹_› ‹_›)
  exact RI hS2 rfl (by exact Zts ‹_› (by omega))
 exact RI hS2 rfl (by exact Ztq ‹_›)
theorem Zha {G : GH} {w : World} (hG : G.In w) (t : Table) (tx : Int) (l : List HRow) (ct : List Value) (hct : TableE.rep G t ct) (vl : Value) (hvl : Sl HRowE 56 G vl l) (htx64 : Z1 tx) (hgood : Z5 l) (hlen : ∀ r ∈ l,r.v.length ≤ 1000) (hl : l.length ≤ 2000) : CL Tryz.prog (nat_lit 80) #[.agg ct.toArray, .int .i64 tx,vl] [] w G fun G' _ r=>∃ r0 r1,r = .tuple #[r0,r1] ∧ Is TableE G' r0 (ZT t tx l) ∧ r1 = .int .i64 (Qi l):=by
 refine Y8 ft [] Tryz.func80 rfl rfl ?_
 have hS:=St.start (X:=[]) hG
 obtain ⟨v1,v2,v3,rfl,hb1,hs1,hb2,hs2,hs3,hb3⟩:=Z0 hct
 refine Z3 [Zc t.s.name,v1, .int .i64 t.s.key,v2,v3, .int .i64 t.last] _ hS rfl rfl rfl (fun p1 w1 G1 hle1 hsp1 hc1 hS1=>?_)
 refine WL.alloc hS1 Zp rfl rfl (fun b1 w2 hn1 hS2=>?_)
 refine drT [3,5,6,7] [(10, .agg #[Zc t.s.name,v1, .int .i64 t.s.key,v2])] hS2 ⟨fun _ hSw=>Zd hSw (XL.drop 0 hc1) [Zc t.s.name,v1, .int .i64 t.s.key,v2] Y5 rfl rfl rfl rfl rfl <| nu rfl rfl,trivial⟩ (fun w3 hS3=>?_)
 refine TG.fork 3 [3,5,6,7] [3,6] rfl rfl (by decide) (by decide) (TA.cons rfl ?_ (TA.cons rfl ?_ TA.nil))
 ·refine Z8 hS3 ZlT rfl rfl rfl (Zfd hS3.imm l _ (hvl.mono hle1) hgood hlen hl) (fun w4 G2 r1 hpost1 hS4 hle2=>?_)
  refine ⟨fun _=>hS4.down hS3.le hle2,?_⟩
  refine TG.quiet 2 [5,6,7] 5 rfl rfl rfl rfl rfl (by decide) (fun w9 K9 k9=>WL.build _ [(0,[Zc t.s.name,v1, .int .i64 t.s.key,v2]),(1,[r1]),(2,[.int .i64 tx])] [Zc t.s.name,v1, .int .i64 t.s.key,v2,r1, .int .i64 tx] Zp rfl Zbc rfl rfl (by show [(0,(.agg #[Zc t.s.name,v1, .int .i64 t.s.key,v2] : Value).cells.toList),(1,(r1 : Value).cells.toList),(2,(.int .i64 tx : Value).cells.toList)] = _; simp only [hpost1.cells1] <;> rfl) rfl k9) ?_
  refine TG.fork 1 [6,7] [6] rfl rfl (by decide) (by decide) (TA.cons rfl ?_ TA.nil)
  refine WL.alloc hS4 Zp rfl rfl (fun b2 w5 hn2 hS5=>?_)
  refine ⟨fun _=>hS5.tail.down hS3.le hle2,?_⟩
  refine TG.fork 0 [7] [7] rfl rfl (by decide) (by decide) (TA.cons rfl ?_ TA.nil)
  refine WL.store hS5 0 _ _ _ 0 _ [Zc t.s.name,v1, .int .i64 t.s.key,v2,r1, .int .i64 tx] [Zc t.s.name,v1, .int .i64 t.s.key,v2,r1, .int .i64 tx] _ rfl rfl Zp rfl (Nat.le_of_ble_eq_true rfl) (by simp only [List.all_cons,List.all_nil,(hs1.mono (hle1.trans hle2)).oneC,(hs2.mono (hle1.trans hle2)).oneC,hpost1.oneC,Bool.true_and] <;> rfl) rfl rfl rfl rfl rfl (fun w6 hS6=>?_)
  obtain ⟨G3,hle3,hc2,hS7⟩:=hS6.shutB hn2
  refine ⟨fun h=>absurd h (by decide),?_⟩
  refine TG.fin rfl ?_
  refine Za hS7 (XL.drop 4 hc2) YJ rfl rfl rfl ?_
  have bd1:=hpost1.bound
  refine Zl (hpost1.mono hle3) Yn rfl rfl ?_
  refine YZ (((ZZ l).length : Nat) : Int) 500 rfl rfl rfl (fun h1=>?_) (fun h1=>?_)
  ·refine WL.build _ [] [Zc [], .slice none 0 0, .int .i64 0, .slice none 0 0, .slice none 0 0, .int .i64 0] Zp rfl Zbc rfl rfl rfl rfl ?_
   refine WL.store hS7 0 _ _ _ 0 _ [Zc [], .slice none 0 0, .int .i64 0, .slice none 0 0, .slice none 0 0, .int .i64 0] [Zc [], .slice none 0 0, .int .i64 0, .slice none 0 0, .slice none 0 0, .int .i64 0] _ rfl rfl Zp rfl (Nat.le_of_ble_eq_true rfl) rfl rfl rfl rfl rfl rfl (fun w7 hS8=>?_)
   exact X0 [.agg #[Zc [], .slice none 0 0, .int .i64 0, .slice none 0 0, .slice none 0 0, .int .i64 0], .int .i64 5] hS8 ⟨_,_,_,rfl,rfl,hS8.loadA 0 _ _ _ 0 [Zc [], .slice none 0 0, .int .i64 0, .slice none 0 0, .slice none 0 0, .int .i64 0] rfl rfl rfl Zp rfl,⟨_,rfl,rfl⟩⟩ ⟨_,_,rfl,(Is.cast ⟨_,rfl,(Zs (Table.mk (Schema.mk [] [] 0 []) [] 0) (by simp [reach]) (Sl.nil ColE 24 G3) Yl (Sl.nil ForeignE 40 G3) (Sl.nil HRowE 56 G3) Yl)⟩ (by exact (Zfv (by omega)).1)),(congrArg (Value.int .i64) (by exact (Zfv (t:=t) (tx:=tx) (by omega)).2))⟩
  refine Zd hS7 hc2 [Zc t.s.name,v1, .int .i64 t.s.key,v2,r1, .int .i64 tx] Zp rfl rfl rfl rfl rfl ?_
  refine WL.store hS7 0 _ _ _ 0 _ [Zc t.s.name,v1, .int .i64 t.s.key,v2,r1, .int .i64 tx] [Zc t.s.name,v1, .int .i64 t.s.key,v2,r1, .int .i64 tx] _ rfl rfl Zp rfl (Nat.le_of_ble_eq_true rfl) (by simp only [List.all_cons,List.all_nil,(hs1.mono ((hle1.trans hle2).trans hle3)).oneC,(hs2.mono ((hle1.trans hle2).trans hle3)).oneC,(hpost1.mono hle3).oneC,Bool.true_and] <;> rfl) rfl rfl rfl rfl rfl (fun w9 hS9=>?_)
  exact X0 [.agg #[Zc t.s.name,v1, .int .i64 t.s.key,v2,r1, .int .i64 tx], .int .i64 0] hS9 ⟨_,_,_,rfl,rfl,hS9.loadA 0 _ _ _ 0 [Zc t.s.name,v1, .int .i64 t.s.key,v2,r1, .int .i64 tx] rfl rfl rfl Zp rfl,⟨_,rfl,rfl⟩⟩ ⟨_,_,rfl,(Is.cast ⟨_,rfl,(Zs (Table.mk t.s (ZZ l) tx) hb1 (hs1.mono ((hle1.trans hle2).trans hle3)) hb2 (hs2.mono ((hle1.trans hle2).trans hle3)) (hpost1.mono hle3) htx64)⟩ (by exact (Zeg (by omega)).1)),(congrArg (Value.int .i64) (by exact (Zeg (t:=t) (tx:=tx) (by omega)).2))⟩
 refine WL.alloc hS3 Zp rfl rfl (fun b3 w10 hn3 hS10=>?_)
 refine ⟨fun _=>hS10.tail.down hS3.le (G1.le_refl),?_⟩
 refine TG.fork 2 [3,5,7] [3] rfl rfl (by decide) (by decide) (TA.cons rfl ?_ TA.nil)
 refine Z8 hS10 ZlT rfl rfl rfl (Zfd hS10.imm l _ (hvl.mono hle1) hgood hlen hl) (fun w11 G4 r2 hpost2 hS11 hle4=>?_)
 refine ⟨fun _=>hS11.tail.down hS3.le hle4,?_⟩
 refine TG.quiet 1 [5,7] 5 rfl rfl rfl rfl rfl (by decide) (fun w9 K9 k9=>WL.build _ [(0,[Zc t.s.name,v1, .int .i64 t.s.key,v2]),(1,[r2]),(2,[.int .i64 tx])] [Zc t.s.name,v1, .int .i64 t.s.key,v2,r2, .int .i64 tx] Zp rfl Zbc rfl rfl (by show [(0,(.agg #[Zc t.s.name,v1, .int .i64 t.s.key,v2] : Value).cells.toList),(1,(r2 : Value).cells.toList),(2,(.int .i64 tx : Value).cells.toList)] = _; simp only [hpost2.cells1] <;> rfl) rfl k9) ?_
 refine TG.fork 0 [7] [7] rfl rfl (by decide) (by decide) (TA.cons rfl ?_ TA.nil)
 refine WL.store hS11 0 _ _ _ 0 _ [Zc t.s.name,v1, .int .i64 t.s.key,v2,r2, .int .i64 tx] [Zc t.s.name,v1, .int .i64 t.s.key,v2,r2, .int .i64 tx] _ rfl rfl Zp rfl (Nat.le_of_ble_eq_true rfl) (by simp only [List.all_cons,List.all_nil,(hs1.mono (hle1.trans hle4)).oneC,(hs2.mono (hle1.trans hle4)).oneC,hpost2.oneC,Bool.true_and] <;> rfl) rfl rfl rfl rfl rfl (fun w12 hS12=>?_)
 obtain ⟨G5,hle5,hc3,hS13⟩:=hS12.shutB hn3
 refine ⟨fun h=>absurd h (by decide),?_⟩
 refine TG.fin rfl ?_
 refine Za hS13 (XL.drop 4 hc3) YJ rfl rfl rfl ?_
 have bd2:=hpost2.bound
 refine Zl (hpost2.mono hle5) Yn rfl rfl ?_
 refine YZ (((ZZ l).length : Nat) : Int) 500 rfl rfl rfl (fun h2=>?_) (fun h2=>?_)
 ·refine WL.build _ [] [Zc [], .slice none 0 0, .int .i64 0, .slice none 0 0, .slice none 0 0, .int .i64 0] Zp rfl Zbc rfl rfl rfl rfl ?_
  refine WL.store hS13 0 _ _ _ 0 _ [Zc [], .slice none 0 0, .int .i64 0, .slice none 0 0, .slice none 0 0, .int .i64 0] [Zc [], .slice none 0 0, .int .i64 0, .slice none 0 0, .slice none 0 0, .int .i64 0] _ rfl rfl Zp rfl (Nat.le_of_ble_eq_true rfl) rfl rfl rfl rfl rfl rfl (fun w13 hS14=>?_)
  exact X0 [.agg #[Zc [], .slice none 0 0, .int .i64 0, .slice none 0 0, .slice none 0 0, .int .i64 0], .int .i64 5] hS14 ⟨_,_,_,rfl,rfl,hS14.loadA 0 _ _ _ 0 [Zc [], .slice none 0 0, .int .i64 0, .slice none 0 0, .slice none 0 0, .int .i64 0] rfl rfl rfl Zp rfl,⟨_,rfl,rfl⟩⟩ ⟨_,_,rfl,(Is.cast ⟨_,rfl,(Zs (Table.mk (Schema.mk [] [] 0 []) [] 0) (by simp [reach]) (Sl.nil ColE 24 G5) Yl (Sl.nil ForeignE 40 G5) (Sl.nil HRowE 56 G5) Yl)⟩ (by exact (Zfv (by omega)).1)),(congrArg (Value.int .i64) (by exact (Zfv (t:=t) (tx:=tx) (by omega)).2))⟩
 refine Zd hS13 hc3 [Zc t.s.name,v1, .int .i64 t.s.key,v2,r2, .int .i64 tx] Zp rfl rfl rfl rfl rfl ?_
 refine WL.store hS13 0 _ _ _ 0 _ [Zc t.s.name,v1, .int .i64 t.s.key,v2,r2, .int .i64 tx] [Zc t.s.name,v1, .int .i64 t.s.key,v2,r2, .int .i64 tx] _ rfl rfl Zp rfl (Nat.le_of_ble_eq_true rfl) (by simp only [List.all_cons,List.all_nil,(hs1.mono ((hle1.trans hle4).trans hle5)).oneC,(hs2.mono ((hle1.trans hle4).trans hle5)).oneC,(hpost2.mono hle5).oneC,Bool.true_and] <;> rfl) rfl rfl rfl rfl rfl (fun w14 hS15=>?_)
 exact X0 [.agg #[Zc t.s.name,v1, .int .i64 t.s.key,v2,r2, .int .i64 tx], .int .i64 0] hS15 ⟨_,_,_,rfl,rfl,hS15.loadA 0 _ _ _ 0 [Zc t.s.name,v1, .int .i64 t.s.key,v2,r2, .int .i64 tx] rfl rfl rfl Zp rfl,⟨_,rfl,rfl⟩⟩ ⟨_,_,rfl,(Is.cast ⟨_,rfl,(Zs (Table.mk t.s (ZZ l) tx) hb1 (hs1.mono ((hle1.trans hle4).trans hle5)) hb2 (hs2.mono ((hle1.trans hle4).trans hle5)) (hpost2.mono hle5) htx64)⟩ (by exact (Zeg (by omega)).1)),(congrArg (Value.int .i64) (by exact (Zeg (t:=t) (tx:=tx) (by omega)).2))⟩
theorem ZuL {G : GH} {w : World} (hG : G.In w) (l : List Int) (vl : Value) (hvl : Sl Enc.int 8 G vl l) : CL Tryz.prog (nat_lit 78) #[vl] [] w G fun _ _ r=>r = .int .i64 (Qz l):=by
 refine Zh ft [] Tryz.func78 rfl rfl ?_
 have hS:=St.start (X:=[]) hG
 have bd1:=hvl.bound
 refine Zl hvl ZlO rfl rfl ?_
 refine LP.go ft [] (fun m ρ1 w1=>∃ (k1 : Nat),∃ (G1 : GH),m = l.length - k1 ∧ G.le G1 ∧ St w [] G G1 [] w1 ∧ FR ρ1 [(3, .int .i64 0),(6,vl),(7, .int .i64 (l.length : Int)),(8, .int .i64 (k1 : Int))] ∧ k1 ≤ l.length ∧ ∀ j,j < k1 → ∀ x,l[j]? = some x → x = 0) _ ⟨0,G,rfl,(G.le_refl),hS,⟨rfl,rfl,rfl,rfl,trivial⟩,(by omega),(by intro j hj; omega)⟩ ?_
 rintro m ρ1 w1 ⟨k1,G1,rfl,hle1,hS1,hF9,f1,f2⟩
 refine hF9.set ?_
 clear hF9
 refine Zm (k1 : Int) (l.length : Int) rfl rfl rfl (fun h1=>?_) (fun h1=>?_)
 ·refine WL.indexAddr (hvl.mono hle1) k1 (by omega) ZlO Zpb rfl rfl rfl rfl (fun p1 x1 hx1 he1=>?_)
  obtain ⟨cs1,hc1,hr1⟩:=he1
  obtain ⟨rfl,hb1⟩:=hr1
  refine Za hS1 hc1 Zpb rfl rfl rfl ?_
  refine Xn x1 0 rfl rfl rfl (fun h2=>?_) (fun h2=>?_)
  ·exact RI hS1 rfl (by exact (Zji ‹_› ‹_› ‹_›).symm)
  refine Zj k1 (by have hreach : reach = 140737488355328:=rfl; omega) rfl rfl rfl ?_
  exact BK.mk' _ ⟨k1 + 1,G1,rfl,hle1,hS1,⟨rfl,rfl,rfl,rfl,trivial⟩,(by omega),(by exact Yj ‹_› ‹_› ‹_›)⟩ (show l.length - (k1 + 1) < l.length - k1 by omega)
 exact RI hS1 rfl (by exact (Zgv ‹_› (by omega)).symm)
theorem Zeo {G : GH} {w : World} (hG : G.In w) (l : List HRow) (vl : Value) (hvl : Sl HRowE 56 G vl l) : CL Tryz.prog (nat_lit 81) #[vl] [] w G fun G' w' r=>∃ o,Yb HRowE 56 (nat_lit 37) G' r l o ∧ Zfk w w' G' o:=by
 refine Zh ft [] Tryz.func81 rfl rfl ?_
 have hS:=St.start (X:=[]) hG
 refine ZfM hvl Yn rfl rfl rfl (fun h1=>?_) ?_
 ·exact RT hS rfl ⟨none,Yb.cast (Yb.nil _ _ _ _) (by exact Eq.symm ‹_›),fun _ h=>by cases h⟩
 refine WL.buildSlice _ [] [] hS YQ rfl rfl rfl rfl (fun z hz=>by match z,hz with | [],_=>rfl) (fun b1 w1 hn1 hS1=>?_)
 have hr1:=Yb.empty HRowE 56 37 G b1
 refine YA YQ rfl rfl rfl hr1 hS1 0 rfl hvl (by have hreach : reach = 140737488355328:=rfl; have:=hvl.bytes; have:=hvl.bound; simp only [List.length_nil,Nat.zero_add]; omega) (by have hreach : reach = 140737488355328:=rfl; have:=hvl.bytes; have:=hvl.bound; simp only [List.length_nil,Nat.zero_add]; omega) rfl rfl rfl (fun v1 o1 w2 hr2 hS2=>?_)
 exact RT hS2 rfl ⟨_,Yb.cast hr2 (by rfl),hS2.freshAt 0 rfl⟩
theorem Zt0 {G : GH} {w : World} (hG : G.In w) (s : Schema) (cs : List Value) (hcs : SchemaE.rep G s cs) : CL Tryz.prog (nat_lit 112) #[.agg cs.toArray] [] w G fun G' _ r=>∃ r0 r1,r = .tuple #[r0,r1] ∧ Is TableE G' r0 (Z9 s) ∧ r1 = .int .i64 (ZbI s):=by
 refine Y8 ft [] Tryz.func112 rfl rfl ?_
 have hS:=St.start (X:=[]) hG
 obtain ⟨v1,v2,rfl,hb1,hs1,hb2,hs2⟩:=Yk hcs
 refine Z3 [Zc s.name,v1, .int .i64 s.key,v2] _ hS rfl rfl rfl (fun p1 w1 G1 hle1 hsp1 hc1 hS1=>?_)
 refine WL.alloc hS1 Zp rfl rfl (fun b1 w2 hn1 hS2=>?_)
 refine Zd hS2 hc1 [Zc s.name,v1, .int .i64 s.key,v2] Y5 rfl rfl rfl rfl rfl ?_
 refine Zn hS2 ZlS rfl rfl rfl (Zem hS2.imm s _ (Yg s hb1 (hs1.mono hle1) hb2 (hs2.mono hle1))) (fun w3 G2 hS3 hle2=>?_)
 refine WL.split (fun (h1 : (Yu s) = true)=>?_) (fun (h1 : (Yu s) = false)=>?_)
 ·refine Zd hS3 (hc1.mono hle2) [Zc s.name,v1, .int .i64 s.key,v2] Y5 rfl rfl rfl rfl rfl <| WL.build _ [(0,[Zc s.name,v1, .int .i64 s.key,v2]),(2,[.int .i64 (-62135596801)])] [Zc s.name,v1, .int .i64 s.key,v2, .slice none 0 0, .int .i64 (-62135596801)] Zp rfl Zbc rfl rfl rfl rfl ?_
  refine WL.store hS3 0 _ _ _ 0 _ [Zc s.name,v1, .int .i64 s.key,v2, .slice none 0 0, .int .i64 (-62135596801)] [Zc s.name,v1, .int .i64 s.key,v2, .slice none 0 0, .int .i64 (-62135596801)] _ rfl rfl Zp rfl (Nat.le_of_ble_eq_true rfl) (by simp only [List.all_cons,List.all_nil,(hs1.mono (hle1.trans hle2)).oneC,(hs2.mono (hle1.trans hle2)).oneC,Bool.true_and] <;> rfl) rfl rfl rfl rfl rfl (fun w4 hS4=>?_)
  exact X0 [.agg #[Zc s.name,v1, .int .i64 s.key,v2, .slice none 0 0, .int .i64 (-62135596801)], .int .i64 0] hS4 ⟨_,_,_,rfl,rfl,hS4.loadA 0 _ _ _ 0 [Zc s.name,v1, .int .i64 s.key,v2, .slice none 0 0, .int .i64 (-62135596801)] rfl rfl rfl Zp rfl,⟨_,rfl,rfl⟩⟩ ⟨_,_,rfl,(Is.cast ⟨_,rfl,(Zs (Table.mk s [] (-62135596801)) hb1 (hs1.mono (hle1.trans hle2)) hb2 (hs2.mono (hle1.trans hle2)) (Sl.nil HRowE 56 G2) (show Z1 (-62135596801) from by constructor <;> decide))⟩ (by exact (ZiM ‹_›).1)),(congrArg (Value.int .i64) (by exact (ZiM ‹_›).2))⟩
 refine WL.build _ [] [Zc [], .slice none 0 0, .int .i64 0, .slice none 0 0, .slice none 0 0, .int .i64 0] Zp rfl Zbc rfl rfl rfl rfl ?_
 refine WL.store hS3 0 _ _ _ 0 _ [Zc [], .slice none 0 0, .int .i64 0, .slice none 0 0, .slice none 0 0, .int .i64 0] [Zc [], .slice none 0 0, .int .i64 0, .slice none 0 0, .slice none 0 0, .int .i64 0] _ rfl rfl Zp rfl (Nat.le_of_ble_eq_true rfl) rfl rfl rfl rfl rfl rfl (fun w5 hS5=>?_)
 exact X0 [.agg #[Zc [], .slice none 0 0, .int .i64 0, .slice none 0 0, .slice none 0 0, .int .i64 0], .int .i64 1] hS5 ⟨_,_,_,rfl,rfl,hS5.loadA 0 _ _ _ 0 [Zc [], .slice none 0 0, .int .i64 0, .slice none 0 0, .slice none 0 0, .int .i64 0] rfl rfl rfl Zp rfl,⟨_,rfl,rfl⟩⟩ ⟨_,_,rfl,(Is.cast ⟨_,rfl,(Zs (Table.mk (Schema.mk [] [] 0 []) [] 0) (by simp [reach]) (Sl.nil ColE 24 G2) Yl (Sl.nil ForeignE 40 G2) (Sl.nil HRowE 56 G2) Yl)⟩ (by exact (Zrc ‹_›).1)),(congrArg (Value.int .i64) (by exact (Zrc ‹_›).2))⟩
end Go.Civ
namespace Go.Civ
open Go.RowKit
set_option linter.unusedVariables false
def Qa (x : Int) : List Int → List Int
 | []=>[x]
 | y :: r=>if y < x then y :: Qa x r else if y = x then y :: r else x :: y :: r
def ZU (l : List Int) : List Int:=l.foldl (fun out x=>Qa x out) []
section
variable {x y : Int} {l out : List Int} {k : Nat}
theorem Zgb : ∀ {l : List Int},y ∈ Qa x l ↔ y = x ∨ y ∈ l
 | []=>by simp [Qa]
 | z :: r=>by
  unfold Qa
  split
  ·rw [List.mem_cons,Zgb,List.mem_cons]
   constructor
   ·rintro (h | h | h)
    ·exact .inr (.inl h)
    ·exact .inl h
    ·exact .inr (.inr h)
   ·rintro (h | h | h)
    ·exact .inr (.inl h)
    ·exact .inl h
    ·exact .inr (.inr h)
  ·split
   ·rename_i h
    constructor
    ·exact .inr
    ·rintro (rfl | q)
     ·rw [h]; simp
     ·exact q
   ·simp
theorem Zkl : ∀ {l : List Int},l.Pairwise (· < ·) → (Qa x l).Pairwise (· < ·)
 | [],_=>by simp [Qa]
 | z :: r,h=>by
  obtain ⟨h1,h2⟩:=List.pairwise_cons.1 h
  unfold Qa
  split
  ·rename_i hz
   refine List.pairwise_cons.2 ⟨fun w hw=>?_,Zkl h2⟩
   rcases Zgb.1 hw with rfl | hw
   ·exact hz
   ·exact h1 w hw
  ·split
   ·exact h
   ·refine List.pairwise_cons.2 ⟨fun w hw=>?_,h⟩
    rcases List.mem_cons.1 hw with rfl | hw
    ·omega
    ·have:=h1 w hw; omega
theorem Zkm : ∀ {l : List Int},(Qa x l).length ≤ l.length + 1
 | []=>by simp [Qa]
 | z :: r=>by
  have:=Zkm (l:=r)
  unfold Qa
  split
  ·simp; omega
  ·split <;> simp
theorem Zgc : ∀ (l out : List Int),out.Pairwise (· < ·) → (l.foldl (fun out x=>Qa x out) out).Pairwise (· < ·) ∧ ∀ y,y ∈ l.foldl (fun out x=>Qa x out) out ↔ y ∈ l ∨ y ∈ out
 | [],out,h=>⟨h,fun y=>by simp⟩
 | x :: l,out,h=>by
  obtain ⟨h1,h2⟩:=Zgc l (Qa x out) (Zkl h)
  refine ⟨h1,fun y=>(h2 y).trans ?_⟩
  rw [Zgb,List.mem_cons]
  constructor
  ·rintro (a | a | a)
   ·exact .inl (.inr a)
   ·exact .inl (.inl a)
   ·exact .inr a
  ·rintro ((a | a) | a)
   ·exact .inr (.inl a)
   ·exact .inl a
   ·exact .inr (.inr a)
theorem Zep (l : List Int) : (ZU l).Pairwise (· < ·):=(Zgc l [] List.Pairwise.nil).1
theorem Za3 : y ∈ ZU l ↔ y ∈ l:=by unfold ZU; rw [(Zgc l [] List.Pairwise.nil).2 y]; simp
theorem Zbj (h : l[k]? = some x) : ZU (l.take (k + 1)) = Qa x (ZU (l.take k)):=by
 unfold ZU; rw [List.take_add_one,h]; simp [List.foldl_append]
theorem ZcO : ∀ (l : List Int),(ZU l).length ≤ l.length:=by
 have : ∀ (l out : List Int),(l.foldl (fun out x=>Qa x out) out).length ≤ out.length + l.length:=by
  intro l
  induction l with
  | nil=>intro out; simp
  | cons x l ih=>intro out; have:=ih (Qa x out); have:=Zkm (x:=x) (l:=out); rw [List.foldl_cons,List.length_cons]; omega
 intro l
 have:=this l []
 simpa [ZU] using this
theorem Zkn (l : List Int) (k : Nat) : (ZU (l.take k)).length ≤ l.length:=by
 have:=ZcO (l.take k)
 have:=List.length_take_le' k l
 omega
def DnI (out : List Int) (x : Int) (k : Nat) : Prop:=∀ j,j < k → ∀ u,out[j]? = some u → u < x
theorem DnI.step {u : Int} (h : DnI out x k) (hu : out[k]? = some u) (h1 : u < x) : DnI out x (k + 1):=fun j hj w hw=>by
 by_cases e : j = k
 ·subst e; rw [hu] at hw; obtain rfl:=Option.some.inj hw; exact h1
 ·exact h j (by omega) w hw
theorem Zls : ∀ {out : List Int} {k : Nat} {u : Int},DnI out x k → out[k]? = some u → u = x → Qa x out = out
 | [],k,u,_,h,_=>by cases h
 | z :: r,0,u,_,h,e=>by
  obtain rfl:=Option.some.inj h
  unfold Qa
  rw [if_neg (by omega),if_pos e]
 | z :: r,k + 1,u,h1,h,e=>by
  have hz:=h1 0 (by omega) z rfl
  unfold Qa
  rw [if_pos hz,Zls (k:=k) (fun j hj w hw=>h1 (j + 1) (by omega) w (by simpa using hw)) (by simpa using h) e]
theorem Zgd : ∀ {out : List Int} {k : Nat},DnI out x k → k ≤ out.length → (∀ u,out[k]? = some u → x < u) → (([] ++ out.take k) ++ [x]) ++ out.drop k = Qa x out
 | [],0,_,_,_=>by simp [Qa]
 | z :: r,0,_,_,h=>by
  have:=h z rfl
  unfold Qa
  rw [if_neg (by omega),if_neg (by omega)]; simp
 | [],k + 1,_,h,_=>by simp at h
 | z :: r,k + 1,h1,h2,h=>by
  have hz:=h1 0 (by omega) z rfl
  have ih:=Zgd (out:=r) (k:=k) (fun j hj w hw=>h1 (j + 1) (by omega) w (by simpa using hw)) (by simpa using h2) (fun u hu=>h u (by simpa using hu))
  unfold Qa
  rw [if_pos hz,← ih]; simp
end
theorem ZaX {β : Type} {f : Int → Option β} {x : Int} {r : β} : ∀ {l : List Int},x ∈ l → l.Pairwise (· < ·) → (∀ y ∈ l,y < x → f y = none) → f x = some r → l.findSome? f = some r
 | [],h,_,_,_=>by cases h
 | z :: l,h,hp,hn,hf=>by
  obtain ⟨h1,h2⟩:=List.pairwise_cons.1 hp
  rcases List.mem_cons.1 h with rfl | h
  ·rw [List.findSome?_cons,hf]
  ·rw [List.findSome?_cons,hn z (by simp) (h1 x h)]
   exact ZaX h h2 (fun y hy=>hn y (by simp [hy])) hf
def ZdF (k : Nat) (l : List HRow) (ys : List Int) (x : Int) : Option Pt:=ys.findSome? fun y=>(ZQ k (ZJ l y x)).map fun v=>⟨x,y,v⟩
def Zm9 (k : Nat) (l : List HRow) : Option Pt:=(ZU (l.map fun r=>r.r.x.a)).findSome? (ZdF k l (ZU (l.map fun r=>r.r.d.a)))
def X6 (t : Table) : Option Pt:=Zm9 t.s.key.toNat t.rows
theorem Zf1 {k : Nat} {l : List HRow} (hg : Z5 l) (x y : Int) : ZQ k (ZJ l y x) = QM k l x y:=by unfold QM; rw [Za2 hg]
theorem QZ {β : Type} {f : Int → Option β} {l : List Int} (h : ∀ x ∈ l,f x = none) : l.findSome? f = none:=by
 rw [List.findSome?_eq_none_iff]; exact h
theorem Zse {k : Nat} {l : List HRow} (hg : Z5 l) (hn : l = ZZ l) : Zm9 k l = Zfw k l:=by
 unfold Zm9
 by_cases e : Xh k l = []
 ·rw [Zel e]
  refine QZ fun x _=>QZ fun y _=>?_
  rw [Zf1 hg,Zoa hg e]; rfl
 ·rw [Zcx e]
  obtain ⟨h1,h2⟩:=Zcw (ZgW hg) e
  obtain ⟨c1,⟨r,hr,e1⟩,s,hs,e2⟩:=ZeX hg hn h1
  obtain ⟨v,hv⟩:=Option.ne_none_iff_exists'.1 c1
  have hf:=fun {a b : Int} =>Zm4 (tx:=a) (vd:=b) hg (fun q hq=>Zh7 (h2 q hq))
  refine ZaX (Za3.2 (List.mem_map.2 ⟨r,hr,e1⟩)) (Zep _) (fun x _ hx=>QZ fun y _=>?_) (ZaX (Za3.2 (List.mem_map.2 ⟨s,hs,e2⟩)) (Zep _) (fun y _ hy=>?_) ?_)
  ·rw [Zf1 hg,hf (.inl hx)]; rfl
  ·rw [Zf1 hg,hf (.inr ⟨rfl,hy⟩)]; rfl
  ·rw [Zf1 hg,hv]; rfl
theorem Zqk {t : Table} (h : Zy t = true) : X6 t = Zq t:=Zse (ZW h).1 (ZW h).2.2.2
section
variable {k : Nat} {l : VV}
theorem Zko {v w : List Val} : ∀ {l : VV} {j : Nat},(∀ i,i < j → ∀ x y,l[i]? = some x → l[i + 1]? = some y → decide (x.take k = y.take k) = false) → l[j]? = some v → l[j + 1]? = some w → decide (v.take k = w.take k) = true → ZQ k l = some v
 | [],j,_,h,_,_=>by cases h
 | [a],j,_,_,h,_=>by simp at h
 | x :: y :: r,j,h1,h2,h3,h4=>by
  unfold ZQ
  cases j with
  | zero=>
   obtain rfl:=Option.some.inj h2
   obtain rfl:=Option.some.inj h3
   rw [if_pos (of_decide_eq_true h4)]
  | succ j=>
   rw [if_neg (of_decide_eq_false (h1 0 (by omega) x y rfl rfl))]
   exact Zko (j:=j) (fun i hi a b ha hb=>h1 (i + 1) (by omega) a b (by simpa using ha) (by simpa using hb)) (by simpa using h2) (by simpa using h3) h4
theorem Zkp : ∀ {l : VV} {j : Nat},(∀ i,i < j → ∀ x y,l[i]? = some x → l[i + 1]? = some y → decide (x.take k = y.take k) = false) → l.length ≤ j + 1 → ZQ k l = none
 | [],j,_,_=>rfl
 | [a],j,_,_=>rfl
 | x :: y :: r,j,h1,h2=>by
  simp only [List.length_cons] at h2
  obtain ⟨j,rfl⟩ : ∃ i,j = i + 1:=⟨j - 1,by omega⟩
  unfold ZQ
  rw [if_neg (of_decide_eq_false (h1 0 (by omega) x y rfl rfl))]
  exact Zkp (j:=j) (fun i hi a b ha hb=>h1 (i + 1) (by omega) a b (by simpa using ha) (by simpa using hb)) (by simp only [List.length_cons]; omega)
end
theorem ZcP {β : Type} {f : Int → Option β} {r : β} : ∀ {l : List Int} {j : Nat} {x : Int},(∀ i,i < j → ∀ y,l[i]? = some y → f y = none) → l[j]? = some x → f x = some r → l.findSome? f = some r
 | [],j,x,_,h,_=>by cases h
 | z :: l,j,x,h1,h2,hf=>by
  rw [List.findSome?_cons]
  cases j with
  | zero=>obtain rfl:=Option.some.inj h2; rw [hf]
  | succ j=>
   rw [h1 0 (by omega) z rfl]
   exact ZcP (j:=j) (fun i hi y hy=>h1 (i + 1) (by omega) y (by simpa using hy)) (by simpa using h2) hf
theorem Zeq {β : Type} {f : Int → Option β} {l : List Int} {j : Nat} (h : ∀ i,i < j → ∀ y,l[i]? = some y → f y = none) (hj : l.length ≤ j) : l.findSome? f = none:=
 QZ fun x hx=>by
  obtain ⟨i,hi⟩:=List.getElem?_of_mem hx
  obtain ⟨hlt,_⟩:=List.getElem?_eq_some_iff.1 hi
  exact h i (by omega) x hi
section
variable {t : Table}
end
end Go.Civ
namespace Go.Civ
open Go.RowKit
set_option linter.unusedVariables false
section
variable (M : List Val → List Val → Bool) (l : List HRow)
def Za4 (v : List Val) (tx : Int) : List Span:=(l.filter fun o=>YR tx o && M v o.v).map fun o=>o.r.d
def XV (v : List Val) (d : Span) (tx : Int) : List Span:=Yr 3 [d] (Q1 (Za4 M l v tx))
def Zer (t : List HRow) (v : List Val) (vd tx : Int) : Prop:=Zbe t v vd tx ∧ ∀ u,M v u = true → ¬ Zbe l u vd tx
def XW (r : HRow) : List Int → Option Pt
 | []=>none
 | x :: ts=>if X1 x r.r.x then (match XV M l r.v r.r.d x with
  | s :: _=>some ⟨x,s.a,r.v⟩
  | []=>XW r ts) else none
def Y2 (r : HRow) (fr : Int) : Int:=max r.r.x.a fr
def ZiO (r : HRow) (fr : Int) (x : Int) : Prop:=x = Y2 r fr ∨ ∃ o ∈ l,Y2 r fr < o.r.x.b ∧ M r.v o.v = true ∧ o.r.x.b = x
end
section
variable {M : List Val → List Val → Bool} {l t : List HRow} {v : List Val} {d : Span} {tx vd fr : Int} {r : HRow} {ts : List Int}
theorem Zdo (hg : Z5 l) : ∀ s ∈ Za4 M l v tx,ZM s = true:=fun s hs=>by
 obtain ⟨o,ho,rfl⟩:=List.mem_map.1 hs
 exact (Yd (hg o (List.mem_filter.1 ho).1)).2.1
theorem Zgf (hg : Z5 l) (hd : d.a < d.b) : Can (XV M l v d tx) ∧ ∀ x,cover (XV M l v d tx) x ↔ (d.a ≤ x ∧ x < d.b) ∧ ¬ ∃ o ∈ l,YR tx o = true ∧ M v o.v = true ∧ o.r.d.a ≤ x ∧ x < o.r.d.b:=by
 have c:=XP fun s hs=>YB (Zdo (M:=M) (v:=v) (tx:=tx) hg s hs)
 have h:=Zbg (kind:=3) rfl (a:=[d]) (b:=Q1 (Za4 M l v tx)) (by simpa using hd) c.can.pos
 refine ⟨h.1,fun x=>(h.2 x).trans ?_⟩
 have e1 : YY [d] x = true ↔ d.a ≤ x ∧ x < d.b:=by rw [Qu,Qc]
 have e2 : YY (Q1 (Za4 M l v tx)) x = true ↔ ∃ o ∈ l,YR tx o = true ∧ M v o.v = true ∧ o.r.d.a ≤ x ∧ x < o.r.d.b:=by
  rw [Qu,c.cov]
  unfold cover Za4
  constructor
  ·rintro ⟨s,hs,k⟩
   obtain ⟨o,ho,rfl⟩:=List.mem_map.1 hs
   rw [List.mem_filter,Bool.and_eq_true] at ho
   exact ⟨o,ho.1,ho.2.1,ho.2.2,k⟩
  ·rintro ⟨o,ho,k1,k2,k3⟩
   exact ⟨o.r.d,List.mem_map.2 ⟨o,List.mem_filter.2 ⟨ho,by rw [k1,k2]; rfl⟩,rfl⟩,k3⟩
 rw [← e1,← e2]
 simp [Qo]
theorem Ziw (hg : Z5 l) (hd : d.a < d.b) {s : Span} {q : List Span} (h : XV M l v d tx = s :: q) : cover (XV M l v d tx) s.a ∧ (∀ x,cover (XV M l v d tx) x → s.a ≤ x) ∧ (s.a = d.a ∨ ∃ o ∈ l,o.r.d.b = s.a):=by
 have I:=Zgf (M:=M) (v:=v) (tx:=tx) hg hd
 have hc:=I.1
 rw [h] at hc
 have hp:=hc.pos s (by simp)
 have c1 : cover (XV M l v d tx) s.a:=by rw [h]; exact ⟨s,by simp,Int.le_refl _,hp⟩
 have c2 : ∀ x,cover (XV M l v d tx) x → s.a ≤ x:=fun x hx=>by
  rw [h] at hx
  rcases YO.1 hx with k | k
  ·exact k.1
  ·have:=hc.above k; omega
 refine ⟨c1,c2,?_⟩
 obtain ⟨k1,k2⟩:=(I.2 s.a).1 c1
 by_cases e : s.a = d.a
 ·exact .inl e
 ·right
  have n1 : ¬ cover (XV M l v d tx) (s.a - 1):=fun k=>by have:=c2 _ k; omega
  rw [I.2] at n1
  have : ∃ o ∈ l,YR tx o = true ∧ M v o.v = true ∧ o.r.d.a ≤ s.a - 1 ∧ s.a - 1 < o.r.d.b:=by
   refine Classical.byContradiction fun q=>n1 ⟨⟨by omega,by omega⟩,q⟩
  obtain ⟨o,ho,q1,q2,q3,q4⟩:=this
  refine ⟨o,ho,?_⟩
  have : ¬ (o.r.d.a ≤ s.a ∧ s.a < o.r.d.b):=fun k=>k2 ⟨o,ho,q1,q2,k⟩
  omega
theorem ZbY : ∀ {ts : List Int} {p : Pt},XW M l r ts = some p → p.tx ∈ ts ∧ X1 p.tx r.r.x = true ∧ p.v = r.v ∧ ∃ s q,XV M l r.v r.r.d p.tx = s :: q ∧ p.vd = s.a
 | [],p,h=>by cases h
 | x :: ts,p,h=>by
  unfold XW at h
  split at h
  ·rename_i hx
   split at h
   ·rename_i s q hl
    obtain rfl:=Option.some.inj h
    exact ⟨by simp,hx,rfl,s,q,hl,rfl⟩
   ·obtain ⟨a,b⟩:=ZbY h
    exact ⟨List.mem_cons_of_mem _ a,b⟩
  ·cases h
theorem Zlw : ∀ {ts : List Int} {x : Int},ts.Pairwise (· < ·) → x ∈ ts → x < r.r.x.b → (∀ y ∈ ts,r.r.x.a ≤ y) → XV M l r.v r.r.d x ≠ [] → ∃ p,XW M l r ts = some p ∧ p.tx ≤ x
 | [],x,_,h,_,_,_=>by cases h
 | y :: ts,x,hp,h,hx,ha,hl=>by
  obtain ⟨hp1,hp2⟩:=List.pairwise_cons.1 hp
  have hyx : y ≤ x:=by
   rcases List.mem_cons.1 h with e | h
   ·omega
   ·have:=hp1 x h; omega
  have hy : X1 y r.r.x = true:=Zh5.2 ⟨ha y (by simp),by omega⟩
  unfold XW
  rw [if_pos hy]
  split
  ·exact ⟨_,rfl,hyx⟩
  ·rename_i e
   rcases List.mem_cons.1 h with e2 | h
   ·subst e2; exact absurd e hl
   ·exact Zlw hp2 h hx (fun z hz=>ha z (by simp [hz])) hl
theorem Zoy (hgl : Z5 l) (hgt : Z5 t) (hr : r ∈ t) {p : Pt} (hts : ∀ x ∈ ts,ZiO M l r fr x) (h : XW M l r ts = some p) :
  Zer M l t p.v p.vd p.tx ∧ fr ≤ p.tx ∧ (p.tx = fr ∨ (∃ q ∈ t,q.r.x.a = p.tx) ∨ ∃ o ∈ l,o.r.x.b = p.tx) ∧ ((∃ q ∈ t,q.r.d.a = p.vd) ∨ ∃ o ∈ l,o.r.d.b = p.vd):=by
 obtain ⟨h1,h2,h3,s,q,h4,h5⟩:=ZbY h
 have hd:=YB (Yd (hgt r hr)).2.1
 obtain ⟨c1,c2,c3⟩:=Ziw hgl hd h4
 obtain ⟨k1,k2⟩:=((Zgf hgl hd).2 s.a).1 c1
 rw [Zh5] at h2
 refine ⟨⟨⟨r,hr,h3.symm,Q9.2 ⟨by rw [h5]; exact k1.1,by rw [h5]; exact k1.2,h2.1,h2.2⟩⟩,fun u hu=>?_⟩,?_,?_,?_⟩
 ·rintro ⟨o,ho,ho1,ho2⟩
  obtain ⟨z1,z2,z3,z4⟩:=Q9.1 ho2
  refine k2 ⟨o,ho,by unfold YR; simp; exact ⟨z3,z4⟩,by rw [ho1,← h3]; exact hu,by rw [h5] at z1 z2; exact ⟨z1,z2⟩⟩
 ·rcases hts _ h1 with e | ⟨o,ho,e1,_,e2⟩
  ·rw [e]; unfold Y2; omega
  ·unfold Y2 at e1; omega
 ·rcases hts _ h1 with e | ⟨o,ho,e1,_,e2⟩
  ·unfold Y2 at e
   rcases Int.le_total r.r.x.a fr with z | z
   ·left; omega
   ·right; left; exact ⟨r,hr,by omega⟩
  ·right; right; exact ⟨o,ho,e2⟩
 ·rcases c3 with c3 | ⟨o,ho,c3⟩
  ·left; exact ⟨r,hr,by rw [h5]; exact c3.symm⟩
  ·right; exact ⟨o,ho,by rw [h5]; exact c3⟩
theorem Zix : ∀ {ts : List Int} {x : Int},(∃ y ∈ ts,y ≤ x) → ∃ y ∈ ts,y ≤ x ∧ ∀ z ∈ ts,z ≤ x → z ≤ y
 | [],x,⟨y,hy,_⟩=>by cases hy
 | a :: ts,x,h=>by
  by_cases q : ∃ y ∈ ts,y ≤ x
  ·obtain ⟨y,hy,h1,h2⟩:=Zix q
   by_cases e : a ≤ x ∧ y < a
   ·refine ⟨a,by simp,e.1,fun z hz hzx=>?_⟩
    rcases List.mem_cons.1 hz with k | k
    ·omega
    ·have:=h2 z k hzx; omega
   ·refine ⟨y,by simp [hy],h1,fun z hz hzx=>?_⟩
    rcases List.mem_cons.1 hz with k | k
    ·omega
    ·exact h2 z k hzx
  ·obtain ⟨y,hy,hyx⟩:=h
   rcases List.mem_cons.1 hy with k | k
   ·subst k
    refine ⟨y,by simp,hyx,fun z hz hzx=>?_⟩
    rcases List.mem_cons.1 hz with k | k
    ·omega
    ·exact absurd ⟨z,k,hzx⟩ q
   ·exact absurd ⟨y,k,hyx⟩ q
theorem Zks (hgl : Z5 l) (hgt : Z5 t) (hf : fr ≤ tx) (h : Zer M l t v vd tx) : ∃ r ∈ t,r.v = v ∧ ∀ ts : List Int,ts.Pairwise (· < ·) → (∀ x,x ∈ ts ↔ ZiO M l r fr x) → ∃ p,XW M l r ts = some p ∧ (p.tx < tx ∨ (p.tx = tx ∧ p.vd ≤ vd)):=by
 obtain ⟨⟨r,hr,hv,hh⟩,hn⟩:=h
 refine ⟨r,hr,hv,fun ts hp hm=>?_⟩
 obtain ⟨a1,a2,a3,a4⟩:=Q9.1 hh
 have hd:=YB (Yd (hgt r hr)).2.1
 have hs : Y2 r fr ≤ tx:=by unfold Y2; omega
 obtain ⟨y,hy,hyx,hlast⟩:=Zix ⟨Y2 r fr,(hm _).2 (.inl rfl),hs⟩
 have hge : ∀ z ∈ ts,Y2 r fr ≤ z:=fun z hz=>by
  rcases (hm z).1 hz with e | ⟨o,_,e1,_,e2⟩ <;> omega
 have hc : cover (XV M l r.v r.r.d y) vd:=by
  rw [(Zgf hgl hd).2]
  refine ⟨⟨a1,a2⟩,?_⟩
  rintro ⟨o,ho,q1,q2,q3,q4⟩
  unfold YR at q1
  simp at q1
  have hsy:=hge y hy
  have hob : tx < o.r.x.b:=by
   rcases Int.lt_or_le tx o.r.x.b with z | z
   ·exact z
   ·have:=hlast _ ((hm _).2 (.inr ⟨o,ho,by omega,q2,rfl⟩)) z; omega
  exact hn o.v (by rw [← hv]; exact q2) ⟨o,ho,rfl,Q9.2 ⟨q3,q4,by omega,hob⟩⟩
 have hne : XV M l r.v r.r.d y ≠ []:=fun e=>by rw [e] at hc; obtain ⟨_,k,_⟩:=hc; cases k
 obtain ⟨p,hp1,hp2⟩:=Zlw hp hy (by omega) (fun z hz=>by have:=hge z hz; unfold Y2 at this; omega) hne
 refine ⟨p,hp1,?_⟩
 by_cases e : p.tx = tx
 ·right
  refine ⟨e,?_⟩
  have ey : y = tx:=by omega
  obtain ⟨_,_,_,s,q,h4,h5⟩:=ZbY hp1
  rw [h5]
  refine (Ziw hgl hd h4).2.1 vd ?_
  rw [e,← ey]; exact hc
 ·left; omega
end
end Go.Civ
