/- Lemmas. -/
import Derived.Test.YthgeclodflmiaaaGreatH18
import Derived.Test.YthgeclodflmiaaaGreatH25
import Derived.Test.YthgeclodflmiaaaGreatH29
import Derived.Test.YthgeclodflmiaaaGreatProg
import Derived.KernelRfl
import Derived.WalkKit
set_option linter.unusedVariables false
set_option linter.unusedSimpArgs false
set_option maxRecDepth 100000
set_option maxHeartbeats 4000000
namespace Go.Civ
open Go.Proofs
theorem ZaH {G : GH} {w : World} (hG : G.In w) (t : Table) (ct : List Value) (hct : TableE.rep G t ct) : CL Tryz.prog (nat_lit 14) #[.agg ct.toArray] [] w G fun _ _ r=>r = .bool (Z2 t):=by
 refine Zg ft [] Tryz.func14 rfl rfl ?_
 have hS:=St.start (X:=[]) hG
 obtain ⟨v1,v2,v3,rfl,hb1,hs1,hb2,hs2,hs3,hb3⟩:=Zy hct
 refine Zv [Zb t.s.name,v1, .int .i64 t.s.key,v2,v3, .int .i64 t.last] _ hS rfl rfl rfl (fun p1 w1 G1 hle1 hsp1 hc1 hS1=>?_)
 refine Zc hS1 (Xw.drop 0 hc1) [Zb t.s.name,v1, .int .i64 t.s.key,v2] ZbX rfl rfl rfl rfl rfl ?_
 refine Zn hS1 Zqz rfl rfl rfl (ZgL hS1.imm t.s _ (XB t.s hb1 (hs1.mono hle1) hb2 (hs2.mono hle1))) (fun w2 G2 hS2 hle2=>?_)
 refine WL.split (fun (h1 : (YM t.s) = true)=>?_) (fun (h1 : (YM t.s) = false)=>?_)
 ·refine Za hS2 (Xw.drop 5 (hc1.mono hle2)) Zp rfl rfl rfl ?_
  refine Zq t.last (-62135596801) rfl rfl rfl (fun h2=>?_) (fun h2=>?_)
  ·exact RB hS2 rfl (by exact ZeM (Zrd (by omega)))
  refine Za hS2 (Xw.drop 5 (hc1.mono hle2)) Zp rfl rfl rfl ?_
  refine Qv t.last 253402300800 rfl rfl rfl (fun h3=>?_) (fun h3=>?_)
  ·exact RB hS2 rfl (by exact ZeM (Zre (by omega)))
  refine Za hS2 (Xw.drop 4 (hc1.mono hle2)) Xg rfl rfl rfl ?_
  have bd1:=hs3.bound
  refine Zj (hs3.mono (hle1.trans hle2)) Yq rfl rfl ?_
  refine YX (t.rows.length : Int) 500 rfl rfl rfl (fun h4=>?_) (fun h4=>?_)
  ·exact RB hS2 rfl (by exact ZeM (Zrf (by omega)))
  have hA:=Zn3 (by assumption : YM t.s = true) (by omega) (by omega) (by omega)
  refine Za hS2 (Xw.drop 4 (hc1.mono hle2)) Xg rfl rfl rfl ?_
  have bd2:=hs3.bound
  refine Zj (hs3.mono (hle1.trans hle2)) Yq rfl rfl ?_
  refine LP.go ft [] (fun m ρ1 w1=>∃ (k1 : Nat),∃ (G3 : GH),m = t.rows.length - k1 ∧ G2.le G3 ∧ St w [] G G3 [] w1 ∧ FR ρ1 [(1, .pointer (some p1)),(27,v3),(28, .int .i64 (t.rows.length : Int)),(29, .int .i64 (k1 : Int))] ∧ k1 ≤ t.rows.length ∧ ∀ j,j < k1 → ∀ x,t.rows[j]? = some x → YN t.s t.last x = true) _ ⟨0,G2,rfl,(G2.le_refl),hS2,⟨rfl,rfl,rfl,rfl,trivial⟩,(by omega),(by intro j hj; omega)⟩ ?_
  rintro m ρ1 w3 ⟨k1,G3,rfl,hle3,hS3,hF9,f1,f2⟩
  refine hF9.set ?_
  clear hF9
  refine Zq (k1 : Int) (t.rows.length : Int) rfl rfl rfl (fun h5=>?_) (fun h5=>?_)
  ·refine WL.indexAddr (hs3.mono ((hle1.trans hle2).trans hle3)) k1 (by omega) Yq Zt rfl rfl rfl rfl (fun p2 x1 hx1 he1=>?_)
   obtain ⟨cs1,hc2,hr1⟩:=he1
   obtain ⟨v4,rfl,hs4,hb4,hb5,hb6,hb7⟩:=ZA hr1
   refine Zc hS3 hc2 [v4, .int .i64 x1.r.d.a, .int .i64 x1.r.d.b, .int .i64 x1.r.x.a, .int .i64 x1.r.x.b] Zt rfl rfl rfl rfl rfl ?_
   refine WL.alloc hS3 Zt rfl rfl (fun b1 w4 hn1 hS4=>?_)
   refine WL.store hS4 0 _ _ _ 0 _ [v4, .int .i64 x1.r.d.a, .int .i64 x1.r.d.b, .int .i64 x1.r.x.a, .int .i64 x1.r.x.b] [v4, .int .i64 x1.r.d.a, .int .i64 x1.r.d.b, .int .i64 x1.r.x.a, .int .i64 x1.r.x.b] _ rfl rfl Zt rfl (Nat.le_of_ble_eq_true rfl) (by simp only [List.all_cons,List.all_nil,hs4.oneC,Bool.true_and] <;> rfl) rfl rfl rfl rfl rfl (fun w5 hS5=>?_)
   obtain ⟨G4,hle4,hc3,hS6⟩:=hS5.shutB hn1
   refine Zc hS6 (Xw.drop 2 (Xw.drop 1 hc3)) [.int .i64 x1.r.x.a, .int .i64 x1.r.x.b] Zu rfl rfl rfl rfl rfl ?_
   refine WL.alloc hS6 Zu rfl rfl (fun b2 w6 hn2 hS7=>?_)
   refine WL.store hS7 0 _ _ _ 0 _ [.int .i64 x1.r.x.a, .int .i64 x1.r.x.b] [.int .i64 x1.r.x.a, .int .i64 x1.r.x.b] _ rfl rfl Zu rfl (Nat.le_of_ble_eq_true rfl) rfl rfl rfl rfl rfl rfl (fun w7 hS8=>?_)
   obtain ⟨G5,hle5,hc4,hS9⟩:=hS8.shutB hn2
   refine Zc hS9 (Xw.drop 0 (hc1.mono (((hle2.trans hle3).trans hle4).trans hle5))) [Zb t.s.name,v1, .int .i64 t.s.key,v2] ZbX rfl rfl rfl rfl rfl <| Za hS9 (Xw.drop 0 (hc3.mono hle5)) ZH rfl rfl rfl ?_
   refine Zn hS9 Zut rfl rfl rfl (Zpu hS9.imm t.s x1.v _ (XB t.s hb1 (hs1.mono ((((hle1.trans hle2).trans hle3).trans hle4).trans hle5)) hb2 (hs2.mono ((((hle1.trans hle2).trans hle3).trans hle4).trans hle5))) _ (hs4.mono (hle4.trans hle5))) (fun w9 G6 hS10 hle6=>?_)
   refine Yf (YQ t.s x1.v) 0 rfl rfl rfl (fun h6=>?_) (fun h6=>?_)
   ·exact RB hS10 rfl (by exact ZcI ‹_› (Ztr ‹_›))
   refine Zc hS10 (hc3.mono (hle5.trans hle6)) [v4, .int .i64 x1.r.d.a, .int .i64 x1.r.d.b, .int .i64 x1.r.x.a, .int .i64 x1.r.x.b] Zt rfl rfl rfl rfl rfl ?_
   refine Zn hS10 Zuu rfl rfl rfl (Zmo hS10.imm x1 _ (ZQ x1 (hs4.mono ((hle4.trans hle5).trans hle6)) hb4 hb5 hb6 hb7)) (fun w10 G7 hS11 hle7=>?_)
   refine WL.split (fun (h7 : (Y0 x1) = true)=>?_) (fun (h7 : (Y0 x1) = false)=>?_)
   ·refine Za hS11 (Xw.drop 0 (hc4.mono (hle6.trans hle7))) Zp rfl rfl rfl <| Za hS11 (Xw.drop 5 (hc1.mono (((((hle2.trans hle3).trans hle4).trans hle5).trans hle6).trans hle7))) Zp rfl rfl rfl ?_
    refine YX x1.r.x.a t.last rfl rfl rfl (fun h8=>?_) (fun h8=>?_)
    ·exact RB hS11 rfl (by exact ZcI ‹_› (Ztt (by omega)))
    refine Za hS11 (Xw.drop 1 (hc4.mono (hle6.trans hle7))) Zp rfl rfl rfl <| Za hS11 (Xw.drop 5 (hc1.mono (((((hle2.trans hle3).trans hle4).trans hle5).trans hle6).trans hle7))) Zp rfl rfl rfl ?_
    refine YX x1.r.x.b t.last rfl rfl rfl (fun h9=>?_) (fun h9=>?_)
    ·refine Za hS11 (Xw.drop 1 (hc4.mono (hle6.trans hle7))) Zp rfl rfl rfl ?_
     refine Yf x1.r.x.b 253402300800 rfl rfl rfl (fun h10=>?_) (fun h10=>?_)
     ·exact RB hS11 rfl (by exact ZcI ‹_› (Ztu (by omega) (by omega)))
     refine Zl k1 (by have hreach : reach = 140737488355328:=rfl; omega) rfl rfl rfl ?_
     exact BK.mk' _ ⟨k1 + 1,G7,rfl,(hle3.trans (((hle4.trans hle5).trans hle6).trans hle7)),hS11,⟨rfl,rfl,rfl,rfl,trivial⟩,(by omega),(by exact Xy ‹_› ‹_› (Zip ‹_› ‹_› (by omega) (by exact .inr (by omega))))⟩ (show t.rows.length - (k1 + 1) < t.rows.length - k1 by omega)
    refine Zl k1 (by have hreach : reach = 140737488355328:=rfl; omega) rfl rfl rfl ?_
    exact BK.mk' _ ⟨k1 + 1,G7,rfl,(hle3.trans (((hle4.trans hle5).trans hle6).trans hle7)),hS11,⟨rfl,rfl,rfl,rfl,trivial⟩,(by omega),(by exact Xy ‹_› ‹_› (Zip ‹_› ‹_› (by omega) (by exact .inl (by omega))))⟩ (show t.rows.length - (k1 + 1) < t.rows.length - k1 by omega)
   exact RB hS11 rfl (by exact ZcI ‹_› (Zts ‹_›))
  have hall:=Ys (p:=YN t.s t.last) ‹_› (by omega)
  obtain ⟨hg9,hl9⟩:=ZoX hall
  refine dr [(4,true),(5,false),(6,false)] [(68,v3),(70,v3)] hS3 ⟨fun _ hSw=>Za hSw (Xw.drop 4 (hc1.mono (hle2.trans hle3))) Xg rfl rfl rfl <| nu rfl rfl,fun _ hSw=>Za hSw (Xw.drop 4 (hc1.mono (hle2.trans hle3))) Xg rfl rfl rfl <| nu rfl rfl,trivial⟩ (fun w11 hS12=>?_)
  refine Z6 hS12 Znb rfl rfl rfl (ZfL hS12.imm t.rows _ (hs3.mono ((hle1.trans hle2).trans hle3)) hg9 (ZkY hl9) (by omega)) (fun w12 G9 r1 hpost1 hS13 hle9=>?_)
  refine ⟨hS13.down hS12.le hle9,?_⟩
  refine Zn hS13 ZwC rfl rfl rfl (Zr7 hS13.imm t.rows (ZS t.rows) (fun x8 y8=>decide (x8 = y8)) _ (hs3.mono (((hle1.trans hle2).trans hle3).trans hle9)) _ hpost1 67 #[] ⟨ZwD,fun G8 w8 v8 u8 x8 y8 hle8 hG8 hon8 hA8 hB8=>by obtain ⟨cs_x8,rfl,hr_x8⟩:=hA8; obtain ⟨cs_y8,rfl,hr_y8⟩:=hB8; exact Zr6 hG8 x8 y8 cs_x8 hr_x8 cs_y8 hr_y8⟩) (fun w13 G10 hS14 hle10=>?_)
  exact RB hS14 rfl (by exact ZoW hA hall)
 exact RB hS2 rfl (by exact ZeM (Zrc ‹_›))
theorem ZgM {G : GH} {w : World} (hG : G.In w) (t : Table) (tx : Int) (ct : List Value) (hct : TableE.rep G t ct) : CL Tryz.prog (nat_lit 79) #[.agg ct.toArray, .int .i64 tx] [] w G fun _ _ r=>r = .int .i64 (YG t tx):=by
 refine Zg ft [] Tryz.func79 rfl rfl ?_
 have hS:=St.start (X:=[]) hG
 obtain ⟨v1,v2,v3,rfl,hb1,hs1,hb2,hs2,hs3,hb3⟩:=Zy hct
 refine Zv [Zb t.s.name,v1, .int .i64 t.s.key,v2,v3, .int .i64 t.last] _ hS rfl rfl rfl (fun p1 w1 G1 hle1 hsp1 hc1 hS1=>?_)
 refine Zn hS1 Znd rfl rfl rfl (ZdJ hS1.imm tx) (fun w2 G2 hS2 hle2=>?_)
 refine WL.split (fun (h1 : (Yp tx) = true)=>?_) (fun (h1 : (Yp tx) = false)=>?_)
 ·refine Za hS2 (Xw.drop 5 (hc1.mono hle2)) Zp rfl rfl rfl ?_
  refine Qu tx t.last rfl rfl rfl (fun h2=>?_) (fun h2=>?_)
  ·exact RI hS2 rfl (by exact ZuV ‹_› ‹_›)
  exact RI hS2 rfl (by exact ZuW ‹_› (by omega))
 exact RI hS2 rfl (by exact ZuU ‹_›)
theorem ZfM {G : GH} {w : World} (hG : G.In w) (t : Table) (tx : Int) (l : List HRow) (ct : List Value) (hct : TableE.rep G t ct) (vl : Value) (hvl : Sl HRowE 56 G vl l) (htx64 : Zw tx) (hgood : ZK l) (hlen : ∀ r ∈ l,r.v.length ≤ 1000) (hl : l.length ≤ 2000) : CL Tryz.prog (nat_lit 80) #[.agg ct.toArray, .int .i64 tx,vl] [] w G fun G' _ r=>∃ r0 r1,r = .tuple #[r0,r1] ∧ Is TableE G' r0 (Z1 t tx l) ∧ r1 = .int .i64 (X0 l):=by
 refine YB ft [] Tryz.func80 rfl rfl ?_
 have hS:=St.start (X:=[]) hG
 obtain ⟨v1,v2,v3,rfl,hb1,hs1,hb2,hs2,hs3,hb3⟩:=Zy hct
 refine Zv [Zb t.s.name,v1, .int .i64 t.s.key,v2,v3, .int .i64 t.last] _ hS rfl rfl rfl (fun p1 w1 G1 hle1 hsp1 hc1 hS1=>?_)
 refine WL.alloc hS1 Zm rfl rfl (fun b1 w2 hn1 hS2=>?_)
 refine drT [3,5,6,7] [(10, .agg #[Zb t.s.name,v1, .int .i64 t.s.key,v2])] hS2 ⟨fun _ hSw=>Zc hSw (Xw.drop 0 hc1) [Zb t.s.name,v1, .int .i64 t.s.key,v2] ZbX rfl rfl rfl rfl rfl <| nu rfl rfl,trivial⟩ (fun w3 hS3=>?_)
 refine TG.fork 3 [3,5,6,7] [3,6] rfl rfl (by decide) (by decide) (TA.cons rfl ?_ (TA.cons rfl ?_ TA.nil))
 ·refine Z6 hS3 Znb rfl rfl rfl (ZfL hS3.imm l _ (hvl.mono hle1) hgood hlen hl) (fun w4 G2 r1 hpost1 hS4 hle2=>?_)
  refine ⟨fun _=>hS4.down hS3.le hle2,?_⟩
  refine TG.quiet 2 [5,6,7] 5 rfl rfl rfl rfl rfl (by decide) (fun w9 K9 k9=>WL.build _ [(0,[Zb t.s.name,v1, .int .i64 t.s.key,v2]),(1,[r1]),(2,[.int .i64 tx])] [Zb t.s.name,v1, .int .i64 t.s.key,v2,r1, .int .i64 tx] Zm rfl XU rfl rfl (by show [(0,(.agg #[Zb t.s.name,v1, .int .i64 t.s.key,v2] : Value).cells.toList),(1,(r1 : Value).cells.toList),(2,(.int .i64 tx : Value).cells.toList)] = _; simp only [hpost1.cells1] <;> rfl) rfl k9) ?_
  refine TG.fork 1 [6,7] [6] rfl rfl (by decide) (by decide) (TA.cons rfl ?_ TA.nil)
  refine WL.alloc hS4 Zm rfl rfl (fun b2 w5 hn2 hS5=>?_)
  refine ⟨fun _=>hS5.tail.down hS3.le hle2,?_⟩
  refine TG.fork 0 [7] [7] rfl rfl (by decide) (by decide) (TA.cons rfl ?_ TA.nil)
  refine WL.store hS5 0 _ _ _ 0 _ [Zb t.s.name,v1, .int .i64 t.s.key,v2,r1, .int .i64 tx] [Zb t.s.name,v1, .int .i64 t.s.key,v2,r1, .int .i64 tx] _ rfl rfl Zm rfl (Nat.le_of_ble_eq_true rfl) (by simp only [List.all_cons,List.all_nil,(hs1.mono (hle1.trans hle2)).oneC,(hs2.mono (hle1.trans hle2)).oneC,hpost1.oneC,Bool.true_and] <;> rfl) rfl rfl rfl rfl rfl (fun w6 hS6=>?_)
  obtain ⟨G3,hle3,hc2,hS7⟩:=hS6.shutB hn2
  refine ⟨fun h=>absurd h (by decide),?_⟩
  refine TG.fin rfl ?_
  refine Za hS7 (Xw.drop 4 hc2) Xg rfl rfl rfl ?_
  have bd1:=hpost1.bound
  refine Zj (hpost1.mono hle3) Yq rfl rfl ?_
  refine YX (((ZS l).length : Nat) : Int) 500 rfl rfl rfl (fun h1=>?_) (fun h1=>?_)
  ·refine WL.build _ [] [Zb [], .slice none 0 0, .int .i64 0, .slice none 0 0, .slice none 0 0, .int .i64 0] Zm rfl XU rfl rfl rfl rfl ?_
   refine WL.store hS7 0 _ _ _ 0 _ [Zb [], .slice none 0 0, .int .i64 0, .slice none 0 0, .slice none 0 0, .int .i64 0] [Zb [], .slice none 0 0, .int .i64 0, .slice none 0 0, .slice none 0 0, .int .i64 0] _ rfl rfl Zm rfl (Nat.le_of_ble_eq_true rfl) rfl rfl rfl rfl rfl rfl (fun w7 hS8=>?_)
   exact Xe [.agg #[Zb [], .slice none 0 0, .int .i64 0, .slice none 0 0, .slice none 0 0, .int .i64 0], .int .i64 5] hS8 ⟨_,_,_,rfl,rfl,hS8.loadA 0 _ _ _ 0 [Zb [], .slice none 0 0, .int .i64 0, .slice none 0 0, .slice none 0 0, .int .i64 0] rfl rfl rfl Zm rfl,⟨_,rfl,rfl⟩⟩ ⟨_,_,rfl,(Is.cast ⟨_,rfl,(Zi (Table.mk (Schema.mk [] [] 0 []) [] 0) (by simp [reach]) (Sl.nil ColE 24 G3) ZM (Sl.nil ForeignE 40 G3) (Sl.nil HRowE 56 G3) ZM)⟩ (by exact (Zgg (by omega)).1)),(congrArg (Value.int .i64) (by exact (Zgg (t:=t) (tx:=tx) (by omega)).2))⟩
  refine Zc hS7 hc2 [Zb t.s.name,v1, .int .i64 t.s.key,v2,r1, .int .i64 tx] Zm rfl rfl rfl rfl rfl ?_
  refine WL.store hS7 0 _ _ _ 0 _ [Zb t.s.name,v1, .int .i64 t.s.key,v2,r1, .int .i64 tx] [Zb t.s.name,v1, .int .i64 t.s.key,v2,r1, .int .i64 tx] _ rfl rfl Zm rfl (Nat.le_of_ble_eq_true rfl) (by simp only [List.all_cons,List.all_nil,(hs1.mono ((hle1.trans hle2).trans hle3)).oneC,(hs2.mono ((hle1.trans hle2).trans hle3)).oneC,(hpost1.mono hle3).oneC,Bool.true_and] <;> rfl) rfl rfl rfl rfl rfl (fun w9 hS9=>?_)
  exact Xe [.agg #[Zb t.s.name,v1, .int .i64 t.s.key,v2,r1, .int .i64 tx], .int .i64 0] hS9 ⟨_,_,_,rfl,rfl,hS9.loadA 0 _ _ _ 0 [Zb t.s.name,v1, .int .i64 t.s.key,v2,r1, .int .i64 tx] rfl rfl rfl Zm rfl,⟨_,rfl,rfl⟩⟩ ⟨_,_,rfl,(Is.cast ⟨_,rfl,(Zi (Table.mk t.s (ZS l) tx) hb1 (hs1.mono ((hle1.trans hle2).trans hle3)) hb2 (hs2.mono ((hle1.trans hle2).trans hle3)) (hpost1.mono hle3) htx64)⟩ (by exact (ZeN (by omega)).1)),(congrArg (Value.int .i64) (by exact (ZeN (t:=t) (tx:=tx) (by omega)).2))⟩
 refine WL.alloc hS3 Zm rfl rfl (fun b3 w10 hn3 hS10=>?_)
 refine ⟨fun _=>hS10.tail.down hS3.le (G1.le_refl),?_⟩
 refine TG.fork 2 [3,5,7] [3] rfl rfl (by decide) (by decide) (TA.cons rfl ?_ TA.nil)
 refine Z6 hS10 Znb rfl rfl rfl (ZfL hS10.imm l _ (hvl.mono hle1) hgood hlen hl) (fun w11 G4 r2 hpost2 hS11 hle4=>?_)
 refine ⟨fun _=>hS11.tail.down hS3.le hle4,?_⟩
 refine TG.quiet 1 [5,7] 5 rfl rfl rfl rfl rfl (by decide) (fun w9 K9 k9=>WL.build _ [(0,[Zb t.s.name,v1, .int .i64 t.s.key,v2]),(1,[r2]),(2,[.int .i64 tx])] [Zb t.s.name,v1, .int .i64 t.s.key,v2,r2, .int .i64 tx] Zm rfl XU rfl rfl (by show [(0,(.agg #[Zb t.s.name,v1, .int .i64 t.s.key,v2] : Value).cells.toList),(1,(r2 : Value).cells.toList),(2,(.int .i64 tx : Value).cells.toList)] = _; simp only [hpost2.cells1] <;> rfl) rfl k9) ?_
 refine TG.fork 0 [7] [7] rfl rfl (by decide) (by decide) (TA.cons rfl ?_ TA.nil)
 refine WL.store hS11 0 _ _ _ 0 _ [Zb t.s.name,v1, .int .i64 t.s.key,v2,r2, .int .i64 tx] [Zb t.s.name,v1, .int .i64 t.s.key,v2,r2, .int .i64 tx] _ rfl rfl Zm rfl (Nat.le_of_ble_eq_true rfl) (by simp only [List.all_cons,List.all_nil,(hs1.mono (hle1.trans hle4)).oneC,(hs2.mono (hle1.trans hle4)).oneC,hpost2.oneC,Bool.true_and] <;> rfl) rfl rfl rfl rfl rfl (fun w12 hS12=>?_)
 obtain ⟨G5,hle5,hc3,hS13⟩:=hS12.shutB hn3
 refine ⟨fun h=>absurd h (by decide),?_⟩
 refine TG.fin rfl ?_
 refine Za hS13 (Xw.drop 4 hc3) Xg rfl rfl rfl ?_
 have bd2:=hpost2.bound
 refine Zj (hpost2.mono hle5) Yq rfl rfl ?_
 refine YX (((ZS l).length : Nat) : Int) 500 rfl rfl rfl (fun h2=>?_) (fun h2=>?_)
 ·refine WL.build _ [] [Zb [], .slice none 0 0, .int .i64 0, .slice none 0 0, .slice none 0 0, .int .i64 0] Zm rfl XU rfl rfl rfl rfl ?_
  refine WL.store hS13 0 _ _ _ 0 _ [Zb [], .slice none 0 0, .int .i64 0, .slice none 0 0, .slice none 0 0, .int .i64 0] [Zb [], .slice none 0 0, .int .i64 0, .slice none 0 0, .slice none 0 0, .int .i64 0] _ rfl rfl Zm rfl (Nat.le_of_ble_eq_true rfl) rfl rfl rfl rfl rfl rfl (fun w13 hS14=>?_)
  exact Xe [.agg #[Zb [], .slice none 0 0, .int .i64 0, .slice none 0 0, .slice none 0 0, .int .i64 0], .int .i64 5] hS14 ⟨_,_,_,rfl,rfl,hS14.loadA 0 _ _ _ 0 [Zb [], .slice none 0 0, .int .i64 0, .slice none 0 0, .slice none 0 0, .int .i64 0] rfl rfl rfl Zm rfl,⟨_,rfl,rfl⟩⟩ ⟨_,_,rfl,(Is.cast ⟨_,rfl,(Zi (Table.mk (Schema.mk [] [] 0 []) [] 0) (by simp [reach]) (Sl.nil ColE 24 G5) ZM (Sl.nil ForeignE 40 G5) (Sl.nil HRowE 56 G5) ZM)⟩ (by exact (Zgg (by omega)).1)),(congrArg (Value.int .i64) (by exact (Zgg (t:=t) (tx:=tx) (by omega)).2))⟩
 refine Zc hS13 hc3 [Zb t.s.name,v1, .int .i64 t.s.key,v2,r2, .int .i64 tx] Zm rfl rfl rfl rfl rfl ?_
 refine WL.store hS13 0 _ _ _ 0 _ [Zb t.s.name,v1, .int .i64 t.s.key,v2,r2, .int .i64 tx] [Zb t.s.name,v1, .int .i64 t.s.key,v2,r2, .int .i64 tx] _ rfl rfl Zm rfl (Nat.le_of_ble_eq_true rfl) (by simp only [List.all_cons,List.all_nil,(hs1.mono ((hle1.trans hle4).trans hle5)).oneC,(hs2.mono ((hle1.trans hle4).trans hle5)).oneC,(hpost2.mono hle5).oneC,Bool.true_and] <;> rfl) rfl rfl rfl rfl rfl (fun w14 hS15=>?_)
 exact Xe [.agg #[Zb t.s.name,v1, .int .i64 t.s.key,v2,r2, .int .i64 tx], .int .i64 0] hS15 ⟨_,_,_,rfl,rfl,hS15.loadA 0 _ _ _ 0 [Zb t.s.name,v1, .int .i64 t.s.key,v2,r2, .int .i64 tx] rfl rfl rfl Zm rfl,⟨_,rfl,rfl⟩⟩ ⟨_,_,rfl,(Is.cast ⟨_,rfl,(Zi (Table.mk t.s (ZS l) tx) hb1 (hs1.mono ((hle1.trans hle4).trans hle5)) hb2 (hs2.mono ((hle1.trans hle4).trans hle5)) (hpost2.mono hle5) htx64)⟩ (by exact (ZeN (by omega)).1)),(congrArg (Value.int .i64) (by exact (ZeN (t:=t) (tx:=tx) (by omega)).2))⟩
theorem Zsy {G : GH} {w : World} (hG : G.In w) (l : List Int) (vl : Value) (hvl : Sl Enc.int 8 G vl l) : CL Tryz.prog (nat_lit 78) #[vl] [] w G fun _ _ r=>r = .int .i64 (XM l):=by
 refine Zg ft [] Tryz.func78 rfl rfl ?_
 have hS:=St.start (X:=[]) hG
 have bd1:=hvl.bound
 refine Zj hvl ZmW rfl rfl ?_
 refine LP.go ft [] (fun m ρ1 w1=>∃ (k1 : Nat),∃ (G1 : GH),m = l.length - k1 ∧ G.le G1 ∧ St w [] G G1 [] w1 ∧ FR ρ1 [(3, .int .i64 0),(6,vl),(7, .int .i64 (l.length : Int)),(8, .int .i64 (k1 : Int))] ∧ k1 ≤ l.length ∧ ∀ j,j < k1 → ∀ x,l[j]? = some x → x = 0) _ ⟨0,G,rfl,(G.le_refl),hS,⟨rfl,rfl,rfl,rfl,trivial⟩,(by omega),(by intro j hj; omega)⟩ ?_
 rintro m ρ1 w1 ⟨k1,G1,rfl,hle1,hS1,hF9,f1,f2⟩
 refine hF9.set ?_
 clear hF9
 refine Zq (k1 : Int) (l.length : Int) rfl rfl rfl (fun h1=>?_) (fun h1=>?_)
 ·refine WL.indexAddr (hvl.mono hle1) k1 (by omega) ZmW Zqj rfl rfl rfl rfl (fun p1 x1 hx1 he1=>?_)
  obtain ⟨cs1,hc1,hr1⟩:=he1
  obtain ⟨rfl,hb1⟩:=hr1
  refine Za hS1 hc1 Zqj rfl rfl rfl ?_
  refine Yf x1 0 rfl rfl rfl (fun h2=>?_) (fun h2=>?_)
  ·exact RI hS1 rfl (by exact (Zki ‹_› ‹_› ‹_›).symm)
  refine Zl k1 (by have hreach : reach = 140737488355328:=rfl; omega) rfl rfl rfl ?_
  exact BK.mk' _ ⟨k1 + 1,G1,rfl,hle1,hS1,⟨rfl,rfl,rfl,rfl,trivial⟩,(by omega),(by exact Xy ‹_› ‹_› ‹_›)⟩ (show l.length - (k1 + 1) < l.length - k1 by omega)
 exact RI hS1 rfl (by exact (Zhh ‹_› (by omega)).symm)
theorem ZeW {G : GH} {w : World} (hG : G.In w) (l : List HRow) (vl : Value) (hvl : Sl HRowE 56 G vl l) : CL Tryz.prog (nat_lit 81) #[vl] [] w G fun G' w' r=>∃ o,Ye HRowE 56 (nat_lit 37) G' r l o ∧ Ze1 w w' G' o:=by
 refine Zg ft [] Tryz.func81 rfl rfl ?_
 have hS:=St.start (X:=[]) hG
 refine Ze2 hvl Yq rfl rfl rfl (fun h1=>?_) ?_
 ·exact RT hS rfl ⟨none,Ye.cast (Ye.nil _ _ _ _) (by exact Eq.symm ‹_›),fun _ h=>by cases h⟩
 refine WL.buildSlice _ [] [] hS Y4 rfl rfl rfl rfl (fun z hz=>by match z,hz with | [],_=>rfl) (fun b1 w1 hn1 hS1=>?_)
 have hr1:=Ye.empty HRowE 56 37 G b1
 refine YE Y4 rfl rfl rfl hr1 hS1 0 rfl hvl (by have hreach : reach = 140737488355328:=rfl; have:=hvl.bytes; have:=hvl.bound; simp only [List.length_nil,Nat.zero_add]; omega) (by have hreach : reach = 140737488355328:=rfl; have:=hvl.bytes; have:=hvl.bound; simp only [List.length_nil,Nat.zero_add]; omega) rfl rfl rfl (fun v1 o1 w2 hr2 hS2=>?_)
 exact RT hS2 rfl ⟨_,Ye.cast hr2 (by rfl),hS2.freshAt 0 rfl⟩
theorem Zvf {G : GH} {w : World} (hG : G.In w) (s : Schema) (cs : List Value) (hcs : SchemaE.rep G s cs) : CL Tryz.prog (nat_lit 112) #[.agg cs.toArray] [] w G fun G' _ r=>∃ r0 r1,r = .tuple #[r0,r1] ∧ Is TableE G' r0 (Z7 s) ∧ r1 = .int .i64 (Zcd s):=by
 refine YB ft [] Tryz.func112 rfl rfl ?_
 have hS:=St.start (X:=[]) hG
 obtain ⟨v1,v2,rfl,hb1,hs1,hb2,hs2⟩:=Qc hcs
 refine Zv [Zb s.name,v1, .int .i64 s.key,v2] _ hS rfl rfl rfl (fun p1 w1 G1 hle1 hsp1 hc1 hS1=>?_)
 refine WL.alloc hS1 Zm rfl rfl (fun b1 w2 hn1 hS2=>?_)
 refine Zc hS2 hc1 [Zb s.name,v1, .int .i64 s.key,v2] ZbX rfl rfl rfl rfl rfl ?_
 refine Zn hS2 Zqz rfl rfl rfl (ZgL hS2.imm s _ (XB s hb1 (hs1.mono hle1) hb2 (hs2.mono hle1))) (fun w3 G2 hS3 hle2=>?_)
 refine WL.split (fun (h1 : (YM s) = true)=>?_) (fun (h1 : (YM s) = false)=>?_)
 ·refine Zc hS3 (hc1.mono hle2) [Zb s.name,v1, .int .i64 s.key,v2] ZbX rfl rfl rfl rfl rfl <| WL.build _ [(0,[Zb s.name,v1, .int .i64 s.key,v2]),(2,[.int .i64 (-62135596801)])] [Zb s.name,v1, .int .i64 s.key,v2, .slice none 0 0, .int .i64 (-62135596801)] Zm rfl XU rfl rfl rfl rfl ?_
  refine WL.store hS3 0 _ _ _ 0 _ [Zb s.name,v1, .int .i64 s.key,v2, .slice none 0 0, .int .i64 (-62135596801)] [Zb s.name,v1, .int .i64 s.key,v2, .slice none 0 0, .int .i64 (-62135596801)] _ rfl rfl Zm rfl (Nat.le_of_ble_eq_true rfl) (by simp only [List.all_cons,List.all_nil,(hs1.mono (hle1.trans hle2)).oneC,(hs2.mono (hle1.trans hle2)).oneC,Bool.true_and] <;> rfl) rfl rfl rfl rfl rfl (fun w4 hS4=>?_)
  exact Xe [.agg #[Zb s.name,v1, .int .i64 s.key,v2, .slice none 0 0, .int .i64 (-62135596801)], .int .i64 0] hS4 ⟨_,_,_,rfl,rfl,hS4.loadA 0 _ _ _ 0 [Zb s.name,v1, .int .i64 s.key,v2, .slice none 0 0, .int .i64 (-62135596801)] rfl rfl rfl Zm rfl,⟨_,rfl,rfl⟩⟩ ⟨_,_,rfl,(Is.cast ⟨_,rfl,(Zi (Table.mk s [] (-62135596801)) hb1 (hs1.mono (hle1.trans hle2)) hb2 (hs2.mono (hle1.trans hle2)) (Sl.nil HRowE 56 G2) (show Zw (-62135596801) from by constructor <;> decide))⟩ (by exact (ZjI ‹_›).1)),(congrArg (Value.int .i64) (by exact (ZjI ‹_›).2))⟩
 refine WL.build _ [] [Zb [], .slice none 0 0, .int .i64 0, .slice none 0 0, .slice none 0 0, .int .i64 0] Zm rfl XU rfl rfl rfl rfl ?_
 refine WL.store hS3 0 _ _ _ 0 _ [Zb [], .slice none 0 0, .int .i64 0, .slice none 0 0, .slice none 0 0, .int .i64 0] [Zb [], .slice none 0 0, .int .i64 0, .slice none 0 0, .slice none 0 0, .int .i64 0] _ rfl rfl Zm rfl (Nat.le_of_ble_eq_true rfl) rfl rfl rfl rfl rfl rfl (fun w5 hS5=>?_)
 exact Xe [.agg #[Zb [], .slice none 0 0, .int .i64 0, .slice none 0 0, .slice none 0 0, .int .i64 0], .int .i64 1] hS5 ⟨_,_,_,rfl,rfl,hS5.loadA 0 _ _ _ 0 [Zb [], .slice none 0 0, .int .i64 0, .slice none 0 0, .slice none 0 0, .int .i64 0] rfl rfl rfl Zm rfl,⟨_,rfl,rfl⟩⟩ ⟨_,_,rfl,(Is.cast ⟨_,rfl,(Zi (Table.mk (Schema.mk [] [] 0 []) [] 0) (by simp [reach]) (Sl.nil ColE 24 G2) ZM (Sl.nil ForeignE 40 G2) (Sl.nil HRowE 56 G2) ZM)⟩ (by exact (Zsu ‹_›).1)),(congrArg (Value.int .i64) (by exact (Zsu ‹_›).2))⟩
end Go.Civ
