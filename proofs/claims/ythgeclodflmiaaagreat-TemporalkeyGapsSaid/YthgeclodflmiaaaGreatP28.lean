/- Lemmas. -/
import Derived.Test.YthgeclodflmiaaaGreatP20
import Derived.Test.YthgeclodflmiaaaGreatP24
import Derived.Test.YthgeclodflmiaaaGreatP27
import Derived.Test.YthgeclodflmiaaaGreatProg
import Derived.KernelRfl
import Derived.WalkKit
set_option linter.unusedVariables false
set_option linter.unusedSimpArgs false
set_option maxRecDepth 100000
set_option maxHeartbeats 4000000
namespace Go.Civ
open Go.Proofs
theorem ZeB {G : GH} {w : World} (hG : G.In w) (l : List HRow) (vl : Value) (hvl : Sl HRowE 56 G vl l) (hgood : ZA l) (hlen : ∀ r ∈ l,r.v.length ≤ 1000) (hl : l.length ≤ 2000) : CL Tryz.prog (nat_lit 66) #[vl] [] w G fun G' _ r=>Sl HRowE 56 G' r (ZO l):=by
 refine Zg ft [] Tryz.func66 rfl rfl ?_
 have hS:=St.start (X:=[]) hG
 refine Z3 hS Zln rfl rfl rfl (ZdF hS.imm l _ hvl hgood hlen hl) (fun w1 G1 r1 hpost1 hS1 hle1=>?_)
 have bd1:=hpost1.bound
 refine Zi hpost1 QP rfl rfl ?_
 have hS3:=hS1.pad
 refine LP.go ft [] (fun m ρ1 w1=>∃ (k1 : Nat),∃ (v1 : Value) (o1 : OB),∃ (G2 : GH),m = (ZT l).length - k1 ∧ G1.le G2 ∧ St w [] G G2 [o1] w1 ∧ ZS HRowE 56 37 G2 v1 (ZbZ ((ZT l).take k1)) o1 ∧ FR ρ1 [(3,v1),(7,r1),(8, .int .i64 (((ZT l).length : Nat) : Int)),(9, .int .i64 (k1 : Int))] ∧ k1 ≤ (ZT l).length) _ ⟨0,(.slice none 0 0),none,G1,rfl,(G1.le_refl),hS3,(ZS.nil HRowE 56 37 G1),⟨rfl,rfl,rfl,rfl,trivial⟩,(by omega)⟩ ?_
 rintro m ρ1 w2 ⟨k1,v1,o1,G2,rfl,hle2,hS2,hr1,hF9,f1⟩
 refine hF9.set ?_
 clear hF9
 have hgl:=@Zbp l
 have hpl:=ZdT (k:=k1) (fun g hg=>Nat.le_trans (Zgu g hg) hl) (Nat.le_trans hgl hl)
 refine Zq (k1 : Int) (((ZT l).length : Nat) : Int) rfl rfl rfl (fun h1=>?_) (fun h1=>?_)
 ·refine WL.indexAddr (hpost1.mono hle2) k1 (by omega) QP Xm rfl rfl rfl rfl (fun p1 x1 hx1 he1=>?_)
  obtain ⟨cs1,hc1,hr2⟩:=he1
  obtain ⟨v2,v3,rfl,hs1,hs2⟩:=Q9 hr2
  refine Zc hS2 hc1 [v2,v3] Xm rfl rfl rfl rfl rfl ?_
  refine WL.alloc hS2 Xm rfl rfl (fun b1 w3 hn1 hS4=>?_)
  refine WL.store hS4 0 _ _ _ 0 _ [v2,v3] [v2,v3] _ rfl rfl Xm rfl (Nat.le_of_ble_eq_true rfl) (by simp only [List.all_cons,List.all_nil,hs1.oneC,hs2.oneC,Bool.true_and] <;> rfl) rfl rfl rfl rfl rfl (fun w4 hS5=>?_)
  obtain ⟨G3,hle3,hc2,hS6⟩:=hS5.shutB hn1
  have hok:=ZeX hgood hl (by assumption : (ZT l)[k1]? = some _); have hgn:=Zev hok.2
  refine Zc hS6 hc2 [v2,v3] Xm rfl rfl rfl rfl rfl ?_
  refine Z3 hS6 ZpC rfl rfl rfl (ZhN hS6.imm x1 _ (Zdy x1 (hs1.mono hle3) (hs2.mono hle3)) hok.1 hok.2) (fun w5 G4 r2 hpost2 hS7 hle4=>?_)
  refine Zb5 YE rfl rfl rfl (hr1.mono (hle3.trans hle4)) hS7 0 rfl hpost2 (by have hreach : reach = 140737488355328:=rfl; (show _ * 56 ≤ _; omega)) (by have hreach : reach = 140737488355328:=rfl; omega) rfl rfl rfl (fun v4 o2 w6 hr3 hS8=>?_)
  refine Zk k1 (by have hreach : reach = 140737488355328:=rfl; omega) rfl rfl rfl ?_
  exact BK.mk' _ ⟨k1 + 1,v4,o2,G4,rfl,(hle2.trans (hle3.trans hle4)),hS8,(ZS.cast hr3 (by (rw [Zgt ‹_›]))),⟨rfl,rfl,rfl,rfl,trivial⟩,(by omega)⟩ (show (ZT l).length - (k1 + 1) < (ZT l).length - k1 by omega)
 obtain ⟨G5,hle5,hs3,hS9⟩:=ZS.freeze hr1 hS2 0 rfl
 exact RT hS9 rfl (Sl.cast hs3 (by rw [List.take_of_length_le (by omega)]; rfl))
theorem Zpc {G : GH} {w : World} (hG : G.In w) (l : List HRow) (pf : HRow → Bool) (vl : Value) (hvl : Sl HRowE 56 G vl l) (fid : Nat) (fcap : Array Value) (hf : FnB Tryz.prog (Is HRowE) fid fcap G (fun x=>x ∈ l) pf) : CL Tryz.prog (nat_lit 113) #[vl, .func (.func fid) #[] fcap] [] w G fun _ _ r=>r = .int .i64 (Q6 pf l):=by
 refine Zg ft [] Tryz.func113 rfl rfl ?_
 have hS:=St.start (X:=[]) hG
 have bd1:=hvl.bound
 refine Zi hvl YB rfl rfl ?_
 refine LP.go ft [] (fun m ρ1 w1=>∃ (k1 : Nat),∃ (G1 : GH),m = l.length - k1 ∧ G.le G1 ∧ St w [] G G1 [] w1 ∧ FR ρ1 [(0,vl),(1, .func (.func fid) #[] fcap),(7, .int .i64 (l.length : Int)),(8, .int .i64 (k1 : Int))] ∧ k1 ≤ l.length ∧ ∀ j,j < k1 → ∀ x,l[j]? = some x → pf x = false) _ ⟨0,G,rfl,(G.le_refl),hS,⟨rfl,rfl,rfl,rfl,trivial⟩,(by omega),(by intro j hj; omega)⟩ ?_
 rintro m ρ1 w1 ⟨k1,G1,rfl,hle1,hS1,hF9,f1,f2⟩
 refine hF9.set ?_
 clear hF9
 refine Zq (k1 : Int) (l.length : Int) rfl rfl rfl (fun h1=>?_) (fun h1=>?_)
 ·refine WL.indexAddr (hvl.mono hle1) k1 (by omega) YB Zx rfl rfl rfl rfl (fun p1 x1 hx1 he1=>?_)
  obtain ⟨cs1,hc1,hr1⟩:=he1
  obtain ⟨v1,rfl,hs1,hb1,hb2,hb3,hb4⟩:=ZK hr1
  refine Zc hS1 hc1 [v1, .int .i64 x1.r.d.a, .int .i64 x1.r.d.b, .int .i64 x1.r.x.a, .int .i64 x1.r.x.b] Zx rfl rfl rfl rfl rfl ?_
  refine Zj hS1 hf.body rfl rfl rfl (hf.call _ _ (.agg #[v1, .int .i64 x1.r.d.a, .int .i64 x1.r.d.b, .int .i64 x1.r.x.a, .int .i64 x1.r.x.b]) x1 hle1 hS1.imm (List.mem_of_getElem? hx1) ⟨_,rfl,(ZM x1 hs1 hb1 hb2 hb3 hb4)⟩) (fun w2 G2 hS2 hle2=>?_)
  refine WL.split (fun (h2 : (pf x1) = true)=>?_) (fun (h2 : (pf x1) = false)=>?_)
  ·exact RI hS2 rfl (by exact (QU _ ‹_› ‹_› ‹_›).symm)
  refine Zk k1 (by have hreach : reach = 140737488355328:=rfl; omega) rfl rfl rfl ?_
  exact BK.mk' _ ⟨k1 + 1,G2,rfl,(hle1.trans hle2),hS2,⟨rfl,rfl,rfl,rfl,trivial⟩,(by omega),(by exact YV ‹_› ‹_› ‹_›)⟩ (show l.length - (k1 + 1) < l.length - k1 by omega)
 exact RI hS1 rfl (by exact (Q7 ‹_› (by omega)).symm)
theorem Zfr {G : GH} {w : World} (hG : G.In w) (l : List HRow) (pf : HRow → Bool) (vl : Value) (hvl : Sl HRowE 56 G vl l) (fid : Nat) (fcap : Array Value) (hf : FnB Tryz.prog (Is HRowE) fid fcap G (fun x=>x ∈ l) pf) : CL Tryz.prog (nat_lit 58) #[vl, .func (.func fid) #[] fcap] [] w G fun _ _ r=>r = .bool (l.any pf):=by
 refine Zg ft [] Tryz.func58 rfl rfl ?_
 have hS:=St.start (X:=[]) hG
 refine Zj hS ZsM rfl rfl rfl (Zpc hS.imm l pf _ hvl fid fcap (hf.up (G.le_refl))) (fun w1 G1 hS1 hle1=>?_)
 refine ZY .geq rfl .i64 (Q6 pf l) 0 rfl rfl rfl ?_
 exact RB hS1 rfl (by exact Zbh _ _)
theorem Zni {G : GH} {w : World} (hG : G.In w) (l : List (List Val)) (pf : (List Val) → Bool) (vl : Value) (hvl : Sl (ValE.slice 32) 24 G vl l) (fid : Nat) (fcap : Array Value) (hf : FnB Tryz.prog (Sl ValE 32) fid fcap G (fun x=>x ∈ l) pf) : CL Tryz.prog (nat_lit 92) #[vl, .func (.func fid) #[] fcap] [] w G fun _ _ r=>r = .int .i64 (Q6 pf l):=by
 refine Zg ft [] Tryz.func92 rfl rfl ?_
 have hS:=St.start (X:=[]) hG
 have bd1:=hvl.bound
 refine Zi hvl ZaI rfl rfl ?_
 refine LP.go ft [] (fun m ρ1 w1=>∃ (k1 : Nat),∃ (G1 : GH),m = l.length - k1 ∧ G.le G1 ∧ St w [] G G1 [] w1 ∧ FR ρ1 [(0,vl),(1, .func (.func fid) #[] fcap),(7, .int .i64 (l.length : Int)),(8, .int .i64 (k1 : Int))] ∧ k1 ≤ l.length ∧ ∀ j,j < k1 → ∀ x,l[j]? = some x → pf x = false) _ ⟨0,G,rfl,(G.le_refl),hS,⟨rfl,rfl,rfl,rfl,trivial⟩,(by omega),(by intro j hj; omega)⟩ ?_
 rintro m ρ1 w1 ⟨k1,G1,rfl,hle1,hS1,hF9,f1,f2⟩
 refine hF9.set ?_
 clear hF9
 refine Zq (k1 : Int) (l.length : Int) rfl rfl rfl (fun h1=>?_) (fun h1=>?_)
 ·refine WL.indexAddr (hvl.mono hle1) k1 (by omega) ZaI ZG rfl rfl rfl rfl (fun p1 x1 hx1 he1=>?_)
  obtain ⟨cs1,hc1,hr1⟩:=he1
  obtain ⟨v1,rfl,hs1⟩:=hr1
  refine Zb hS1 hc1 ZG rfl rfl rfl ?_
  refine Zj hS1 hf.body rfl rfl rfl (hf.call _ _ v1 x1 hle1 hS1.imm (List.mem_of_getElem? hx1) hs1) (fun w2 G2 hS2 hle2=>?_)
  refine WL.split (fun (h2 : (pf x1) = true)=>?_) (fun (h2 : (pf x1) = false)=>?_)
  ·exact RI hS2 rfl (by exact (QU _ ‹_› ‹_› ‹_›).symm)
  refine Zk k1 (by have hreach : reach = 140737488355328:=rfl; omega) rfl rfl rfl ?_
  exact BK.mk' _ ⟨k1 + 1,G2,rfl,(hle1.trans hle2),hS2,⟨rfl,rfl,rfl,rfl,trivial⟩,(by omega),(by exact YV ‹_› ‹_› ‹_›)⟩ (show l.length - (k1 + 1) < l.length - k1 by omega)
 exact RI hS1 rfl (by exact (Q7 ‹_› (by omega)).symm)
theorem Zaa {G : GH} {w : World} (hG : G.In w) (l : List (List Val)) (pf : (List Val) → Bool) (vl : Value) (hvl : Sl (ValE.slice 32) 24 G vl l) (fid : Nat) (fcap : Array Value) (hf : FnB Tryz.prog (Sl ValE 32) fid fcap G (fun x=>x ∈ l) pf) : CL Tryz.prog (nat_lit 29) #[vl, .func (.func fid) #[] fcap] [] w G fun _ _ r=>r = .bool (l.any pf):=by
 refine Zg ft [] Tryz.func29 rfl rfl ?_
 have hS:=St.start (X:=[]) hG
 refine Zj hS ZtP rfl rfl rfl (Zni hS.imm l pf _ hvl fid fcap (hf.up (G.le_refl))) (fun w1 G1 hS1 hle1=>?_)
 refine ZY .geq rfl .i64 (Q6 pf l) 0 rfl rfl rfl ?_
 exact RB hS1 rfl (by exact Zbh _ _)
theorem Zpd {G : GH} {w : World} (hG : G.In w) (x : Val) (cx : List Value) (hcx : ValE.rep G x cx) : CL Tryz.prog (nat_lit 127) #[.agg cx.toArray] [] w G fun _ _ r=>r = .bool (!Z9 x):=by
 refine Zg ft [] Tryz.func127 rfl rfl ?_
 have hS:=St.start (X:=[]) hG
 obtain ⟨rfl,hb1,hb2,hb3⟩:=Yv hcx
 refine Zu [.int .i64 x.k, .int .i64 x.n,Zd x.s] _ hS rfl rfl rfl (fun p1 w1 G1 hle1 hsp1 hc1 hS1=>?_)
 refine Zc hS1 hc1 [.int .i64 x.k, .int .i64 x.n,Zd x.s] Ya rfl rfl rfl rfl rfl ?_
 refine Zj hS1 Zlq rfl rfl rfl (Zf2 hS1.imm x _ (Qb x hb1 hb2 hb3)) (fun w2 G2 hS2 hle2=>?_)
 exact RB hS2 rfl (by rfl)
theorem Zk9 {G : GH} {w : World} (hG : G.In w) (x : HRow) (cx : List Value) (hcx : HRowE.rep G x cx) : CL Tryz.prog (nat_lit 64) #[.agg cx.toArray] [] w G fun _ _ r=>r = .bool (Yh x):=by
 refine Zg ft [] Tryz.func64 rfl rfl ?_
 have hS:=St.start (X:=[]) hG
 obtain ⟨v1,rfl,hs1,hb1,hb2,hb3,hb4⟩:=ZK hcx
 refine Zu [v1, .int .i64 x.r.d.a, .int .i64 x.r.d.b, .int .i64 x.r.x.a, .int .i64 x.r.x.b] _ hS rfl rfl rfl (fun p1 w1 G1 hle1 hsp1 hc1 hS1=>?_)
 refine Zb hS1 (Xl.drop 0 hc1) ZG rfl rfl rfl ?_
 refine Zj hS1 Zlp rfl rfl rfl (ZcQ hS1.imm x.v (fun x8=>!Z9 x8) _ (hs1.mono hle1) 127 #[] ⟨ZsR,fun G8 w8 v8 x8 hle8 hG8 hon8 hA8=>by obtain ⟨cs_x8,rfl,hr_x8⟩:=hA8; exact Zpd hG8 x8 cs_x8 hr_x8⟩) (fun w2 G2 hS2 hle2=>?_)
 refine WL.split (fun (h1 : (x.v.any (fun x8=>!Z9 x8)) = true)=>?_) (fun (h1 : (x.v.any (fun x8=>!Z9 x8)) = false)=>?_)
 ·exact RB hS2 rfl (by exact ZqI ‹_›)
 refine Zc hS2 (Xl.drop 0 (Xl.drop 1 (hc1.mono hle2))) [.int .i64 x.r.d.a, .int .i64 x.r.d.b] Zt rfl rfl rfl rfl rfl ?_
 refine Zj hS2 Zok rfl rfl rfl (ZgR hS2.imm x.r.d _ (Zs x.r.d hb1 hb2)) (fun w3 G3 hS3 hle3=>?_)
 refine WL.split (fun (h2 : (ZC x.r.d) = true)=>?_) (fun (h2 : (ZC x.r.d) = false)=>?_)
 ·refine Zc hS3 (Xl.drop 2 (Xl.drop 1 (hc1.mono (hle2.trans hle3)))) [.int .i64 x.r.x.a, .int .i64 x.r.x.b] Zt rfl rfl rfl rfl rfl ?_
  refine Zj hS3 Zok rfl rfl rfl (ZgR hS3.imm x.r.x _ (Zs x.r.x hb3 hb4)) (fun w4 G4 hS4 hle4=>?_)
  exact RB hS4 rfl (by exact ZqK ‹_› ‹_›)
 exact RB hS3 rfl (by exact ZqJ ‹_› ‹_›)
theorem ZlM {G : GH} {w : World} (hG : G.In w) (x : HRow) (cx : List Value) (hcx : HRowE.rep G x cx) : CL Tryz.prog (nat_lit 132) #[.agg cx.toArray] [] w G fun _ _ r=>r = .bool (!Yh x):=by
 refine Zg ft [] Tryz.func132 rfl rfl ?_
 have hS:=St.start (X:=[]) hG
 obtain ⟨v1,rfl,hs1,hb1,hb2,hb3,hb4⟩:=ZK hcx
 refine Zu [v1, .int .i64 x.r.d.a, .int .i64 x.r.d.b, .int .i64 x.r.x.a, .int .i64 x.r.x.b] _ hS rfl rfl rfl (fun p1 w1 G1 hle1 hsp1 hc1 hS1=>?_)
 refine Zc hS1 hc1 [v1, .int .i64 x.r.d.a, .int .i64 x.r.d.b, .int .i64 x.r.x.a, .int .i64 x.r.x.b] Zx rfl rfl rfl rfl rfl ?_
 refine Zj hS1 Zr8 rfl rfl rfl (Zk9 hS1.imm x _ (ZM x (hs1.mono hle1) hb1 hb2 hb3 hb4)) (fun w2 G2 hS2 hle2=>?_)
 exact RB hS2 rfl (by rfl)
theorem Zpe {G : GH} {w : World} (hG : G.In w) (x y : HRow) (cx : List Value) (hcx : HRowE.rep G x cx) (cy : List Value) (hcy : HRowE.rep G y cy) : CL Tryz.prog (nat_lit 67) #[.agg cx.toArray, .agg cy.toArray] [] w G fun _ _ r=>r = .bool (decide (x = y)):=by
 refine Zg ft [] Tryz.func67 rfl rfl ?_
 have hS:=St.start (X:=[]) hG
 obtain ⟨v1,rfl,hs1,hb1,hb2,hb3,hb4⟩:=ZK hcx
 obtain ⟨v2,rfl,hs2,hb5,hb6,hb7,hb8⟩:=ZK hcy
 refine Zu [v1, .int .i64 x.r.d.a, .int .i64 x.r.d.b, .int .i64 x.r.x.a, .int .i64 x.r.x.b] _ hS rfl rfl rfl (fun p1 w1 G1 hle1 hsp1 hc1 hS1=>?_)
 refine Zu [v2, .int .i64 y.r.d.a, .int .i64 y.r.d.b, .int .i64 y.r.x.a, .int .i64 y.r.x.b] _ hS1 rfl rfl rfl (fun p2 w2 G2 hle2 hsp2 hc2 hS2=>?_)
 refine Zb hS2 (Xl.drop 0 (hc1.mono hle2)) ZG rfl rfl rfl <| Zb hS2 (Xl.drop 0 hc2) ZG rfl rfl rfl ?_
 refine Zj hS2 ZaK rfl rfl rfl (XK hS2.imm x.v y.v _ (hs1.mono (hle1.trans hle2)) _ (hs2.mono (hle1.trans hle2))) (fun w3 G3 hS3 hle3=>?_)
 refine WL.split (fun (h1 : (decide (x.v = y.v)) = true)=>?_) (fun (h1 : (decide (x.v = y.v)) = false)=>?_)
 ·refine Zc hS3 (Xl.drop 1 (hc1.mono (hle2.trans hle3))) [.int .i64 x.r.d.a, .int .i64 x.r.d.b, .int .i64 x.r.x.a, .int .i64 x.r.x.b] ZcO rfl rfl rfl rfl rfl <| Zc hS3 (Xl.drop 1 (hc2.mono hle3)) [.int .i64 y.r.d.a, .int .i64 y.r.d.b, .int .i64 y.r.x.a, .int .i64 y.r.x.b] ZcO rfl rfl rfl rfl rfl <| Zdq (ZiV x.r y.r) ZpP rfl rfl rfl ?_
  exact RB hS3 rfl (by exact ZmM ‹_›)
 exact RB hS3 rfl (by exact ZmL ‹_›)
theorem Zpf {G : GH} {w : World} (hG : G.In w) (a b : List HRow) (pf : HRow → HRow → Bool) (va : Value) (hva : Sl HRowE 56 G va a) (vb : Value) (hvb : Sl HRowE 56 G vb b) (fid : Nat) (fcap : Array Value) (hf : FnB2 Tryz.prog (Is HRowE) (Is HRowE) fid fcap G (fun x y=>x ∈ a ∧ y ∈ b) pf) : CL Tryz.prog (nat_lit 65) #[va,vb, .func (.func fid) #[] fcap] [] w G fun _ _ r=>r = .bool (Q0 pf a b):=by
 refine Zg ft [] Tryz.func65 rfl rfl ?_
 have hS:=St.start (X:=[]) hG
 have bd1:=hva.bound
 refine Zi hva YB rfl rfl ?_
 have bd2:=hvb.bound
 refine Zi hvb YB rfl rfl ?_
 refine YQ (a.length : Int) (b.length : Int) rfl rfl rfl (fun h1=>?_) (fun h1=>?_)
 ·exact RB hS rfl (by exact (Zag (by omega)).symm)
 have bd3:=hva.bound
 refine Zi hva YB rfl rfl ?_
 refine LP.go ft [] (fun m ρ1 w1=>∃ (k1 : Nat),∃ (G1 : GH),m = a.length - k1 ∧ G.le G1 ∧ St w [] G G1 [] w1 ∧ FR ρ1 [(1,vb),(2, .func (.func fid) #[] fcap),(15,va),(16, .int .i64 (a.length : Int)),(17, .int .i64 (k1 : Int))] ∧ k1 ≤ a.length ∧ ∀ j,j < k1 → ∀ x y,a[j]? = some x → b[j]? = some y → pf x y = true) _ ⟨0,G,rfl,(G.le_refl),hS,⟨rfl,rfl,rfl,rfl,rfl,trivial⟩,(by omega),(by intro j hj; omega)⟩ ?_
 rintro m ρ1 w1 ⟨k1,G1,rfl,hle1,hS1,hF9,f1,f2⟩
 refine hF9.set ?_
 clear hF9
 refine Zq (k1 : Int) (a.length : Int) rfl rfl rfl (fun h2=>?_) (fun h2=>?_)
 ·refine WL.indexAddr (hva.mono hle1) k1 (by omega) YB Zx rfl rfl rfl rfl (fun p1 x1 hx1 he1=>?_)
  obtain ⟨cs1,hc1,hr1⟩:=he1
  obtain ⟨v1,rfl,hs1,hb1,hb2,hb3,hb4⟩:=ZK hr1
  refine Zc hS1 hc1 [v1, .int .i64 x1.r.d.a, .int .i64 x1.r.d.b, .int .i64 x1.r.x.a, .int .i64 x1.r.x.b] Zx rfl rfl rfl rfl rfl ?_
  refine WL.alloc hS1 Zx rfl rfl (fun b1 w2 hn1 hS2=>?_)
  refine WL.store hS2 0 _ _ _ 0 _ [v1, .int .i64 x1.r.d.a, .int .i64 x1.r.d.b, .int .i64 x1.r.x.a, .int .i64 x1.r.x.b] [v1, .int .i64 x1.r.d.a, .int .i64 x1.r.d.b, .int .i64 x1.r.x.a, .int .i64 x1.r.x.b] _ rfl rfl Zx rfl (Nat.le_of_ble_eq_true rfl) (by simp only [List.all_cons,List.all_nil,hs1.oneC,Bool.true_and] <;> rfl) rfl rfl rfl rfl rfl (fun w3 hS3=>?_)
  obtain ⟨G2,hle2,hc2,hS4⟩:=hS3.shutB hn1
  refine WL.indexAddr (hvb.mono (hle1.trans hle2)) k1 (by omega) YB Zx rfl rfl rfl rfl (fun p2 x2 hx2 he2=>?_)
  obtain ⟨cs2,hc3,hr2⟩:=he2
  obtain ⟨v2,rfl,hs2,hb5,hb6,hb7,hb8⟩:=ZK hr2
  refine Zc hS4 hc3 [v2, .int .i64 x2.r.d.a, .int .i64 x2.r.d.b, .int .i64 x2.r.x.a, .int .i64 x2.r.x.b] Zx rfl rfl rfl rfl rfl ?_
  refine WL.alloc hS4 Zx rfl rfl (fun b2 w4 hn2 hS5=>?_)
  refine WL.store hS5 0 _ _ _ 0 _ [v2, .int .i64 x2.r.d.a, .int .i64 x2.r.d.b, .int .i64 x2.r.x.a, .int .i64 x2.r.x.b] [v2, .int .i64 x2.r.d.a, .int .i64 x2.r.d.b, .int .i64 x2.r.x.a, .int .i64 x2.r.x.b] _ rfl rfl Zx rfl (Nat.le_of_ble_eq_true rfl) (by simp only [List.all_cons,List.all_nil,hs2.oneC,Bool.true_and] <;> rfl) rfl rfl rfl rfl rfl (fun w5 hS6=>?_)
  obtain ⟨G3,hle3,hc4,hS7⟩:=hS6.shutB hn2
  refine Zc hS7 (hc2.mono hle3) [v1, .int .i64 x1.r.d.a, .int .i64 x1.r.d.b, .int .i64 x1.r.x.a, .int .i64 x1.r.x.b] Zx rfl rfl rfl rfl rfl <| Zc hS7 hc4 [v2, .int .i64 x2.r.d.a, .int .i64 x2.r.d.b, .int .i64 x2.r.x.a, .int .i64 x2.r.x.b] Zx rfl rfl rfl rfl rfl ?_
  refine Zj hS7 hf.body rfl rfl rfl (hf.call _ _ (.agg #[v1, .int .i64 x1.r.d.a, .int .i64 x1.r.d.b, .int .i64 x1.r.x.a, .int .i64 x1.r.x.b]) (.agg #[v2, .int .i64 x2.r.d.a, .int .i64 x2.r.d.b, .int .i64 x2.r.x.a, .int .i64 x2.r.x.b]) x1 x2 ((hle1.trans hle2).trans hle3) hS7.imm ⟨(List.mem_of_getElem? hx1),(List.mem_of_getElem? hx2)⟩ ⟨_,rfl,(ZM x1 (hs1.mono (hle2.trans hle3)) hb1 hb2 hb3 hb4)⟩ ⟨_,rfl,(ZM x2 (hs2.mono hle3) hb5 hb6 hb7 hb8)⟩) (fun w6 G4 hS8 hle4=>?_)
  refine WL.split (fun (h3 : (pf x1 x2) = true)=>?_) (fun (h3 : (pf x1 x2) = false)=>?_)
  ·refine Zk k1 (by have hreach : reach = 140737488355328:=rfl; omega) rfl rfl rfl ?_
   exact BK.mk' _ ⟨k1 + 1,G4,rfl,(hle1.trans ((hle2.trans hle3).trans hle4)),hS8,⟨rfl,rfl,rfl,rfl,rfl,trivial⟩,(by omega),(by exact Za2 ‹_› ‹_› ‹_› (by simp_all))⟩ (show a.length - (k1 + 1) < a.length - k1 by omega)
  exact RB hS8 rfl (by exact (ZaG ‹_› ‹_› (by simp_all)).symm)
 exact RB hS1 rfl (by exact (Za5 (by omega) ‹_› (by omega)).symm)
theorem ZcI {G : GH} {w : World} (hG : G.In w) (x : Int) : CL Tryz.prog (nat_lit 85) #[.int .i64 x] [] w G fun _ _ r=>r = .bool (ZB x):=by
 refine Zg ft [] Tryz.func85 rfl rfl ?_
 have hS:=St.start (X:=[]) hG
 refine XJ x (-62135596800) rfl rfl rfl (fun h1=>?_) (fun h1=>?_)
 ·refine ZY .lss rfl .i64 x 253402300800 rfl rfl rfl ?_
  exact RB hS rfl (by unfold ZB; simp_all [Cmp.b] <;> (first | omega | (intros; omega) | (rw [Bool.eq_iff_iff]; simp <;> omega) | (rw [Bool.eq_iff_iff]; simp_all <;> omega)))
 exact RB hS rfl (by unfold ZB; simp_all [Cmp.b] <;> (omega))
end Go.Civ
