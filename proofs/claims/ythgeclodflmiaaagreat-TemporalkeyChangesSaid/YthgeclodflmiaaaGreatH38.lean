/- Lemmas. -/
import Derived.Test.YthgeclodflmiaaaGreatH20
import Derived.Test.YthgeclodflmiaaaGreatH34
import Derived.Test.YthgeclodflmiaaaGreatH35
import Derived.Test.YthgeclodflmiaaaGreatH36
import Derived.Test.YthgeclodflmiaaaGreatH37
import Derived.Test.YthgeclodflmiaaaGreatProg
import Derived.KernelRfl
import Derived.WalkKit
set_option linter.unusedVariables false
set_option linter.unusedSimpArgs false
set_option maxRecDepth 100000
set_option maxHeartbeats 4000000
namespace Go.Civ
open Go.Proofs
theorem ZrK {G : GH} {w : World} (hG : G.In w) (x : HRow) (cx : List Value) (hcx : HRowE.rep G x cx) : CL Tryz.prog (nat_lit 59) #[.agg cx.toArray] [] w G fun _ _ r=>r = .bool (Zl6 x):=by
 refine Zg ft [] Tryz.func59 rfl rfl ?_
 have hS:=St.start (X:=[]) hG
 obtain ⟨v1,rfl,hs1,hb1,hb2,hb3,hb4⟩:=ZA hcx
 refine Zv [v1, .int .i64 x.r.d.a, .int .i64 x.r.d.b, .int .i64 x.r.x.a, .int .i64 x.r.x.b] _ hS rfl rfl rfl (fun p1 w1 G1 hle1 hsp1 hc1 hS1=>?_)
 refine Za hS1 (Xw.drop 0 hc1) ZH rfl rfl rfl ?_
 have bd1:=hs1.bound
 refine Zj (hs1.mono hle1) Yd rfl rfl <| ZZ .gtr rfl .i64 (x.v.length : Int) 20 rfl rfl rfl ?_
 exact RB hS1 rfl (by rfl)
theorem ZtI {G : GH} {w : World} (hG : G.In w) (t : Table) (ct : List Value) (hct : TableE.rep G t ct) : CL Tryz.prog (nat_lit 12) #[.agg ct.toArray] [] w G fun _ _ r=>r = .bool (Zdt t):=by
 refine Zg ft [] Tryz.func12 rfl rfl ?_
 have hS:=St.start (X:=[]) hG
 obtain ⟨v1,v2,v3,rfl,hb1,hs1,hb2,hs2,hs3,hb3⟩:=Zy hct
 refine Zv [Zb t.s.name,v1, .int .i64 t.s.key,v2,v3, .int .i64 t.last] _ hS rfl rfl rfl (fun p1 w1 G1 hle1 hsp1 hc1 hS1=>?_)
 refine Za hS1 (Xw.drop 4 hc1) Xg rfl rfl rfl ?_
 have bd1:=hs3.bound
 refine Zj (hs3.mono hle1) Yq rfl rfl ?_
 refine Qu (t.rows.length : Int) 24 rfl rfl rfl (fun h1=>?_) (fun h1=>?_)
 ·refine Za hS1 (Xw.drop 1 (Xw.drop 0 hc1)) Zc2 rfl rfl rfl ?_
  have bd2:=hs1.bound
  refine Zj (hs1.mono hle1) Qx rfl rfl ?_
  refine Qu (t.s.cols.length : Int) 10 rfl rfl rfl (fun h2=>?_) (fun h2=>?_)
  ·refine Za hS1 (Xw.drop 3 (Xw.drop 0 hc1)) Zqi rfl rfl rfl ?_
   have bd3:=hs2.bound
   refine Zj (hs2.mono hle1) ZmT rfl rfl ?_
   refine Qu (t.s.fks.length : Int) 10 rfl rfl rfl (fun h3=>?_) (fun h3=>?_)
   ·refine Za hS1 (Xw.drop 4 hc1) Xg rfl rfl rfl ?_
    refine Zn hS1 Zqy rfl rfl rfl (Zg0 hS1.imm t.rows (fun x8=>Zl6 x8) _ (hs3.mono hle1) 59 #[] ⟨ZwA,fun G8 w8 v8 x8 hle8 hG8 hon8 hA8=>by obtain ⟨cs_x8,rfl,hr_x8⟩:=hA8; exact ZrK hG8 x8 cs_x8 hr_x8⟩) (fun w2 G2 hS2 hle2=>?_)
    exact RB hS2 rfl (by unfold Zdt; simp_all [Cmp.b] <;> (first | omega | (intros; omega) | (rw [Bool.eq_iff_iff]; simp <;> omega) | (rw [Bool.eq_iff_iff]; simp_all <;> omega)))
   exact RB hS1 rfl (by unfold Zdt; simp_all [Cmp.b] <;> (omega))
  exact RB hS1 rfl (by unfold Zdt; simp_all [Cmp.b] <;> (omega))
 exact RB hS1 rfl (by unfold Zdt; simp_all [Cmp.b] <;> (omega))
theorem Zbz {G : GH} {w : World} (hG : G.In w) (t : Table) (ct : List Value) (hct : TableE.rep G t ct) : CL Tryz.prog (nat_lit 19) #[.agg ct.toArray] [] w G fun _ _ r=>r = .bool (Zbm t):=by
 refine Zg ft [] Tryz.func19 rfl rfl ?_
 have hS:=St.start (X:=[]) hG
 obtain ⟨v1,v2,v3,rfl,hb1,hs1,hb2,hs2,hs3,hb3⟩:=Zy hct
 refine Zv [Zb t.s.name,v1, .int .i64 t.s.key,v2,v3, .int .i64 t.last] _ hS rfl rfl rfl (fun p1 w1 G1 hle1 hsp1 hc1 hS1=>?_)
 refine Za hS1 (Xw.drop 0 (Xw.drop 0 hc1)) Yj rfl rfl rfl <| Ya .eql rfl t.s.name [] rfl rfl rfl ?_
 refine WL.split (fun h0=>?_) (fun h0=>?_)
 ·have h1 : t.s.name = []:=by simpa [SCmp.b] using h0
  clear h0
  refine Za hS1 (Xw.drop 4 hc1) Xg rfl rfl rfl ?_
  have bd1:=hs3.bound
  refine Zj (hs3.mono hle1) Yq rfl rfl ?_
  refine ZC (t.rows.length : Int) 0 rfl rfl rfl (fun h2=>?_) (fun h2=>?_)
  ·refine Za hS1 (Xw.drop 5 hc1) Zp rfl rfl rfl <| ZZ .eql rfl .i64 t.last 0 rfl rfl rfl ?_
   exact RB hS1 rfl (by unfold Zbm; simp_all [Cmp.b,SCmp.b] <;> ((rw [Bool.eq_iff_iff]; simp <;> omega)))
  exact RB hS1 rfl (by unfold Zbm; simp_all [Cmp.b,SCmp.b] <;> (first | omega | (intros; omega) | (rw [Bool.eq_iff_iff]; simp <;> omega) | (rw [Bool.eq_iff_iff]; simp_all <;> omega)))
 have h1 : t.s.name ≠ []:=by simpa [SCmp.b] using h0
 clear h0
 exact RB hS1 rfl (by unfold Zbm; simp_all [Cmp.b,SCmp.b] <;> (first | omega | (intros; omega) | (rw [Bool.eq_iff_iff]; simp <;> omega) | (rw [Bool.eq_iff_iff]; simp_all <;> omega)))
theorem Zmu {G : GH} {w : World} (hG : G.In w) (a b : Table) (ca : List Value) (hca : TableE.rep G a ca) (cb : List Value) (hcb : TableE.rep G b cb) : CL Tryz.prog (nat_lit 51) #[.agg ca.toArray, .agg cb.toArray] [] w G fun _ _ r=>r = .bool (ZbN a b):=by
 refine Zg ft [] Tryz.func51 rfl rfl ?_
 have hS:=St.start (X:=[]) hG
 obtain ⟨v1,v2,v3,rfl,hb1,hs1,hb2,hs2,hs3,hb3⟩:=Zy hca
 obtain ⟨v4,v5,v6,rfl,hb4,hs4,hb5,hs5,hs6,hb6⟩:=Zy hcb
 refine Zv [Zb a.s.name,v1, .int .i64 a.s.key,v2,v3, .int .i64 a.last] _ hS rfl rfl rfl (fun p1 w1 G1 hle1 hsp1 hc1 hS1=>?_)
 refine Zv [Zb b.s.name,v4, .int .i64 b.s.key,v5,v6, .int .i64 b.last] _ hS1 rfl rfl rfl (fun p2 w2 G2 hle2 hsp2 hc2 hS2=>?_)
 refine Za hS2 (Xw.drop 0 (Xw.drop 0 (hc1.mono hle2))) Yj rfl rfl rfl <| Za hS2 (Xw.drop 0 (Xw.drop 0 hc2)) Yj rfl rfl rfl <| Ya .eql rfl a.s.name b.s.name rfl rfl rfl ?_
 refine WL.split (fun h0=>?_) (fun h0=>?_)
 ·have h1 : a.s.name = b.s.name:=by simpa [SCmp.b] using h0
  clear h0
  refine Za hS2 (Xw.drop 5 (hc1.mono hle2)) Zp rfl rfl rfl <| Za hS2 (Xw.drop 5 hc2) Zp rfl rfl rfl ?_
  refine ZC a.last b.last rfl rfl rfl (fun h2=>?_) (fun h2=>?_)
  ·refine Za hS2 (Xw.drop 4 (hc1.mono hle2)) Xg rfl rfl rfl <| Za hS2 (Xw.drop 4 hc2) Xg rfl rfl rfl ?_
   refine Zn hS2 Zah rfl rfl rfl (ZrJ hS2.imm a.rows b.rows _ (hs3.mono (hle1.trans hle2)) _ (hs6.mono (hle1.trans hle2))) (fun w3 G3 hS3 hle3=>?_)
   exact RB hS3 rfl (by unfold ZbN; simp_all [Cmp.b,SCmp.b] <;> (first | omega | (intros; omega) | (rw [Bool.eq_iff_iff]; simp <;> omega) | (rw [Bool.eq_iff_iff]; simp_all <;> omega)))
  exact RB hS2 rfl (by unfold ZbN; simp_all [Cmp.b,SCmp.b] <;> (first | omega | (intros; omega) | (rw [Bool.eq_iff_iff]; simp <;> omega) | (rw [Bool.eq_iff_iff]; simp_all <;> omega)))
 have h1 : a.s.name ≠ b.s.name:=by simpa [SCmp.b] using h0
 clear h0
 exact RB hS2 rfl (by unfold ZbN; simp_all [Cmp.b,SCmp.b] <;> (first | omega | (intros; omega) | (rw [Bool.eq_iff_iff]; simp <;> omega) | (rw [Bool.eq_iff_iff]; simp_all <;> omega)))
end Go.Civ
set_option linter.unusedVariables false
set_option linter.unusedSimpArgs false
set_option maxRecDepth 100000
set_option maxHeartbeats 4000000
namespace Go.Civ
open Go.Proofs
theorem ZlO {G : GH} {w : World} (hG : G.In w) (l : List HRow) (at_ tx : Int) (vl : Value) (hvl : Sl HRowE 56 G vl l) (hl : l.length ≤ 2000) : CL Tryz.prog (nat_lit 70) #[vl, .int .i64 at_, .int .i64 tx] [] w G fun G' _ r=>Sl (ValE.slice 32) 24 G' r (Yw l at_ tx):=by
 refine Zg ft [] Tryz.func70 rfl rfl ?_
 have hS:=St.start (X:=[]) hG
 have hS2:=hS.pad
 refine LP.go ft [] (fun m ρ1 w1=>∃ (k1 : Nat),∃ (v1 : Value) (o1 : OB),∃ (G1 : GH),m = l.length - k1 ∧ G.le G1 ∧ St w [] G G1 [o1] w1 ∧ Ye HRowE 56 37 G1 v1 (Zal (l.take k1) at_ tx) o1 ∧ FR ρ1 [(0,vl),(1, .int .i64 at_),(2, .int .i64 tx),(7,v1),(8, .int .i64 (k1 : Int))] ∧ k1 ≤ l.length) _ ⟨0,(.slice none 0 0),none,G,rfl,(G.le_refl),hS2,(Ye.cast (Ye.nil HRowE 56 37 G) (by rfl)),⟨rfl,rfl,rfl,rfl,rfl,trivial⟩,(by omega)⟩ ?_
 rintro m ρ1 w1 ⟨k1,v1,o1,G1,rfl,hle1,hS1,hr1,hF9,f1⟩
 refine hF9.set ?_
 clear hF9
 have hhl:=Zph l at_ tx k1
 have bd1:=hvl.bound
 refine Zj (hvl.mono hle1) Yq rfl rfl ?_
 refine Zq (k1 : Int) (l.length : Int) rfl rfl rfl (fun h1=>?_) (fun h1=>?_)
 ·refine WL.indexAddr (hvl.mono hle1) k1 (by omega) Yq Zt rfl rfl rfl rfl (fun p1 x1 hx1 he1=>?_)
  obtain ⟨cs1,hc1,hr2⟩:=he1
  obtain ⟨v2,rfl,hs1,hb1,hb2,hb3,hb4⟩:=ZA hr2
  refine Zc hS1 (Xw.drop 1 hc1) [.int .i64 x1.r.d.a, .int .i64 x1.r.d.b, .int .i64 x1.r.x.a, .int .i64 x1.r.x.b] Zb8 rfl rfl rfl rfl rfl ?_
  refine WL.alloc hS1 Zb8 rfl rfl (fun b1 w2 hn1 hS3=>?_)
  refine WL.store hS3 0 _ _ _ 0 _ [.int .i64 x1.r.d.a, .int .i64 x1.r.d.b, .int .i64 x1.r.x.a, .int .i64 x1.r.x.b] [.int .i64 x1.r.d.a, .int .i64 x1.r.d.b, .int .i64 x1.r.x.a, .int .i64 x1.r.x.b] _ rfl rfl Zb8 rfl (Nat.le_of_ble_eq_true rfl) rfl rfl rfl rfl rfl rfl (fun w3 hS4=>?_)
  obtain ⟨G2,hle2,hc2,hS5⟩:=hS4.shutB hn1
  refine Za hS5 (Xw.drop 0 (Xw.drop 0 hc2)) Zp rfl rfl rfl ?_
  refine Qu x1.r.d.a at_ rfl rfl rfl (fun h2=>?_) (fun h2=>?_)
  ·refine Za hS5 (Xw.drop 1 (Xw.drop 0 hc2)) Zp rfl rfl rfl ?_
   refine Zq at_ x1.r.d.b rfl rfl rfl (fun h3=>?_) (fun h3=>?_)
   ·refine Za hS5 (Xw.drop 0 (Xw.drop 2 hc2)) Zp rfl rfl rfl ?_
    refine Qu x1.r.x.a tx rfl rfl rfl (fun h4=>?_) (fun h4=>?_)
    ·refine Za hS5 (Xw.drop 1 (Xw.drop 2 hc2)) Zp rfl rfl rfl ?_
     refine Zq tx x1.r.x.b rfl rfl rfl (fun h5=>?_) (fun h5=>?_)
     ·refine WL.indexAddr (hvl.mono (hle1.trans hle2)) k1 (by omega) Yq Zt rfl rfl rfl rfl (fun p2 x2 hx2 he2=>?_)
      obtain rfl : x1 = x2:=Option.some.inj (hx1.symm.trans hx2)
      obtain ⟨cs2,hc3,hr3⟩:=he2
      obtain ⟨v3,rfl,hs2,hb5,hb6,hb7,hb8⟩:=ZA hr3
      refine Zc hS5 hc3 [v3, .int .i64 x1.r.d.a, .int .i64 x1.r.d.b, .int .i64 x1.r.x.a, .int .i64 x1.r.x.b] Zt rfl rfl rfl rfl rfl ?_
      refine WL.buildSlice _ [(0,[v3, .int .i64 x1.r.d.a, .int .i64 x1.r.d.b, .int .i64 x1.r.x.a, .int .i64 x1.r.x.b])] [v3, .int .i64 x1.r.d.a, .int .i64 x1.r.d.b, .int .i64 x1.r.x.a, .int .i64 x1.r.x.b] hS5 Y4 rfl rfl rfl rfl (fun z hz=>by match z,hz with | [z0,z1,z2,z3,z4],_=>rfl) (fun b2 w4 hn2 hS6=>?_)
      refine WL.push (m:=([x1] : List HRow)) Y4 rfl rfl rfl (hr1.mono hle2) hS6 1 rfl 0 _ _ _ _ _ rfl ⟨[v3, .int .i64 x1.r.d.a, .int .i64 x1.r.d.b, .int .i64 x1.r.x.a, .int .i64 x1.r.x.b],_,rfl,(ZQ x1 hs2 hb5 hb6 hb7 hb8),rfl⟩ rfl (by have hreach : reach = 140737488355328:=rfl; simp only [List.length_append,List.length_map,List.length_cons,List.length_nil]; omega) (by have hreach : reach = 140737488355328:=rfl; simp only [List.length_append,List.length_map,List.length_cons,List.length_nil]; omega) rfl rfl rfl (fun v4 o2 w5 hr4 hS7=>?_)
      have hS8:=hS7.tail
      refine Zl k1 (by have hreach : reach = 140737488355328:=rfl; omega) rfl rfl rfl ?_
      exact BK.mk' _ ⟨k1 + 1,v4,o2,G2,rfl,(hle1.trans hle2),hS8,(Ye.cast hr4 (by (exact (Zpg ‹_› ‹_› ‹_› ‹_› ‹_›).symm))),⟨rfl,rfl,rfl,rfl,rfl,trivial⟩,(by omega)⟩ (show l.length - (k1 + 1) < l.length - k1 by omega)
     refine Zl k1 (by have hreach : reach = 140737488355328:=rfl; omega) rfl rfl rfl ?_
     exact BK.mk' _ ⟨k1 + 1,v1,o1,G2,rfl,(hle1.trans hle2),hS5,(Ye.cast (hr1.mono hle2) (by (exact (ZeQ ‹_› (by omega)).symm))),⟨rfl,rfl,rfl,rfl,rfl,trivial⟩,(by omega)⟩ (show l.length - (k1 + 1) < l.length - k1 by omega)
    refine Zl k1 (by have hreach : reach = 140737488355328:=rfl; omega) rfl rfl rfl ?_
    exact BK.mk' _ ⟨k1 + 1,v1,o1,G2,rfl,(hle1.trans hle2),hS5,(Ye.cast (hr1.mono hle2) (by (exact (ZeQ ‹_› (by omega)).symm))),⟨rfl,rfl,rfl,rfl,rfl,trivial⟩,(by omega)⟩ (show l.length - (k1 + 1) < l.length - k1 by omega)
   refine Zl k1 (by have hreach : reach = 140737488355328:=rfl; omega) rfl rfl rfl ?_
   exact BK.mk' _ ⟨k1 + 1,v1,o1,G2,rfl,(hle1.trans hle2),hS5,(Ye.cast (hr1.mono hle2) (by (exact (ZeQ ‹_› (by omega)).symm))),⟨rfl,rfl,rfl,rfl,rfl,trivial⟩,(by omega)⟩ (show l.length - (k1 + 1) < l.length - k1 by omega)
  refine Zl k1 (by have hreach : reach = 140737488355328:=rfl; omega) rfl rfl rfl ?_
  exact BK.mk' _ ⟨k1 + 1,v1,o1,G2,rfl,(hle1.trans hle2),hS5,(Ye.cast (hr1.mono hle2) (by (exact (ZeQ ‹_› (by omega)).symm))),⟨rfl,rfl,rfl,rfl,rfl,trivial⟩,(by omega)⟩ (show l.length - (k1 + 1) < l.length - k1 by omega)
 obtain ⟨G3,hle3,hs3,hS9⟩:=Ye.freeze hr1 hS1 0 rfl
 refine Z6 hS9 ZvE rfl rfl rfl (ZrI hS9.imm (Zal (l.take k1) at_ tx) _ hs3 (by omega)) (fun w6 G4 r1 hpost1 hS10 hle4=>?_)
 exact RT hS10 rfl (Sl.cast hpost1 (by rw [List.take_of_length_le (by omega)]; rfl))
end Go.Civ
set_option linter.unusedVariables false
set_option linter.unusedSimpArgs false
set_option maxRecDepth 100000
set_option maxHeartbeats 4000000
namespace Go.Civ
open Go.Proofs
def Zi0 (d : Nat) : Prop:=∀ {G : GH} {w : World} (hG : G.In w) (c : Cond) (dep n : Int) (cc : List Value) (hcc : (Y1 d).rep G c cc) (pb : Nat) (hpb : XJ w G (some (pb,(nat_lit 3),[.int .i64 n]))) (hdep : 0 ≤ dep ∧ dep ≤ 31) (hn : 0 ≤ n ∧ n ≤ 100),CL Tryz.prog (nat_lit 47) #[.agg cc.toArray, .int .i64 dep, .pointer (some ⟨pb,0,none⟩)] [pb] w G fun G' w' r=>(r = .bool ((YR d c dep n).1)) ∧ XJ w' G' (some (pb,(nat_lit 3),[.int .i64 ((YR d c dep n).2)]))
theorem ZrO {G : GH} {w : World} (hG : G.In w) (d : Nat) (c : Cond) (dep n : Int) (hN : Zi0 d) (pb : Nat) (hpb : XJ w G (some (pb,(nat_lit 3),[.int .i64 n]))) (cc : List Value) (hcc : (Y1 d).rep G c cc) (pd : Addr) (hpd : Xw G pd [.int .i64 dep]) (pn : Addr) (hpn : Xw G pn [.pointer (some ⟨pb,0,none⟩)]) (hdep : 0 ≤ dep ∧ dep ≤ 30) (hn : 0 ≤ n ∧ n ≤ 100) : CL Tryz.prog (nat_lit 105) #[.agg cc.toArray, .pointer (some pd), .pointer (some pn)] [pb] w G fun G' w' r=>(r = .bool (!(YR d c (dep + 1) n).1)) ∧ XJ w' G' (some (pb,(nat_lit 3),[.int .i64 ((YR d c (dep + 1) n).2)])):=by
 refine Zg ft [] Tryz.func105 rfl rfl ?_
 have hdep64 : Zw dep:=⟨by omega,by omega⟩
 have hn64 : Zw n:=⟨by omega,by omega⟩
 have hS:=St.lentO hG hpb
 obtain ⟨lv1,rfl,hb1,hb2,hb3,hb4,hb5,hb6,ho1⟩:=YS hcc
 refine Zv [.int .i64 c.kind,Zb c.col,Zb c.oth, .int .i64 c.v.k, .int .i64 c.v.n,Zb c.v.s,lv1] _ hS rfl rfl rfl (fun p1 w1 G1 hle1 hsp1 hc1 hS1=>?_)
 refine Zc hS1 hc1 [.int .i64 c.kind,Zb c.col,Zb c.oth, .int .i64 c.v.k, .int .i64 c.v.n,Zb c.v.s,lv1] Xp rfl rfl rfl rfl rfl <| Za hS1 (hpd.mono hle1) Zp rfl rfl rfl ?_
 have hi1 : Zw (dep + 1):=by have:=hdep64.1; have:=hdep64.2; constructor <;> omega
 refine ZaL .add rfl dep 1 rfl rfl rfl hi1 <| Za hS1 (hpn.mono hle1) Zqk rfl rfl rfl ?_
 refine Qf Zqv rfl rfl rfl (hN hS1.imm c (dep + 1) n _ ((Y1 _).mono hle1 hcc) _ (hS1.lentAt 0 rfl) (by omega) (by omega)) (fun w2 G2 r1 hres1 ⟨hpost1,hlc1⟩=>?_)
 have hS2 : St w [pb] G G2 [some (pb,(nat_lit 3),[.int .i64 ((YR d c (dep + 1) n).2)])] w2:=hS1.callX 0 rfl [.int .i64 ((YR d c (dep + 1) n).2)] hres1 (hlc1 _ rfl).1
 have hle2:=hres1.le
 subst hpost1
 exact RT hS2 rfl ⟨(congrArg Value.bool (by rfl)),(hS2.lentAt 0 rfl).cast (by first | rfl | simp_all)⟩
theorem ZpQ {G : GH} {w : World} (hG : G.In w) (d : Nat) (l : List Cond) (dep n : Int) (hN : Zi0 d) (pb : Nat) (hpb : XJ w G (some (pb,(nat_lit 3),[.int .i64 n]))) (vl : Value) (hvl : Sl (Y1 d) 96 G vl l) (pd : Addr) (hpd : Xw G pd [.int .i64 dep]) (pn : Addr) (hpn : Xw G pn [.pointer (some ⟨pb,0,none⟩)]) (hdep : 0 ≤ dep ∧ dep ≤ 30) (hn : 0 ≤ n ∧ n ≤ 100) : CL Tryz.prog (nat_lit 158) #[vl, .func (.func 105) #[] #[.pointer (some pd), .pointer (some pn)]] [pb] w G fun G' w' r=>(r = .int .i64 (ZdZ (fun x m=>YR d x (dep + 1) m) l n 0)) ∧ XJ w' G' (some (pb,(nat_lit 3),[.int .i64 ((Xa (fun x m=>YR d x (dep + 1) m) l n).2)])):=by
 refine Zg ft [] Tryz.func158 rfl rfl ?_
 have hdep64 : Zw dep:=⟨by omega,by omega⟩
 have hn64 : Zw n:=⟨by omega,by omega⟩
 have hS:=St.lentO hG hpb
 have bd1:=hvl.bound
 refine Zj hvl Zc3 rfl rfl ?_
 refine LP.go ft [] (fun m ρ1 w1=>∃ (k1 : Nat),∃ (mm : Int),∃ (G1 : GH),m = l.length - k1 ∧ G.le G1 ∧ St w [pb] G G1 [some (pb,(nat_lit 3),[.int .i64 mm])] w1 ∧ FR ρ1 [(0,vl),(1, .func (.func 105) #[] #[.pointer (some pd), .pointer (some pn)]),(7, .int .i64 (l.length : Int)),(8, .int .i64 (k1 : Int))] ∧ k1 ≤ l.length ∧ ((Xa (fun x m=>YR d x (dep + 1) m) (l.take k1) n).1 = true ∧ mm = (Xa (fun x m=>YR d x (dep + 1) m) (l.take k1) n).2) ∧ (0 ≤ mm ∧ mm ≤ 100)) _ ⟨0,n,G,rfl,(G.le_refl),hS,⟨rfl,rfl,rfl,rfl,trivial⟩,(by omega),(by exact ⟨rfl,rfl⟩),(by omega)⟩ ?_
 rintro m ρ1 w1 ⟨k1,mm,G1,rfl,hle1,hS1,hF9,f1,f2,f3⟩
 refine hF9.set ?_
 clear hF9
 have hm64 : Zw mm:=⟨by omega,by omega⟩
 have h9k:=(by assumption : (Xa (fun x m=>YR d x (dep + 1) m) (l.take k1) n).1 = true ∧ mm = (Xa (fun x m=>YR d x (dep + 1) m) (l.take k1) n).2)
 refine Zq (k1 : Int) (l.length : Int) rfl rfl rfl (fun h1=>?_) (fun h1=>?_)
 ·refine WL.indexAddr (hvl.mono hle1) k1 (by omega) Zc3 Xp rfl rfl rfl rfl (fun p1 x1 hx1 he1=>?_)
  obtain ⟨cs1,hc1,hr1⟩:=he1
  obtain ⟨lv1,rfl,hb1,hb2,hb3,hb4,hb5,hb6,ho1⟩:=YS hr1
  refine Zc hS1 hc1 [.int .i64 x1.kind,Zb x1.col,Zb x1.oth, .int .i64 x1.v.k, .int .i64 x1.v.n,Zb x1.v.s,lv1] Xp rfl rfl rfl rfl rfl ?_
  refine Qf Zv4 rfl rfl rfl (ZrO hS1.imm _ x1 dep mm hN _ (hS1.lentAt 0 rfl) _ hr1 _ (hpd.mono hle1) _ (hpn.mono hle1) (by omega) (by omega)) (fun w2 G2 r1 hres1 ⟨hpost1,hlc1⟩=>?_)
  have hS2 : St w [pb] G G2 [some (pb,(nat_lit 3),[.int .i64 ((YR d x1 (dep + 1) mm).2)])] w2:=hS1.callX 0 rfl [.int .i64 ((YR d x1 (dep + 1) mm).2)] hres1 (hlc1 _ rfl).1
  have hle2:=hres1.le
  subst hpost1
  refine WL.split (fun (h2 : (!(YR d x1 (dep + 1) mm).1) = true)=>?_) (fun (h2 : (!(YR d x1 (dep + 1) mm).1) = false)=>?_)
  ·exact RT hS2 rfl ⟨(congrArg (Value.int .i64) (by first | exact (ZeY h9k.1 h9k.2 ‹_› ‹_›).1 | exact (Zgn h9k.1 h9k.2 (by omega)).1)),(hS2.lentAt 0 rfl).cast (by first | exact congrArg (fun v=>[Value.int .i64 v]) (ZeY h9k.1 h9k.2 ‹_› ‹_›).2 | exact congrArg (fun v=>[Value.int .i64 v]) (Zgn h9k.1 h9k.2 (by omega)).2)⟩
  refine Zl k1 (by have hreach : reach = 140737488355328:=rfl; omega) rfl rfl rfl ?_
  exact BK.mk' _ ⟨k1 + 1,(YR d x1 (dep + 1) mm).2,G2,rfl,(hle1.trans hle2),hS2,⟨rfl,rfl,rfl,rfl,trivial⟩,(by omega),(by exact Zvq h9k.1 h9k.2 ‹_› ‹_›),(by exact ZpP ‹_› ‹_›)⟩ (show l.length - (k1 + 1) < l.length - k1 by omega)
 exact RT hS1 rfl ⟨(congrArg (Value.int .i64) (by first | exact (ZeY h9k.1 h9k.2 ‹_› ‹_›).1 | exact (Zgn h9k.1 h9k.2 (by omega)).1)),(hS1.lentAt 0 rfl).cast (by first | exact congrArg (fun v=>[Value.int .i64 v]) (ZeY h9k.1 h9k.2 ‹_› ‹_›).2 | exact congrArg (fun v=>[Value.int .i64 v]) (Zgn h9k.1 h9k.2 (by omega)).2)⟩
theorem Zl8 {G : GH} {w : World} (hG : G.In w) (d : Nat) (l : List Cond) (dep n : Int) (hN : Zi0 d) (pb : Nat) (hpb : XJ w G (some (pb,(nat_lit 3),[.int .i64 n]))) (vl : Value) (hvl : Sl (Y1 d) 96 G vl l) (pd : Addr) (hpd : Xw G pd [.int .i64 dep]) (pn : Addr) (hpn : Xw G pn [.pointer (some ⟨pb,0,none⟩)]) (hdep : 0 ≤ dep ∧ dep ≤ 30) (hn : 0 ≤ n ∧ n ≤ 100) : CL Tryz.prog (nat_lit 104) #[vl, .func (.func 105) #[] #[.pointer (some pd), .pointer (some pn)]] [pb] w G fun G' w' r=>(r = .bool (!(Xa (fun x m=>YR d x (dep + 1) m) l n).1)) ∧ XJ w' G' (some (pb,(nat_lit 3),[.int .i64 ((Xa (fun x m=>YR d x (dep + 1) m) l n).2)])):=by
 refine Zg ft [] Tryz.func104 rfl rfl ?_
 have hdep64 : Zw dep:=⟨by omega,by omega⟩
 have hn64 : Zw n:=⟨by omega,by omega⟩
 have hS:=St.lentO hG hpb
 refine Qf ZvN rfl rfl rfl (ZpQ hS.imm _ l dep n hN _ (hS.lentAt 0 rfl) _ hvl _ hpd _ hpn (by omega) (by omega)) (fun w1 G1 r1 hres1 ⟨hpost1,hlc1⟩=>?_)
 have hS1 : St w [pb] G G1 [some (pb,(nat_lit 3),[.int .i64 ((Xa (fun x m=>YR d x (dep + 1) m) l n).2)])] w1:=hS.callX 0 rfl [.int .i64 ((Xa (fun x m=>YR d x (dep + 1) m) l n).2)] hres1 (hlc1 _ rfl).1
 have hle1:=hres1.le
 subst hpost1
 refine ZZ .geq rfl .i64 (ZdZ (fun x m=>YR d x (dep + 1) m) l n 0) 0 rfl rfl rfl ?_
 exact RT hS1 rfl ⟨(congrArg Value.bool (by exact Zm0 (by omega))),(hS1.lentAt 0 rfl).cast (by first | rfl | simp_all)⟩
theorem ZrP (d : Nat) : ∀ {G : GH} {w : World} (hG : G.In w) (c : Cond) (dep n : Int) (cc : List Value) (hcc : (Y1 d).rep G c cc) (pb : Nat) (hpb : XJ w G (some (pb,(nat_lit 3),[.int .i64 n]))) (hdep : 0 ≤ dep ∧ dep ≤ 31) (hn : 0 ≤ n ∧ n ≤ 100),CL Tryz.prog (nat_lit 47) #[.agg cc.toArray, .int .i64 dep, .pointer (some ⟨pb,0,none⟩)] [pb] w G fun G' w' r=>(r = .bool ((YR d c dep n).1)) ∧ XJ w' G' (some (pb,(nat_lit 3),[.int .i64 ((YR d c dep n).2)])):=by
 induction d
 ·intro G w hG c dep n cc hcc pb hpb hdep hn; exact (Zb6 hcc).elim
 rename_i d ih
 intro G w hG c dep n cc hcc pb hpb hdep hn
 refine Zg ft [] Tryz.func47 rfl rfl ?_
 have hdep64 : Zw dep:=⟨by omega,by omega⟩
 have hn64 : Zw n:=⟨by omega,by omega⟩
 have hS:=St.lentO hG hpb
 obtain ⟨lv1,rfl,hb1,hb2,hb3,hb4,hb5,hb6,ho1⟩:=Zb7 hcc
 refine Zv [.int .i64 c.kind,Zb c.col,Zb c.oth, .int .i64 c.v.k, .int .i64 c.v.n,Zb c.v.s,lv1] _ hS rfl rfl rfl (fun p1 w1 G1 hle1 hsp1 hc1 hS1=>?_)
 refine Zv [.int .i64 dep] _ hS1 rfl rfl rfl (fun p2 w2 G2 hle2 hsp2 hc2 hS2=>?_)
 refine Zv [.pointer (some ⟨pb,0,none⟩)] _ hS2 rfl rfl rfl (fun p3 w3 G3 hle3 hsp3 hc3 hS3=>?_)
 refine Za hS3 hc3 Zqk rfl rfl rfl <| WL.nilCheck _ rfl rfl <| ZU hS3 0 _ _ _ 0 _ rfl rfl Zp rfl rfl rfl ?_
 have hi1 : Zw (n + 1):=by have:=hn64.1; have:=hn64.2; constructor <;> omega
 refine ZaL .add rfl n 1 rfl rfl rfl hi1 <| WL.nilCheck _ rfl rfl ?_
 refine WL.store hS3 0 _ _ _ 0 _ [.int .i64 (n + 1)] [.int .i64 (n + 1)] _ rfl rfl Zp rfl (Nat.le_of_ble_eq_true rfl) rfl rfl rfl rfl rfl rfl (fun w4 hS4=>?_)
 refine Za hS4 hc3 Zqk rfl rfl rfl <| WL.nilCheck _ rfl rfl <| ZU hS4 0 _ _ _ 0 _ rfl rfl Zp rfl rfl rfl ?_
 refine Qu (n + 1) 100 rfl rfl rfl (fun h1=>?_) (fun h1=>?_)
 ·refine Za hS4 (hc2.mono hle3) Zp rfl rfl rfl ?_
  refine Qu dep 30 rfl rfl rfl (fun h2=>?_) (fun h2=>?_)
  ·refine Za hS4 (Xw.drop 6 (hc1.mono (hle2.trans hle3))) Ze4 rfl rfl rfl ?_
   refine Qf Zv3 rfl rfl rfl (Zl8 hS4.imm _ c.l dep (n + 1) ih _ (hS4.lentAt 0 rfl) _ (ho1.mono ((hle1.trans hle2).trans hle3)) _ (hc2.mono hle3) _ hc3 (by omega) (by omega)) (fun w5 G4 r1 hres1 ⟨hpost1,hlc1⟩=>?_)
   have hS5 : St w [pb] G G4 [some (pb,(nat_lit 3),[.int .i64 ((Xa (fun x m=>YR d x (dep + 1) m) c.l (n + 1)).2)])] w5:=hS4.callX 0 rfl [.int .i64 ((Xa (fun x m=>YR d x (dep + 1) m) c.l (n + 1)).2)] hres1 (hlc1 _ rfl).1
   have hle4:=hres1.le
   subst hpost1
   exact RT hS5 rfl ⟨(congrArg Value.bool (by first | exact (ZcU (by omega)).1 | (rw [Bool.not_not]; exact congrArg Prod.fst (Zci (by omega) (by omega))))),(hS5.lentAt 0 rfl).cast (by first | exact congrArg (fun v=>[Value.int .i64 v]) (ZcU (by omega)).2 | exact congrArg (fun v=>[Value.int .i64 v]) (congrArg Prod.snd (Zci (by omega) (by omega))))⟩
  exact RT hS4 rfl ⟨(congrArg Value.bool (by first | exact (ZcU (by omega)).1 | (rw [Bool.not_not]; exact congrArg Prod.fst (Zci (by omega) (by omega))))),(hS4.lentAt 0 rfl).cast (by first | exact congrArg (fun v=>[Value.int .i64 v]) (ZcU (by omega)).2 | exact congrArg (fun v=>[Value.int .i64 v]) (congrArg Prod.snd (Zci (by omega) (by omega))))⟩
 exact RT hS4 rfl ⟨(congrArg Value.bool (by first | exact (ZcU (by omega)).1 | (rw [Bool.not_not]; exact congrArg Prod.fst (Zci (by omega) (by omega))))),(hS4.lentAt 0 rfl).cast (by first | exact congrArg (fun v=>[Value.int .i64 v]) (ZcU (by omega)).2 | exact congrArg (fun v=>[Value.int .i64 v]) (congrArg Prod.snd (Zci (by omega) (by omega))))⟩
end Go.Civ
set_option linter.unusedVariables false
set_option linter.unusedSimpArgs false
set_option maxRecDepth 100000
set_option maxHeartbeats 4000000
namespace Go.Civ
open Go.Proofs
theorem Zl9 {G : GH} {w : World} (hG : G.In w) (d : Nat) (t : Table) (k tx : Int) (v : List Val) (c : Cond) (mask : List Bool) (p : Span) (ct : List Value) (hct : TableE.rep G t ct) (vv : Value) (hvv : Sl ValE 32 G vv v) (cc : List Value) (hcc : (Y1 d).rep G c cc) (vm : Value) (hvm : Sl Enc.bool 1 G vm mask) (cp : List Value) (hcp : SpanE.rep G p cp) (hk64 : Zw k) (htx64 : Zw tx) : CL Tryz.prog (nat_lit 50) #[.agg ct.toArray, .agg (.int .i64 k :: .int .i64 tx :: vv :: cc ++ (vm :: cp)).toArray] [] w G fun G' _ r=>∃ r0 r1,r = .tuple #[r0,r1] ∧ Is TableE G' r0 (YJ d t k tx v c mask p) ∧ r1 = .int .i64 (plE d t k tx v c mask p):=by
 refine YB ft [] Tryz.func50 rfl rfl ?_
 have hS:=St.start (X:=[]) hG
 have qo1:=Zy hct
 obtain ⟨v1,v2,v3,rfl,hb1,hs1,hb2,hs2,hs3,hb3⟩:=qo1
 have qo2:=YS hcc
 obtain ⟨lv1,rfl,hb4,hb5,hb6,hb7,hb8,hb9,ho1⟩:=qo2
 have qo3:=ZE hcp
 obtain ⟨rfl,hb10,YD⟩:=qo3
 refine Zv [Zb t.s.name,v1, .int .i64 t.s.key,v2,v3, .int .i64 t.last] _ hS rfl rfl rfl (fun p1 w1 G1 hle1 hsp1 hc1 hS1=>?_)
 refine Zv [.int .i64 k, .int .i64 tx,vv, .int .i64 c.kind,Zb c.col,Zb c.oth, .int .i64 c.v.k, .int .i64 c.v.n,Zb c.v.s,lv1,vm, .int .i64 p.a, .int .i64 p.b] _ hS1 rfl rfl rfl (fun p2 w2 G2 hle2 hsp2 hc2 hS2=>?_)
 refine WL.alloc hS2 Zm rfl rfl (fun b1 w3 hn1 hS3=>?_)
 refine Za hS3 (Xw.drop 0 hc2) Zp rfl rfl rfl ?_
 refine ZC k 1 rfl rfl rfl (fun h1=>?_) (fun h1=>?_)
 ·refine Zc hS3 (hc1.mono hle2) [Zb t.s.name,v1, .int .i64 t.s.key,v2,v3, .int .i64 t.last] Zm rfl rfl rfl rfl rfl <| Za hS3 (Xw.drop 1 hc2) Zp rfl rfl rfl <| Za hS3 (Xw.drop 2 hc2) ZH rfl rfl rfl <| Zc hS3 (Xw.drop 11 hc2) [.int .i64 p.a, .int .i64 p.b] Zu rfl rfl rfl rfl rfl <| Z6 hS3 Zag rfl rfl rfl (ZfO hS3.imm t tx v p _ (Zi t hb1 (hs1.mono (hle1.trans hle2)) hb2 (hs2.mono (hle1.trans hle2)) (hs3.mono (hle1.trans hle2)) hb3) _ (hvv.mono (hle1.trans hle2)) _ (Zs p hb10 YD) htx64) ?_
  rintro w4 G3 _ ⟨r2,_,rfl,hs4,rfl⟩ hS4 hle3
  obtain ⟨cs1,rfl,hr1⟩:=hs4
  have qo4:=Zy hr1
  obtain ⟨v4,v5,v6,rfl,YW,hs5,Xj,hs6,hs7,XD⟩:=qo4
  refine WL.store hS4 0 _ _ _ 0 _ [Zb ((ZF t tx v p).s.name),v4, .int .i64 ((ZF t tx v p).s.key),v5,v6, .int .i64 ((ZF t tx v p).last)] [Zb ((ZF t tx v p).s.name),v4, .int .i64 ((ZF t tx v p).s.key),v5,v6, .int .i64 ((ZF t tx v p).last)] _ rfl rfl Zm rfl (Nat.le_of_ble_eq_true rfl) (by simp only [List.all_cons,List.all_nil,hs5.oneC,hs6.oneC,hs7.oneC,Bool.true_and] <;> rfl) rfl rfl rfl rfl rfl (fun w5 hS5=>?_)
  exact Xe [.agg #[Zb ((ZF t tx v p).s.name),v4, .int .i64 ((ZF t tx v p).s.key),v5,v6, .int .i64 ((ZF t tx v p).last)], .int .i64 (Y2 t tx v p)] hS5 ⟨_,_,_,rfl,rfl,hS5.loadA 0 _ _ _ 0 [Zb ((ZF t tx v p).s.name),v4, .int .i64 ((ZF t tx v p).s.key),v5,v6, .int .i64 ((ZF t tx v p).last)] rfl rfl rfl Zm rfl,⟨_,rfl,rfl⟩⟩ ⟨_,_,rfl,(Is.cast ⟨_,rfl,(Zi (ZF t tx v p) YW hs5 Xj hs6 hs7 XD)⟩ (by first | exact (ZbP ‹_›).1 | exact (ZbP ‹_›).2 | exact (ZbQ ‹_› ‹_›).1 | exact (ZbQ ‹_› ‹_›).2 | exact (Zc7 ‹_› ‹_›).1 | exact (Zc7 ‹_› ‹_›).2)),(congrArg (Value.int .i64) (by first | exact (ZbP ‹_›).1 | exact (ZbP ‹_›).2 | exact (ZbQ ‹_› ‹_›).1 | exact (ZbQ ‹_› ‹_›).2 | exact (Zc7 ‹_› ‹_›).1 | exact (Zc7 ‹_› ‹_›).2))⟩
 refine ZC k 2 rfl rfl rfl (fun h2=>?_) (fun h2=>?_)
 ·refine Zc hS3 (hc1.mono hle2) [Zb t.s.name,v1, .int .i64 t.s.key,v2,v3, .int .i64 t.last] Zm rfl rfl rfl rfl rfl <| Za hS3 (Xw.drop 1 hc2) Zp rfl rfl rfl <| Zc hS3 (Xw.drop 3 hc2) [.int .i64 c.kind,Zb c.col,Zb c.oth, .int .i64 c.v.k, .int .i64 c.v.n,Zb c.v.s,lv1] Xp rfl rfl rfl rfl rfl <| Za hS3 (Xw.drop 2 hc2) ZH rfl rfl rfl <| Za hS3 (Xw.drop 10 hc2) ZmR rfl rfl rfl <| Zc hS3 (Xw.drop 11 hc2) [.int .i64 p.a, .int .i64 p.b] Zu rfl rfl rfl rfl rfl <| Z6 hS3 Zsc rfl rfl rfl (Zjq hS3.imm _ t tx c v mask p _ (Zi t hb1 (hs1.mono (hle1.trans hle2)) hb2 (hs2.mono (hle1.trans hle2)) (hs3.mono (hle1.trans hle2)) hb3) _ ((Y1 _).mono (hle1.trans hle2) hcc) _ (hvv.mono (hle1.trans hle2)) _ (hvm.mono (hle1.trans hle2)) _ (Zs p hb10 YD) htx64) ?_
  rintro w6 G4 _ ⟨r5,_,rfl,hs8,rfl⟩ hS6 hle4
  obtain ⟨cs2,rfl,hr2⟩:=hs8
  have qo5:=Zy hr2
  obtain ⟨v7,v9,v10,rfl,X7,hs9,Qi,hs10,hs11,Qd⟩:=qo5
  refine WL.store hS6 0 _ _ _ 0 _ [Zb ((YH d t tx c v mask p).s.name),v7, .int .i64 ((YH d t tx c v mask p).s.key),v9,v10, .int .i64 ((YH d t tx c v mask p).last)] [Zb ((YH d t tx c v mask p).s.name),v7, .int .i64 ((YH d t tx c v mask p).s.key),v9,v10, .int .i64 ((YH d t tx c v mask p).last)] _ rfl rfl Zm rfl (Nat.le_of_ble_eq_true rfl) (by simp only [List.all_cons,List.all_nil,hs9.oneC,hs10.oneC,hs11.oneC,Bool.true_and] <;> rfl) rfl rfl rfl rfl rfl (fun w7 hS7=>?_)
  exact Xe [.agg #[Zb ((YH d t tx c v mask p).s.name),v7, .int .i64 ((YH d t tx c v mask p).s.key),v9,v10, .int .i64 ((YH d t tx c v mask p).last)], .int .i64 (Xv d t tx c v mask p)] hS7 ⟨_,_,_,rfl,rfl,hS7.loadA 0 _ _ _ 0 [Zb ((YH d t tx c v mask p).s.name),v7, .int .i64 ((YH d t tx c v mask p).s.key),v9,v10, .int .i64 ((YH d t tx c v mask p).last)] rfl rfl rfl Zm rfl,⟨_,rfl,rfl⟩⟩ ⟨_,_,rfl,(Is.cast ⟨_,rfl,(Zi (YH d t tx c v mask p) X7 hs9 Qi hs10 hs11 Qd)⟩ (by first | exact (ZbP ‹_›).1 | exact (ZbP ‹_›).2 | exact (ZbQ ‹_› ‹_›).1 | exact (ZbQ ‹_› ‹_›).2 | exact (Zc7 ‹_› ‹_›).1 | exact (Zc7 ‹_› ‹_›).2)),(congrArg (Value.int .i64) (by first | exact (ZbP ‹_›).1 | exact (ZbP ‹_›).2 | exact (ZbQ ‹_› ‹_›).1 | exact (ZbQ ‹_› ‹_›).2 | exact (Zc7 ‹_› ‹_›).1 | exact (Zc7 ‹_› ‹_›).2))⟩
 refine Zc hS3 (hc1.mono hle2) [Zb t.s.name,v1, .int .i64 t.s.key,v2,v3, .int .i64 t.last] Zm rfl rfl rfl rfl rfl <| Za hS3 (Xw.drop 1 hc2) Zp rfl rfl rfl <| Zc hS3 (Xw.drop 3 hc2) [.int .i64 c.kind,Zb c.col,Zb c.oth, .int .i64 c.v.k, .int .i64 c.v.n,Zb c.v.s,lv1] Xp rfl rfl rfl rfl rfl <| Zc hS3 (Xw.drop 11 hc2) [.int .i64 p.a, .int .i64 p.b] Zu rfl rfl rfl rfl rfl <| Z6 hS3 Zv5 rfl rfl rfl (Zpx hS3.imm _ t tx c p _ (Zi t hb1 (hs1.mono (hle1.trans hle2)) hb2 (hs2.mono (hle1.trans hle2)) (hs3.mono (hle1.trans hle2)) hb3) _ ((Y1 _).mono (hle1.trans hle2) hcc) _ (Zs p hb10 YD) htx64) ?_
 rintro w9 G5 _ ⟨r8,_,rfl,hs12,rfl⟩ hS8 hle5
 obtain ⟨cs3,rfl,hr3⟩:=hs12
 have qo6:=Zy hr3
 obtain ⟨v11,v12,v13,rfl,Qn,hs13,Q6,hs14,hs15,Zah⟩:=qo6
 refine WL.store hS8 0 _ _ _ 0 _ [Zb ((Q7 d t tx c p).s.name),v11, .int .i64 ((Q7 d t tx c p).s.key),v12,v13, .int .i64 ((Q7 d t tx c p).last)] [Zb ((Q7 d t tx c p).s.name),v11, .int .i64 ((Q7 d t tx c p).s.key),v12,v13, .int .i64 ((Q7 d t tx c p).last)] _ rfl rfl Zm rfl (Nat.le_of_ble_eq_true rfl) (by simp only [List.all_cons,List.all_nil,hs13.oneC,hs14.oneC,hs15.oneC,Bool.true_and] <;> rfl) rfl rfl rfl rfl rfl (fun w10 hS9=>?_)
 exact Xe [.agg #[Zb ((Q7 d t tx c p).s.name),v11, .int .i64 ((Q7 d t tx c p).s.key),v12,v13, .int .i64 ((Q7 d t tx c p).last)], .int .i64 (ZdS d t tx c p)] hS9 ⟨_,_,_,rfl,rfl,hS9.loadA 0 _ _ _ 0 [Zb ((Q7 d t tx c p).s.name),v11, .int .i64 ((Q7 d t tx c p).s.key),v12,v13, .int .i64 ((Q7 d t tx c p).last)] rfl rfl rfl Zm rfl,⟨_,rfl,rfl⟩⟩ ⟨_,_,rfl,(Is.cast ⟨_,rfl,(Zi (Q7 d t tx c p) Qn hs13 Q6 hs14 hs15 Zah)⟩ (by first | exact (ZbP ‹_›).1 | exact (ZbP ‹_›).2 | exact (ZbQ ‹_› ‹_›).1 | exact (ZbQ ‹_› ‹_›).2 | exact (Zc7 ‹_› ‹_›).1 | exact (Zc7 ‹_› ‹_›).2)),(congrArg (Value.int .i64) (by first | exact (ZbP ‹_›).1 | exact (ZbP ‹_›).2 | exact (ZbQ ‹_› ‹_›).1 | exact (ZbQ ‹_› ‹_›).2 | exact (Zc7 ‹_› ‹_›).1 | exact (Zc7 ‹_› ‹_›).2))⟩
end Go.Civ
