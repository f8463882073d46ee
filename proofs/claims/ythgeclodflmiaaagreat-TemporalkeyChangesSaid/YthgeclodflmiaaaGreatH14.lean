/- Lemmas. -/
import Derived.Test.YthgeclodflmiaaaGreatH09
import Derived.Test.YthgeclodflmiaaaGreatH11
import Derived.Test.YthgeclodflmiaaaGreatH12
import Derived.Test.YthgeclodflmiaaaGreatH13
import Derived.Test.YthgeclodflmiaaaGreatRows
import Derived.Test.YthgeclodflmiaaaGreatProg
import Derived.KernelRfl
import Derived.WalkKit
import Derived.Shelf.Slices.CompactI
import Derived.Ground.Names2Prog
set_option linter.unusedVariables false
namespace Go.Civ
open Go.Proofs
section
variable {H : Type} {enc : TypeId × Value → H} {w : World}
theorem Zk2 : YY enc Tryz.prog w 33 SpanE:=Zb4 (g:=fun p=>⟨p.1,p.2⟩) (fun _=>rfl) Tryz.underlying33 rfl (by kernel_rfl) rfl (by kernel_rfl) (by kernel_rfl) (QX Tryz.underlying3) (QX Tryz.underlying3)
theorem ZrS : YY enc Tryz.prog w 58 ValE:=Zgq (g:=fun p=>⟨p.1,p.2.1,p.2.2⟩) (fun _=>rfl) Tryz.underlying58 rfl (by kernel_rfl) rfl (by kernel_rfl) rfl (by kernel_rfl) (by kernel_rfl) (QX Tryz.underlying3) (QX Tryz.underlying3) (Za5 Tryz.underlying9)
theorem Zoq : YY enc Tryz.prog w 31 (ValE.slice 32):=Zan Tryz.underlying31 (by kernel_rfl) (by decide) (by kernel_rfl) (by decide) ZrS
theorem Zuc : YY enc Tryz.prog w 35 RectE:=Zb4 (g:=fun p=>⟨p.1,p.2⟩) (fun _=>rfl) Tryz.underlying35 rfl (by kernel_rfl) rfl (by kernel_rfl) (by kernel_rfl) Zk2 Zk2
theorem Zvz : YY enc Tryz.prog w 37 HRowE:=Zb4 (g:=fun p=>⟨p.1,p.2⟩) (fun _=>rfl) Tryz.underlying37 rfl (by kernel_rfl) rfl (by kernel_rfl) (by kernel_rfl) Zoq Zuc
theorem Zud : YY enc Tryz.prog w 26 (HRowE.slice 56):=Zan Tryz.underlying26 (by kernel_rfl) (by decide) (by kernel_rfl) (by decide) Zvz
theorem Zv0 : YY enc Tryz.prog w 130 ColE:=Zb4 (g:=fun p=>⟨p.1,p.2⟩) (fun _=>rfl) Tryz.underlying130 rfl (by kernel_rfl) rfl (by kernel_rfl) (by kernel_rfl) (Za5 Tryz.underlying9) (QX Tryz.underlying3)
theorem Zue : YY enc Tryz.prog w 22 (ColE.slice 24):=Zan Tryz.underlying22 (by kernel_rfl) (by decide) (by kernel_rfl) (by decide) Zv0
theorem Zuf : YY enc Tryz.prog w 48 (Enc.str.slice 16):=Zan Tryz.underlying48 (by kernel_rfl) (by decide) (by kernel_rfl) (by decide) (Za5 Tryz.underlying9)
theorem Zor : YY enc Tryz.prog w 50 ForeignE:=Zb4 (g:=fun p=>⟨p.1,p.2⟩) (fun _=>rfl) Tryz.underlying50 rfl (by kernel_rfl) rfl (by kernel_rfl) (by kernel_rfl) Zuf (Za5 Tryz.underlying9)
theorem ZmM : YY enc Tryz.prog w 23 (ForeignE.slice 40):=Zan Tryz.underlying23 (by kernel_rfl) (by decide) (by kernel_rfl) (by decide) Zor
theorem Zqh : YY enc Tryz.prog w 25 SchemaE:=ZmL (g:=fun p=>⟨p.1,p.2.1,p.2.2.1,p.2.2.2⟩) (fun _=>rfl) Tryz.underlying25 rfl (by kernel_rfl) rfl (by kernel_rfl) rfl (by kernel_rfl) rfl (by kernel_rfl) (by kernel_rfl) (Za5 Tryz.underlying9) Zue (QX Tryz.underlying3) ZmM
theorem ZsK : YY enc Tryz.prog w 28 TableE:=Zgq (g:=fun p=>⟨p.1,p.2.1,p.2.2⟩) (fun _=>rfl) Tryz.underlying28 rfl (by kernel_rfl) rfl (by kernel_rfl) rfl (by kernel_rfl) (by kernel_rfl) Zqh Zud (QX Tryz.underlying3)
theorem ZsL : YY enc Tryz.prog w 88 (Enc.bool.slice 1):=Zan Tryz.underlying88 (by kernel_rfl) (by decide) (by kernel_rfl) (by decide) (ZmK Tryz.underlying4)
theorem Zug : ∀ N,Zfk (fun d=>SizeOf.sizeOf d ≤ N) enc Tryz.prog w 87 (Y1 N):=
 Zhk Tryz.underlying87 ⟨rfl,rfl,rfl,rfl,rfl⟩ Tryz.underlying3 Tryz.underlying9 Tryz.underlying9 ZrS Tryz.underlying85 ⟨by kernel_rfl,by kernel_rfl,by kernel_rfl,by kernel_rfl,by kernel_rfl⟩ (by kernel_rfl) (by kernel_rfl)
end
theorem Zw6 : ownKnob Tryz.prog.godebug = none:=by kernel_rfl
theorem Zdb : laidOutB Tryz.prog = true:=by kernel_rfl
end Go.Civ
set_option linter.unusedVariables false
set_option linter.unusedSimpArgs false
set_option maxRecDepth 100000
set_option maxHeartbeats 4000000
namespace Go.Civ
open Go.Proofs
theorem ZlX {G : GH} {w : World} (hG : G.In w) (a : Int) : CL Tryz.prog (nat_lit 210) #[.int .i64 a] [] w G fun _ _ r=>r = .bool false:=by
 refine Zg ft [] Tryz.func210 rfl rfl ?_
 have hS:=St.start (X:=[]) hG
 refine ZZ .neq rfl .i64 a a rfl rfl rfl ?_
 exact RB hS rfl (by simp [Cmp.b])
theorem Zd1 {G : GH} {w : World} (hG : G.In w) (a b : Int) : CL Tryz.prog (nat_lit 169) #[.int .i64 a, .int .i64 b] [] w G fun _ _ r=>r = .int .i64 (Yu a b):=by
 refine Zg ft [] Tryz.func169 rfl rfl ?_
 have hS:=St.start (X:=[]) hG
 refine Zn hS Zsp rfl rfl rfl (ZlX hS.imm a) (fun w1 G1 hS1 hle1=>?_)
 refine Zn hS1 Zsp rfl rfl rfl (ZlX hS1.imm b) (fun w2 G2 hS2 hle2=>?_)
 refine Zq a b rfl rfl rfl (fun h1=>?_) (fun h1=>?_)
 ·exact RI hS2 rfl (by unfold Yu; split <;> (try split) <;> rfl)
 refine YX a b rfl rfl rfl (fun h2=>?_) (fun h2=>?_)
 ·exact RI hS2 rfl (by unfold Yu; split <;> (try split) <;> omega)
 exact RI hS2 rfl (by unfold Yu; split <;> (try split) <;> omega)
theorem Zk9 {G : GH} {w : World} (hG : G.In w) (a : List UInt8) : CL Tryz.prog (nat_lit 239) #[Zb a] [] w G fun _ _ r=>r = .bool false:=by
 refine Zg ft [] Tryz.func239 rfl rfl ?_
 have hS:=St.start (X:=[]) hG
 refine Ya .neq rfl a a rfl rfl rfl ?_
 exact RB hS rfl (by simp [SCmp.b])
theorem Zni {G : GH} {w : World} (hG : G.In w) (a b : List UInt8) : CL Tryz.prog (nat_lit 199) #[Zb a,Zb b] [] w G fun _ _ r=>r = .int .i64 (cmpS a b):=by
 refine Zg ft [] Tryz.func199 rfl rfl ?_
 have hS:=St.start (X:=[]) hG
 refine Zn hS Zsq rfl rfl rfl (Zk9 hS.imm a) (fun w1 G1 hS1 hle1=>?_)
 refine Zn hS1 Zsq rfl rfl rfl (Zk9 hS1.imm b) (fun w2 G2 hS2 hle2=>?_)
 refine Ya .lss rfl a b rfl rfl rfl ?_
 refine WL.split (fun (h1 : (SCmp.b .lss a b) = true)=>?_) (fun (h1 : (SCmp.b .lss a b) = false)=>?_)
 ·exact RI hS2 rfl (by unfold cmpS; simp_all [SCmp.b])
 refine Ya .gtr rfl a b rfl rfl rfl ?_
 refine WL.split (fun (h2 : (SCmp.b .gtr a b) = true)=>?_) (fun (h2 : (SCmp.b .gtr a b) = false)=>?_)
 ·exact RI hS2 rfl (by unfold cmpS; simp_all [SCmp.b])
 exact RI hS2 rfl (by unfold cmpS; simp_all [SCmp.b])
theorem Zu1 {G : GH} {w : World} (hG : G.In w) (l : List Int) (vl : Value) (hvl : Sl Enc.int 8 G vl l) : CL Tryz.prog (nat_lit 168) #[vl] [] w G fun _ _ r=>r = .int .i64 (XM l):=by
 refine Zg ft [] Tryz.func168 rfl rfl ?_
 have hS:=St.start (X:=[]) hG
 have bd1:=hvl.bound
 refine Zj hvl Yz rfl rfl ?_
 refine LP.go ft [] (fun m ρ1 w1=>∃ (k1 : Nat),∃ (G1 : GH),m = l.length - k1 ∧ G.le G1 ∧ St w [] G G1 [] w1 ∧ FR ρ1 [(3, .int .i64 0),(6,vl),(7, .int .i64 (l.length : Int)),(8, .int .i64 (k1 : Int))] ∧ k1 ≤ l.length ∧ ∀ j,j < k1 → ∀ x,l[j]? = some x → x = 0) _ ⟨0,G,rfl,(G.le_refl),hS,⟨rfl,rfl,rfl,rfl,trivial⟩,(by omega),(by intro j hj; omega)⟩ ?_
 rintro m ρ1 w1 ⟨k1,G1,rfl,hle1,hS1,hF9,f1,f2⟩
 refine hF9.set ?_
 clear hF9
 refine Zq (k1 : Int) (l.length : Int) rfl rfl rfl (fun h1=>?_) (fun h1=>?_)
 ·refine WL.indexAddr (hvl.mono hle1) k1 (by omega) Yz Zp rfl rfl rfl rfl (fun p1 x1 hx1 he1=>?_)
  obtain ⟨cs1,hc1,hr1⟩:=he1
  obtain ⟨rfl,hb1⟩:=hr1
  refine Za hS1 hc1 Zp rfl rfl rfl ?_
  refine Yf x1 0 rfl rfl rfl (fun h2=>?_) (fun h2=>?_)
  ·exact RI hS1 rfl (by exact (Zki ‹_› ‹_› ‹_›).symm)
  refine Zl k1 (by have hreach : reach = 140737488355328:=rfl; omega) rfl rfl rfl ?_
  exact BK.mk' _ ⟨k1 + 1,G1,rfl,hle1,hS1,⟨rfl,rfl,rfl,rfl,trivial⟩,(by omega),(by exact Xy ‹_› ‹_› ‹_›)⟩ (show l.length - (k1 + 1) < l.length - k1 by omega)
 exact RI hS1 rfl (by exact (Zhh ‹_› (by omega)).symm)
theorem Zef {G : GH} {w : World} (hG : G.In w) (x y : Val) (cx : List Value) (hcx : ValE.rep G x cx) (cy : List Value) (hcy : ValE.rep G y cy) : CL Tryz.prog (nat_lit 165) #[.agg cx.toArray, .agg cy.toArray] [] w G fun _ _ r=>r = .int .i64 (cmpV x y):=by
 refine Zg ft [] Tryz.func165 rfl rfl ?_
 have hS:=St.start (X:=[]) hG
 obtain ⟨rfl,hb1,hb2,hb3⟩:=ZV hcx
 obtain ⟨rfl,hb4,hb5,hb6⟩:=ZV hcy
 refine Zv [.int .i64 x.k, .int .i64 x.n,Zb x.s] _ hS rfl rfl rfl (fun p1 w1 G1 hle1 hsp1 hc1 hS1=>?_)
 refine Zv [.int .i64 y.k, .int .i64 y.n,Zb y.s] _ hS1 rfl rfl rfl (fun p2 w2 G2 hle2 hsp2 hc2 hS2=>?_)
 refine dr [(15,false),(16,false),(17,false)] [(6, .int .i64 x.k),(8, .int .i64 y.k),(9, .int .i64 (Yu x.k y.k)),(11, .int .i64 x.n),(13, .int .i64 y.n),(14, .int .i64 (Yu x.n y.n)),(16,Zb x.s),(18,Zb y.s),(19, .int .i64 (cmpS x.s y.s))] hS2 ⟨fun _ hSw=>Za hSw (Xw.drop 0 (hc1.mono hle2)) Zp rfl rfl rfl <| nu rfl rfl,fun _ hSw=>Za hSw (Xw.drop 0 hc2) Zp rfl rfl rfl <| nu rfl rfl,fun _ hSw=>Z4 hSw ZjC rfl rfl rfl (Zd1 hSw.imm x.k y.k) rfl,fun _ hSw=>Za hSw (Xw.drop 1 (hc1.mono hle2)) Zp rfl rfl rfl <| nu rfl rfl,fun _ hSw=>Za hSw (Xw.drop 1 hc2) Zp rfl rfl rfl <| nu rfl rfl,fun _ hSw=>Z4 hSw ZjC rfl rfl rfl (Zd1 hSw.imm x.n y.n) rfl,fun _ hSw=>Za hSw (Xw.drop 2 (hc1.mono hle2)) Yj rfl rfl rfl <| nu rfl rfl,fun _ hSw=>Za hSw (Xw.drop 2 hc2) Yj rfl rfl rfl <| nu rfl rfl,fun _ hSw=>Z4 hSw Zwf rfl rfl rfl (Zni hSw.imm x.s y.s) rfl,trivial⟩ (fun w3 hS3=>?_)
 refine WL.buildSlice _ [(0,[.int .i64 (Yu x.k y.k)]),(1,[.int .i64 (Yu x.n y.n)]),(2,[.int .i64 (cmpS x.s y.s)])] [.int .i64 (Yu x.k y.k), .int .i64 (Yu x.n y.n), .int .i64 (cmpS x.s y.s)] hS3 YU rfl rfl rfl rfl (fun z hz=>by match z,hz with | [z0,z1,z2],_=>rfl) (fun b1 w4 hn1 hS4=>?_)
 obtain ⟨G3,hle3,hs1,hS5⟩:=St.sealSl (E:=Enc.int) (by_:=8) (l:=([(Yu x.k y.k),(Yu x.n y.n),(cmpS x.s y.s)] : List Int)) hS4 hn1 ⟨[.int .i64 (Yu x.k y.k)],_,rfl,⟨rfl,Zec x.k y.k⟩,⟨[.int .i64 (Yu x.n y.n)],_,rfl,⟨rfl,Zec x.n y.n⟩,⟨[.int .i64 (cmpS x.s y.s)],_,rfl,⟨rfl,Zkj x.s y.s⟩,rfl⟩⟩⟩ rfl (by simp [reach]) (by simp [reach])
 refine Zn hS5 Zsj rfl rfl rfl (Zu1 hS5.imm [(Yu x.k y.k),(Yu x.n y.n),(cmpS x.s y.s)] _ hs1) (fun w5 G4 hS6 hle4=>?_)
 exact RI hS6 rfl (by exact Zog _ _ _)
theorem Zq5 {G : GH} {w : World} (hG : G.In w) (l : List Val) (pf : Val → Bool) (vl : Value) (hvl : Sl ValE 32 G vl l) (fid : Nat) (fcap : Array Value) (hf : FnB Tryz.prog (Is ValE) fid fcap G (fun x=>x ∈ l) pf) : CL Tryz.prog (nat_lit 175) #[vl, .func (.func fid) #[] fcap] [] w G fun _ _ r=>r = .int .i64 (Za4 pf l):=by
 refine Zg ft [] Tryz.func175 rfl rfl ?_
 have hS:=St.start (X:=[]) hG
 have bd1:=hvl.bound
 refine Zj hvl Yd rfl rfl ?_
 refine LP.go ft [] (fun m ρ1 w1=>∃ (k1 : Nat),∃ (G1 : GH),m = l.length - k1 ∧ G.le G1 ∧ St w [] G G1 [] w1 ∧ FR ρ1 [(0,vl),(1, .func (.func fid) #[] fcap),(7, .int .i64 (l.length : Int)),(8, .int .i64 (k1 : Int))] ∧ k1 ≤ l.length ∧ ∀ j,j < k1 → ∀ x,l[j]? = some x → pf x = false) _ ⟨0,G,rfl,(G.le_refl),hS,⟨rfl,rfl,rfl,rfl,trivial⟩,(by omega),(by intro j hj; omega)⟩ ?_
 rintro m ρ1 w1 ⟨k1,G1,rfl,hle1,hS1,hF9,f1,f2⟩
 refine hF9.set ?_
 clear hF9
 refine Zq (k1 : Int) (l.length : Int) rfl rfl rfl (fun h1=>?_) (fun h1=>?_)
 ·refine WL.indexAddr (hvl.mono hle1) k1 (by omega) Yd Z3 rfl rfl rfl rfl (fun p1 x1 hx1 he1=>?_)
  obtain ⟨cs1,hc1,hr1⟩:=he1
  obtain ⟨rfl,hb1,hb2,hb3⟩:=ZV hr1
  refine Zc hS1 hc1 [.int .i64 x1.k, .int .i64 x1.n,Zb x1.s] Z3 rfl rfl rfl rfl rfl ?_
  refine Zn hS1 hf.body rfl rfl rfl (hf.call _ _ (.agg #[.int .i64 x1.k, .int .i64 x1.n,Zb x1.s]) x1 hle1 hS1.imm (List.mem_of_getElem? hx1) ⟨_,rfl,(Y3 x1 hb1 hb2 hb3)⟩) (fun w2 G2 hS2 hle2=>?_)
  refine WL.split (fun (h2 : (pf x1) = true)=>?_) (fun (h2 : (pf x1) = false)=>?_)
  ·exact RI hS2 rfl (by exact (Zcs _ ‹_› ‹_› ‹_›).symm)
  refine Zl k1 (by have hreach : reach = 140737488355328:=rfl; omega) rfl rfl rfl ?_
  exact BK.mk' _ ⟨k1 + 1,G2,rfl,(hle1.trans hle2),hS2,⟨rfl,rfl,rfl,rfl,trivial⟩,(by omega),(by exact Xy ‹_› ‹_› ‹_›)⟩ (show l.length - (k1 + 1) < l.length - k1 by omega)
 exact RI hS1 rfl (by exact (Zb5 ‹_› (by omega)).symm)
theorem ZdN {G : GH} {w : World} (hG : G.In w) (l : List Val) (pf : Val → Bool) (vl : Value) (hvl : Sl ValE 32 G vl l) (fid : Nat) (fcap : Array Value) (hf : FnB Tryz.prog (Is ValE) fid fcap G (fun x=>x ∈ l) pf) : CL Tryz.prog (nat_lit 122) #[vl, .func (.func fid) #[] fcap] [] w G fun _ _ r=>r = .bool (l.any pf):=by
 refine Zg ft [] Tryz.func122 rfl rfl ?_
 have hS:=St.start (X:=[]) hG
 refine Zn hS ZvU rfl rfl rfl (Zq5 hS.imm l pf _ hvl fid fcap (hf.up (G.le_refl))) (fun w1 G1 hS1 hle1=>?_)
 refine ZZ .geq rfl .i64 (Za4 pf l) 0 rfl rfl rfl ?_
 exact RB hS1 rfl (by exact Ze0 _ _)
end Go.Civ
namespace Go.Civ
open Go.RowKit
set_option linter.unusedVariables false
section
variable {P : Program} {Q : Exit → Env → World → Prop} {ρ : Env} {w : World} {ops : Array Oper} {rest : List Oper} {K : Env → World → Prop}
variable {d : Nat} {ty : TypeId} {pos : String} {af : Array Edge} {g : Option (Nat × Bool)} {G : GH}
end
theorem Zej {b : Bool} (h : (!b) = false) : b = true:=by cases b with | true=>rfl | false=>cases h
theorem XJ.cast {w : World} {G : GH} {b e : Nat} {cs cs' : List Value} (h : XJ w G (some (b,e,cs))) (k : cs = cs') : XJ w G (some (b,e,cs')):=k ▸ h
end Go.Civ
namespace Go.Civ
open Go.RowKit
set_option linter.unusedVariables false
def Zaj (ns : List (List UInt8)) (l : List Val) (k : Nat) : List Col:=((ns.zip l).take k).map fun p=>⟨p.1,p.2.k⟩
def QF (ns : List (List UInt8)) (l : List Val) : List Col:=(ns.zip l).map fun p=>⟨p.1,p.2.k⟩
theorem Znp {ns : List (List UInt8)} {l : List Val} {k : Nat} {n : List UInt8} {v : Val} (h1 : ns[k]? = some n) (h2 : l[k]? = some v) : Zaj ns l (k + 1) = Zaj ns l k ++ [⟨n,v.k⟩]:=by
 unfold Zaj
 have e : (ns.zip l)[k]? = some (n,v):=List.getElem?_zip_eq_some.2 ⟨h1,h2⟩
 rw [List.take_add_one,e]; simp
theorem Zo0 (ns : List (List UInt8)) (l : List Val) (k : Nat) : (Zaj ns l k).length ≤ k:=by unfold Zaj; rw [List.length_map]; exact List.length_take_le _ _
theorem Zo1 {ns : List (List UInt8)} {l : List Val} {k : Nat} (h : ns.length ≤ k) : Zaj ns l k = QF ns l:=by
 unfold Zaj QF; rw [List.take_of_length_le (by rw [List.length_zip]; omega)]
theorem Znq {ns : List (List UInt8)} {l : List Val} (h : ns.length = l.length) : (QF ns l).length = l.length:=by unfold QF; rw [List.length_map,List.length_zip]; omega
def ZdR (ns : List (List UInt8)) (l : List Val) : Bool:=decide (ns.length = l.length) && decide (ns.length ≤ 100) && l.all Zz
def ZeE (d : Nat) (c : Cond) (ns : List (List UInt8)) (l : List Val) : Int:=bif ZdR ns l then ZW d c (QF ns l) else 1
def Yt (d : Nat) (c : Cond) (ns : List (List UInt8)) (l : List Val) : Bool:=bif ZdR ns l then (bif decide (ZW d c (QF ns l) = 0) then Xf d c (QF ns l) l else false) else false
section
variable {d : Nat} {c : Cond} {ns : List (List UInt8)} {l : List Val}
theorem Zek (h : ns.length ≠ l.length ∨ 100 < ns.length ∨ l.all Zz = false) : Yt d c ns l = false ∧ ZeE d c ns l = 1:=by
 have : ZdR ns l = false:=by
  unfold ZdR
  rcases h with h | h | h
  ·rw [decide_eq_false h]; rfl
  ·rw [decide_eq_false (by omega : ¬ ns.length ≤ 100)]; simp
  ·rw [h]; simp
 unfold Yt ZeE; rw [this]; exact ⟨rfl,rfl⟩
theorem ZjG (h1 : ns.length = l.length) (h2 : ns.length ≤ 100) (h3 : l.all Zz = true) : ZdR ns l = true:=by unfold ZdR; rw [decide_eq_true h1,decide_eq_true h2,h3]; rfl
theorem ZsQ (hg : ZdR ns l = true) (h : ZW d c (QF ns l) ≠ 0) : Yt d c ns l = false ∧ ZeE d c ns l = ZW d c (QF ns l):=by
 unfold Yt ZeE; rw [hg,decide_eq_false h]; exact ⟨rfl,rfl⟩
theorem ZuC (hg : ZdR ns l = true) (h : ZW d c (QF ns l) = 0) : Yt d c ns l = Xf d c (QF ns l) l ∧ ZeE d c ns l = 0:=by
 unfold Yt ZeE; rw [hg,decide_eq_true h,h]; exact ⟨rfl,rfl⟩
theorem ZkL {cols : List Col} (hc : cols = QF ns l) (hg : ZdR ns l = true) (h : ZW d c cols ≠ 0) : Yt d c ns l = false ∧ ZeE d c ns l = ZW d c cols:=by subst hc; exact ZsQ hg h
theorem Zmb {cols : List Col} (hc : cols = QF ns l) (hg : ZdR ns l = true) (h : ZW d c cols = 0) : Yt d c ns l = Xf d c cols l ∧ ZeE d c ns l = 0:=by subst hc; exact ZuC hg h
theorem Znr {cs : List Col} (h : ZW d c cs = 0) : Ze3 d c ∧ YP d c cs = 0:=by
 unfold ZW at h
 by_cases g : YL d c 1 ≤ 60
 ·rw [if_pos g] at h; exact ⟨ZlU (by omega) (by omega) g,h⟩
 ·rw [if_neg g] at h; omega
end
section
variable {d : Nat} {c : Cond} {cs : List Col} {l : List Fact} {k : Nat} {f : Fact}
end
section
variable {d : Nat} {c : Cond} {cs : List Col} {l : List Fact}
end
end Go.Civ
namespace Go.Civ
set_option linter.unusedVariables false
end Go.Civ
namespace Go.Civ
set_option linter.unusedVariables false
section
variable {l : List Fact} {ps : List Int} {k j : Nat} {f : Fact} {i : Int}
end
end Go.Civ
namespace Go.Civ
open Go.RowKit
set_option linter.unusedVariables false
section
variable {P : Program} {Q : Exit → Env → World → Prop} {ρ : Env} {w : World} {ops : Array Oper} {rest : List Oper} {K : Env → World → Prop}
variable {d : Nat} {ty : TypeId} {pos : String} {af : Array Edge} {g : Option (Nat × Bool)} {G : GH}
theorem Zmg {t ty' : TypeId} {x y : Operand} (a b : Nat) (hb : 0 < b) (ha : a ≤ 4 * reach)
  (hw : Region.wanted ⟨some d, .binOp .quo t x y ty',ty,pos,af,g⟩ (Zr ops ρ) = true) (hx : ev ρ x = .int .i64 (a : Int)) (hy : ev ρ y = .int .i64 (b : Int))
  (kk : K (Z5 ρ d (.int .i64 ((a / b : Nat) : Int))) w) : OW P ops ⟨some d, .binOp .quo t x y ty',ty,pos,af,g⟩ ρ w K:=by
 have h1 : a / b ≤ a:=Nat.div_le_self a b
 have e1 : Int.tdiv (a : Int) (b : Int) = ((a / b : Nat) : Int):=by rw [Int.tdiv_eq_ediv_of_nonneg (by omega)]; simp
 generalize a / b = q at h1 e1 kk
 refine WL.val hw ?_ rfl kk
 have hI : Zw (q : Int):=by clear e1; exact ⟨by omega,by unfold reach at ha; omega⟩
 simp [execOp,hx,hy,binOp,Zbn,Op.intDiv,show b ≠ 0 by omega,e1,Zea hI,Result.andThen]
theorem XH {t ty' : TypeId} {x y : Operand} (a b : Nat) (hb : 0 < b) (ha : a ≤ 4 * reach)
  (hw : Region.wanted ⟨some d, .binOp .rem t x y ty',ty,pos,af,g⟩ (Zr ops ρ) = true) (hx : ev ρ x = .int .i64 (a : Int)) (hy : ev ρ y = .int .i64 (b : Int))
  (kk : K (Z5 ρ d (.int .i64 ((a % b : Nat) : Int))) w) : OW P ops ⟨some d, .binOp .rem t x y ty',ty,pos,af,g⟩ ρ w K:=by
 have e1 : Int.tmod (a : Int) (b : Int) = ((a % b : Nat) : Int):=by rw [Int.tmod_eq_emod_of_nonneg (by omega)]; simp
 generalize a % b = q at e1 kk
 refine WL.val hw ?_ rfl kk
 simp [execOp,hx,hy,binOp,Zbn,Op.intDiv,show b ≠ 0 by omega,e1,Result.andThen]
end
theorem Zte {l : List Span} (h : Can l) {k : Nat} {x y : Span} (hx : l[k - 1]? = some x) (hy : l[k]? = some y) (hk : 0 < k) (hge : x.b ≥ y.a) : False:=by
 obtain ⟨h1,rfl⟩:=List.getElem?_eq_some_iff.1 hx
 obtain ⟨h2,rfl⟩:=List.getElem?_eq_some_iff.1 hy
 have:=List.pairwise_iff_getElem.1 h.apart (k - 1) k h1 h2 (by omega)
 omega
def Zd (l : List Span) (n : Nat) : Int:=if n = 2 * l.length then 8796093022208 else match l[n / 2]? with | some s=>if n % 2 = 0 then s.a else s.b | none=>0
theorem ZdA {l : List Span} {n : Nat} (h : n = 2 * l.length) : Zd l n = 8796093022208:=by unfold Zd; rw [if_pos h]
theorem Ztf {l : List Span} {n : Nat} {s : Span} (h : n ≠ 2 * l.length) (hs : l[n / 2]? = some s) (h0 : n % 2 = 0) : Zd l n = s.a:=by unfold Zd; rw [if_neg h,hs]; simp [h0]
theorem Ztg {l : List Span} {n : Nat} {s : Span} (h : n ≠ 2 * l.length) (hs : l[n / 2]? = some s) (h0 : n % 2 ≠ 0) : Zd l n = s.b:=by unfold Zd; rw [if_neg h,hs]; simp [h0]
structure Behind (l : List Span) (n : Nat) (T : Int) : Prop where
 le : n ≤ 2 * l.length
 lo : ∀ (j : Nat) s,l[j]? = some s → (2 * j < n → s.a ≤ T) ∧ (2 * j + 1 < n → s.b ≤ T)
 hi : ∀ (j : Nat) s,l[j]? = some s → (n ≤ 2 * j → T < s.a) ∧ (n ≤ 2 * j + 1 → T < s.b)
theorem Behind.start {l : List Span} {T : Int} (h : ∀ s ∈ l,T < s.a ∧ T < s.b) : Behind l 0 T:=
 ⟨by omega,fun j s hs=>⟨fun h=>by omega,fun h=>by omega⟩,fun j s hs=>⟨fun _=>(h s (List.mem_of_getElem? hs)).1,fun _=>(h s (List.mem_of_getElem? hs)).2⟩⟩
theorem Behind.cover {l : List Span} {n : Nat} {T : Int} (h : Behind l n T) : cover l T ↔ n % 2 = 1:=by
 constructor
 ·rintro ⟨s,hs,h1,h2⟩
  obtain ⟨j,hj,rfl⟩:=List.mem_iff_getElem.1 hs
  have e:=List.getElem?_eq_getElem hj
  have a1:=(h.hi j _ e).1
  have a2:=(h.lo j _ e).2
  have b1 : ¬ n ≤ 2 * j:=fun q=>by have:=a1 q; omega
  have b2 : ¬ 2 * j + 1 < n:=fun q=>by have:=a2 q; omega
  omega
 ·intro hn
  have hl:=h.le
  have hj : n / 2 < l.length:=by omega
  have e:=List.getElem?_eq_getElem hj
  exact ⟨_,List.getElem_mem hj,(h.lo _ _ e).1 (by omega),(h.hi _ _ e).2 (by omega)⟩
theorem ZcG {l : List Span} {n : Nat} (h : n < 2 * l.length) : ∃ s,l[n / 2]? = some s ∧ Zd l n = if n % 2 = 0 then s.a else s.b:=by
 have hj : n / 2 < l.length:=by omega
 refine ⟨_,List.getElem?_eq_getElem hj,?_⟩
 unfold Zd; rw [if_neg (by omega),List.getElem?_eq_getElem hj]
theorem ZkQ {l : List Span} {n : Nat} (h : n < 2 * l.length) (hv : ∀ s ∈ l,s.a < 8796093022208 ∧ s.b < 8796093022208) : Zd l n < 8796093022208:=by
 obtain ⟨s,hs,e⟩:=ZcG h
 have:=hv s (List.mem_of_getElem? hs)
 rw [e]; split <;> omega
theorem Behind.gt {l : List Span} {n : Nat} {T : Int} (h : Behind l n T) (hT : T < 8796093022208) : T < Zd l n:=by
 by_cases hn : n = 2 * l.length
 ·rw [ZdA hn]; exact hT
 ·have hl:=h.le
  obtain ⟨s,hs,e⟩:=ZcG (l:=l) (n:=n) (by omega)
  rw [e]
  have:=h.hi _ _ hs
  split
  ·exact this.1 (by omega)
  ·exact this.2 (by omega)
theorem ZiV {l : List Span} {n : Nat} (hC : Can l) (hn : n < 2 * l.length) (j : Nat) (s : Span) (hs : l[j]? = some s) : (n ≤ 2 * j → Zd l n ≤ s.a) ∧ (n ≤ 2 * j + 1 → Zd l n ≤ s.b) ∧ (n < 2 * j → Zd l n < s.a) ∧ (n < 2 * j + 1 → Zd l n < s.b):=by
 obtain ⟨s0,h0,e⟩:=ZcG hn
 have p0:=hC.pos s0 (List.mem_of_getElem? h0)
 have p1:=hC.pos s (List.mem_of_getElem? hs)
 have ap : n / 2 < j → s0.b < s.a:=fun hlt=>by
  obtain ⟨q1,rfl⟩:=List.getElem?_eq_some_iff.1 h0
  obtain ⟨q2,rfl⟩:=List.getElem?_eq_some_iff.1 hs
  exact List.pairwise_iff_getElem.1 hC.apart _ _ q1 q2 hlt
 have eq : n / 2 = j → s0 = s:=fun he=>by rw [he] at h0; exact Option.some.inj (h0.symm.trans hs)
 rw [e]
 by_cases hj : n / 2 = j
 ·have:=eq hj; subst this
  refine ⟨fun q=>?_,fun q=>?_,fun q=>?_,fun q=>?_⟩ <;> split <;> omega
 ·refine ⟨fun q=>?_,fun q=>?_,fun q=>?_,fun q=>?_⟩ <;> (have:=ap (by omega); split <;> omega)
theorem Behind.up {l : List Span} {n : Nat} {T T' : Int} (h : Behind l n T) (hC : Can l) (hT : T ≤ T') (hlt : T' < Zd l n ∨ n = 2 * l.length) : Behind l n T':=by
 refine ⟨h.le,fun j s hs=>⟨fun q=>Int.le_trans ((h.lo j s hs).1 q) hT,fun q=>Int.le_trans ((h.lo j s hs).2 q) hT⟩,fun j s hs=>?_⟩
 have hj:=(List.getElem?_eq_some_iff.1 hs).1
 by_cases hn : n = 2 * l.length
 ·exact ⟨fun q=>by omega,fun q=>by omega⟩
 ·have hl:=h.le
  have hm:=ZiV hC (n:=n) (by omega) j s hs
  have hlt' : T' < Zd l n:=by rcases hlt with h1 | h1 <;> omega
  exact ⟨fun q=>by have:=hm.1 q; omega,fun q=>by have:=hm.2.1 q; omega⟩
theorem Behind.step {l : List Span} {n : Nat} {T T' : Int} (h : Behind l n T) (hC : Can l) (hT : T ≤ T') (hn : n < 2 * l.length) (he : Zd l n = T') : Behind l (n + 1) T':=by
 refine ⟨by omega,fun j s hs=>?_,fun j s hs=>?_⟩
 ·obtain ⟨s0,h0,e⟩:=ZcG hn
  have eq : n / 2 = j → s0 = s:=fun he=>by rw [he] at h0; exact Option.some.inj (h0.symm.trans hs)
  constructor
  ·intro q
   by_cases hq : 2 * j < n
   ·exact Int.le_trans ((h.lo j s hs).1 hq) hT
   ·have:=eq (by omega); subst this
    rw [if_pos (by omega)] at e; omega
  ·intro q
   by_cases hq : 2 * j + 1 < n
   ·exact Int.le_trans ((h.lo j s hs).2 hq) hT
   ·have:=eq (by omega); subst this
    rw [if_neg (by omega)] at e; omega
 ·have hm:=ZiV hC hn j s hs
  exact ⟨fun q=>by have:=hm.2.2.1 (by omega); omega,fun q=>by have:=hm.2.2.2 (by omega); omega⟩
def ZbE (i k : Nat) : Bool:=decide (((i % 2 : Nat) : Int) = 1) && !decide (((k % 2 : Nat) : Int) = 1)
structure Sweep (a b : List Span) (i k : Nat) (ins : Bool) (fr : Int) (out : List Span) (T : Int) : Prop where
 ba : Behind a i T
 bb : Behind b k T
 st : ins = ZbE i k
 can : Can out
 top : ∀ s ∈ out,s.b ≤ fr ∧ (ins = true → s.b < fr)
 frT : fr ≤ T ∨ (ins = false ∧ out = [])
 cov : ∀ x,x < T → ((cover out x ∨ (ins = true ∧ fr ≤ x)) ↔ (cover a x ∧ ¬ cover b x))
 len : 2 * out.length + (if ins then 1 else 0) ≤ i + k
 tb : T < 8796093022208
 bds : -8796093022208 ≤ T ∧ -8796093022208 ≤ fr ∧ fr ≤ 8796093022208
theorem Sweep.start {a b : List Span} (ha : ∀ s ∈ a,Xx s = true) (hb : ∀ s ∈ b,Xx s = true) : Sweep a b 0 0 false 0 [] (-8796093022208):=by
 have sv : ∀ s : Span,Xx s = true → -8796093022208 < s.a ∧ -8796093022208 < s.b:=fun s hs=>by
  unfold Xx Zbo at hs; simp at hs; omega
 refine ⟨Behind.start fun s hs=>sv s (ha s hs),Behind.start fun s hs=>sv s (hb s hs),rfl,⟨List.Pairwise.nil,by simp⟩,by simp, .inr ⟨rfl,rfl⟩,fun x hx=>?_,by simp,by decide,by decide⟩
 constructor
 ·rintro (⟨_,h,_⟩ | h)
  ·simp at h
  ·simp at h
 ·rintro ⟨⟨s,hs,h1,h2⟩,_⟩
  have:=sv s (ha s hs); omega
structure Adv (l : List Span) (i i' : Nat) (t : Int) : Prop where
 ok : (Zd l i = t ∧ i' = i + 1) ∨ (Zd l i ≠ t ∧ i' = i)
theorem Adv.yes {l : List Span} {i : Nat} {t : Int} (h : Zd l i = t) : Adv l i (i + 1) t:=⟨.inl ⟨h,rfl⟩⟩
theorem Adv.no {l : List Span} {i : Nat} {t : Int} (h : Zd l i ≠ t) : Adv l i i t:=⟨.inr ⟨h,rfl⟩⟩
structure Next (a b : List Span) (i k i' k' : Nat) (ins : Bool) (fr : Int) (out : List Span) (T t : Int) : Prop where
 ba : Behind a i' t
 bb : Behind b k' t
 lt : T < t
 tb : t < 8796093022208
 adv : i + k < i' + k'
 cov : ∀ x,x < t → ((cover out x ∨ (ins = true ∧ fr ≤ x)) ↔ (cover a x ∧ ¬ cover b x))
theorem Sweep.next {a b : List Span} {i k i' k' : Nat} {ins : Bool} {fr : Int} {out : List Span} {T t : Int} (h : Sweep a b i k ins fr out T)
  (hCa : Can a) (hCb : Can b) (ha : ∀ s ∈ a,Xx s = true) (hb : ∀ s ∈ b,Xx s = true)
  (ht : t = min (Zd a i) (Zd b k)) (hg : i < 2 * a.length ∨ k < 2 * b.length) (hi : Adv a i i' t) (hk : Adv b k k' t) : Next a b i k i' k' ins fr out T t:=by
 have sv : ∀ s : Span,Xx s = true → s.a < 8796093022208 ∧ s.b < 8796093022208:=fun s hs=>by
  unfold Xx Zbo at hs; simp at hs; omega
 have la:=h.ba.le; have lb:=h.bb.le
 have ga:=h.ba.gt h.tb; have gb:=h.bb.gt h.tb
 have hla : ∀ n,n < 2 * a.length → Zd a n < 8796093022208:=fun n hn=>ZkQ hn fun s hs=>sv s (ha s hs)
 have hlb : ∀ n,n < 2 * b.length → Zd b n < 8796093022208:=fun n hn=>ZkQ hn fun s hs=>sv s (hb s hs)
 have tb : t < 8796093022208:=by
  rcases hg with q | q
  ·have:=hla i q; omega
  ·have:=hlb k q; omega
 have hlt : T < t:=by omega
 have na : Zd a i = t → i < 2 * a.length:=fun q=>by
  rcases Nat.lt_or_ge i (2 * a.length) with c | c
  ·exact c
  ·have:=ZdA (l:=a) (n:=i) (by omega); omega
 have nb : Zd b k = t → k < 2 * b.length:=fun q=>by
  rcases Nat.lt_or_ge k (2 * b.length) with c | c
  ·exact c
  ·have:=ZdA (l:=b) (n:=k) (by omega); omega
 refine ⟨?_,?_,hlt,tb,?_,fun x hx=>?_⟩
 ·rcases hi.ok with ⟨q,rfl⟩ | ⟨q,rfl⟩
  ·exact h.ba.step hCa (by omega) (na q) q
  ·exact h.ba.up hCa (by omega) (.inl (by omega))
 ·rcases hk.ok with ⟨q,rfl⟩ | ⟨q,rfl⟩
  ·exact h.bb.step hCb (by omega) (nb q) q
  ·exact h.bb.up hCb (by omega) (.inl (by omega))
 ·rcases hi.ok with ⟨q,rfl⟩ | ⟨q,rfl⟩ <;> rcases hk.ok with ⟨q',rfl⟩ | ⟨q',rfl⟩ <;> omega
 ·rcases Int.lt_or_le x T with hxT | hxT
  ·exact h.cov x hxT
  ·have c1:=(h.ba.up hCa hxT (.inl (by omega))).cover
   have c2:=(h.bb.up hCb hxT (.inl (by omega))).cover
   have hst:=h.st
   rw [c1,c2]
   constructor
   ·rintro (⟨s,hs,h1,h2⟩ | ⟨q,_⟩)
    ·have:=(h.top s hs).1
     rcases h.frT with q | ⟨_,q⟩
     ·omega
     ·rw [q] at hs; simp at hs
    ·rw [q] at hst; unfold ZbE at hst; simp at hst; omega
   ·intro q
    right
    have e : ins = true:=by rw [hst]; unfold ZbE; simp; omega
    refine ⟨e,?_⟩
    rcases h.frT with q' | ⟨q',_⟩
    ·omega
    ·rw [e] at q'; cases q'
theorem Sweep.keep {a b : List Span} {i k i' k' : Nat} {ins : Bool} {fr : Int} {out : List Span} {T t : Int} (h : Sweep a b i k ins fr out T) (hn : Next a b i k i' k' ins fr out T t) {v : Bool} (hv : ZbE i' k' = v) (he : (v == ins) = true) : Sweep a b i' k' ins fr out t:=
 ⟨hn.ba,hn.bb,(hv.trans (eq_of_beq he)).symm,h.can,h.top,by rcases h.frT with q | q; exact .inl (by have:=hn.lt; omega); exact .inr q,hn.cov,by have:=h.len; have:=hn.adv; omega,hn.tb,by have:=h.bds; have:=hn.lt; omega⟩
theorem Sweep.open {a b : List Span} {i k i' k' : Nat} {fr : Int} {out : List Span} {T t : Int} (h : Sweep a b i k false fr out T) (hn : Next a b i k i' k' false fr out T t) (he : ZbE i' k' = true) : Sweep a b i' k' true t out t:=by
 have tp : ∀ s ∈ out,s.b < t:=fun s hs=>by
  have:=(h.top s hs).1
  rcases h.frT with q | ⟨_,q⟩
  ·have:=hn.lt; omega
  ·rw [q] at hs; simp at hs
 refine ⟨hn.ba,hn.bb,he.symm,h.can,fun s hs=>⟨by have:=tp s hs; omega,fun _=>tp s hs⟩, .inl (by omega),fun x hx=>?_,by have:=h.len; have:=hn.adv; simp at this ⊢; simp at *; omega,hn.tb,by have:=h.bds; have:=hn.lt; have:=hn.tb; omega⟩
 rw [← hn.cov x hx]
 constructor
 ·rintro (q | ⟨_,q⟩)
  ·exact .inl q
  ·omega
 ·rintro (q | ⟨q,_⟩)
  ·exact .inl q
  ·cases q
theorem Sweep.push {a b : List Span} {i k i' k' : Nat} {fr : Int} {out : List Span} {T t : Int} (h : Sweep a b i k true fr out T) (hn : Next a b i k i' k' true fr out T t) (he : ZbE i' k' = false) : Sweep a b i' k' false t (out ++ [⟨fr,t⟩]) t:=by
 have hfr : fr ≤ T:=by
  rcases h.frT with q | ⟨q,_⟩
  ·exact q
  ·cases q
 have hlt:=hn.lt
 refine ⟨hn.ba,hn.bb,he.symm,⟨List.pairwise_append.2 ⟨h.can.apart,List.pairwise_singleton _ _,fun s hs q hq=>?_⟩,fun s hs=>?_⟩,fun s hs=>⟨?_,fun q=>by cases q⟩, .inl (by omega),fun x hx=>?_,?_,hn.tb,by have:=h.bds; have:=hn.tb; omega⟩
 ·simp at hq; subst hq; exact (h.top s hs).2 rfl
 ·rcases List.mem_append.1 hs with q | q
  ·exact h.can.pos s q
  ·simp at q; subst q; show fr < t; omega
 ·rcases List.mem_append.1 hs with q | q
  ·have:=(h.top s q).1; omega
  ·simp at q; subst q; show t ≤ t; omega
 ·rw [← hn.cov x hx]
  constructor
  ·rintro (⟨s,hs,h1,h2⟩ | ⟨q,_⟩)
   ·rcases List.mem_append.1 hs with q | q
    ·exact .inl ⟨s,q,h1,h2⟩
    ·simp at q; subst q; exact .inr ⟨rfl,h1⟩
   ·cases q
  ·rintro (⟨s,hs,h1,h2⟩ | ⟨_,q⟩)
   ·exact .inl ⟨s,List.mem_append_left _ hs,h1,h2⟩
   ·exact .inl ⟨⟨fr,t⟩,by simp,q,hx⟩
 ·have:=h.len; have:=hn.adv; simp at *; omega
theorem Sweep.flip {a b : List Span} {i k i' k' : Nat} {fr : Int} {out : List Span} {T t : Int} {ins v : Bool} (h : Sweep a b i k ins fr out T) (hn : Next a b i k i' k' ins fr out T t) (hv : ZbE i' k' = v) (he : (v == ins) = false) (hi : ins = true) : Sweep a b i' k' v t (out ++ [⟨fr,t⟩]) t:=by
 subst hi
 have e : v = false:=by cases q : v with | false=>rfl | true=>rw [q] at he; cases he
 rw [e] at hv ⊢; exact h.push hn hv
theorem Sweep.flop {a b : List Span} {i k i' k' : Nat} {fr : Int} {out : List Span} {T t : Int} {ins v : Bool} (h : Sweep a b i k ins fr out T) (hn : Next a b i k i' k' ins fr out T t) (hv : ZbE i' k' = v) (he : (v == ins) = false) (hi : ins = false) : Sweep a b i' k' v t out t:=by
 subst hi
 have e : v = true:=by cases q : v with | true=>rfl | false=>rw [q] at he; cases he
 rw [e] at hv ⊢; exact h.open hn hv
theorem Sweep.done {a b : List Span} {i k : Nat} {ins : Bool} {fr : Int} {out : List Span} {T : Int} (h : Sweep a b i k ins fr out T) (hCa : Can a) (hCb : Can b)
  (hi : ¬ (i < 2 * a.length)) (hk : ¬ (k < 2 * b.length)) : out = ZX 3 a b ∧ out.length ≤ a.length + b.length:=by
 have la:=h.ba.le; have lb:=h.bb.le
 have ei : i = 2 * a.length:=by omega
 have ek : k = 2 * b.length:=by omega
 have hst : ins = false:=by rw [h.st]; unfold ZbE; simp; omega
 obtain ⟨h1,h2⟩:=Zcv (kind:=3) (a:=a) (b:=b) rfl hCa.pos hCb.pos
 refine ⟨Can.unique h.can h1 fun x=>?_,by have:=h.len; omega⟩
 rw [h2 x]
 have key : (cover a x ∧ ¬ cover b x) ↔ QE 3 (Xq a x) (Xq b x) = true:=by
  rw [← Zao,← Zao]
  simp [QE]
 rw [← key]
 rcases Int.lt_or_le x T with q | q
 ·rw [← h.cov x q,hst]; simp
 ·have c1:=(h.ba.up hCa q (.inr ei)).cover
  constructor
  ·rintro ⟨s,hs,u1,u2⟩
   have:=(h.top s hs).1
   rcases h.frT with q' | ⟨_,q'⟩
   ·omega
   ·rw [q'] at hs; simp at hs
  ·rintro ⟨u1,_⟩
   have:=c1.1 u1; omega
def Zss (gs : List Group) (v : List Val) : Prop:=∀ (p q : Nat) (x y : Group),p < q → gs[p]? = some x → gs[q]? = some y → X4 y.v v < 0 → X4 x.v v < 0
def ZuR (gs : List Group) (v : List Val) (i : Nat) : Prop:=∀ (j : Nat),j < i → ∀ (u : Group),gs[j]? = some u → X4 u.v v < 0
def Zst (gs : List Group) (v : List Val) (i : Nat) : Prop:=∀ (j : Nat),i ≤ j → ∀ (u : Group),gs[j]? = some u → ¬ X4 u.v v < 0
theorem ZuR.zero {gs : List Group} {v : List Val} : ZuR gs v 0:=fun j hj=>by omega
theorem Zst.all {gs : List Group} {v : List Val} : Zst gs v gs.length:=fun j hj u hu=>by have:=(List.getElem?_eq_some_iff.1 hu).1; omega
theorem ZuR.step {gs : List Group} {v : List Val} {h : Nat} {x : Group} (hs : Zss gs v) (hx : gs[h]? = some x) (hc : X4 x.v v < 0) : ZuR gs v (h + 1):=fun j hj u hu=>by
 by_cases e : j = h
 ·subst e; rw [hx] at hu; cases hu; exact hc
 ·exact hs j h u x (by omega) hu hx hc
theorem Zst.step {gs : List Group} {v : List Val} {h : Nat} {x : Group} (hs : Zss gs v) (hx : gs[h]? = some x) (hc : 0 ≤ X4 x.v v) : Zst gs v h:=fun j hj u hu k=>by
 by_cases e : j = h
 ·subst e; rw [hx] at hu; cases hu; omega
 ·have:=hs h j x u (by omega) hx hu k; omega
theorem Znz {l : List Span} (h : ∀ s ∈ l,ZI s = true) : ∀ s ∈ ZaM l,ZI s = true:=fun s hs=>by
 have hc:=QD fun x hx=>Xb (h x hx)
 have hp:=hc.can.pos s hs
 obtain ⟨p,hp1,p1,p2⟩:=(hc.cov s.a).1 ⟨s,hs,by omega,hp⟩
 obtain ⟨q,hq1,q1,q2⟩:=(hc.cov (s.b - 1)).1 ⟨s,hs,by omega,by omega⟩
 have b1:=h p hp1
 have b2:=h q hq1
 unfold ZI at b1 b2 ⊢
 simp at b1 b2 ⊢
 omega
end Go.Civ
namespace Go.Proofs
open Go.Shelf
def Tryz.laysCompact_ren : Go.Shelf.Ren:=⟨fun | 20=>146 | n=>n,fun | 22=>113 | 3=>3 | 4=>4 | 0=>0 | n=>n,fun | n=>n⟩
theorem Tryz.laysCompact : Go.Proofs.Lays2.n20 Tryz.prog Tryz.laysCompact_ren:={
 mixed:=by kernel_rfl
 f20:=Tryz.func146.trans (congrArg some (by kernel_rfl))
 t0:=Tryz.underlying0
 a0:=Tryz.isAgg0
 z0:=Tryz.sizeOf0
 v0:=Tryz.zeroValue0
 t3:=Tryz.underlying3
 a3:=Tryz.isAgg3
 z3:=Tryz.sizeOf3
 v3:=Tryz.zeroValue3
 t4:=Tryz.underlying4
 a4:=Tryz.isAgg4
 z4:=Tryz.sizeOf4
 v4:=Tryz.zeroValue4
 t22:=Tryz.underlying113
 a22:=Tryz.isAgg113
 z22:=Tryz.sizeOf113
 v22:=Tryz.zeroValue113
 i3:=by kernel_rfl }
end Go.Proofs
