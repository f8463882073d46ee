/- Lemmas. -/
import Derived.Test.YthgeclodflmiaaaGreatD06
import Derived.Test.YthgeclodflmiaaaGreatD07
import Derived.Test.YthgeclodflmiaaaGreatD09
import Derived.Test.YthgeclodflmiaaaGreatProg
import Derived.KernelRfl
import Derived.WalkKit
import Derived.Below
import Derived.Shelf.GgClosure.StringsRunes
import Derived.Laws.Slices
import Derived.Laws.Small
set_option linter.unusedVariables false
set_option linter.unusedSimpArgs false
set_option maxRecDepth 100000
set_option maxHeartbeats 4000000
namespace Go.Civ
open Go.Proofs
theorem ZnD {G : GH} {w : World} (hG : G.In w) (a : Int) : CL Tryz.prog (nat_lit 210) #[S a] [] w G fun _ _ r=>r = .bool false:=by
 refine Zh ft [] Tryz.func210 U U ?_
 have hS:=St.start (X:=[]) hG
 refine Yf .neq U .i64 a a U U U ?_
 exact RB hS U (by simp [Cmp.b])
theorem Zef {G : GH} {w : World} (hG : G.In w) (a b : Int) : CL Tryz.prog (nat_lit 169) #[S a,S b] [] w G fun _ _ r=>r = S (Y5 a b):=by
 refine Zh ft [] Tryz.func169 U U ?_
 have hS:=St.start (X:=[]) hG
 refine Zr hS ZuH U U U (ZnD hS.imm a) (fun w1 G1 S1 L1=>?_)
 refine Zr S1 ZuH U U U (ZnD S1.imm b) (fun w2 G2 S2 L2=>?_)
 refine Zp a b U U U (fun h1=>?_) (fun h1=>?_)
 ·exact RI S2 U (by unfold Y5; split <;> (try split) <;> rfl)
 refine Xd a b U U U (fun h2=>?_) (fun h2=>?_)
 ·exact RI S2 U (by unfold Y5; split <;> (try split) <;> omega)
 exact RI S2 U (by unfold Y5; split <;> (try split) <;> omega)
theorem ZlX {G : GH} {w : World} (hG : G.In w) (a : List UInt8) : CL Tryz.prog (nat_lit 239) #[Za a] [] w G fun _ _ r=>r = .bool false:=by
 refine Zh ft [] Tryz.func239 U U ?_
 have hS:=St.start (X:=[]) hG
 refine ZJ .neq U a a U U U ?_
 exact RB hS U (by simp [SCmp.b])
theorem ZoS {G : GH} {w : World} (hG : G.In w) (a b : List UInt8) : CL Tryz.prog (nat_lit 199) #[Za a,Za b] [] w G fun _ _ r=>r = S (cmpS a b):=by
 refine Zh ft [] Tryz.func199 U U ?_
 have hS:=St.start (X:=[]) hG
 refine Zr hS ZuI U U U (ZlX hS.imm a) (fun w1 G1 S1 L1=>?_)
 refine Zr S1 ZuI U U U (ZlX S1.imm b) (fun w2 G2 S2 L2=>?_)
 refine ZJ .lss U a b U U U ?_
 refine WL.split (fun (h1 : (SCmp.b .lss a b) = true)=>?_) (fun (h1 : (SCmp.b .lss a b) = false)=>?_)
 ·exact RI S2 U (by unfold cmpS; simp_all [SCmp.b])
 refine ZJ .gtr U a b U U U ?_
 refine WL.split (fun (h2 : (SCmp.b .gtr a b) = true)=>?_) (fun (h2 : (SCmp.b .gtr a b) = false)=>?_)
 ·exact RI S2 U (by unfold cmpS; simp_all [SCmp.b])
 exact RI S2 U (by unfold cmpS; simp_all [SCmp.b])
theorem Zxj {G : GH} {w : World} (hG : G.In w) (l : List Int) (vl : Value) (hvl : Sl Enc.int 8 G vl l) : CL Tryz.prog (nat_lit 168) #[vl] [] w G fun _ _ r=>r = S (Qf l):=by
 refine Zh ft [] Tryz.func168 U U ?_
 have hS:=St.start (X:=[]) hG
 have V1:=hvl.bound
 refine Zl hvl Yp U U ?_
 refine LP.go ft [] (fun m ρ1 w1=>∃ (k1 : Nat),∃ (G1 : GH),m = l.length - k1 ∧ G.le G1 ∧ St w [] G G1 [] w1 ∧ FR ρ1 [(3,S 0),(6,vl),(7,S (l.length : Int)),(8,S (k1 : Int))] ∧ k1 ≤ l.length ∧ ∀ j,j < k1 → ∀ x,l[j]? = some x → x = 0) _ ⟨0,G,U,(G.le_refl),hS,(Zq U),(by omega),(by intro j hj; omega)⟩ ?_
 rintro m ρ1 w1 ⟨k1,G1,rfl,L1,S1,F9,f1,f2⟩
 refine F9.set ?_
 clear F9
 refine Zp (k1 : Int) (l.length : Int) U U U (fun h1=>?_) (fun h1=>?_)
 ·refine WL.indexAddr (hvl.mono L1) k1 (by omega) Yp Zt U U U U (fun p1 x1 U1 E1=>?_)
  obtain ⟨D1,C1,R1⟩:=E1
  obtain ⟨rfl,B1⟩:=R1
  refine Z S1 C1 Zt U U U ?_
  refine Yr x1 0 U U U (fun h2=>?_) (fun h2=>?_)
  ·exact RI S1 U (by exact (Zl8 ‹_› ‹_› ‹_›).symm)
  refine Zj k1 (by have:=Zc; omega) U U U ?_
  exact BK.mk' _ ⟨k1 + 1,G1,U,L1,S1,(Zq U),(by omega),(by exact ZW ‹_› ‹_› ‹_›)⟩ (show l.length - (k1 + 1) < l.length - k1 by omega)
 exact RI S1 U (by exact (Zil ‹_› (by omega)).symm)
theorem ZeN {G : GH} {w : World} (hG : G.In w) (x y : Val) (cx : List Value) (hcx : ValE.rep G x cx) (cy : List Value) (hcy : ValE.rep G y cy) : CL Tryz.prog (nat_lit 165) #[.agg cx.toArray, .agg cy.toArray] [] w G fun _ _ r=>r = S (cmpV x y):=by
 refine Zh ft [] Tryz.func165 U U ?_
 have hS:=St.start (X:=[]) hG
 obtain ⟨rfl,B1,B2,B3⟩:=Yj hcx
 obtain ⟨rfl,B4,B5,B6⟩:=Yj hcy
 refine Zw [S x.k,S x.n,Za x.s] _ hS U U U (fun p1 w1 G1 L1 M1 C1 S1=>?_)
 refine Zw [S y.k,S y.n,Za y.s] _ S1 U U U (fun p2 w2 G2 L2 M2 C2 S2=>?_)
 refine dr [(15,false),(16,false),(17,false)] [(6,S x.k),(8,S y.k),(9,S (Y5 x.k y.k)),(11,S x.n),(13,S y.n),(14,S (Y5 x.n y.n)),(16,Za x.s),(18,Za y.s),(19,S (cmpS x.s y.s))] S2 ⟨fun _ hSw=>Z hSw (XC.drop 0 (C1.mono L2)) Zt U U U <| nu U U,fun _ hSw=>Z hSw (XC.drop 0 C2) Zt U U U <| nu U U,fun _ hSw=>Z3 hSw Zla U U U (Zef hSw.imm x.k y.k) U,fun _ hSw=>Z hSw (XC.drop 1 (C1.mono L2)) Zt U U U <| nu U U,fun _ hSw=>Z hSw (XC.drop 1 C2) Zt U U U <| nu U U,fun _ hSw=>Z3 hSw Zla U U U (Zef hSw.imm x.n y.n) U,fun _ hSw=>Z hSw (XC.drop 2 (C1.mono L2)) ZF U U U <| nu U U,fun _ hSw=>Z hSw (XC.drop 2 C2) ZF U U U <| nu U U,fun _ hSw=>Z3 hSw Zzk U U U (ZoS hSw.imm x.s y.s) U,trivial⟩ (fun w3 S3=>?_)
 refine WL.buildSlice _ [(0,[S (Y5 x.k y.k)]),(1,[S (Y5 x.n y.n)]),(2,[S (cmpS x.s y.s)])] [S (Y5 x.k y.k),S (Y5 x.n y.n),S (cmpS x.s y.s)] S3 Yb U U U U (fun z hz=>by match z,hz with | [z0,z1,z2],_=>rfl) (fun b1 w4 N1 S4=>?_)
 obtain ⟨G3,L3,A1,S5⟩:=St.sealSl (E:=Enc.int) (by_:=8) (l:=([(Y5 x.k y.k),(Y5 x.n y.n),(cmpS x.s y.s)] : List Int)) S4 N1 ⟨[S (Y5 x.k y.k)],_,U,⟨U,ZeK x.k y.k⟩,⟨[S (Y5 x.n y.n)],_,U,⟨U,ZeK x.n y.n⟩,⟨[S (cmpS x.s y.s)],_,U,⟨U,Zl9 x.s y.s⟩,U⟩⟩⟩ U (by simp [reach]) (by simp [reach])
 refine Zr S5 ZuB U U U (Zxj S5.imm [(Y5 x.k y.k),(Y5 x.n y.n),(cmpS x.s y.s)] _ A1) (fun w5 G4 S6 L4=>?_)
 exact RI S6 U (by exact ZpY _ _ _)
theorem ZsJ {G : GH} {w : World} (hG : G.In w) (l : List Val) (pf : Val → Bool) (vl : Value) (hvl : Sl ValE 32 G vl l) (fid : Nat) (fcap : Array Value) (hf : FnB Tryz.prog (Is ValE) fid fcap G (fun x=>x ∈ l) pf) : CL Tryz.prog (nat_lit 175) #[vl, .func (.func fid) #[] fcap] [] w G fun _ _ r=>r = S (Qi pf l):=by
 refine Zh ft [] Tryz.func175 U U ?_
 have hS:=St.start (X:=[]) hG
 have V1:=hvl.bound
 refine Zl hvl Yv U U ?_
 refine LP.go ft [] (fun m ρ1 w1=>∃ (k1 : Nat),∃ (G1 : GH),m = l.length - k1 ∧ G.le G1 ∧ St w [] G G1 [] w1 ∧ FR ρ1 [(0,vl),(1, .func (.func fid) #[] fcap),(7,S (l.length : Int)),(8,S (k1 : Int))] ∧ k1 ≤ l.length ∧ ∀ j,j < k1 → ∀ x,l[j]? = some x → pf x = false) _ ⟨0,G,U,(G.le_refl),hS,(Zq U),(by omega),(by intro j hj; omega)⟩ ?_
 rintro m ρ1 w1 ⟨k1,G1,rfl,L1,S1,F9,f1,f2⟩
 refine F9.set ?_
 clear F9
 refine Zp (k1 : Int) (l.length : Int) U U U (fun h1=>?_) (fun h1=>?_)
 ·refine WL.indexAddr (hvl.mono L1) k1 (by omega) Yv Z6 U U U U (fun p1 x1 U1 E1=>?_)
  obtain ⟨D1,C1,R1⟩:=E1
  obtain ⟨rfl,B1,B2,B3⟩:=Yj R1
  refine Zb S1 C1 [S x1.k,S x1.n,Za x1.s] Z6 U U U U U ?_
  refine Zr S1 hf.body U U U (hf.call _ _ (.agg #[S x1.k,S x1.n,Za x1.s]) x1 L1 S1.imm (List.mem_of_getElem? U1) ⟨_,U,(YP x1 B1 B2 B3)⟩) (fun w2 G2 S2 L2=>?_)
  refine WL.split (fun (h2 : (pf x1) = true)=>?_) (fun (h2 : (pf x1) = false)=>?_)
  ·exact RI S2 U (by exact (QO _ ‹_› ‹_› ‹_›).symm)
  refine Zj k1 (by have:=Zc; omega) U U U ?_
  exact BK.mk' _ ⟨k1 + 1,G2,U,(L1.trans L2),S2,(Zq U),(by omega),(by exact ZW ‹_› ‹_› ‹_›)⟩ (show l.length - (k1 + 1) < l.length - k1 by omega)
 exact RI S1 U (by exact (Q2 ‹_› (by omega)).symm)
theorem Ze4 {G : GH} {w : World} (hG : G.In w) (l : List Val) (pf : Val → Bool) (vl : Value) (hvl : Sl ValE 32 G vl l) (fid : Nat) (fcap : Array Value) (hf : FnB Tryz.prog (Is ValE) fid fcap G (fun x=>x ∈ l) pf) : CL Tryz.prog (nat_lit 122) #[vl, .func (.func fid) #[] fcap] [] w G fun _ _ r=>r = .bool (l.any pf):=by
 refine Zh ft [] Tryz.func122 U U ?_
 have hS:=St.start (X:=[]) hG
 refine Zr hS ZyY U U U (ZsJ hS.imm l pf _ hvl fid fcap (hf.up (G.le_refl))) (fun w1 G1 S1 L1=>?_)
 refine Yf .geq U .i64 (Qi pf l) 0 U U U ?_
 exact RB S1 U (by exact ZcH _ _)
end Go.Civ
set_option linter.unusedVariables false
namespace Go.Civ
open Go.Proofs Go.Shelf Go.RowKit Go.Lib
theorem ZdN (w : World) : ∀ n,Below w.heap.size w (w.drewN n)
 | 0=>Below.refl _ _
 | n + 1=>(ZdN w n).drew
def pR (r : Nat) : Bool:=decide (r < 32) || decide (126 < r)
set_option maxHeartbeats 1000000 in
theorem Zv1 (r : Nat) (W : World) : Calls Tryz.prog 177 #[.int .i32 (r : Int)] W fun e w'=>e = .returned (.bool (pR r)) ∧ ∃ q,w' = W.drewN q:=by
 by_cases h1 : r < 32 <;> by_cases h2 : 126 < r
 all_goals
  have z1 : (r : Int) < 32 ↔ r < 32:=by omega
  have z2 : (126 : Int) < (r : Int) ↔ 126 < r:=by omega
  go_enter Tryz.func177,Tryz.ntmps177
  go_wp2
  all_goals first | (exfalso; omega) | (go_ret; exact ⟨by simp [pR,h1,h2],0,rfl⟩)
set_option maxHeartbeats 2000000 in
set_option maxRecDepth 1000000 in
theorem ZlY (s : ByteArray) (w : World) :
  Calls Tryz.prog 246 #[.string s, .func (.func 177) #[] #[], .bool true] w fun e w'=>e = .returned (.int .i64 (Lib.idxFunc pR true s)) ∧ Below w.heap.size w w' ∧ w.drawn ≤ w'.drawn:=by
 have e177 : ∀ args w,(callFunc 177 args).run Tryz.prog w = .ok (.enter 177 args) w:=enters_of Tryz.func177 (by kernel_rfl) rfl
 go_enter Tryz.func246,Tryz.ntmps246
 go_wp2
 go_loopg [] s.size (fun gf wx=>∃ pos : Nat,wx.heap[w.heap.size]? = some (.stringIter s pos) ∧ Below w.heap.size w wx ∧ Lib.idxFuncFrom pR true s gf pos = Lib.idxFunc pR true s ∧ s.size ≤ pos + gf ∧ w.drawn ≤ wx.drawn)
 case atStart=>exact ⟨0,World.iter_heap w s 0,(Below.refl _ w).alloc (Nat.le_refl _) _,rfl,by omega,Nat.le_refl _⟩
 case round=>
  obtain ⟨pos,hit,hbw,hleft,hfu,hdr⟩:=hrel
  by_cases hps : pos < s.size
  ·obtain ⟨g',rfl⟩ : ∃ g',gk = g' + 1:=⟨gk - 1,by omega⟩
   have hnx : ∀ ty,(Instr.next (.pointer (some ⟨w.heap.size,0,none⟩)) true ty).run Tryz.prog wr = _:=fun ty=>Lib.run_next_any_at wr w.heap.size s pos ty hit hps
   have hwd:=Lib.width_pos s pos
   obtain ⟨R,hR⟩ : ∃ R,(Utf8.decode s pos).1 = R:=⟨_,rfl⟩
   obtain ⟨K,hK⟩ : ∃ K,(Utf8.decode s pos).2 = K:=⟨_,rfl⟩
   simp only [Lib.idxFuncFrom,hps,if_true,hR,hK] at hleft
   rw [hR,hK] at hnx
   rw [hK] at hwd
   have hit2:=Lib.iterAt_heap wr w.heap.size s pos (pos + K) hit
   have hbw2:=Lib.below_iterAt hbw (k:=w.heap.size) (Nat.le_refl _) s (pos + K)
   have hdW : w.drawn ≤ (wr.iterAt w.heap.size s (pos + K)).drawn:=hdr
   obtain ⟨W,hWd⟩ : ∃ W,wr.iterAt w.heap.size s (pos + K) = W:=⟨_,rfl⟩
   rw [hWd] at hnx hit2 hbw2 hdW
   have hltW : w.heap.size < W.heap.size:=(Array.getElem?_eq_some_iff.1 hit2).1
   have cS : Calls Tryz.prog 177 (#[.int .i32 (R : Int)] ++ #[]) W _:=Zv1 R W
   cases hsp : pR R <;> rw [hsp] at cS <;> simp only [hsp,if_true,Bool.false_eq_true,if_false] at hleft
   ·go_wp2_with (go_at_fn 177; refine cS.mono ?_; rintro e W' ⟨rfl,q,rfl⟩)
    have hbc:=ZdN W q
    go_roundg g'
    case measure=>omega
    case rel=>exact ⟨pos + K,(hbc.block _ hltW).trans hit2,(hbw2.trans (hbc.mono hbw2.size)),hleft,by omega,Nat.le_trans hdW (Nat.le_add_right _ _)⟩
   ·go_wp2_with (go_at_fn 177; refine cS.mono ?_; rintro e W' ⟨rfl,q,rfl⟩)
    have hbc:=ZdN W q
    go_ret
    exact ⟨by rw [← hleft] <;> rfl,(hbw2.trans (hbc.mono hbw2.size)),Nat.le_trans hdW (Nat.le_add_right _ _)⟩
  ·have hnx : ∀ ty,(Instr.next (.pointer (some ⟨w.heap.size,0,none⟩)) true ty).run Tryz.prog wr = _:=fun ty=>Lib.run_next_end_at wr w.heap.size s pos ty hit hps
   rw [Lib.idxFuncFrom_end pR true s gk pos hps] at hleft
   go_wp2
   go_ret
   exact ⟨by rw [← hleft] <;> rfl,hbw,hdr⟩
theorem Zv2 (n b0 b1 b2 b3 : Nat) (h : 128 ≤ b0) : 128 ≤ (Lib.decodeN n b0 b1 b2 b3).1:=by
 unfold Lib.decodeN
 repeat' split
 all_goals simp_all
 all_goals omega
theorem Zxk (s : List UInt8) (i : Nat) (c : UInt8) (h : s[i]? = some c) : (⟨s.toArray⟩ : ByteArray).get! i = c:=by
 obtain ⟨hl,he⟩:=List.getElem?_eq_some_iff.1 h
 show (s.toArray)[i]! = c
 simp [hl,he]
theorem ZnE (s : List UInt8) : ∀ (f pos : Nat),s.length ≤ pos + f → (0 ≤ Lib.idxFuncFrom pR true ⟨s.toArray⟩ f pos ↔ ¬ ∀ c ∈ s.drop pos,okC c = true)
 | 0,pos,h=>by
  have : s.drop pos = []:=List.drop_eq_nil_of_le (by omega)
  simp [Lib.idxFuncFrom,this]
 | f + 1,pos,h=>by
  have hsz : (⟨s.toArray⟩ : ByteArray).size = s.length:=by simp [ByteArray.size]
  unfold Lib.idxFuncFrom
  by_cases hp : pos < s.length
  ·obtain ⟨c,hc⟩ : ∃ c,s[pos]? = some c:=⟨_,List.getElem?_eq_getElem hp⟩
   have hd : s.drop pos = c :: s.drop (pos + 1):=by
    rw [List.drop_eq_getElem_cons hp]; rw [List.getElem?_eq_getElem hp] at hc; rw [Option.some.inj hc]
   rw [if_pos (by rw [hsz]; exact hp),hd,Lib.decode_at,Zxk s pos c hc]
   by_cases hb : c.toNat < 128
   ·rw [show Lib.decodeN ((⟨s.toArray⟩ : ByteArray).size - pos) c.toNat ((⟨s.toArray⟩ : ByteArray).get! (pos + 1)).toNat ((⟨s.toArray⟩ : ByteArray).get! (pos + 2)).toNat ((⟨s.toArray⟩ : ByteArray).get! (pos + 3)).toNat = (c.toNat,1) from by simp [Lib.decodeN,hb]]
    have ih:=ZnE s f (pos + 1) (by omega)
    by_cases ho : okC c = true
    ·have : pR c.toNat = false:=by simp [okC,pR] at *; omega
     simp only [this]
     rw [if_neg (by simp),ih]; simp [ho]
    ·have : pR c.toNat = true:=by simp [okC,pR] at *; omega
     simp only [this,if_true]
     simp [ho]
   ·have h2:=Zv2 ((⟨s.toArray⟩ : ByteArray).size - pos) c.toNat ((⟨s.toArray⟩ : ByteArray).get! (pos + 1)).toNat ((⟨s.toArray⟩ : ByteArray).get! (pos + 2)).toNat ((⟨s.toArray⟩ : ByteArray).get! (pos + 3)).toNat (by omega)
    have h3 : pR (Lib.decodeN ((⟨s.toArray⟩ : ByteArray).size - pos) c.toNat ((⟨s.toArray⟩ : ByteArray).get! (pos + 1)).toNat ((⟨s.toArray⟩ : ByteArray).get! (pos + 2)).toNat ((⟨s.toArray⟩ : ByteArray).get! (pos + 3)).toNat).1 = true:=by simp [pR]; omega
    have ho : okC c = false:=by simp [okC]; omega
    rw [if_pos h3]; simp [ho]
  ·have : s.drop pos = []:=List.drop_eq_nil_of_le (by omega)
   rw [if_neg (by rw [hsz]; exact hp)]
   simp [this]
theorem Zxl (s : List UInt8) : decide (0 ≤ Lib.idxFunc pR true ⟨s.toArray⟩) = !s.all okC:=by
 have h:=ZnE s s.length 0 (by omega)
 unfold Lib.idxFunc
 have hsz : (⟨s.toArray⟩ : ByteArray).size = s.length:=by simp [ByteArray.size]
 rw [hsz,Bool.eq_iff_iff]
 simp only [decide_eq_true_eq,h,List.drop_zero,Bool.not_eq_true',← Bool.not_eq_true,List.all_eq_true]
set_option maxHeartbeats 2000000 in
theorem Zi2 (s : ByteArray) (w : World) :
  Calls Tryz.prog 212 #[.string s, .func (.func 177) #[] #[]] w fun e w'=>e = .returned (.int .i64 (Lib.idxFunc pR true s)) ∧ Below w.heap.size w w' ∧ w.drawn ≤ w'.drawn:=by
 have cI:=ZlY s w
 have e246 : ∀ args w,(callFunc 246 args).run Tryz.prog w = .ok (.enter 246 args) w:=enters_of Tryz.func246 (by kernel_rfl) rfl
 go_enter Tryz.func212,Tryz.ntmps212
 go_wp2_with (go_at_fn 246; refine cI.mono ?_; rintro e w' ⟨rfl,hb⟩)
 go_ret
 exact ⟨rfl,hb⟩
set_option maxHeartbeats 2000000 in
theorem Zi3 (s : ByteArray) (w : World) :
  Calls Tryz.prog 176 #[.string s, .func (.func 177) #[] #[]] w fun e w'=>e = .returned (.bool (decide (0 ≤ Lib.idxFunc pR true s))) ∧ Below w.heap.size w w' ∧ w.drawn ≤ w'.drawn:=by
 have cI:=Zi2 s w
 have e212 : ∀ args w,(callFunc 212 args).run Tryz.prog w = .ok (.enter 212 args) w:=enters_of Tryz.func212 (by kernel_rfl) rfl
 obtain ⟨I,hI⟩ : ∃ I,Lib.idxFunc pR true s = I:=⟨_,rfl⟩
 rw [hI] at cI ⊢
 go_enter Tryz.func176,Tryz.ntmps176
 go_wp2_with (go_at_fn 212; refine cI.mono ?_; rintro e w' ⟨rfl,hb⟩)
 go_ret
 exact ⟨rfl,hb⟩
theorem ZlZ {w w' : World} {G : GH} (hG : G.In w) (h : Below w.heap.size w w') (hd : w.drawn ≤ w'.drawn) : Res [] w G w' G:=
 ⟨⟨h.os,h.tape,h.output,hd,h.size,fun k hk _=>h.block k hk⟩,G.le_refl,fun _ _=>rfl,fun b o hb=>(h.block b (hG.lt hb)).trans (hG b o hb)⟩
theorem Znt {G : GH} {w : World} (hG : G.In w) (s : List UInt8) : Calls Tryz.prog (nat_lit 176) #[Za s, .func (.func 177) #[] #[]] w fun e w'=>∃ r G',e = .returned r ∧ Res [] w G w' G' ∧ r = .bool (!s.all okC):=
 (Zi3 ⟨s.toArray⟩ w).mono fun e w' ⟨he,hb,hd⟩=>⟨_,G,he,ZlZ hG hb hd,by rw [Zxl]⟩
end Go.Civ
namespace Go.Civ
open Go.RowKit
set_option linter.unusedVariables false
def Zgn (P : Program) : List ResultVar → Env → World → List Value → Prop
 | [],_,_,vs=>vs = []
 | .tmp t :: r,ρ,w,vs=>∃ vs',vs = ρ t :: vs' ∧ Zgn P r ρ w vs'
 | .cell a t :: r,ρ,w,vs=>∃ v vs' p,vs = v :: vs' ∧ ρ a = .pointer (some p) ∧ (loadVar t p).run P w = .ok v w ∧ Zgn P r ρ w vs'
def tup : List Value → Value
 | [v]=>v
 | vs=> .tuple vs.toArray
def Z0b (P : Program) (rs : List ResultVar) (R : Ending → World → Prop) : Exit → Env → World → Prop
 | .normal,ρ,w | .ret,ρ,w=>∃ vs,Zgn P rs ρ w vs ∧ R (.returned (tup vs)) w
 | _,_,_=>False
section
variable {P : Program} {N : Nat} {Q : Exit → Env → World → Prop} {ρ : Env} {w : World}
theorem ZsS (rs : List ResultVar) (tmps : Array Value) {vs : List Value} (h : ∀ t,tmps.getD t undef = ρ t) (hv : Zgn P rs ρ w vs) :
  (rs.mapM (rv tmps)).run P w = .ok vs w:=by
 induction rs generalizing vs with
 | nil=>simp only [Zgn] at hv; subst hv; simp
 | cons r rs ih=>
  cases r with
  | tmp t=>
   obtain ⟨vs',rfl,h1⟩:=hv
   have:=ih h1
   simp only [List.mapM_cons]
   simp only [Sem.run_bind,this,Result.andThen,Sem.run_pure,rv,h]
  | cell a t=>
   obtain ⟨v,vs',p,rfl,h1,h2,h3⟩:=hv
   have:=ih h3
   simp only [List.mapM_cons]
   simp only [Sem.run_bind,this,Result.andThen,Sem.run_pure,rv,h,h1,asAddr,h2]
theorem Zgo {fn : Func} {a : Act} {vs : List Value} (ha : Fits N a ρ) (hv : Zgn P fn.results.toList ρ w vs) : (results fn a.tmps).run P w = .ok (tup vs) w:=by
 have h:=ZsS fn.results.toList a.tmps ha.get hv
 rw [Zib,Array.mapM_eq_mapM_toList,Sem.run_bind,Sem.run_map,h]
 match vs with
 | []=>simp [Result.andThen,tup]
 | [x]=>simp [Result.andThen,tup]
 | x :: y :: z=>simp [Result.andThen,tup]
theorem Zmj {f : FuncId} {fn : Func} {c : Code} {args : Array Value} {R : Ending → World → Prop}
  (hf : P.funcs[f]? = some fn) (hb : fn.body = some c) (hN : fn.ntmps = N) (hle : Nat.ble args.size N = true)
  (h : WC P N c (Z0b P fn.results.toList R) (fun t=>args.getD t undef) w) : Calls P f args w R:=by
 refine calls_of_wp hf hb ?_
 have hle' : args.size ≤ N:=by simpa using hle
 have ha : Fits N { tmps:=args ++ Array.replicate (fn.ntmps - args.size) undef,defers:=[] } (fun t=>args.getD t undef):=by
  refine ⟨by simp [hN]; omega,fun t=>?_,rfl⟩
  simp only [Array.getD_eq_getD_getElem?,Array.getElem?_append,Array.getElem?_replicate,hN]
  split
  ·rfl
  ·rename_i hlt
   rw [Array.getElem?_eq_none (xs:=args) (by omega)]
   split <;> rfl
 refine wp_mono (h _ ha) ?_
 rintro e a' w' ⟨ρ',hf',hq⟩
 cases e with
 | normal=>obtain ⟨v,hv,hR⟩:=hq; exact ⟨hf'.defers,_,Zgo hf' hv,hR⟩
 | ret=>obtain ⟨v,hv,hR⟩:=hq; exact ⟨hf'.defers,_,Zgo hf' hv,hR⟩
 | exit id=>exact hq.elim
 | goto l=>exact hq.elim
 | panic ch=>exact hq.elim
 | outgrown=>exact hq.elim
structure RQR (P : Program) (rs : List ResultVar) (R : Ending → World → Prop) (ρ : Env) (w : World) : Prop where
 h : ∃ vs,Zgn P rs ρ w vs ∧ R (.returned (tup vs)) w
def Zzr (P : Program) (rs : List ResultVar) (R : Ending → World → Prop) : Exit → Env → World → Prop
 | .normal,ρ,w=>RQR P rs R ρ w
 | .ret,ρ,w=>RQR P rs R ρ w
 | _,_,_=>False
theorem Y2 {f : FuncId} {fn : Func} {c : Code} {args : Array Value} {R : Ending → World → Prop} (F : FTab P) (J : List Nat)
  (hf : P.funcs[f]? = some fn) (hb : fn.body = some c) (hle : Nat.ble args.size fn.ntmps = true)
  (h : goC F fn.ntmps J c (Zzr P fn.results.toList R) (fun t=>args.getD t undef) w) (hok : okD fn.ntmps c = true:=by kernel_rfl) : Calls P f args w R:=by
 refine Zmj (N:=fn.ntmps) hf hb rfl hle ((goC.ok hok h).mono fun e ρ w hq=>?_)
 cases e with
 | normal=>exact hq.h
 | ret=>exact hq.h
 | _=>exact hq.elim
theorem Xr {rs : List ResultVar} {w0 : World} {X : List Nat} {G0 G : GH} {L : Own} {B : GH → World → Value → Prop} (vs : List Value) (hS : St w0 X G0 G L w) (hv : Zgn P rs ρ w vs) (hB : B G w (tup vs)) :
  RQR P rs (fun e w'=>∃ r G',e = .returned r ∧ Res X w0 G0 w' G' ∧ B G' w' r) ρ w:=⟨vs,hv,_,G,rfl,hS.res,hB⟩
end
section
variable {P : Program} {w0 w w' : World} {X : List Nat} {G0 G G' : GH} {L : Own} {o : OB}
theorem St.loadA {t : TypeId} {ti : TI} (hS : St w0 X G0 G L w) (i : Nat) (b : Nat) (e : TypeId) (cs : List Value) (off : Nat) (vs : List Value) (hi : L[i]? = some (some (b,e,cs))) (hv : (cs.drop off).take ti.size = vs) (hn : vs.length = ti.size)
  (ht : Yi P t = some ti) (ha : ti.agg = true) : (loadVar t ⟨b,off,none⟩).run P w = .ok (.agg vs.toArray) w:=by
 have hc : ∀ (j : Nat) v,vs[j]? = some v → w.cell? ((⟨b,off,none⟩ : Addr).add j) = some v:=fun j v h=>by
  rw [YJ _ _ rfl]
  refine hS.cell i hi ?_
  subst hv
  rw [List.getElem?_take] at h
  split at h
  ·rwa [List.getElem?_drop] at h
  ·cases h
 simp [loadVar,Zdz ht,ha,X8 ht,ZcF hn hc,Result.andThen]
theorem St.loadC {t : TypeId} {ti : TI} {p : Addr} {cs : List Value} (hS : St w0 X G0 G L w) (hc : XC G p cs) (ht : Yi P t = some ti) (ha : ti.agg = true) (hn : cs.length = ti.size) : (loadVar t p).run P w = .ok (.agg cs.toArray) w:=by
 simp [loadVar,Zdz ht,ha,X8 ht,ZcF hn (fun _ _ h=>hc.cell hS.imm h),Result.andThen]
theorem St.sealAt {b : Nat} {e : TypeId} {cs : List Value} (h : St w0 X G0 G L w) (i : Nat) (hi : L[i]? = some (some (b,e,cs))) (hb : w0.heap.size ≤ b) : ∃ G',G.le G' ∧ XC G' ⟨b,0,none⟩ cs ∧ St w0 X G0 G' (L.set i none) w:=by
 have f:=h.freeze i (b:=b) (e:=e) (cs:=cs) hi hb
 have hG : G b = none:=(h.sep i _ hi).2
 exact ⟨_,G.add_le _ hG,⟨rfl,_,_,_,GH.add_at _ _ _,fun j v hv=>by simpa using hv⟩,f⟩
theorem St.sealSlAt {α : Type} {E : Enc α} {by_ : Nat} {l : List α} {b : Nat} {e : TypeId} {cs : List Value} (h : St w0 X G0 G L w) (i : Nat) (hi : L[i]? = some (some (b,e,cs))) (hb : w0.heap.size ≤ b) (hf : XA E G l cs) {n : Nat} (hn : n = l.length) (hby : n * by_ ≤ reach) (hlen : n ≤ reach) :
  ∃ G',G.le G' ∧ Sl E by_ G' (.slice (some ⟨b,0,none⟩) n n) l ∧ St w0 X G0 G' (L.set i none) w:=by
 obtain ⟨G',h1,h2,h3⟩:=h.sealAt i hi hb
 subst hn
 refine ⟨G',h1,⟨some ⟨b,0,none⟩,l.length,rfl,Nat.le_refl _,hby,hlen,fun i x hx=>⟨_,rfl,rfl,?_⟩⟩,h3⟩
 exact (hf.mono h1).rows h2 i x hx
theorem St.callRowR (h : St w0 X G0 G L w) (i : Nat) (hi : L[i]? = some o) {o' : OB} (r : Res (QU o) w G w' G') {α : Type} {E : Enc α} {by_ : Nat} {e : TypeId} {v v' : Value} {l l' : List α}
  (h1 : ZS E by_ e G v l o) (h2 : ZS E by_ e G' v' l' o') (hl : XP w' G' o') (hb : QU o' = QU o) : St w0 X G0 G' (L.set i o') w':=by
 cases o with
 | none=>
  cases o' with
  | none=>exact (h.call r).drop i
  | some p=>simp [QU] at hb
 | some p=>
  cases o' with
  | none=>simp [QU] at hb
  | some q=>
   obtain ⟨b,e1,cs⟩:=p
   obtain ⟨b',e2,cs'⟩:=q
   simp [QU] at hb
   subst hb
   have e1e : e1 = e:=by rcases h1 with ⟨h0,_⟩ | ⟨_,_,_,_,h0,_⟩ <;> simp at h0; exact h0.2.1
   have e2e : e2 = e:=by rcases h2 with ⟨h0,_⟩ | ⟨_,_,_,_,h0,_⟩ <;> simp at h0; exact h0.2.1
   subst e1e; subst e2e
   exact h.callX i hi cs' r (hl _ rfl).1
end
section
variable {P : Program} {Q : Exit → Env → World → Prop} {ρ : Env} {w : World} {ops : Array Oper} {rest : List Oper} {K : Env → World → Prop}
variable {d : Nat} {ty : TypeId} {pos : String} {af : Array Edge} {g : Option (Nat × Bool)}
end
end Go.Civ
namespace Go.Civ
open Go.RowKit
set_option linter.unusedVariables false
theorem Sl.takeV {α : Type} {E : Enc α} {by_ : Nat} {G : GH} {a : Option Addr} {n len cap : Nat} {l : List α} (h : Sl E by_ G (.slice a len cap) l) (hn : n ≤ l.length) : Sl E by_ G (sliced a 0 n cap E.n) (l.take n):=by
 obtain ⟨a',cap',e,h2,h3,h4,h5⟩:=h
 simp only [Value.slice.injEq] at e
 obtain ⟨rfl,rfl,rfl⟩:=e
 have hl : (l.take n).length = n:=by rw [List.length_take]; omega
 have ev : sliced a 0 n cap E.n = .slice a n cap:=by
  unfold sliced
  cases a <;> simp [Addr.add]
 rw [ev]
 refine ⟨a,cap,by rw [hl],by omega,?_,by omega,fun i x hx=>?_⟩
 ·rw [hl]; exact Nat.le_trans (Nat.mul_le_mul_right _ hn) h3
 ·rw [List.getElem?_take] at hx
  split at hx
  ·exact h5 i x hx
  ·cases hx
theorem Sl.dropV {α : Type} {E : Enc α} {by_ : Nat} {G : GH} {a : Option Addr} {n len cap : Nat} {l : List α} (h : Sl E by_ G (.slice a len cap) l) (hn : n ≤ l.length) : Sl E by_ G (sliced a n len cap E.n) (l.drop n):=by
 obtain ⟨a',cap',e,h2,h3,h4,h5⟩:=h
 simp only [Value.slice.injEq] at e
 obtain ⟨rfl,rfl,rfl⟩:=e
 have hl : (l.drop n).length = l.length - n:=by rw [List.length_drop]
 unfold sliced
 by_cases hc : cap = n
 ·rw [if_pos hc]
  refine ⟨a,cap - n,by rw [hl],by omega,?_,by omega,fun i x hx=>?_⟩
  ·rw [hl]; exact Nat.le_trans (Nat.mul_le_mul_right _ (by omega)) h3
  ·have:=(List.getElem?_eq_some_iff.1 hx).1
   rw [hl] at this; omega
 ·rw [if_neg hc]
  refine ⟨a.map fun p=>p.add (n * E.n),cap - n,by rw [hl],by omega,?_,by omega,fun i x hx=>?_⟩
  ·rw [hl]; exact Nat.le_trans (Nat.mul_le_mul_right _ (by omega)) h3
  ·rw [List.getElem?_drop] at hx
   obtain ⟨p,rfl,hp,hel⟩:=h5 (n + i) x hx
   refine ⟨p.add (n * E.n),rfl,by rw [YJ _ _ hp],?_⟩
   have e1 : (p.add (n * E.n)).add (i * E.n) = p.add ((n + i) * E.n):=by
    rw [YJ _ _ (by rw [YJ _ _ hp]),YJ _ _ hp,YJ _ _ hp,Nat.add_mul,Nat.add_assoc]
   rw [e1]; exact hel
section
variable {P : Program} {Q : Exit → Env → World → Prop} {ρ : Env} {w : World} {ops : Array Oper} {rest : List Oper} {K : Env → World → Prop}
variable {d : Nat} {ty : TypeId} {pos : String} {af : Array Edge} {g : Option (Nat × Bool)} {G : GH}
theorem ZgO {t e : TypeId} (hu : P.underlying t = some (.slice e)) : P.elem t = e:=by simp [Program.elem,hu]
theorem Y3 {α : Type} {E : Enc α} {by_ : Nat} {t e : TypeId} {x hi : Operand} {v : Value} {l : List α} {ti : TI} (hs : Sl E by_ G v l) (n : Nat) (hn : n ≤ l.length) (hu : P.underlying t = some (.slice e)) (ht : Yi P e = some ti) (hE : ti.size = E.n)
  (hw : Region.wanted ⟨some d, .slice t x none (some hi) none,ty,pos,af,g⟩ (Zv ops ρ) = true) (hx : ev ρ x = v) (hh : ev ρ hi = .int .i64 (n : Int))
  (k : ∀ v',Sl E by_ G v' (l.take n) → K (ZB ρ d v') w) : OW P ops ⟨some d, .slice t x none (some hi) none,ty,pos,af,g⟩ ρ w K:=by
 obtain ⟨a,cap,rfl,h2,_⟩:=id hs
 have he:=ZgO hu
 have hu' : P.underlying t = some (.slice (P.elem t)):=by rw [he]; exact hu
 have run : (Instr.sliceAt t (.slice a l.length cap) none (some (.int .i64 (n : Int))) none).run P w = .ok (sliced a 0 n cap E.n) w:=by
  rw [run_sliceAt_slice w t _ _ _ _ hu',run_slice_h w t a l.length cap hu' .i64 (n : Int) (by omega) (by omega),he,X8 ht,hE]; rfl
 refine WL.val hw ?_ rfl (k _ (hs.takeV hn))
 simp [execOp,hx,hh,run,Result.andThen]
theorem QL {α : Type} {E : Enc α} {by_ : Nat} {t e : TypeId} {x lo : Operand} {v : Value} {l : List α} {ti : TI} (hs : Sl E by_ G v l) (n : Nat) (hn : n ≤ l.length) (hu : P.underlying t = some (.slice e)) (ht : Yi P e = some ti) (hE : ti.size = E.n)
  (hw : Region.wanted ⟨some d, .slice t x (some lo) none none,ty,pos,af,g⟩ (Zv ops ρ) = true) (hx : ev ρ x = v) (hh : ev ρ lo = .int .i64 (n : Int))
  (k : ∀ v',Sl E by_ G v' (l.drop n) → K (ZB ρ d v') w) : OW P ops ⟨some d, .slice t x (some lo) none none,ty,pos,af,g⟩ ρ w K:=by
 obtain ⟨a,cap,rfl,h2,_⟩:=id hs
 have he:=ZgO hu
 have hu' : P.underlying t = some (.slice (P.elem t)):=by rw [he]; exact hu
 have run : (Instr.sliceAt t (.slice a l.length cap) (some (.int .i64 (n : Int))) none none).run P w = .ok (sliced a n l.length cap E.n) w:=by
  rw [run_sliceAt_slice w t _ _ _ _ hu',run_slice_l w t a l.length cap hu' .i64 (n : Int) (by omega) (by omega),he,X8 ht,hE]; rfl
 refine WL.val hw ?_ rfl (k _ (hs.dropV hn))
 simp [execOp,hx,hh,run,Result.andThen]
theorem ZeP (op : BinOp) (t : TypeId) (x y : Operand) (a b : Bool) : (eqGuard op t x y (.bool a) (.bool b)).run P w = .ok () w:=by
 unfold eqGuard; split <;> simp
theorem X9 {t ty' : TypeId} {x y : Operand} (a b : Bool) (hu : P.underlying t = some .bool)
  (hw : Region.wanted ⟨some d, .binOp .eql t x y ty',ty,pos,af,g⟩ (Zv ops ρ) = true) (hx : ev ρ x = .bool a) (hy : ev ρ y = .bool b)
  (kk : K (ZB ρ d (.bool (a == b))) w) : OW P ops ⟨some d, .binOp .eql t x y ty',ty,pos,af,g⟩ ρ w K:=by
 refine WL.val hw ?_ rfl kk
 simp [execOp,hx,hy,ZeP,run_eql_bool w t a b hu,Result.andThen]
theorem ZaD {t ty' : TypeId} {x y : Operand} (a b : Bool) (hu : P.underlying t = some .bool)
  (hw : Region.wanted ⟨some d, .binOp .neq t x y ty',ty,pos,af,g⟩ (Zv ops ρ) = true) (hx : ev ρ x = .bool a) (hy : ev ρ y = .bool b)
  (kk : K (ZB ρ d (.bool (!(a == b)))) w) : OW P ops ⟨some d, .binOp .neq t x y ty',ty,pos,af,g⟩ ρ w K:=by
 refine WL.val hw ?_ rfl kk
 simp [execOp,hx,hy,ZeP,run_neq_bool w t a b hu,Result.andThen]
end
section
variable {w0 w w' : World} {X : List Nat} {G0 G G' : GH} {L : Own} {o o' : OB}
def Zmk (w w' : World) (G' : GH) (o o' : OB) : Prop:=∀ p,o' = some p → (w.heap.size ≤ p.1 ∨ p.1 ∈ QU o) ∧ w'.heap[p.1]? = some (Zbb p.2) ∧ G' p.1 = none
theorem St.rowOut (h : St w0 (QU o) G0 G L w) (i : Nat) (hi : L[i]? = some o') : Zmk w0 w G o o':=fun p hp=>by
 subst hp; exact ⟨(h.sep i p hi).1,h.own i p hi,(h.sep i p hi).2⟩
theorem St.callRowO (h : St w0 X G0 G L w) (i : Nat) (hi : L[i]? = some o) (r : Res (QU o) w G w' G') (ho : Zmk w w' G' o o') : St w0 X G0 G' (L.set i o') w':=by
 have hil : i < L.length:=(List.getElem?_eq_some_iff.1 hi).1
 have inb : ∀ b,b ∈ QU o → ∃ p,o = some p ∧ p.1 = b:=fun b hb=>by
  cases o with
  | none=>simp [QU] at hb
  | some p=>simp [QU] at hb; exact ⟨p,rfl,hb.symm⟩
 have look : ∀ (j : Nat) p,(L.set i o')[j]? = some (some p) → (j = i ∧ o' = some p) ∨ (j ≠ i ∧ L[j]? = some (some p) ∧ p.1 ∉ QU o):=fun j p hj=>by
  rw [List.getElem?_set] at hj
  split at hj
  ·rename_i hji; subst hji; first | exact .inl ⟨rfl,Option.some.inj hj⟩ | (rw [if_pos hil] at hj; exact .inl ⟨rfl,Option.some.inj hj⟩)
  ·rename_i hji
   refine .inr ⟨Ne.symm hji,hj,fun hb=>?_⟩
   obtain ⟨q,rfl,e⟩:=inb _ hb
   exact hji (h.nd _ _ _ _ hi hj e)
 refine ⟨h.kept.step r.kept (fun y hy=>?_),h.le.trans r.le,fun b hb=>(r.new b (Nat.lt_of_lt_of_le hb h.kept.size)).trans (h.new b hb),r.imm,fun j p hp=>?_,fun j p hp=>?_,fun j k p q hp hq he=>?_⟩
 ·obtain ⟨q,rfl,rfl⟩:=inb _ hy; exact (h.sep _ _ hi).1
 ·rcases look j p hp with ⟨rfl,e⟩ | ⟨_,hp,hne⟩
  ·exact (ho p e).2.1
  ·rw [r.kept.block _ (h.ownLt hp) hne]; exact h.own j p hp
 ·rcases look j p hp with ⟨rfl,e⟩ | ⟨_,hp,hne⟩
  ·refine ⟨?_,(ho p e).2.2⟩
   rcases (ho p e).1 with k | k
   ·exact .inl (Nat.le_trans h.kept.size k)
   ·obtain ⟨q,rfl,e2⟩:=inb _ k; rw [← e2]; exact (h.sep _ _ hi).1
  ·exact ⟨(h.sep j p hp).1,by rw [r.new _ (h.ownLt hp)]; exact (h.sep j p hp).2⟩
 ·rcases look j p hp with ⟨rfl,e⟩ | ⟨_,hp2,hne⟩ <;> rcases look k q hq with ⟨rfl,e2⟩ | ⟨_,hq2,hne'⟩
  ·rfl
  ·exfalso
   rcases (ho p e).1 with k1 | k1
   ·have:=h.ownLt hq2; omega
   ·rw [he] at k1; exact hne' k1
  ·exfalso
   rcases (ho q e2).1 with k1 | k1
   ·have:=h.ownLt hp2; omega
   ·rw [← he] at k1; exact hne k1
  ·exact h.nd _ _ _ _ hp2 hq2 he
end
end Go.Civ
