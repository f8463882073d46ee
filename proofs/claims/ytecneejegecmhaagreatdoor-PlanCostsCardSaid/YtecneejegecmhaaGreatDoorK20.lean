/- Lemmas. -/
import Derived.Test.YtecneejegecmhaaGreatDoorK13
import Derived.Test.YtecneejegecmhaaGreatDoorK19
import Derived.Shelf.GgClosure.StringsRunes
import Derived.Shelf.Small.Strs
import Derived.Ground.NamesProg
import Derived.Shelf.Strings.OnBuilder
import Derived.Shelf.Strings.Replace
import Derived.Shelf.Strings.Prefix
import Derived.Shelf.Strconv.Itoa3
set_option linter.unusedVariables false
set_option linter.unusedSimpArgs false
set_option linter.unnecessarySimpa false
set_option linter.unusedVariables false
namespace Go.Civ
open Go.Proofs Go.Shelf Go.RowKit Go.Lib
theorem Zd6 (w : World) : ∀ n,Below w.heap.size w (w.drewN n)
 | 0=>Below.refl _ _
 | n + 1=>(Zd6 w n).drew
def pR (r : Nat) : Bool:=decide (r < 32) || decide (126 < r)
set_option maxHeartbeats 1000000 in
theorem Zu8 (r : Nat) (W : World) : Calls Tryz.prog 224 #[.int .i32 (r : Int)] W fun e w'=>e = .returned (.bool (pR r)) ∧ ∃ q,w' = W.drewN q:=by
 by_cases h1 : r < 32 <;> by_cases h2 : 126 < r
 all_goals
  have z1 : (r : Int) < 32 ↔ r < 32:=by omega
  have z2 : (126 : Int) < (r : Int) ↔ 126 < r:=by omega
  go_enter Tryz.func224,Tryz.ntmps224
  go_wp2
  all_goals first | (exfalso; omega) | (go_ret; exact ⟨by simp [pR,h1,h2],0,rfl⟩)
set_option maxHeartbeats 2000000 in
set_option maxRecDepth 1000000 in
theorem ZlE (s : ByteArray) (w : World) :
  Calls Tryz.prog 236 #[.string s, .func (.func 224) #[] #[], .bool true] w fun e w'=>e = .returned (.int .i64 (Lib.idxFunc pR true s)) ∧ Below w.heap.size w w' ∧ w.drawn ≤ w'.drawn:=by
 have e224 : ∀ args w,(callFunc 224 args).run Tryz.prog w = .ok (.enter 224 args) w:=enters_of Tryz.func224 (by kernel_rfl) rfl
 go_enter Tryz.func236,Tryz.ntmps236
 go_wp2
 go_loopg [] s.size (fun gf wx=>∃ pos : Nat,wx.heap[w.heap.size]? = some (.stringIter s pos) ∧ Below w.heap.size w wx ∧ Lib.idxFuncFrom pR true s gf pos = Lib.idxFunc pR true s ∧ s.size ≤ pos + gf ∧ w.drawn ≤ wx.drawn)
 case atStart=>exact ⟨0,World.iter_heap w s 0,(Below.refl _ w).alloc (Nat.le_refl _) _,rfl,by omega,Nat.le_refl _⟩
 case round=>
  obtain ⟨pos,hit,hbw,hleft,hfu,hdr⟩:=hrel
  by_cases hps : pos < s.size
  ·obtain ⟨g',rfl⟩ : ∃ g',gk = g' + 1:=⟨gk - 1,by omega⟩
   have hnx : ∀ ty,(Instr.next (.pointer (some ⟨w.heap.size,0,none⟩)) true ty).run Tryz.prog wr = _:=fun ty=>Lib.run_next_any_at wr w.heap.size s pos ty hit hps
   have hwd:=Lib.width_pos s pos
   obtain ⟨R,hR⟩ : ∃ R,(Utf8.decode s pos).1 = R:=⟨_,rfl⟩
   obtain ⟨K,hK⟩ : ∃ K,(Utf8.decode s pos).2 = K:=⟨_,rfl⟩
   simp only [Lib.idxFuncFrom,hps,if_true,hR,hK] at hleft
   rw [hR,hK] at hnx
   rw [hK] at hwd
   have hit2:=Lib.iterAt_heap wr w.heap.size s pos (pos + K) hit
   have hbw2:=Lib.below_iterAt hbw (k:=w.heap.size) (Nat.le_refl _) s (pos + K)
   have hdW : w.drawn ≤ (wr.iterAt w.heap.size s (pos + K)).drawn:=hdr
   obtain ⟨W,hWd⟩ : ∃ W,wr.iterAt w.heap.size s (pos + K) = W:=⟨_,rfl⟩
   rw [hWd] at hnx hit2 hbw2 hdW
   have hltW : w.heap.size < W.heap.size:=(Array.getElem?_eq_some_iff.1 hit2).1
   have cS : Calls Tryz.prog 224 (#[.int .i32 (R : Int)] ++ #[]) W _:=Zu8 R W
   cases hsp : pR R <;> rw [hsp] at cS <;> simp only [hsp,if_true,Bool.false_eq_true,if_false] at hleft
   ·go_wp2_with (go_at_fn 224; refine cS.mono ?_; rintro e W' ⟨rfl,q,rfl⟩)
    have hbc:=Zd6 W q
    go_roundg g'
    case measure=>omega
    case rel=>exact ⟨pos + K,(hbc.block _ hltW).trans hit2,(hbw2.trans (hbc.mono hbw2.size)),hleft,by omega,Nat.le_trans hdW (Nat.le_add_right _ _)⟩
   ·go_wp2_with (go_at_fn 224; refine cS.mono ?_; rintro e W' ⟨rfl,q,rfl⟩)
    have hbc:=Zd6 W q
    go_ret
    exact ⟨by rw [← hleft] <;> rfl,(hbw2.trans (hbc.mono hbw2.size)),Nat.le_trans hdW (Nat.le_add_right _ _)⟩
  ·have hnx : ∀ ty,(Instr.next (.pointer (some ⟨w.heap.size,0,none⟩)) true ty).run Tryz.prog wr = _:=fun ty=>Lib.run_next_end_at wr w.heap.size s pos ty hit hps
   rw [Lib.idxFuncFrom_end pR true s gk pos hps] at hleft
   go_wp2
   go_ret
   exact ⟨by rw [← hleft] <;> rfl,hbw,hdr⟩
theorem Zu9 (n b0 b1 b2 b3 : Nat) (h : 128 ≤ b0) : 128 ≤ (Lib.decodeN n b0 b1 b2 b3).1:=by
 unfold Lib.decodeN
 repeat' split
 all_goals simp_all
 all_goals omega
theorem Zxx (s : List UInt8) (i : Nat) (c : UInt8) (h : s[i]? = some c) : (⟨s.toArray⟩ : ByteArray).get! i = c:=by
 obtain ⟨hl,he⟩:=List.getElem?_eq_some_iff.1 h
 show (s.toArray)[i]! = c
 simp [hl,he]
theorem ZmT (s : List UInt8) : ∀ (f pos : Nat),s.length ≤ pos + f → (0 ≤ Lib.idxFuncFrom pR true ⟨s.toArray⟩ f pos ↔ ¬ ∀ c ∈ s.drop pos,okC c = true)
 | 0,pos,h=>by
  have : s.drop pos = []:=List.drop_eq_nil_of_le (by omega)
  simp [Lib.idxFuncFrom,this]
 | f + 1,pos,h=>by
  have hsz : (⟨s.toArray⟩ : ByteArray).size = s.length:=by simp [ByteArray.size]
  unfold Lib.idxFuncFrom
  by_cases hp : pos < s.length
  ·obtain ⟨c,hc⟩ : ∃ c,s[pos]? = some c:=⟨_,List.getElem?_eq_getElem hp⟩
   have hd : s.drop pos = c :: s.drop (pos + 1):=by
    rw [List.drop_eq_getElem_cons hp]; rw [List.getElem?_eq_getElem hp] at hc; rw [Option.some.inj hc]
   rw [if_pos (by rw [hsz]; exact hp),hd,Lib.decode_at,Zxx s pos c hc]
   by_cases hb : c.toNat < 128
   ·rw [show Lib.decodeN ((⟨s.toArray⟩ : ByteArray).size - pos) c.toNat ((⟨s.toArray⟩ : ByteArray).get! (pos + 1)).toNat ((⟨s.toArray⟩ : ByteArray).get! (pos + 2)).toNat ((⟨s.toArray⟩ : ByteArray).get! (pos + 3)).toNat = (c.toNat,1) from by simp [Lib.decodeN,hb]]
    have ih:=ZmT s f (pos + 1) (by omega)
    by_cases ho : okC c = true
    ·have : pR c.toNat = false:=by simp [okC,pR] at *; omega
     simp only [this]
     rw [if_neg (by simp),ih]; simp [ho]
    ·have : pR c.toNat = true:=by simp [okC,pR] at *; omega
     simp only [this,if_true]
     simp [ho]
   ·have h2:=Zu9 ((⟨s.toArray⟩ : ByteArray).size - pos) c.toNat ((⟨s.toArray⟩ : ByteArray).get! (pos + 1)).toNat ((⟨s.toArray⟩ : ByteArray).get! (pos + 2)).toNat ((⟨s.toArray⟩ : ByteArray).get! (pos + 3)).toNat (by omega)
    have h3 : pR (Lib.decodeN ((⟨s.toArray⟩ : ByteArray).size - pos) c.toNat ((⟨s.toArray⟩ : ByteArray).get! (pos + 1)).toNat ((⟨s.toArray⟩ : ByteArray).get! (pos + 2)).toNat ((⟨s.toArray⟩ : ByteArray).get! (pos + 3)).toNat).1 = true:=by simp [pR]; omega
    have ho : okC c = false:=by simp [okC]; omega
    rw [if_pos h3]; simp [ho]
  ·have : s.drop pos = []:=List.drop_eq_nil_of_le (by omega)
   rw [if_neg (by rw [hsz]; exact hp)]
   simp [this]
theorem Zxy (s : List UInt8) : decide (0 ≤ Lib.idxFunc pR true ⟨s.toArray⟩) = !s.all okC:=by
 have h:=ZmT s s.length 0 (by omega)
 unfold Lib.idxFunc
 have hsz : (⟨s.toArray⟩ : ByteArray).size = s.length:=by simp [ByteArray.size]
 rw [hsz,Bool.eq_iff_iff]
 simp only [decide_eq_true_eq,h,List.drop_zero,Bool.not_eq_true',← Bool.not_eq_true,List.all_eq_true]
set_option maxHeartbeats 2000000 in
theorem Ziq (s : ByteArray) (w : World) :
  Calls Tryz.prog 231 #[.string s, .func (.func 224) #[] #[]] w fun e w'=>e = .returned (.int .i64 (Lib.idxFunc pR true s)) ∧ Below w.heap.size w w' ∧ w.drawn ≤ w'.drawn:=by
 have cI:=ZlE s w
 have e236 : ∀ args w,(callFunc 236 args).run Tryz.prog w = .ok (.enter 236 args) w:=enters_of Tryz.func236 (by kernel_rfl) rfl
 go_enter Tryz.func231,Tryz.ntmps231
 go_wp2_with (go_at_fn 236; refine cI.mono ?_; rintro e w' ⟨rfl,hb⟩)
 go_ret
 exact ⟨rfl,hb⟩
set_option maxHeartbeats 2000000 in
theorem Zir (s : ByteArray) (w : World) :
  Calls Tryz.prog 223 #[.string s, .func (.func 224) #[] #[]] w fun e w'=>e = .returned (.bool (decide (0 ≤ Lib.idxFunc pR true s))) ∧ Below w.heap.size w w' ∧ w.drawn ≤ w'.drawn:=by
 have cI:=Ziq s w
 have e231 : ∀ args w,(callFunc 231 args).run Tryz.prog w = .ok (.enter 231 args) w:=enters_of Tryz.func231 (by kernel_rfl) rfl
 obtain ⟨I,hI⟩ : ∃ I,Lib.idxFunc pR true s = I:=⟨_,rfl⟩
 rw [hI] at cI ⊢
 go_enter Tryz.func223,Tryz.ntmps223
 go_wp2_with (go_at_fn 231; refine cI.mono ?_; rintro e w' ⟨rfl,hb⟩)
 go_ret
 exact ⟨rfl,hb⟩
theorem ZlF {w w' : World} {G : GH} (hG : G.In w) (h : Below w.heap.size w w') (hd : w.drawn ≤ w'.drawn) : Res [] w G w' G:=
 ⟨⟨h.os,h.tape,h.output,trivial,h.size,fun k hk _=>h.block k hk⟩,G.le_refl,fun _ _=>rfl,fun b o hb=>(h.block b (hG.lt hb)).trans (hG b o hb)⟩
theorem ZlZ {G : GH} {w : World} (hG : G.In w) (s : List UInt8) : Calls Tryz.prog (nat_lit 223) #[Za s, .func (.func 224) #[] #[]] w fun e w'=>∃ r G',e = .returned r ∧ Res [] w G w' G' ∧ r = .bool (!s.all okC):=
 (Zir ⟨s.toArray⟩ w).mono fun e w' ⟨he,hb,hd⟩=>⟨_,G,he,ZlF hG hb hd,by rw [Zxy]⟩
end Go.Civ
set_option linter.unusedVariables false
set_option linter.unusedSimpArgs false
set_option maxRecDepth 100000
set_option maxHeartbeats 4000000
namespace Go.Civ
open Go.Proofs
theorem ZaL {G : GH} {w : World} (hG : G.In w) (x : Val) (cx : List Value) (hcx : ValE.rep G x cx) : CL Tryz.prog (nat_lit 198) #[.agg cx.toArray] [] w G fun _ _ r=>r = .bool (Yo x):=by
 refine Zg ft [] Tryz.func198 V V ?_
 have hS:=St.start (X:=[]) hG
 obtain ⟨rfl,B1,B2,Z7⟩:=ZbO hcx
 refine Z4 [U x.k,U x.n,Za x.s] _ hS V V V (fun p1 w1 G1 L1 M1 C1 S1=>?_)
 refine Z S1 (Xh.drop 0 C1) Zk V V V ?_
 refine Ze x.k 1 V V V (fun h1=>?_) (fun h1=>?_)
 ·refine Z S1 (Xh.drop 2 C1) Zv V V V <| Zn .eql V x.s [] V V V ?_
  exact RB S1 V (by unfold Yo; simp_all [Cmp.b,SCmp.b])
 refine Ze x.k 2 V V V (fun h2=>?_) (fun h2=>?_)
 ·refine Z S1 (Xh.drop 1 C1) Zk V V V ?_
  refine Ze x.n 0 V V V (fun h3=>?_) (fun h3=>?_)
  ·refine Z S1 (Xh.drop 2 C1) Zv V V V <| YN x.s X1 V V ?_
   refine X2 (x.s.length : Int) 30 V V V (fun h4=>?_) (fun h4=>?_)
   ·refine Z S1 (Xh.drop 2 C1) Zv V V V ?_
    refine Zl S1 ZzH V V V (ZlZ S1.imm x.s) (fun w2 G2 S2 L2=>?_)
    exact RB S2 V (by unfold Yo; simp_all [Cmp.b,SCmp.b] <;> (omega))
   exact RB S1 V (by unfold Yo; simp_all [Cmp.b,SCmp.b] <;> (omega))
  exact RB S1 V (by unfold Yo; simp_all [Cmp.b,SCmp.b])
 refine Ze x.k 3 V V V (fun h5=>?_) (fun h5=>?_)
 ·refine Z S1 (Xh.drop 2 C1) Zv V V V <| Zn .eql V x.s [] V V V ?_
  refine WL.split (fun h0=>?_) (fun h0=>?_)
  ·have h6 : x.s = []:=by simpa [SCmp.b] using h0
   clear h0
   refine Z S1 (Xh.drop 1 C1) Zk V V V ?_
   refine Ze x.n 0 V V V (fun h7=>?_) (fun h7=>?_)
   ·exact RB S1 V (by unfold Yo; simp_all [Cmp.b,SCmp.b])
   refine Z S1 (Xh.drop 1 C1) Zk V V V <| Yd .eql V .i64 x.n 1 V V V ?_
   exact RB S1 V (by unfold Yo; simp_all [Cmp.b,SCmp.b] <;> ((rw [Bool.eq_iff_iff]; simp <;> omega)))
  have h6 : x.s ≠ []:=by simpa [SCmp.b] using h0
  clear h0
  exact RB S1 V (by unfold Yo; simp_all [Cmp.b,SCmp.b])
 refine Ze x.k 4 V V V (fun h8=>?_) (fun h8=>?_)
 ·refine Z S1 (Xh.drop 2 C1) Zv V V V <| Zn .eql V x.s [] V V V ?_
  refine WL.split (fun h0=>?_) (fun h0=>?_)
  ·have h9 : x.s = []:=by simpa [SCmp.b] using h0
   clear h0
   refine Z S1 (Xh.drop 1 C1) Zk V V V ?_
   refine ZM x.n (-62135596800) V V V (fun h10=>?_) (fun h10=>?_)
   ·refine Z S1 (Xh.drop 1 C1) Zk V V V <| Yd .leq V .i64 x.n 253402300800 V V V ?_
    exact RB S1 V (by unfold Yo; simp_all [Cmp.b,SCmp.b])
   exact RB S1 V (by unfold Yo; simp_all [Cmp.b,SCmp.b] <;> (omega))
  have h9 : x.s ≠ []:=by simpa [SCmp.b] using h0
  clear h0
  exact RB S1 V (by unfold Yo; simp_all [Cmp.b,SCmp.b])
 exact RB S1 V (by unfold Yo; simp_all [Cmp.b,SCmp.b])
theorem Zfs {G : GH} {w : World} (hG : G.In w) (x : Val) (cx : List Value) (hcx : ValE.rep G x cx) : CL Tryz.prog (nat_lit 229) #[.agg cx.toArray] [] w G fun _ _ r=>r = .bool (Yo x):=by
 refine Zg ft [] Tryz.func229 V V ?_
 have hS:=St.start (X:=[]) hG
 obtain ⟨rfl,B1,B2,Z7⟩:=ZbO hcx
 refine Z4 [U x.k,U x.n,Za x.s] _ hS V V V (fun p1 w1 G1 L1 M1 C1 S1=>?_)
 refine Z S1 (Xh.drop 0 C1) Zk V V V ?_
 refine Ze x.k 1 V V V (fun h1=>?_) (fun h1=>?_)
 ·refine Z S1 (Xh.drop 2 C1) Zv V V V <| Zn .eql V x.s [] V V V ?_
  exact RB S1 V (by (unfold Yo; simp_all [Cmp.b,SCmp.b]))
 refine Ze x.k 2 V V V (fun h2=>?_) (fun h2=>?_)
 ·refine Z S1 (Xh.drop 1 C1) Zk V V V ?_
  refine Zz x.n 0 V V V (fun h3=>?_) (fun h3=>?_)
  ·exact RB S1 V (by (unfold Yo; simp_all [Cmp.b,SCmp.b]))
  refine Z S1 (Xh.drop 2 C1) Zv V V V <| YN x.s X1 V V ?_
  refine Z1 (x.s.length : Int) 30 V V V (fun h4=>?_) (fun h4=>?_)
  ·exact RB S1 V (by (unfold Yo; simp_all [Cmp.b,SCmp.b] <;> (omega)))
  refine LP.go ft [] (fun m ρ1 w1=>∃ (k1 : Nat),∃ (G2 : GH),m = x.s.length - k1 ∧ G1.le G2 ∧ St w [] G G2 [] w1 ∧ FR ρ1 [(1,ZP p1),(3,U (k1 : Int))] ∧ k1 ≤ x.s.length ∧ ∀ j,j < k1 → ∀ c,x.s[j]? = some c → okC c = true) _ ⟨0,G1,V,(G1.le_refl),S1,⟨V,V,trivial⟩,(by omega),(by intro j hj; omega)⟩ ?_
  rintro m ρ1 w2 ⟨k1,G2,rfl,L2,S2,F9,f1,f2⟩
  refine F9.set ?_
  clear F9
  refine Z S2 (Xh.drop 2 (C1.mono L2)) Zv V V V <| YN x.s X1 V V ?_
  refine Zp (k1 : Int) (x.s.length : Int) V V V (fun h5=>?_) (fun h5=>?_)
  ·refine Z S2 (Xh.drop 2 (C1.mono L2)) Zv V V V ?_
   refine YY x.s k1 (by omega) X1 V V V (fun c1 U1=>?_)
   refine Zp (c1.toNat : Int) 32 V V V (fun h6=>?_) (fun h6=>?_)
   ·exact RB S2 V (by exact (Zk4 ‹_› ‹_› (by simp [okC]; omega)).symm)
   refine Z S2 (Xh.drop 2 (C1.mono L2)) Zv V V V ?_
   refine YY x.s k1 (by omega) X1 V V V (fun c2 U2=>?_)
   obtain rfl : c1 = c2:=Option.some.inj (U1.symm.trans U2)
   refine Z1 (c1.toNat : Int) 126 V V V (fun h7=>?_) (fun h7=>?_)
   ·exact RB S2 V (by exact (Zk4 ‹_› ‹_› (by simp [okC]; omega)).symm)
   refine Zq k1 (by have:=Zb; omega) V V V ?_
   exact BK.mk' _ ⟨k1 + 1,G2,V,L2,S2,⟨V,V,trivial⟩,(by omega),(by exact Ys ‹_› ‹_› (by simp [okC]; omega))⟩ (show x.s.length - (k1 + 1) < x.s.length - k1 by omega)
  exact RB S2 V (by exact (Zo1 ‹_› ‹_› (by omega) (Zbk ‹_› (by omega))).symm)
 refine Ze x.k 3 V V V (fun h8=>?_) (fun h8=>?_)
 ·refine Z S1 (Xh.drop 2 C1) Zv V V V <| Zn .eql V x.s [] V V V ?_
  refine WL.split (fun h0=>?_) (fun h0=>?_)
  ·have h9 : x.s = []:=by simpa [SCmp.b] using h0
   clear h0
   refine Z S1 (Xh.drop 1 C1) Zk V V V ?_
   refine Ze x.n 0 V V V (fun h10=>?_) (fun h10=>?_)
   ·exact RB S1 V (by (unfold Yo; simp_all [Cmp.b,SCmp.b]))
   refine Z S1 (Xh.drop 1 C1) Zk V V V <| Yd .eql V .i64 x.n 1 V V V ?_
   exact RB S1 V (by (unfold Yo; simp_all [Cmp.b,SCmp.b] <;> ((rw [Bool.eq_iff_iff]; simp <;> omega))))
  have h9 : x.s ≠ []:=by simpa [SCmp.b] using h0
  clear h0
  exact RB S1 V (by (unfold Yo; simp_all [Cmp.b,SCmp.b]))
 refine Ze x.k 4 V V V (fun h11=>?_) (fun h11=>?_)
 ·refine Z S1 (Xh.drop 2 C1) Zv V V V <| Zn .eql V x.s [] V V V ?_
  refine WL.split (fun h0=>?_) (fun h0=>?_)
  ·have h12 : x.s = []:=by simpa [SCmp.b] using h0
   clear h0
   refine Z S1 (Xh.drop 1 C1) Zk V V V ?_
   refine ZM x.n (-62135596800) V V V (fun h13=>?_) (fun h13=>?_)
   ·refine Z S1 (Xh.drop 1 C1) Zk V V V <| Yd .leq V .i64 x.n 253402300800 V V V ?_
    exact RB S1 V (by (unfold Yo; simp_all [Cmp.b,SCmp.b]))
   exact RB S1 V (by (unfold Yo; simp_all [Cmp.b,SCmp.b] <;> (omega)))
  have h12 : x.s ≠ []:=by simpa [SCmp.b] using h0
  clear h0
  exact RB S1 V (by (unfold Yo; simp_all [Cmp.b,SCmp.b]))
 exact RB S1 V (by (unfold Yo; simp_all [Cmp.b,SCmp.b]))
end Go.Civ
namespace Go.Proofs
open Go.Shelf
def Tryz.ixByte_ren : Go.Shelf.Ren:=⟨fun | 137=>83 | 217=>127 | 266=>167 | n=>n,fun | 9=>9 | 5=>5 | 3=>3 | n=>n,fun | n=>n⟩
theorem Tryz.ixByte : Go.Proofs.Lays.n137 Tryz.prog Tryz.ixByte_ren:={
 mixed:=by kernel_rfl
 f137:=Tryz.func83.trans (congrArg some (by kernel_rfl))
 f217:=Tryz.func127.trans (congrArg some (by kernel_rfl))
 f266:=Tryz.func167.trans (congrArg some (by kernel_rfl))
 t3:=Tryz.underlying3
 a3:=Tryz.isAgg3
 z3:=Tryz.sizeOf3
 v3:=Tryz.zeroValue3
 t5:=Tryz.underlying5
 a5:=Tryz.isAgg5
 z5:=Tryz.sizeOf5
 v5:=Tryz.zeroValue5
 t9:=Tryz.underlying9
 a9:=Tryz.isAgg9
 z9:=Tryz.sizeOf9
 v9:=Tryz.zeroValue9 }
end Go.Proofs
set_option linter.unusedVariables false
namespace Go.Civ
open Go.Proofs Go.Shelf Go.RowKit
theorem Zma {G : GH} {w : World} (hG : G.In w) (s : List UInt8) (c : Int) : Calls Tryz.prog (nat_lit 83) #[Za s, .int .u8 c] w fun e w'=>∃ r G',e = .returned r ∧ Res [] w G w' G' ∧ r = .int .i64 (Lib.indexByte s c.toNat.toUInt8):=by
 refine (Any.strings_IndexByte Tryz.ixByte ⟨s.toArray⟩ c w).mono ?_
 rintro e w' ⟨rfl,rfl⟩
 exact ⟨_,G,rfl,Res.refl hG,rfl⟩
end Go.Civ
namespace Go.Proofs
open Go.Shelf
def Tryz.sJoin_ren : Go.Shelf.Ren:=⟨fun | 156=>177 | 165=>208 | 166=>23 | 169=>27 | 240=>52 | 241=>227 | 276=>85 | 277=>232 | n=>n,fun | 31=>29 | 9=>9 | 3=>3 | 4=>4 | 0=>0 | 20=>20 | 72=>73 | 76=>76 | 70=>70 | 37=>71 | 75=>75 | 127=>113 | 164=>136 | 5=>5 | 80=>81 | n=>n,fun | n=>n⟩
theorem Tryz.sJoin : Go.Proofs.Lays.n156 Tryz.prog Tryz.sJoin_ren:={
 mixed:=by kernel_rfl
 f156:=Tryz.func177.trans (congrArg some (by kernel_rfl))
 f165:=Tryz.func208.trans (congrArg some (by kernel_rfl))
 f166:=Tryz.func23.trans (congrArg some (by kernel_rfl))
 f169:=Tryz.func27.trans (congrArg some (by kernel_rfl))
 f240:=Tryz.func52.trans (congrArg some (by kernel_rfl))
 f241:=Tryz.func227.trans (congrArg some (by kernel_rfl))
 f276:=Tryz.func85.trans (congrArg some (by kernel_rfl))
 f277:=Tryz.func232.trans (congrArg some (by kernel_rfl))
 t0:=Tryz.underlying0
 a0:=Tryz.isAgg0
 z0:=Tryz.sizeOf0
 v0:=Tryz.zeroValue0
 t3:=Tryz.underlying3
 a3:=Tryz.isAgg3
 z3:=Tryz.sizeOf3
 v3:=Tryz.zeroValue3
 t4:=Tryz.underlying4
 a4:=Tryz.isAgg4
 z4:=Tryz.sizeOf4
 v4:=Tryz.zeroValue4
 t9:=Tryz.underlying9
 a9:=Tryz.isAgg9
 z9:=Tryz.sizeOf9
 v9:=Tryz.zeroValue9
 t20:=Tryz.underlying20
 a20:=Tryz.isAgg20
 z20:=Tryz.sizeOf20
 v20:=Tryz.zeroValue20
 t31:=Tryz.underlying29
 a31:=Tryz.isAgg29
 z31:=Tryz.sizeOf29
 v31:=Tryz.zeroValue29
 t37:=Tryz.underlying71
 a37:=Tryz.isAgg71
 z37:=Tryz.sizeOf71
 v37:=Tryz.zeroValue71
 t70:=Tryz.underlying70
 a70:=Tryz.isAgg70
 z70:=Tryz.sizeOf70
 v70:=Tryz.zeroValue70
 t72:=Tryz.underlying73
 a72:=Tryz.isAgg73
 z72:=Tryz.sizeOf73
 v72:=Tryz.zeroValue73
 t75:=Tryz.underlying75
 a75:=Tryz.isAgg75
 z75:=Tryz.sizeOf75
 v75:=Tryz.zeroValue75
 t76:=Tryz.underlying76
 a76:=Tryz.isAgg76
 z76:=Tryz.sizeOf76
 v76:=Tryz.zeroValue76
 t127:=Tryz.underlying113
 a127:=Tryz.isAgg113
 z127:=Tryz.sizeOf113
 v127:=Tryz.zeroValue113
 t164:=Tryz.underlying136
 a164:=Tryz.isAgg136
 z164:=Tryz.sizeOf136
 v164:=Tryz.zeroValue136 }
def Tryz.sRepl_ren : Go.Shelf.Ren:=⟨fun | 155=>209 | 154=>228 | 138=>233 | 165=>208 | 143=>234 | 166=>23 | 197=>235 | 169=>27 | 195=>237 | 218=>238 | 240=>52 | 241=>227 | 219=>239 | 260=>240 | 276=>85 | 277=>232 | 217=>127 | 225=>241 | 224=>242 | 267=>243 | 266=>167 | 314=>244 | n=>n,fun | 9=>9 | 3=>3 | 4=>4 | 72=>73 | 0=>0 | 76=>76 | 105=>231 | 21=>21 | 5=>5 | 70=>70 | 20=>20 | 37=>71 | 75=>75 | 127=>113 | 164=>136 | 46=>204 | 119=>235 | 139=>238 | 138=>237 | 146=>239 | 51=>202 | 80=>81 | n=>n,fun | 1=>3 | 3=>6 | 4=>7 | n=>n⟩
theorem Tryz.sRepl : Go.Proofs.Lays.n155 Tryz.prog Tryz.sRepl_ren:={
 mixed:=by kernel_rfl
 f138:=Tryz.func233.trans (congrArg some (by kernel_rfl))
 f143:=Tryz.func234.trans (congrArg some (by kernel_rfl))
 f154:=Tryz.func228.trans (congrArg some (by kernel_rfl))
 f155:=Tryz.func209.trans (congrArg some (by kernel_rfl))
 f165:=Tryz.func208.trans (congrArg some (by kernel_rfl))
 f166:=Tryz.func23.trans (congrArg some (by kernel_rfl))
 f169:=Tryz.func27.trans (congrArg some (by kernel_rfl))
 f195:=Tryz.func237.trans (congrArg some (by kernel_rfl))
 f197:=Tryz.func235.trans (congrArg some (by kernel_rfl))
 f217:=Tryz.func127.trans (congrArg some (by kernel_rfl))
 f218:=Tryz.func238.trans (congrArg some (by kernel_rfl))
 f219:=Tryz.func239.trans (congrArg some (by kernel_rfl))
 f224:=Tryz.func242.trans (congrArg some (by kernel_rfl))
 f225:=Tryz.func241.trans (congrArg some (by kernel_rfl))
 f240:=Tryz.func52.trans (congrArg some (by kernel_rfl))
 f241:=Tryz.func227.trans (congrArg some (by kernel_rfl))
 f260:=Tryz.func240.trans (congrArg some (by kernel_rfl))
 f266:=Tryz.func167.trans (congrArg some (by kernel_rfl))
 f267:=Tryz.func243.trans (congrArg some (by kernel_rfl))
 f276:=Tryz.func85.trans (congrArg some (by kernel_rfl))
 f277:=Tryz.func232.trans (congrArg some (by kernel_rfl))
 f314:=Tryz.func244.trans (congrArg some (by kernel_rfl))
 t0:=Tryz.underlying0
 a0:=Tryz.isAgg0
 z0:=Tryz.sizeOf0
 v0:=Tryz.zeroValue0
 t3:=Tryz.underlying3
 a3:=Tryz.isAgg3
 z3:=Tryz.sizeOf3
 v3:=Tryz.zeroValue3
 t4:=Tryz.underlying4
 a4:=Tryz.isAgg4
 z4:=Tryz.sizeOf4
 v4:=Tryz.zeroValue4
 t5:=Tryz.underlying5
 a5:=Tryz.isAgg5
 z5:=Tryz.sizeOf5
 v5:=Tryz.zeroValue5
 t9:=Tryz.underlying9
 a9:=Tryz.isAgg9
 z9:=Tryz.sizeOf9
 v9:=Tryz.zeroValue9
 t20:=Tryz.underlying20
 a20:=Tryz.isAgg20
 z20:=Tryz.sizeOf20
 v20:=Tryz.zeroValue20
 t21:=Tryz.underlying21
 a21:=Tryz.isAgg21
 z21:=Tryz.sizeOf21
 v21:=Tryz.zeroValue21
 t37:=Tryz.underlying71
 a37:=Tryz.isAgg71
 z37:=Tryz.sizeOf71
 v37:=Tryz.zeroValue71
 t46:=Tryz.underlying204
 a46:=Tryz.isAgg204
 z46:=Tryz.sizeOf204
 v46:=Tryz.zeroValue204
 t51:=Tryz.underlying202
 a51:=Tryz.isAgg202
 z51:=Tryz.sizeOf202
 v51:=Tryz.zeroValue202
 t70:=Tryz.underlying70
 a70:=Tryz.isAgg70
 z70:=Tryz.sizeOf70
 v70:=Tryz.zeroValue70
 t72:=Tryz.underlying73
 a72:=Tryz.isAgg73
 z72:=Tryz.sizeOf73
 v72:=Tryz.zeroValue73
 t75:=Tryz.underlying75
 a75:=Tryz.isAgg75
 z75:=Tryz.sizeOf75
 v75:=Tryz.zeroValue75
 t76:=Tryz.underlying76
 a76:=Tryz.isAgg76
 z76:=Tryz.sizeOf76
 v76:=Tryz.zeroValue76
 t105:=Tryz.underlying231
 a105:=Tryz.isAgg231
 z105:=Tryz.sizeOf231
 v105:=Tryz.zeroValue231
 t119:=Tryz.underlying235
 a119:=Tryz.isAgg235
 z119:=Tryz.sizeOf235
 t127:=Tryz.underlying113
 a127:=Tryz.isAgg113
 z127:=Tryz.sizeOf113
 v127:=Tryz.zeroValue113
 t138:=Tryz.underlying237
 a138:=Tryz.isAgg237
 z138:=Tryz.sizeOf237
 v138:=Tryz.zeroValue237
 t139:=Tryz.underlying238
 a139:=Tryz.isAgg238
 z139:=Tryz.sizeOf238
 v139:=Tryz.zeroValue238
 t146:=Tryz.underlying239
 a146:=Tryz.isAgg239
 z146:=Tryz.sizeOf239
 v146:=Tryz.zeroValue239
 t164:=Tryz.underlying136
 a164:=Tryz.isAgg136
 z164:=Tryz.sizeOf136
 v164:=Tryz.zeroValue136
 g1:=by kernel_rfl
 g3:=by kernel_rfl
 g4:=by kernel_rfl }
def Tryz.sTrim_ren : Go.Shelf.Ren:=⟨fun | 102=>56 | 209=>89 | 207=>133 | n=>n,fun | 9=>9 | 4=>4 | 3=>3 | n=>n,fun | n=>n⟩
theorem Tryz.sTrim : Go.Proofs.Lays.n102 Tryz.prog Tryz.sTrim_ren:={
 mixed:=by kernel_rfl
 f102:=Tryz.func56.trans (congrArg some (by kernel_rfl))
 f207:=Tryz.func133.trans (congrArg some (by kernel_rfl))
 f209:=Tryz.func89.trans (congrArg some (by kernel_rfl))
 t3:=Tryz.underlying3
 a3:=Tryz.isAgg3
 z3:=Tryz.sizeOf3
 v3:=Tryz.zeroValue3
 t4:=Tryz.underlying4
 a4:=Tryz.isAgg4
 z4:=Tryz.sizeOf4
 v4:=Tryz.zeroValue4
 t9:=Tryz.underlying9
 a9:=Tryz.isAgg9
 z9:=Tryz.sizeOf9
 v9:=Tryz.zeroValue9 }
def Tryz.sItoa_ren : Go.Shelf.Ren:=⟨fun | 171=>24 | 243=>53 | 246=>86 | 283=>128 | 284=>129 | 285=>130 | 286=>131 | 129=>169 | 317=>168 | 318=>170 | 319=>171 | 320=>172 | 337=>205 | 338=>206 | n=>n,fun | 3=>3 | 9=>9 | 2=>2 | 4=>4 | 171=>171 | 0=>0 | 53=>172 | 37=>71 | 5=>5 | 173=>175 | 212=>201 | 51=>202 | 20=>20 | 213=>203 | 46=>204 | 232=>225 | 233=>226 | n=>n,fun | 17=>1 | 18=>4 | 19=>5 | n=>n⟩
theorem Tryz.sItoa : Go.Proofs.Lays.n171 Tryz.prog Tryz.sItoa_ren:={
 mixed:=by kernel_rfl
 f129:=Tryz.func169.trans (congrArg some (by kernel_rfl))
 f171:=Tryz.func24.trans (congrArg some (by kernel_rfl))
 f243:=Tryz.func53.trans (congrArg some (by kernel_rfl))
 f246:=Tryz.func86.trans (congrArg some (by kernel_rfl))
 f283:=Tryz.func128.trans (congrArg some (by kernel_rfl))
 f284:=Tryz.func129.trans (congrArg some (by kernel_rfl))
 f285:=Tryz.func130.trans (congrArg some (by kernel_rfl))
 f286:=Tryz.func131.trans (congrArg some (by kernel_rfl))
 f317:=Tryz.func168.trans (congrArg some (by kernel_rfl))
 f318:=Tryz.func170.trans (congrArg some (by kernel_rfl))
 f319:=Tryz.func171.trans (congrArg some (by kernel_rfl))
 f320:=Tryz.func172.trans (congrArg some (by kernel_rfl))
 f337:=Tryz.func205.trans (congrArg some (by kernel_rfl))
 f338:=Tryz.func206.trans (congrArg some (by kernel_rfl))
 t0:=Tryz.underlying0
 a0:=Tryz.isAgg0
 z0:=Tryz.sizeOf0
 v0:=Tryz.zeroValue0
 t2:=Tryz.underlying2
 a2:=Tryz.isAgg2
 z2:=Tryz.sizeOf2
 v2:=Tryz.zeroValue2
 t3:=Tryz.underlying3
 a3:=Tryz.isAgg3
 z3:=Tryz.sizeOf3
 v3:=Tryz.zeroValue3
 t4:=Tryz.underlying4
 a4:=Tryz.isAgg4
 z4:=Tryz.sizeOf4
 v4:=Tryz.zeroValue4
 t5:=Tryz.underlying5
 a5:=Tryz.isAgg5
 z5:=Tryz.sizeOf5
 v5:=Tryz.zeroValue5
 t9:=Tryz.underlying9
 a9:=Tryz.isAgg9
 z9:=Tryz.sizeOf9
 v9:=Tryz.zeroValue9
 t20:=Tryz.underlying20
 a20:=Tryz.isAgg20
 z20:=Tryz.sizeOf20
 v20:=Tryz.zeroValue20
 t37:=Tryz.underlying71
 a37:=Tryz.isAgg71
 z37:=Tryz.sizeOf71
 v37:=Tryz.zeroValue71
 t46:=Tryz.underlying204
 a46:=Tryz.isAgg204
 z46:=Tryz.sizeOf204
 v46:=Tryz.zeroValue204
 t51:=Tryz.underlying202
 a51:=Tryz.isAgg202
 z51:=Tryz.sizeOf202
 v51:=Tryz.zeroValue202
 t53:=Tryz.underlying172
 a53:=Tryz.isAgg172
 z53:=Tryz.sizeOf172
 v53:=Tryz.zeroValue172
 t171:=Tryz.underlying171
 a171:=Tryz.isAgg171
 z171:=Tryz.sizeOf171
 v171:=Tryz.zeroValue171
 t173:=Tryz.underlying175
 a173:=Tryz.isAgg175
 z173:=Tryz.sizeOf175
 v173:=Tryz.zeroValue175
 t212:=Tryz.underlying201
 a212:=Tryz.isAgg201
 z212:=Tryz.sizeOf201
 v212:=Tryz.zeroValue201
 t213:=Tryz.underlying203
 a213:=Tryz.isAgg203
 z213:=Tryz.sizeOf203
 t232:=Tryz.underlying225
 a232:=Tryz.isAgg225
 z232:=Tryz.sizeOf225
 v232:=Tryz.zeroValue225
 t233:=Tryz.underlying226
 a233:=Tryz.isAgg226
 z233:=Tryz.sizeOf226
 v233:=Tryz.zeroValue226
 g17:=by kernel_rfl
 g18:=by kernel_rfl
 g19:=by kernel_rfl }
end Go.Proofs
set_option linter.unusedVariables false
set_option linter.unusedSimpArgs false
set_option maxRecDepth 100000
set_option maxHeartbeats 4000000
namespace Go.Civ
open Go.Proofs
theorem ZlL {G : GH} {w : World} (hG : G.In w) (l : List Col) (pf : Col → Bool) (vl : Value) (hvl : Sl ColE 24 G vl l) (fid : Nat) (fcap : Array Value) (hf : FnB Tryz.prog (Is ColE) fid fcap G (fun x=>x ∈ l) pf) : CL Tryz.prog (nat_lit 73) #[vl, .func (.func fid) #[] fcap] [] w G fun _ _ r=>r = U (Qi pf l):=by
 refine Zg ft [] Tryz.func73 V V ?_
 have hS:=St.start (X:=[]) hG
 have V1:=hvl.bound
 refine Zm hvl Q6 V V ?_
 refine LP.go ft [] (fun m ρ1 w1=>∃ (k1 : Nat),∃ (G1 : GH),m = l.length - k1 ∧ G.le G1 ∧ St w [] G G1 [] w1 ∧ FR ρ1 [(0,vl),(1, .func (.func fid) #[] fcap),(7,U (l.length : Int)),(8,U (k1 : Int))] ∧ k1 ≤ l.length ∧ ∀ j,j < k1 → ∀ x,l[j]? = some x → pf x = false) _ ⟨0,G,V,(G.le_refl),hS,(ZS V),(by omega),(by intro j hj; omega)⟩ ?_
 rintro m ρ1 w1 ⟨k1,G1,rfl,L1,S1,F9,f1,f2⟩
 refine F9.set ?_
 clear F9
 refine Zp (k1 : Int) (l.length : Int) V V V (fun h1=>?_) (fun h1=>?_)
 ·refine WL.indexAddr (hvl.mono L1) k1 (by omega) Q6 Q9 V V V V (fun p1 x1 U1 E1=>?_)
  obtain ⟨D1,C1,R1⟩:=E1
  obtain ⟨rfl,B1,B2⟩:=XU R1
  refine Zc S1 C1 [Za x1.name,U x1.kind] Q9 V V V V V ?_
  refine Zl S1 hf.body V V V (hf.call _ _ (.agg #[Za x1.name,U x1.kind]) x1 L1 S1.imm (List.mem_of_getElem? U1) ⟨_,V,(Zmj x1 B1 B2)⟩) (fun w2 G2 S2 L2=>?_)
  refine WL.split (fun (h2 : (pf x1) = true)=>?_) (fun (h2 : (pf x1) = false)=>?_)
  ·exact RI S2 V (by exact (ZaY _ ‹_› ‹_› ‹_›).symm)
  refine Zq k1 (by have:=Zb; omega) V V V ?_
  exact BK.mk' _ ⟨k1 + 1,G2,V,(L1.trans L2),S2,(ZS V),(by omega),(by exact Ys ‹_› ‹_› ‹_›)⟩ (show l.length - (k1 + 1) < l.length - k1 by omega)
 exact RI S1 V (by exact (ZaB ‹_› (by omega)).symm)
theorem ZuH {G : GH} {w : World} (hG : G.In w) (x : Col) (nm : List UInt8) (cx : List Value) (hcx : ColE.rep G x cx) (pn : Addr) (hpn : Xh G pn [Za nm]) : CL Tryz.prog (nat_lit 225) #[.agg cx.toArray,ZP pn] [] w G fun _ _ r=>r = .bool (decide (x.name = nm)):=by
 refine Zg ft [] Tryz.func225 V V ?_
 have hS:=St.start (X:=[]) hG
 obtain ⟨rfl,B1,B2⟩:=XU hcx
 refine Z4 [Za x.name,U x.kind] _ hS V V V (fun p1 w1 G1 L1 M1 C1 S1=>?_)
 refine Z S1 (Xh.drop 0 C1) Zv V V V <| Z S1 (hpn.mono L1) Zv V V V <| Zn .eql V x.name nm V V V ?_
 exact RB S1 V (by simp [SCmp.b])
theorem Ziu {G : GH} {w : World} (hG : G.In w) (l : List Col) (nm : List UInt8) (vl : Value) (hvl : Sl ColE 24 G vl l) : CL Tryz.prog (nat_lit 199) #[vl,Za nm] [] w G fun _ _ r=>r = U (Xi l nm):=by
 refine Zg ft [] Tryz.func199 V V ?_
 have hS:=St.start (X:=[]) hG
 refine Z4 [Za nm] _ hS V V V (fun p1 w1 G1 L1 M1 C1 S1=>?_)
 refine Zl S1 Zgd V V V (ZlL S1.imm l (fun x8=>decide (x8.name = nm)) _ (hvl.mono L1) 225 #[ZP p1] ⟨ZzI,fun G8 w8 v8 x8 L8 hG8 hon8 hA8=>by obtain ⟨cs_x8,rfl,hr_x8⟩:=hA8; exact ZuH hG8 x8 nm cs_x8 hr_x8 p1 (C1.mono L8)⟩) (fun w2 G2 S2 L2=>?_)
 exact RI S2 V (by rfl)
theorem ZuI (d : Nat) : ∀ {G : GH} {w : World} (hG : G.In w) (c : Cond) (l : List Col) (cc : List Value) (hcc : (Xy d).rep G c cc) (vl : Value) (hvl : Sl ColE 24 G vl l),CL Tryz.prog (nat_lit 156) #[.agg cc.toArray,vl] [] w G fun _ _ r=>r = U (XL d c l):=by
 induction d
 ·intro G w hG c l cc hcc vl hvl; exact (ZaD hcc).elim
 rename_i d ih
 intro G w hG c l cc hcc vl hvl
 refine Zg ft [13] Tryz.func156 V V ?_
 have hS:=St.start (X:=[]) hG
 obtain ⟨lv1,rfl,B1,B2,Z7,Z5,ZD,hb6,O1⟩:=ZaE hcc
 refine Z4 [U c.kind,Za c.col,Za c.oth,U c.v.k,U c.v.n,Za c.v.s,lv1] _ hS V V V (fun p1 w1 G1 L1 M1 C1 S1=>?_)
 refine JN.go ft [13] (fun ρ1 w1=>∃ (G2 : GH),G1.le G2 ∧ St w [] G G2 [] w1 ∧ FR ρ1 [(1,vl),(2,ZP p1)] ∧ ZaF c l = 0) ?_ ?_
 ·refine Z S1 (Xh.drop 0 C1) Zk V V V ?_
  refine Ze c.kind 1 V V V (fun h1=>?_) (fun h1=>?_)
  ·refine Z S1 (Xh.drop 1 C1) Zv V V V ?_
   refine Zl S1 Zkj V V V (Ziu S1.imm l c.col _ (hvl.mono L1)) (fun w3 G3 S3 L3=>?_)
   have hf1:=ZeM (l:=l) (nm:=c.col)
   refine Zp (Xi l c.col) 0 V V V (fun h2=>?_) (fun h2=>?_)
   ·exact RI S3 V (by exact (ZbQ (ZrT (by exact .inl ‹_›) ‹_›) (by decide)).symm)
   refine Z S3 (Xh.drop 0 (Xh.drop 3 (C1.mono L3))) Zk V V V <| Z S3 (Xh.drop 2 (C1.mono L3)) Zv V V V <| Zn .neq V c.oth [] V V V ?_
   refine WL.split (fun h0=>?_) (fun h0=>?_)
   ·have h3 : c.oth ≠ []:=by simpa [SCmp.b] using h0
    clear h0
    refine Z S3 (Xh.drop 2 (C1.mono L3)) Zv V V V ?_
    have j1:=(L1.trans L3)
    refine Zl S3 Zkj V V V (Ziu S3.imm l c.oth _ (hvl.mono j1)) (fun w4 G4 S4 L4=>?_)
    have hf2:=ZeM (l:=l) (nm:=c.oth)
    refine Zp (Xi l c.oth) 0 V V V (fun h4=>?_) (fun h4=>?_)
    ·exact RI S4 V (by exact (ZbQ (Zo3 (by exact .inl ‹_›) (by omega) ‹_› ‹_›) (by decide)).symm)
    refine WL.indexAddr (hvl.mono (j1.trans L4)) (((Xi l c.oth)).toNat) (by omega) Q6 Q9 V V V (congrArg (Value.int .i64) (Int.toNat_of_nonneg (by omega)).symm) (fun p2 x1 U1 E1=>?_)
    obtain ⟨D1,C2,R1⟩:=E1
    obtain ⟨rfl,hb7,ZV⟩:=XU R1
    refine Z S4 (Xh.drop 1 C2) Zk V V V ?_
    refine WL.indexAddr (hvl.mono (j1.trans L4)) (((Xi l c.col)).toNat) (by omega) Q6 Q9 V V V (congrArg (Value.int .i64) (Int.toNat_of_nonneg (by omega)).symm) (fun p3 x2 U2 E2=>?_)
    obtain ⟨D2,C3,R2⟩:=E2
    obtain ⟨rfl,hb9,ZI⟩:=XU R2
    refine Z S4 (Xh.drop 1 C3) Zk V V V ?_
    refine Zz x1.kind x2.kind V V V (fun h5=>?_) (fun h5=>?_)
    ·exact RI S4 V (by exact (ZbQ ((ZjD (by exact .inl ‹_›) (by omega) ‹_› (by omega) ‹_› ‹_›).trans (if_pos (by omega))) (by decide)).symm)
    exact ⟨G4,(L3.trans L4),S4,⟨V,V,trivial⟩,(by exact (ZjD (by exact .inl ‹_›) (by omega) ‹_› (by omega) ‹_› ‹_›).trans (if_neg (by omega)))⟩
   have h3 : c.oth = []:=by simpa [SCmp.b] using h0
   clear h0
   refine WL.indexAddr (hvl.mono (L1.trans L3)) (((Xi l c.col)).toNat) (by omega) Q6 Q9 V V V (congrArg (Value.int .i64) (Int.toNat_of_nonneg (by omega)).symm) (fun p4 x3 U3 E3=>?_)
   obtain ⟨D3,C4,R3⟩:=E3
   obtain ⟨rfl,ZJ,ZL⟩:=XU R3
   refine Z S3 (Xh.drop 1 C4) Zk V V V ?_
   refine Zz c.v.k x3.kind V V V (fun h6=>?_) (fun h6=>?_)
   ·exact RI S3 V (by exact (ZbQ ((ZjC (by exact .inl ‹_›) (by omega) ‹_› ‹_›).trans (if_pos (by omega))) (by decide)).symm)
   exact ⟨G3,L3,S3,⟨V,V,trivial⟩,(by exact (ZjC (by exact .inl ‹_›) (by omega) ‹_› ‹_›).trans (if_neg (by omega)))⟩
  refine Z S1 (Xh.drop 0 C1) Zk V V V ?_
  refine Ze c.kind 2 V V V (fun h7=>?_) (fun h7=>?_)
  ·refine Z S1 (Xh.drop 1 C1) Zv V V V ?_
   refine Zl S1 Zkj V V V (Ziu S1.imm l c.col _ (hvl.mono L1)) (fun w5 G5 S5 L5=>?_)
   have hf1:=ZeM (l:=l) (nm:=c.col)
   refine Zp (Xi l c.col) 0 V V V (fun h8=>?_) (fun h8=>?_)
   ·exact RI S5 V (by exact (ZbQ (ZrT (by exact .inr ‹_›) ‹_›) (by decide)).symm)
   refine Z S5 (Xh.drop 0 (Xh.drop 3 (C1.mono L5))) Zk V V V <| Z S5 (Xh.drop 2 (C1.mono L5)) Zv V V V <| Zn .neq V c.oth [] V V V ?_
   refine WL.split (fun h0=>?_) (fun h0=>?_)
   ·have h9 : c.oth ≠ []:=by simpa [SCmp.b] using h0
    clear h0
    refine Z S5 (Xh.drop 2 (C1.mono L5)) Zv V V V ?_
    have j2:=(L1.trans L5)
    refine Zl S5 Zkj V V V (Ziu S5.imm l c.oth _ (hvl.mono j2)) (fun w6 G6 S6 L6=>?_)
    have hf2:=ZeM (l:=l) (nm:=c.oth)
    refine Zp (Xi l c.oth) 0 V V V (fun h10=>?_) (fun h10=>?_)
    ·exact RI S6 V (by exact (ZbQ (Zo3 (by exact .inr ‹_›) (by omega) ‹_› ‹_›) (by decide)).symm)
    refine WL.indexAddr (hvl.mono (j2.trans L6)) (((Xi l c.oth)).toNat) (by omega) Q6 Q9 V V V (congrArg (Value.int .i64) (Int.toNat_of_nonneg (by omega)).symm) (fun p5 x4 U4 E4=>?_)
    obtain ⟨D4,C5,R4⟩:=E4
    obtain ⟨rfl,Y0,Y6⟩:=XU R4
    refine Z S6 (Xh.drop 1 C5) Zk V V V ?_
    refine WL.indexAddr (hvl.mono (j2.trans L6)) (((Xi l c.col)).toNat) (by omega) Q6 Q9 V V V (congrArg (Value.int .i64) (Int.toNat_of_nonneg (by omega)).symm) (fun p6 x5 U5 E5=>?_)
    obtain ⟨D5,C6,R5⟩:=E5
    obtain ⟨rfl,YA,Y9⟩:=XU R5
    refine Z S6 (Xh.drop 1 C6) Zk V V V ?_
    refine Zz x4.kind x5.kind V V V (fun h11=>?_) (fun h11=>?_)
    ·exact RI S6 V (by exact (ZbQ ((ZjD (by exact .inr ‹_›) (by omega) ‹_› (by omega) ‹_› ‹_›).trans (if_pos (by omega))) (by decide)).symm)
    exact ⟨G6,(L5.trans L6),S6,⟨V,V,trivial⟩,(by exact (ZjD (by exact .inr ‹_›) (by omega) ‹_› (by omega) ‹_› ‹_›).trans (if_neg (by omega)))⟩
   have h9 : c.oth = []:=by simpa [SCmp.b] using h0
   clear h0
   refine WL.indexAddr (hvl.mono (L1.trans L5)) (((Xi l c.col)).toNat) (by omega) Q6 Q9 V V V (congrArg (Value.int .i64) (Int.toNat_of_nonneg (by omega)).symm) (fun p7 x6 U6 E6=>?_)
   obtain ⟨D6,C7,R6⟩:=E6
   obtain ⟨rfl,Yr,YH⟩:=XU R6
   refine Z S5 (Xh.drop 1 C7) Zk V V V ?_
   refine Zz c.v.k x6.kind V V V (fun h12=>?_) (fun h12=>?_)
   ·exact RI S5 V (by exact (ZbQ ((ZjC (by exact .inr ‹_›) (by omega) ‹_› ‹_›).trans (if_pos (by omega))) (by decide)).symm)
   exact ⟨G5,L5,S5,⟨V,V,trivial⟩,(by exact (ZjC (by exact .inr ‹_›) (by omega) ‹_› ‹_›).trans (if_neg (by omega)))⟩
  exact ⟨G1,(G1.le_refl),S1,⟨V,V,trivial⟩,(by exact Zvg ‹_› ‹_›)⟩
 rintro ρ1 w2 ⟨G2,L2,S2,F9,f1⟩
 refine F9.set ?_
 have ht0:=(by assumption : ZaF c l = 0)
 refine Z S2 (Xh.drop 6 (C1.mono L2)) XD V V V ?_
 have V1:=O1.bound
 have j3:=(L1.trans L2)
 refine Zm (O1.mono j3) Xr V V ?_
 refine LP.go ft [13] (fun m ρ1 w1=>∃ (k1 : Nat),∃ (G7 : GH),m = c.l.length - k1 ∧ G2.le G7 ∧ St w [] G G7 [] w1 ∧ FR ρ1 [(1,vl),(50,lv1),(51,U (c.l.length : Int)),(52,U (k1 : Int))] ∧ k1 ≤ c.l.length ∧ ∀ j,j < k1 → ∀ y,c.l[j]? = some y → XL d y l = 0) _ ⟨0,G2,V,(G2.le_refl),S2,(ZS V),(by omega),(by intro j hj; omega)⟩ ?_
 rintro m ρ1 w7 ⟨k1,G7,rfl,L7,S7,F9,f2,f3⟩
 refine F9.set ?_
 clear F9
 refine Zp (k1 : Int) (c.l.length : Int) V V V (fun h13=>?_) (fun h13=>?_)
 ·refine WL.indexAddr (O1.mono (j3.trans L7)) k1 (by omega) Xr ZY V V V V (fun p8 x7 U7 E7=>?_)
  obtain ⟨D7,C8,R7⟩:=E7
  obtain ⟨lv2,rfl,YJ,YO,Xf,Xg,YK,Xc,O2⟩:=ZbZ R7
  refine Zc S7 C8 [U x7.kind,Za x7.col,Za x7.oth,U x7.v.k,U x7.v.n,Za x7.v.s,lv2] ZY V V V V V ?_
  refine WL.alloc S7 ZY V V (fun b1 w9 N1 S8=>?_)
  refine Z9 S8 0 [U x7.kind,Za x7.col,Za x7.oth,U x7.v.k,U x7.v.n,Za x7.v.s,lv2] V V ZY V V (by simp only [YE,O2] <;> rfl) V V V (fun w10 S9=>?_)
  obtain ⟨G9,L9,C9,S10⟩:=S9.shutB N1
  refine Zc S10 C9 [U x7.kind,Za x7.col,Za x7.oth,U x7.v.k,U x7.v.n,Za x7.v.s,lv2] ZY V V V V V ?_
  refine Zl S10 Ztr V V V (ih S10.imm x7 l _ ((Xy _).mono L9 R7) _ (hvl.mono (((L1.trans L2).trans L7).trans L9))) (fun w11 G10 S11 L10=>?_)
  refine Zz (XL d x7 l) 0 V V V (fun h14=>?_) (fun h14=>?_)
  ·exact RI S11 V (by exact (Zt8 ht0 ‹_› ‹_› ‹_›).symm)
  refine Zq k1 (by have:=Zb; omega) V V V ?_
  exact BK.mk' _ ⟨k1 + 1,G10,V,(L7.trans (L9.trans L10)),S11,(ZS V),(by omega),(by exact Ys ‹_› ‹_› ‹_›)⟩ (show c.l.length - (k1 + 1) < c.l.length - k1 by omega)
 exact RI S7 V (by exact (Zt9 ht0 ‹_› (by omega)).symm)
end Go.Civ
namespace Go.Civ
open Go.RowKit
set_option linter.unusedVariables false
def hd1 : Code → Nat
 | .seq x _=>hd1 x
 | .region id _ _=>id
 | _=>1000000
def Zgl (id : Nat) : Code → Option (Code × Code)
 | .seq x y=>bif Nat.beq (hd1 y) id then some (x,y) else (Zgl id y).map fun p=>(.seq x p.1,p.2)
 | _=>none
section
variable {P : Program} {N : Nat} {w : World}
theorem Zqq : ∀ c : Code,Znc [] c = false:=by
 intro c
 induction c <;> simp_all [Znc]
theorem ZrO (F : FTab P) {id : Nat} {R : Env → World → Prop} {Q : Exit → Env → World → Prop} : ∀ {c a b : Code} {ρ : Env} {w : World},Zgl id c = some (a,b) → okD N a = true → okD N b = true → goC F N [] a (Zc4 R Q) ρ w → (∀ ρ w,R ρ w → goC F N [] b Q ρ w) → WC P N c Q ρ w:=by
 intro c
 induction c with
 | seq x y ihx ihy=>
  intro a b ρ w hs ha hb h k
  rw [Zgl] at hs
  cases hh : Nat.beq (hd1 y) id with
  | true=>
   rw [hh] at hs
   simp only [cond_true,Option.some.injEq,Prod.mk.injEq] at hs
   obtain ⟨rfl,rfl⟩:=hs
   refine WC.seq ((goC.ok ha h).mono fun e ρ w hq=>?_)
   cases e <;> first | exact goC.ok hb (k _ _ hq) | exact hq
  | false=>
   rw [hh] at hs
   simp only [cond_false,Option.map_eq_some_iff] at hs
   obtain ⟨⟨a',b'⟩,hs',he⟩:=hs
   simp only [Prod.mk.injEq] at he
   obtain ⟨rfl,rfl⟩:=he
   have ha2 : okD N x = true ∧ okD N a' = true:=by simpa [okD] using ha
   have h2 : goC F N [] x (Zc4 (goC F N [] a' (Zc4 R Q)) (Zc4 R Q)) ρ w:=by
    unfold goC at h
    rw [Zqq] at h
    exact h
   refine WC.seq ((goC.ok ha2.1 h2).mono fun e ρ w hq=>?_)
   cases e <;> first | exact ihy hs' ha2.2 hb hq k | exact hq
 | _=>intro a b ρ w hs; simp [Zgl] at hs
theorem ZlS {f : FuncId} {fn : Func} {c a b : Code} {args : Array Value} {E : Ending → World → Prop} (F : FTab P) (id : Nat) (R : Env → World → Prop)
  (hf : P.funcs[f]? = some fn) (hb : fn.body = some c) (hle : Nat.ble args.size fn.ntmps = true) (hs : Zgl id c = some (a,b))
  (h : goC F fn.ntmps [] a (Zc4 R (Zqw fn.results.toList E)) (fun t=>args.getD t undef) w) (k : ∀ ρ w,R ρ w → goC F fn.ntmps [] b (Zqw fn.results.toList E) ρ w)
  (ha : okD fn.ntmps a = true:=by kernel_rfl) (hb2 : okD fn.ntmps b = true:=by kernel_rfl) : Calls P f args w E:=by
 refine ZgC (N:=fn.ntmps) hf hb rfl hle ((ZrO F hs ha hb2 h k).mono fun e ρ w hq=>?_)
 cases e with
 | normal=>exact hq.h
 | ret=>exact hq.h
 | _=>exact hq.elim
end
end Go.Civ
