/- Lemmas. -/
import Derived.Test.YtecneejegecmhaaGreatDoorK25
import Derived.Test.YtecneejegecmhaaGreatDoorK26
set_option linter.unusedVariables false
set_option linter.unusedSimpArgs false
set_option linter.unnecessarySimpa false
namespace Go.Civ
open Go.RowKit
set_option linter.unusedVariables false
section
variable {P : Program} {ρ : Env} {w : World} {ops : Array Oper} {K : Env → World → Prop}
variable {d : Nat} {ty : TypeId} {pos : String} {af : Array Edge} {g : Option (Nat × Bool)}
def wrM (a b : Int) : Int:=IntKind.i64.wrap (a * b)
theorem Zu6 (a b : Int) : Zj (wrM a b):=by unfold wrM; rw [IntKind.wrap_i64]; constructor <;> omega
theorem Zu7 {t ty' : TypeId} {x y : Operand} (a b : Int)
  (hw : Region.wanted ⟨some d, .binOp .mul t x y ty',ty,pos,af,g⟩ (Zu ops ρ) = true) (hx : ev ρ x = .int .i64 a) (hy : ev ρ y = .int .i64 b)
  (kk : K (ZQ ρ d (.int .i64 (wrM a b))) w) : OW P ops ⟨some d, .binOp .mul t x y ty',ty,pos,af,g⟩ ρ w K:=by
 refine WL.val hw ?_ rfl kk
 have h : (binOp .mul t (.int .i64 a) (.int .i64 b)).run P w = .ok (.int .i64 (wrM a b)) w:=Zor .mul t .i64 a b
 simp [execOp,hx,hy,XV,Result.andThen,h]
end
def ZaT (a b : Int) : Int × Int:=if a = 0 ∨ b = 0 then (0,0) else if (wrM a b).tdiv b = a then (wrM a b,0) else (0,9)
section
variable {a b v : Int} {c : UInt8} {f : Str → Int} {est : List Int} {s : Stp} {l : List Stp} {k : Nat} {x : Int}
theorem ZnR (h : a = 0 ∨ b = 0) : (0 : Int) = (ZaT a b).1 ∧ (0 : Int) = (ZaT a b).2:=by unfold ZaT; rw [if_pos h]; exact ⟨rfl,rfl⟩
theorem Zxu (h1 : ¬ a = 0) (h2 : ¬ b = 0) (h : ¬ (wrM a b).tdiv b = a) : (0 : Int) = (ZaT a b).1 ∧ (9 : Int) = (ZaT a b).2:=by unfold ZaT; rw [if_neg (by omega),if_neg h]; exact ⟨rfl,rfl⟩
theorem Zxv (h1 : ¬ a = 0) (h2 : ¬ b = 0) (h : (wrM a b).tdiv b = a) : wrM a b = (ZaT a b).1 ∧ (0 : Int) = (ZaT a b).2:=by unfold ZaT; rw [if_neg (by omega),if_pos h]; exact ⟨rfl,rfl⟩
theorem Z1w (ha : Xs a) (hb : Xs b) (h : ¬ (ZaT a b).2 = 0) : 4398046511104 = Yv a b:=by
 unfold ZaT at h
 split at h
 ·exact absurd rfl h
 ·rename_i h0
  split at h
  ·exact absurd rfl h
  ·rename_i h1
   have hb0 : 0 < b:=by have:=hb.1; omega
   unfold Yv
   by_cases e : 4398046511104 < a * b
   ·rw [if_pos e]
   ·exfalso; apply h1
    have hm:=Int.mul_nonneg ha.1 hb.1
    have hw : wrM a b = a * b:=by unfold wrM; rw [IntKind.wrap_i64]; omega
    rw [hw]; exact Int.mul_tdiv_cancel _ (by omega)
theorem Z1x (ha : Xs a) (hb : Xs b) (h : (ZaT a b).2 = 0) : min (ZaT a b).1 4398046511104 = Yv a b:=by
 unfold ZaT at h ⊢
 split at h
 ·rename_i h0
  rw [if_pos h0]
  have : a * b = 0:=by rcases h0 with h0 | h0 <;> simp [h0]
  unfold Yv; rw [this]; decide
 ·rename_i h0
  rw [if_neg h0]
  split at h
  ·rename_i h1
   rw [if_pos h1]; exact Zrv ha hb (by omega) rfl h1
  ·cases h
theorem ZnS (h : (c.toNat : Int) = 95 ∨ (c.toNat : Int) = 47 ∨ (c.toNat : Int) = 43 ∨ (c.toNat : Int) = 45) : ZaG c = true:=by
 have e : ∀ {u : UInt8},(c.toNat : Int) = (u.toNat : Int) → c = u:=fun h=>UInt8.toNat_inj.1 (by omega)
 rcases h with h | h | h | h
 ·rw [e (u:=95) h]; decide
 ·rw [e (u:=47) h]; decide
 ·rw [e (u:=43) h]; decide
 ·rw [e (u:=45) h]; decide
theorem Z1y (h1 : YQ (c.toNat : Int) = false) (h2 : QE (c.toNat : Int) = false) (h3 : ¬ (c.toNat : Int) = 95) (h4 : ¬ (c.toNat : Int) = 47) (h5 : ¬ (c.toNat : Int) = 43) (h6 : ¬ (c.toNat : Int) = 45) : ZaG c = false:=by
 have e : ((c.toNat : Int).toNat.toUInt8) = c:=by rw [Int.toNat_natCast]; exact UInt8.ofNat_toNat
 have n : ∀ u : UInt8,¬ (c.toNat : Int) = (u.toNat : Int) → (u == c) = false:=fun u h=>by
  rw [beq_eq_false_iff_ne]; intro e; subst e; exact h rfl
 refine ZkJ h1 h2 ?_
 rw [e]
 simp [Lib.indexByte,n 95 h3,n 47 h4,n 43 h5,n 45 h6]
theorem ZnT (h0 : 0 ≤ x) (h : est[x.toNat]? = some v) : v = YI est x:=by unfold YI; rw [if_pos h0,h]; rfl
theorem Z1z (h : s.q.kind = 1) : min (max 0 (f s.q.table)) 4398046511104 = YT f est s:=by rw [← ZwO h]; omega
theorem Z10 (h : s.q.kind = 2) (ha : a = YI est s.a) : (a + 1) / 2 = YT f est s:=by rw [← ZwP h,ha]
theorem ZzM (h : s.q.kind = 5) (h2 : (s.keys.length : Int) = 0) (ha : a = YI est s.a) (hb : b = YI est s.b) : Yv a b = YT f est s:=by rw [← ZsU h h2,ha,hb]
theorem ZzN (h : s.q.kind = 5) (h2 : ¬ (s.keys.length : Int) = 0) (ha : a = YI est s.a) (hb : b = YI est s.b) : max a b = YT f est s:=by rw [← ZsV h h2,ha,hb]
theorem ZzO (h : s.q.kind = 10) (ha : a = YI est s.a) (hb : b = YI est s.b) : Yv a b = YT f est s:=by rw [← ZsW h,ha,hb]
theorem Zxw (h1 : ¬ s.q.kind = 1) (h2 : ¬ s.q.kind = 2) (h5 : ¬ s.q.kind = 5) (h6 : ¬ s.q.kind = 6) (h10 : ¬ s.q.kind = 10) (ha : a = YI est s.a) : a = YT f est s:=by rw [← ZwQ h1 h2 h5 h6 h10,ha]
theorem Za2 {e : Int} (h : l[k]? = some s) (he : e = YT f (YF f (l.take k)).1 s) : (YF f (l.take k)).1 ++ [e] = (YF f (l.take (k + 1))).1:=by rw [← ZyD h,he]
end
end Go.Civ
set_option linter.unusedVariables false
namespace Go.Civ
open Go.Proofs Go.RowKit
theorem Zr8 (n : Int) (h : Zj n) (w : World) : Calls Tryz.prog 140 #[.int .i64 n] w fun e w'=>e = .returned (.int .u64 ((n.natAbs : Nat) : Int)) ∧ w' = w:=by
 obtain ⟨h1,h2⟩:=h
 by_cases hn : n < 0
 ·go_enter Tryz.func140,Tryz.ntmps140
  go_wp2
  all_goals first | (exfalso; omega) | (go_ret; exact ⟨by simp [IntKind.wrap,IntKind.bits,IntKind.signed]; omega,rfl⟩)
 ·go_enter Tryz.func140,Tryz.ntmps140
  go_wp2
  all_goals first | (exfalso; omega) | (go_ret; exact ⟨by simp [IntKind.wrap,IntKind.bits,IntKind.signed]; omega,rfl⟩)
theorem Zxz {G : GH} {w : World} (hG : G.In w) (n : Int) (h : Zj n) : Calls Tryz.prog (nat_lit 140) #[.int .i64 n] w fun e w'=>∃ r G',e = .returned r ∧ Res [] w G w' G' ∧ r = .int .u64 ((n.natAbs : Nat) : Int):=by
 refine (Zr8 n h w).mono ?_
 rintro e w' ⟨rfl,rfl⟩
 exact ⟨_,G,rfl,Res.refl hG,rfl⟩
end Go.Civ
set_option linter.unusedVariables false
set_option linter.unusedSimpArgs false
set_option maxRecDepth 100000
set_option maxHeartbeats 4000000
namespace Go.Civ
open Go.Proofs
theorem ZcJ {G : GH} {w : World} (hG : G.In w) (n : Int) (k : Nat) (N64 : Zj n) (hk : k ≤ 20) : CL Tryz.prog (nat_lit 95) #[U n,U (k : Int)] [] w G fun _ _ r=>r = Za (Z8 n k):=by
 refine Zg ft [] Tryz.func95 V V ?_
 have hS:=St.start (X:=[]) hG
 refine Zp (k : Int) 0 V V V (fun h1=>?_) (fun h1=>?_)
 ·exact RT hS V (congrArg Za (by (exfalso; omega)))
 refine Z1 (k : Int) 20 V V V (fun h2=>?_) (fun h2=>?_)
 ·exact RT hS V (congrArg Za (by (exfalso; omega)))
 refine WL.alloc hS ZzL V V (fun b1 w1 N1 S1=>?_)
 have R1:=YX.ofArr (G:=G) b1 (nat_lit 171) 24 (by decide)
 refine Zl S1 Zzh V V V (Zxz S1.imm n ‹_›) (fun w2 G1 S2 L1=>?_)
 refine LP.go ft [] (fun m ρ1 w1=>∃ (aa : Nat),∃ (mm : Nat),∃ (ll : List UInt8),∃ (o1 : OB),∃ (G2 : GH),m = aa + 1 ∧ G1.le G2 ∧ St w [] G G2 [o1] w1 ∧ YX Enc.u8 1 171 G2 (.slice (some ⟨b1,0,none⟩) 24 24) ll o1 ∧ FR ρ1 [(0,U n),(1,U (k : Int)),(5, .pointer (some ⟨b1,0,none⟩)),(6,U (aa : Int)),(7, .int .u64 (mm : Int))] ∧ aa ≤ 24 ∧ ll.length = 24 ∧ ZA mm (max k 1 - (24 - aa)) ++ ll.drop aa = ZA n.natAbs (max k 1) ∧ mm < 18446744073709551616) _ ⟨24,n.natAbs,(List.replicate 24 0),some (b1,(nat_lit 171),List.replicate 24 (Value.int .u8 0)),G1,V,(G1.le_refl),S2,(R1.mono L1),(ZS V),(by omega),(by rfl),(by simp),(by obtain ⟨h8,h9⟩:=N64; omega)⟩ ?_
 rintro m ρ1 w3 ⟨aa,mm,ll,o1,G2,rfl,L2,S3,R2,F9,f1,f2,f3,f4⟩
 refine F9.set ?_
 clear F9
 have ha4 : 4 ≤ aa:=Z0J ‹_› ‹_› ‹_› (p20 N64) (by omega)
 refine Zui mm 0 V V V (fun h3=>?_) (fun h3=>?_)
 ·refine XW aa (by omega) (by have:=Zb; omega) V V V ?_
  refine ZmB mm 10 (by omega) V V V ?_
  refine Zm9 48 (mm % 10) (by omega) V V V ?_
  refine Zlg (48 + (mm % 10)) Ztg ul5 V V ?_
  refine Zcf R2 (aa - 1) (by omega) Zip ti5 V V V V (fun p1 x1 ec1 U1 R3 ra1=>?_)
  obtain rfl:=R3
  refine XJ R2 ra1 S3 0 V (by omega) V 0 _ [.int .u8 ((UInt8.ofNat (48 + (mm % 10))).toNat : Int)] (UInt8.ofNat (48 + (mm % 10))) [.int .u8 ((UInt8.ofNat (48 + (mm % 10))).toNat : Int)] V ti5 V (ZZ V) V V V V V V V (fun o2 w4 R4 S4=>?_)
  refine ZmA mm 10 (by omega) V V V ?_
  exact BK.mk' _ ⟨aa - 1,(mm / 10),(ll.set (aa - 1) (UInt8.ofNat (48 + (mm % 10)))),o2,G2,V,L2,S4,R4,(ZS V),(by omega),(by rw [List.length_set]; omega),(by exact ZmC ‹_› (by omega) (by omega) (by omega) (by omega)),(by omega)⟩ (show (aa - 1) + 1 < aa + 1 by omega)
 have hi1 : Zj (24 - (aa : Int)):=by constructor <;> omega
 refine WL.ar .sub V 24 (aa : Int) V V V hi1 <| ZbN (k : Int) 1 V V V ?_
 refine Zp (24 - (aa : Int)) (max (k : Int) 1) V V V (fun h4=>?_) (fun h4=>?_)
 ·refine XW aa (by omega) (by have:=Zb; omega) V V V ?_
  refine ZmB mm 10 (by omega) V V V ?_
  refine Zm9 48 (mm % 10) (by omega) V V V ?_
  refine Zlg (48 + (mm % 10)) Ztg ul5 V V ?_
  refine Zcf R2 (aa - 1) (by omega) Zip ti5 V V V V (fun p2 x2 ec2 U2 R5 ra2=>?_)
  obtain rfl:=R5
  refine XJ R2 ra2 S3 0 V (by omega) V 0 _ [.int .u8 ((UInt8.ofNat (48 + (mm % 10))).toNat : Int)] (UInt8.ofNat (48 + (mm % 10))) [.int .u8 ((UInt8.ofNat (48 + (mm % 10))).toNat : Int)] V ti5 V (ZZ V) V V V V V V V (fun o3 w5 R6 S5=>?_)
  refine ZmA mm 10 (by omega) V V V ?_
  exact BK.mk' _ ⟨aa - 1,(mm / 10),(ll.set (aa - 1) (UInt8.ofNat (48 + (mm % 10)))),o3,G2,V,L2,S5,R6,(ZS V),(by omega),(by rw [List.length_set]; omega),(by exact ZmC ‹_› (by omega) (by omega) (by omega) (by omega)),(by omega)⟩ (show (aa - 1) + 1 < aa + 1 by omega)
 refine Zp n 0 V V V (fun h5=>?_) (fun h5=>?_)
 ·refine XW aa (by omega) (by have:=Zb; omega) V V V ?_
  refine Zcf R2 (aa - 1) (by omega) Zip ti5 V V V V (fun p3 x3 ec3 U3 R7 ra3=>?_)
  obtain rfl:=R7
  refine XJ R2 ra3 S3 0 V (by omega) V 0 _ [.int .u8 45] (45 : UInt8) [.int .u8 45] V ti5 V (ZZ V) V V V V V V V (fun o4 w6 R8 S6=>?_)
  obtain ⟨G3,L3,A2,S7⟩:=YX.freeze R8 S6 0 V
  refine ZgN A2 (aa - 1) (by (rw [List.length_set]; omega)) Zip ti5 V V V V (fun v1 A1=>?_)
  refine Zb6 A1 S7 ZiJ ul5 X1 V V ?_
  exact RT S7 V (congrArg Za (by exact Zwe ‹_› ‹_› (by omega) ‹_› (by omega) (by omega)))
 obtain ⟨G4,L4,A4,S8⟩:=YX.freeze R2 S3 0 V
 refine ZgN A4 aa (by omega) Zip ti5 V V V V (fun v2 A3=>?_)
 refine Zb6 A3 S8 ZiJ ul5 X1 V V ?_
 exact RT S8 V (congrArg Za (by exact Zwf ‹_› ‹_› (by omega) (by omega)))
end Go.Civ
set_option linter.unusedVariables false
set_option linter.unusedSimpArgs false
set_option maxRecDepth 100000
set_option maxHeartbeats 4000000
namespace Go.Civ
open Go.Proofs
theorem Zab {G : GH} {w : World} (hG : G.In w) (n : Int) (k : Nat) (N64 : Zj n) (hk : k ≤ 20) : CL Tryz.prog (nat_lit 32) #[U n,U (k : Int)] [] w G fun _ _ r=>r = Za (Z8 n k):=by
 refine Zg ft [] Tryz.func32 V V ?_
 have hS:=St.start (X:=[]) hG
 refine Zp (k : Int) 0 V V V (fun h1=>?_) (fun h1=>?_)
 ·exact RT hS V (congrArg Za (by (exfalso; omega)))
 refine Z1 (k : Int) 20 V V V (fun h2=>?_) (fun h2=>?_)
 ·exact RT hS V (congrArg Za (by (exfalso; omega)))
 refine LP.go ft [] (fun m ρ1 w1=>∃ (mm : Int),∃ (ss : List UInt8),∃ (G1 : GH),m = mm.natAbs + 1 ∧ G.le G1 ∧ St w [] G G1 [] w1 ∧ FR ρ1 [(0,U n),(1,U (k : Int)),(5,Za ss),(6,U mm)] ∧ Zj mm ∧ XE mm.natAbs ++ ss = XE n.natAbs) _ ⟨n,[],G,V,(G.le_refl),hS,(ZS V),‹_›,(by simp)⟩ ?_
 rintro m ρ1 w1 ⟨mm,ss,G1,rfl,L1,S1,F9,f1,f2⟩
 refine F9.set ?_
 clear F9
 have hmm64 : Zj mm:=‹_›
 have htm:=@Z0K mm
 have hsl:=Zyf ‹_› (p20 N64)
 refine Zz mm 0 V V V (fun h3=>?_) (fun h3=>?_)
 ·refine Zgx mm 10 (by omega) V V V ?_
  refine Zp (Int.tmod mm 10) 0 V V V (fun h4=>?_) (fun h4=>?_)
  ·have hi1 : Zj (0 - (Int.tmod mm 10)):=by have:=(ZbT (b:=10) hmm64 (by omega)).1; have:=(ZbT (b:=10) hmm64 (by omega)).2; constructor <;> omega
   refine WL.ar .sub V 0 (Int.tmod mm 10) V V V hi1 ?_
   have hi2 : Zj (48 + (0 - (Int.tmod mm 10))):=by have:=hi1.1; have:=hi1.2; constructor <;> omega
   refine WL.ar .add V 48 (0 - (Int.tmod mm 10)) V V V hi2 ?_
   refine Zez (48 + (0 - (Int.tmod mm 10))) (by omega) QC ul5 V V ?_
   refine WL.buildSlice _ [(0,[.int .u8 ((UInt8.ofNat (48 + (0 - (Int.tmod mm 10))).toNat).toNat : Int)])] [.int .u8 ((UInt8.ofNat (48 + (0 - (Int.tmod mm 10))).toNat).toNat : Int)] S1 ZnK V V V V (fun z hz=>by match z,hz with | [z0],_=>rfl) (fun b1 w2 N1 S2=>?_)
   obtain ⟨G2,L2,A1,S3⟩:=St.sealSl (E:=Enc.u8) (by_:=1) (l:=([(UInt8.ofNat (48 + (0 - (Int.tmod mm 10))).toNat)] : List UInt8)) S2 N1 ⟨[.int .u8 ((UInt8.ofNat (48 + (0 - (Int.tmod mm 10))).toNat).toNat : Int)],_,V,V,V⟩ V (by simp [reach]) (by simp [reach])
   refine Zb6 A1 S3 ZiJ ul5 X1 V V ?_
   refine Zh [(UInt8.ofNat (48 + (0 - (Int.tmod mm 10))).toNat)] ss (by have:=hsl; (try simp only [Zo]); have:=Zb; omega) V V V ?_
   refine Zdi mm 10 (by omega) hmm64 V V V ?_
   have hmd:=Zst (by assumption : mm ≠ 0)
   exact BK.mk' _ ⟨(Int.tdiv mm 10),([(UInt8.ofNat (48 + (0 - (Int.tmod mm 10))).toNat)] ++ ss),G2,V,(L1.trans L2),S3,(ZS V),(by exact Zdl ‹_› (by decide)),(by exact Zyd ‹_› ‹_› ‹_›)⟩ (show (Int.tdiv mm 10).natAbs + 1 < mm.natAbs + 1 by omega)
  have hi3 : Zj (48 + (Int.tmod mm 10)):=by have:=(ZbT (b:=10) hmm64 (by omega)).1; have:=(ZbT (b:=10) hmm64 (by omega)).2; constructor <;> omega
  refine WL.ar .add V 48 (Int.tmod mm 10) V V V hi3 ?_
  refine Zez (48 + (Int.tmod mm 10)) (by omega) QC ul5 V V ?_
  refine WL.buildSlice _ [(0,[.int .u8 ((UInt8.ofNat (48 + (Int.tmod mm 10)).toNat).toNat : Int)])] [.int .u8 ((UInt8.ofNat (48 + (Int.tmod mm 10)).toNat).toNat : Int)] S1 ZnK V V V V (fun z hz=>by match z,hz with | [z0],_=>rfl) (fun b2 w3 N2 S4=>?_)
  obtain ⟨G3,L3,A2,S5⟩:=St.sealSl (E:=Enc.u8) (by_:=1) (l:=([(UInt8.ofNat (48 + (Int.tmod mm 10)).toNat)] : List UInt8)) S4 N2 ⟨[.int .u8 ((UInt8.ofNat (48 + (Int.tmod mm 10)).toNat).toNat : Int)],_,V,V,V⟩ V (by simp [reach]) (by simp [reach])
  refine Zb6 A2 S5 ZiJ ul5 X1 V V ?_
  refine Zh [(UInt8.ofNat (48 + (Int.tmod mm 10)).toNat)] ss (by have:=hsl; (try simp only [Zo]); have:=Zb; omega) V V V ?_
  refine Zdi mm 10 (by omega) hmm64 V V V ?_
  have hmd:=Zst (by assumption : mm ≠ 0)
  exact BK.mk' _ ⟨(Int.tdiv mm 10),([(UInt8.ofNat (48 + (Int.tmod mm 10)).toNat)] ++ ss),G3,V,(L1.trans L3),S5,(ZS V),(by exact Zdl ‹_› (by decide)),(by exact Zye ‹_› ‹_› (by omega))⟩ (show (Int.tdiv mm 10).natAbs + 1 < mm.natAbs + 1 by omega)
 refine LP.go ft [] (fun m ρ1 w1=>∃ (st : List UInt8),∃ (G4 : GH),m = max k 1 - st.length + 1 ∧ G1.le G4 ∧ St w [] G G4 [] w1 ∧ FR ρ1 [(0,U n),(1,U (k : Int)),(5,Za st)] ∧ ZeW st (XE n.natAbs) (max k 1)) _ ⟨ss,G1,V,(G1.le_refl),S1,⟨V,V,V,trivial⟩,(by exact Z0L ‹_› (by omega))⟩ ?_
 rintro m ρ1 w4 ⟨st,G4,rfl,L4,S6,F9,f3⟩
 refine F9.set ?_
 clear F9
 have hsl2:=Z0M ‹_› (p20 N64) hk
 refine Zn .eql V st [] V V V ?_
 refine WL.split (fun h0=>?_) (fun h0=>?_)
 ·have h5 : st = []:=by simpa [SCmp.b] using h0
  clear h0
  refine Zh [48] st (by have:=hsl2; (try simp only [Zo]); have:=Zb; omega) V V V ?_
  have hrz:=Zwg ‹_› (by exact .inl ‹_›)
  exact BK.mk' _ ⟨([48] ++ st),G4,V,L4,S6,⟨V,V,V,trivial⟩,(by exact ZqZ ‹_› (.inl ‹_›))⟩ (show max k 1 - ([48] ++ st).length + 1 < max k 1 - st.length + 1 by omega)
 have h5 : st ≠ []:=by simpa [SCmp.b] using h0
 clear h0
 refine YN st X1 V V ?_
 refine Zp (st.length : Int) (k : Int) V V V (fun h6=>?_) (fun h6=>?_)
 ·refine Zh [48] st (by have:=hsl2; (try simp only [Zo]); have:=Zb; omega) V V V ?_
  have hrz:=Zwg ‹_› (by first | exact .inl ‹_› | exact .inr ‹_› : st = [] ∨ (st.length : Int) < (k : Int))
  exact BK.mk' _ ⟨([48] ++ st),G4,V,L4,S6,⟨V,V,V,trivial⟩,(by first | exact ZqZ ‹_› (.inl ‹_›) | exact ZqZ ‹_› (.inr ‹_›))⟩ (show max k 1 - ([48] ++ st).length + 1 < max k 1 - st.length + 1 by omega)
 refine Zp n 0 V V V (fun h7=>?_) (fun h7=>?_)
 ·refine Zh [45] st (by have:=hsl2; (try simp only [Zo]); have:=Zb; omega) V V V ?_
  exact RT S6 V (congrArg Za (by first | (exfalso; omega) | exact ZmE ‹_› ‹_› (by omega) ‹_› | exact ZmF ‹_› ‹_› (by omega) (by omega)))
 exact RT S6 V (congrArg Za (by first | (exfalso; omega) | exact ZmE ‹_› ‹_› (by omega) ‹_› | exact ZmF ‹_› ‹_› (by omega) (by omega)))
theorem Zes {G : GH} {w : World} (hG : G.In w) (n : Int) (k : Nat) (N64 : Zj n) (h0 : 0 ≤ n) (hp : n.natAbs < 10 ^ k) (hk : k ≤ 20) : CL Tryz.prog (nat_lit 215) #[U n,U (k : Int)] [] w G fun _ _ r=>r = Za (ZA n.natAbs k):=by
 refine Zg ft [] Tryz.func215 V V ?_
 have hS:=St.start (X:=[]) hG
 refine LP.go ft [] (fun m ρ1 w1=>∃ (k1 : Nat),∃ (nn : Int),∃ (ss : List UInt8),∃ (G1 : GH),m = k - k1 ∧ G.le G1 ∧ St w [] G G1 [] w1 ∧ FR ρ1 [(0,U nn),(1,U (k : Int)),(5,Za ss),(6,U (k1 : Int))] ∧ k1 ≤ k ∧ 0 ≤ nn ∧ Zj nn ∧ ZA nn.natAbs (k - k1) ++ ss = ZA n.natAbs k ∧ nn.natAbs < 10 ^ (k - k1) ∧ ss.length ≤ k1) _ ⟨0,n,[],G,V,(G.le_refl),hS,(ZS V),(by omega),‹_›,‹_›,(by simp),‹_›,(by simp)⟩ ?_
 rintro m ρ1 w1 ⟨k1,nn,ss,G1,rfl,L1,S1,F9,f1,f2,f3,f4,f5,f6⟩
 refine F9.set ?_
 clear F9
 have hnn64 : Zj nn:=‹_›
 have hsl : ss.length ≤ 20:=by omega
 refine Zp (k1 : Int) (k : Int) V V V (fun h1=>?_) (fun h1=>?_)
 ·refine XG nn 10 (by omega) (by omega) V V V ?_
  have hi1 : Zj (48 + (nn % 10)):=by constructor <;> omega
  refine WL.ar .add V 48 (nn % 10) V V V hi1 ?_
  refine ZqY (48 + (nn % 10)) (by omega) (by omega) QC Zxs V V ?_
  refine Znu (48 + (nn % 10)) (by omega) (by omega) Zxs X1 V V ?_
  refine Zh [UInt8.ofNat (48 + (nn % 10)).toNat] ss (by have:=hsl; (try simp only [Zo]); have:=Zb; omega) V V V ?_
  refine YZ nn 10 (by omega) (by omega) hnn64 V V V ?_
  refine Zq k1 (by have:=Zb; omega) V V V ?_
  exact BK.mk' _ ⟨k1 + 1,(nn / 10),([UInt8.ofNat (48 + (nn % 10)).toNat] ++ ss),G1,V,L1,S1,(ZS V),(by omega),(by omega),(by exact Zum hnn64 (by omega)),(by rw [show k - (k1 + 1) = k - k1 - 1 by omega]; exact Z0N ‹_› ‹_› (by omega)),(by rw [show k - (k1 + 1) = k - k1 - 1 by omega]; exact Z0O ‹_› ‹_› (by omega)),(by simp only [Zo]; omega)⟩ (show k - (k1 + 1) < k - k1 by omega)
 exact RT S1 V (congrArg Za (by exact Z0P ‹_› (by omega) ‹_›))
theorem Zhx {G : GH} {w : World} (hG : G.In w) (n : Int) (h0 : 0 ≤ n) (h1 : n < 100) : CL Tryz.prog (nat_lit 191) #[U n] [] w G fun _ _ r=>r = Za (ZA n.natAbs 2):=by
 refine Zg ft [] Tryz.func191 V V ?_
 have N64 : Zj n:=⟨by omega,by omega⟩
 have hS:=St.start (X:=[]) hG
 refine YZ n 10 (by omega) (by omega) N64 V V V ?_
 refine XG (n / 10) 10 (by omega) (by omega) V V V ?_
 have hi1 : Zj (48 + ((n / 10) % 10)):=by constructor <;> omega
 refine WL.ar .add V 48 ((n / 10) % 10) V V V hi1 ?_
 refine Zez (48 + ((n / 10) % 10)) (by omega) QC ul5 V V ?_
 refine XG n 10 (by omega) (by omega) V V V ?_
 have hi2 : Zj (48 + (n % 10)):=by constructor <;> omega
 refine WL.ar .add V 48 (n % 10) V V V hi2 ?_
 refine Zez (48 + (n % 10)) (by omega) QC ul5 V V ?_
 refine WL.buildSlice _ [(0,[.int .u8 ((UInt8.ofNat (48 + ((n / 10) % 10)).toNat).toNat : Int)]),(1,[.int .u8 ((UInt8.ofNat (48 + (n % 10)).toNat).toNat : Int)])] [.int .u8 ((UInt8.ofNat (48 + ((n / 10) % 10)).toNat).toNat : Int), .int .u8 ((UInt8.ofNat (48 + (n % 10)).toNat).toNat : Int)] hS ZnK V V V V (fun z hz=>by match z,hz with | [z0,z1],_=>rfl) (fun b1 w1 N1 S1=>?_)
 obtain ⟨G1,L1,A1,S2⟩:=St.sealSl (E:=Enc.u8) (by_:=1) (l:=([(UInt8.ofNat (48 + ((n / 10) % 10)).toNat),(UInt8.ofNat (48 + (n % 10)).toNat)] : List UInt8)) S1 N1 ⟨[.int .u8 ((UInt8.ofNat (48 + ((n / 10) % 10)).toNat).toNat : Int)],_,V,V,⟨[.int .u8 ((UInt8.ofNat (48 + (n % 10)).toNat).toNat : Int)],_,V,V,V⟩⟩ V (by simp [reach]) (by simp [reach])
 refine Zb6 A1 S2 ZiJ ul5 X1 V V ?_
 exact RT S2 V (congrArg Za (by exact Zyg h0 h1))
theorem ZpL {G : GH} {w : World} (hG : G.In w) (y : Int) : CL Tryz.prog (nat_lit 211) #[U y] [] w G fun _ _ r=>r = .bool (decide (1 ≤ y) && decide (y ≤ 9999)):=by
 refine Zg ft [] Tryz.func211 V V ?_
 have hS:=St.start (X:=[]) hG
 refine ZM y 1 V V V (fun h1=>?_) (fun h1=>?_)
 ·refine Yd .leq V .i64 y 9999 V V V ?_
  exact RB hS V (by simp_all [Cmp.b] <;> (first | omega | (intros; omega) | (rw [Bool.eq_iff_iff]; simp <;> omega) | (rw [Bool.eq_iff_iff]; simp_all <;> omega)))
 exact RB hS V (by simp_all [Cmp.b] <;> (omega))
theorem Zx0 {G : GH} {w : World} (hG : G.In w) (y : Int) (hy : 1 ≤ y ∧ y ≤ 9999) : CL Tryz.prog (nat_lit 212) #[U y] [] w G fun _ _ r=>r = .bool (XF y):=by
 refine Zg ft [] Tryz.func212 V V ?_
 have hy64 : Zj y:=⟨by omega,by omega⟩
 have hS:=St.start (X:=[]) hG
 refine Zl hS Ztz V V V (ZpL hS.imm y) (fun w1 G1 S1 L1=>?_)
 refine WL.split (fun (h1 : (decide (1 ≤ y) && decide (y ≤ 9999)) = true)=>?_) (fun (h1 : (decide (1 ≤ y) && decide (y ≤ 9999)) = false)=>?_)
 ·refine XG y 4 (by omega) (by omega) V V V ?_
  refine Ze (y % 4) 0 V V V (fun h2=>?_) (fun h2=>?_)
  ·refine XG y 100 (by omega) (by omega) V V V ?_
   refine Zz (y % 100) 0 V V V (fun h3=>?_) (fun h3=>?_)
   ·exact RB S1 V (by (unfold XF; simp_all [Cmp.b] <;> omega))
   refine XG y 400 (by omega) (by omega) V V V ?_
   refine Yd .eql V .i64 (y % 400) 0 V V V ?_
   exact RB S1 V (by (rw [Bool.eq_iff_iff,ZbJ]; simp_all [Cmp.b] <;> omega))
  exact RB S1 V (by (unfold XF; simp_all [Cmp.b] <;> omega))
 exact RB S1 V (by (unfold XF; simp_all [Cmp.b] <;> omega))
theorem ZpM {G : GH} {w : World} (hG : G.In w) (y : Int) (hy : 1 ≤ y ∧ y ≤ 9999) : CL Tryz.prog (nat_lit 230) #[U y] [] w G fun _ _ r=>r = .bool (XF y):=by
 refine Zg ft [] Tryz.func230 V V ?_
 have hy64 : Zj y:=⟨by omega,by omega⟩
 have hS:=St.start (X:=[]) hG
 refine Zp y 1 V V V (fun h1=>?_) (fun h1=>?_)
 ·exact RB hS V (by omega)
 refine Z1 y 9999 V V V (fun h2=>?_) (fun h2=>?_)
 ·exact RB hS V (by omega)
 refine XG y 400 (by omega) (by omega) V V V ?_
 refine Ze (y % 400) 0 V V V (fun h3=>?_) (fun h3=>?_)
 ·exact RB hS V (by (unfold XF; simp_all [Cmp.b] <;> omega))
 refine XG y 4 (by omega) (by omega) V V V ?_
 refine Ze (y % 4) 0 V V V (fun h4=>?_) (fun h4=>?_)
 ·refine XG y 100 (by omega) (by omega) V V V ?_
  refine Yd .neq V .i64 (y % 100) 0 V V V ?_
  exact RB hS V (by (rw [Bool.eq_iff_iff,ZbJ]; simp_all [Cmp.b] <;> omega))
 exact RB hS V (by (unfold XF; simp_all [Cmp.b] <;> omega))
theorem Zr9 {G : GH} {w : World} (hG : G.In w) (y m : Int) (hy : 1 ≤ y ∧ y ≤ 9999) (hm : 1 ≤ m ∧ m ≤ 12) : CL Tryz.prog (nat_lit 188) #[U y,U m] [] w G fun _ _ r=>r = U (Xo y m):=by
 refine Zg ft [] Tryz.func188 V V ?_
 have hS:=St.start (X:=[]) hG
 refine Zl hS Ztz V V V (ZpL hS.imm y) (fun w1 G1 S1 L1=>?_)
 refine WL.split (fun (h1 : (decide (1 ≤ y) && decide (y ≤ 9999)) = true)=>?_) (fun (h1 : (decide (1 ≤ y) && decide (y ≤ 9999)) = false)=>?_)
 ·refine Zp m 1 V V V (fun h2=>?_) (fun h2=>?_)
  ·exact RI S1 V (by (exfalso; simp_all <;> omega))
  refine Z1 m 12 V V V (fun h3=>?_) (fun h3=>?_)
  ·exact RI S1 V (by (exfalso; simp_all <;> omega))
  refine Ze m 2 V V V (fun h4=>?_) (fun h4=>?_)
  ·refine Zl S1 ZzB V V V (Zx0 S1.imm y ‹_›) (fun w2 G2 S2 L2=>?_)
   refine WL.split (fun (h5 : (XF y) = true)=>?_) (fun (h5 : (XF y) = false)=>?_)
   ·exact RI S2 V (by exact ZmG hy ‹_› ‹_›)
   refine Zb5 _ [(0,[U 31]),(1,[U 28]),(2,[U 31]),(3,[U 30]),(4,[U 31]),(5,[U 30]),(6,[U 31]),(7,[U 31]),(8,[U 30]),(9,[U 31]),(10,[U 30]),(11,[U 31])] [U 31,U 28,U 31,U 30,U 31,U 30,U 31,U 31,U 30,U 31,U 30,U 31] Zt3 Zkn Zk V V V V ?_
   have hi1 : Zj (m - 1):=by constructor <;> omega
   refine WL.ar .sub V m 1 V V V hi1 ?_
   refine ZfN ([31,28,31,30,31,30,31,31,30,31,30,31] : List Int) (((m - 1)).toNat) (by (simp only [List.length_cons,List.length_nil]; omega)) Zkn V Zk V V V V (congrArg (Value.int .i64) (Int.toNat_of_nonneg (show (0 : Int) ≤ (m - 1) by omega)).symm) (fun c1 U1=>?_)
   exact RI S2 V (by exact Zsv hy hm (fun e=>by (have h9:=e.2; simp_all)) ‹_›)
  refine Zb5 _ [(0,[U 31]),(1,[U 28]),(2,[U 31]),(3,[U 30]),(4,[U 31]),(5,[U 30]),(6,[U 31]),(7,[U 31]),(8,[U 30]),(9,[U 31]),(10,[U 30]),(11,[U 31])] [U 31,U 28,U 31,U 30,U 31,U 30,U 31,U 31,U 30,U 31,U 30,U 31] Zt3 Zkn Zk V V V V ?_
  have hi2 : Zj (m - 1):=by constructor <;> omega
  refine WL.ar .sub V m 1 V V V hi2 ?_
  refine ZfN ([31,28,31,30,31,30,31,31,30,31,30,31] : List Int) (((m - 1)).toNat) (by (simp only [List.length_cons,List.length_nil]; omega)) Zkn V Zk V V V V (congrArg (Value.int .i64) (Int.toNat_of_nonneg (show (0 : Int) ≤ (m - 1) by omega)).symm) (fun c2 U2=>?_)
  exact RI S1 V (by exact Zsv hy hm (fun e=>by omega) ‹_›)
 exact RI S1 V (by (exfalso; simp_all <;> omega))
theorem Zet {G : GH} {w : World} (hG : G.In w) (y m : Int) (hy : 1 ≤ y ∧ y ≤ 9999) (hm : 1 ≤ m ∧ m ≤ 12) : CL Tryz.prog (nat_lit 218) #[U y,U m] [] w G fun _ _ r=>r = U (Xo y m):=by
 refine Zg ft [] Tryz.func218 V V ?_
 have hS:=St.start (X:=[]) hG
 refine Zp y 1 V V V (fun h1=>?_) (fun h1=>?_)
 ·exact RI hS V (by (exfalso; omega))
 refine Z1 y 9999 V V V (fun h2=>?_) (fun h2=>?_)
 ·exact RI hS V (by (exfalso; omega))
 refine Zp m 1 V V V (fun h3=>?_) (fun h3=>?_)
 ·exact RI hS V (by (exfalso; omega))
 refine Z1 m 12 V V V (fun h4=>?_) (fun h4=>?_)
 ·exact RI hS V (by (exfalso; omega))
 refine Ze m 2 V V V (fun h5=>?_) (fun h5=>?_)
 ·refine Zl hS ZzK V V V (ZpM hS.imm y ‹_›) (fun w1 G1 S1 L1=>?_)
  refine WL.split (fun (h6 : (XF y) = true)=>?_) (fun (h6 : (XF y) = false)=>?_)
  ·exact RI S1 V (by exact ZmG hy ‹_› ‹_›)
  exact RI S1 V (by exact Zuk hy ‹_› ‹_›)
 refine Ze m 4 V V V (fun h7=>?_) (fun h7=>?_)
 ·exact RI hS V (by exact ZhS hy hm ‹_› (by omega))
 refine Ze m 6 V V V (fun h8=>?_) (fun h8=>?_)
 ·exact RI hS V (by exact ZhS hy hm ‹_› (by omega))
 refine Ze m 9 V V V (fun h9=>?_) (fun h9=>?_)
 ·exact RI hS V (by exact ZhS hy hm ‹_› (by omega))
 refine Ze m 11 V V V (fun h10=>?_) (fun h10=>?_)
 ·exact RI hS V (by exact ZhS hy hm ‹_› (by omega))
 exact RI hS V (by exact Zwn hy hm ‹_› (by omega))
end Go.Civ
set_option linter.unusedVariables false
namespace Go.Civ
open Go.Proofs Go.Shelf Go.RowKit
theorem Zgf : Builder.Extra Tryz.prog Tryz.sJoin_ren where
 sizeBuilder:=by kernel_rfl
 liesBuilder:=by kernel_rfl
 t5:=Tryz.underlying5
 a5:=Tryz.isAgg5
 z5:=Tryz.sizeOf5
 v5:=Tryz.zeroValue5
 infoByte:=by kernel_rfl
 cellsByte:=by kernel_rfl
 sizeByte:=by kernel_rfl
 neB5:=by decide
theorem Zx4 : Builder.Extra Tryz.prog Tryz.sRepl_ren where
 sizeBuilder:=by kernel_rfl
 liesBuilder:=by kernel_rfl
 t5:=Tryz.underlying5
 a5:=Tryz.isAgg5
 z5:=Tryz.sizeOf5
 v5:=Tryz.zeroValue5
 infoByte:=by kernel_rfl
 cellsByte:=by kernel_rfl
 sizeByte:=by kernel_rfl
 neB5:=by decide
theorem ZpT (l : List Str) : (l.map fun s=>(⟨s.toArray⟩ : ByteArray)).map (·.data.toList) = l:=by
 induction l with
 | nil=>rfl
 | cons a l ih=>simp only [List.map_cons,ih]
theorem ZcK {G : GH} {w : World} (hG : G.In w) (l : List Str) (sep : Str) (v : Value) (h : Sl Enc.str 16 G v l) (hb : (Z2 sep l).length ≤ 1000000) :
  Calls Tryz.prog (nat_lit 177) #[v,Za sep] w fun e w'=>∃ r G',e = .returned r ∧ Res [] w G w' G' ∧ r = Za (Z2 sep l):=by
 obtain ⟨a,cap,rfl,h1,h2,h3,h4⟩:=h
 cases l with
 | nil=>
  refine (Any.strings_Join_none Tryz.sJoin Zgf a cap ⟨sep.toArray⟩ w).mono ?_
  rintro e w' ⟨rfl,rfl⟩
  exact ⟨_,G,rfl,Res.refl hG,rfl⟩
 | cons x r=>
  obtain ⟨p,rfl,hp,_⟩:=h4 0 x rfl
  obtain ⟨b,o,sp⟩:=p
  obtain rfl : sp = none:=hp
  have hcell : ∀ (j : Nat) s,(x :: r)[j]? = some s → w.cell? ⟨b,o + j,none⟩ = some (Za s):=by
   intro j s hs
   obtain ⟨p,e,_,cs,hc,hr⟩:=h4 j s hs
   obtain rfl:=Option.some.inj e
   obtain ⟨rfl,_⟩:=hr
   rw [YC _ _ rfl] at hc
   have:=hc.cell hG (j:=0) (v:=Za s) rfl
   rw [YC _ _ rfl] at this
   simpa [Enc.str] using this
  have hbk : b < w.heap.size:=by
   obtain ⟨p,e,_,cs,hc,hr⟩:=h4 0 x rfl
   obtain rfl:=Option.some.inj e
   obtain ⟨_,c,e,fz,hg,_⟩:=hc
   rw [YC _ _ rfl] at hg
   exact hG.lt hg
  have c:=Any.strings_Join Tryz.sJoin Zgf b o cap ((x :: r).map fun s=>⟨s.toArray⟩) ⟨sep.toArray⟩ w
   (fun j s hs=>by
    rw [List.getElem?_map] at hs
    cases e : (x :: r)[j]? with
    | none=>rw [e] at hs; cases hs
    | some u=>rw [e] at hs; obtain rfl:=Option.some.inj hs; exact hcell j u e)
   hbk (by rw [List.length_map]; unfold reach at h3; exact h3) (by rw [List.length_map]; exact h1) (by rw [ZpT]; exact Nat.le_trans hb (by decide))
  rw [ZpT,List.length_map] at c
  refine c.mono ?_
  rintro e w' ⟨rfl,hw⟩
  exact ⟨_,G,rfl,Zjr hG hw,rfl⟩
theorem Zgg {G : GH} {w : World} (hG : G.In w) (hg : Glob G) (s : Str) (c : UInt8) (new : Str) (hs : s.length ≤ 1000) (hn : new.length = 2) :
  Calls Tryz.prog (nat_lit 209) #[Za s,Za [c],Za new] w fun e w'=>∃ r G',e = .returned r ∧ Res [] w G w' G' ∧ r = Za (s.flatMap fun x=>if x = c then new else [x]):=by
 obtain ⟨m,hm⟩:=hg.maxl
 have hc:=hm.cell hG (j:=0) (v:= .int .i64 m) rfl
 rw [YC _ _ rfl] at hc
 have hsz : (⟨s.toArray⟩ : ByteArray).size = s.length:=by simp [ByteArray.size]
 have hnz : (⟨new.toArray⟩ : ByteArray).size = 2:=by simp [ByteArray.size,hn]
 have hcb : Lib.countB ⟨s.toArray⟩ ⟨([c] : Str).toArray⟩ ≤ 1000:=by
  show Lib.count s [c] ≤ 1000
  rw [Lib.count_one]; exact Nat.le_trans List.count_le_length hs
 refine (Any.strings_ReplaceAll Tryz.sRepl Zx4 ⟨s.toArray⟩ ⟨([c] : Str).toArray⟩ ⟨new.toArray⟩ m w (by rw [hsz]; omega) hc (Nat.le_refl 1) (by rw [hsz,hnz]; omega)).mono ?_
 rintro e w' ⟨rfl,hw⟩
 refine ⟨_,G,rfl,Zjr hG hw,?_⟩
 have e2:=Zra (c:=c) (new:=new) s (by intro e; rw [← e] at hn; simp at hn)
 rw [← e2]; rfl
theorem ZlK {G : GH} {w : World} (hG : G.In w) (s p : Str) (hs : (s ++ p).length ≤ reach) :
  Calls Tryz.prog (nat_lit 56) #[Za (s ++ p),Za p] w fun e w'=>∃ r G',e = .returned r ∧ Res [] w G w' G' ∧ r = Za s:=by
 refine (Any.strings_TrimSuffix Tryz.sTrim ⟨(s ++ p).toArray⟩ ⟨p.toArray⟩ w (by unfold reach at hs; show (s ++ p).toArray.size ≤ _; rw [List.size_toArray]; omega)).mono ?_
 rintro e w' ⟨rfl,rfl⟩
 refine ⟨_,G,rfl,Res.refl hG,?_⟩
 have : Lib.trimSuffix (s ++ p) p = s:=by
  unfold Lib.trimSuffix
  rw [if_pos (by unfold Lib.hasSuffix; rw [List.isSuffixOf_iff_suffix]; exact List.suffix_append s p)]
  simp
 show Value.string ⟨(Lib.trimSuffix (s ++ p) p).toArray⟩ = _
 rw [this]; rfl
theorem ZuF {G : GH} {w : World} (hG : G.In w) (t p s : Str) (h : t = s ++ p) (ht : t.length ≤ reach) :
  Calls Tryz.prog (nat_lit 56) #[Za t,Za p] w fun e w'=>∃ r G',e = .returned r ∧ Res [] w G w' G' ∧ r = Za s:=by
 subst h; exact ZlK hG s p ht
theorem ZpU {G : GH} {w : World} (hG : G.In w) (i : Nat) (hi : i < 100) :
  Calls Tryz.prog (nat_lit 24) #[.int .i64 (i : Int)] w fun e w'=>∃ r G',e = .returned r ∧ Res [] w G w' G' ∧ r = Za (ZA i 1):=by
 refine (Any.strconv_Itoa_small Tryz.sItoa i hi w).mono ?_
 rintro e w' ⟨rfl,rfl⟩
 refine ⟨_,G,rfl,Res.refl hG,?_⟩
 rw [Zur]; rfl
end Go.Civ
namespace Go.Civ
open Go.RowKit
set_option linter.unusedVariables false
section
variable {l : List Stp} {s : Stp} {q : Query} {k : Nat} {ss c : Str}
theorem Ziv (n : Nat) : Z8 (n : Int) 0 = ZA n 1:=by
 exact ZtT
theorem ZlQ {x : Int} (h : 0 ≤ x) : [32,35] ++ Z8 x 0 = opA x:=by
 obtain ⟨n,rfl⟩ : ∃ n : Nat,x = (n : Int):=⟨x.toNat,by omega⟩
 unfold opA; rw [if_pos h,Ziv,Int.toNat_natCast]
theorem Zx8 {s : Stp} (h : s.span = ⟨0,0⟩) : ¬ s.span = ⟨-62135596800,253402300800⟩:=by rw [h]; decide
theorem Zoi {x : Int} (h : ¬ 0 ≤ x) : opA x = []:=by unfold opA; rw [if_neg h]
theorem ZrM {z : Str} (h : l[k]? = some s) (hs : ss = Qm (l.take k)) (ha : ¬ 0 ≤ s.a) (hb : ¬ 0 ≤ s.b) (hz : Zbz s = z) : ss ++ Z8 (k : Int) 0 ++ [32] ++ Ya s.q ++ z ++ [10] = Qm (l.take (k + 1)):=by
 rw [ZiG h,hs]; unfold txS; rw [Zoi ha,Zoi hb,hz,Ziv]; simp only [List.append_assoc,List.nil_append]
theorem Z0f (h : l[k]? = some s) (hs : ss = Qm (l.take k)) (ha : ¬ 0 ≤ s.a) (hb : ¬ 0 ≤ s.b) (hz : Zbz s = []) : ss ++ Z8 (k : Int) 0 ++ [32] ++ Ya s.q ++ [10] = Qm (l.take (k + 1)):=by
 rw [← ZrM h hs ha hb hz]; simp only [List.append_nil]
theorem Z0g {A B C D : Str} (h : l[k]? = some s) (hs : ss = Qm (l.take k)) (ha : ¬ 0 ≤ s.a) (hb : ¬ 0 ≤ s.b) (hz : Zbz s = A ++ B ++ C ++ D) : ss ++ Z8 (k : Int) 0 ++ [32] ++ Ya s.q ++ A ++ B ++ C ++ D ++ [10] = Qm (l.take (k + 1)):=by
 rw [← ZrM h hs ha hb hz]; simp only [List.append_assoc]
theorem Z1F (h : l[k]? = some s) (hs : ss = Qm (l.take k)) (ha : 0 ≤ s.a) (hb : ¬ 0 ≤ s.b) (hz : Zbz s = []) : ss ++ Z8 (k : Int) 0 ++ [32] ++ Ya s.q ++ [32,35] ++ Z8 s.a 0 ++ [10] = Qm (l.take (k + 1)):=by
 rw [ZiG h,hs]; unfold txS; rw [← ZlQ ha,Zoi hb,hz,Ziv]; simp only [List.append_assoc,List.append_nil]
theorem Z0h (h : l[k]? = some s) (hs : ss = Qm (l.take k)) (ha : 0 ≤ s.a) (hb : 0 ≤ s.b) (hz : Zbz s = []) : ss ++ Z8 (k : Int) 0 ++ [32] ++ Ya s.q ++ [32,35] ++ Z8 s.a 0 ++ [32,35] ++ Z8 s.b 0 ++ [10] = Qm (l.take (k + 1)):=by
 rw [ZiG h,hs]; unfold txS; rw [← ZlQ ha,← ZlQ hb,hz,Ziv]; simp only [List.append_assoc,List.append_nil]
theorem Zx9 (hk : 1 ≤ q.kind ∧ q.kind ≤ 10) (h : Zl7[(ZT q.kind).toNat]? = some c) : (Z0 (rwQ q)).take ((Z0 (rwQ q)).length - c.length) = Ya q:=by
 have e:=txw hk h
 rw [Zij hk] at e
 rw [e,List.length_append,Nat.add_sub_cancel]; exact List.take_left
theorem Z0i (hk : 1 ≤ q.kind ∧ q.kind ≤ 10) (h : Zl7[(ZT q.kind).toNat]? = some c) : c.length ≤ (Z0 (rwQ q)).length:=by
 have e:=txw hk h
 rw [Zij hk] at e
 rw [e,List.length_append]; omega
end
end Go.Civ
set_option linter.unusedVariables false
set_option linter.unusedSimpArgs false
set_option maxRecDepth 100000
set_option maxHeartbeats 4000000
namespace Go.Civ
open Go.Proofs
theorem Zqj {G : GH} {w : World} (hG : G.In w) (l : List Schema) (pf : Schema → Bool) (vl : Value) (hvl : Sl Qv 72 G vl l) (fid : Nat) (fcap : Array Value) (hf : FnB Tryz.prog (Is Qv) fid fcap G (fun x=>x ∈ l) pf) : CL Tryz.prog (nat_lit 107) #[vl, .func (.func fid) #[] fcap] [] w G fun _ _ r=>r = U (Qi pf l):=by
 refine Zg ft [] Tryz.func107 V V ?_
 have hS:=St.start (X:=[]) hG
 have V1:=hvl.bound
 refine Zm hvl Zgb V V ?_
 refine LP.go ft [] (fun m ρ1 w1=>∃ (k1 : Nat),∃ (G1 : GH),m = l.length - k1 ∧ G.le G1 ∧ St w [] G G1 [] w1 ∧ FR ρ1 [(0,vl),(1, .func (.func fid) #[] fcap),(7,U (l.length : Int)),(8,U (k1 : Int))] ∧ k1 ≤ l.length ∧ ∀ j,j < k1 → ∀ x,l[j]? = some x → pf x = false) _ ⟨0,G,V,(G.le_refl),hS,(ZS V),(by omega),(by intro j hj; omega)⟩ ?_
 rintro m ρ1 w1 ⟨k1,G1,rfl,L1,S1,F9,f1,f2⟩
 refine F9.set ?_
 clear F9
 refine Zp (k1 : Int) (l.length : Int) V V V (fun h1=>?_) (fun h1=>?_)
 ·refine WL.indexAddr (hvl.mono L1) k1 (by omega) Zgb Qz V V V V (fun p1 x1 U1 E1=>?_)
  obtain ⟨D1,C1,R1⟩:=E1
  obtain ⟨v1,v2,rfl,B1,A1,B2,A2⟩:=Qj R1
  refine Zc S1 C1 [Za x1.name,v1,U x1.key,v2] Qz V V V V V ?_
  refine Zl S1 hf.body V V V (hf.call _ _ (.agg #[Za x1.name,v1,U x1.key,v2]) x1 L1 S1.imm (List.mem_of_getElem? U1) ⟨_,V,(Zan x1 B1 A1 B2 A2)⟩) (fun w2 G2 S2 L2=>?_)
  refine WL.split (fun (h2 : (pf x1) = true)=>?_) (fun (h2 : (pf x1) = false)=>?_)
  ·exact RI S2 V (by exact (ZaY _ ‹_› ‹_› ‹_›).symm)
  refine Zq k1 (by have:=Zb; omega) V V V ?_
  exact BK.mk' _ ⟨k1 + 1,G2,V,(L1.trans L2),S2,(ZS V),(by omega),(by exact Ys ‹_› ‹_› ‹_›)⟩ (show l.length - (k1 + 1) < l.length - k1 by omega)
 exact RI S1 V (by exact (ZaB ‹_› (by omega)).symm)
theorem ZuO {G : GH} {w : World} (hG : G.In w) (y : Schema) (nm : List UInt8) (cy : List Value) (hcy : Qv.rep G y cy) (pn : Addr) (hpn : Xh G pn [Za nm]) : CL Tryz.prog (nat_lit 108) #[.agg cy.toArray,ZP pn] [] w G fun _ _ r=>r = .bool (decide (y.name = nm)):=by
 refine Zg ft [] Tryz.func108 V V ?_
 have hS:=St.start (X:=[]) hG
 obtain ⟨v1,v2,rfl,B1,A1,B2,A2⟩:=Qj hcy
 refine Z4 [Za y.name,v1,U y.key,v2] _ hS V V V (fun p1 w1 G1 L1 M1 C1 S1=>?_)
 refine Z S1 (Xh.drop 0 C1) Zv V V V <| Z S1 (hpn.mono L1) Zv V V V <| Zn .eql V y.name nm V V V ?_
 exact RB S1 V (by simp [SCmp.b])
theorem Ziw {G : GH} {w : World} (hG : G.In w) (l : List Schema) (nm : List UInt8) (vl : Value) (hvl : Sl Qv 72 G vl l) (hnm : nm.length ≤ reach) : CL Tryz.prog (nat_lit 68) #[vl,Za nm] [] w G fun G' _ r=>∃ r0 r1,r = .tuple #[r0,r1] ∧ Is Qv G' r0 ((Xq l nm).getD noS) ∧ r1 = .bool ((Xq l nm).isSome):=by
 refine Yw ft [] Tryz.func68 V V ?_
 have hS:=St.start (X:=[]) hG
 refine Z4 [Za nm] _ hS V V V (fun p1 w1 G1 L1 M1 C1 S1=>?_)
 refine WL.alloc S1 Qz V V (fun b1 w2 N1 S2=>?_)
 refine Zl S2 Zfn V V V (Zqj S2.imm l (fun x8=>decide (x8.name = nm)) _ (hvl.mono L1) 108 #[ZP p1] ⟨Zfo,fun G8 w8 v8 x8 L8 hG8 hon8 hA8=>by obtain ⟨cs_x8,rfl,hr_x8⟩:=hA8; exact ZuO hG8 x8 nm cs_x8 hr_x8 p1 (C1.mono L8)⟩) (fun w3 G2 S3 L2=>?_)
 refine Zp (Qi (fun x8=>decide (x8.name = nm)) l) 0 V V V (fun h1=>?_) (fun h1=>?_)
 ·refine WL.build _ [] [Za [],Zf,U 0,Zf] Qz V Zxr V V V V ?_
  refine Z9 S3 0 [Za [],Zf,U 0,Zf] V V Qz V V V V V V (fun w4 S4=>?_)
  exact Qk [.agg #[Za [],Zf,U 0,Zf], .bool false] S4 ⟨_,_,_,V,V,S4.loadA 0 _ _ _ 0 [Za [],Zf,U 0,Zf] V V V Qz V,⟨_,V,V⟩⟩ ⟨_,_,V,(Is.cast ⟨_,V,(Zan (Schema.mk [] [] 0 []) (by simp [reach]) (Sl.nil ColE 24 G2) Yf (Sl.nil Zcx 40 G2))⟩ (by exact (Zpa ‹_›).1)),(congrArg Value.bool (by exact (Zpa ‹_›).2))⟩
 have hix:=Zpb (by assumption : 0 ≤ Qi (fun x8=>decide (x8.name = nm)) l)
 refine WL.indexAddr (hvl.mono (L1.trans L2)) (((Qi (fun x8=>decide (x8.name = nm)) l)).toNat) (by exact hix.1) Zgb Qz V V V (congrArg (Value.int .i64) (Int.toNat_of_nonneg (by omega)).symm) (fun p2 x1 U1 E1=>?_)
 obtain ⟨D1,C2,R1⟩:=E1
 obtain ⟨v1,v2,rfl,B1,A1,B2,A2⟩:=Qj R1
 refine Zc S3 C2 [Za x1.name,v1,U x1.key,v2] Qz V V V V V ?_
 refine Z9 S3 0 [Za x1.name,v1,U x1.key,v2] V V Qz V V (by simp only [YE,A1.oneC,A2.oneC] <;> rfl) V V V (fun w5 S5=>?_)
 exact Qk [.agg #[Za x1.name,v1,U x1.key,v2], .bool true] S5 ⟨_,_,_,V,V,S5.loadA 0 _ _ _ 0 [Za x1.name,v1,U x1.key,v2] V V V Qz V,⟨_,V,V⟩⟩ ⟨_,_,V,(Is.cast ⟨_,V,(Zan x1 B1 A1 B2 A2)⟩ (by exact (Zm5 ‹_› ‹_›).1)),(congrArg Value.bool (by exact (Zm5 ‹_› ‹_›).2))⟩
end Go.Civ
set_option linter.unusedVariables false
set_option maxRecDepth 100000
namespace Go.Civ
open Go.Proofs Go.Shelf Go.RowKit
theorem tiB : Yj Tryz.prog (nat_lit 71) = some ⟨false,1,24, .slice none 0 0⟩:=by kernel_rfl
section
variable {w0 w : World} {X : List Nat} {G0 G : GH} {R : Own} {b : Nat} {p v : Value} {o : OB} {l : Str}
theorem ZuZ (hS : St w0 X G0 G (some (b,(nat_lit 73),[p,v]) :: R) w) (hp : p = .pointer none ∨ p = .pointer (some ⟨b,0,none⟩)) :
  Calls Tryz.prog (nat_lit 52) #[.pointer (some ⟨b,0,none⟩)] w fun e w'=>e = .returned (.tuple #[]) ∧ St w0 X G0 G (some (b,(nat_lit 73),[.pointer (some ⟨b,0,none⟩),v]) :: R) w':=by
 have hb:=hS.get 0 rfl
 rcases hp with rfl | rfl
 ·refine (Any.Builder_copyCheck_fresh { Tryz.sJoin with } Zgf.toX72 b w (Lib.cell_of_heap hb 0) (by simp [World.shape?,hb]; rfl) (Lib.frozen_of_heap hb 0)).mono ?_
  rintro e w' ⟨rfl,rfl⟩
  refine ⟨rfl,hS.write 0 rfl [.pointer (some ⟨b,0,none⟩),v] rfl rfl rfl (Nat.le_refl _) (by simp [World.setCell]) ?_ (fun k hk=>heap_setCell_other w _ k _ hk)⟩
  simp [World.setCell,Array.getElem?_modify,hb]
 ·refine (Any.Builder_copyCheck_used { Tryz.sJoin with } Zgf.toX72 b w (Lib.cell_of_heap hb 0)).mono ?_
  rintro e w' ⟨rfl,rfl⟩
  exact ⟨rfl,hS⟩
theorem ZbX (hS : St w0 X G0 G (some (b,(nat_lit 73),[p,v]) :: o :: R) w) (hp : p = .pointer none ∨ p = .pointer (some ⟨b,0,none⟩)) (hr : YX Enc.u8 1 (nat_lit 5) G v l o) (s : Str) (hl : l.length + s.length ≤ reach) :
  Calls Tryz.prog (nat_lit 23) #[.pointer (some ⟨b,0,none⟩),Za s] w fun e w'=>∃ v' o',e = .returned (.tuple #[.int .i64 s.length, .nilIface]) ∧ St w0 X G0 G (some (b,(nat_lit 73),[.pointer (some ⟨b,0,none⟩),v']) :: o' :: R) w' ∧ YX Enc.u8 1 (nat_lit 5) G v' (l ++ s) o':=by
 refine Zg ft [] Tryz.func23 rfl rfl ?_
 refine X3 [.pointer (some ⟨b,0,none⟩)] #[] Zd2 rfl rfl rfl ((ZuZ hS hp).mono ?_)
 rintro e w1 ⟨rfl,hS1⟩
 refine ⟨_,rfl,?_⟩
 refine WL.nilCheck _ rfl rfl ?_
 refine Yz hS1 0 _ _ _ 1 _ rfl rfl tiB rfl rfl rfl ?_
 refine ZpB (m:=s) ZnK X1 rfl rfl rfl hr hS1 1 rfl hl rfl rfl rfl (fun v2 o2 w2 hr2 hS2=>?_)
 refine WL.nilCheck _ rfl rfl ?_
 refine WL.store hS2 0 _ _ _ 1 _ [v2] [.pointer (some ⟨b,0,none⟩),v2] _ rfl ?_ tiB rfl (Nat.le_refl 2) ?_ rfl rfl rfl rfl rfl (fun w3 hS3=>?_)
 ·rcases hr2 with ⟨_,rfl,_⟩ | ⟨_,_,_,_,_,rfl,_⟩ <;> rfl
 ·rcases hr2 with ⟨_,rfl,_⟩ | ⟨_,_,_,_,_,rfl,_⟩ <;> rfl
 refine YN s X1 rfl rfl ?_
 exact ⟨_,rfl,v2,o2,rfl,hS3,hr2⟩
theorem ZrP (hG0 : G0.In w0) (hS : St w0 [] G0 G (some (b,(nat_lit 73),[p,v]) :: o :: R) w) (hp : p = .pointer none ∨ p = .pointer (some ⟨b,0,none⟩)) (hr : YX Enc.u8 1 (nat_lit 5) G v l o) (h0 : l ≠ []) :
  Calls Tryz.prog (nat_lit 27) #[.pointer (some ⟨b,0,none⟩)] w fun e w'=>e = .returned (Za l) ∧ St w0 [] G0 G0 [] w':=by
 have hb:=hS.get 0 rfl
 have hge : ∀ {i : Nat} {q : Nat × TypeId × List Value},(some (b,(nat_lit 73),[p,v]) :: o :: R)[i]? = some (some q) → w0.heap.size ≤ q.1:=fun h=>(hS.sep _ _ h).1.elim id (fun e=>(List.not_mem_nil e).elim)
 rcases hr with ⟨_,_,rfl⟩ | ⟨g,cs,cap,xs,rfl,rfl,h3,h4,h5,h6,h7,_⟩
 ·exact absurd rfl h0
 have hxs : ∀ (l : Str) xs,Qx Enc.u8 G l xs → xs = Lib.byteCells l:=by
  intro l
  induction l with
  | nil=>intro xs h; exact h
  | cons c l ih=>rintro xs ⟨_,ys,rfl,rfl,h⟩; rw [ih ys h]; rfl
 obtain rfl:=hxs l xs h6
 clear hxs
 have hbl:=Lib.byteCells_length l
 have hne : g ≠ b:=fun e=>absurd (hS.nd 1 0 _ _ rfl rfl e) (by decide)
 have hB : Lib.BuilderAt (nat_lit 73) (nat_lit 5) w0.heap.size b p (Lib.byteCells l) w:=
  ⟨hge (i:=0) rfl,_,hb,⟨by rw [hbl]; omega, .inr ⟨g,cap,cs.toArray,by rw [hbl],hge (i:=1) rfl,hS.get 1 rfl,by rw [hbl]; exact h3,h4,by rw [List.size_toArray]; exact h5,by rw [hbl]; exact h7⟩⟩,fun e=>hne (Option.some.inj e)⟩
 refine (Any.Builder_String { Tryz.sJoin with } Zgf w0.heap.size b l w (hp.elim (fun e=> .inl (e ▸ hB)) (fun e=> .inr (e ▸ hB))) h0).mono ?_
 rintro e w' ⟨rfl,hw⟩
 have hk:=hS.kept
 refine ⟨rfl,⟨hw.os.trans hk.os,hw.tape.trans hk.tape,hw.output.trans hk.output,trivial,Nat.le_trans hk.size hw.size,fun k h9 hx=>(hw.block k h9).trans (hk.block k h9 hx)⟩,G0.le_refl,fun _ _=>rfl,fun k q hq=>?_,fun i q hq=>(by cases hq),fun i q hq=>(by cases hq),fun i j q r hq=>(by cases hq)⟩
 rw [hw.block _ (hG0.lt hq)]; exact hS.imm _ _ (hS.le _ _ hq)
end
end Go.Civ
