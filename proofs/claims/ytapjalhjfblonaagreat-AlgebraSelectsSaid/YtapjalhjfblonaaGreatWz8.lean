/- Walks, printed by specs38.py. -/
import Derived.Test.YtapjalhjfblonaaGreatProg
import Derived.KernelRfl
import Derived.WalkKit
import Derived.Test.YtapjalhjfblonaaGreatWz2
import Derived.Test.YtapjalhjfblonaaGreatCiv35
import Derived.Test.YtapjalhjfblonaaGreatCiv38
set_option linter.unusedVariables false
set_option linter.unusedSimpArgs false
set_option maxRecDepth 100000
set_option maxHeartbeats 4000000
namespace Go.Civ
open Go.Proofs


theorem c_count (d : Nat) : ∀ (G : GH) (w : World) (hG : G.In w) (c : Cond) (n : Int) (cc : List Value) (hcc : (CondE d).rep G c cc) (pb : Nat) (hpb : Lent w G (some (pb, (nat_lit 3), [.int .i64 n]))) (pf : Addr) (hpf : Cells G pf [.func (.func 65) #[] #[.pointer (some ⟨pb, 0, none⟩), .pointer (some pf)]]) (hn : 0 ≤ n ∧ n ≤ 99), Calls Tryz.prog (nat_lit 65) #[.agg cc.toArray, .pointer (some ⟨pb, 0, none⟩), .pointer (some pf)] w fun e w' => ∃ r G', e = .returned r ∧ Res [pb] w G w' G' ∧ (r = .tuple #[]) ∧ Lent w' G' (some (pb, (nat_lit 3), [.int .i64 (cntF d c n)])) := by
 induction d
 ·intro G w hG c n cc hcc pb hpb pf hpf hn; exact (CondE_zero hcc).elim
 rename_i d ih
 intro G w hG c n cc hcc pb hpb pf hpf hn
 refine calls_of_WC (N := 21) Tryz.func65 rfl rfl rfl ?_
 have hn64 : I64 n := ⟨by omega, by omega⟩
 have hS := St.lentO hG hpb
 obtain ⟨lv1, rfl, hb1, hb2, hb3, hb4, hb5, hb6, ho1⟩ := CondE_step hcc
 refine WC.seq <| WC.region rfl ?_
 refine WL.boxG [.int .i64 c.kind, strV c.col, strV c.oth, .int .i64 c.v.k, .int .i64 c.v.n, strV c.v.s, lv1] _ hS rfl rfl rfl (fun p1 w1 G1 hle1 hsp1 hc1 hS1 => ?_)
 refine WL.nil <| WC.seq <| WC.region rfl <| WL.loadO1 hS1 0 _ _ _ 0 _ rfl rfl ti3 rfl rfl rfl ?_
 have hi1 : I64 (n + 1) := by  have := hn64.1; have := hn64.2; constructor <;> omega
 refine WL.ar .add rfl n 1 rfl rfl rfl hi1 ?_
 refine WL.store hS1 0 _ _ _ 0 _ [.int .i64 (n + 1)] [.int .i64 (n + 1)] _ rfl rfl ti3 rfl (Nat.le_of_ble_eq_true rfl) rfl rfl rfl rfl rfl rfl (fun w2 hS2 => ?_)
 refine WL.nil <| WC.seq <| WC.region rfl <| WL.fieldAddr _ 6 _ fl37 rfl rfl rfl <| WL.loadG1 hS2 (Cells.drop 6 hc1) ti35 rfl rfl rfl ?_
 have bd1 := ho1.bound
 refine WL.lenSl (ho1.mono hle1) ul35 rfl rfl <| WL.move rfl <| WL.nil <| WC.block ?_
 refine WC.loop (γ := Nat) (fun m ρ1 w1 => ∃ (k1 : Nat), ∃ (mm : Int), ∃ (G2 : GH), m = c.l.length - k1 ∧ G1.le G2 ∧ St w [pb] G G2 [some (pb, (nat_lit 3), [.int .i64 mm])] w1 ∧ ρ1 1 = .pointer (some ⟨pb, 0, none⟩) ∧ ρ1 2 = .pointer (some pf) ∧ ρ1 9 = lv1 ∧ ρ1 10 = .int .i64 (c.l.length : Int) ∧ ρ1 11 = .int .i64 (k1 : Int) ∧ k1 ≤ c.l.length ∧ mm = cntL (fun x m => cntF d x m) (c.l.take k1) (n + 1) ∧ 0 ≤ mm ∧ mm ≤ 100) (fun m => m) _ ⟨0, (n + 1), G1, rfl, (G1.le_refl), hS2, rfl, rfl, rfl, rfl, rfl, (by omega), (by rfl), (by omega)⟩ ?_
 rintro m ρ1 w3 ⟨k1, mm, G2, rfl, hle2, hS3, e1, e2, e3, e4, e5, f1, f2, f3⟩
 refine WC.set (d := 1) e1 <| WC.set (d := 2) e2 <| WC.set (d := 9) e3 <| WC.set (d := 10) e4 <| WC.set (d := 11) e5 ?_
 have hm64 : I64 mm := ⟨by omega, by omega⟩
 refine WC.seq <| WC.region rfl ?_
 refine WL.lssS (k1 : Int) (c.l.length : Int) rfl rfl rfl (fun h1 => ?_) (fun h1 => ?_)
 ·refine WL.nil <| WC.seq <| WC.condT rfl <| WC.skip <| WC.seq <| WC.block <| WC.seq <| WC.region rfl ?_
  refine WL.indexAddr (ho1.mono (hle1.trans hle2)) k1 (by omega) ul35 ti37 rfl rfl rfl rfl (fun p2 x1 hx1 he1 => ?_)
  obtain ⟨cs1, hc2, hr1⟩ := he1
  obtain ⟨lv2, rfl, hb7, hb8, hb9, hb10, hb11, hb12, ho2⟩ := CondE_open hr1
  refine WL.loadGAt hS3 hc2 [.int .i64 x1.kind, strV x1.col, strV x1.oth, .int .i64 x1.v.k, .int .i64 x1.v.n, strV x1.v.s, lv2] ti37 rfl rfl rfl rfl rfl ?_
  refine WL.alloc hS3 ti37 rfl rfl (fun b1 w4 hn1 hS4 => ?_)
  refine WL.store hS4 0 _ _ _ 0 _ [.int .i64 x1.kind, strV x1.col, strV x1.oth, .int .i64 x1.v.k, .int .i64 x1.v.n, strV x1.v.s, lv2] [.int .i64 x1.kind, strV x1.col, strV x1.oth, .int .i64 x1.v.k, .int .i64 x1.v.n, strV x1.v.s, lv2] _ rfl rfl ti37 rfl (Nat.le_of_ble_eq_true rfl) (by simp only [List.all_cons, List.all_nil, ho2, Bool.true_and] <;> rfl) rfl rfl rfl rfl rfl (fun w5 hS5 => ?_)
  obtain ⟨G3, hle3, hc3, hS6⟩ := hS5.shutB hn1
  refine WL.nil <| WC.seq <| WC.region rfl <| WL.loadO1 hS6 0 _ _ _ 0 _ rfl rfl ti3 rfl rfl rfl ?_
  refine WL.lssS mm 100 rfl rfl rfl (fun h2 => ?_) (fun h2 => ?_)
  ·refine WL.nil <| WC.condT rfl <| WC.region rfl <| WL.loadG1 hS6 (hpf.mono ((hle1.trans hle2).trans hle3)) ti100 rfl rfl rfl <| WL.loadGAt hS6 hc3 [.int .i64 x1.kind, strV x1.col, strV x1.oth, .int .i64 x1.v.k, .int .i64 x1.v.n, strV x1.v.s, lv2] ti37 rfl rfl rfl rfl rfl ?_
   refine WL.callF [.agg #[.int .i64 x1.kind, strV x1.col, strV x1.oth, .int .i64 x1.v.k, .int .i64 x1.v.n, strV x1.v.s, lv2], .pointer (some ⟨pb, 0, none⟩), .pointer (some pf)] #[.pointer (some ⟨pb, 0, none⟩), .pointer (some pf)] hb65 rfl rfl rfl ((ih _ _ hS6.imm x1 mm _ ((CondE _).mono hle3 hr1) _ (hS6.lentAt 0 rfl)  _ (hpf.mono ((hle1.trans hle2).trans hle3)) (by omega)).mono ?_)
   rintro e w6 ⟨r1, G4, rfl, hres1, hpost1, hlc1⟩
   refine ⟨_, rfl, ?_⟩
   have hS7 : St w [pb] G G4 [some (pb, (nat_lit 3), [.int .i64 (cntF d x1 mm)])] w6 := hS6.callX 0 rfl [.int .i64 (cntF d x1 mm)] hres1 (hlc1 _ rfl).1
   have hle4 := hres1.le
   subst hpost1
   refine WL.nil <| WC.region rfl ?_
   refine WL.incr k1 (by have hreach : reach = 140737488355328 := rfl; omega) rfl rfl rfl ?_
   refine WL.move rfl <| WL.nil ?_
   exact ⟨_, ⟨k1 + 1, cntF d x1 mm, G4, rfl, (hle2.trans (hle3.trans hle4)), hS7, rfl, rfl, rfl, rfl, rfl, (by omega), (by first | exact cntL_take (by assumption) (by assumption) (if_pos (by assumption)).symm | exact cntL_take (by assumption) (by assumption) (if_neg (by omega)).symm), (by first | exact cntF_bd _ _ _ (by omega) (by omega) | omega)⟩, (show c.l.length - (k1 + 1) < c.l.length - k1 by omega)⟩
  refine WL.nil <| WC.condF rfl <| WC.skip <| WC.region rfl ?_
  refine WL.incr k1 (by have hreach : reach = 140737488355328 := rfl; omega) rfl rfl rfl ?_
  refine WL.move rfl <| WL.nil ?_
  exact ⟨_, ⟨k1 + 1, mm, G3, rfl, (hle2.trans hle3), hS6, rfl, rfl, rfl, rfl, rfl, (by omega), (by first | exact cntL_take (by assumption) (by assumption) (if_pos (by assumption)).symm | exact cntL_take (by assumption) (by assumption) (if_neg (by omega)).symm), (by first | exact cntF_bd _ _ _ (by omega) (by omega) | omega)⟩, (show c.l.length - (k1 + 1) < c.l.length - k1 by omega)⟩
 refine WL.nil <| WC.seq <| WC.condF rfl <| WC.exit ?_
 exact ⟨_, rfl, _, _, rfl, hS3.res, ⟨rfl, (hS3.lentAt 0 rfl).cast (by rw [cnt_all (by assumption) (by omega)])⟩⟩

theorem c_deep (G : GH) (w : World) (hG : G.In w) (d : Nat) (c : Cond) (cc : List Value) (hcc : (CondE d).rep G c cc)  : Calls Tryz.prog (nat_lit 16) #[.agg cc.toArray] w fun e w' => ∃ r G', e = .returned r ∧ Res [] w G w' G' ∧ r = .bool (decide (20 < cntF d c 0)) := by
 refine calls_of_WC (N := 11) Tryz.func16 rfl rfl rfl ?_
 have hS := St.start (X := []) hG
 obtain ⟨lv1, rfl, hb1, hb2, hb3, hb4, hb5, hb6, ho1⟩ := CondE_open hcc
 refine WC.seq <| WC.region rfl ?_
 refine WL.boxG [.int .i64 c.kind, strV c.col, strV c.oth, .int .i64 c.v.k, .int .i64 c.v.n, strV c.v.s, lv1] _ hS rfl rfl rfl (fun p1 w1 G1 hle1 hsp1 hc1 hS1 => ?_)
 refine WL.assign rfl <| WL.nil <| WC.seq <| WC.region rfl ?_
 refine WL.alloc hS1 ti3 rfl rfl (fun b1 w2 hn1 hS2 => ?_)
 refine WL.store hS2 0 _ _ _ 0 _ [.int .i64 0] [.int .i64 0] _ rfl rfl ti3 rfl (Nat.le_of_ble_eq_true rfl) rfl rfl rfl rfl rfl rfl (fun w3 hS3 => ?_)
 refine WL.nil <| WC.seq <| WC.region rfl ?_
 refine WL.alloc hS3 ti100 rfl rfl (fun b2 w4 hn2 hS4 => ?_)
 refine WL.nil <| WC.seq <| WC.region rfl <| WL.makeFunc _ rfl rfl ?_
 refine WL.store hS4 0 _ _ _ 0 _ [.func (.func 65) #[] #[.pointer (some ⟨b1, 0, none⟩), .pointer (some ⟨b2, 0, none⟩)]] [.func (.func 65) #[] #[.pointer (some ⟨b1, 0, none⟩), .pointer (some ⟨b2, 0, none⟩)]] _ rfl rfl ti100 rfl (Nat.le_of_ble_eq_true rfl) rfl rfl rfl rfl rfl rfl (fun w5 hS5 => ?_)
 obtain ⟨G2, hle2, hc2, hS6⟩ := hS5.shutB hn2
 refine WL.nil <| WC.seq <| WC.region rfl <| WL.loadG1 hS6 hc2 ti100 rfl rfl rfl <| WL.loadGAt hS6 (hc1.mono hle2) [.int .i64 c.kind, strV c.col, strV c.oth, .int .i64 c.v.k, .int .i64 c.v.n, strV c.v.s, lv1] ti37 rfl rfl rfl rfl rfl ?_
 refine WL.callF [.agg #[.int .i64 c.kind, strV c.col, strV c.oth, .int .i64 c.v.k, .int .i64 c.v.n, strV c.v.s, lv1], .pointer (some ⟨b1, 0, none⟩), .pointer (some (⟨b2, 0, none⟩ : Addr))] #[.pointer (some ⟨b1, 0, none⟩), .pointer (some (⟨b2, 0, none⟩ : Addr))] hb65 rfl rfl rfl ((c_count _ _ _ hS6.imm c 0 _ ((CondE _).mono (hle1.trans hle2) hcc) _ (hS6.lentAt 0 rfl)  _ hc2 (by omega)).mono ?_)
 rintro e w6 ⟨r1, G3, rfl, hres1, hpost1, hlc1⟩
 refine ⟨_, rfl, ?_⟩
 have hS7 : St w [] G G3 [some (b1, 3, [.int .i64 (cntF d c 0)])] w6 := hS6.callX 0 rfl [.int .i64 (cntF d c 0)] hres1 (hlc1 _ rfl).1
 have hle3 := hres1.le
 subst hpost1
 refine WL.nil <| WC.seq <| WC.region rfl <| WL.loadO1 hS7 0 _ _ _ 0 _ rfl rfl ti3 rfl rfl rfl <| WL.cmp .gtr rfl .i64 (cntF d c 0) 20 rfl rfl rfl <| WL.assign rfl <| WL.nil <| WC.ret ?_
 exact ⟨_, rfl, _, _, rfl, hS7.res, (congrArg Value.bool (by simp [Cmp.b]))⟩
end Go.Civ
