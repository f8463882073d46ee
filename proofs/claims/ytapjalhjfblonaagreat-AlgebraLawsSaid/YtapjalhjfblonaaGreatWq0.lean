/- Walks, printed by specs38.py. -/
import Derived.Test.YtapjalhjfblonaaGreatProg
import Derived.KernelRfl
import Derived.WalkKit
import Derived.Test.YtapjalhjfblonaaGreatWb
import Derived.Test.YtapjalhjfblonaaGreatCiv28
set_option linter.unusedVariables false
set_option linter.unusedSimpArgs false
set_option maxRecDepth 100000
set_option maxHeartbeats 4000000
namespace Go.Civ
open Go.Proofs


theorem c_runsValid (G : GH) (w : World) (hG : G.In w) (l : List Span) (vl : Value) (hvl : Sl SpanE 16 G vl l) (hC : Can l) (hV : ∀ s ∈ l, spanV s = true) (hl : l.length ≤ 2000) : Calls Tryz.prog (nat_lit 172) #[vl] w fun e w' => ∃ r G', e = .returned r ∧ Res [] w G w' G' ∧ r = .bool true := by
  refine calls_of_WC (N := 34) Tryz.func172 rfl rfl rfl ?_
  have hS := St.start (X := []) hG
  refine WC.seq <| WC.region rfl <| WL.assign rfl <| WL.nil <| WC.seq <| WC.seq <| WC.region rfl <| WL.move rfl ?_
  have bd1 := hvl.bound
  refine WL.lenSl hvl ul111 rfl rfl ?_
  refine WL.gtrS (l.length : Int) 2000 rfl rfl rfl (fun h1 => ?_) (fun h1 => ?_)
  · refine WL.nil <| WC.condT rfl <| WC.seq <| WC.region rfl <| WL.assign rfl <| WL.nil ?_
    refine WC.ret ?_
    exact ⟨.bool false, rfl, .bool false, _, rfl, hS.res, (congrArg Value.bool (by (exfalso; omega)))⟩
  refine WL.nil <| WC.condF rfl <| WC.skip <| WC.seq <| WC.seq <| WC.region rfl <| WL.move rfl ?_
  have bd2 := hvl.bound
  refine WL.lenSl hvl ul111 rfl rfl ?_
  refine WL.move rfl <| WL.nil <| WC.block ?_
  refine WC.loop (γ := Nat) (fun m ρ1 w1 => ∃ (k1 : Nat), ∃ (G1 : GH), m = l.length - k1 ∧ G.le G1 ∧ St w [] G G1 [] w1 ∧ ρ1 0 = vl ∧ ρ1 8 = vl ∧ ρ1 9 = .int .i64 (l.length : Int) ∧ ρ1 10 = .int .i64 (k1 : Int) ∧ k1 ≤ l.length) (fun m => m) _ ⟨0, G, rfl, (G.le_refl), hS, rfl, rfl, rfl, rfl, (by omega)⟩ ?_
  rintro m ρ1 w1 ⟨k1, G1, rfl, hle1, hS1, e1, e2, e3, e4, f1⟩
  refine WC.set (d := 0) e1 ?_
  refine WC.set (d := 8) e2 ?_
  refine WC.set (d := 9) e3 ?_
  refine WC.set (d := 10) e4 ?_
  refine WC.seq <| WC.region rfl ?_
  refine WL.lssS (k1 : Int) (l.length : Int) rfl rfl rfl (fun h2 => ?_) (fun h2 => ?_)
  · refine WL.nil <| WC.seq <| WC.condT rfl <| WC.skip <| WC.seq <| WC.block <| WC.seq <| WC.region rfl <| WL.move rfl ?_
    refine WL.indexAddr (hvl.mono hle1) k1 (by omega) ul111 ti46 rfl rfl rfl rfl (fun p1 x1 hx1 he1 => ?_)
    obtain ⟨cs1, hc1, hr1⟩ := he1
    obtain ⟨rfl, hb1, hb2⟩ := SpanE_open hr1
    refine WL.loadGAt hS1 hc1 [.int .i64 x1.a, .int .i64 x1.b] ti46 rfl rfl rfl rfl rfl ?_
    refine WL.alloc hS1 ti46 rfl rfl (fun b1 w2 hn1 hS2 => ?_)
    refine WL.assign rfl ?_
    refine WL.store hS2 0 _ _ _ 0 _ [.int .i64 x1.a, .int .i64 x1.b] [.int .i64 x1.a, .int .i64 x1.b] _ rfl rfl ti46 rfl (Nat.le_of_ble_eq_true rfl) rfl rfl rfl rfl rfl rfl (fun w3 hS3 => ?_)
    obtain ⟨G2, hle2, hc2, hS4⟩ := hS3.shutB hn1
    refine WL.nil <| WC.seq ?_
    rcases Bool.eq_false_or_eq_true (spanV x1) with h3 | h3
    · rcases Cmp.dec .gtr (k1 : Int) 0 with ⟨hb3, q1⟩ | ⟨hb3, q1⟩
      · have h4 : 0 < (k1 : Int) := q1
        clear q1
        obtain ⟨p2, x2, hx2, he2, ep1⟩ := Sl.at (hvl.mono (hle1.trans hle2)) (k1 - 1) (by omega)
        obtain ⟨cs2, hc3, hr2⟩ := he2
        obtain ⟨rfl, hb4, hb5⟩ := SpanE_open hr2
        rcases Cmp.dec .geq x2.b x1.a with ⟨hb6, q2⟩ | ⟨hb6, q2⟩
        · have h5 : x1.a ≤ x2.b := q2
          clear q2
          refine dr ⟨[0, 1, 3, 7, 15, 31, 63, 127, 127, 383, 1023, 2047, 4095, 127, 8319, 32767, 65535, 131071], [2, 3, 4, 5, 6, 7, 8, 9, 10, 11, 13, 15, 16, 17], [0, 12, 14], [1], []⟩ [(17, .bool false), (18, .bool false), (19, .int .i64 (k1 : Int)), (20, .bool true), (21, .bool true), (22, vl), (23, .int .i64 (k1 : Int)), (24, .int .i64 ((k1 - 1 : Nat) : Int)), (25, .pointer (some p2)), (26, .pointer (some (p2.add 1))), (28, .pointer (some ((⟨b1, 0, none⟩ : Addr).add 0))), (30, .bool true), (31, .bool true), (32, .bool true), (15, .agg #[.int .i64 x1.a, .int .i64 x1.b]), (27, .int .i64 x2.b), (29, .int .i64 x1.a), (16, .bool true)] [] hS4 ?_ ?_ ?_ (fun w8 hS5 => ?_)
          · exact ⟨fun _ _ => WL.not true rfl rfl <| WL.nu rfl, fun _ _ => WL.move rfl <| WL.nu rfl, fun _ _ => WL.move rfl <| WL.nu rfl, fun _ _ => WL.cmpV .gtr rfl .i64 (k1 : Int) 0 _ hb3 rfl rfl rfl <| WL.nu rfl, fun _ _ => WL.move rfl <| WL.nu rfl, fun _ _ => WL.move rfl <| WL.nu rfl, fun _ _ => WL.move rfl <| WL.nu rfl, fun _ _ => WL.decr k1 (by omega) (by have hreach : reach = 140737488355328 := rfl; omega) rfl rfl rfl <| WL.nu rfl, fun _ _ => WL.indexAddrP (k1 - 1) ep1 ul111 ti46 rfl rfl rfl rfl <| WL.nu rfl, fun _ _ => WL.fieldAddr _ 1 _ fl46 rfl rfl rfl <| WL.nu rfl, fun _ _ => WL.fieldAddr _ 0 _ fl46 rfl rfl rfl <| WL.nu rfl, fun _ _ => WL.cmpV .geq rfl .i64 x2.b x1.a _ hb6 rfl rfl rfl <| WL.nu rfl, fun _ _ => WL.pickT rfl rfl <| WL.nu rfl, fun _ _ => WL.pickF rfl rfl <| WL.nu rfl, trivial⟩
          · exact ⟨fun _ hSw => WL.loadGAt hSw hc2 [.int .i64 x1.a, .int .i64 x1.b] ti46 rfl rfl rfl rfl rfl <| WL.nu rfl, fun _ hSw => WL.loadG1 hSw (Cells.drop 1 hc3) ti3 rfl rfl rfl <| WL.nu rfl, fun _ hSw => WL.loadG1 hSw (Cells.drop 0 hc2) ti3 rfl rfl rfl <| WL.nu rfl, trivial⟩
          · exact ⟨fun _ hSw => WL.callD [.agg #[.int .i64 x1.a, .int .i64 x1.b]] #[] hb122 rfl rfl rfl hSw (c_iValid _ _ hSw.imm x1 _ (SpanE_mk x1 hb1 hb2) ) (congrArg Value.bool h3.symm), trivial⟩
          refine WC.condT rfl <| WC.seq <| WC.region rfl <| WL.assign rfl <| WL.nil ?_
          refine WC.ret ?_
          exact ⟨.bool false, rfl, .bool false, _, rfl, hS5.res, (congrArg Value.bool (by exact (can_adj hC (by assumption) (by assumption) (by omega) (by assumption)).elim))⟩
        have h5 : x2.b < x1.a := q2
        clear q2
        refine dr ⟨[0, 1, 3, 7, 15, 31, 63, 127, 127, 383, 1023, 2047, 4095, 127, 8319, 32767, 65535, 131071], [2, 3, 4, 5, 6, 7, 8, 9, 10, 11, 13, 15, 16, 17], [0, 12, 14], [1], []⟩ [(17, .bool false), (18, .bool false), (19, .int .i64 (k1 : Int)), (20, .bool true), (21, .bool true), (22, vl), (23, .int .i64 (k1 : Int)), (24, .int .i64 ((k1 - 1 : Nat) : Int)), (25, .pointer (some p2)), (26, .pointer (some (p2.add 1))), (28, .pointer (some ((⟨b1, 0, none⟩ : Addr).add 0))), (30, .bool false), (31, .bool false), (32, .bool false), (15, .agg #[.int .i64 x1.a, .int .i64 x1.b]), (27, .int .i64 x2.b), (29, .int .i64 x1.a), (16, .bool true)] [] hS4 ?_ ?_ ?_ (fun w8 hS6 => ?_)
        · exact ⟨fun _ _ => WL.not true rfl rfl <| WL.nu rfl, fun _ _ => WL.move rfl <| WL.nu rfl, fun _ _ => WL.move rfl <| WL.nu rfl, fun _ _ => WL.cmpV .gtr rfl .i64 (k1 : Int) 0 _ hb3 rfl rfl rfl <| WL.nu rfl, fun _ _ => WL.move rfl <| WL.nu rfl, fun _ _ => WL.move rfl <| WL.nu rfl, fun _ _ => WL.move rfl <| WL.nu rfl, fun _ _ => WL.decr k1 (by omega) (by have hreach : reach = 140737488355328 := rfl; omega) rfl rfl rfl <| WL.nu rfl, fun _ _ => WL.indexAddrP (k1 - 1) ep1 ul111 ti46 rfl rfl rfl rfl <| WL.nu rfl, fun _ _ => WL.fieldAddr _ 1 _ fl46 rfl rfl rfl <| WL.nu rfl, fun _ _ => WL.fieldAddr _ 0 _ fl46 rfl rfl rfl <| WL.nu rfl, fun _ _ => WL.cmpV .geq rfl .i64 x2.b x1.a _ hb6 rfl rfl rfl <| WL.nu rfl, fun _ _ => WL.pickT rfl rfl <| WL.nu rfl, fun _ _ => WL.pickF rfl rfl <| WL.nu rfl, trivial⟩
        · exact ⟨fun _ hSw => WL.loadGAt hSw hc2 [.int .i64 x1.a, .int .i64 x1.b] ti46 rfl rfl rfl rfl rfl <| WL.nu rfl, fun _ hSw => WL.loadG1 hSw (Cells.drop 1 hc3) ti3 rfl rfl rfl <| WL.nu rfl, fun _ hSw => WL.loadG1 hSw (Cells.drop 0 hc2) ti3 rfl rfl rfl <| WL.nu rfl, trivial⟩
        · exact ⟨fun _ hSw => WL.callD [.agg #[.int .i64 x1.a, .int .i64 x1.b]] #[] hb122 rfl rfl rfl hSw (c_iValid _ _ hSw.imm x1 _ (SpanE_mk x1 hb1 hb2) ) (congrArg Value.bool h3.symm), trivial⟩
        refine WC.condF rfl <| WC.skip <| WC.region rfl ?_
        refine WL.incr k1 (by have hreach : reach = 140737488355328 := rfl; omega) rfl rfl rfl ?_
        refine WL.move rfl <| WL.nil ?_
        exact ⟨_, ⟨k1 + 1, G2, rfl, (hle1.trans hle2), hS6, rfl, rfl, rfl, rfl, (by omega)⟩, (show l.length - (k1 + 1) < l.length - k1 by omega)⟩
      have h4 : (k1 : Int) ≤ 0 := q1
      clear q1
      refine dr ⟨[0, 1, 3, 7, 15, 31, 63, 127, 127, 383, 1023, 2047, 4095, 127, 8319, 32767, 65535, 131071], [2, 3, 4, 5, 6, 7, 8, 9, 10, 11, 13, 15, 16, 17], [0, 12, 14], [1], []⟩ [(17, .bool false), (18, .bool false), (19, .int .i64 (k1 : Int)), (20, .bool false), (21, .bool false), (22, undef), (23, undef), (24, undef), (25, undef), (26, undef), (28, undef), (30, undef), (31, .bool false), (32, .bool false), (15, .agg #[.int .i64 x1.a, .int .i64 x1.b]), (27, undef), (29, undef), (16, .bool true)] [] hS4 ?_ ?_ ?_ (fun w8 hS7 => ?_)
      · exact ⟨fun _ _ => WL.not true rfl rfl <| WL.nu rfl, fun _ _ => WL.move rfl <| WL.nu rfl, fun _ _ => WL.move rfl <| WL.nu rfl, fun _ _ => WL.cmpV .gtr rfl .i64 (k1 : Int) 0 _ hb3 rfl rfl rfl <| WL.nu rfl, fun _ _ => WL.move rfl <| WL.nu rfl, fun _ _ => WL.no rfl rfl <| WL.nu rfl, fun _ _ => WL.no rfl rfl <| WL.nu rfl, fun _ _ => WL.no rfl rfl <| WL.nu rfl, fun _ _ => WL.no rfl rfl <| WL.nu rfl, fun _ _ => WL.no rfl rfl <| WL.nu rfl, fun _ _ => WL.no rfl rfl <| WL.nu rfl, fun _ _ => WL.no rfl rfl <| WL.nu rfl, fun _ _ => WL.pickF rfl rfl <| WL.nu rfl, fun _ _ => WL.pickF rfl rfl <| WL.nu rfl, trivial⟩
      · exact ⟨fun _ hSw => WL.loadGAt hSw hc2 [.int .i64 x1.a, .int .i64 x1.b] ti46 rfl rfl rfl rfl rfl <| WL.nu rfl, fun _ _ => WL.no rfl rfl <| WL.nu rfl, fun _ _ => WL.no rfl rfl <| WL.nu rfl, trivial⟩
      · exact ⟨fun _ hSw => WL.callD [.agg #[.int .i64 x1.a, .int .i64 x1.b]] #[] hb122 rfl rfl rfl hSw (c_iValid _ _ hSw.imm x1 _ (SpanE_mk x1 hb1 hb2) ) (congrArg Value.bool h3.symm), trivial⟩
      refine WC.condF rfl <| WC.skip <| WC.region rfl ?_
      refine WL.incr k1 (by have hreach : reach = 140737488355328 := rfl; omega) rfl rfl rfl ?_
      refine WL.move rfl <| WL.nil ?_
      exact ⟨_, ⟨k1 + 1, G2, rfl, (hle1.trans hle2), hS7, rfl, rfl, rfl, rfl, (by omega)⟩, (show l.length - (k1 + 1) < l.length - k1 by omega)⟩
    refine dr ⟨[0, 1, 3, 7, 15, 31, 63, 127, 127, 383, 1023, 2047, 4095, 127, 8319, 32767, 65535, 131071], [2, 3, 4, 5, 6, 7, 8, 9, 10, 11, 13, 15, 16, 17], [0, 12, 14], [1], []⟩ [(17, .bool true), (18, .bool true), (19, undef), (20, undef), (21, undef), (22, undef), (23, undef), (24, undef), (25, undef), (26, undef), (28, undef), (30, undef), (31, undef), (32, .bool true), (15, .agg #[.int .i64 x1.a, .int .i64 x1.b]), (27, undef), (29, undef), (16, .bool false)] [] hS4 ?_ ?_ ?_ (fun w8 hS8 => ?_)
    · exact ⟨fun _ _ => WL.not false rfl rfl <| WL.nu rfl, fun _ _ => WL.move rfl <| WL.nu rfl, fun _ _ => WL.no rfl rfl <| WL.nu rfl, fun _ _ => WL.no rfl rfl <| WL.nu rfl, fun _ _ => WL.no rfl rfl <| WL.nu rfl, fun _ _ => WL.no rfl rfl <| WL.nu rfl, fun _ _ => WL.no rfl rfl <| WL.nu rfl, fun _ _ => WL.no rfl rfl <| WL.nu rfl, fun _ _ => WL.no rfl rfl <| WL.nu rfl, fun _ _ => WL.no rfl rfl <| WL.nu rfl, fun _ _ => WL.no rfl rfl <| WL.nu rfl, fun _ _ => WL.no rfl rfl <| WL.nu rfl, fun _ _ => WL.no rfl rfl <| WL.nu rfl, fun _ _ => WL.pickT rfl rfl <| WL.nu rfl, trivial⟩
    · exact ⟨fun _ hSw => WL.loadGAt hSw hc2 [.int .i64 x1.a, .int .i64 x1.b] ti46 rfl rfl rfl rfl rfl <| WL.nu rfl, fun _ _ => WL.no rfl rfl <| WL.nu rfl, fun _ _ => WL.no rfl rfl <| WL.nu rfl, trivial⟩
    · exact ⟨fun _ hSw => WL.callD [.agg #[.int .i64 x1.a, .int .i64 x1.b]] #[] hb122 rfl rfl rfl hSw (c_iValid _ _ hSw.imm x1 _ (SpanE_mk x1 hb1 hb2) ) (congrArg Value.bool h3.symm), trivial⟩
    refine WC.condT rfl <| WC.seq <| WC.region rfl <| WL.assign rfl <| WL.nil ?_
    refine WC.ret ?_
    exact ⟨.bool false, rfl, .bool false, _, rfl, hS8.res, (congrArg Value.bool (by exact absurd (hV _ (List.mem_of_getElem? (by assumption))) (Bool.eq_false_iff.1 (by assumption))))⟩
  refine WL.nil <| WC.seq <| WC.condF rfl <| WC.exit <| WC.seq <| WC.region rfl <| WL.assign rfl <| WL.nil ?_
  refine WC.ret ?_
  exact ⟨.bool true, rfl, .bool true, _, rfl, hS1.res, (congrArg Value.bool (by rfl))⟩

theorem c_runsDone (G : GH) (w : World) (hG : G.In w) (l : List Span) (vl : Value) (hvl : Sl SpanE 16 G vl l) (hl : l.length ≤ 2000) : Calls Tryz.prog (nat_lit 174) #[vl] w fun e w' => ∃ r G', e = .returned r ∧ Res [] w G w' G' ∧ ∃ r0 r1, r = .tuple #[r0, r1] ∧ Sl SpanE 16 G' r0 l ∧ r1 = .int .i64 0 := by
  refine calls_of_WC (N := 8) Tryz.func174 rfl rfl rfl ?_
  have hS := St.start (X := []) hG
  refine WC.seq <| WC.region rfl <| WL.assign rfl <| WL.assign rfl <| WL.nil <| WC.seq <| WC.seq <| WC.region rfl <| WL.move rfl ?_
  have bd1 := hvl.bound
  refine WL.lenSl hvl ul111 rfl rfl ?_
  refine WL.gtrS (l.length : Int) 2000 rfl rfl rfl (fun h1 => ?_) (fun h1 => ?_)
  · refine WL.nil <| WC.condT rfl <| WC.seq <| WC.region rfl <| WL.assign rfl <| WL.assign rfl <| WL.nil ?_
    refine WC.ret ?_
    exact ⟨.tuple #[.slice none 0 0, .int .i64 5], rfl, .tuple #[.slice none 0 0, .int .i64 5], _, rfl, hS.res, (.slice none 0 0), (.int .i64 5), rfl, (Sl.cast (Sl.nil SpanE 16 G) (by (exfalso; omega))), (congrArg (Value.int .i64) (by (exfalso; omega)))⟩
  refine WL.nil <| WC.condF rfl <| WC.skip <| WC.seq <| WC.region rfl <| WL.move rfl <| WL.assign rfl <| WL.assign rfl <| WL.nil ?_
  refine WC.ret ?_
  exact ⟨.tuple #[vl, .int .i64 0], rfl, .tuple #[vl, .int .i64 0], _, rfl, hS.res, vl, (.int .i64 0), rfl, (Sl.cast hvl (by rfl)), (congrArg (Value.int .i64) (by rfl))⟩

theorem c_endAt (G : GH) (w : World) (hG : G.In w) (l : List Span) (n : Nat) (vl : Value) (hvl : Sl SpanE 16 G vl l) (hn : n ≤ 2 * l.length) (hl : l.length ≤ 2000) : Calls Tryz.prog (nat_lit 173) #[vl, .int .i64 (n : Int)] w fun e w' => ∃ r G', e = .returned r ∧ Res [] w G w' G' ∧ r = .int .i64 (endAt l n) := by
  refine calls_of_WC (N := 25) Tryz.func173 rfl rfl rfl ?_
  have hS := St.start (X := []) hG
  refine WC.seq <| WC.region rfl <| WL.assign rfl <| WL.nil <| WC.seq <| WC.seq <| WC.region rfl <| WL.move rfl <| WL.move rfl ?_
  have bd1 := hvl.bound
  refine WL.lenSl hvl ul111 rfl rfl ?_
  refine WL.mulN 2 l.length (by have hreach : reach = 140737488355328 := rfl; omega) rfl rfl rfl ?_
  refine WL.eqlS (n : Int) ((2 * l.length : Nat) : Int) rfl rfl rfl (fun h1 => ?_) (fun h1 => ?_)
  · refine WL.nil <| WC.condT rfl <| WC.seq <| WC.region rfl <| WL.assign rfl <| WL.nil ?_
    refine WC.ret ?_
    exact ⟨.int .i64 8796093022208, rfl, .int .i64 8796093022208, _, rfl, hS.res, (congrArg (Value.int .i64) (by exact (endAt_end (by omega)).symm))⟩
  refine WL.nil <| WC.condF rfl <| WC.skip <| WC.seq <| WC.seq <| WC.region rfl <| WL.move rfl ?_
  refine WL.remN n 2 (by omega) (by have hreach : reach = 140737488355328 := rfl; omega) rfl rfl rfl ?_
  refine WL.eqlS ((n % 2 : Nat) : Int) 0 rfl rfl rfl (fun h2 => ?_) (fun h2 => ?_)
  · refine WL.nil <| WC.condT rfl <| WC.seq <| WC.region rfl <| WL.move rfl <| WL.move rfl ?_
    refine WL.quoN n 2 (by omega) (by have hreach : reach = 140737488355328 := rfl; omega) rfl rfl rfl ?_
    refine WL.indexAddr hvl (n / 2) (by omega) ul111 ti46 rfl rfl rfl rfl (fun p1 x1 hx1 he1 => ?_)
    obtain ⟨cs1, hc1, hr1⟩ := he1
    obtain ⟨rfl, hb1, hb2⟩ := SpanE_open hr1
    refine WL.fieldAddr _ 0 _ fl46 rfl rfl rfl ?_
    refine WL.loadG1 hS (Cells.drop 0 hc1) ti3 rfl rfl rfl ?_
    refine WL.assign rfl <| WL.nil ?_
    refine WC.ret ?_
    exact ⟨.int .i64 x1.a, rfl, .int .i64 x1.a, _, rfl, hS.res, (congrArg (Value.int .i64) (by exact (endAt_a (by omega) (by assumption) (by omega)).symm))⟩
  refine WL.nil <| WC.condF rfl <| WC.skip <| WC.seq <| WC.region rfl <| WL.move rfl <| WL.move rfl ?_
  refine WL.quoN n 2 (by omega) (by have hreach : reach = 140737488355328 := rfl; omega) rfl rfl rfl ?_
  refine WL.indexAddr hvl (n / 2) (by omega) ul111 ti46 rfl rfl rfl rfl (fun p2 x2 hx2 he2 => ?_)
  obtain ⟨cs2, hc2, hr2⟩ := he2
  obtain ⟨rfl, hb3, hb4⟩ := SpanE_open hr2
  refine WL.fieldAddr _ 1 _ fl46 rfl rfl rfl ?_
  refine WL.loadG1 hS (Cells.drop 1 hc2) ti3 rfl rfl rfl ?_
  refine WL.assign rfl <| WL.nil ?_
  refine WC.ret ?_
  exact ⟨.int .i64 x2.b, rfl, .int .i64 x2.b, _, rfl, hS.res, (congrArg (Value.int .i64) (by exact (endAt_b (by omega) (by assumption) (by omega)).symm))⟩

theorem c_Minus1 (G : GH) (w : World) (hG : G.In w) (a b : Bool)  : Calls Tryz.prog (nat_lit 143) #[.bool a, .bool b] w fun e w' => ∃ r G', e = .returned r ∧ Res [] w G w' G' ∧ r = .bool (a && !b) := by
  refine calls_of_WC (N := 10) Tryz.func143 rfl rfl rfl ?_
  have hS := St.start (X := []) hG
  refine WC.seq <| WC.region rfl <| WL.assign rfl <| WL.nil <| WC.seq <| WC.region rfl <| WL.move rfl ?_
  refine WL.split (fun (h1 : a = true) => ?_) (fun (h1 : a = false) => ?_)
  · refine WL.move rfl <| WL.move rfl ?_
    refine WL.not b rfl rfl ?_
    refine WL.pickT rfl rfl <| WL.assign rfl <| WL.nil ?_
    refine WC.ret ?_
    exact ⟨.bool (!b), rfl, .bool (!b), _, rfl, hS.res, (congrArg Value.bool (by simp_all))⟩
  refine WL.move rfl <| WL.no rfl rfl <| WL.no rfl rfl <| WL.pickF rfl rfl <| WL.assign rfl <| WL.nil ?_
  refine WC.ret ?_
  exact ⟨.bool false, rfl, .bool false, _, rfl, hS.res, (congrArg Value.bool (by simp_all))⟩

theorem c_combine (G : GH) (w : World) (hG : G.In w) (a b : List Span) (va : Value) (hva : Sl SpanE 16 G va a) (vb : Value) (hvb : Sl SpanE 16 G vb b) (hCa : Can a) (hCb : Can b) (hVa : ∀ s ∈ a, spanV s = true) (hVb : ∀ s ∈ b, spanV s = true) (hla : a.length ≤ 1000) (hlb : b.length ≤ 1000) : Calls Tryz.prog (nat_lit 142) #[va, vb, .func (.func 143) #[] #[]] w fun e w' => ∃ r G', e = .returned r ∧ Res [] w G w' G' ∧ ∃ r0 r1, r = .tuple #[r0, r1] ∧ Sl SpanE 16 G' r0 (combR 3 a b) ∧ r1 = .int .i64 0 := by
  refine calls_of_WC (N := 85) Tryz.func142 rfl rfl rfl ?_
  have hS := St.start (X := []) hG
  refine WC.seq <| WC.region rfl <| WL.assign rfl <| WL.assign rfl <| WL.nil <| WC.seq <| WC.seq <| WC.region rfl <| WL.move rfl ?_
  refine WL.callF [va] #[] hb172 rfl rfl rfl ((c_runsValid _ _ hS.imm a _ hva (by assumption) (by assumption) (by omega)).mono ?_)
  rintro e w1 ⟨r1, G1, rfl, hres1, hpost1⟩
  refine ⟨_, rfl, ?_⟩
  have hS1 := hS.call hres1
  have hle1 := hres1.le
  subst hpost1
  refine WL.not true rfl rfl ?_
  refine WL.move rfl <| WL.move rfl ?_
  refine WL.callF [vb] #[] hb172 rfl rfl rfl ((c_runsValid _ _ hS1.imm b _ (hvb.mono hle1) (by assumption) (by assumption) (by omega)).mono ?_)
  rintro e w2 ⟨r2, G2, rfl, hres2, hpost2⟩
  refine ⟨_, rfl, ?_⟩
  have hS2 := hS1.call hres2
  have hle2 := hres2.le
  subst hpost2
  refine WL.not true rfl rfl ?_
  refine WL.pickF rfl rfl <| WL.nil <| WC.condF rfl <| WC.skip <| WC.seq <| WC.region rfl <| WL.assign rfl <| WL.nil <| WC.seq <| WC.region rfl <| WL.assign rfl <| WL.assign rfl <| WL.nil <| WC.seq <| WC.region rfl <| WL.assign rfl <| WL.nil <| WC.seq <| WC.region rfl <| WL.assign rfl <| WL.assign rfl <| WL.nil <| WC.seq <| WC.block ?_
  have hS4 := hS2.pad
  refine WC.loop (γ := Nat) (fun m ρ1 w1 => ∃ (i : Nat), ∃ (n : Nat), ∃ (ins : Bool), ∃ (fr : Int), ∃ (out9 : List Span), ∃ (T : Int), ∃ (v1 : Value) (o1 : OB), ∃ (G3 : GH), m = (2 * a.length + 2 * b.length - i - n) ∧ G2.le G3 ∧ St w [] G G3 [o1] w1 ∧ Row SpanE 16 46 G3 v1 out9 o1 ∧ ρ1 0 = va ∧ ρ1 1 = vb ∧ ρ1 2 = .func (.func 143) #[] #[] ∧ ρ1 8 = v1 ∧ ρ1 9 = .int .i64 (i : Int) ∧ ρ1 10 = .int .i64 (n : Int) ∧ ρ1 11 = .func (.func 173) #[] #[] ∧ ρ1 12 = .bool ins ∧ ρ1 13 = .int .i64 fr ∧ Sweep a b i n ins fr out9 T) (fun m => m) _ ⟨0, 0, false, 0, [], (-8796093022208), (.slice none 0 0), none, G2, rfl, (G2.le_refl), hS4, (Row.nil SpanE 16 46 G2), rfl, rfl, rfl, rfl, rfl, rfl, rfl, rfl, rfl, (Sweep.start hVa hVb)⟩ ?_
  rintro m ρ1 w3 ⟨i, n, ins, fr, out9, T, v1, o1, G3, rfl, hle3, hS3, hr1, e1, e2, e3, e4, e5, e6, e7, e8, e9, f1⟩
  refine WC.set (d := 0) e1 ?_
  refine WC.set (d := 1) e2 ?_
  refine WC.set (d := 2) e3 ?_
  refine WC.set (d := 8) e4 ?_
  refine WC.set (d := 9) e5 ?_
  refine WC.set (d := 10) e6 ?_
  refine WC.set (d := 11) e7 ?_
  refine WC.set (d := 12) e8 ?_
  refine WC.set (d := 13) e9 ?_
  have hba9 := (by assumption : Sweep a b i n ins fr out9 T).ba.le
  have hbb9 := (by assumption : Sweep a b i n ins fr out9 T).bb.le
  have hbd9 := (by assumption : Sweep a b i n ins fr out9 T).bds
  have hfr9 : I64 fr := ⟨by omega, by omega⟩
  refine WC.seq <| WC.seq <| WC.region rfl <| WL.move rfl <| WL.move rfl ?_
  have bd1 := hva.bound
  refine WL.lenSl (hva.mono ((hle1.trans hle2).trans hle3)) ul111 rfl rfl ?_
  refine WL.mulN 2 a.length (by have hreach : reach = 140737488355328 := rfl; omega) rfl rfl rfl ?_
  refine WL.lssS (i : Int) ((2 * a.length : Nat) : Int) rfl rfl rfl (fun h1 => ?_) (fun h1 => ?_)
  · refine WL.move rfl <| WL.no rfl rfl <| WL.no rfl rfl <| WL.no rfl rfl <| WL.no rfl rfl <| WL.no rfl rfl <| WL.pickT rfl rfl <| WL.nil <| WC.condT rfl <| WC.skip <| WC.block <| WC.seq <| WC.region rfl <| WL.move rfl <| WL.move rfl <| WL.move rfl ?_
    refine WL.callF [va, .int .i64 (i : Int)] #[] hb173 rfl rfl rfl ((c_endAt _ _ hS3.imm a i _ (hva.mono ((hle1.trans hle2).trans hle3)) (by omega) (by omega)).mono ?_)
    rintro e w4 ⟨r3, G4, rfl, hres3, hpost3⟩
    refine ⟨_, rfl, ?_⟩
    have hS5 := hS3.call hres3
    have hle4 := hres3.le
    subst hpost3
    refine WL.move rfl <| WL.move rfl <| WL.move rfl ?_
    refine WL.callF [vb, .int .i64 (n : Int)] #[] hb173 rfl rfl rfl ((c_endAt _ _ hS5.imm b n _ (hvb.mono (((hle1.trans hle2).trans hle3).trans hle4)) (by omega) (by omega)).mono ?_)
    rintro e w5 ⟨r4, G5, rfl, hres4, hpost4⟩
    refine ⟨_, rfl, ?_⟩
    have hS6 := hS5.call hres4
    have hle5 := hres4.le
    subst hpost4
    refine WL.minI (endAt a i) (endAt b n) rfl rfl rfl ?_
    refine WL.assign rfl <| WL.nil <| WC.seq <| WC.seq <| WC.region rfl <| WL.move rfl <| WL.move rfl <| WL.move rfl ?_
    refine WL.callF [va, .int .i64 (i : Int)] #[] hb173 rfl rfl rfl ((c_endAt _ _ hS6.imm a i _ (hva.mono ((((hle1.trans hle2).trans hle3).trans hle4).trans hle5)) (by omega) (by omega)).mono ?_)
    rintro e w6 ⟨r5, G6, rfl, hres5, hpost5⟩
    refine ⟨_, rfl, ?_⟩
    have hS7 := hS6.call hres5
    have hle6 := hres5.le
    subst hpost5
    refine WL.move rfl ?_
    refine WL.eqlS (endAt a i) (min (endAt a i) (endAt b n)) rfl rfl rfl (fun h2 => ?_) (fun h2 => ?_)
    · refine WL.nil <| WC.condT rfl <| WC.region rfl <| WL.move rfl ?_
      refine WL.incr i (by have hreach : reach = 140737488355328 := rfl; omega) rfl rfl rfl ?_
      refine WL.assign rfl <| WL.nil <| WC.seq <| WC.seq <| WC.region rfl <| WL.move rfl <| WL.move rfl <| WL.move rfl ?_
      refine WL.callF [vb, .int .i64 (n : Int)] #[] hb173 rfl rfl rfl ((c_endAt _ _ hS7.imm b n _ (hvb.mono (((((hle1.trans hle2).trans hle3).trans hle4).trans hle5).trans hle6)) (by omega) (by omega)).mono ?_)
      rintro e w7 ⟨r6, G7, rfl, hres6, hpost6⟩
      refine ⟨_, rfl, ?_⟩
      have hS8 := hS7.call hres6
      have hle7 := hres6.le
      subst hpost6
      refine WL.move rfl ?_
      refine WL.eqlS (endAt b n) (min (endAt a i) (endAt b n)) rfl rfl rfl (fun h3 => ?_) (fun h3 => ?_)
      · refine WL.nil <| WC.condT rfl <| WC.region rfl <| WL.move rfl ?_
        refine WL.incr n (by have hreach : reach = 140737488355328 := rfl; omega) rfl rfl rfl ?_
        refine WL.assign rfl <| WL.nil <| WC.seq ?_
        have hnx := Sweep.next (i' := i + 1) (k' := n + 1) (by assumption : Sweep a b i n ins fr out9 T) hCa hCb hVa hVb rfl (by exact .inl (by omega)) (by exact Adv.yes (by assumption)) (by exact Adv.yes (by assumption))
        have hn1 := hnx.lt; have hn2 := hnx.tb; have hn3 := hnx.adv; have hn4 := hnx.ba.le; have hn5 := hnx.bb.le
        have hat9 : I64 (min (endAt a i) (endAt b n)) := ⟨by omega, by omega⟩
        refine WC.region rfl <| WL.move rfl <| WL.move rfl ?_
        refine WL.remN (i + 1) 2 (by omega) (by have hreach : reach = 140737488355328 := rfl; omega) rfl rfl rfl ?_
        refine WL.cmp .eql rfl .i64 (((i + 1) % 2 : Nat) : Int) 1 rfl rfl rfl ?_
        refine WL.move rfl ?_
        refine WL.remN (n + 1) 2 (by omega) (by have hreach : reach = 140737488355328 := rfl; omega) rfl rfl rfl ?_
        refine WL.cmp .eql rfl .i64 (((n + 1) % 2 : Nat) : Int) 1 rfl rfl rfl ?_
        refine WL.callF [.bool (Cmp.b .eql (((i + 1) % 2 : Nat) : Int) 1), .bool (Cmp.b .eql (((n + 1) % 2 : Nat) : Int) 1)] #[] hb143 rfl rfl rfl ((c_Minus1 _ _ hS8.imm (Cmp.b .eql (((i + 1) % 2 : Nat) : Int) 1) (Cmp.b .eql (((n + 1) % 2 : Nat) : Int) 1)  ).mono ?_)
        rintro e w8 ⟨r7, G8, rfl, hres7, hpost7⟩
        refine ⟨_, rfl, ?_⟩
        have hS9 := hS8.call hres7
        have hle8 := hres7.le
        subst hpost7
        refine WL.split (fun (h4 : ((Cmp.b .eql (((i + 1) % 2 : Nat) : Int) 1) && !(Cmp.b .eql (((n + 1) % 2 : Nat) : Int) 1)) = true) => ?_) (fun (h4 : ((Cmp.b .eql (((i + 1) % 2 : Nat) : Int) 1) && !(Cmp.b .eql (((n + 1) % 2 : Nat) : Int) 1)) = false) => ?_)
        · refine WL.assign rfl <| WL.nil <| WC.seq <| WC.seq <| WC.region rfl <| WL.move rfl <| WL.move rfl ?_
          refine WL.boolEq true ins ul4 rfl rfl rfl ?_
          refine WL.split (fun (h5 : (true == ins) = true) => ?_) (fun (h5 : (true == ins) = false) => ?_)
          · refine WL.nil <| WC.condT rfl <| WC.exit ?_
            exact ⟨_, ⟨i + 1, n + 1, ins, fr, out9, (min (endAt a i) (endAt b n)), v1, o1, G8, rfl, (hle3.trans ((((hle4.trans hle5).trans hle6).trans hle7).trans hle8)), hS9, (hr1.mono ((((hle4.trans hle5).trans hle6).trans hle7).trans hle8)), rfl, rfl, rfl, rfl, rfl, rfl, rfl, rfl, rfl, (by exact Sweep.keep (by assumption) hnx (by assumption) (by assumption))⟩, (show (2 * a.length + 2 * b.length - (i + 1) - (n + 1)) < (2 * a.length + 2 * b.length - i - n) by omega)⟩
          refine WL.nil <| WC.condF rfl <| WC.skip <| WC.seq <| WC.seq <| WC.region rfl <| WL.move rfl ?_
          refine WL.split (fun (h6 : ins = true) => ?_) (fun (h6 : ins = false) => ?_)
          · refine WL.nil <| WC.condT rfl <| WC.region rfl <| WL.move rfl <| WL.move rfl <| WL.move rfl ?_
            refine WL.build _ [(0, [.int .i64 fr]), (1, [.int .i64 (min (endAt a i) (endAt b n))])] [.int .i64 fr, .int .i64 (min (endAt a i) (endAt b n))] ti46 rfl fl46 rfl rfl rfl rfl ?_
            refine WL.buildSlice _ [(0, [.int .i64 fr, .int .i64 (min (endAt a i) (endAt b n))])] [.int .i64 fr, .int .i64 (min (endAt a i) (endAt b n))] hS9 sl111 rfl rfl rfl rfl (fun z hz => by match z, hz with | [z0, z1], _ => rfl) (fun b1 w9 hn1 hS10 => ?_)
            refine WL.push (m := ([(Span.mk fr (min (endAt a i) (endAt b n)))] : List Span)) sl111 rfl rfl rfl (hr1.mono ((((hle4.trans hle5).trans hle6).trans hle7).trans hle8)) hS10 1 rfl 0 _ _ _ _ _ rfl ⟨[.int .i64 fr, .int .i64 (min (endAt a i) (endAt b n))], _, rfl, (SpanE_mk (Span.mk fr (min (endAt a i) (endAt b n))) hfr9 hat9), rfl⟩ rfl (by have hreach : reach = 140737488355328 := rfl; have hlen9 := (by assumption : Sweep a b i n ins fr out9 T).len; simp only [List.length_append, List.length_cons, List.length_nil]; omega) (by have hreach : reach = 140737488355328 := rfl; have hlen9 := (by assumption : Sweep a b i n ins fr out9 T).len; simp only [List.length_append, List.length_cons, List.length_nil]; omega) rfl rfl rfl (fun v2 o2 w10 hr2 hS11 => ?_)
            have hS12 := hS11.tail
            refine WL.assign rfl <| WL.nil <| WC.region rfl <| WL.move rfl <| WL.move rfl <| WL.assign rfl <| WL.assign rfl <| WL.nil ?_
            exact ⟨_, ⟨i + 1, n + 1, true, (min (endAt a i) (endAt b n)), (out9 ++ [(Span.mk fr (min (endAt a i) (endAt b n)))]), (min (endAt a i) (endAt b n)), v2, o2, G8, rfl, (hle3.trans ((((hle4.trans hle5).trans hle6).trans hle7).trans hle8)), hS12, hr2, rfl, rfl, rfl, rfl, rfl, rfl, rfl, rfl, rfl, (by exact Sweep.flip (by assumption) hnx (by assumption) (by assumption) (by assumption))⟩, (show (2 * a.length + 2 * b.length - (i + 1) - (n + 1)) < (2 * a.length + 2 * b.length - i - n) by omega)⟩
          refine WL.nil <| WC.condF rfl <| WC.skip <| WC.region rfl <| WL.move rfl <| WL.move rfl <| WL.assign rfl <| WL.assign rfl <| WL.nil ?_
          exact ⟨_, ⟨i + 1, n + 1, true, (min (endAt a i) (endAt b n)), out9, (min (endAt a i) (endAt b n)), v1, o1, G8, rfl, (hle3.trans ((((hle4.trans hle5).trans hle6).trans hle7).trans hle8)), hS9, (hr1.mono ((((hle4.trans hle5).trans hle6).trans hle7).trans hle8)), rfl, rfl, rfl, rfl, rfl, rfl, rfl, rfl, rfl, (by exact Sweep.flop (by assumption) hnx (by assumption) (by assumption) (by assumption))⟩, (show (2 * a.length + 2 * b.length - (i + 1) - (n + 1)) < (2 * a.length + 2 * b.length - i - n) by omega)⟩
        refine WL.assign rfl <| WL.nil <| WC.seq <| WC.seq <| WC.region rfl <| WL.move rfl <| WL.move rfl ?_
        refine WL.boolEq false ins ul4 rfl rfl rfl ?_
        refine WL.split (fun (h7 : (false == ins) = true) => ?_) (fun (h7 : (false == ins) = false) => ?_)
        · refine WL.nil <| WC.condT rfl <| WC.exit ?_
          exact ⟨_, ⟨i + 1, n + 1, ins, fr, out9, (min (endAt a i) (endAt b n)), v1, o1, G8, rfl, (hle3.trans ((((hle4.trans hle5).trans hle6).trans hle7).trans hle8)), hS9, (hr1.mono ((((hle4.trans hle5).trans hle6).trans hle7).trans hle8)), rfl, rfl, rfl, rfl, rfl, rfl, rfl, rfl, rfl, (by exact Sweep.keep (by assumption) hnx (by assumption) (by assumption))⟩, (show (2 * a.length + 2 * b.length - (i + 1) - (n + 1)) < (2 * a.length + 2 * b.length - i - n) by omega)⟩
        refine WL.nil <| WC.condF rfl <| WC.skip <| WC.seq <| WC.seq <| WC.region rfl <| WL.move rfl ?_
        refine WL.split (fun (h8 : ins = true) => ?_) (fun (h8 : ins = false) => ?_)
        · refine WL.nil <| WC.condT rfl <| WC.region rfl <| WL.move rfl <| WL.move rfl <| WL.move rfl ?_
          refine WL.build _ [(0, [.int .i64 fr]), (1, [.int .i64 (min (endAt a i) (endAt b n))])] [.int .i64 fr, .int .i64 (min (endAt a i) (endAt b n))] ti46 rfl fl46 rfl rfl rfl rfl ?_
          refine WL.buildSlice _ [(0, [.int .i64 fr, .int .i64 (min (endAt a i) (endAt b n))])] [.int .i64 fr, .int .i64 (min (endAt a i) (endAt b n))] hS9 sl111 rfl rfl rfl rfl (fun z hz => by match z, hz with | [z0, z1], _ => rfl) (fun b2 w11 hn2 hS13 => ?_)
          refine WL.push (m := ([(Span.mk fr (min (endAt a i) (endAt b n)))] : List Span)) sl111 rfl rfl rfl (hr1.mono ((((hle4.trans hle5).trans hle6).trans hle7).trans hle8)) hS13 1 rfl 0 _ _ _ _ _ rfl ⟨[.int .i64 fr, .int .i64 (min (endAt a i) (endAt b n))], _, rfl, (SpanE_mk (Span.mk fr (min (endAt a i) (endAt b n))) hfr9 hat9), rfl⟩ rfl (by have hreach : reach = 140737488355328 := rfl; have hlen9 := (by assumption : Sweep a b i n ins fr out9 T).len; simp only [List.length_append, List.length_cons, List.length_nil]; omega) (by have hreach : reach = 140737488355328 := rfl; have hlen9 := (by assumption : Sweep a b i n ins fr out9 T).len; simp only [List.length_append, List.length_cons, List.length_nil]; omega) rfl rfl rfl (fun v3 o3 w12 hr3 hS14 => ?_)
          have hS15 := hS14.tail
          refine WL.assign rfl <| WL.nil <| WC.region rfl <| WL.move rfl <| WL.move rfl <| WL.assign rfl <| WL.assign rfl <| WL.nil ?_
          exact ⟨_, ⟨i + 1, n + 1, false, (min (endAt a i) (endAt b n)), (out9 ++ [(Span.mk fr (min (endAt a i) (endAt b n)))]), (min (endAt a i) (endAt b n)), v3, o3, G8, rfl, (hle3.trans ((((hle4.trans hle5).trans hle6).trans hle7).trans hle8)), hS15, hr3, rfl, rfl, rfl, rfl, rfl, rfl, rfl, rfl, rfl, (by exact Sweep.flip (by assumption) hnx (by assumption) (by assumption) (by assumption))⟩, (show (2 * a.length + 2 * b.length - (i + 1) - (n + 1)) < (2 * a.length + 2 * b.length - i - n) by omega)⟩
        refine WL.nil <| WC.condF rfl <| WC.skip <| WC.region rfl <| WL.move rfl <| WL.move rfl <| WL.assign rfl <| WL.assign rfl <| WL.nil ?_
        exact ⟨_, ⟨i + 1, n + 1, false, (min (endAt a i) (endAt b n)), out9, (min (endAt a i) (endAt b n)), v1, o1, G8, rfl, (hle3.trans ((((hle4.trans hle5).trans hle6).trans hle7).trans hle8)), hS9, (hr1.mono ((((hle4.trans hle5).trans hle6).trans hle7).trans hle8)), rfl, rfl, rfl, rfl, rfl, rfl, rfl, rfl, rfl, (by exact Sweep.flop (by assumption) hnx (by assumption) (by assumption) (by assumption))⟩, (show (2 * a.length + 2 * b.length - (i + 1) - (n + 1)) < (2 * a.length + 2 * b.length - i - n) by omega)⟩
      refine WL.nil <| WC.condF rfl <| WC.skip <| WC.seq ?_
      have hnx := Sweep.next (i' := i + 1) (k' := n) (by assumption : Sweep a b i n ins fr out9 T) hCa hCb hVa hVb rfl (by exact .inl (by omega)) (by exact Adv.yes (by assumption)) (by exact Adv.no (by assumption))
      have hn1 := hnx.lt; have hn2 := hnx.tb; have hn3 := hnx.adv; have hn4 := hnx.ba.le; have hn5 := hnx.bb.le
      have hat9 : I64 (min (endAt a i) (endAt b n)) := ⟨by omega, by omega⟩
      refine WC.region rfl <| WL.move rfl <| WL.move rfl ?_
      refine WL.remN (i + 1) 2 (by omega) (by have hreach : reach = 140737488355328 := rfl; omega) rfl rfl rfl ?_
      refine WL.cmp .eql rfl .i64 (((i + 1) % 2 : Nat) : Int) 1 rfl rfl rfl ?_
      refine WL.move rfl ?_
      refine WL.remN n 2 (by omega) (by have hreach : reach = 140737488355328 := rfl; omega) rfl rfl rfl ?_
      refine WL.cmp .eql rfl .i64 ((n % 2 : Nat) : Int) 1 rfl rfl rfl ?_
      refine WL.callF [.bool (Cmp.b .eql (((i + 1) % 2 : Nat) : Int) 1), .bool (Cmp.b .eql ((n % 2 : Nat) : Int) 1)] #[] hb143 rfl rfl rfl ((c_Minus1 _ _ hS8.imm (Cmp.b .eql (((i + 1) % 2 : Nat) : Int) 1) (Cmp.b .eql ((n % 2 : Nat) : Int) 1)  ).mono ?_)
      rintro e w13 ⟨r8, G9, rfl, hres8, hpost8⟩
      refine ⟨_, rfl, ?_⟩
      have hS16 := hS8.call hres8
      have hle9 := hres8.le
      subst hpost8
      refine WL.split (fun (h9 : ((Cmp.b .eql (((i + 1) % 2 : Nat) : Int) 1) && !(Cmp.b .eql ((n % 2 : Nat) : Int) 1)) = true) => ?_) (fun (h9 : ((Cmp.b .eql (((i + 1) % 2 : Nat) : Int) 1) && !(Cmp.b .eql ((n % 2 : Nat) : Int) 1)) = false) => ?_)
      · refine WL.assign rfl <| WL.nil <| WC.seq <| WC.seq <| WC.region rfl <| WL.move rfl <| WL.move rfl ?_
        refine WL.boolEq true ins ul4 rfl rfl rfl ?_
        refine WL.split (fun (h10 : (true == ins) = true) => ?_) (fun (h10 : (true == ins) = false) => ?_)
        · refine WL.nil <| WC.condT rfl <| WC.exit ?_
          exact ⟨_, ⟨i + 1, n, ins, fr, out9, (min (endAt a i) (endAt b n)), v1, o1, G9, rfl, (hle3.trans ((((hle4.trans hle5).trans hle6).trans hle7).trans hle9)), hS16, (hr1.mono ((((hle4.trans hle5).trans hle6).trans hle7).trans hle9)), rfl, rfl, rfl, rfl, rfl, rfl, rfl, rfl, rfl, (by exact Sweep.keep (by assumption) hnx (by assumption) (by assumption))⟩, (show (2 * a.length + 2 * b.length - (i + 1) - n) < (2 * a.length + 2 * b.length - i - n) by omega)⟩
        refine WL.nil <| WC.condF rfl <| WC.skip <| WC.seq <| WC.seq <| WC.region rfl <| WL.move rfl ?_
        refine WL.split (fun (h11 : ins = true) => ?_) (fun (h11 : ins = false) => ?_)
        · refine WL.nil <| WC.condT rfl <| WC.region rfl <| WL.move rfl <| WL.move rfl <| WL.move rfl ?_
          refine WL.build _ [(0, [.int .i64 fr]), (1, [.int .i64 (min (endAt a i) (endAt b n))])] [.int .i64 fr, .int .i64 (min (endAt a i) (endAt b n))] ti46 rfl fl46 rfl rfl rfl rfl ?_
          refine WL.buildSlice _ [(0, [.int .i64 fr, .int .i64 (min (endAt a i) (endAt b n))])] [.int .i64 fr, .int .i64 (min (endAt a i) (endAt b n))] hS16 sl111 rfl rfl rfl rfl (fun z hz => by match z, hz with | [z0, z1], _ => rfl) (fun b3 w14 hn3 hS17 => ?_)
          refine WL.push (m := ([(Span.mk fr (min (endAt a i) (endAt b n)))] : List Span)) sl111 rfl rfl rfl (hr1.mono ((((hle4.trans hle5).trans hle6).trans hle7).trans hle9)) hS17 1 rfl 0 _ _ _ _ _ rfl ⟨[.int .i64 fr, .int .i64 (min (endAt a i) (endAt b n))], _, rfl, (SpanE_mk (Span.mk fr (min (endAt a i) (endAt b n))) hfr9 hat9), rfl⟩ rfl (by have hreach : reach = 140737488355328 := rfl; have hlen9 := (by assumption : Sweep a b i n ins fr out9 T).len; simp only [List.length_append, List.length_cons, List.length_nil]; omega) (by have hreach : reach = 140737488355328 := rfl; have hlen9 := (by assumption : Sweep a b i n ins fr out9 T).len; simp only [List.length_append, List.length_cons, List.length_nil]; omega) rfl rfl rfl (fun v4 o4 w15 hr4 hS18 => ?_)
          have hS19 := hS18.tail
          refine WL.assign rfl <| WL.nil <| WC.region rfl <| WL.move rfl <| WL.move rfl <| WL.assign rfl <| WL.assign rfl <| WL.nil ?_
          exact ⟨_, ⟨i + 1, n, true, (min (endAt a i) (endAt b n)), (out9 ++ [(Span.mk fr (min (endAt a i) (endAt b n)))]), (min (endAt a i) (endAt b n)), v4, o4, G9, rfl, (hle3.trans ((((hle4.trans hle5).trans hle6).trans hle7).trans hle9)), hS19, hr4, rfl, rfl, rfl, rfl, rfl, rfl, rfl, rfl, rfl, (by exact Sweep.flip (by assumption) hnx (by assumption) (by assumption) (by assumption))⟩, (show (2 * a.length + 2 * b.length - (i + 1) - n) < (2 * a.length + 2 * b.length - i - n) by omega)⟩
        refine WL.nil <| WC.condF rfl <| WC.skip <| WC.region rfl <| WL.move rfl <| WL.move rfl <| WL.assign rfl <| WL.assign rfl <| WL.nil ?_
        exact ⟨_, ⟨i + 1, n, true, (min (endAt a i) (endAt b n)), out9, (min (endAt a i) (endAt b n)), v1, o1, G9, rfl, (hle3.trans ((((hle4.trans hle5).trans hle6).trans hle7).trans hle9)), hS16, (hr1.mono ((((hle4.trans hle5).trans hle6).trans hle7).trans hle9)), rfl, rfl, rfl, rfl, rfl, rfl, rfl, rfl, rfl, (by exact Sweep.flop (by assumption) hnx (by assumption) (by assumption) (by assumption))⟩, (show (2 * a.length + 2 * b.length - (i + 1) - n) < (2 * a.length + 2 * b.length - i - n) by omega)⟩
      refine WL.assign rfl <| WL.nil <| WC.seq <| WC.seq <| WC.region rfl <| WL.move rfl <| WL.move rfl ?_
      refine WL.boolEq false ins ul4 rfl rfl rfl ?_
      refine WL.split (fun (h12 : (false == ins) = true) => ?_) (fun (h12 : (false == ins) = false) => ?_)
      · refine WL.nil <| WC.condT rfl <| WC.exit ?_
        exact ⟨_, ⟨i + 1, n, ins, fr, out9, (min (endAt a i) (endAt b n)), v1, o1, G9, rfl, (hle3.trans ((((hle4.trans hle5).trans hle6).trans hle7).trans hle9)), hS16, (hr1.mono ((((hle4.trans hle5).trans hle6).trans hle7).trans hle9)), rfl, rfl, rfl, rfl, rfl, rfl, rfl, rfl, rfl, (by exact Sweep.keep (by assumption) hnx (by assumption) (by assumption))⟩, (show (2 * a.length + 2 * b.length - (i + 1) - n) < (2 * a.length + 2 * b.length - i - n) by omega)⟩
      refine WL.nil <| WC.condF rfl <| WC.skip <| WC.seq <| WC.seq <| WC.region rfl <| WL.move rfl ?_
      refine WL.split (fun (h13 : ins = true) => ?_) (fun (h13 : ins = false) => ?_)
      · refine WL.nil <| WC.condT rfl <| WC.region rfl <| WL.move rfl <| WL.move rfl <| WL.move rfl ?_
        refine WL.build _ [(0, [.int .i64 fr]), (1, [.int .i64 (min (endAt a i) (endAt b n))])] [.int .i64 fr, .int .i64 (min (endAt a i) (endAt b n))] ti46 rfl fl46 rfl rfl rfl rfl ?_
        refine WL.buildSlice _ [(0, [.int .i64 fr, .int .i64 (min (endAt a i) (endAt b n))])] [.int .i64 fr, .int .i64 (min (endAt a i) (endAt b n))] hS16 sl111 rfl rfl rfl rfl (fun z hz => by match z, hz with | [z0, z1], _ => rfl) (fun b4 w16 hn4 hS20 => ?_)
        refine WL.push (m := ([(Span.mk fr (min (endAt a i) (endAt b n)))] : List Span)) sl111 rfl rfl rfl (hr1.mono ((((hle4.trans hle5).trans hle6).trans hle7).trans hle9)) hS20 1 rfl 0 _ _ _ _ _ rfl ⟨[.int .i64 fr, .int .i64 (min (endAt a i) (endAt b n))], _, rfl, (SpanE_mk (Span.mk fr (min (endAt a i) (endAt b n))) hfr9 hat9), rfl⟩ rfl (by have hreach : reach = 140737488355328 := rfl; have hlen9 := (by assumption : Sweep a b i n ins fr out9 T).len; simp only [List.length_append, List.length_cons, List.length_nil]; omega) (by have hreach : reach = 140737488355328 := rfl; have hlen9 := (by assumption : Sweep a b i n ins fr out9 T).len; simp only [List.length_append, List.length_cons, List.length_nil]; omega) rfl rfl rfl (fun v5 o5 w17 hr5 hS21 => ?_)
        have hS22 := hS21.tail
        refine WL.assign rfl <| WL.nil <| WC.region rfl <| WL.move rfl <| WL.move rfl <| WL.assign rfl <| WL.assign rfl <| WL.nil ?_
        exact ⟨_, ⟨i + 1, n, false, (min (endAt a i) (endAt b n)), (out9 ++ [(Span.mk fr (min (endAt a i) (endAt b n)))]), (min (endAt a i) (endAt b n)), v5, o5, G9, rfl, (hle3.trans ((((hle4.trans hle5).trans hle6).trans hle7).trans hle9)), hS22, hr5, rfl, rfl, rfl, rfl, rfl, rfl, rfl, rfl, rfl, (by exact Sweep.flip (by assumption) hnx (by assumption) (by assumption) (by assumption))⟩, (show (2 * a.length + 2 * b.length - (i + 1) - n) < (2 * a.length + 2 * b.length - i - n) by omega)⟩
      refine WL.nil <| WC.condF rfl <| WC.skip <| WC.region rfl <| WL.move rfl <| WL.move rfl <| WL.assign rfl <| WL.assign rfl <| WL.nil ?_
      exact ⟨_, ⟨i + 1, n, false, (min (endAt a i) (endAt b n)), out9, (min (endAt a i) (endAt b n)), v1, o1, G9, rfl, (hle3.trans ((((hle4.trans hle5).trans hle6).trans hle7).trans hle9)), hS16, (hr1.mono ((((hle4.trans hle5).trans hle6).trans hle7).trans hle9)), rfl, rfl, rfl, rfl, rfl, rfl, rfl, rfl, rfl, (by exact Sweep.flop (by assumption) hnx (by assumption) (by assumption) (by assumption))⟩, (show (2 * a.length + 2 * b.length - (i + 1) - n) < (2 * a.length + 2 * b.length - i - n) by omega)⟩
    refine WL.nil <| WC.condF rfl <| WC.skip <| WC.seq <| WC.seq <| WC.region rfl <| WL.move rfl <| WL.move rfl <| WL.move rfl ?_
    refine WL.callF [vb, .int .i64 (n : Int)] #[] hb173 rfl rfl rfl ((c_endAt _ _ hS7.imm b n _ (hvb.mono (((((hle1.trans hle2).trans hle3).trans hle4).trans hle5).trans hle6)) (by omega) (by omega)).mono ?_)
    rintro e w18 ⟨r9, G10, rfl, hres9, hpost9⟩
    refine ⟨_, rfl, ?_⟩
    have hS23 := hS7.call hres9
    have hle10 := hres9.le
    subst hpost9
    refine WL.move rfl ?_
    refine WL.eqlS (endAt b n) (min (endAt a i) (endAt b n)) rfl rfl rfl (fun h14 => ?_) (fun h14 => ?_)
    · refine WL.nil <| WC.condT rfl <| WC.region rfl <| WL.move rfl ?_
      refine WL.incr n (by have hreach : reach = 140737488355328 := rfl; omega) rfl rfl rfl ?_
      refine WL.assign rfl <| WL.nil <| WC.seq ?_
      have hnx := Sweep.next (i' := i) (k' := n + 1) (by assumption : Sweep a b i n ins fr out9 T) hCa hCb hVa hVb rfl (by exact .inl (by omega)) (by exact Adv.no (by assumption)) (by exact Adv.yes (by assumption))
      have hn1 := hnx.lt; have hn2 := hnx.tb; have hn3 := hnx.adv; have hn4 := hnx.ba.le; have hn5 := hnx.bb.le
      have hat9 : I64 (min (endAt a i) (endAt b n)) := ⟨by omega, by omega⟩
      refine WC.region rfl <| WL.move rfl <| WL.move rfl ?_
      refine WL.remN i 2 (by omega) (by have hreach : reach = 140737488355328 := rfl; omega) rfl rfl rfl ?_
      refine WL.cmp .eql rfl .i64 ((i % 2 : Nat) : Int) 1 rfl rfl rfl ?_
      refine WL.move rfl ?_
      refine WL.remN (n + 1) 2 (by omega) (by have hreach : reach = 140737488355328 := rfl; omega) rfl rfl rfl ?_
      refine WL.cmp .eql rfl .i64 (((n + 1) % 2 : Nat) : Int) 1 rfl rfl rfl ?_
      refine WL.callF [.bool (Cmp.b .eql ((i % 2 : Nat) : Int) 1), .bool (Cmp.b .eql (((n + 1) % 2 : Nat) : Int) 1)] #[] hb143 rfl rfl rfl ((c_Minus1 _ _ hS23.imm (Cmp.b .eql ((i % 2 : Nat) : Int) 1) (Cmp.b .eql (((n + 1) % 2 : Nat) : Int) 1)  ).mono ?_)
      rintro e w19 ⟨r10, G11, rfl, hres10, hpost10⟩
      refine ⟨_, rfl, ?_⟩
      have hS24 := hS23.call hres10
      have hle11 := hres10.le
      subst hpost10
      refine WL.split (fun (h15 : ((Cmp.b .eql ((i % 2 : Nat) : Int) 1) && !(Cmp.b .eql (((n + 1) % 2 : Nat) : Int) 1)) = true) => ?_) (fun (h15 : ((Cmp.b .eql ((i % 2 : Nat) : Int) 1) && !(Cmp.b .eql (((n + 1) % 2 : Nat) : Int) 1)) = false) => ?_)
      · refine WL.assign rfl <| WL.nil <| WC.seq <| WC.seq <| WC.region rfl <| WL.move rfl <| WL.move rfl ?_
        refine WL.boolEq true ins ul4 rfl rfl rfl ?_
        refine WL.split (fun (h16 : (true == ins) = true) => ?_) (fun (h16 : (true == ins) = false) => ?_)
        · refine WL.nil <| WC.condT rfl <| WC.exit ?_
          exact ⟨_, ⟨i, n + 1, ins, fr, out9, (min (endAt a i) (endAt b n)), v1, o1, G11, rfl, (hle3.trans ((((hle4.trans hle5).trans hle6).trans hle10).trans hle11)), hS24, (hr1.mono ((((hle4.trans hle5).trans hle6).trans hle10).trans hle11)), rfl, rfl, rfl, rfl, rfl, rfl, rfl, rfl, rfl, (by exact Sweep.keep (by assumption) hnx (by assumption) (by assumption))⟩, (show (2 * a.length + 2 * b.length - i - (n + 1)) < (2 * a.length + 2 * b.length - i - n) by omega)⟩
        refine WL.nil <| WC.condF rfl <| WC.skip <| WC.seq <| WC.seq <| WC.region rfl <| WL.move rfl ?_
        refine WL.split (fun (h17 : ins = true) => ?_) (fun (h17 : ins = false) => ?_)
        · refine WL.nil <| WC.condT rfl <| WC.region rfl <| WL.move rfl <| WL.move rfl <| WL.move rfl ?_
          refine WL.build _ [(0, [.int .i64 fr]), (1, [.int .i64 (min (endAt a i) (endAt b n))])] [.int .i64 fr, .int .i64 (min (endAt a i) (endAt b n))] ti46 rfl fl46 rfl rfl rfl rfl ?_
          refine WL.buildSlice _ [(0, [.int .i64 fr, .int .i64 (min (endAt a i) (endAt b n))])] [.int .i64 fr, .int .i64 (min (endAt a i) (endAt b n))] hS24 sl111 rfl rfl rfl rfl (fun z hz => by match z, hz with | [z0, z1], _ => rfl) (fun b5 w20 hn5 hS25 => ?_)
          refine WL.push (m := ([(Span.mk fr (min (endAt a i) (endAt b n)))] : List Span)) sl111 rfl rfl rfl (hr1.mono ((((hle4.trans hle5).trans hle6).trans hle10).trans hle11)) hS25 1 rfl 0 _ _ _ _ _ rfl ⟨[.int .i64 fr, .int .i64 (min (endAt a i) (endAt b n))], _, rfl, (SpanE_mk (Span.mk fr (min (endAt a i) (endAt b n))) hfr9 hat9), rfl⟩ rfl (by have hreach : reach = 140737488355328 := rfl; have hlen9 := (by assumption : Sweep a b i n ins fr out9 T).len; simp only [List.length_append, List.length_cons, List.length_nil]; omega) (by have hreach : reach = 140737488355328 := rfl; have hlen9 := (by assumption : Sweep a b i n ins fr out9 T).len; simp only [List.length_append, List.length_cons, List.length_nil]; omega) rfl rfl rfl (fun v6 o6 w21 hr6 hS26 => ?_)
          have hS27 := hS26.tail
          refine WL.assign rfl <| WL.nil <| WC.region rfl <| WL.move rfl <| WL.move rfl <| WL.assign rfl <| WL.assign rfl <| WL.nil ?_
          exact ⟨_, ⟨i, n + 1, true, (min (endAt a i) (endAt b n)), (out9 ++ [(Span.mk fr (min (endAt a i) (endAt b n)))]), (min (endAt a i) (endAt b n)), v6, o6, G11, rfl, (hle3.trans ((((hle4.trans hle5).trans hle6).trans hle10).trans hle11)), hS27, hr6, rfl, rfl, rfl, rfl, rfl, rfl, rfl, rfl, rfl, (by exact Sweep.flip (by assumption) hnx (by assumption) (by assumption) (by assumption))⟩, (show (2 * a.length + 2 * b.length - i - (n + 1)) < (2 * a.length + 2 * b.length - i - n) by omega)⟩
        refine WL.nil <| WC.condF rfl <| WC.skip <| WC.region rfl <| WL.move rfl <| WL.move rfl <| WL.assign rfl <| WL.assign rfl <| WL.nil ?_
        exact ⟨_, ⟨i, n + 1, true, (min (endAt a i) (endAt b n)), out9, (min (endAt a i) (endAt b n)), v1, o1, G11, rfl, (hle3.trans ((((hle4.trans hle5).trans hle6).trans hle10).trans hle11)), hS24, (hr1.mono ((((hle4.trans hle5).trans hle6).trans hle10).trans hle11)), rfl, rfl, rfl, rfl, rfl, rfl, rfl, rfl, rfl, (by exact Sweep.flop (by assumption) hnx (by assumption) (by assumption) (by assumption))⟩, (show (2 * a.length + 2 * b.length - i - (n + 1)) < (2 * a.length + 2 * b.length - i - n) by omega)⟩
      refine WL.assign rfl <| WL.nil <| WC.seq <| WC.seq <| WC.region rfl <| WL.move rfl <| WL.move rfl ?_
      refine WL.boolEq false ins ul4 rfl rfl rfl ?_
      refine WL.split (fun (h18 : (false == ins) = true) => ?_) (fun (h18 : (false == ins) = false) => ?_)
      · refine WL.nil <| WC.condT rfl <| WC.exit ?_
        exact ⟨_, ⟨i, n + 1, ins, fr, out9, (min (endAt a i) (endAt b n)), v1, o1, G11, rfl, (hle3.trans ((((hle4.trans hle5).trans hle6).trans hle10).trans hle11)), hS24, (hr1.mono ((((hle4.trans hle5).trans hle6).trans hle10).trans hle11)), rfl, rfl, rfl, rfl, rfl, rfl, rfl, rfl, rfl, (by exact Sweep.keep (by assumption) hnx (by assumption) (by assumption))⟩, (show (2 * a.length + 2 * b.length - i - (n + 1)) < (2 * a.length + 2 * b.length - i - n) by omega)⟩
      refine WL.nil <| WC.condF rfl <| WC.skip <| WC.seq <| WC.seq <| WC.region rfl <| WL.move rfl ?_
      refine WL.split (fun (h19 : ins = true) => ?_) (fun (h19 : ins = false) => ?_)
      · refine WL.nil <| WC.condT rfl <| WC.region rfl <| WL.move rfl <| WL.move rfl <| WL.move rfl ?_
        refine WL.build _ [(0, [.int .i64 fr]), (1, [.int .i64 (min (endAt a i) (endAt b n))])] [.int .i64 fr, .int .i64 (min (endAt a i) (endAt b n))] ti46 rfl fl46 rfl rfl rfl rfl ?_
        refine WL.buildSlice _ [(0, [.int .i64 fr, .int .i64 (min (endAt a i) (endAt b n))])] [.int .i64 fr, .int .i64 (min (endAt a i) (endAt b n))] hS24 sl111 rfl rfl rfl rfl (fun z hz => by match z, hz with | [z0, z1], _ => rfl) (fun b6 w22 hn6 hS28 => ?_)
        refine WL.push (m := ([(Span.mk fr (min (endAt a i) (endAt b n)))] : List Span)) sl111 rfl rfl rfl (hr1.mono ((((hle4.trans hle5).trans hle6).trans hle10).trans hle11)) hS28 1 rfl 0 _ _ _ _ _ rfl ⟨[.int .i64 fr, .int .i64 (min (endAt a i) (endAt b n))], _, rfl, (SpanE_mk (Span.mk fr (min (endAt a i) (endAt b n))) hfr9 hat9), rfl⟩ rfl (by have hreach : reach = 140737488355328 := rfl; have hlen9 := (by assumption : Sweep a b i n ins fr out9 T).len; simp only [List.length_append, List.length_cons, List.length_nil]; omega) (by have hreach : reach = 140737488355328 := rfl; have hlen9 := (by assumption : Sweep a b i n ins fr out9 T).len; simp only [List.length_append, List.length_cons, List.length_nil]; omega) rfl rfl rfl (fun v7 o7 w23 hr7 hS29 => ?_)
        have hS30 := hS29.tail
        refine WL.assign rfl <| WL.nil <| WC.region rfl <| WL.move rfl <| WL.move rfl <| WL.assign rfl <| WL.assign rfl <| WL.nil ?_
        exact ⟨_, ⟨i, n + 1, false, (min (endAt a i) (endAt b n)), (out9 ++ [(Span.mk fr (min (endAt a i) (endAt b n)))]), (min (endAt a i) (endAt b n)), v7, o7, G11, rfl, (hle3.trans ((((hle4.trans hle5).trans hle6).trans hle10).trans hle11)), hS30, hr7, rfl, rfl, rfl, rfl, rfl, rfl, rfl, rfl, rfl, (by exact Sweep.flip (by assumption) hnx (by assumption) (by assumption) (by assumption))⟩, (show (2 * a.length + 2 * b.length - i - (n + 1)) < (2 * a.length + 2 * b.length - i - n) by omega)⟩
      refine WL.nil <| WC.condF rfl <| WC.skip <| WC.region rfl <| WL.move rfl <| WL.move rfl <| WL.assign rfl <| WL.assign rfl <| WL.nil ?_
      exact ⟨_, ⟨i, n + 1, false, (min (endAt a i) (endAt b n)), out9, (min (endAt a i) (endAt b n)), v1, o1, G11, rfl, (hle3.trans ((((hle4.trans hle5).trans hle6).trans hle10).trans hle11)), hS24, (hr1.mono ((((hle4.trans hle5).trans hle6).trans hle10).trans hle11)), rfl, rfl, rfl, rfl, rfl, rfl, rfl, rfl, rfl, (by exact Sweep.flop (by assumption) hnx (by assumption) (by assumption) (by assumption))⟩, (show (2 * a.length + 2 * b.length - i - (n + 1)) < (2 * a.length + 2 * b.length - i - n) by omega)⟩
    refine WL.nil <| WC.condF rfl <| WC.skip <| WC.seq ?_
    have hnx := Sweep.next (i' := i) (k' := n) (by assumption : Sweep a b i n ins fr out9 T) hCa hCb hVa hVb rfl (by exact .inl (by omega)) (by exact Adv.no (by assumption)) (by exact Adv.no (by assumption))
    have hn1 := hnx.lt; have hn2 := hnx.tb; have hn3 := hnx.adv; have hn4 := hnx.ba.le; have hn5 := hnx.bb.le
    have hat9 : I64 (min (endAt a i) (endAt b n)) := ⟨by omega, by omega⟩
    refine WC.region rfl <| WL.move rfl <| WL.move rfl ?_
    refine WL.remN i 2 (by omega) (by have hreach : reach = 140737488355328 := rfl; omega) rfl rfl rfl ?_
    refine WL.cmp .eql rfl .i64 ((i % 2 : Nat) : Int) 1 rfl rfl rfl ?_
    refine WL.move rfl ?_
    refine WL.remN n 2 (by omega) (by have hreach : reach = 140737488355328 := rfl; omega) rfl rfl rfl ?_
    refine WL.cmp .eql rfl .i64 ((n % 2 : Nat) : Int) 1 rfl rfl rfl ?_
    refine WL.callF [.bool (Cmp.b .eql ((i % 2 : Nat) : Int) 1), .bool (Cmp.b .eql ((n % 2 : Nat) : Int) 1)] #[] hb143 rfl rfl rfl ((c_Minus1 _ _ hS23.imm (Cmp.b .eql ((i % 2 : Nat) : Int) 1) (Cmp.b .eql ((n % 2 : Nat) : Int) 1)  ).mono ?_)
    rintro e w24 ⟨r11, G12, rfl, hres11, hpost11⟩
    refine ⟨_, rfl, ?_⟩
    have hS31 := hS23.call hres11
    have hle12 := hres11.le
    subst hpost11
    refine WL.split (fun (h20 : ((Cmp.b .eql ((i % 2 : Nat) : Int) 1) && !(Cmp.b .eql ((n % 2 : Nat) : Int) 1)) = true) => ?_) (fun (h20 : ((Cmp.b .eql ((i % 2 : Nat) : Int) 1) && !(Cmp.b .eql ((n % 2 : Nat) : Int) 1)) = false) => ?_)
    · refine WL.assign rfl <| WL.nil <| WC.seq <| WC.seq <| WC.region rfl <| WL.move rfl <| WL.move rfl ?_
      refine WL.boolEq true ins ul4 rfl rfl rfl ?_
      refine WL.split (fun (h21 : (true == ins) = true) => ?_) (fun (h21 : (true == ins) = false) => ?_)
      · refine WL.nil <| WC.condT rfl <| WC.exit ?_
        exact ⟨_, ⟨i, n, ins, fr, out9, (min (endAt a i) (endAt b n)), v1, o1, G12, rfl, (hle3.trans ((((hle4.trans hle5).trans hle6).trans hle10).trans hle12)), hS31, (hr1.mono ((((hle4.trans hle5).trans hle6).trans hle10).trans hle12)), rfl, rfl, rfl, rfl, rfl, rfl, rfl, rfl, rfl, (by exact Sweep.keep (by assumption) hnx (by assumption) (by assumption))⟩, (show (2 * a.length + 2 * b.length - i - n) < (2 * a.length + 2 * b.length - i - n) by omega)⟩
      refine WL.nil <| WC.condF rfl <| WC.skip <| WC.seq <| WC.seq <| WC.region rfl <| WL.move rfl ?_
      refine WL.split (fun (h22 : ins = true) => ?_) (fun (h22 : ins = false) => ?_)
      · refine WL.nil <| WC.condT rfl <| WC.region rfl <| WL.move rfl <| WL.move rfl <| WL.move rfl ?_
        refine WL.build _ [(0, [.int .i64 fr]), (1, [.int .i64 (min (endAt a i) (endAt b n))])] [.int .i64 fr, .int .i64 (min (endAt a i) (endAt b n))] ti46 rfl fl46 rfl rfl rfl rfl ?_
        refine WL.buildSlice _ [(0, [.int .i64 fr, .int .i64 (min (endAt a i) (endAt b n))])] [.int .i64 fr, .int .i64 (min (endAt a i) (endAt b n))] hS31 sl111 rfl rfl rfl rfl (fun z hz => by match z, hz with | [z0, z1], _ => rfl) (fun b7 w25 hn7 hS32 => ?_)
        refine WL.push (m := ([(Span.mk fr (min (endAt a i) (endAt b n)))] : List Span)) sl111 rfl rfl rfl (hr1.mono ((((hle4.trans hle5).trans hle6).trans hle10).trans hle12)) hS32 1 rfl 0 _ _ _ _ _ rfl ⟨[.int .i64 fr, .int .i64 (min (endAt a i) (endAt b n))], _, rfl, (SpanE_mk (Span.mk fr (min (endAt a i) (endAt b n))) hfr9 hat9), rfl⟩ rfl (by have hreach : reach = 140737488355328 := rfl; have hlen9 := (by assumption : Sweep a b i n ins fr out9 T).len; simp only [List.length_append, List.length_cons, List.length_nil]; omega) (by have hreach : reach = 140737488355328 := rfl; have hlen9 := (by assumption : Sweep a b i n ins fr out9 T).len; simp only [List.length_append, List.length_cons, List.length_nil]; omega) rfl rfl rfl (fun v8 o8 w26 hr8 hS33 => ?_)
        have hS34 := hS33.tail
        refine WL.assign rfl <| WL.nil <| WC.region rfl <| WL.move rfl <| WL.move rfl <| WL.assign rfl <| WL.assign rfl <| WL.nil ?_
        exact ⟨_, ⟨i, n, true, (min (endAt a i) (endAt b n)), (out9 ++ [(Span.mk fr (min (endAt a i) (endAt b n)))]), (min (endAt a i) (endAt b n)), v8, o8, G12, rfl, (hle3.trans ((((hle4.trans hle5).trans hle6).trans hle10).trans hle12)), hS34, hr8, rfl, rfl, rfl, rfl, rfl, rfl, rfl, rfl, rfl, (by exact Sweep.flip (by assumption) hnx (by assumption) (by assumption) (by assumption))⟩, (show (2 * a.length + 2 * b.length - i - n) < (2 * a.length + 2 * b.length - i - n) by omega)⟩
      refine WL.nil <| WC.condF rfl <| WC.skip <| WC.region rfl <| WL.move rfl <| WL.move rfl <| WL.assign rfl <| WL.assign rfl <| WL.nil ?_
      exact ⟨_, ⟨i, n, true, (min (endAt a i) (endAt b n)), out9, (min (endAt a i) (endAt b n)), v1, o1, G12, rfl, (hle3.trans ((((hle4.trans hle5).trans hle6).trans hle10).trans hle12)), hS31, (hr1.mono ((((hle4.trans hle5).trans hle6).trans hle10).trans hle12)), rfl, rfl, rfl, rfl, rfl, rfl, rfl, rfl, rfl, (by exact Sweep.flop (by assumption) hnx (by assumption) (by assumption) (by assumption))⟩, (show (2 * a.length + 2 * b.length - i - n) < (2 * a.length + 2 * b.length - i - n) by omega)⟩
    refine WL.assign rfl <| WL.nil <| WC.seq <| WC.seq <| WC.region rfl <| WL.move rfl <| WL.move rfl ?_
    refine WL.boolEq false ins ul4 rfl rfl rfl ?_
    refine WL.split (fun (h23 : (false == ins) = true) => ?_) (fun (h23 : (false == ins) = false) => ?_)
    · refine WL.nil <| WC.condT rfl <| WC.exit ?_
      exact ⟨_, ⟨i, n, ins, fr, out9, (min (endAt a i) (endAt b n)), v1, o1, G12, rfl, (hle3.trans ((((hle4.trans hle5).trans hle6).trans hle10).trans hle12)), hS31, (hr1.mono ((((hle4.trans hle5).trans hle6).trans hle10).trans hle12)), rfl, rfl, rfl, rfl, rfl, rfl, rfl, rfl, rfl, (by exact Sweep.keep (by assumption) hnx (by assumption) (by assumption))⟩, (show (2 * a.length + 2 * b.length - i - n) < (2 * a.length + 2 * b.length - i - n) by omega)⟩
    refine WL.nil <| WC.condF rfl <| WC.skip <| WC.seq <| WC.seq <| WC.region rfl <| WL.move rfl ?_
    refine WL.split (fun (h24 : ins = true) => ?_) (fun (h24 : ins = false) => ?_)
    · refine WL.nil <| WC.condT rfl <| WC.region rfl <| WL.move rfl <| WL.move rfl <| WL.move rfl ?_
      refine WL.build _ [(0, [.int .i64 fr]), (1, [.int .i64 (min (endAt a i) (endAt b n))])] [.int .i64 fr, .int .i64 (min (endAt a i) (endAt b n))] ti46 rfl fl46 rfl rfl rfl rfl ?_
      refine WL.buildSlice _ [(0, [.int .i64 fr, .int .i64 (min (endAt a i) (endAt b n))])] [.int .i64 fr, .int .i64 (min (endAt a i) (endAt b n))] hS31 sl111 rfl rfl rfl rfl (fun z hz => by match z, hz with | [z0, z1], _ => rfl) (fun b8 w27 hn8 hS35 => ?_)
      refine WL.push (m := ([(Span.mk fr (min (endAt a i) (endAt b n)))] : List Span)) sl111 rfl rfl rfl (hr1.mono ((((hle4.trans hle5).trans hle6).trans hle10).trans hle12)) hS35 1 rfl 0 _ _ _ _ _ rfl ⟨[.int .i64 fr, .int .i64 (min (endAt a i) (endAt b n))], _, rfl, (SpanE_mk (Span.mk fr (min (endAt a i) (endAt b n))) hfr9 hat9), rfl⟩ rfl (by have hreach : reach = 140737488355328 := rfl; have hlen9 := (by assumption : Sweep a b i n ins fr out9 T).len; simp only [List.length_append, List.length_cons, List.length_nil]; omega) (by have hreach : reach = 140737488355328 := rfl; have hlen9 := (by assumption : Sweep a b i n ins fr out9 T).len; simp only [List.length_append, List.length_cons, List.length_nil]; omega) rfl rfl rfl (fun v9 o9 w28 hr9 hS36 => ?_)
      have hS37 := hS36.tail
      refine WL.assign rfl <| WL.nil <| WC.region rfl <| WL.move rfl <| WL.move rfl <| WL.assign rfl <| WL.assign rfl <| WL.nil ?_
      exact ⟨_, ⟨i, n, false, (min (endAt a i) (endAt b n)), (out9 ++ [(Span.mk fr (min (endAt a i) (endAt b n)))]), (min (endAt a i) (endAt b n)), v9, o9, G12, rfl, (hle3.trans ((((hle4.trans hle5).trans hle6).trans hle10).trans hle12)), hS37, hr9, rfl, rfl, rfl, rfl, rfl, rfl, rfl, rfl, rfl, (by exact Sweep.flip (by assumption) hnx (by assumption) (by assumption) (by assumption))⟩, (show (2 * a.length + 2 * b.length - i - n) < (2 * a.length + 2 * b.length - i - n) by omega)⟩
    refine WL.nil <| WC.condF rfl <| WC.skip <| WC.region rfl <| WL.move rfl <| WL.move rfl <| WL.assign rfl <| WL.assign rfl <| WL.nil ?_
    exact ⟨_, ⟨i, n, false, (min (endAt a i) (endAt b n)), out9, (min (endAt a i) (endAt b n)), v1, o1, G12, rfl, (hle3.trans ((((hle4.trans hle5).trans hle6).trans hle10).trans hle12)), hS31, (hr1.mono ((((hle4.trans hle5).trans hle6).trans hle10).trans hle12)), rfl, rfl, rfl, rfl, rfl, rfl, rfl, rfl, rfl, (by exact Sweep.flop (by assumption) hnx (by assumption) (by assumption) (by assumption))⟩, (show (2 * a.length + 2 * b.length - i - n) < (2 * a.length + 2 * b.length - i - n) by omega)⟩
  refine WL.move rfl <| WL.move rfl <| WL.move rfl ?_
  have bd2 := hvb.bound
  refine WL.lenSl (hvb.mono ((hle1.trans hle2).trans hle3)) ul111 rfl rfl ?_
  refine WL.mulN 2 b.length (by have hreach : reach = 140737488355328 := rfl; omega) rfl rfl rfl ?_
  refine WL.lssS (n : Int) ((2 * b.length : Nat) : Int) rfl rfl rfl (fun h25 => ?_) (fun h25 => ?_)
  · refine WL.pickF rfl rfl <| WL.nil <| WC.condT rfl <| WC.skip <| WC.block <| WC.seq <| WC.region rfl <| WL.move rfl <| WL.move rfl <| WL.move rfl ?_
    refine WL.callF [va, .int .i64 (i : Int)] #[] hb173 rfl rfl rfl ((c_endAt _ _ hS3.imm a i _ (hva.mono ((hle1.trans hle2).trans hle3)) (by omega) (by omega)).mono ?_)
    rintro e w29 ⟨r12, G13, rfl, hres12, hpost12⟩
    refine ⟨_, rfl, ?_⟩
    have hS38 := hS3.call hres12
    have hle13 := hres12.le
    subst hpost12
    refine WL.move rfl <| WL.move rfl <| WL.move rfl ?_
    refine WL.callF [vb, .int .i64 (n : Int)] #[] hb173 rfl rfl rfl ((c_endAt _ _ hS38.imm b n _ (hvb.mono (((hle1.trans hle2).trans hle3).trans hle13)) (by omega) (by omega)).mono ?_)
    rintro e w30 ⟨r13, G14, rfl, hres13, hpost13⟩
    refine ⟨_, rfl, ?_⟩
    have hS39 := hS38.call hres13
    have hle14 := hres13.le
    subst hpost13
    refine WL.minI (endAt a i) (endAt b n) rfl rfl rfl ?_
    refine WL.assign rfl <| WL.nil <| WC.seq <| WC.seq <| WC.region rfl <| WL.move rfl <| WL.move rfl <| WL.move rfl ?_
    refine WL.callF [va, .int .i64 (i : Int)] #[] hb173 rfl rfl rfl ((c_endAt _ _ hS39.imm a i _ (hva.mono ((((hle1.trans hle2).trans hle3).trans hle13).trans hle14)) (by omega) (by omega)).mono ?_)
    rintro e w31 ⟨r14, G15, rfl, hres14, hpost14⟩
    refine ⟨_, rfl, ?_⟩
    have hS40 := hS39.call hres14
    have hle15 := hres14.le
    subst hpost14
    refine WL.move rfl ?_
    refine WL.eqlS (endAt a i) (min (endAt a i) (endAt b n)) rfl rfl rfl (fun h26 => ?_) (fun h26 => ?_)
    · refine WL.nil <| WC.condT rfl <| WC.region rfl <| WL.move rfl ?_
      refine WL.incr i (by have hreach : reach = 140737488355328 := rfl; omega) rfl rfl rfl ?_
      refine WL.assign rfl <| WL.nil <| WC.seq <| WC.seq <| WC.region rfl <| WL.move rfl <| WL.move rfl <| WL.move rfl ?_
      refine WL.callF [vb, .int .i64 (n : Int)] #[] hb173 rfl rfl rfl ((c_endAt _ _ hS40.imm b n _ (hvb.mono (((((hle1.trans hle2).trans hle3).trans hle13).trans hle14).trans hle15)) (by omega) (by omega)).mono ?_)
      rintro e w32 ⟨r15, G16, rfl, hres15, hpost15⟩
      refine ⟨_, rfl, ?_⟩
      have hS41 := hS40.call hres15
      have hle16 := hres15.le
      subst hpost15
      refine WL.move rfl ?_
      refine WL.eqlS (endAt b n) (min (endAt a i) (endAt b n)) rfl rfl rfl (fun h27 => ?_) (fun h27 => ?_)
      · refine WL.nil <| WC.condT rfl <| WC.region rfl <| WL.move rfl ?_
        refine WL.incr n (by have hreach : reach = 140737488355328 := rfl; omega) rfl rfl rfl ?_
        refine WL.assign rfl <| WL.nil <| WC.seq ?_
        have hnx := Sweep.next (i' := i + 1) (k' := n + 1) (by assumption : Sweep a b i n ins fr out9 T) hCa hCb hVa hVb rfl (by exact .inr (by omega)) (by exact Adv.yes (by assumption)) (by exact Adv.yes (by assumption))
        have hn1 := hnx.lt; have hn2 := hnx.tb; have hn3 := hnx.adv; have hn4 := hnx.ba.le; have hn5 := hnx.bb.le
        have hat9 : I64 (min (endAt a i) (endAt b n)) := ⟨by omega, by omega⟩
        refine WC.region rfl <| WL.move rfl <| WL.move rfl ?_
        refine WL.remN (i + 1) 2 (by omega) (by have hreach : reach = 140737488355328 := rfl; omega) rfl rfl rfl ?_
        refine WL.cmp .eql rfl .i64 (((i + 1) % 2 : Nat) : Int) 1 rfl rfl rfl ?_
        refine WL.move rfl ?_
        refine WL.remN (n + 1) 2 (by omega) (by have hreach : reach = 140737488355328 := rfl; omega) rfl rfl rfl ?_
        refine WL.cmp .eql rfl .i64 (((n + 1) % 2 : Nat) : Int) 1 rfl rfl rfl ?_
        refine WL.callF [.bool (Cmp.b .eql (((i + 1) % 2 : Nat) : Int) 1), .bool (Cmp.b .eql (((n + 1) % 2 : Nat) : Int) 1)] #[] hb143 rfl rfl rfl ((c_Minus1 _ _ hS41.imm (Cmp.b .eql (((i + 1) % 2 : Nat) : Int) 1) (Cmp.b .eql (((n + 1) % 2 : Nat) : Int) 1)  ).mono ?_)
        rintro e w33 ⟨r16, G17, rfl, hres16, hpost16⟩
        refine ⟨_, rfl, ?_⟩
        have hS42 := hS41.call hres16
        have hle17 := hres16.le
        subst hpost16
        refine WL.split (fun (h28 : ((Cmp.b .eql (((i + 1) % 2 : Nat) : Int) 1) && !(Cmp.b .eql (((n + 1) % 2 : Nat) : Int) 1)) = true) => ?_) (fun (h28 : ((Cmp.b .eql (((i + 1) % 2 : Nat) : Int) 1) && !(Cmp.b .eql (((n + 1) % 2 : Nat) : Int) 1)) = false) => ?_)
        · refine WL.assign rfl <| WL.nil <| WC.seq <| WC.seq <| WC.region rfl <| WL.move rfl <| WL.move rfl ?_
          refine WL.boolEq true ins ul4 rfl rfl rfl ?_
          refine WL.split (fun (h29 : (true == ins) = true) => ?_) (fun (h29 : (true == ins) = false) => ?_)
          · refine WL.nil <| WC.condT rfl <| WC.exit ?_
            exact ⟨_, ⟨i + 1, n + 1, ins, fr, out9, (min (endAt a i) (endAt b n)), v1, o1, G17, rfl, (hle3.trans ((((hle13.trans hle14).trans hle15).trans hle16).trans hle17)), hS42, (hr1.mono ((((hle13.trans hle14).trans hle15).trans hle16).trans hle17)), rfl, rfl, rfl, rfl, rfl, rfl, rfl, rfl, rfl, (by exact Sweep.keep (by assumption) hnx (by assumption) (by assumption))⟩, (show (2 * a.length + 2 * b.length - (i + 1) - (n + 1)) < (2 * a.length + 2 * b.length - i - n) by omega)⟩
          refine WL.nil <| WC.condF rfl <| WC.skip <| WC.seq <| WC.seq <| WC.region rfl <| WL.move rfl ?_
          refine WL.split (fun (h30 : ins = true) => ?_) (fun (h30 : ins = false) => ?_)
          · refine WL.nil <| WC.condT rfl <| WC.region rfl <| WL.move rfl <| WL.move rfl <| WL.move rfl ?_
            refine WL.build _ [(0, [.int .i64 fr]), (1, [.int .i64 (min (endAt a i) (endAt b n))])] [.int .i64 fr, .int .i64 (min (endAt a i) (endAt b n))] ti46 rfl fl46 rfl rfl rfl rfl ?_
            refine WL.buildSlice _ [(0, [.int .i64 fr, .int .i64 (min (endAt a i) (endAt b n))])] [.int .i64 fr, .int .i64 (min (endAt a i) (endAt b n))] hS42 sl111 rfl rfl rfl rfl (fun z hz => by match z, hz with | [z0, z1], _ => rfl) (fun b9 w34 hn9 hS43 => ?_)
            refine WL.push (m := ([(Span.mk fr (min (endAt a i) (endAt b n)))] : List Span)) sl111 rfl rfl rfl (hr1.mono ((((hle13.trans hle14).trans hle15).trans hle16).trans hle17)) hS43 1 rfl 0 _ _ _ _ _ rfl ⟨[.int .i64 fr, .int .i64 (min (endAt a i) (endAt b n))], _, rfl, (SpanE_mk (Span.mk fr (min (endAt a i) (endAt b n))) hfr9 hat9), rfl⟩ rfl (by have hreach : reach = 140737488355328 := rfl; have hlen9 := (by assumption : Sweep a b i n ins fr out9 T).len; simp only [List.length_append, List.length_cons, List.length_nil]; omega) (by have hreach : reach = 140737488355328 := rfl; have hlen9 := (by assumption : Sweep a b i n ins fr out9 T).len; simp only [List.length_append, List.length_cons, List.length_nil]; omega) rfl rfl rfl (fun v10 o10 w35 hr10 hS44 => ?_)
            have hS45 := hS44.tail
            refine WL.assign rfl <| WL.nil <| WC.region rfl <| WL.move rfl <| WL.move rfl <| WL.assign rfl <| WL.assign rfl <| WL.nil ?_
            exact ⟨_, ⟨i + 1, n + 1, true, (min (endAt a i) (endAt b n)), (out9 ++ [(Span.mk fr (min (endAt a i) (endAt b n)))]), (min (endAt a i) (endAt b n)), v10, o10, G17, rfl, (hle3.trans ((((hle13.trans hle14).trans hle15).trans hle16).trans hle17)), hS45, hr10, rfl, rfl, rfl, rfl, rfl, rfl, rfl, rfl, rfl, (by exact Sweep.flip (by assumption) hnx (by assumption) (by assumption) (by assumption))⟩, (show (2 * a.length + 2 * b.length - (i + 1) - (n + 1)) < (2 * a.length + 2 * b.length - i - n) by omega)⟩
          refine WL.nil <| WC.condF rfl <| WC.skip <| WC.region rfl <| WL.move rfl <| WL.move rfl <| WL.assign rfl <| WL.assign rfl <| WL.nil ?_
          exact ⟨_, ⟨i + 1, n + 1, true, (min (endAt a i) (endAt b n)), out9, (min (endAt a i) (endAt b n)), v1, o1, G17, rfl, (hle3.trans ((((hle13.trans hle14).trans hle15).trans hle16).trans hle17)), hS42, (hr1.mono ((((hle13.trans hle14).trans hle15).trans hle16).trans hle17)), rfl, rfl, rfl, rfl, rfl, rfl, rfl, rfl, rfl, (by exact Sweep.flop (by assumption) hnx (by assumption) (by assumption) (by assumption))⟩, (show (2 * a.length + 2 * b.length - (i + 1) - (n + 1)) < (2 * a.length + 2 * b.length - i - n) by omega)⟩
        refine WL.assign rfl <| WL.nil <| WC.seq <| WC.seq <| WC.region rfl <| WL.move rfl <| WL.move rfl ?_
        refine WL.boolEq false ins ul4 rfl rfl rfl ?_
        refine WL.split (fun (h31 : (false == ins) = true) => ?_) (fun (h31 : (false == ins) = false) => ?_)
        · refine WL.nil <| WC.condT rfl <| WC.exit ?_
          exact ⟨_, ⟨i + 1, n + 1, ins, fr, out9, (min (endAt a i) (endAt b n)), v1, o1, G17, rfl, (hle3.trans ((((hle13.trans hle14).trans hle15).trans hle16).trans hle17)), hS42, (hr1.mono ((((hle13.trans hle14).trans hle15).trans hle16).trans hle17)), rfl, rfl, rfl, rfl, rfl, rfl, rfl, rfl, rfl, (by exact Sweep.keep (by assumption) hnx (by assumption) (by assumption))⟩, (show (2 * a.length + 2 * b.length - (i + 1) - (n + 1)) < (2 * a.length + 2 * b.length - i - n) by omega)⟩
        refine WL.nil <| WC.condF rfl <| WC.skip <| WC.seq <| WC.seq <| WC.region rfl <| WL.move rfl ?_
        refine WL.split (fun (h32 : ins = true) => ?_) (fun (h32 : ins = false) => ?_)
        · refine WL.nil <| WC.condT rfl <| WC.region rfl <| WL.move rfl <| WL.move rfl <| WL.move rfl ?_
          refine WL.build _ [(0, [.int .i64 fr]), (1, [.int .i64 (min (endAt a i) (endAt b n))])] [.int .i64 fr, .int .i64 (min (endAt a i) (endAt b n))] ti46 rfl fl46 rfl rfl rfl rfl ?_
          refine WL.buildSlice _ [(0, [.int .i64 fr, .int .i64 (min (endAt a i) (endAt b n))])] [.int .i64 fr, .int .i64 (min (endAt a i) (endAt b n))] hS42 sl111 rfl rfl rfl rfl (fun z hz => by match z, hz with | [z0, z1], _ => rfl) (fun b10 w36 hn10 hS46 => ?_)
          refine WL.push (m := ([(Span.mk fr (min (endAt a i) (endAt b n)))] : List Span)) sl111 rfl rfl rfl (hr1.mono ((((hle13.trans hle14).trans hle15).trans hle16).trans hle17)) hS46 1 rfl 0 _ _ _ _ _ rfl ⟨[.int .i64 fr, .int .i64 (min (endAt a i) (endAt b n))], _, rfl, (SpanE_mk (Span.mk fr (min (endAt a i) (endAt b n))) hfr9 hat9), rfl⟩ rfl (by have hreach : reach = 140737488355328 := rfl; have hlen9 := (by assumption : Sweep a b i n ins fr out9 T).len; simp only [List.length_append, List.length_cons, List.length_nil]; omega) (by have hreach : reach = 140737488355328 := rfl; have hlen9 := (by assumption : Sweep a b i n ins fr out9 T).len; simp only [List.length_append, List.length_cons, List.length_nil]; omega) rfl rfl rfl (fun v11 o11 w37 hr11 hS47 => ?_)
          have hS48 := hS47.tail
          refine WL.assign rfl <| WL.nil <| WC.region rfl <| WL.move rfl <| WL.move rfl <| WL.assign rfl <| WL.assign rfl <| WL.nil ?_
          exact ⟨_, ⟨i + 1, n + 1, false, (min (endAt a i) (endAt b n)), (out9 ++ [(Span.mk fr (min (endAt a i) (endAt b n)))]), (min (endAt a i) (endAt b n)), v11, o11, G17, rfl, (hle3.trans ((((hle13.trans hle14).trans hle15).trans hle16).trans hle17)), hS48, hr11, rfl, rfl, rfl, rfl, rfl, rfl, rfl, rfl, rfl, (by exact Sweep.flip (by assumption) hnx (by assumption) (by assumption) (by assumption))⟩, (show (2 * a.length + 2 * b.length - (i + 1) - (n + 1)) < (2 * a.length + 2 * b.length - i - n) by omega)⟩
        refine WL.nil <| WC.condF rfl <| WC.skip <| WC.region rfl <| WL.move rfl <| WL.move rfl <| WL.assign rfl <| WL.assign rfl <| WL.nil ?_
        exact ⟨_, ⟨i + 1, n + 1, false, (min (endAt a i) (endAt b n)), out9, (min (endAt a i) (endAt b n)), v1, o1, G17, rfl, (hle3.trans ((((hle13.trans hle14).trans hle15).trans hle16).trans hle17)), hS42, (hr1.mono ((((hle13.trans hle14).trans hle15).trans hle16).trans hle17)), rfl, rfl, rfl, rfl, rfl, rfl, rfl, rfl, rfl, (by exact Sweep.flop (by assumption) hnx (by assumption) (by assumption) (by assumption))⟩, (show (2 * a.length + 2 * b.length - (i + 1) - (n + 1)) < (2 * a.length + 2 * b.length - i - n) by omega)⟩
      refine WL.nil <| WC.condF rfl <| WC.skip <| WC.seq ?_
      have hnx := Sweep.next (i' := i + 1) (k' := n) (by assumption : Sweep a b i n ins fr out9 T) hCa hCb hVa hVb rfl (by exact .inr (by omega)) (by exact Adv.yes (by assumption)) (by exact Adv.no (by assumption))
      have hn1 := hnx.lt; have hn2 := hnx.tb; have hn3 := hnx.adv; have hn4 := hnx.ba.le; have hn5 := hnx.bb.le
      have hat9 : I64 (min (endAt a i) (endAt b n)) := ⟨by omega, by omega⟩
      refine WC.region rfl <| WL.move rfl <| WL.move rfl ?_
      refine WL.remN (i + 1) 2 (by omega) (by have hreach : reach = 140737488355328 := rfl; omega) rfl rfl rfl ?_
      refine WL.cmp .eql rfl .i64 (((i + 1) % 2 : Nat) : Int) 1 rfl rfl rfl ?_
      refine WL.move rfl ?_
      refine WL.remN n 2 (by omega) (by have hreach : reach = 140737488355328 := rfl; omega) rfl rfl rfl ?_
      refine WL.cmp .eql rfl .i64 ((n % 2 : Nat) : Int) 1 rfl rfl rfl ?_
      refine WL.callF [.bool (Cmp.b .eql (((i + 1) % 2 : Nat) : Int) 1), .bool (Cmp.b .eql ((n % 2 : Nat) : Int) 1)] #[] hb143 rfl rfl rfl ((c_Minus1 _ _ hS41.imm (Cmp.b .eql (((i + 1) % 2 : Nat) : Int) 1) (Cmp.b .eql ((n % 2 : Nat) : Int) 1)  ).mono ?_)
      rintro e w38 ⟨r17, G18, rfl, hres17, hpost17⟩
      refine ⟨_, rfl, ?_⟩
      have hS49 := hS41.call hres17
      have hle18 := hres17.le
      subst hpost17
      refine WL.split (fun (h33 : ((Cmp.b .eql (((i + 1) % 2 : Nat) : Int) 1) && !(Cmp.b .eql ((n % 2 : Nat) : Int) 1)) = true) => ?_) (fun (h33 : ((Cmp.b .eql (((i + 1) % 2 : Nat) : Int) 1) && !(Cmp.b .eql ((n % 2 : Nat) : Int) 1)) = false) => ?_)
      · refine WL.assign rfl <| WL.nil <| WC.seq <| WC.seq <| WC.region rfl <| WL.move rfl <| WL.move rfl ?_
        refine WL.boolEq true ins ul4 rfl rfl rfl ?_
        refine WL.split (fun (h34 : (true == ins) = true) => ?_) (fun (h34 : (true == ins) = false) => ?_)
        · refine WL.nil <| WC.condT rfl <| WC.exit ?_
          exact ⟨_, ⟨i + 1, n, ins, fr, out9, (min (endAt a i) (endAt b n)), v1, o1, G18, rfl, (hle3.trans ((((hle13.trans hle14).trans hle15).trans hle16).trans hle18)), hS49, (hr1.mono ((((hle13.trans hle14).trans hle15).trans hle16).trans hle18)), rfl, rfl, rfl, rfl, rfl, rfl, rfl, rfl, rfl, (by exact Sweep.keep (by assumption) hnx (by assumption) (by assumption))⟩, (show (2 * a.length + 2 * b.length - (i + 1) - n) < (2 * a.length + 2 * b.length - i - n) by omega)⟩
        refine WL.nil <| WC.condF rfl <| WC.skip <| WC.seq <| WC.seq <| WC.region rfl <| WL.move rfl ?_
        refine WL.split (fun (h35 : ins = true) => ?_) (fun (h35 : ins = false) => ?_)
        · refine WL.nil <| WC.condT rfl <| WC.region rfl <| WL.move rfl <| WL.move rfl <| WL.move rfl ?_
          refine WL.build _ [(0, [.int .i64 fr]), (1, [.int .i64 (min (endAt a i) (endAt b n))])] [.int .i64 fr, .int .i64 (min (endAt a i) (endAt b n))] ti46 rfl fl46 rfl rfl rfl rfl ?_
          refine WL.buildSlice _ [(0, [.int .i64 fr, .int .i64 (min (endAt a i) (endAt b n))])] [.int .i64 fr, .int .i64 (min (endAt a i) (endAt b n))] hS49 sl111 rfl rfl rfl rfl (fun z hz => by match z, hz with | [z0, z1], _ => rfl) (fun b11 w39 hn11 hS50 => ?_)
          refine WL.push (m := ([(Span.mk fr (min (endAt a i) (endAt b n)))] : List Span)) sl111 rfl rfl rfl (hr1.mono ((((hle13.trans hle14).trans hle15).trans hle16).trans hle18)) hS50 1 rfl 0 _ _ _ _ _ rfl ⟨[.int .i64 fr, .int .i64 (min (endAt a i) (endAt b n))], _, rfl, (SpanE_mk (Span.mk fr (min (endAt a i) (endAt b n))) hfr9 hat9), rfl⟩ rfl (by have hreach : reach = 140737488355328 := rfl; have hlen9 := (by assumption : Sweep a b i n ins fr out9 T).len; simp only [List.length_append, List.length_cons, List.length_nil]; omega) (by have hreach : reach = 140737488355328 := rfl; have hlen9 := (by assumption : Sweep a b i n ins fr out9 T).len; simp only [List.length_append, List.length_cons, List.length_nil]; omega) rfl rfl rfl (fun v12 o12 w40 hr12 hS51 => ?_)
          have hS52 := hS51.tail
          refine WL.assign rfl <| WL.nil <| WC.region rfl <| WL.move rfl <| WL.move rfl <| WL.assign rfl <| WL.assign rfl <| WL.nil ?_
          exact ⟨_, ⟨i + 1, n, true, (min (endAt a i) (endAt b n)), (out9 ++ [(Span.mk fr (min (endAt a i) (endAt b n)))]), (min (endAt a i) (endAt b n)), v12, o12, G18, rfl, (hle3.trans ((((hle13.trans hle14).trans hle15).trans hle16).trans hle18)), hS52, hr12, rfl, rfl, rfl, rfl, rfl, rfl, rfl, rfl, rfl, (by exact Sweep.flip (by assumption) hnx (by assumption) (by assumption) (by assumption))⟩, (show (2 * a.length + 2 * b.length - (i + 1) - n) < (2 * a.length + 2 * b.length - i - n) by omega)⟩
        refine WL.nil <| WC.condF rfl <| WC.skip <| WC.region rfl <| WL.move rfl <| WL.move rfl <| WL.assign rfl <| WL.assign rfl <| WL.nil ?_
        exact ⟨_, ⟨i + 1, n, true, (min (endAt a i) (endAt b n)), out9, (min (endAt a i) (endAt b n)), v1, o1, G18, rfl, (hle3.trans ((((hle13.trans hle14).trans hle15).trans hle16).trans hle18)), hS49, (hr1.mono ((((hle13.trans hle14).trans hle15).trans hle16).trans hle18)), rfl, rfl, rfl, rfl, rfl, rfl, rfl, rfl, rfl, (by exact Sweep.flop (by assumption) hnx (by assumption) (by assumption) (by assumption))⟩, (show (2 * a.length + 2 * b.length - (i + 1) - n) < (2 * a.length + 2 * b.length - i - n) by omega)⟩
      refine WL.assign rfl <| WL.nil <| WC.seq <| WC.seq <| WC.region rfl <| WL.move rfl <| WL.move rfl ?_
      refine WL.boolEq false ins ul4 rfl rfl rfl ?_
      refine WL.split (fun (h36 : (false == ins) = true) => ?_) (fun (h36 : (false == ins) = false) => ?_)
      · refine WL.nil <| WC.condT rfl <| WC.exit ?_
        exact ⟨_, ⟨i + 1, n, ins, fr, out9, (min (endAt a i) (endAt b n)), v1, o1, G18, rfl, (hle3.trans ((((hle13.trans hle14).trans hle15).trans hle16).trans hle18)), hS49, (hr1.mono ((((hle13.trans hle14).trans hle15).trans hle16).trans hle18)), rfl, rfl, rfl, rfl, rfl, rfl, rfl, rfl, rfl, (by exact Sweep.keep (by assumption) hnx (by assumption) (by assumption))⟩, (show (2 * a.length + 2 * b.length - (i + 1) - n) < (2 * a.length + 2 * b.length - i - n) by omega)⟩
      refine WL.nil <| WC.condF rfl <| WC.skip <| WC.seq <| WC.seq <| WC.region rfl <| WL.move rfl ?_
      refine WL.split (fun (h37 : ins = true) => ?_) (fun (h37 : ins = false) => ?_)
      · refine WL.nil <| WC.condT rfl <| WC.region rfl <| WL.move rfl <| WL.move rfl <| WL.move rfl ?_
        refine WL.build _ [(0, [.int .i64 fr]), (1, [.int .i64 (min (endAt a i) (endAt b n))])] [.int .i64 fr, .int .i64 (min (endAt a i) (endAt b n))] ti46 rfl fl46 rfl rfl rfl rfl ?_
        refine WL.buildSlice _ [(0, [.int .i64 fr, .int .i64 (min (endAt a i) (endAt b n))])] [.int .i64 fr, .int .i64 (min (endAt a i) (endAt b n))] hS49 sl111 rfl rfl rfl rfl (fun z hz => by match z, hz with | [z0, z1], _ => rfl) (fun b12 w41 hn12 hS53 => ?_)
        refine WL.push (m := ([(Span.mk fr (min (endAt a i) (endAt b n)))] : List Span)) sl111 rfl rfl rfl (hr1.mono ((((hle13.trans hle14).trans hle15).trans hle16).trans hle18)) hS53 1 rfl 0 _ _ _ _ _ rfl ⟨[.int .i64 fr, .int .i64 (min (endAt a i) (endAt b n))], _, rfl, (SpanE_mk (Span.mk fr (min (endAt a i) (endAt b n))) hfr9 hat9), rfl⟩ rfl (by have hreach : reach = 140737488355328 := rfl; have hlen9 := (by assumption : Sweep a b i n ins fr out9 T).len; simp only [List.length_append, List.length_cons, List.length_nil]; omega) (by have hreach : reach = 140737488355328 := rfl; have hlen9 := (by assumption : Sweep a b i n ins fr out9 T).len; simp only [List.length_append, List.length_cons, List.length_nil]; omega) rfl rfl rfl (fun v13 o13 w42 hr13 hS54 => ?_)
        have hS55 := hS54.tail
        refine WL.assign rfl <| WL.nil <| WC.region rfl <| WL.move rfl <| WL.move rfl <| WL.assign rfl <| WL.assign rfl <| WL.nil ?_
        exact ⟨_, ⟨i + 1, n, false, (min (endAt a i) (endAt b n)), (out9 ++ [(Span.mk fr (min (endAt a i) (endAt b n)))]), (min (endAt a i) (endAt b n)), v13, o13, G18, rfl, (hle3.trans ((((hle13.trans hle14).trans hle15).trans hle16).trans hle18)), hS55, hr13, rfl, rfl, rfl, rfl, rfl, rfl, rfl, rfl, rfl, (by exact Sweep.flip (by assumption) hnx (by assumption) (by assumption) (by assumption))⟩, (show (2 * a.length + 2 * b.length - (i + 1) - n) < (2 * a.length + 2 * b.length - i - n) by omega)⟩
      refine WL.nil <| WC.condF rfl <| WC.skip <| WC.region rfl <| WL.move rfl <| WL.move rfl <| WL.assign rfl <| WL.assign rfl <| WL.nil ?_
      exact ⟨_, ⟨i + 1, n, false, (min (endAt a i) (endAt b n)), out9, (min (endAt a i) (endAt b n)), v1, o1, G18, rfl, (hle3.trans ((((hle13.trans hle14).trans hle15).trans hle16).trans hle18)), hS49, (hr1.mono ((((hle13.trans hle14).trans hle15).trans hle16).trans hle18)), rfl, rfl, rfl, rfl, rfl, rfl, rfl, rfl, rfl, (by exact Sweep.flop (by assumption) hnx (by assumption) (by assumption) (by assumption))⟩, (show (2 * a.length + 2 * b.length - (i + 1) - n) < (2 * a.length + 2 * b.length - i - n) by omega)⟩
    refine WL.nil <| WC.condF rfl <| WC.skip <| WC.seq <| WC.seq <| WC.region rfl <| WL.move rfl <| WL.move rfl <| WL.move rfl ?_
    refine WL.callF [vb, .int .i64 (n : Int)] #[] hb173 rfl rfl rfl ((c_endAt _ _ hS40.imm b n _ (hvb.mono (((((hle1.trans hle2).trans hle3).trans hle13).trans hle14).trans hle15)) (by omega) (by omega)).mono ?_)
    rintro e w43 ⟨r18, G19, rfl, hres18, hpost18⟩
    refine ⟨_, rfl, ?_⟩
    have hS56 := hS40.call hres18
    have hle19 := hres18.le
    subst hpost18
    refine WL.move rfl ?_
    refine WL.eqlS (endAt b n) (min (endAt a i) (endAt b n)) rfl rfl rfl (fun h38 => ?_) (fun h38 => ?_)
    · refine WL.nil <| WC.condT rfl <| WC.region rfl <| WL.move rfl ?_
      refine WL.incr n (by have hreach : reach = 140737488355328 := rfl; omega) rfl rfl rfl ?_
      refine WL.assign rfl <| WL.nil <| WC.seq ?_
      have hnx := Sweep.next (i' := i) (k' := n + 1) (by assumption : Sweep a b i n ins fr out9 T) hCa hCb hVa hVb rfl (by exact .inr (by omega)) (by exact Adv.no (by assumption)) (by exact Adv.yes (by assumption))
      have hn1 := hnx.lt; have hn2 := hnx.tb; have hn3 := hnx.adv; have hn4 := hnx.ba.le; have hn5 := hnx.bb.le
      have hat9 : I64 (min (endAt a i) (endAt b n)) := ⟨by omega, by omega⟩
      refine WC.region rfl <| WL.move rfl <| WL.move rfl ?_
      refine WL.remN i 2 (by omega) (by have hreach : reach = 140737488355328 := rfl; omega) rfl rfl rfl ?_
      refine WL.cmp .eql rfl .i64 ((i % 2 : Nat) : Int) 1 rfl rfl rfl ?_
      refine WL.move rfl ?_
      refine WL.remN (n + 1) 2 (by omega) (by have hreach : reach = 140737488355328 := rfl; omega) rfl rfl rfl ?_
      refine WL.cmp .eql rfl .i64 (((n + 1) % 2 : Nat) : Int) 1 rfl rfl rfl ?_
      refine WL.callF [.bool (Cmp.b .eql ((i % 2 : Nat) : Int) 1), .bool (Cmp.b .eql (((n + 1) % 2 : Nat) : Int) 1)] #[] hb143 rfl rfl rfl ((c_Minus1 _ _ hS56.imm (Cmp.b .eql ((i % 2 : Nat) : Int) 1) (Cmp.b .eql (((n + 1) % 2 : Nat) : Int) 1)  ).mono ?_)
      rintro e w44 ⟨r19, G20, rfl, hres19, hpost19⟩
      refine ⟨_, rfl, ?_⟩
      have hS57 := hS56.call hres19
      have hle20 := hres19.le
      subst hpost19
      refine WL.split (fun (h39 : ((Cmp.b .eql ((i % 2 : Nat) : Int) 1) && !(Cmp.b .eql (((n + 1) % 2 : Nat) : Int) 1)) = true) => ?_) (fun (h39 : ((Cmp.b .eql ((i % 2 : Nat) : Int) 1) && !(Cmp.b .eql (((n + 1) % 2 : Nat) : Int) 1)) = false) => ?_)
      · refine WL.assign rfl <| WL.nil <| WC.seq <| WC.seq <| WC.region rfl <| WL.move rfl <| WL.move rfl ?_
        refine WL.boolEq true ins ul4 rfl rfl rfl ?_
        refine WL.split (fun (h40 : (true == ins) = true) => ?_) (fun (h40 : (true == ins) = false) => ?_)
        · refine WL.nil <| WC.condT rfl <| WC.exit ?_
          exact ⟨_, ⟨i, n + 1, ins, fr, out9, (min (endAt a i) (endAt b n)), v1, o1, G20, rfl, (hle3.trans ((((hle13.trans hle14).trans hle15).trans hle19).trans hle20)), hS57, (hr1.mono ((((hle13.trans hle14).trans hle15).trans hle19).trans hle20)), rfl, rfl, rfl, rfl, rfl, rfl, rfl, rfl, rfl, (by exact Sweep.keep (by assumption) hnx (by assumption) (by assumption))⟩, (show (2 * a.length + 2 * b.length - i - (n + 1)) < (2 * a.length + 2 * b.length - i - n) by omega)⟩
        refine WL.nil <| WC.condF rfl <| WC.skip <| WC.seq <| WC.seq <| WC.region rfl <| WL.move rfl ?_
        refine WL.split (fun (h41 : ins = true) => ?_) (fun (h41 : ins = false) => ?_)
        · refine WL.nil <| WC.condT rfl <| WC.region rfl <| WL.move rfl <| WL.move rfl <| WL.move rfl ?_
          refine WL.build _ [(0, [.int .i64 fr]), (1, [.int .i64 (min (endAt a i) (endAt b n))])] [.int .i64 fr, .int .i64 (min (endAt a i) (endAt b n))] ti46 rfl fl46 rfl rfl rfl rfl ?_
          refine WL.buildSlice _ [(0, [.int .i64 fr, .int .i64 (min (endAt a i) (endAt b n))])] [.int .i64 fr, .int .i64 (min (endAt a i) (endAt b n))] hS57 sl111 rfl rfl rfl rfl (fun z hz => by match z, hz with | [z0, z1], _ => rfl) (fun b13 w45 hn13 hS58 => ?_)
          refine WL.push (m := ([(Span.mk fr (min (endAt a i) (endAt b n)))] : List Span)) sl111 rfl rfl rfl (hr1.mono ((((hle13.trans hle14).trans hle15).trans hle19).trans hle20)) hS58 1 rfl 0 _ _ _ _ _ rfl ⟨[.int .i64 fr, .int .i64 (min (endAt a i) (endAt b n))], _, rfl, (SpanE_mk (Span.mk fr (min (endAt a i) (endAt b n))) hfr9 hat9), rfl⟩ rfl (by have hreach : reach = 140737488355328 := rfl; have hlen9 := (by assumption : Sweep a b i n ins fr out9 T).len; simp only [List.length_append, List.length_cons, List.length_nil]; omega) (by have hreach : reach = 140737488355328 := rfl; have hlen9 := (by assumption : Sweep a b i n ins fr out9 T).len; simp only [List.length_append, List.length_cons, List.length_nil]; omega) rfl rfl rfl (fun v14 o14 w46 hr14 hS59 => ?_)
          have hS60 := hS59.tail
          refine WL.assign rfl <| WL.nil <| WC.region rfl <| WL.move rfl <| WL.move rfl <| WL.assign rfl <| WL.assign rfl <| WL.nil ?_
          exact ⟨_, ⟨i, n + 1, true, (min (endAt a i) (endAt b n)), (out9 ++ [(Span.mk fr (min (endAt a i) (endAt b n)))]), (min (endAt a i) (endAt b n)), v14, o14, G20, rfl, (hle3.trans ((((hle13.trans hle14).trans hle15).trans hle19).trans hle20)), hS60, hr14, rfl, rfl, rfl, rfl, rfl, rfl, rfl, rfl, rfl, (by exact Sweep.flip (by assumption) hnx (by assumption) (by assumption) (by assumption))⟩, (show (2 * a.length + 2 * b.length - i - (n + 1)) < (2 * a.length + 2 * b.length - i - n) by omega)⟩
        refine WL.nil <| WC.condF rfl <| WC.skip <| WC.region rfl <| WL.move rfl <| WL.move rfl <| WL.assign rfl <| WL.assign rfl <| WL.nil ?_
        exact ⟨_, ⟨i, n + 1, true, (min (endAt a i) (endAt b n)), out9, (min (endAt a i) (endAt b n)), v1, o1, G20, rfl, (hle3.trans ((((hle13.trans hle14).trans hle15).trans hle19).trans hle20)), hS57, (hr1.mono ((((hle13.trans hle14).trans hle15).trans hle19).trans hle20)), rfl, rfl, rfl, rfl, rfl, rfl, rfl, rfl, rfl, (by exact Sweep.flop (by assumption) hnx (by assumption) (by assumption) (by assumption))⟩, (show (2 * a.length + 2 * b.length - i - (n + 1)) < (2 * a.length + 2 * b.length - i - n) by omega)⟩
      refine WL.assign rfl <| WL.nil <| WC.seq <| WC.seq <| WC.region rfl <| WL.move rfl <| WL.move rfl ?_
      refine WL.boolEq false ins ul4 rfl rfl rfl ?_
      refine WL.split (fun (h42 : (false == ins) = true) => ?_) (fun (h42 : (false == ins) = false) => ?_)
      · refine WL.nil <| WC.condT rfl <| WC.exit ?_
        exact ⟨_, ⟨i, n + 1, ins, fr, out9, (min (endAt a i) (endAt b n)), v1, o1, G20, rfl, (hle3.trans ((((hle13.trans hle14).trans hle15).trans hle19).trans hle20)), hS57, (hr1.mono ((((hle13.trans hle14).trans hle15).trans hle19).trans hle20)), rfl, rfl, rfl, rfl, rfl, rfl, rfl, rfl, rfl, (by exact Sweep.keep (by assumption) hnx (by assumption) (by assumption))⟩, (show (2 * a.length + 2 * b.length - i - (n + 1)) < (2 * a.length + 2 * b.length - i - n) by omega)⟩
      refine WL.nil <| WC.condF rfl <| WC.skip <| WC.seq <| WC.seq <| WC.region rfl <| WL.move rfl ?_
      refine WL.split (fun (h43 : ins = true) => ?_) (fun (h43 : ins = false) => ?_)
      · refine WL.nil <| WC.condT rfl <| WC.region rfl <| WL.move rfl <| WL.move rfl <| WL.move rfl ?_
        refine WL.build _ [(0, [.int .i64 fr]), (1, [.int .i64 (min (endAt a i) (endAt b n))])] [.int .i64 fr, .int .i64 (min (endAt a i) (endAt b n))] ti46 rfl fl46 rfl rfl rfl rfl ?_
        refine WL.buildSlice _ [(0, [.int .i64 fr, .int .i64 (min (endAt a i) (endAt b n))])] [.int .i64 fr, .int .i64 (min (endAt a i) (endAt b n))] hS57 sl111 rfl rfl rfl rfl (fun z hz => by match z, hz with | [z0, z1], _ => rfl) (fun b14 w47 hn14 hS61 => ?_)
        refine WL.push (m := ([(Span.mk fr (min (endAt a i) (endAt b n)))] : List Span)) sl111 rfl rfl rfl (hr1.mono ((((hle13.trans hle14).trans hle15).trans hle19).trans hle20)) hS61 1 rfl 0 _ _ _ _ _ rfl ⟨[.int .i64 fr, .int .i64 (min (endAt a i) (endAt b n))], _, rfl, (SpanE_mk (Span.mk fr (min (endAt a i) (endAt b n))) hfr9 hat9), rfl⟩ rfl (by have hreach : reach = 140737488355328 := rfl; have hlen9 := (by assumption : Sweep a b i n ins fr out9 T).len; simp only [List.length_append, List.length_cons, List.length_nil]; omega) (by have hreach : reach = 140737488355328 := rfl; have hlen9 := (by assumption : Sweep a b i n ins fr out9 T).len; simp only [List.length_append, List.length_cons, List.length_nil]; omega) rfl rfl rfl (fun v15 o15 w48 hr15 hS62 => ?_)
        have hS63 := hS62.tail
        refine WL.assign rfl <| WL.nil <| WC.region rfl <| WL.move rfl <| WL.move rfl <| WL.assign rfl <| WL.assign rfl <| WL.nil ?_
        exact ⟨_, ⟨i, n + 1, false, (min (endAt a i) (endAt b n)), (out9 ++ [(Span.mk fr (min (endAt a i) (endAt b n)))]), (min (endAt a i) (endAt b n)), v15, o15, G20, rfl, (hle3.trans ((((hle13.trans hle14).trans hle15).trans hle19).trans hle20)), hS63, hr15, rfl, rfl, rfl, rfl, rfl, rfl, rfl, rfl, rfl, (by exact Sweep.flip (by assumption) hnx (by assumption) (by assumption) (by assumption))⟩, (show (2 * a.length + 2 * b.length - i - (n + 1)) < (2 * a.length + 2 * b.length - i - n) by omega)⟩
      refine WL.nil <| WC.condF rfl <| WC.skip <| WC.region rfl <| WL.move rfl <| WL.move rfl <| WL.assign rfl <| WL.assign rfl <| WL.nil ?_
      exact ⟨_, ⟨i, n + 1, false, (min (endAt a i) (endAt b n)), out9, (min (endAt a i) (endAt b n)), v1, o1, G20, rfl, (hle3.trans ((((hle13.trans hle14).trans hle15).trans hle19).trans hle20)), hS57, (hr1.mono ((((hle13.trans hle14).trans hle15).trans hle19).trans hle20)), rfl, rfl, rfl, rfl, rfl, rfl, rfl, rfl, rfl, (by exact Sweep.flop (by assumption) hnx (by assumption) (by assumption) (by assumption))⟩, (show (2 * a.length + 2 * b.length - i - (n + 1)) < (2 * a.length + 2 * b.length - i - n) by omega)⟩
    refine WL.nil <| WC.condF rfl <| WC.skip <| WC.seq ?_
    have hnx := Sweep.next (i' := i) (k' := n) (by assumption : Sweep a b i n ins fr out9 T) hCa hCb hVa hVb rfl (by exact .inl (by omega)) (by exact Adv.no (by assumption)) (by exact Adv.no (by assumption))
    have hn1 := hnx.lt; have hn2 := hnx.tb; have hn3 := hnx.adv; have hn4 := hnx.ba.le; have hn5 := hnx.bb.le
    have hat9 : I64 (min (endAt a i) (endAt b n)) := ⟨by omega, by omega⟩
    refine WC.region rfl <| WL.move rfl <| WL.move rfl ?_
    refine WL.remN i 2 (by omega) (by have hreach : reach = 140737488355328 := rfl; omega) rfl rfl rfl ?_
    refine WL.cmp .eql rfl .i64 ((i % 2 : Nat) : Int) 1 rfl rfl rfl ?_
    refine WL.move rfl ?_
    refine WL.remN n 2 (by omega) (by have hreach : reach = 140737488355328 := rfl; omega) rfl rfl rfl ?_
    refine WL.cmp .eql rfl .i64 ((n % 2 : Nat) : Int) 1 rfl rfl rfl ?_
    refine WL.callF [.bool (Cmp.b .eql ((i % 2 : Nat) : Int) 1), .bool (Cmp.b .eql ((n % 2 : Nat) : Int) 1)] #[] hb143 rfl rfl rfl ((c_Minus1 _ _ hS56.imm (Cmp.b .eql ((i % 2 : Nat) : Int) 1) (Cmp.b .eql ((n % 2 : Nat) : Int) 1)  ).mono ?_)
    rintro e w49 ⟨r20, G21, rfl, hres20, hpost20⟩
    refine ⟨_, rfl, ?_⟩
    have hS64 := hS56.call hres20
    have hle21 := hres20.le
    subst hpost20
    refine WL.split (fun (h44 : ((Cmp.b .eql ((i % 2 : Nat) : Int) 1) && !(Cmp.b .eql ((n % 2 : Nat) : Int) 1)) = true) => ?_) (fun (h44 : ((Cmp.b .eql ((i % 2 : Nat) : Int) 1) && !(Cmp.b .eql ((n % 2 : Nat) : Int) 1)) = false) => ?_)
    · refine WL.assign rfl <| WL.nil <| WC.seq <| WC.seq <| WC.region rfl <| WL.move rfl <| WL.move rfl ?_
      refine WL.boolEq true ins ul4 rfl rfl rfl ?_
      refine WL.split (fun (h45 : (true == ins) = true) => ?_) (fun (h45 : (true == ins) = false) => ?_)
      · refine WL.nil <| WC.condT rfl <| WC.exit ?_
        exact ⟨_, ⟨i, n, ins, fr, out9, (min (endAt a i) (endAt b n)), v1, o1, G21, rfl, (hle3.trans ((((hle13.trans hle14).trans hle15).trans hle19).trans hle21)), hS64, (hr1.mono ((((hle13.trans hle14).trans hle15).trans hle19).trans hle21)), rfl, rfl, rfl, rfl, rfl, rfl, rfl, rfl, rfl, (by exact Sweep.keep (by assumption) hnx (by assumption) (by assumption))⟩, (show (2 * a.length + 2 * b.length - i - n) < (2 * a.length + 2 * b.length - i - n) by omega)⟩
      refine WL.nil <| WC.condF rfl <| WC.skip <| WC.seq <| WC.seq <| WC.region rfl <| WL.move rfl ?_
      refine WL.split (fun (h46 : ins = true) => ?_) (fun (h46 : ins = false) => ?_)
      · refine WL.nil <| WC.condT rfl <| WC.region rfl <| WL.move rfl <| WL.move rfl <| WL.move rfl ?_
        refine WL.build _ [(0, [.int .i64 fr]), (1, [.int .i64 (min (endAt a i) (endAt b n))])] [.int .i64 fr, .int .i64 (min (endAt a i) (endAt b n))] ti46 rfl fl46 rfl rfl rfl rfl ?_
        refine WL.buildSlice _ [(0, [.int .i64 fr, .int .i64 (min (endAt a i) (endAt b n))])] [.int .i64 fr, .int .i64 (min (endAt a i) (endAt b n))] hS64 sl111 rfl rfl rfl rfl (fun z hz => by match z, hz with | [z0, z1], _ => rfl) (fun b15 w50 hn15 hS65 => ?_)
        refine WL.push (m := ([(Span.mk fr (min (endAt a i) (endAt b n)))] : List Span)) sl111 rfl rfl rfl (hr1.mono ((((hle13.trans hle14).trans hle15).trans hle19).trans hle21)) hS65 1 rfl 0 _ _ _ _ _ rfl ⟨[.int .i64 fr, .int .i64 (min (endAt a i) (endAt b n))], _, rfl, (SpanE_mk (Span.mk fr (min (endAt a i) (endAt b n))) hfr9 hat9), rfl⟩ rfl (by have hreach : reach = 140737488355328 := rfl; have hlen9 := (by assumption : Sweep a b i n ins fr out9 T).len; simp only [List.length_append, List.length_cons, List.length_nil]; omega) (by have hreach : reach = 140737488355328 := rfl; have hlen9 := (by assumption : Sweep a b i n ins fr out9 T).len; simp only [List.length_append, List.length_cons, List.length_nil]; omega) rfl rfl rfl (fun v16 o16 w51 hr16 hS66 => ?_)
        have hS67 := hS66.tail
        refine WL.assign rfl <| WL.nil <| WC.region rfl <| WL.move rfl <| WL.move rfl <| WL.assign rfl <| WL.assign rfl <| WL.nil ?_
        exact ⟨_, ⟨i, n, true, (min (endAt a i) (endAt b n)), (out9 ++ [(Span.mk fr (min (endAt a i) (endAt b n)))]), (min (endAt a i) (endAt b n)), v16, o16, G21, rfl, (hle3.trans ((((hle13.trans hle14).trans hle15).trans hle19).trans hle21)), hS67, hr16, rfl, rfl, rfl, rfl, rfl, rfl, rfl, rfl, rfl, (by exact Sweep.flip (by assumption) hnx (by assumption) (by assumption) (by assumption))⟩, (show (2 * a.length + 2 * b.length - i - n) < (2 * a.length + 2 * b.length - i - n) by omega)⟩
      refine WL.nil <| WC.condF rfl <| WC.skip <| WC.region rfl <| WL.move rfl <| WL.move rfl <| WL.assign rfl <| WL.assign rfl <| WL.nil ?_
      exact ⟨_, ⟨i, n, true, (min (endAt a i) (endAt b n)), out9, (min (endAt a i) (endAt b n)), v1, o1, G21, rfl, (hle3.trans ((((hle13.trans hle14).trans hle15).trans hle19).trans hle21)), hS64, (hr1.mono ((((hle13.trans hle14).trans hle15).trans hle19).trans hle21)), rfl, rfl, rfl, rfl, rfl, rfl, rfl, rfl, rfl, (by exact Sweep.flop (by assumption) hnx (by assumption) (by assumption) (by assumption))⟩, (show (2 * a.length + 2 * b.length - i - n) < (2 * a.length + 2 * b.length - i - n) by omega)⟩
    refine WL.assign rfl <| WL.nil <| WC.seq <| WC.seq <| WC.region rfl <| WL.move rfl <| WL.move rfl ?_
    refine WL.boolEq false ins ul4 rfl rfl rfl ?_
    refine WL.split (fun (h47 : (false == ins) = true) => ?_) (fun (h47 : (false == ins) = false) => ?_)
    · refine WL.nil <| WC.condT rfl <| WC.exit ?_
      exact ⟨_, ⟨i, n, ins, fr, out9, (min (endAt a i) (endAt b n)), v1, o1, G21, rfl, (hle3.trans ((((hle13.trans hle14).trans hle15).trans hle19).trans hle21)), hS64, (hr1.mono ((((hle13.trans hle14).trans hle15).trans hle19).trans hle21)), rfl, rfl, rfl, rfl, rfl, rfl, rfl, rfl, rfl, (by exact Sweep.keep (by assumption) hnx (by assumption) (by assumption))⟩, (show (2 * a.length + 2 * b.length - i - n) < (2 * a.length + 2 * b.length - i - n) by omega)⟩
    refine WL.nil <| WC.condF rfl <| WC.skip <| WC.seq <| WC.seq <| WC.region rfl <| WL.move rfl ?_
    refine WL.split (fun (h48 : ins = true) => ?_) (fun (h48 : ins = false) => ?_)
    · refine WL.nil <| WC.condT rfl <| WC.region rfl <| WL.move rfl <| WL.move rfl <| WL.move rfl ?_
      refine WL.build _ [(0, [.int .i64 fr]), (1, [.int .i64 (min (endAt a i) (endAt b n))])] [.int .i64 fr, .int .i64 (min (endAt a i) (endAt b n))] ti46 rfl fl46 rfl rfl rfl rfl ?_
      refine WL.buildSlice _ [(0, [.int .i64 fr, .int .i64 (min (endAt a i) (endAt b n))])] [.int .i64 fr, .int .i64 (min (endAt a i) (endAt b n))] hS64 sl111 rfl rfl rfl rfl (fun z hz => by match z, hz with | [z0, z1], _ => rfl) (fun b16 w52 hn16 hS68 => ?_)
      refine WL.push (m := ([(Span.mk fr (min (endAt a i) (endAt b n)))] : List Span)) sl111 rfl rfl rfl (hr1.mono ((((hle13.trans hle14).trans hle15).trans hle19).trans hle21)) hS68 1 rfl 0 _ _ _ _ _ rfl ⟨[.int .i64 fr, .int .i64 (min (endAt a i) (endAt b n))], _, rfl, (SpanE_mk (Span.mk fr (min (endAt a i) (endAt b n))) hfr9 hat9), rfl⟩ rfl (by have hreach : reach = 140737488355328 := rfl; have hlen9 := (by assumption : Sweep a b i n ins fr out9 T).len; simp only [List.length_append, List.length_cons, List.length_nil]; omega) (by have hreach : reach = 140737488355328 := rfl; have hlen9 := (by assumption : Sweep a b i n ins fr out9 T).len; simp only [List.length_append, List.length_cons, List.length_nil]; omega) rfl rfl rfl (fun v17 o17 w53 hr17 hS69 => ?_)
      have hS70 := hS69.tail
      refine WL.assign rfl <| WL.nil <| WC.region rfl <| WL.move rfl <| WL.move rfl <| WL.assign rfl <| WL.assign rfl <| WL.nil ?_
      exact ⟨_, ⟨i, n, false, (min (endAt a i) (endAt b n)), (out9 ++ [(Span.mk fr (min (endAt a i) (endAt b n)))]), (min (endAt a i) (endAt b n)), v17, o17, G21, rfl, (hle3.trans ((((hle13.trans hle14).trans hle15).trans hle19).trans hle21)), hS70, hr17, rfl, rfl, rfl, rfl, rfl, rfl, rfl, rfl, rfl, (by exact Sweep.flip (by assumption) hnx (by assumption) (by assumption) (by assumption))⟩, (show (2 * a.length + 2 * b.length - i - n) < (2 * a.length + 2 * b.length - i - n) by omega)⟩
    refine WL.nil <| WC.condF rfl <| WC.skip <| WC.region rfl <| WL.move rfl <| WL.move rfl <| WL.assign rfl <| WL.assign rfl <| WL.nil ?_
    exact ⟨_, ⟨i, n, false, (min (endAt a i) (endAt b n)), out9, (min (endAt a i) (endAt b n)), v1, o1, G21, rfl, (hle3.trans ((((hle13.trans hle14).trans hle15).trans hle19).trans hle21)), hS64, (hr1.mono ((((hle13.trans hle14).trans hle15).trans hle19).trans hle21)), rfl, rfl, rfl, rfl, rfl, rfl, rfl, rfl, rfl, (by exact Sweep.flop (by assumption) hnx (by assumption) (by assumption) (by assumption))⟩, (show (2 * a.length + 2 * b.length - i - n) < (2 * a.length + 2 * b.length - i - n) by omega)⟩
  refine WL.pickF rfl rfl <| WL.nil <| WC.condF rfl <| WC.exit <| WC.seq <| WC.region rfl <| WL.move rfl ?_
  obtain ⟨G22, hle22, hs1, hS71⟩ := Row.freeze hr1 hS3 0 rfl
  refine WL.callF [v1] #[] hb174 rfl rfl rfl ((c_runsDone _ _ hS71.imm out9 _ hs1 (by have h9 := (Sweep.done (by assumption : Sweep a b i n ins fr out9 T) hCa hCb (by omega) (by omega)).2; omega)).mono ?_)
  rintro e w54 ⟨r21, G23, rfl, hres21, hpost21⟩
  refine ⟨_, rfl, ?_⟩
  have hS72 := hS71.call hres21
  have hle23 := hres21.le
  obtain ⟨r22, r23, rfl, hs2, rfl⟩ := hpost21
  refine WL.extract _ _ rfl rfl rfl ?_
  refine WL.extract _ _ rfl rfl rfl ?_
  refine WL.assign rfl <| WL.assign rfl <| WL.nil ?_
  refine WC.ret ?_
  exact ⟨.tuple #[r22, .int .i64 0], rfl, .tuple #[r22, .int .i64 0], _, rfl, hS72.res, r22, (.int .i64 0), rfl, (Sl.cast hs2 (by exact (Sweep.done (by assumption : Sweep a b i n ins fr out9 T) hCa hCb (by omega) (by omega)).1)), (congrArg (Value.int .i64) (by rfl))⟩

theorem c_Minus (G : GH) (w : World) (hG : G.In w) (a b : List Span) (va : Value) (hva : Sl SpanE 16 G va a) (vb : Value) (hvb : Sl SpanE 16 G vb b) (hCa : Can a) (hCb : Can b) (hVa : ∀ s ∈ a, spanV s = true) (hVb : ∀ s ∈ b, spanV s = true) (hla : a.length ≤ 1000) (hlb : b.length ≤ 1000) : Calls Tryz.prog (nat_lit 82) #[va, vb] w fun e w' => ∃ r G', e = .returned r ∧ Res [] w G w' G' ∧ ∃ r0 r1, r = .tuple #[r0, r1] ∧ Sl SpanE 16 G' r0 (combR 3 a b) ∧ r1 = .int .i64 0 := by
  refine calls_of_WC (N := 11) Tryz.func82 rfl rfl rfl ?_
  have hS := St.start (X := []) hG
  refine WC.seq <| WC.region rfl <| WL.assign rfl <| WL.assign rfl <| WL.nil <| WC.seq <| WC.region rfl <| WL.move rfl <| WL.move rfl ?_
  refine WL.callF [va, vb, .func (.func 143) #[] #[]] #[] hb142 rfl rfl rfl ((c_combine _ _ hS.imm a b _ hva _ hvb hCa hCb hVa hVb hla hlb).mono ?_)
  rintro e w1 ⟨r1, G1, rfl, hres1, hpost1⟩
  refine ⟨_, rfl, ?_⟩
  have hS1 := hS.call hres1
  have hle1 := hres1.le
  obtain ⟨r2, r3, rfl, hs1, rfl⟩ := hpost1
  refine WL.extract _ _ rfl rfl rfl ?_
  refine WL.extract _ _ rfl rfl rfl ?_
  refine WL.assign rfl <| WL.assign rfl <| WL.nil ?_
  refine WC.ret ?_
  exact ⟨.tuple #[r2, .int .i64 0], rfl, .tuple #[r2, .int .i64 0], _, rfl, hS1.res, r2, (.int .i64 0), rfl, (Sl.cast hs1 (by rfl)), (congrArg (Value.int .i64) (by rfl))⟩

theorem c_Except1 (G : GH) (w : World) (hG : G.In w) (g : Group) (v : List Val) (cg : List Value) (hcg : GroupE.rep G g cg) (vv : Value) (hvv : Sl ValE 32 G vv v)  : Calls Tryz.prog (nat_lit 81) #[.agg cg.toArray, vv] w fun e w' => ∃ r G', e = .returned r ∧ Res [] w G w' G' ∧ r = .int .i64 (ordV g.v v) := by
  refine calls_of_WC (N := 9) Tryz.func81 rfl rfl rfl ?_
  have hS := St.start (X := []) hG
  obtain ⟨v1, v2, rfl, hs1, hs2⟩ := GroupE_open hcg
  refine WC.seq <| WC.region rfl ?_
  refine WL.boxG [v1, v2] _ hS rfl rfl rfl (fun p1 w1 G1 hle1 hsp1 hc1 hS1 => ?_)
  refine WL.assign rfl <| WL.nil <| WC.seq <| WC.region rfl ?_
  refine WL.fieldAddr _ 0 _ fl117 rfl rfl rfl ?_
  refine WL.loadG1 hS1 (Cells.drop 0 hc1) ti61 rfl rfl rfl ?_
  refine WL.move rfl ?_
  refine WL.callF [v1, vv] #[] hb35 rfl rfl rfl ((c_Order _ _ hS1.imm g.v v _ (hs1.mono hle1) _ (hvv.mono hle1) ).mono ?_)
  rintro e w2 ⟨r1, G2, rfl, hres1, hpost1⟩
  refine ⟨_, rfl, ?_⟩
  have hS2 := hS1.call hres1
  have hle2 := hres1.le
  subst hpost1
  refine WL.assign rfl <| WL.nil ?_
  refine WC.ret ?_
  exact ⟨.int .i64 (ordV g.v v), rfl, .int .i64 (ordV g.v v), _, rfl, hS2.res, (congrArg (Value.int .i64) (by rfl))⟩

theorem c_BinG (G : GH) (w : World) (hG : G.In w) (gs : List Group) (v : List Val) (vg : Value) (hvg : Sl GroupE 48 G vg gs) (vv : Value) (hvv : Sl ValE 32 G vv v) (hs : MonoG gs v) (hl : gs.length ≤ 1000000) : Calls Tryz.prog (nat_lit 80) #[vg, vv, .func (.func 81) #[] #[]] w fun e w' => ∃ r G', e = .returned r ∧ Res [] w G w' G' ∧ ∃ r0 r1, r = .tuple #[r0, r1] ∧ r0 = .int .i64 ((posG gs v : Nat) : Int) ∧ r1 = .bool (foundG gs v) := by
  refine calls_of_WC (N := 49) Tryz.func80 rfl rfl rfl ?_
  have hS := St.start (X := []) hG
  refine WC.seq <| WC.region rfl <| WL.assign rfl <| WL.assign rfl <| WL.nil <| WC.seq <| WC.region rfl <| WL.move rfl ?_
  have bd1 := hvg.bound
  refine WL.lenSl hvg ul114 rfl rfl ?_
  refine WL.assign rfl <| WL.nil <| WC.seq <| WC.region rfl <| WL.move rfl <| WL.assign rfl <| WL.assign rfl <| WL.nil <| WC.seq <| WC.block ?_
  refine WC.loop (γ := Nat) (fun m ρ1 w1 => ∃ (i : Nat), ∃ (j : Nat), ∃ (G1 : GH), m = (j - i) ∧ G.le G1 ∧ St w [] G G1 [] w1 ∧ ρ1 0 = vg ∧ ρ1 1 = vv ∧ ρ1 2 = .func (.func 81) #[] #[] ∧ ρ1 8 = .int .i64 (gs.length : Int) ∧ ρ1 9 = .int .i64 (i : Int) ∧ ρ1 10 = .int .i64 (j : Int) ∧ i ≤ j ∧ j ≤ gs.length ∧ LowG gs v i ∧ HighG gs v j) (fun m => m) _ ⟨0, gs.length, G, rfl, (G.le_refl), hS, rfl, rfl, rfl, rfl, rfl, rfl, (by omega), (by omega), (LowG.zero), (HighG.all)⟩ ?_
  rintro m ρ1 w1 ⟨i, j, G1, rfl, hle1, hS1, e1, e2, e3, e4, e5, e6, f1, f2, f3, f4⟩
  refine WC.set (d := 0) e1 ?_
  refine WC.set (d := 1) e2 ?_
  refine WC.set (d := 2) e3 ?_
  refine WC.set (d := 8) e4 ?_
  refine WC.set (d := 9) e5 ?_
  refine WC.set (d := 10) e6 ?_
  refine WC.seq <| WC.seq <| WC.region rfl <| WL.move rfl <| WL.move rfl ?_
  refine WL.lssS (i : Int) (j : Int) rfl rfl rfl (fun h1 => ?_) (fun h1 => ?_)
  · refine WL.nil <| WC.condT rfl <| WC.skip <| WC.block <| WC.seq <| WC.region rfl <| WL.move rfl <| WL.move rfl ?_
    refine WL.addN i j (by have hreach : reach = 140737488355328 := rfl; omega) rfl rfl rfl ?_
    refine WL.toU (i + j) ul3 ul98 (by have hreach : reach = 140737488355328 := rfl; omega) rfl rfl ?_
    refine WL.half (i + j) rfl rfl rfl ?_
    refine WL.ofU ((i + j) / 2) ul98 ul3 (by have hreach : reach = 140737488355328 := rfl; omega) rfl rfl ?_
    refine WL.assign rfl <| WL.nil <| WC.seq <| WC.region rfl <| WL.move rfl <| WL.move rfl <| WL.move rfl ?_
    refine WL.indexAddr (hvg.mono hle1) ((i + j) / 2) (by omega) ul114 ti117 rfl rfl rfl rfl (fun p1 x1 hx1 he1 => ?_)
    obtain ⟨cs1, hc1, hr1⟩ := he1
    obtain ⟨v1, v2, rfl, hs1, hs2⟩ := GroupE_open hr1
    refine WL.loadGAt hS1 hc1 [v1, v2] ti117 rfl rfl rfl rfl rfl ?_
    refine WL.move rfl ?_
    refine WL.callF [.agg #[v1, v2], vv] #[] hb81 rfl rfl rfl ((c_Except1 _ _ hS1.imm x1 v _ (GroupE_mk x1 hs1 hs2) _ (hvv.mono hle1) ).mono ?_)
    rintro e w2 ⟨r1, G2, rfl, hres1, hpost1⟩
    refine ⟨_, rfl, ?_⟩
    have hS2 := hS1.call hres1
    have hle2 := hres1.le
    subst hpost1
    refine WL.lssS (ordV x1.v v) 0 rfl rfl rfl (fun h2 => ?_) (fun h2 => ?_)
    · refine WL.nil <| WC.condT rfl <| WC.region rfl <| WL.move rfl ?_
      refine WL.incr ((i + j) / 2) (by have hreach : reach = 140737488355328 := rfl; omega) rfl rfl rfl ?_
      refine WL.assign rfl <| WL.nil ?_
      exact ⟨_, ⟨(i + j) / 2 + 1, j, G2, rfl, (hle1.trans hle2), hS2, rfl, rfl, rfl, rfl, rfl, rfl, (by omega), (by omega), (by exact LowG.step hs (by assumption) (by assumption)), (by assumption)⟩, (show (j - ((i + j) / 2 + 1)) < (j - i) by omega)⟩
    refine WL.nil <| WC.condF rfl <| WC.region rfl <| WL.move rfl <| WL.assign rfl <| WL.nil ?_
    exact ⟨_, ⟨i, (i + j) / 2, G2, rfl, (hle1.trans hle2), hS2, rfl, rfl, rfl, rfl, rfl, rfl, (by omega), (by omega), (by assumption), (by exact HighG.step hs (by assumption) (by assumption))⟩, (show (((i + j) / 2) - i) < (j - i) by omega)⟩
  refine WL.nil <| WC.condF rfl <| WC.exit <| WC.seq ?_
  have hp9 := posG_of (by assumption : LowG gs v i) (by assumption : HighG gs v j) (by omega) (by omega)
  refine WC.region rfl <| WL.move rfl <| WL.move rfl <| WL.move rfl ?_
  refine WL.lssS (i : Int) (gs.length : Int) rfl rfl rfl (fun h3 => ?_) (fun h3 => ?_)
  · refine WL.move rfl <| WL.move rfl <| WL.move rfl <| WL.move rfl ?_
    refine WL.indexAddr (hvg.mono hle1) i (by omega) ul114 ti117 rfl rfl rfl rfl (fun p2 x2 hx2 he2 => ?_)
    obtain ⟨cs2, hc2, hr2⟩ := he2
    obtain ⟨v3, v4, rfl, hs3, hs4⟩ := GroupE_open hr2
    refine WL.loadGAt hS1 hc2 [v3, v4] ti117 rfl rfl rfl rfl rfl ?_
    refine WL.move rfl ?_
    refine WL.callF [.agg #[v3, v4], vv] #[] hb81 rfl rfl rfl ((c_Except1 _ _ hS1.imm x2 v _ (GroupE_mk x2 hs3 hs4) _ (hvv.mono hle1) ).mono ?_)
    rintro e w3 ⟨r2, G3, rfl, hres2, hpost2⟩
    refine ⟨_, rfl, ?_⟩
    have hS3 := hS1.call hres2
    have hle3 := hres2.le
    subst hpost2
    refine WL.cmp .eql rfl .i64 (ordV x2.v v) 0 rfl rfl rfl ?_
    refine WL.pickT rfl rfl <| WL.assign rfl <| WL.assign rfl <| WL.nil ?_
    refine WC.ret ?_
    exact ⟨.tuple #[.int .i64 (i : Int), .bool (Cmp.b .eql (ordV x2.v v) 0)], rfl, .tuple #[.int .i64 (i : Int), .bool (Cmp.b .eql (ordV x2.v v) 0)], _, rfl, hS3.res, (.int .i64 (i : Int)), (.bool (Cmp.b .eql (ordV x2.v v) 0)), rfl, (congrArg (Value.int .i64) (by (rw [hp9]; done))), (congrArg Value.bool (by exact (foundG_at hp9 (by assumption)).symm))⟩
  refine WL.move rfl <| WL.no rfl rfl <| WL.no rfl rfl <| WL.no rfl rfl <| WL.no rfl rfl <| WL.no rfl rfl <| WL.no rfl rfl <| WL.no rfl rfl <| WL.no rfl rfl <| WL.pickF rfl rfl <| WL.assign rfl <| WL.assign rfl <| WL.nil ?_
  refine WC.ret ?_
  exact ⟨.tuple #[.int .i64 (i : Int), .bool false], rfl, .tuple #[.int .i64 (i : Int), .bool false], _, rfl, hS1.res, (.int .i64 (i : Int)), (.bool false), rfl, (congrArg (Value.int .i64) (by (rw [hp9]; done))), (congrArg Value.bool (by exact (foundG_none hp9 (by omega)).symm))⟩
end Go.Civ
