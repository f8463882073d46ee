/- Lemmas. -/
import Derived.Test.YtecneejegecmhaaGreatDoorK31
set_option linter.unusedVariables false
set_option linter.unusedSimpArgs false
set_option linter.unusedVariables false
set_option linter.unusedSimpArgs false
set_option maxRecDepth 100000
set_option maxHeartbeats 4000000
namespace Go.Civ
open Go.Proofs
theorem ZzR {G : GH} {w : World} (hG : G.In w) (n : Nat) (q : Query) (cq : List Value) (hcq : QryE.rep G q cq) (hn : Xx q n) (ht : TxN n q) (hk : q.kind = 1) (hb : (Ya q).length ≤ 100000) : CL Tryz.prog (nat_lit 173) #[.agg cq.toArray] [] w G fun _ _ r=>r = Za (Ya q):=by
 refine Zg ft [] Tryz.func173 V V ?_
 have hS:=St.start (X:=[]) hG
 obtain ⟨v1,v2,v3,v4,rfl,B1,B2,A1,A2,Z7,Z5,ZD,hb6,hb7,ZV,A3,hb9,ZI,ZJ,ZL,A4⟩:=Zs hcq
 refine Z4 (QV q v1 v2 v3 v4) _ hS V V V (fun p1 w1 G1 L1 M1 C1 S1=>?_)
 refine Z S1 (Xh.drop 1 C1) Zv V V V ?_
 refine Zh [115,99,97,110,32] q.table (by have:=B2; (try simp only [Zo]); have:=Zb; omega) V V V ?_
 exact RT S1 V (congrArg Za (by exact Zlm hk))
theorem ZzS {G : GH} {w : World} (hG : G.In w) (n : Nat) (q : Query) (hg : Glob G) (cq : List Value) (hcq : QryE.rep G q cq) (hn : Xx q n) (ht : TxN n q) (hk : q.kind = 2) (hb : (Ya q).length ≤ 100000) : CL Tryz.prog (nat_lit 174) #[.agg cq.toArray] [] w G fun _ _ r=>r = Za (Ya q):=by
 refine Zg ft [] Tryz.func174 V V ?_
 have hcl:=Zrg hk hb
 have hS:=St.start (X:=[]) hG
 obtain ⟨v1,v2,v3,v4,rfl,B1,B2,A1,A2,Z7,Z5,ZD,hb6,hb7,ZV,A3,hb9,ZI,ZJ,ZL,A4⟩:=Zs hcq
 refine Z4 (QV q v1 v2 v3 v4) _ hS V V V (fun p1 w1 G1 L1 M1 C1 S1=>?_)
 refine Zc S1 (Xh.drop 4 C1) [U q.cond.kind,Za q.cond.col,Za q.cond.oth,U q.cond.v.k,U q.cond.v.n,Za q.cond.v.s,v3] ZY V V V V V ?_
 refine Zl S1 ZnM V V V (ZpW n S1.imm q.cond (hg.mono L1) _ (ZR q.cond Z7 Z5 ZD hb6 hb7 ZV (A3.mono L1)) (Zaz hn) (ht.cd hk) (Zrg hk hb)) (fun w2 G2 S2 L2=>?_)
 refine Zh [115,101,108,101,99,116,32,40] (YL q.cond) (by have:=(show (YL q.cond).length ≤ 100000 by assumption); (try simp only [Zo]); have:=Zb; omega) V V V ?_
 refine Zh ([115,101,108,101,99,116,32,40] ++ (YL q.cond)) [41] (by have:=(show (YL q.cond).length ≤ 100000 by assumption); (try simp only [Zo]); have:=Zb; omega) V V V ?_
 exact RT S2 V (congrArg Za (by exact Zn5 hk))
theorem ZzT {G : GH} {w : World} (hG : G.In w) (n : Nat) (q : Query) (cq : List Value) (hcq : QryE.rep G q cq) (hn : Xx q n) (ht : TxN n q) (hk : q.kind = 3) (hb : (Ya q).length ≤ 100000) : CL Tryz.prog (nat_lit 176) #[.agg cq.toArray] [] w G fun _ _ r=>r = Za (Ya q):=by
 refine Zg ft [] Tryz.func176 V V ?_
 have hj:=Zrh hk hb
 have hS:=St.start (X:=[]) hG
 obtain ⟨v1,v2,v3,v4,rfl,B1,B2,A1,A2,Z7,Z5,ZD,hb6,hb7,ZV,A3,hb9,ZI,ZJ,ZL,A4⟩:=Zs hcq
 refine Z4 (QV q v1 v2 v3 v4) _ hS V V V (fun p1 w1 G1 L1 M1 C1 S1=>?_)
 refine Z S1 (Xh.drop 2 C1) ZH V V V ?_
 refine Zl S1 ZdY V V V (ZcK S1.imm q.cols [44,32] _ (A1.mono L1) hj) (fun w2 G2 S2 L2=>?_)
 refine Zh [112,114,111,106,101,99,116,32] (Z2 [44,32] q.cols) (by have:=(show (Z2 [44,32] q.cols).length ≤ 1000000 by assumption); (try simp only [Zo]); have:=Zb; omega) V V V ?_
 exact RT S2 V (congrArg Za (by exact Zn6 hk))
theorem ZzU {G : GH} {w : World} (hG : G.In w) (n : Nat) (q : Query) (cq : List Value) (hcq : QryE.rep G q cq) (hn : Xx q n) (ht : TxN n q) (hk : q.kind = 4) (hb : (Ya q).length ≤ 100000) : CL Tryz.prog (nat_lit 178) #[.agg cq.toArray] [] w G fun _ _ r=>r = Za (Ya q):=by
 refine Zg ft [] Tryz.func178 V V ?_
 have hj:=Zri hk hb
 have hrn:=ht.rn hk
 have hlc:=ht.lc
 have hS:=St.start (X:=[]) hG
 obtain ⟨v1,v2,v3,v4,rfl,B1,B2,A1,A2,Z7,Z5,ZD,hb6,hb7,ZV,A3,hb9,ZI,ZJ,ZL,A4⟩:=Zs hcq
 refine Z4 (QV q v1 v2 v3 v4) _ hS V V V (fun p1 w1 G1 L1 M1 C1 S1=>?_)
 refine Z S1 (Xh.drop 2 C1) ZH V V V ?_
 have V1:=A1.bound
 refine Zm (A1.mono L1) Yb V V ?_
 have S3:=S1.pad
 refine LP.go ft [] (fun m ρ1 w1=>∃ (k1 : Nat),∃ (v5 : Value) (o1 : OB),∃ (G2 : GH),m = q.cols.length - k1 ∧ G1.le G2 ∧ St w [] G G2 [o1] w1 ∧ YX Enc.str 16 9 G2 v5 (Qy (q.cols.take k1) (q.names.take k1)) o1 ∧ FR ρ1 [(1,ZP p1),(3,v5),(7,v1),(8,U (q.cols.length : Int)),(9,U (k1 : Int))] ∧ k1 ≤ q.cols.length) _ ⟨0,(Zf),none,G1,V,(G1.le_refl),S3,(YX.cast (YX.nil Enc.str 16 9 G1) (by rfl)),(ZS V),(by omega)⟩ ?_
 rintro m ρ1 w2 ⟨k1,v5,o1,G2,rfl,L2,S2,R1,F9,f1⟩
 refine F9.set ?_
 clear F9
 have hrl:=@ZsF k1 q.cols q.names
 refine Zp (k1 : Int) (q.cols.length : Int) V V V (fun h1=>?_) (fun h1=>?_)
 ·refine WL.indexAddr (A1.mono (L1.trans L2)) k1 (by omega) Yb Zv V V V V (fun p2 x1 U1 E1=>?_)
  obtain ⟨D1,C2,R2⟩:=E1
  obtain ⟨rfl,Y0⟩:=R2
  refine Z S2 C2 Zv V V V ?_
  refine Zh x1 [32,116,111,32] (by have:=(ht.nc _ (List.mem_of_getElem? U1)); (try simp only [Zo]); have:=Zb; omega) V V V ?_
  refine Z S2 (Xh.drop 3 (C1.mono L2)) ZH V V V ?_
  refine WL.indexAddr (A2.mono (L1.trans L2)) k1 (by omega) Yb Zv V V V V (fun p3 x2 U2 E2=>?_)
  obtain ⟨D2,C3,R3⟩:=E2
  obtain ⟨rfl,Y6⟩:=R3
  refine Z S2 C3 Zv V V V ?_
  refine Zh (x1 ++ [32,116,111,32]) x2 (by have:=(ht.nc _ (List.mem_of_getElem? U1)); have:=(ht.nn _ (List.mem_of_getElem? U2)); (try simp only [Zo]); have:=Zb; omega) V V V ?_
  refine WL.buildSlice _ [(0,[Za ((x1 ++ [32,116,111,32]) ++ x2)])] [Za ((x1 ++ [32,116,111,32]) ++ x2)] S2 XI V V V V (fun z hz=>by match z,hz with | [z0],_=>rfl) (fun b1 w3 N1 S4=>?_)
  refine WL.push (m:=([((x1 ++ [32,116,111,32]) ++ x2)] : List (List UInt8))) XI V V V R1 S4 1 V 0 _ _ _ _ _ V ⟨[Za ((x1 ++ [32,116,111,32]) ++ x2)],_,V,⟨V,(by have:=(ht.nc _ (List.mem_of_getElem? U1)); have:=(ht.nn _ (List.mem_of_getElem? U2)); (try simp only [Zo]); have:=Zb; omega)⟩,V⟩ V (by have:=Zb; simp only [List.length_append,List.length_map,List.length_take,List.length_cons,List.length_nil]; omega) (by have:=Zb; simp only [List.length_append,List.length_map,List.length_take,List.length_cons,List.length_nil]; omega) V V V (fun v6 o2 w4 R4 S5=>?_)
  have S6:=S5.tail
  refine Zq k1 (by have:=Zb; omega) V V V ?_
  exact BK.mk' _ ⟨k1 + 1,v6,o2,G2,V,L2,S6,(YX.cast R4 (by (exact (ZsE ‹_› ‹_›).symm))),(ZS V),(by omega)⟩ (show q.cols.length - (k1 + 1) < q.cols.length - k1 by omega)
 have hrr:=YX.cast (l':=Qy q.cols q.names) R1 (by rw [List.take_of_length_le (by omega),List.take_of_length_le (by omega)])
 obtain ⟨G3,L3,A5,S7⟩:=YX.freeze hrr S2 0 V
 refine Zl S7 ZdY V V V (ZcK S7.imm (Qy q.cols q.names) [44,32] _ A5 hj) (fun w5 G4 S8 L4=>?_)
 refine Zh [114,101,110,97,109,101,32] (Z2 [44,32] (Qy q.cols q.names)) (by have:=(show (Z2 [44,32] (Qy q.cols q.names)).length ≤ 1000000 by assumption); (try simp only [Zo]); have:=Zb; omega) V V V ?_
 exact RT S8 V (congrArg Za (by exact Zn7 hk))
theorem ZzV {G : GH} {w : World} (hG : G.In w) (n : Nat) (q : Query) (cq : List Value) (hcq : QryE.rep G q cq) (hn : Xx q n) (ht : TxN n q) (hk : q.kind = 5) (hb : (Ya q).length ≤ 100000) : CL Tryz.prog (nat_lit 179) #[.agg cq.toArray] [] w G fun _ _ r=>r = Za (Ya q):=by
 refine Zg ft [] Tryz.func179 V V ?_
 have hS:=St.start (X:=[]) hG
 obtain ⟨v1,v2,v3,v4,rfl,B1,B2,A1,A2,Z7,Z5,ZD,hb6,hb7,ZV,A3,hb9,ZI,ZJ,ZL,A4⟩:=Zs hcq
 refine Z4 (QV q v1 v2 v3 v4) _ hS V V V (fun p1 w1 G1 L1 M1 C1 S1=>?_)
 exact RT S1 V (congrArg Za (by exact Zrc hk))
theorem ZzW {G : GH} {w : World} (hG : G.In w) (n : Nat) (q : Query) (cq : List Value) (hcq : QryE.rep G q cq) (hn : Xx q n) (ht : TxN n q) (hk : q.kind = 6) (hb : (Ya q).length ≤ 100000) : CL Tryz.prog (nat_lit 180) #[.agg cq.toArray] [] w G fun _ _ r=>r = Za (Ya q):=by
 refine Zg ft [] Tryz.func180 V V ?_
 have hS:=St.start (X:=[]) hG
 obtain ⟨v1,v2,v3,v4,rfl,B1,B2,A1,A2,Z7,Z5,ZD,hb6,hb7,ZV,A3,hb9,ZI,ZJ,ZL,A4⟩:=Zs hcq
 refine Z4 (QV q v1 v2 v3 v4) _ hS V V V (fun p1 w1 G1 L1 M1 C1 S1=>?_)
 exact RT S1 V (congrArg Za (by exact Zrd hk))
theorem ZzX {G : GH} {w : World} (hG : G.In w) (n : Nat) (q : Query) (cq : List Value) (hcq : QryE.rep G q cq) (hn : Xx q n) (ht : TxN n q) (hk : q.kind = 7) (hb : (Ya q).length ≤ 100000) : CL Tryz.prog (nat_lit 181) #[.agg cq.toArray] [] w G fun _ _ r=>r = Za (Ya q):=by
 refine Zg ft [] Tryz.func181 V V ?_
 have hS:=St.start (X:=[]) hG
 obtain ⟨v1,v2,v3,v4,rfl,B1,B2,A1,A2,Z7,Z5,ZD,hb6,hb7,ZV,A3,hb9,ZI,ZJ,ZL,A4⟩:=Zs hcq
 refine Z4 (QV q v1 v2 v3 v4) _ hS V V V (fun p1 w1 G1 L1 M1 C1 S1=>?_)
 exact RT S1 V (congrArg Za (by exact Zre hk))
theorem ZpX {G : GH} {w : World} (hG : G.In w) (t : Int) (hg : Glob G) (ht64 : Zj t) (ht : -62135596800 ≤ t ∧ t ≤ 253402300800) : CL Tryz.prog (nat_lit 183) #[U t] [] w G fun _ _ r=>r = Za (Yk t):=by
 refine Zg ft [] Tryz.func183 V V ?_
 have hS:=St.start (X:=[]) hG
 refine WL.build _ [(0,[U 4]),(1,[U t])] [U 4,U t,Za []] Xv V ZiI V V V V ?_
 refine Zl hS ZnN V V V (ZiS hS.imm (Val.mk 4 t []) hg _ (XX (Val.mk 4 t []) (show Zj 4 from by constructor <;> decide) ht64 (by simp [reach])) (ZsG t ht) ht64) (fun w1 G1 S1 L1=>?_)
 exact RT S1 V (congrArg Za (by exact Zw3))
theorem ZzY {G : GH} {w : World} (hG : G.In w) (n : Nat) (q : Query) (hg : Glob G) (cq : List Value) (hcq : QryE.rep G q cq) (hn : Xx q n) (ht : TxN n q) (hk : q.kind = 8) (hb : (Ya q).length ≤ 100000) : CL Tryz.prog (nat_lit 182) #[.agg cq.toArray] [] w G fun _ _ r=>r = Za (Ya q):=by
 refine Zg ft [] Tryz.func182 V V ?_
 have hsp:=ht.sp hk
 have hS:=St.start (X:=[]) hG
 obtain ⟨v1,v2,v3,v4,rfl,B1,B2,A1,A2,Z7,Z5,ZD,hb6,hb7,ZV,A3,hb9,ZI,ZJ,ZL,A4⟩:=Zs hcq
 refine Z4 (QV q v1 v2 v3 v4) _ hS V V V (fun p1 w1 G1 L1 M1 C1 S1=>?_)
 refine dr [(13,false)] [(7,U q.span.a),(8,Za (Yk q.span.a)),(9,Za ([100,117,114,105,110,103,32] ++ (Yk q.span.a))),(10,Za (([100,117,114,105,110,103,32] ++ (Yk q.span.a)) ++ [32,116,111,32])),(14,U q.span.b),(15,Za (Yk q.span.b)),(16,Za ((([100,117,114,105,110,103,32] ++ (Yk q.span.a)) ++ [32,116,111,32]) ++ (Yk q.span.b)))] S1 ⟨fun _ hSw=>Z hSw (Xh.drop 0 (Xh.drop 13 C1)) Zk V V V <| nu V V,fun _ hSw=>ZB hSw Ztt V V V (ZpX hSw.imm q.span.a (hg.mono L1) ‹_› (by omega)) V,fun _=>Zh [100,117,114,105,110,103,32] (Yk q.span.a) (by have:=(Xa q.span.a (by omega)); (try simp only [Zo]); have:=Zb; omega) V V V <| nu V V,fun _=>Zh ([100,117,114,105,110,103,32] ++ (Yk q.span.a)) [32,116,111,32] (by have:=(Xa q.span.a (by omega)); (try simp only [Zo]); have:=Zb; omega) V V V <| nu V V,fun _ hSw=>Z hSw (Xh.drop 1 (Xh.drop 13 C1)) Zk V V V <| nu V V,fun _ hSw=>ZB hSw Ztt V V V (ZpX hSw.imm q.span.b (hg.mono L1) ‹_› (by omega)) V,fun _=>Zh (([100,117,114,105,110,103,32] ++ (Yk q.span.a)) ++ [32,116,111,32]) (Yk q.span.b) (by have:=(Xa q.span.a (by omega)); have:=(Xa q.span.b (by omega)); (try simp only [Zo]); have:=Zb; omega) V V V <| nu V V,trivial⟩ (fun w2 S2=>?_)
 exact RT S2 V (congrArg Za (by exact Zrf hk))
theorem ZzZ {G : GH} {w : World} (hG : G.In w) (n : Nat) (q : Query) (cq : List Value) (hcq : QryE.rep G q cq) (hn : Xx q n) (ht : TxN n q) (hk : q.kind = 9) (hb : (Ya q).length ≤ 100000) : CL Tryz.prog (nat_lit 185) #[.agg cq.toArray] [] w G fun _ _ r=>r = Za (Ya q):=by
 refine Zg ft [] Tryz.func185 V V ?_
 have hgr:=ht.gr hk
 have N1 : 1 ≤ q.names.length:=by have:=hgr.2; split at this <;> omega
 have hS:=St.start (X:=[]) hG
 obtain ⟨v1,v2,v3,v4,rfl,B1,B2,A1,A2,Z7,Z5,ZD,hb6,hb7,ZV,A3,hb9,ZI,ZJ,ZL,A4⟩:=Zs hcq
 refine Z4 (QV q v1 v2 v3 v4) _ hS V V V (fun p1 w1 G1 L1 M1 C1 S1=>?_)
 refine WL.buildSlice _ [(0,[Za [103,114,111,117,112]])] [Za [103,114,111,117,112]] S1 XI V V V V (fun z hz=>by match z,hz with | [z0],_=>rfl) (fun b1 w2 N1 S2=>?_)
 refine Z S2 (Xh.drop 2 C1) ZH V V V ?_
 have V1:=A1.bound
 refine Zm (A1.mono L1) Yb V V ?_
 refine Z1 (q.cols.length : Int) 0 V V V (fun h1=>?_) (fun h1=>?_)
 ·have hj9:=Zn8 hk hb (by omega)
  refine Z S2 (Xh.drop 2 C1) ZH V V V ?_
  refine Zl S2 ZdY V V V (ZcK S2.imm q.cols [44,32] _ (A1.mono L1) (by exact hj9)) (fun w3 G2 S3 L2=>?_)
  refine WL.buildSlice _ [(0,[Za (Z2 [44,32] q.cols)])] [Za (Z2 [44,32] q.cols)] S3 XI V V V V (fun z hz=>by match z,hz with | [z0],_=>rfl) (fun b2 w4 N2 S4=>?_)
  have R1 : YX Enc.str 16 9 G2 (.slice (some ⟨b1,0,none⟩) 1 1) [[103,114,111,117,112]] (some (b1,9,[Za [103,114,111,117,112]])):=YX.ofNew ⟨[Za [103,114,111,117,112]],_,V,⟨V,(by simp [reach])⟩,V⟩ V (by simp [reach]) (by simp [reach])
  refine WL.push (m:=([(Z2 [44,32] q.cols)] : List (List UInt8))) XI V V V R1 S4 1 V 0 _ _ _ _ _ V ⟨[Za (Z2 [44,32] q.cols)],_,V,⟨V,(Nat.le_trans (show (Z2 [44,32] q.cols).length ≤ 1000000 by assumption) (by decide))⟩,V⟩ V (by have:=Zb; simp only [List.length_append,List.length_map,List.length_take,List.length_cons,List.length_nil]; omega) (by have:=Zb; simp only [List.length_append,List.length_map,List.length_take,List.length_cons,List.length_nil]; omega) V V V (fun v5 o1 w5 R2 S5=>?_)
  have S6:=S5.tail
  refine Zc1 _ [(1,[Za [99,111,117,110,116]]),(2,[Za [115,117,109]]),(3,[Za [109,105,110]]),(4,[Za [109,97,120]])] (Za []) [Za [99,111,117,110,116],Za [115,117,109],Za [109,105,110],Za [109,97,120]] S6 XI V V V V V V (Zpi (Za [99,111,117,110,116]) (Za [115,117,109]) (Za [109,105,110]) (Za [109,97,120])) (fun b3 w6 N3 S7=>?_)
  refine Z S7 (Xh.drop 12 (C1.mono L2)) Zk V V V ?_
  obtain ⟨G3,L3,A5,S8⟩:=St.sealSl (E:=Enc.str) (by_:=16) (l:=([[],[99,111,117,110,116],[115,117,109],[109,105,110],[109,97,120]] : List (List UInt8))) S7 N3 ⟨[Za []],_,V,⟨V,(by simp [reach])⟩,⟨[Za [99,111,117,110,116]],_,V,⟨V,(by simp [reach])⟩,⟨[Za [115,117,109]],_,V,⟨V,(by simp [reach])⟩,⟨[Za [109,105,110]],_,V,⟨V,(by simp [reach])⟩,⟨[Za [109,97,120]],_,V,⟨V,(by simp [reach])⟩,V⟩⟩⟩⟩⟩ V (by simp [reach]) (by simp [reach])
  refine WL.indexAddr A5 ((q.fn).toNat) (by (simp only [List.length_cons,List.length_nil]; omega)) Yb Zv V V V (congrArg (Value.int .i64) (Int.toNat_of_nonneg (by omega)).symm) (fun p2 x1 U1 E1=>?_)
  obtain ⟨D1,C2,R3⟩:=E1
  obtain ⟨rfl,Y0⟩:=R3
  refine Z S8 C2 Zv V V V ?_
  refine WL.buildSlice _ [(0,[Za x1])] [Za x1] S8 XI V V V V (fun z hz=>by match z,hz with | [z0],_=>rfl) (fun b4 w7 N4 S9=>?_)
  refine WL.push (m:=([x1] : List (List UInt8))) XI V V V (R2.mono L3) S9 1 V 0 _ _ _ _ _ V ⟨[Za x1],_,V,⟨V,Y0⟩,V⟩ V (by have:=Zb; simp only [List.length_append,List.length_map,List.length_take,List.length_cons,List.length_nil]; omega) (by have:=Zb; simp only [List.length_append,List.length_map,List.length_take,List.length_cons,List.length_nil]; omega) V V V (fun v6 o2 w9 R4 S10=>?_)
  have S11:=S10.tail
  have j1:=(L2.trans L3)
  refine Z S11 (Xh.drop 3 (C1.mono j1)) ZH V V V ?_
  have V2:=A2.bound
  have j2:=((L1.trans L2).trans L3)
  refine Zm (A2.mono j2) Yb V V ?_
  refine Z1 (q.names.length : Int) 1 V V V (fun h2=>?_) (fun h2=>?_)
  ·refine Z S11 (Xh.drop 3 (C1.mono j1)) ZH V V V ?_
   refine WL.indexAddr (A2.mono j2) 0 (by omega) Yb Zv V V V V (fun p3 x2 U2 E2=>?_)
   obtain ⟨D2,C3,R5⟩:=E2
   obtain ⟨rfl,Y6⟩:=R5
   refine Z S11 C3 Zv V V V ?_
   refine WL.buildSlice _ [(0,[Za x2])] [Za x2] S11 XI V V V V (fun z hz=>by match z,hz with | [z0],_=>rfl) (fun b5 w10 N5 S12=>?_)
   refine WL.push (m:=([x2] : List (List UInt8))) XI V V V R4 S12 1 V 0 _ _ _ _ _ V ⟨[Za x2],_,V,⟨V,Y6⟩,V⟩ V (by have:=Zb; simp only [List.length_append,List.length_map,List.length_take,List.length_cons,List.length_nil]; omega) (by have:=Zb; simp only [List.length_append,List.length_map,List.length_take,List.length_cons,List.length_nil]; omega) V V V (fun v7 o3 w11 R6 S13=>?_)
   have S14:=S13.tail
   refine Z S14 (Xh.drop 3 (C1.mono j1)) ZH V V V <| Z S14 (Xh.drop 3 (C1.mono j1)) ZH V V V ?_
   have V3:=A2.bound
   refine Zm (A2.mono j2) Yb V V ?_
   refine XW q.names.length (by omega) (by have:=Zb; omega) V V V ?_
   refine WL.indexAddr (A2.mono j2) (q.names.length - 1) (by omega) Yb Zv V V V V (fun p4 x3 U3 E3=>?_)
   obtain ⟨D3,C4,R7⟩:=E3
   obtain ⟨rfl,YA⟩:=R7
   refine Z S14 C4 Zv V V V ?_
   refine WL.buildSlice _ [(0,[Za [97,115]]),(1,[Za x3])] [Za [97,115],Za x3] S14 XI V V V V (fun z hz=>by match z,hz with | [z0,z1],_=>rfl) (fun b6 w12 N6 S15=>?_)
   refine WL.push (m:=([[97,115],x3] : List (List UInt8))) XI V V V R6 S15 1 V 0 _ _ _ _ _ V ⟨[Za [97,115]],_,V,⟨V,(by simp [reach])⟩,⟨[Za x3],_,V,⟨V,YA⟩,V⟩⟩ V (by have:=Zb; simp only [List.length_append,List.length_map,List.length_take,List.length_cons,List.length_nil]; omega) (by have:=Zb; simp only [List.length_append,List.length_map,List.length_take,List.length_cons,List.length_nil]; omega) V V V (fun v9 o4 w13 R8 S16=>?_)
   have S17:=S16.tail
   obtain ⟨G4,L4,A6,S18⟩:=YX.freeze R8 S17 0 V
   refine Zl S18 ZdY V V V (ZcK S18.imm (((([[103,114,111,117,112]] ++ [(Z2 [44,32] q.cols)]) ++ [x1]) ++ [x2]) ++ [[97,115],x3]) [32] _ A6 (by ((rw [Zlq (ZdP ‹_› hgr.1) (by omega) (by omega) (by assumption : q.names[0]? = some _) (by assumption : q.names[q.names.length - 1]? = some _)]; exact Zln hk hb)))) (fun w14 G5 S19 L5=>?_)
   exact RT S19 V (congrArg Za (by ((rw [Zlq (ZdP ‹_› hgr.1) (by omega) (by omega) (by assumption : q.names[0]? = some _) (by assumption : q.names[q.names.length - 1]? = some _)]; exact Zee hk))))
  refine Z S11 (Xh.drop 3 (C1.mono j1)) ZH V V V <| Z S11 (Xh.drop 3 (C1.mono j1)) ZH V V V ?_
  have V4:=A2.bound
  refine Zm (A2.mono j2) Yb V V ?_
  refine XW q.names.length (by omega) (by have:=Zb; omega) V V V ?_
  refine WL.indexAddr (A2.mono j2) (q.names.length - 1) (by omega) Yb Zv V V V V (fun p5 x4 U4 E4=>?_)
  obtain ⟨D4,C5,R9⟩:=E4
  obtain ⟨rfl,Y9⟩:=R9
  refine Z S11 C5 Zv V V V ?_
  refine WL.buildSlice _ [(0,[Za [97,115]]),(1,[Za x4])] [Za [97,115],Za x4] S11 XI V V V V (fun z hz=>by match z,hz with | [z0,z1],_=>rfl) (fun b7 w15 N7 S20=>?_)
  refine WL.push (m:=([[97,115],x4] : List (List UInt8))) XI V V V R4 S20 1 V 0 _ _ _ _ _ V ⟨[Za [97,115]],_,V,⟨V,(by simp [reach])⟩,⟨[Za x4],_,V,⟨V,Y9⟩,V⟩⟩ V (by have:=Zb; simp only [List.length_append,List.length_map,List.length_take,List.length_cons,List.length_nil]; omega) (by have:=Zb; simp only [List.length_append,List.length_map,List.length_take,List.length_cons,List.length_nil]; omega) V V V (fun v10 o5 w16 R10 S21=>?_)
  have S22:=S21.tail
  obtain ⟨G6,L6,A7,S23⟩:=YX.freeze R10 S22 0 V
  refine Zl S23 ZdY V V V (ZcK S23.imm ((([[103,114,111,117,112]] ++ [(Z2 [44,32] q.cols)]) ++ [x1]) ++ [[97,115],x4]) [32] _ A7 (by ((rw [Zlr (ZdP ‹_› hgr.1) (by omega) (by omega) (by assumption : q.names[q.names.length - 1]? = some _)]; exact Zln hk hb)))) (fun w17 G7 S24 L7=>?_)
  exact RT S24 V (congrArg Za (by ((rw [Zlr (ZdP ‹_› hgr.1) (by omega) (by omega) (by assumption : q.names[q.names.length - 1]? = some _)]; exact Zee hk))))
 refine Zc1 _ [(1,[Za [99,111,117,110,116]]),(2,[Za [115,117,109]]),(3,[Za [109,105,110]]),(4,[Za [109,97,120]])] (Za []) [Za [99,111,117,110,116],Za [115,117,109],Za [109,105,110],Za [109,97,120]] S2 XI V V V V V V (Zpi (Za [99,111,117,110,116]) (Za [115,117,109]) (Za [109,105,110]) (Za [109,97,120])) (fun b8 w18 N8 S25=>?_)
 refine Z S25 (Xh.drop 12 C1) Zk V V V ?_
 obtain ⟨G9,L9,A8,S26⟩:=St.sealSl (E:=Enc.str) (by_:=16) (l:=([[],[99,111,117,110,116],[115,117,109],[109,105,110],[109,97,120]] : List (List UInt8))) S25 N8 ⟨[Za []],_,V,⟨V,(by simp [reach])⟩,⟨[Za [99,111,117,110,116]],_,V,⟨V,(by simp [reach])⟩,⟨[Za [115,117,109]],_,V,⟨V,(by simp [reach])⟩,⟨[Za [109,105,110]],_,V,⟨V,(by simp [reach])⟩,⟨[Za [109,97,120]],_,V,⟨V,(by simp [reach])⟩,V⟩⟩⟩⟩⟩ V (by simp [reach]) (by simp [reach])
 refine WL.indexAddr A8 ((q.fn).toNat) (by (simp only [List.length_cons,List.length_nil]; omega)) Yb Zv V V V (congrArg (Value.int .i64) (Int.toNat_of_nonneg (by omega)).symm) (fun p6 x5 U5 E5=>?_)
 obtain ⟨D5,C6,R11⟩:=E5
 obtain ⟨rfl,Yr⟩:=R11
 refine Z S26 C6 Zv V V V ?_
 refine WL.buildSlice _ [(0,[Za x5])] [Za x5] S26 XI V V V V (fun z hz=>by match z,hz with | [z0],_=>rfl) (fun b9 w19 N9 S27=>?_)
 have R12 : YX Enc.str 16 9 G9 (.slice (some ⟨b1,0,none⟩) 1 1) [[103,114,111,117,112]] (some (b1,9,[Za [103,114,111,117,112]])):=YX.ofNew ⟨[Za [103,114,111,117,112]],_,V,⟨V,(by simp [reach])⟩,V⟩ V (by simp [reach]) (by simp [reach])
 refine WL.push (m:=([x5] : List (List UInt8))) XI V V V R12 S27 1 V 0 _ _ _ _ _ V ⟨[Za x5],_,V,⟨V,Yr⟩,V⟩ V (by have:=Zb; simp only [List.length_append,List.length_map,List.length_take,List.length_cons,List.length_nil]; omega) (by have:=Zb; simp only [List.length_append,List.length_map,List.length_take,List.length_cons,List.length_nil]; omega) V V V (fun v11 o6 w20 R13 S28=>?_)
 have S29:=S28.tail
 refine Z S29 (Xh.drop 3 (C1.mono L9)) ZH V V V ?_
 have V5:=A2.bound
 refine Zm (A2.mono (L1.trans L9)) Yb V V ?_
 refine Z1 (q.names.length : Int) 1 V V V (fun h3=>?_) (fun h3=>?_)
 ·refine Z S29 (Xh.drop 3 (C1.mono L9)) ZH V V V ?_
  refine WL.indexAddr (A2.mono (L1.trans L9)) 0 (by omega) Yb Zv V V V V (fun p7 x6 U6 E6=>?_)
  obtain ⟨D6,C7,R14⟩:=E6
  obtain ⟨rfl,YH⟩:=R14
  refine Z S29 C7 Zv V V V ?_
  refine WL.buildSlice _ [(0,[Za x6])] [Za x6] S29 XI V V V V (fun z hz=>by match z,hz with | [z0],_=>rfl) (fun b10 w21 N10 S30=>?_)
  refine WL.push (m:=([x6] : List (List UInt8))) XI V V V R13 S30 1 V 0 _ _ _ _ _ V ⟨[Za x6],_,V,⟨V,YH⟩,V⟩ V (by have:=Zb; simp only [List.length_append,List.length_map,List.length_take,List.length_cons,List.length_nil]; omega) (by have:=Zb; simp only [List.length_append,List.length_map,List.length_take,List.length_cons,List.length_nil]; omega) V V V (fun v12 o7 w22 R15 S31=>?_)
  have S32:=S31.tail
  refine Z S32 (Xh.drop 3 (C1.mono L9)) ZH V V V <| Z S32 (Xh.drop 3 (C1.mono L9)) ZH V V V ?_
  have V6:=A2.bound
  refine Zm (A2.mono (L1.trans L9)) Yb V V ?_
  refine XW q.names.length (by omega) (by have:=Zb; omega) V V V ?_
  refine WL.indexAddr (A2.mono (L1.trans L9)) (q.names.length - 1) (by omega) Yb Zv V V V V (fun p8 x7 U7 E7=>?_)
  obtain ⟨D7,C8,R16⟩:=E7
  obtain ⟨rfl,YJ⟩:=R16
  refine Z S32 C8 Zv V V V ?_
  refine WL.buildSlice _ [(0,[Za [97,115]]),(1,[Za x7])] [Za [97,115],Za x7] S32 XI V V V V (fun z hz=>by match z,hz with | [z0,z1],_=>rfl) (fun b11 w23 N11 S33=>?_)
  refine WL.push (m:=([[97,115],x7] : List (List UInt8))) XI V V V R15 S33 1 V 0 _ _ _ _ _ V ⟨[Za [97,115]],_,V,⟨V,(by simp [reach])⟩,⟨[Za x7],_,V,⟨V,YJ⟩,V⟩⟩ V (by have:=Zb; simp only [List.length_append,List.length_map,List.length_take,List.length_cons,List.length_nil]; omega) (by have:=Zb; simp only [List.length_append,List.length_map,List.length_take,List.length_cons,List.length_nil]; omega) V V V (fun v13 o8 w24 R17 S34=>?_)
  have S35:=S34.tail
  obtain ⟨G10,L10,A9,S36⟩:=YX.freeze R17 S35 0 V
  refine Zl S36 ZdY V V V (ZcK S36.imm ((([[103,114,111,117,112]] ++ [x5]) ++ [x6]) ++ [[97,115],x7]) [32] _ A9 (by ((rw [Zls (ZdP ‹_› hgr.1) (by omega) (by omega) (by assumption : q.names[0]? = some _) (by assumption : q.names[q.names.length - 1]? = some _)]; exact Zln hk hb)))) (fun w25 G11 S37 L11=>?_)
  exact RT S37 V (congrArg Za (by ((rw [Zls (ZdP ‹_› hgr.1) (by omega) (by omega) (by assumption : q.names[0]? = some _) (by assumption : q.names[q.names.length - 1]? = some _)]; exact Zee hk))))
 refine Z S29 (Xh.drop 3 (C1.mono L9)) ZH V V V <| Z S29 (Xh.drop 3 (C1.mono L9)) ZH V V V ?_
 have V7:=A2.bound
 refine Zm (A2.mono (L1.trans L9)) Yb V V ?_
 refine XW q.names.length (by omega) (by have:=Zb; omega) V V V ?_
 refine WL.indexAddr (A2.mono (L1.trans L9)) (q.names.length - 1) (by omega) Yb Zv V V V V (fun p9 x9 U8 E8=>?_)
 obtain ⟨D8,C9,R18⟩:=E8
 obtain ⟨rfl,YO⟩:=R18
 refine Z S29 C9 Zv V V V ?_
 refine WL.buildSlice _ [(0,[Za [97,115]]),(1,[Za x9])] [Za [97,115],Za x9] S29 XI V V V V (fun z hz=>by match z,hz with | [z0,z1],_=>rfl) (fun b12 w26 N12 S38=>?_)
 refine WL.push (m:=([[97,115],x9] : List (List UInt8))) XI V V V R13 S38 1 V 0 _ _ _ _ _ V ⟨[Za [97,115]],_,V,⟨V,(by simp [reach])⟩,⟨[Za x9],_,V,⟨V,YO⟩,V⟩⟩ V (by have:=Zb; simp only [List.length_append,List.length_map,List.length_take,List.length_cons,List.length_nil]; omega) (by have:=Zb; simp only [List.length_append,List.length_map,List.length_take,List.length_cons,List.length_nil]; omega) V V V (fun v14 o9 w27 R19 S39=>?_)
 have S40:=S39.tail
 obtain ⟨G12,L12,A10,S41⟩:=YX.freeze R19 S40 0 V
 refine Zl S41 ZdY V V V (ZcK S41.imm (([[103,114,111,117,112]] ++ [x5]) ++ [[97,115],x9]) [32] _ A10 (by ((rw [Zlt (ZdP ‹_› hgr.1) (by omega) (by omega) (by assumption : q.names[q.names.length - 1]? = some _)]; exact Zln hk hb)))) (fun w28 G13 S42 L13=>?_)
 exact RT S42 V (congrArg Za (by ((rw [Zlt (ZdP ‹_› hgr.1) (by omega) (by omega) (by assumption : q.names[q.names.length - 1]? = some _)]; exact Zee hk))))
theorem Zx5 {G : GH} {w : World} (hG : G.In w) (n : Nat) (q : Query) (cq : List Value) (hcq : QryE.rep G q cq) (hn : Xx q n) (ht : TxN n q) (hk : q.kind = 10) (hb : (Ya q).length ≤ 100000) : CL Tryz.prog (nat_lit 186) #[.agg cq.toArray] [] w G fun _ _ r=>r = Za (Ya q):=by
 refine Zg ft [] Tryz.func186 V V ?_
 have hj:=ZsD hk hb
 have hrl0:=ht.rl hk
 have hS:=St.start (X:=[]) hG
 obtain ⟨v1,v2,v3,v4,rfl,B1,B2,A1,A2,Z7,Z5,ZD,hb6,hb7,ZV,A3,hb9,ZI,ZJ,ZL,A4⟩:=Zs hcq
 refine Z4 (QV q v1 v2 v3 v4) _ hS V V V (fun p1 w1 G1 L1 M1 C1 S1=>?_)
 have S3:=S1.pad
 refine LP.go ft [] (fun m ρ1 w1=>∃ (k1 : Nat),∃ (v5 : Value) (o1 : OB),∃ (G2 : GH),m = 13 - k1 ∧ G1.le G2 ∧ St w [] G G2 [o1] w1 ∧ YX Enc.str 16 9 G2 v5 (XA q.rel k1) o1 ∧ FR ρ1 [(1,ZP p1),(3,v5),(5,U (k1 : Int))] ∧ k1 ≤ 13) _ ⟨0,(Zf),none,G1,V,(G1.le_refl),S3,(YX.cast (YX.nil Enc.str 16 9 G1) (by rfl)),⟨V,V,V,trivial⟩,(by omega)⟩ ?_
 rintro m ρ1 w2 ⟨k1,v5,o1,G2,rfl,L2,S2,R1,F9,f1⟩
 refine F9.set ?_
 clear F9
 have hrl:=@Zlo k1 q.rel
 refine Zp (k1 : Int) 13 V V V (fun h1=>?_) (fun h1=>?_)
 ·refine Z S2 (Xh.drop 11 (C1.mono L2)) Zk V V V ?_
  refine Zmo q.rel (k1 : Int) (by omega) (by omega) V V V ?_
  refine Zmp (q.rel / 2 ^ (k1 : Int).toNat) 1 V V V ?_
  refine Ze (Go.bits .and .i64 (q.rel / 2 ^ (k1 : Int).toNat) 1) 1 V V V (fun h2=>?_) (fun h2=>?_)
  ·refine Zl S2 Zz1 V V V (ZuG S2.imm (k1 : Int) (by omega)) (fun w3 G3 S4 L3=>?_)
   refine WL.buildSlice _ [(0,[Za (Zah (k1 : Int))])] [Za (Zah (k1 : Int))] S4 XI V V V V (fun z hz=>by match z,hz with | [z0],_=>rfl) (fun b1 w4 N1 S5=>?_)
   refine WL.push (m:=([(Zah (k1 : Int))] : List (List UInt8))) XI V V V (R1.mono L3) S5 1 V 0 _ _ _ _ _ V ⟨[Za (Zah (k1 : Int))],_,V,⟨V,(Nat.le_trans (Zll (k1 : Int)) (by decide))⟩,V⟩ V (by have:=Zb; simp only [List.length_append,List.length_map,List.length_take,List.length_cons,List.length_nil]; omega) (by have:=Zb; simp only [List.length_append,List.length_map,List.length_take,List.length_cons,List.length_nil]; omega) V V V (fun v6 o2 w5 R2 S6=>?_)
   have S7:=S6.tail
   refine Zq k1 (by have:=Zb; omega) V V V ?_
   exact BK.mk' _ ⟨k1 + 1,v6,o2,G3,V,(L2.trans L3),S7,(YX.cast R2 (by (exact Zpv (by omega) ‹_›))),⟨V,V,V,trivial⟩,(by omega)⟩ (show 13 - (k1 + 1) < 13 - k1 by omega)
  refine Zq k1 (by have:=Zb; omega) V V V ?_
  exact BK.mk' _ ⟨k1 + 1,v5,o1,G2,V,L2,S2,(YX.cast R1 (by (exact Zpw (by omega) ‹_›))),⟨V,V,V,trivial⟩,(by omega)⟩ (show 13 - (k1 + 1) < 13 - k1 by omega)
 have hrr:=YX.cast (l':=XA q.rel 13) R1 (by rw [show (k1 : Nat) = 13 by omega])
 obtain ⟨G4,L4,A5,S8⟩:=YX.freeze hrr S2 0 V
 refine Zl S8 ZdY V V V (ZcK S8.imm (XA q.rel 13) [44,32] _ A5 hj) (fun w6 G5 S9 L5=>?_)
 refine Zh [114,101,108,97,116,101,32] (Z2 [44,32] (XA q.rel 13)) (by have:=(show (Z2 [44,32] (XA q.rel 13)).length ≤ 1000000 by assumption); (try simp only [Zo]); have:=Zb; omega) V V V ?_
 exact RT S9 V (congrArg Za (by exact ZjQ hk))
end Go.Civ
