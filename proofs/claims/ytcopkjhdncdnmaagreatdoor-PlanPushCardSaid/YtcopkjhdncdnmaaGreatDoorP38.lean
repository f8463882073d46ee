/- Lemmas. -/
import Derived.Test.YtcopkjhdncdnmaaGreatDoorP31
set_option linter.unusedVariables false
set_option linter.unusedSimpArgs false
set_option maxRecDepth 100000
set_option maxHeartbeats 4000000
namespace Go.Civ
open Go.Proofs
theorem Zcm {G : GH} {w : World} (hG : G.In w) (l : List Col) (nm : List UInt8) (vl : Value) (hvl : Sl ColE 24 G vl l) : CL Tryz.prog (nat_lit 214) #[vl,Zb nm] [] w G fun _ _ r=>r = U (Zx l nm):=by
 refine Zo ft [] Tryz.func214 V V ?_
 have hS:=St.start (X:=[]) hG
 refine LP.go ft [] (fun m ρ1 w1=>∃ (k1 : Nat),∃ (G1 : GH),m = l.length - k1 ∧ G.le G1 ∧ St w [] G G1 [] w1 ∧ FR ρ1 [(0,vl),(1,Zb nm),(5,U (k1 : Int))] ∧ k1 ≤ l.length ∧ ∀ j,j < k1 → ∀ x,l[j]? = some x → decide (x.name = nm) = false) _ ⟨0,G,V,(G.le_refl),hS,⟨V,V,V,trivial⟩,(by omega),(by intro j hj; omega)⟩ ?_
 rintro m ρ1 w1 ⟨k1,G1,rfl,L1,S1,F9,f1,f2⟩
 refine F9.set ?_
 clear F9
 have V1:=hvl.bound
 refine Zl (hvl.mono L1) Yx V V ?_
 refine Z1 (k1 : Int) (l.length : Int) V V V (fun h1=>?_) (fun h1=>?_)
 ·refine WL.indexAddr (hvl.mono L1) k1 (by omega) Yx Ym V V V V (fun p1 x1 U1 E1=>?_)
  obtain ⟨D1,C1,R1⟩:=E1
  obtain ⟨rfl,B1,B2⟩:=Yh R1
  refine Za S1 (YC.drop 0 C1) Zy V V V <| Zn .eql V x1.name nm V V V ?_
  refine WL.split (fun h0=>?_) (fun h0=>?_)
  ·have h2 : x1.name = nm:=by simpa [SCmp.b] using h0
   clear h0
   exact RI S1 V (by exact (Zf7 ‹_› ‹_› ‹_›).symm)
  have h2 : x1.name ≠ nm:=by simpa [SCmp.b] using h0
  clear h0
  refine ZC k1 (by have:=Zm; omega) V V V ?_
  exact BK.mk' _ ⟨k1 + 1,G1,V,L1,S1,⟨V,V,V,trivial⟩,(by omega),(by exact Yz ‹_› ‹_› (decide_eq_false ‹_›))⟩ (show l.length - (k1 + 1) < l.length - k1 by omega)
 exact RI S1 V (by exact (Zjy (k:=k1) (by omega) ‹_›).symm)
theorem ZgN {G : GH} {w : World} (hG : G.In w) (l : List Col) (ns : List (List UInt8)) (vl : Value) (hvl : Sl ColE 24 G vl l) (vn : Value) (hvn : Sl Enc.str 16 G vn ns) (hns : ns.length ≤ 1000) : CL Tryz.prog (nat_lit 213) #[vl,vn] [] w G fun G' _ r=>∃ r0 r1,r = .tuple #[r0,r1] ∧ Sl ColE 24 G' r0 ((Yl l ns).1) ∧ r1 = .bool (Xk l ns):=by
 refine Zo ft [] Tryz.func213 V V ?_
 have hS:=St.start (X:=[]) hG
 have S2:=hS.pad
 refine LP.go ft [] (fun m ρ1 w1=>∃ (k1 : Nat),∃ (v1 : Value) (o1 : OB),∃ (G1 : GH),m = ns.length - k1 ∧ G.le G1 ∧ St w [] G G1 [o1] w1 ∧ YH ColE 24 48 G1 v1 ((ns.take k1).map (Xv l)) o1 ∧ FR ρ1 [(0,vl),(1,vn),(6,v1),(7,U (k1 : Int))] ∧ k1 ≤ ns.length ∧ ∀ j,j < k1 → ∀ s,ns[j]? = some s → 0 ≤ Zx l s) _ ⟨0,(Zh),none,G,V,(G.le_refl),S2,(YH.cast (YH.nil ColE 24 48 G) (by simp)),(Yt V),(by omega),(by intro j hj; omega)⟩ ?_
 rintro m ρ1 w1 ⟨k1,v1,o1,G1,rfl,L1,S1,R1,F9,f1,f2⟩
 refine F9.set ?_
 clear F9
 have hlt9:=List.length_take_le' k1 ns
 have V1:=hvn.bound
 refine Zl (hvn.mono L1) Yo V V ?_
 refine Z1 (k1 : Int) (ns.length : Int) V V V (fun h1=>?_) (fun h1=>?_)
 ·refine WL.indexAddr (hvn.mono L1) k1 (by omega) Yo Zy V V V V (fun p1 x1 U1 E1=>?_)
  obtain ⟨D1,C1,R2⟩:=E1
  obtain ⟨rfl,B1⟩:=R2
  refine Za S1 C1 Zy V V V ?_
  refine Zw S1 QY V V V (Zcm S1.imm l x1 _ (hvl.mono L1)) (fun w2 G2 S3 L2=>?_)
  refine Z1 (Zx l x1) 0 V V V (fun h2=>?_) (fun h2=>?_)
  ·exact RT S3 V ⟨_,_,V,(Sl.cast (Sl.nil ColE 24 G2) (by exact (Zn3 ‹_› ‹_›).1)),(congrArg Value.bool (by exact (Zn3 ‹_› ‹_›).2))⟩
  refine WL.indexAddr (hvl.mono (L1.trans L2)) (((Zx l x1)).toNat) (by exact Zaz (by omega)) Yx Ym V V V (congrArg (Value.int .i64) (Int.toNat_of_nonneg (by omega)).symm) (fun p2 x2 U2 E2=>?_)
  obtain ⟨D2,C2,R3⟩:=E2
  obtain ⟨rfl,B2,B3⟩:=Yh R3
  refine Zc S3 C2 [Zb x2.name,U x2.kind] Ym V V V V V ?_
  refine WL.buildSlice _ [(0,[Zb x2.name,U x2.kind])] [Zb x2.name,U x2.kind] S3 YF V V V V (fun z hz=>by match z,hz with | [z0,z1],_=>rfl) (fun b1 w3 N1 S4=>?_)
  refine WL.push (m:=([x2] : List Col)) YF V V V (R1.mono L2) S4 1 V 0 _ _ _ _ _ V ⟨[Zb x2.name,U x2.kind],_,V,(Xz x2 B2 B3),V⟩ V (by have:=Zm; simp only [List.length_append,List.length_map,List.length_take,List.length_cons,List.length_nil]; omega) (by have:=Zm; simp only [List.length_append,List.length_map,List.length_take,List.length_cons,List.length_nil]; omega) V V V (fun v2 o2 w4 R4 S5=>?_)
  have S6:=S5.tail
  refine ZC k1 (by have:=Zm; omega) V V V ?_
  exact BK.mk' _ ⟨k1 + 1,v2,o2,G2,V,(L1.trans L2),S6,(YH.cast R4 (by (exact (Zkd ‹_› (ZB (by omega) ‹_›)).symm))),(Yt V),(by omega),(by exact Yz ‹_› ‹_› (by omega))⟩ (show ns.length - (k1 + 1) < ns.length - k1 by omega)
 obtain ⟨G3,L3,A1,S7⟩:=YH.freeze R1 S1 0 V
 exact RT S7 V ⟨_,_,V,(Sl.cast A1 (by exact (Zn4 ‹_› (by omega)).1)),(congrArg Value.bool (by exact (Zn4 ‹_› (by omega)).2))⟩
theorem ZfM {G : GH} {w : World} (hG : G.In w) (l : List Col) (vl : Value) (hvl : Sl ColE 24 G vl l) : CL Tryz.prog (nat_lit 215) #[vl] [] w G fun _ _ r=>r = .bool (Zbk l):=by
 refine Zo ft [] Tryz.func215 V V ?_
 have hS:=St.start (X:=[]) hG
 refine LP.go ft [] (fun m ρ1 w1=>∃ (k1 : Nat),∃ (G1 : GH),m = l.length - k1 ∧ G.le G1 ∧ St w [] G G1 [] w1 ∧ FR ρ1 [(0,vl),(3,U (k1 : Int))] ∧ k1 ≤ l.length ∧ ∀ j,j < k1 → ∀ (c : Col),l[j]? = some c → Zx l c.name = (j : Int)) _ ⟨0,G,V,(G.le_refl),hS,⟨V,V,trivial⟩,(by omega),(by intro j hj; omega)⟩ ?_
 rintro m ρ1 w1 ⟨k1,G1,rfl,L1,S1,F9,f1,f2⟩
 refine F9.set ?_
 clear F9
 have V1:=hvl.bound
 refine Zl (hvl.mono L1) Yx V V ?_
 refine Z1 (k1 : Int) (l.length : Int) V V V (fun h1=>?_) (fun h1=>?_)
 ·refine WL.indexAddr (hvl.mono L1) k1 (by omega) Yx Ym V V V V (fun p1 x1 U1 E1=>?_)
  obtain ⟨D1,C1,R1⟩:=E1
  obtain ⟨rfl,B1,B2⟩:=Yh R1
  refine Za S1 (YC.drop 0 C1) Zy V V V ?_
  refine Zw S1 QY V V V (Zcm S1.imm l x1.name _ (hvl.mono L1)) (fun w2 G2 S2 L2=>?_)
  refine Z8 (Zx l x1.name) (k1 : Int) V V V (fun h2=>?_) (fun h2=>?_)
  ·exact RB S2 V (by exact (Zkf ‹_› (by omega)).symm)
  refine ZC k1 (by have:=Zm; omega) V V V ?_
  exact BK.mk' _ ⟨k1 + 1,G2,V,(L1.trans L2),S2,⟨V,V,trivial⟩,(by omega),(by exact Za9 (P:=fun j (c : Col)=>Zx l c.name = (j : Int)) ‹_› ‹_› (by omega))⟩ (show l.length - (k1 + 1) < l.length - k1 by omega)
 exact RB S1 V (by exact (Zgi ‹_› (by omega)).symm)
theorem Q7 {G : GH} {w : World} (hG : G.In w) (l : List Col) (vl : Value) (hvl : Sl ColE 24 G vl l) : CL Tryz.prog (nat_lit 216) #[vl] [] w G fun G' _ r=>∃ r0 r1,r = .tuple #[r0,r1] ∧ Sl ColE 24 G' r0 ((Qa l).1) ∧ r1 = U ((Qa l).2):=by
 refine Zo ft [] Tryz.func216 V V ?_
 have hS:=St.start (X:=[]) hG
 have V1:=hvl.bound
 refine Zl hvl Yx V V ?_
 refine Yk (l.length : Int) 8 V V V (fun h1=>?_) (fun h1=>?_)
 ·exact RT hS V ⟨_,_,V,(Sl.cast (Sl.nil ColE 24 G) (by exact (Zh3 (by omega)).1)),(congrArg (Value.int .i64) (by exact (Zh3 (by omega)).2))⟩
 exact RT hS V ⟨_,_,V,(Sl.cast hvl (by exact (Zgg (by omega)).1)),(congrArg (Value.int .i64) (by exact (Zgg (by omega)).2))⟩
theorem ZeC {G : GH} {w : World} (hG : G.In w) (a b : List Col) (va : Value) (hva : Sl ColE 24 G va a) (vb : Value) (hvb : Sl ColE 24 G vb b) : CL Tryz.prog (nat_lit 217) #[va,vb] [] w G fun _ _ r=>r = .bool (decide (a = b)):=by
 refine Zo ft [] Tryz.func217 V V ?_
 have hS:=St.start (X:=[]) hG
 have V1:=hva.bound
 refine Zl hva Yx V V ?_
 have V2:=hvb.bound
 refine Zl hvb Yx V V ?_
 refine Z8 (a.length : Int) (b.length : Int) V V V (fun h1=>?_) (fun h1=>?_)
 ·exact RB hS V (by rw [← Zbf]; exact (ZfY (by omega)).symm)
 refine LP.go ft [] (fun m ρ1 w1=>∃ (k1 : Nat),∃ (G1 : GH),m = a.length - k1 ∧ G.le G1 ∧ St w [] G G1 [] w1 ∧ FR ρ1 [(0,va),(1,vb),(5,U (k1 : Int))] ∧ k1 ≤ a.length ∧ ∀ j,j < k1 → ∀ x y,a[j]? = some x → b[j]? = some y → decide (x = y) = true) _ ⟨0,G,V,(G.le_refl),hS,⟨V,V,V,trivial⟩,(by omega),(by intro j hj; omega)⟩ ?_
 rintro m ρ1 w1 ⟨k1,G1,rfl,L1,S1,F9,f1,f2⟩
 refine F9.set ?_
 clear F9
 have V3:=hva.bound
 refine Zl (hva.mono L1) Yx V V ?_
 refine Z1 (k1 : Int) (a.length : Int) V V V (fun h2=>?_) (fun h2=>?_)
 ·obtain ⟨p1,x1,U1,E1,W1⟩:=Sl.at (hva.mono L1) k1 (by omega)
  obtain ⟨D1,C1,R1⟩:=E1
  obtain ⟨rfl,B1,B2⟩:=Yh R1
  obtain ⟨p2,x2,U2,E2,W2⟩:=Sl.at (hvb.mono L1) k1 (by omega)
  obtain ⟨D2,C2,R2⟩:=E2
  obtain ⟨rfl,B3,B4⟩:=Yh R2
  rcases Classical.em (x1.name = x2.name) with h3 | h3
  ·obtain ⟨p3,x3,U3,E3,W3⟩:=Sl.at (hva.mono L1) k1 (by omega)
   obtain rfl : x1 = x3:=Option.some.inj (U1.symm.trans U3)
   obtain ⟨D3,C3,R3⟩:=E3
   obtain ⟨rfl,B5,B6⟩:=Yh R3
   obtain ⟨p4,x4,U4,E4,W4⟩:=Sl.at (hvb.mono L1) k1 (by omega)
   obtain rfl : x2 = x4:=Option.some.inj (U2.symm.trans U4)
   obtain ⟨D4,C4,R4⟩:=E4
   obtain ⟨rfl,B7,ZK⟩:=Yh R4
   rcases Cmp.dec .neq x1.kind x2.kind with ⟨hb9,q1⟩ | ⟨hb9,q1⟩
   ·have h4 : x1.kind ≠ x2.kind:=q1
    clear q1
    refine dr [] [(19,Zu p1),(21,Zb x1.name),(24,Zu p2),(26,Zb x2.name),(27, .bool false),(31,Zu p3),(33,U x1.kind),(36,Zu p4),(38,U x2.kind),(39, .bool true)] S1 ⟨fun _=>Zf k1 W1 Yx Ym V V V V <| nu V V,fun _ hSw=>Za hSw (YC.drop 0 C1) Zy V V V <| nu V V,fun _=>Zf k1 W2 Yx Ym V V V V <| nu V V,fun _ hSw=>Za hSw (YC.drop 0 C2) Zy V V V <| nu V V,fun _=>YG .neq V x1.name x2.name false (by simp [h3,SCmp.b]) V V V <| nu V V,fun _=>Zf k1 W3 Yx Ym V V V V <| nu V V,fun _ hSw=>Za hSw (YC.drop 1 C3) Z3 V V V <| nu V V,fun _=>Zf k1 W4 Yx Ym V V V V <| nu V V,fun _ hSw=>Za hSw (YC.drop 1 C4) Z3 V V V <| nu V V,fun _=>WL.cmpV .neq V .i64 x1.kind x2.kind _ hb9 V V V <| nu V V,trivial⟩ (fun w2 S2=>?_)
    exact RB S2 V (by rw [← Zbf]; exact (Zf5 (f:=fun (x y : Col)=>decide (x = y)) ‹_› ‹_› (by first | exact Zlm ‹_› | exact Zln ‹_›)).symm)
   have h4 : x1.kind = x2.kind:=q1
   clear q1
   refine dr [] [(19,Zu p1),(21,Zb x1.name),(24,Zu p2),(26,Zb x2.name),(27, .bool false),(31,Zu p3),(33,U x1.kind),(36,Zu p4),(38,U x2.kind),(39, .bool false)] S1 ⟨fun _=>Zf k1 W1 Yx Ym V V V V <| nu V V,fun _ hSw=>Za hSw (YC.drop 0 C1) Zy V V V <| nu V V,fun _=>Zf k1 W2 Yx Ym V V V V <| nu V V,fun _ hSw=>Za hSw (YC.drop 0 C2) Zy V V V <| nu V V,fun _=>YG .neq V x1.name x2.name false (by simp [h3,SCmp.b]) V V V <| nu V V,fun _=>Zf k1 W3 Yx Ym V V V V <| nu V V,fun _ hSw=>Za hSw (YC.drop 1 C3) Z3 V V V <| nu V V,fun _=>Zf k1 W4 Yx Ym V V V V <| nu V V,fun _ hSw=>Za hSw (YC.drop 1 C4) Z3 V V V <| nu V V,fun _=>WL.cmpV .neq V .i64 x1.kind x2.kind _ hb9 V V V <| nu V V,trivial⟩ (fun w3 S3=>?_)
   refine ZC k1 (by have:=Zm; omega) V V V ?_
   exact BK.mk' _ ⟨k1 + 1,G1,V,L1,S3,⟨V,V,V,trivial⟩,(by omega),(by exact ZgD ‹_› ‹_› ‹_› (Zr1 ‹_› ‹_›))⟩ (show a.length - (k1 + 1) < a.length - k1 by omega)
  refine dr [] [(19,Zu p1),(21,Zb x1.name),(24,Zu p2),(26,Zb x2.name),(27, .bool true)] S1 ⟨fun _=>Zf k1 W1 Yx Ym V V V V <| nu V V,fun _ hSw=>Za hSw (YC.drop 0 C1) Zy V V V <| nu V V,fun _=>Zf k1 W2 Yx Ym V V V V <| nu V V,fun _ hSw=>Za hSw (YC.drop 0 C2) Zy V V V <| nu V V,fun _=>YG .neq V x1.name x2.name true (by simp [h3,SCmp.b]) V V V <| nu V V,trivial⟩ (fun w4 S4=>?_)
  exact RB S4 V (by rw [← Zbf]; exact (Zf5 (f:=fun (x y : Col)=>decide (x = y)) ‹_› ‹_› (by first | exact Zlm ‹_› | exact Zln ‹_›)).symm)
 exact RB S1 V (by rw [← Zbf]; exact (ZhO (by omega) ‹_› (by omega)).symm)
theorem Zn5 {G : GH} {w : World} (hG : G.In w) (q : Query) (l : List Col) (cq : List Value) (hcq : QryE.rep G q cq) (vl : Value) (hvl : Sl ColE 24 G vl l) (hns : q.cols.length ≤ 1000) (hnm : (q.names.length : Int) = if q.fn = 1 then 1 else 2) : CL Tryz.prog (nat_lit 218) #[.agg cq.toArray,vl] [] w G fun G' _ r=>∃ r0 r1,r = .tuple #[r0,r1] ∧ Sl ColE 24 G' r0 ((XF q l).1) ∧ r1 = U ((XF q l).2):=by
 refine Zo ft [] Tryz.func218 V V ?_
 have N1 : 1 ≤ q.names.length:=by split at hnm <;> omega
 have hsl9:=ZhW (l:=l) (ns:=q.cols)
 have hS:=St.start (X:=[]) hG
 have T1:=Ze hcq
 obtain ⟨v1,v2,v3,v4,rfl,B1,B2,A1,A2,B3,B4,B5,B6,B7,ZK,A3,hb9,Z9,Z7,Z6,A4⟩:=T1
 refine ZL [U q.kind,Zb q.table,v1,v2,U q.cond.kind,Zb q.cond.col,Zb q.cond.oth,U q.cond.v.k,U q.cond.v.n,Zb q.cond.v.s,v3,U q.rel,U q.fn,U q.span.a,U q.span.b,v4] _ hS V V V (fun p1 w1 G1 L1 M1 C1 S1=>?_)
 refine Za S1 (YC.drop 2 C1) ZU V V V ?_
 refine Zv S1 Zch V V V (ZgN S1.imm l q.cols _ (hvl.mono L1) _ (A1.mono L1) ‹_›) ?_
 rintro w2 G2 _ ⟨r2,_,rfl,A5,rfl⟩ S2 L2
 refine ZqE (fun (h1 : (Xk l q.cols) = true)=>?_) (fun (h1 : (Xk l q.cols) = false)=>?_)
 ·refine ZqB (d:=14) (congrArg (fun b9=>Value.tuple #[r2, .bool b9]) h1) ?_
  refine Za S2 (YC.drop 3 (C1.mono L2)) ZU V V V <| Za S2 (YC.drop 3 (C1.mono L2)) ZU V V V ?_
  have V1:=A2.bound
  have j1:=(L1.trans L2)
  refine Zl (A2.mono j1) Yo V V ?_
  refine ZeL q.names.length (by omega) (by have:=Zm; omega) V V V ?_
  refine WL.indexAddr (A2.mono j1) (q.names.length - 1) (by omega) Yo Zy V V V V (fun p2 x1 U1 E1=>?_)
  obtain ⟨D1,C2,R1⟩:=E1
  obtain ⟨rfl,ZV⟩:=R1
  refine Za S2 C2 Zy V V V <| WL.build _ [(0,[Zb x1]),(1,[U 1])] [Zb x1,U 1] Ym V Zo4 V V V V ?_
  refine WL.alloc S2 Ym V V (fun b1 w3 N1 S3=>?_)
  refine ZY S3 0 [Zb x1,U 1] V V Ym V V V V V V (fun w4 S4=>?_)
  refine Za S4 (YC.drop 12 (C1.mono L2)) Z3 V V V ?_
  refine Z8 q.fn 1 V V V (fun h2=>?_) (fun h2=>?_)
  ·refine Za S4 (YC.drop 3 (C1.mono L2)) ZU V V V ?_
   refine WL.indexAddr (A2.mono j1) 0 (by omega) Yo Zy V V V V (fun p3 x2 U2 E2=>?_)
   obtain ⟨D2,C3,R2⟩:=E2
   obtain ⟨rfl,Ye⟩:=R2
   refine Za S4 C3 Zy V V V ?_
   refine Zw S4 QY V V V (Zcm S4.imm l x2 _ (hvl.mono j1)) (fun w5 G3 S5 L3=>?_)
   refine Z1 (Zx l x2) 0 V V V (fun h3=>?_) (fun h3=>?_)
   ·exact RT S5 V ⟨_,_,V,(Sl.cast (Sl.nil ColE 24 G3) (by with_reducible exact (ZiY (ZG ‹_›) ‹_› ‹_› (Zr ‹_›)).1)),(congrArg (Value.int .i64) (by with_reducible exact (ZiY (ZG ‹_›) ‹_› ‹_› (Zr ‹_›)).2))⟩
   have j2:=(L2.trans L3)
   refine Za S5 (YC.drop 12 (C1.mono j2)) Z3 V V V ?_
   refine Z8 q.fn 2 V V V (fun h4=>?_) (fun h4=>?_)
   ·refine WL.indexAddr (hvl.mono (j1.trans L3)) (((Zx l x2)).toNat) (by exact Zaz (by omega)) Yx Ym V V V (congrArg (Value.int .i64) (Int.toNat_of_nonneg (by omega)).symm) (fun p4 x3 U3 E3=>?_)
    obtain ⟨D3,C4,R3⟩:=E3
    have T2:=Yh R3
    obtain ⟨rfl,Yd,B16⟩:=T2
    refine Za S5 (YC.drop 1 C4) Z3 V V V ?_
    refine WL.store S5 0 _ _ _ 1 _ [U x3.kind] [Zb x1,U x3.kind] _ V V Z3 V (ZN V) V V V V V V (fun w6 S6=>?_)
    refine ZT S6 0 _ _ _ 0 _ V V Zy V V V ?_
    refine Zw S6 QY V V V (Zcm S6.imm ((Yl l q.cols).1) x1 _ (A5.mono L3)) (fun w7 G4 S7 L4=>?_)
    refine Y9 (Zx ((Yl l q.cols).1) x1) 0 V V V (fun h5=>?_) (fun h5=>?_)
    ·exact RT S7 V ⟨_,_,V,(Sl.cast (Sl.nil ColE 24 G4) (by with_reducible exact (ZbJ (ZG ‹_›) (by first | exact .inl ‹_› | exact .inr (by rw [Zr ‹_›]; omega)) (by omega) (Z0 ‹_› V)).1)),(congrArg (Value.int .i64) (by with_reducible exact (ZbJ (ZG ‹_›) (by first | exact .inl ‹_› | exact .inr (by rw [Zr ‹_›]; omega)) (by omega) (Z0 ‹_› V)).2))⟩
    refine Za S7 (YC.drop 12 (C1.mono (j2.trans L4))) Z3 V V V ?_
    refine Zj q.fn 2 V V V (fun h6=>?_) (fun h6=>?_)
    ·omega
    refine drT [0,2,4,5,6,7,8,9,10] [(72, .agg #[Zb x1,U x3.kind])] S7 ⟨fun _ hSw=>Zs hSw 0 _ _ _ 0 [Zb x1,U x3.kind] V V V Ym V V V <| nu V V,trivial⟩ (fun w9 S8=>?_)
    refine TG.fork 8 [0,2,4,5,6,7,8,9,10] [0,4] V V (by decide) (by decide) (TA.cons V ?_ (TA.cons V ?_ TA.nil))
    ·refine WL.buildSlice _ [] [] S8 YF V V V V (fun z hz=>by match z,hz with | [],_=>rfl) (fun b2 w10 N2 S9=>?_)
     refine ⟨fun _=>S9.tail.down S8.le (G4.le_refl),?_⟩
     refine TG.fork 7 [2,4,5,6,7,8,9,10] [2,4] V V (by decide) (by decide) (TA.cons V ?_ (TA.cons V ?_ TA.nil))
     ·have R4:=YH.empty ColE 24 48 G4 b2
      refine YV YF V V V R4 S9 0 V (A5.mono (L3.trans L4)) (by have:=Zm; simp only [List.length_append,List.length_map,List.length_take,List.length_cons,List.length_nil]; omega) (by have:=Zm; simp only [List.length_append,List.length_map,List.length_take,List.length_cons,List.length_nil]; omega) V V V (fun v5 o1 w11 R5 S10=>?_)
      refine ⟨fun _=>S10.tail.down S8.le (G4.le_refl),?_⟩
      refine TG.fork 6 [4,5,6,7,8,9,10] [4] V V (by decide) (by decide) (TA.cons V ?_ TA.nil)
      refine WL.buildSlice _ [(0,[Zb x1,U x3.kind])] [Zb x1,U x3.kind] S10 YF V V V V (fun z hz=>by match z,hz with | [z0,z1],_=>rfl) (fun b3 w12 N3 S11=>?_)
      refine ⟨fun h=>absurd h (by decide),?_⟩
      refine TG.fork 5 [5,6,7,8,9,10] [5] V V (by decide) (by decide) (TA.cons V ?_ TA.nil)
      refine WL.push (m:=([(Col.mk x1 x3.kind)] : List Col)) YF V V V R5 S11 1 V 0 _ _ _ _ _ V ⟨[Zb x1,U x3.kind],_,V,(Xz (Col.mk x1 x3.kind) ZV B16),V⟩ V (by have:=Zm; simp only [List.length_append,List.length_map,List.length_take,List.length_cons,List.length_nil]; omega) (by have:=Zm; simp only [List.length_append,List.length_map,List.length_take,List.length_cons,List.length_nil]; omega) V V V (fun v6 o2 w13 R6 S12=>?_)
      have S13:=S12.tail
      refine ⟨fun h=>absurd h (by decide),?_⟩
      refine TG.fork 4 [6,7,8,9,10] [6] V V (by decide) (by decide) (TA.cons V ?_ TA.nil)
      have T3:=YH.freeze R6 S13 0 V
      obtain ⟨G5,L5,A6,S14⟩:=T3
      refine Zv S14 Qv V V V (Q7 S14.imm (([] ++ (Yl l q.cols).1) ++ [(Col.mk x1 x3.kind)]) _ A6) ?_
      rintro w14 G6 _ ⟨r5,_,rfl,A7,rfl⟩ S15 L6
      refine ⟨fun h=>absurd h (by decide),?_⟩
      refine TG.quiet 3 [7,8,9,10] 7 V V V V V (by decide) (fun w9 K9 k9=>WL.extract _ _ V V V k9) ?_
      refine TG.quiet 2 [8,9,10] 8 V V V V V (by decide) (fun w9 K9 k9=>WL.extract _ _ V V V k9) ?_
      refine TG.quiet 1 [9,10] 9 V V V V V (by decide) (fun w9 K9 k9=>WL.assign V k9) ?_
      refine TG.quiet 0 [10] 10 V V V V V (by decide) (fun w9 K9 k9=>WL.assign V k9) ?_
      refine TG.fin V ?_
      exact RT S15 V ⟨_,_,V,(Sl.cast A7 (by (rw [List.nil_append]; first | with_reducible exact congrArg Prod.fst (YX (ZG ‹_›) ‹_› ‹_› (Z0 ‹_› V)) | with_reducible exact congrArg Prod.snd (YX (ZG ‹_›) ‹_› ‹_› (Z0 ‹_› V)) | with_reducible exact congrArg Prod.fst (YY (ZG ‹_›) (by rw [Zr ‹_›]; omega) ‹_› (Z0 ‹_› V) ‹_› (by rw [Zr ‹_›,ZB (by omega) ‹_›]; assumption)) | with_reducible exact congrArg Prod.snd (YY (ZG ‹_›) (by rw [Zr ‹_›]; omega) ‹_› (Z0 ‹_› V) ‹_› (by rw [Zr ‹_›,ZB (by omega) ‹_›]; assumption)) | with_reducible exact congrArg Prod.fst (YZ (ZG ‹_›) (by rw [Zr ‹_›]; omega) ‹_› (Z0 ‹_› V) ‹_› ‹_› (by rw [Zr ‹_›,ZB (by omega) ‹_›])) | with_reducible exact congrArg Prod.snd (YZ (ZG ‹_›) (by rw [Zr ‹_›]; omega) ‹_› (Z0 ‹_› V) ‹_› ‹_› (by rw [Zr ‹_›,ZB (by omega) ‹_›]))))),(congrArg (Value.int .i64) (by (rw [List.nil_append]; first | with_reducible exact congrArg Prod.fst (YX (ZG ‹_›) ‹_› ‹_› (Z0 ‹_› V)) | with_reducible exact congrArg Prod.snd (YX (ZG ‹_›) ‹_› ‹_› (Z0 ‹_› V)) | with_reducible exact congrArg Prod.fst (YY (ZG ‹_›) (by rw [Zr ‹_›]; omega) ‹_› (Z0 ‹_› V) ‹_› (by rw [Zr ‹_›,ZB (by omega) ‹_›]; assumption)) | with_reducible exact congrArg Prod.snd (YY (ZG ‹_›) (by rw [Zr ‹_›]; omega) ‹_› (Z0 ‹_› V) ‹_› (by rw [Zr ‹_›,ZB (by omega) ‹_›]; assumption)) | with_reducible exact congrArg Prod.fst (YZ (ZG ‹_›) (by rw [Zr ‹_›]; omega) ‹_› (Z0 ‹_› V) ‹_› ‹_› (by rw [Zr ‹_›,ZB (by omega) ‹_›])) | with_reducible exact congrArg Prod.snd (YZ (ZG ‹_›) (by rw [Zr ‹_›]; omega) ‹_› (Z0 ‹_› V) ‹_› ‹_› (by rw [Zr ‹_›,ZB (by omega) ‹_›])))))⟩
     refine WL.buildSlice _ [(0,[Zb x1,U x3.kind])] [Zb x1,U x3.kind] S9 YF V V V V (fun z hz=>by match z,hz with | [z0,z1],_=>rfl) (fun b4 w15 N4 S16=>?_)
     refine ⟨fun h=>absurd h (by decide),?_⟩
     refine TG.fork 6 [2,5,6,7,8,9,10] [2] V V (by decide) (by decide) (TA.cons V ?_ TA.nil)
     have R7:=YH.empty ColE 24 48 G4 b2
     refine YV YF V V V R7 S16 1 V (A5.mono (L3.trans L4)) (by have:=Zm; simp only [List.length_append,List.length_map,List.length_take,List.length_cons,List.length_nil]; omega) (by have:=Zm; simp only [List.length_append,List.length_map,List.length_take,List.length_cons,List.length_nil]; omega) V V V (fun v7 o3 w16 R8 S17=>?_)
     refine ⟨fun _=>S17.tail.tail.down S8.le (G4.le_refl),?_⟩
     refine TG.fork 5 [5,6,7,8,9,10] [5] V V (by decide) (by decide) (TA.cons V ?_ TA.nil)
     refine WL.push (m:=([(Col.mk x1 x3.kind)] : List Col)) YF V V V R8 S17 1 V 0 _ _ _ _ _ V ⟨[Zb x1,U x3.kind],_,V,(Xz (Col.mk x1 x3.kind) ZV B16),V⟩ V (by have:=Zm; simp only [List.length_append,List.length_map,List.length_take,List.length_cons,List.length_nil]; omega) (by have:=Zm; simp only [List.length_append,List.length_map,List.length_take,List.length_cons,List.length_nil]; omega) V V V (fun v9 o4 w17 R9 S18=>?_)
     have S19:=S18.tail
     refine ⟨fun h=>absurd h (by decide),?_⟩
     refine TG.fork 4 [6,7,8,9,10] [6] V V (by decide) (by decide) (TA.cons V ?_ TA.nil)
     have T4:=YH.freeze R9 S19 0 V
     obtain ⟨G7,L7,A8,S20⟩:=T4
     refine Zv S20 Qv V V V (Q7 S20.imm (([] ++ (Yl l q.cols).1) ++ [(Col.mk x1 x3.kind)]) _ A8) ?_
     rintro w18 G9 _ ⟨r8,_,rfl,A9,rfl⟩ S21 L9
     refine ⟨fun h=>absurd h (by decide),?_⟩
     refine TG.quiet 3 [7,8,9,10] 7 V V V V V (by decide) (fun w9 K9 k9=>WL.extract _ _ V V V k9) ?_
     refine TG.quiet 2 [8,9,10] 8 V V V V V (by decide) (fun w9 K9 k9=>WL.extract _ _ V V V k9) ?_
     refine TG.quiet 1 [9,10] 9 V V V V V (by decide) (fun w9 K9 k9=>WL.assign V k9) ?_
     refine TG.quiet 0 [10] 10 V V V V V (by decide) (fun w9 K9 k9=>WL.assign V k9) ?_
     refine TG.fin V ?_
     exact RT S21 V ⟨_,_,V,(Sl.cast A9 (by (rw [List.nil_append]; first | with_reducible exact congrArg Prod.fst (YX (ZG ‹_›) ‹_› ‹_› (Z0 ‹_› V)) | with_reducible exact congrArg Prod.snd (YX (ZG ‹_›) ‹_› ‹_› (Z0 ‹_› V)) | with_reducible exact congrArg Prod.fst (YY (ZG ‹_›) (by rw [Zr ‹_›]; omega) ‹_› (Z0 ‹_› V) ‹_› (by rw [Zr ‹_›,ZB (by omega) ‹_›]; assumption)) | with_reducible exact congrArg Prod.snd (YY (ZG ‹_›) (by rw [Zr ‹_›]; omega) ‹_› (Z0 ‹_› V) ‹_› (by rw [Zr ‹_›,ZB (by omega) ‹_›]; assumption)) | with_reducible exact congrArg Prod.fst (YZ (ZG ‹_›) (by rw [Zr ‹_›]; omega) ‹_› (Z0 ‹_› V) ‹_› ‹_› (by rw [Zr ‹_›,ZB (by omega) ‹_›])) | with_reducible exact congrArg Prod.snd (YZ (ZG ‹_›) (by rw [Zr ‹_›]; omega) ‹_› (Z0 ‹_› V) ‹_› ‹_› (by rw [Zr ‹_›,ZB (by omega) ‹_›]))))),(congrArg (Value.int .i64) (by (rw [List.nil_append]; first | with_reducible exact congrArg Prod.fst (YX (ZG ‹_›) ‹_› ‹_› (Z0 ‹_› V)) | with_reducible exact congrArg Prod.snd (YX (ZG ‹_›) ‹_› ‹_› (Z0 ‹_› V)) | with_reducible exact congrArg Prod.fst (YY (ZG ‹_›) (by rw [Zr ‹_›]; omega) ‹_› (Z0 ‹_› V) ‹_› (by rw [Zr ‹_›,ZB (by omega) ‹_›]; assumption)) | with_reducible exact congrArg Prod.snd (YY (ZG ‹_›) (by rw [Zr ‹_›]; omega) ‹_› (Z0 ‹_› V) ‹_› (by rw [Zr ‹_›,ZB (by omega) ‹_›]; assumption)) | with_reducible exact congrArg Prod.fst (YZ (ZG ‹_›) (by rw [Zr ‹_›]; omega) ‹_› (Z0 ‹_› V) ‹_› ‹_› (by rw [Zr ‹_›,ZB (by omega) ‹_›])) | with_reducible exact congrArg Prod.snd (YZ (ZG ‹_›) (by rw [Zr ‹_›]; omega) ‹_› (Z0 ‹_› V) ‹_› ‹_› (by rw [Zr ‹_›,ZB (by omega) ‹_›])))))⟩
    refine WL.buildSlice _ [(0,[Zb x1,U x3.kind])] [Zb x1,U x3.kind] S8 YF V V V V (fun z hz=>by match z,hz with | [z0,z1],_=>rfl) (fun b5 w19 N5 S22=>?_)
    refine ⟨fun h=>absurd h (by decide),?_⟩
    refine TG.fork 7 [0,2,5,6,7,8,9,10] [0] V V (by decide) (by decide) (TA.cons V ?_ TA.nil)
    refine WL.buildSlice _ [] [] S22 YF V V V V (fun z hz=>by match z,hz with | [],_=>rfl) (fun b6 w20 N6 S23=>?_)
    refine ⟨fun _=>S23.tail.tail.down S8.le (G4.le_refl),?_⟩
    refine TG.fork 6 [2,5,6,7,8,9,10] [2] V V (by decide) (by decide) (TA.cons V ?_ TA.nil)
    have R10:=YH.empty ColE 24 48 G4 b6
    refine YV YF V V V R10 S23 0 V (A5.mono (L3.trans L4)) (by have:=Zm; simp only [List.length_append,List.length_map,List.length_take,List.length_cons,List.length_nil]; omega) (by have:=Zm; simp only [List.length_append,List.length_map,List.length_take,List.length_cons,List.length_nil]; omega) V V V (fun v10 o5 w21 R11 S24=>?_)
    refine ⟨fun _=>S24.tail.tail.down S8.le (G4.le_refl),?_⟩
    refine TG.fork 5 [5,6,7,8,9,10] [5] V V (by decide) (by decide) (TA.cons V ?_ TA.nil)
    refine WL.push (m:=([(Col.mk x1 x3.kind)] : List Col)) YF V V V R11 S24 0 V 1 _ _ _ _ _ V ⟨[Zb x1,U x3.kind],_,V,(Xz (Col.mk x1 x3.kind) ZV B16),V⟩ V (by have:=Zm; simp only [List.length_append,List.length_map,List.length_take,List.length_cons,List.length_nil]; omega) (by have:=Zm; simp only [List.length_append,List.length_map,List.length_take,List.length_cons,List.length_nil]; omega) V V V (fun v11 o6 w22 R12 S25=>?_)
    refine ⟨fun h=>absurd h (by decide),?_⟩
    refine TG.fork 4 [6,7,8,9,10] [6] V V (by decide) (by decide) (TA.cons V ?_ TA.nil)
    have T5:=YH.freeze R12 S25 0 V
    obtain ⟨G10,L10,A10,S26⟩:=T5
    refine Zv S26 Qv V V V (Q7 S26.imm (([] ++ (Yl l q.cols).1) ++ [(Col.mk x1 x3.kind)]) _ A10) ?_
    rintro w23 G11 _ ⟨r11,_,rfl,A11,rfl⟩ S27 L11
    refine ⟨fun h=>absurd h (by decide),?_⟩
    refine TG.quiet 3 [7,8,9,10] 7 V V V V V (by decide) (fun w9 K9 k9=>WL.extract _ _ V V V k9) ?_
    refine TG.quiet 2 [8,9,10] 8 V V V V V (by decide) (fun w9 K9 k9=>WL.extract _ _ V V V k9) ?_
    refine TG.quiet 1 [9,10] 9 V V V V V (by decide) (fun w9 K9 k9=>WL.assign V k9) ?_
    refine TG.quiet 0 [10] 10 V V V V V (by decide) (fun w9 K9 k9=>WL.assign V k9) ?_
    refine TG.fin V ?_
    exact RT S27 V ⟨_,_,V,(Sl.cast A11 (by (rw [List.nil_append]; first | with_reducible exact congrArg Prod.fst (YX (ZG ‹_›) ‹_› ‹_› (Z0 ‹_› V)) | with_reducible exact congrArg Prod.snd (YX (ZG ‹_›) ‹_› ‹_› (Z0 ‹_› V)) | with_reducible exact congrArg Prod.fst (YY (ZG ‹_›) (by rw [Zr ‹_›]; omega) ‹_› (Z0 ‹_› V) ‹_› (by rw [Zr ‹_›,ZB (by omega) ‹_›]; assumption)) | with_reducible exact congrArg Prod.snd (YY (ZG ‹_›) (by rw [Zr ‹_›]; omega) ‹_› (Z0 ‹_› V) ‹_› (by rw [Zr ‹_›,ZB (by omega) ‹_›]; assumption)) | with_reducible exact congrArg Prod.fst (YZ (ZG ‹_›) (by rw [Zr ‹_›]; omega) ‹_› (Z0 ‹_› V) ‹_› ‹_› (by rw [Zr ‹_›,ZB (by omega) ‹_›])) | with_reducible exact congrArg Prod.snd (YZ (ZG ‹_›) (by rw [Zr ‹_›]; omega) ‹_› (Z0 ‹_› V) ‹_› ‹_› (by rw [Zr ‹_›,ZB (by omega) ‹_›]))))),(congrArg (Value.int .i64) (by (rw [List.nil_append]; first | with_reducible exact congrArg Prod.fst (YX (ZG ‹_›) ‹_› ‹_› (Z0 ‹_› V)) | with_reducible exact congrArg Prod.snd (YX (ZG ‹_›) ‹_› ‹_› (Z0 ‹_› V)) | with_reducible exact congrArg Prod.fst (YY (ZG ‹_›) (by rw [Zr ‹_›]; omega) ‹_› (Z0 ‹_› V) ‹_› (by rw [Zr ‹_›,ZB (by omega) ‹_›]; assumption)) | with_reducible exact congrArg Prod.snd (YY (ZG ‹_›) (by rw [Zr ‹_›]; omega) ‹_› (Z0 ‹_› V) ‹_› (by rw [Zr ‹_›,ZB (by omega) ‹_›]; assumption)) | with_reducible exact congrArg Prod.fst (YZ (ZG ‹_›) (by rw [Zr ‹_›]; omega) ‹_› (Z0 ‹_› V) ‹_› ‹_› (by rw [Zr ‹_›,ZB (by omega) ‹_›])) | with_reducible exact congrArg Prod.snd (YZ (ZG ‹_›) (by rw [Zr ‹_›]; omega) ‹_› (Z0 ‹_› V) ‹_› ‹_› (by rw [Zr ‹_›,ZB (by omega) ‹_›])))))⟩
   refine ZT S5 0 _ _ _ 0 _ V V Zy V V V ?_
   refine Zw S5 QY V V V (Zcm S5.imm ((Yl l q.cols).1) x1 _ (A5.mono L3)) (fun w24 G12 S28 L12=>?_)
   refine Y9 (Zx ((Yl l q.cols).1) x1) 0 V V V (fun h7=>?_) (fun h7=>?_)
   ·exact RT S28 V ⟨_,_,V,(Sl.cast (Sl.nil ColE 24 G12) (by with_reducible exact (ZbJ (ZG ‹_›) (by first | exact .inl ‹_› | exact .inr (by rw [Zr ‹_›]; omega)) (by omega) (Z0 ‹_› V)).1)),(congrArg (Value.int .i64) (by with_reducible exact (ZbJ (ZG ‹_›) (by first | exact .inl ‹_› | exact .inr (by rw [Zr ‹_›]; omega)) (by omega) (Z0 ‹_› V)).2))⟩
   refine Za S28 (YC.drop 12 (C1.mono (j2.trans L12))) Z3 V V V ?_
   refine Zj q.fn 2 V V V (fun h8=>?_) (fun h8=>?_)
   ·refine Za S28 (YC.drop 3 (C1.mono (j2.trans L12))) ZU V V V ?_
    have j3:=((j1.trans L3).trans L12)
    refine WL.indexAddr (A2.mono j3) 0 (by omega) Yo Zy V V V V (fun p5 x4 U4 E4=>?_)
    have T6 : x2 = x4:=Option.some.inj (U2.symm.trans U4)
    obtain rfl:=T6
    obtain ⟨D4,C5,R13⟩:=E4
    obtain ⟨rfl,B17⟩:=R13
    refine Za S28 C5 Zy V V V ?_
    refine Zw S28 QY V V V (Zcm S28.imm l x2 _ (hvl.mono j3)) (fun w25 G13 S29 L13=>?_)
    refine WL.indexAddr (hvl.mono (j3.trans L13)) (((Zx l x2)).toNat) (by exact Zaz (by omega)) Yx Ym V V V (congrArg (Value.int .i64) (Int.toNat_of_nonneg (by omega)).symm) (fun p6 x5 U5 E5=>?_)
    obtain ⟨D5,C6,R14⟩:=E5
    have T7:=Yh R14
    obtain ⟨rfl,Yf,B19⟩:=T7
    refine Za S29 (YC.drop 1 C6) Z3 V V V ?_
    refine Z8 x5.kind 1 V V V (fun h9=>?_) (fun h9=>?_)
    ·exact RT S29 V ⟨_,_,V,(Sl.cast (Sl.nil ColE 24 G13) (by with_reducible exact (ZiZ (ZG ‹_›) (by rw [Zr ‹_›]; omega) (by omega) (Z0 ‹_› V) ‹_› (by rw [Zr ‹_›,ZB (by omega) ‹_›]; assumption)).1)),(congrArg (Value.int .i64) (by with_reducible exact (ZiZ (ZG ‹_›) (by rw [Zr ‹_›]; omega) (by omega) (Z0 ‹_› V) ‹_› (by rw [Zr ‹_›,ZB (by omega) ‹_›]; assumption)).2))⟩
    refine drT [0,2,4,5,6,7,8,9,10] [(72, .agg #[Zb x1,U 1])] S29 ⟨fun _ hSw=>Zs hSw 0 _ _ _ 0 [Zb x1,U 1] V V V Ym V V V <| nu V V,trivial⟩ (fun w26 S30=>?_)
    refine TG.fork 8 [0,2,4,5,6,7,8,9,10] [0,4] V V (by decide) (by decide) (TA.cons V ?_ (TA.cons V ?_ TA.nil))
    ·refine WL.buildSlice _ [] [] S30 YF V V V V (fun z hz=>by match z,hz with | [],_=>rfl) (fun b7 w27 N7 S31=>?_)
     refine ⟨fun _=>S31.tail.down S30.le (G13.le_refl),?_⟩
     refine TG.fork 7 [2,4,5,6,7,8,9,10] [2,4] V V (by decide) (by decide) (TA.cons V ?_ (TA.cons V ?_ TA.nil))
     ·have R15:=YH.empty ColE 24 48 G13 b7
      refine YV YF V V V R15 S31 0 V (A5.mono ((L3.trans L12).trans L13)) (by have:=Zm; simp only [List.length_append,List.length_map,List.length_take,List.length_cons,List.length_nil]; omega) (by have:=Zm; simp only [List.length_append,List.length_map,List.length_take,List.length_cons,List.length_nil]; omega) V V V (fun v12 o7 w28 R16 S32=>?_)
      refine ⟨fun _=>S32.tail.down S30.le (G13.le_refl),?_⟩
      refine TG.fork 6 [4,5,6,7,8,9,10] [4] V V (by decide) (by decide) (TA.cons V ?_ TA.nil)
      refine WL.buildSlice _ [(0,[Zb x1,U 1])] [Zb x1,U 1] S32 YF V V V V (fun z hz=>by match z,hz with | [z0,z1],_=>rfl) (fun b8 w29 N8 S33=>?_)
      refine ⟨fun h=>absurd h (by decide),?_⟩
      refine TG.fork 5 [5,6,7,8,9,10] [5] V V (by decide) (by decide) (TA.cons V ?_ TA.nil)
      refine WL.push (m:=([(Col.mk x1 1)] : List Col)) YF V V V R16 S33 1 V 0 _ _ _ _ _ V ⟨[Zb x1,U 1],_,V,(Xz (Col.mk x1 1) ZV (show ZM 1 from by constructor <;> decide)),V⟩ V (by have:=Zm; simp only [List.length_append,List.length_map,List.length_take,List.length_cons,List.length_nil]; omega) (by have:=Zm; simp only [List.length_append,List.length_map,List.length_take,List.length_cons,List.length_nil]; omega) V V V (fun v13 o8 w30 R17 S34=>?_)
      have S35:=S34.tail
      refine ⟨fun h=>absurd h (by decide),?_⟩
      refine TG.fork 4 [6,7,8,9,10] [6] V V (by decide) (by decide) (TA.cons V ?_ TA.nil)
      have T8:=YH.freeze R17 S35 0 V
      obtain ⟨G14,L14,A12,S36⟩:=T8
      refine Zv S36 Qv V V V (Q7 S36.imm (([] ++ (Yl l q.cols).1) ++ [(Col.mk x1 1)]) _ A12) ?_
      rintro w31 G15 _ ⟨r14,_,rfl,A13,rfl⟩ S37 L15
      refine ⟨fun h=>absurd h (by decide),?_⟩
      refine TG.quiet 3 [7,8,9,10] 7 V V V V V (by decide) (fun w9 K9 k9=>WL.extract _ _ V V V k9) ?_
      refine TG.quiet 2 [8,9,10] 8 V V V V V (by decide) (fun w9 K9 k9=>WL.extract _ _ V V V k9) ?_
      refine TG.quiet 1 [9,10] 9 V V V V V (by decide) (fun w9 K9 k9=>WL.assign V k9) ?_
      refine TG.quiet 0 [10] 10 V V V V V (by decide) (fun w9 K9 k9=>WL.assign V k9) ?_
      refine TG.fin V ?_
      exact RT S37 V ⟨_,_,V,(Sl.cast A13 (by (rw [List.nil_append]; first | with_reducible exact congrArg Prod.fst (YX (ZG ‹_›) ‹_› ‹_› (Z0 ‹_› V)) | with_reducible exact congrArg Prod.snd (YX (ZG ‹_›) ‹_› ‹_› (Z0 ‹_› V)) | with_reducible exact congrArg Prod.fst (YY (ZG ‹_›) (by rw [Zr ‹_›]; omega) ‹_› (Z0 ‹_› V) ‹_› (by rw [Zr ‹_›,ZB (by omega) ‹_›]; assumption)) | with_reducible exact congrArg Prod.snd (YY (ZG ‹_›) (by rw [Zr ‹_›]; omega) ‹_› (Z0 ‹_› V) ‹_› (by rw [Zr ‹_›,ZB (by omega) ‹_›]; assumption)) | with_reducible exact congrArg Prod.fst (YZ (ZG ‹_›) (by rw [Zr ‹_›]; omega) ‹_› (Z0 ‹_› V) ‹_› ‹_› (by rw [Zr ‹_›,ZB (by omega) ‹_›])) | with_reducible exact congrArg Prod.snd (YZ (ZG ‹_›) (by rw [Zr ‹_›]; omega) ‹_› (Z0 ‹_› V) ‹_› ‹_› (by rw [Zr ‹_›,ZB (by omega) ‹_›]))))),(congrArg (Value.int .i64) (by (rw [List.nil_append]; first | with_reducible exact congrArg Prod.fst (YX (ZG ‹_›) ‹_› ‹_› (Z0 ‹_› V)) | with_reducible exact congrArg Prod.snd (YX (ZG ‹_›) ‹_› ‹_› (Z0 ‹_› V)) | with_reducible exact congrArg Prod.fst (YY (ZG ‹_›) (by rw [Zr ‹_›]; omega) ‹_› (Z0 ‹_› V) ‹_› (by rw [Zr ‹_›,ZB (by omega) ‹_›]; assumption)) | with_reducible exact congrArg Prod.snd (YY (ZG ‹_›) (by rw [Zr ‹_›]; omega) ‹_› (Z0 ‹_› V) ‹_› (by rw [Zr ‹_›,ZB (by omega) ‹_›]; assumption)) | with_reducible exact congrArg Prod.fst (YZ (ZG ‹_›) (by rw [Zr ‹_›]; omega) ‹_› (Z0 ‹_› V) ‹_› ‹_› (by rw [Zr ‹_›,ZB (by omega) ‹_›])) | with_reducible exact congrArg Prod.snd (YZ (ZG ‹_›) (by rw [Zr ‹_›]; omega) ‹_› (Z0 ‹_› V) ‹_› ‹_› (by rw [Zr ‹_›,ZB (by omega) ‹_›])))))⟩
     refine WL.buildSlice _ [(0,[Zb x1,U 1])] [Zb x1,U 1] S31 YF V V V V (fun z hz=>by match z,hz with | [z0,z1],_=>rfl) (fun b9 w32 N9 S38=>?_)
     refine ⟨fun h=>absurd h (by decide),?_⟩
     refine TG.fork 6 [2,5,6,7,8,9,10] [2] V V (by decide) (by decide) (TA.cons V ?_ TA.nil)
     have R18:=YH.empty ColE 24 48 G13 b7
     refine YV YF V V V R18 S38 1 V (A5.mono ((L3.trans L12).trans L13)) (by have:=Zm; simp only [List.length_append,List.length_map,List.length_take,List.length_cons,List.length_nil]; omega) (by have:=Zm; simp only [List.length_append,List.length_map,List.length_take,List.length_cons,List.length_nil]; omega) V V V (fun v14 o9 w33 R19 S39=>?_)
     refine ⟨fun _=>S39.tail.tail.down S30.le (G13.le_refl),?_⟩
     refine TG.fork 5 [5,6,7,8,9,10] [5] V V (by decide) (by decide) (TA.cons V ?_ TA.nil)
     refine WL.push (m:=([(Col.mk x1 1)] : List Col)) YF V V V R19 S39 1 V 0 _ _ _ _ _ V ⟨[Zb x1,U 1],_,V,(Xz (Col.mk x1 1) ZV (show ZM 1 from by constructor <;> decide)),V⟩ V (by have:=Zm; simp only [List.length_append,List.length_map,List.length_take,List.length_cons,List.length_nil]; omega) (by have:=Zm; simp only [List.length_append,List.length_map,List.length_take,List.length_cons,List.length_nil]; omega) V V V (fun v15 o10 w34 R20 S40=>?_)
     have S41:=S40.tail
     refine ⟨fun h=>absurd h (by decide),?_⟩
     refine TG.fork 4 [6,7,8,9,10] [6] V V (by decide) (by decide) (TA.cons V ?_ TA.nil)
     have T9:=YH.freeze R20 S41 0 V
     obtain ⟨G16,L16,A14,S42⟩:=T9
     refine Zv S42 Qv V V V (Q7 S42.imm (([] ++ (Yl l q.cols).1) ++ [(Col.mk x1 1)]) _ A14) ?_
     rintro w35 G17 _ ⟨r17,_,rfl,A15,rfl⟩ S43 L17
     refine ⟨fun h=>absurd h (by decide),?_⟩
     refine TG.quiet 3 [7,8,9,10] 7 V V V V V (by decide) (fun w9 K9 k9=>WL.extract _ _ V V V k9) ?_
     refine TG.quiet 2 [8,9,10] 8 V V V V V (by decide) (fun w9 K9 k9=>WL.extract _ _ V V V k9) ?_
     refine TG.quiet 1 [9,10] 9 V V V V V (by decide) (fun w9 K9 k9=>WL.assign V k9) ?_
     refine TG.quiet 0 [10] 10 V V V V V (by decide) (fun w9 K9 k9=>WL.assign V k9) ?_
     refine TG.fin V ?_
     exact RT S43 V ⟨_,_,V,(Sl.cast A15 (by (rw [List.nil_append]; first | with_reducible exact congrArg Prod.fst (YX (ZG ‹_›) ‹_› ‹_› (Z0 ‹_› V)) | with_reducible exact congrArg Prod.snd (YX (ZG ‹_›) ‹_› ‹_› (Z0 ‹_› V)) | with_reducible exact congrArg Prod.fst (YY (ZG ‹_›) (by rw [Zr ‹_›]; omega) ‹_› (Z0 ‹_› V) ‹_› (by rw [Zr ‹_›,ZB (by omega) ‹_›]; assumption)) | with_reducible exact congrArg Prod.snd (YY (ZG ‹_›) (by rw [Zr ‹_›]; omega) ‹_› (Z0 ‹_› V) ‹_› (by rw [Zr ‹_›,ZB (by omega) ‹_›]; assumption)) | with_reducible exact congrArg Prod.fst (YZ (ZG ‹_›) (by rw [Zr ‹_›]; omega) ‹_› (Z0 ‹_› V) ‹_› ‹_› (by rw [Zr ‹_›,ZB (by omega) ‹_›])) | with_reducible exact congrArg Prod.snd (YZ (ZG ‹_›) (by rw [Zr ‹_›]; omega) ‹_› (Z0 ‹_› V) ‹_› ‹_› (by rw [Zr ‹_›,ZB (by omega) ‹_›]))))),(congrArg (Value.int .i64) (by (rw [List.nil_append]; first | with_reducible exact congrArg Prod.fst (YX (ZG ‹_›) ‹_› ‹_› (Z0 ‹_› V)) | with_reducible exact congrArg Prod.snd (YX (ZG ‹_›) ‹_› ‹_› (Z0 ‹_› V)) | with_reducible exact congrArg Prod.fst (YY (ZG ‹_›) (by rw [Zr ‹_›]; omega) ‹_› (Z0 ‹_› V) ‹_› (by rw [Zr ‹_›,ZB (by omega) ‹_›]; assumption)) | with_reducible exact congrArg Prod.snd (YY (ZG ‹_›) (by rw [Zr ‹_›]; omega) ‹_› (Z0 ‹_› V) ‹_› (by rw [Zr ‹_›,ZB (by omega) ‹_›]; assumption)) | with_reducible exact congrArg Prod.fst (YZ (ZG ‹_›) (by rw [Zr ‹_›]; omega) ‹_› (Z0 ‹_› V) ‹_› ‹_› (by rw [Zr ‹_›,ZB (by omega) ‹_›])) | with_reducible exact congrArg Prod.snd (YZ (ZG ‹_›) (by rw [Zr ‹_›]; omega) ‹_› (Z0 ‹_› V) ‹_› ‹_› (by rw [Zr ‹_›,ZB (by omega) ‹_›])))))⟩
    refine WL.buildSlice _ [(0,[Zb x1,U 1])] [Zb x1,U 1] S30 YF V V V V (fun z hz=>by match z,hz with | [z0,z1],_=>rfl) (fun b10 w36 N10 S44=>?_)
    refine ⟨fun h=>absurd h (by decide),?_⟩
    refine TG.fork 7 [0,2,5,6,7,8,9,10] [0] V V (by decide) (by decide) (TA.cons V ?_ TA.nil)
    refine WL.buildSlice _ [] [] S44 YF V V V V (fun z hz=>by match z,hz with | [],_=>rfl) (fun b11 w37 N11 S45=>?_)
    refine ⟨fun _=>S45.tail.tail.down S30.le (G13.le_refl),?_⟩
    refine TG.fork 6 [2,5,6,7,8,9,10] [2] V V (by decide) (by decide) (TA.cons V ?_ TA.nil)
    have R21:=YH.empty ColE 24 48 G13 b11
    refine YV YF V V V R21 S45 0 V (A5.mono ((L3.trans L12).trans L13)) (by have:=Zm; simp only [List.length_append,List.length_map,List.length_take,List.length_cons,List.length_nil]; omega) (by have:=Zm; simp only [List.length_append,List.length_map,List.length_take,List.length_cons,List.length_nil]; omega) V V V (fun v16 o11 w38 R22 S46=>?_)
    refine ⟨fun _=>S46.tail.tail.down S30.le (G13.le_refl),?_⟩
    refine TG.fork 5 [5,6,7,8,9,10] [5] V V (by decide) (by decide) (TA.cons V ?_ TA.nil)
    refine WL.push (m:=([(Col.mk x1 1)] : List Col)) YF V V V R22 S46 0 V 1 _ _ _ _ _ V ⟨[Zb x1,U 1],_,V,(Xz (Col.mk x1 1) ZV (show ZM 1 from by constructor <;> decide)),V⟩ V (by have:=Zm; simp only [List.length_append,List.length_map,List.length_take,List.length_cons,List.length_nil]; omega) (by have:=Zm; simp only [List.length_append,List.length_map,List.length_take,List.length_cons,List.length_nil]; omega) V V V (fun v17 o12 w39 R23 S47=>?_)
    refine ⟨fun h=>absurd h (by decide),?_⟩
    refine TG.fork 4 [6,7,8,9,10] [6] V V (by decide) (by decide) (TA.cons V ?_ TA.nil)
    have T10:=YH.freeze R23 S47 0 V
    obtain ⟨G18,L18,A16,S48⟩:=T10
    refine Zv S48 Qv V V V (Q7 S48.imm (([] ++ (Yl l q.cols).1) ++ [(Col.mk x1 1)]) _ A16) ?_
    rintro w40 G19 _ ⟨r20,_,rfl,A17,rfl⟩ S49 L19
    refine ⟨fun h=>absurd h (by decide),?_⟩
    refine TG.quiet 3 [7,8,9,10] 7 V V V V V (by decide) (fun w9 K9 k9=>WL.extract _ _ V V V k9) ?_
    refine TG.quiet 2 [8,9,10] 8 V V V V V (by decide) (fun w9 K9 k9=>WL.extract _ _ V V V k9) ?_
    refine TG.quiet 1 [9,10] 9 V V V V V (by decide) (fun w9 K9 k9=>WL.assign V k9) ?_
    refine TG.quiet 0 [10] 10 V V V V V (by decide) (fun w9 K9 k9=>WL.assign V k9) ?_
    refine TG.fin V ?_
    exact RT S49 V ⟨_,_,V,(Sl.cast A17 (by (rw [List.nil_append]; first | with_reducible exact congrArg Prod.fst (YX (ZG ‹_›) ‹_› ‹_› (Z0 ‹_› V)) | with_reducible exact congrArg Prod.snd (YX (ZG ‹_›) ‹_› ‹_› (Z0 ‹_› V)) | with_reducible exact congrArg Prod.fst (YY (ZG ‹_›) (by rw [Zr ‹_›]; omega) ‹_› (Z0 ‹_› V) ‹_› (by rw [Zr ‹_›,ZB (by omega) ‹_›]; assumption)) | with_reducible exact congrArg Prod.snd (YY (ZG ‹_›) (by rw [Zr ‹_›]; omega) ‹_› (Z0 ‹_› V) ‹_› (by rw [Zr ‹_›,ZB (by omega) ‹_›]; assumption)) | with_reducible exact congrArg Prod.fst (YZ (ZG ‹_›) (by rw [Zr ‹_›]; omega) ‹_› (Z0 ‹_› V) ‹_› ‹_› (by rw [Zr ‹_›,ZB (by omega) ‹_›])) | with_reducible exact congrArg Prod.snd (YZ (ZG ‹_›) (by rw [Zr ‹_›]; omega) ‹_› (Z0 ‹_› V) ‹_› ‹_› (by rw [Zr ‹_›,ZB (by omega) ‹_›]))))),(congrArg (Value.int .i64) (by (rw [List.nil_append]; first | with_reducible exact congrArg Prod.fst (YX (ZG ‹_›) ‹_› ‹_› (Z0 ‹_› V)) | with_reducible exact congrArg Prod.snd (YX (ZG ‹_›) ‹_› ‹_› (Z0 ‹_› V)) | with_reducible exact congrArg Prod.fst (YY (ZG ‹_›) (by rw [Zr ‹_›]; omega) ‹_› (Z0 ‹_› V) ‹_› (by rw [Zr ‹_›,ZB (by omega) ‹_›]; assumption)) | with_reducible exact congrArg Prod.snd (YY (ZG ‹_›) (by rw [Zr ‹_›]; omega) ‹_› (Z0 ‹_› V) ‹_› (by rw [Zr ‹_›,ZB (by omega) ‹_›]; assumption)) | with_reducible exact congrArg Prod.fst (YZ (ZG ‹_›) (by rw [Zr ‹_›]; omega) ‹_› (Z0 ‹_› V) ‹_› ‹_› (by rw [Zr ‹_›,ZB (by omega) ‹_›])) | with_reducible exact congrArg Prod.snd (YZ (ZG ‹_›) (by rw [Zr ‹_›]; omega) ‹_› (Z0 ‹_› V) ‹_› ‹_› (by rw [Zr ‹_›,ZB (by omega) ‹_›])))))⟩
   omega
  refine ZT S4 0 _ _ _ 0 _ V V Zy V V V ?_
  refine Zw S4 QY V V V (Zcm S4.imm ((Yl l q.cols).1) x1 _ A5) (fun w41 G20 S50 L20=>?_)
  refine Y9 (Zx ((Yl l q.cols).1) x1) 0 V V V (fun h10=>?_) (fun h10=>?_)
  ·exact RT S50 V ⟨_,_,V,(Sl.cast (Sl.nil ColE 24 G20) (by with_reducible exact (ZbJ (ZG ‹_›) (by first | exact .inl ‹_› | exact .inr (by rw [Zr ‹_›]; omega)) (by omega) (Z0 ‹_› V)).1)),(congrArg (Value.int .i64) (by with_reducible exact (ZbJ (ZG ‹_›) (by first | exact .inl ‹_› | exact .inr (by rw [Zr ‹_›]; omega)) (by omega) (Z0 ‹_› V)).2))⟩
  refine Za S50 (YC.drop 12 (C1.mono (L2.trans L20))) Z3 V V V ?_
  refine Zj q.fn 2 V V V (fun h11=>?_) (fun h11=>?_)
  ·omega
  refine drT [0,2,4,5,6,7,8,9,10] [(72, .agg #[Zb x1,U 1])] S50 ⟨fun _ hSw=>Zs hSw 0 _ _ _ 0 [Zb x1,U 1] V V V Ym V V V <| nu V V,trivial⟩ (fun w42 S51=>?_)
  refine TG.fork 8 [0,2,4,5,6,7,8,9,10] [0,4] V V (by decide) (by decide) (TA.cons V ?_ (TA.cons V ?_ TA.nil))
  ·refine WL.buildSlice _ [] [] S51 YF V V V V (fun z hz=>by match z,hz with | [],_=>rfl) (fun b12 w43 N12 S52=>?_)
   refine ⟨fun _=>S52.tail.down S51.le (G20.le_refl),?_⟩
   refine TG.fork 7 [2,4,5,6,7,8,9,10] [2,4] V V (by decide) (by decide) (TA.cons V ?_ (TA.cons V ?_ TA.nil))
   ·have R24:=YH.empty ColE 24 48 G20 b12
    refine YV YF V V V R24 S52 0 V (A5.mono L20) (by have:=Zm; simp only [List.length_append,List.length_map,List.length_take,List.length_cons,List.length_nil]; omega) (by have:=Zm; simp only [List.length_append,List.length_map,List.length_take,List.length_cons,List.length_nil]; omega) V V V (fun v18 o13 w44 R25 S53=>?_)
    refine ⟨fun _=>S53.tail.down S51.le (G20.le_refl),?_⟩
    refine TG.fork 6 [4,5,6,7,8,9,10] [4] V V (by decide) (by decide) (TA.cons V ?_ TA.nil)
    refine WL.buildSlice _ [(0,[Zb x1,U 1])] [Zb x1,U 1] S53 YF V V V V (fun z hz=>by match z,hz with | [z0,z1],_=>rfl) (fun b13 w45 N13 S54=>?_)
    refine ⟨fun h=>absurd h (by decide),?_⟩
    refine TG.fork 5 [5,6,7,8,9,10] [5] V V (by decide) (by decide) (TA.cons V ?_ TA.nil)
    refine WL.push (m:=([(Col.mk x1 1)] : List Col)) YF V V V R25 S54 1 V 0 _ _ _ _ _ V ⟨[Zb x1,U 1],_,V,(Xz (Col.mk x1 1) ZV (show ZM 1 from by constructor <;> decide)),V⟩ V (by have:=Zm; simp only [List.length_append,List.length_map,List.length_take,List.length_cons,List.length_nil]; omega) (by have:=Zm; simp only [List.length_append,List.length_map,List.length_take,List.length_cons,List.length_nil]; omega) V V V (fun v19 o14 w46 R26 S55=>?_)
    have S56:=S55.tail
    refine ⟨fun h=>absurd h (by decide),?_⟩
    refine TG.fork 4 [6,7,8,9,10] [6] V V (by decide) (by decide) (TA.cons V ?_ TA.nil)
    have T11:=YH.freeze R26 S56 0 V
    obtain ⟨G21,L21,A18,S57⟩:=T11
    refine Zv S57 Qv V V V (Q7 S57.imm (([] ++ (Yl l q.cols).1) ++ [(Col.mk x1 1)]) _ A18) ?_
    rintro w47 G22 _ ⟨r23,_,rfl,A19,rfl⟩ S58 L22
    refine ⟨fun h=>absurd h (by decide),?_⟩
    refine TG.quiet 3 [7,8,9,10] 7 V V V V V (by decide) (fun w9 K9 k9=>WL.extract _ _ V V V k9) ?_
    refine TG.quiet 2 [8,9,10] 8 V V V V V (by decide) (fun w9 K9 k9=>WL.extract _ _ V V V k9) ?_
    refine TG.quiet 1 [9,10] 9 V V V V V (by decide) (fun w9 K9 k9=>WL.assign V k9) ?_
    refine TG.quiet 0 [10] 10 V V V V V (by decide) (fun w9 K9 k9=>WL.assign V k9) ?_
    refine TG.fin V ?_
    exact RT S58 V ⟨_,_,V,(Sl.cast A19 (by (rw [List.nil_append]; first | with_reducible exact congrArg Prod.fst (YX (ZG ‹_›) ‹_› ‹_› (Z0 ‹_› V)) | with_reducible exact congrArg Prod.snd (YX (ZG ‹_›) ‹_› ‹_› (Z0 ‹_› V)) | with_reducible exact congrArg Prod.fst (YY (ZG ‹_›) (by rw [Zr ‹_›]; omega) ‹_› (Z0 ‹_› V) ‹_› (by rw [Zr ‹_›,ZB (by omega) ‹_›]; assumption)) | with_reducible exact congrArg Prod.snd (YY (ZG ‹_›) (by rw [Zr ‹_›]; omega) ‹_› (Z0 ‹_› V) ‹_› (by rw [Zr ‹_›,ZB (by omega) ‹_›]; assumption)) | with_reducible exact congrArg Prod.fst (YZ (ZG ‹_›) (by rw [Zr ‹_›]; omega) ‹_› (Z0 ‹_› V) ‹_› ‹_› (by rw [Zr ‹_›,ZB (by omega) ‹_›])) | with_reducible exact congrArg Prod.snd (YZ (ZG ‹_›) (by rw [Zr ‹_›]; omega) ‹_› (Z0 ‹_› V) ‹_› ‹_› (by rw [Zr ‹_›,ZB (by omega) ‹_›]))))),(congrArg (Value.int .i64) (by (rw [List.nil_append]; first | with_reducible exact congrArg Prod.fst (YX (ZG ‹_›) ‹_› ‹_› (Z0 ‹_› V)) | with_reducible exact congrArg Prod.snd (YX (ZG ‹_›) ‹_› ‹_› (Z0 ‹_› V)) | with_reducible exact congrArg Prod.fst (YY (ZG ‹_›) (by rw [Zr ‹_›]; omega) ‹_› (Z0 ‹_› V) ‹_› (by rw [Zr ‹_›,ZB (by omega) ‹_›]; assumption)) | with_reducible exact congrArg Prod.snd (YY (ZG ‹_›) (by rw [Zr ‹_›]; omega) ‹_› (Z0 ‹_› V) ‹_› (by rw [Zr ‹_›,ZB (by omega) ‹_›]; assumption)) | with_reducible exact congrArg Prod.fst (YZ (ZG ‹_›) (by rw [Zr ‹_›]; omega) ‹_› (Z0 ‹_› V) ‹_› ‹_› (by rw [Zr ‹_›,ZB (by omega) ‹_›])) | with_reducible exact congrArg Prod.snd (YZ (ZG ‹_›) (by rw [Zr ‹_›]; omega) ‹_› (Z0 ‹_› V) ‹_› ‹_› (by rw [Zr ‹_›,ZB (by omega) ‹_›])))))⟩
   refine WL.buildSlice _ [(0,[Zb x1,U 1])] [Zb x1,U 1] S52 YF V V V V (fun z hz=>by match z,hz with | [z0,z1],_=>rfl) (fun b14 w48 N14 S59=>?_)
   refine ⟨fun h=>absurd h (by decide),?_⟩
   refine TG.fork 6 [2,5,6,7,8,9,10] [2] V V (by decide) (by decide) (TA.cons V ?_ TA.nil)
   have R27:=YH.empty ColE 24 48 G20 b12
   refine YV YF V V V R27 S59 1 V (A5.mono L20) (by have:=Zm; simp only [List.length_append,List.length_map,List.length_take,List.length_cons,List.length_nil]; omega) (by have:=Zm; simp only [List.length_append,List.length_map,List.length_take,List.length_cons,List.length_nil]; omega) V V V (fun v20 o15 w49 R28 S60=>?_)
   refine ⟨fun _=>S60.tail.tail.down S51.le (G20.le_refl),?_⟩
   refine TG.fork 5 [5,6,7,8,9,10] [5] V V (by decide) (by decide) (TA.cons V ?_ TA.nil)
   refine WL.push (m:=([(Col.mk x1 1)] : List Col)) YF V V V R28 S60 1 V 0 _ _ _ _ _ V ⟨[Zb x1,U 1],_,V,(Xz (Col.mk x1 1) ZV (show ZM 1 from by constructor <;> decide)),V⟩ V (by have:=Zm; simp only [List.length_append,List.length_map,List.length_take,List.length_cons,List.length_nil]; omega) (by have:=Zm; simp only [List.length_append,List.length_map,List.length_take,List.length_cons,List.length_nil]; omega) V V V (fun v21 o16 w50 R29 S61=>?_)
   have S62:=S61.tail
   refine ⟨fun h=>absurd h (by decide),?_⟩
   refine TG.fork 4 [6,7,8,9,10] [6] V V (by decide) (by decide) (TA.cons V ?_ TA.nil)
   have T12:=YH.freeze R29 S62 0 V
   obtain ⟨G23,L23,A20,S63⟩:=T12
   refine Zv S63 Qv V V V (Q7 S63.imm (([] ++ (Yl l q.cols).1) ++ [(Col.mk x1 1)]) _ A20) ?_
   rintro w51 G24 _ ⟨r26,_,rfl,A21,rfl⟩ S64 L24
   refine ⟨fun h=>absurd h (by decide),?_⟩
   refine TG.quiet 3 [7,8,9,10] 7 V V V V V (by decide) (fun w9 K9 k9=>WL.extract _ _ V V V k9) ?_
   refine TG.quiet 2 [8,9,10] 8 V V V V V (by decide) (fun w9 K9 k9=>WL.extract _ _ V V V k9) ?_
   refine TG.quiet 1 [9,10] 9 V V V V V (by decide) (fun w9 K9 k9=>WL.assign V k9) ?_
   refine TG.quiet 0 [10] 10 V V V V V (by decide) (fun w9 K9 k9=>WL.assign V k9) ?_
   refine TG.fin V ?_
   exact RT S64 V ⟨_,_,V,(Sl.cast A21 (by (rw [List.nil_append]; first | with_reducible exact congrArg Prod.fst (YX (ZG ‹_›) ‹_› ‹_› (Z0 ‹_› V)) | with_reducible exact congrArg Prod.snd (YX (ZG ‹_›) ‹_› ‹_› (Z0 ‹_› V)) | with_reducible exact congrArg Prod.fst (YY (ZG ‹_›) (by rw [Zr ‹_›]; omega) ‹_› (Z0 ‹_› V) ‹_› (by rw [Zr ‹_›,ZB (by omega) ‹_›]; assumption)) | with_reducible exact congrArg Prod.snd (YY (ZG ‹_›) (by rw [Zr ‹_›]; omega) ‹_› (Z0 ‹_› V) ‹_› (by rw [Zr ‹_›,ZB (by omega) ‹_›]; assumption)) | with_reducible exact congrArg Prod.fst (YZ (ZG ‹_›) (by rw [Zr ‹_›]; omega) ‹_› (Z0 ‹_› V) ‹_› ‹_› (by rw [Zr ‹_›,ZB (by omega) ‹_›])) | with_reducible exact congrArg Prod.snd (YZ (ZG ‹_›) (by rw [Zr ‹_›]; omega) ‹_› (Z0 ‹_› V) ‹_› ‹_› (by rw [Zr ‹_›,ZB (by omega) ‹_›]))))),(congrArg (Value.int .i64) (by (rw [List.nil_append]; first | with_reducible exact congrArg Prod.fst (YX (ZG ‹_›) ‹_› ‹_› (Z0 ‹_› V)) | with_reducible exact congrArg Prod.snd (YX (ZG ‹_›) ‹_› ‹_› (Z0 ‹_› V)) | with_reducible exact congrArg Prod.fst (YY (ZG ‹_›) (by rw [Zr ‹_›]; omega) ‹_› (Z0 ‹_› V) ‹_› (by rw [Zr ‹_›,ZB (by omega) ‹_›]; assumption)) | with_reducible exact congrArg Prod.snd (YY (ZG ‹_›) (by rw [Zr ‹_›]; omega) ‹_› (Z0 ‹_› V) ‹_› (by rw [Zr ‹_›,ZB (by omega) ‹_›]; assumption)) | with_reducible exact congrArg Prod.fst (YZ (ZG ‹_›) (by rw [Zr ‹_›]; omega) ‹_› (Z0 ‹_› V) ‹_› ‹_› (by rw [Zr ‹_›,ZB (by omega) ‹_›])) | with_reducible exact congrArg Prod.snd (YZ (ZG ‹_›) (by rw [Zr ‹_›]; omega) ‹_› (Z0 ‹_› V) ‹_› ‹_› (by rw [Zr ‹_›,ZB (by omega) ‹_›])))))⟩
  refine WL.buildSlice _ [(0,[Zb x1,U 1])] [Zb x1,U 1] S51 YF V V V V (fun z hz=>by match z,hz with | [z0,z1],_=>rfl) (fun b15 w52 N15 S65=>?_)
  refine ⟨fun h=>absurd h (by decide),?_⟩
  refine TG.fork 7 [0,2,5,6,7,8,9,10] [0] V V (by decide) (by decide) (TA.cons V ?_ TA.nil)
  refine WL.buildSlice _ [] [] S65 YF V V V V (fun z hz=>by match z,hz with | [],_=>rfl) (fun b16 w53 N16 S66=>?_)
  refine ⟨fun _=>S66.tail.tail.down S51.le (G20.le_refl),?_⟩
  refine TG.fork 6 [2,5,6,7,8,9,10] [2] V V (by decide) (by decide) (TA.cons V ?_ TA.nil)
  have R30:=YH.empty ColE 24 48 G20 b16
  refine YV YF V V V R30 S66 0 V (A5.mono L20) (by have:=Zm; simp only [List.length_append,List.length_map,List.length_take,List.length_cons,List.length_nil]; omega) (by have:=Zm; simp only [List.length_append,List.length_map,List.length_take,List.length_cons,List.length_nil]; omega) V V V (fun v22 o17 w54 R31 S67=>?_)
  refine ⟨fun _=>S67.tail.tail.down S51.le (G20.le_refl),?_⟩
  refine TG.fork 5 [5,6,7,8,9,10] [5] V V (by decide) (by decide) (TA.cons V ?_ TA.nil)
  refine WL.push (m:=([(Col.mk x1 1)] : List Col)) YF V V V R31 S67 0 V 1 _ _ _ _ _ V ⟨[Zb x1,U 1],_,V,(Xz (Col.mk x1 1) ZV (show ZM 1 from by constructor <;> decide)),V⟩ V (by have:=Zm; simp only [List.length_append,List.length_map,List.length_take,List.length_cons,List.length_nil]; omega) (by have:=Zm; simp only [List.length_append,List.length_map,List.length_take,List.length_cons,List.length_nil]; omega) V V V (fun v23 o18 w55 R32 S68=>?_)
  refine ⟨fun h=>absurd h (by decide),?_⟩
  refine TG.fork 4 [6,7,8,9,10] [6] V V (by decide) (by decide) (TA.cons V ?_ TA.nil)
  have T13:=YH.freeze R32 S68 0 V
  obtain ⟨G25,L25,A22,S69⟩:=T13
  refine Zv S69 Qv V V V (Q7 S69.imm (([] ++ (Yl l q.cols).1) ++ [(Col.mk x1 1)]) _ A22) ?_
  rintro w56 G26 _ ⟨r29,_,rfl,A23,rfl⟩ S70 L26
  refine ⟨fun h=>absurd h (by decide),?_⟩
  refine TG.quiet 3 [7,8,9,10] 7 V V V V V (by decide) (fun w9 K9 k9=>WL.extract _ _ V V V k9) ?_
  refine TG.quiet 2 [8,9,10] 8 V V V V V (by decide) (fun w9 K9 k9=>WL.extract _ _ V V V k9) ?_
  refine TG.quiet 1 [9,10] 9 V V V V V (by decide) (fun w9 K9 k9=>WL.assign V k9) ?_
  refine TG.quiet 0 [10] 10 V V V V V (by decide) (fun w9 K9 k9=>WL.assign V k9) ?_
  refine TG.fin V ?_
  exact RT S70 V ⟨_,_,V,(Sl.cast A23 (by (rw [List.nil_append]; first | with_reducible exact congrArg Prod.fst (YX (ZG ‹_›) ‹_› ‹_› (Z0 ‹_› V)) | with_reducible exact congrArg Prod.snd (YX (ZG ‹_›) ‹_› ‹_› (Z0 ‹_› V)) | with_reducible exact congrArg Prod.fst (YY (ZG ‹_›) (by rw [Zr ‹_›]; omega) ‹_› (Z0 ‹_› V) ‹_› (by rw [Zr ‹_›,ZB (by omega) ‹_›]; assumption)) | with_reducible exact congrArg Prod.snd (YY (ZG ‹_›) (by rw [Zr ‹_›]; omega) ‹_› (Z0 ‹_› V) ‹_› (by rw [Zr ‹_›,ZB (by omega) ‹_›]; assumption)) | with_reducible exact congrArg Prod.fst (YZ (ZG ‹_›) (by rw [Zr ‹_›]; omega) ‹_› (Z0 ‹_› V) ‹_› ‹_› (by rw [Zr ‹_›,ZB (by omega) ‹_›])) | with_reducible exact congrArg Prod.snd (YZ (ZG ‹_›) (by rw [Zr ‹_›]; omega) ‹_› (Z0 ‹_› V) ‹_› ‹_› (by rw [Zr ‹_›,ZB (by omega) ‹_›]))))),(congrArg (Value.int .i64) (by (rw [List.nil_append]; first | with_reducible exact congrArg Prod.fst (YX (ZG ‹_›) ‹_› ‹_› (Z0 ‹_› V)) | with_reducible exact congrArg Prod.snd (YX (ZG ‹_›) ‹_› ‹_› (Z0 ‹_› V)) | with_reducible exact congrArg Prod.fst (YY (ZG ‹_›) (by rw [Zr ‹_›]; omega) ‹_› (Z0 ‹_› V) ‹_› (by rw [Zr ‹_›,ZB (by omega) ‹_›]; assumption)) | with_reducible exact congrArg Prod.snd (YY (ZG ‹_›) (by rw [Zr ‹_›]; omega) ‹_› (Z0 ‹_› V) ‹_› (by rw [Zr ‹_›,ZB (by omega) ‹_›]; assumption)) | with_reducible exact congrArg Prod.fst (YZ (ZG ‹_›) (by rw [Zr ‹_›]; omega) ‹_› (Z0 ‹_› V) ‹_› ‹_› (by rw [Zr ‹_›,ZB (by omega) ‹_›])) | with_reducible exact congrArg Prod.snd (YZ (ZG ‹_›) (by rw [Zr ‹_›]; omega) ‹_› (Z0 ‹_› V) ‹_› ‹_› (by rw [Zr ‹_›,ZB (by omega) ‹_›])))))⟩
 refine ZqB (d:=14) (congrArg (fun b9=>Value.tuple #[r2, .bool b9]) h1) ?_
 exact RT S2 V ⟨_,_,V,(Sl.cast (Sl.nil ColE 24 G2) (by with_reducible exact (Zme ‹_›).1)),(congrArg (Value.int .i64) (by with_reducible exact (Zme ‹_›).2))⟩
end Go.Civ
