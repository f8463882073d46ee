/- Lemmas. -/
import Derived.Test.YtecneejegecmhaaGreatDoorK37
set_option linter.unusedVariables false
set_option linter.unusedSimpArgs false
set_option linter.unusedVariables false
set_option linter.unusedSimpArgs false
set_option maxRecDepth 100000
set_option maxHeartbeats 4000000
namespace Go.Civ
open Go.Proofs
theorem Zeu {G : GH} {w : World} (hG : G.In w) (u : Int) : CL Tryz.prog (nat_lit 49) #[U u] [] w G fun _ _ r=>r = U (ZT u):=by
 refine Zg ft [] Tryz.func49 V V ?_
 have hS:=St.start (X:=[]) hG
 refine Ze u 1 V V V (fun h1=>?_) (fun h1=>?_)
 ·exact RI hS V (by exact ZnF ‹_›)
 refine Ze u 5 V V V (fun h2=>?_) (fun h2=>?_)
 ·exact RI hS V (by exact Zdc (by omega))
 refine Ze u 6 V V V (fun h3=>?_) (fun h3=>?_)
 ·exact RI hS V (by exact Zdc (by omega))
 refine Ze u 7 V V V (fun h4=>?_) (fun h4=>?_)
 ·exact RI hS V (by exact Zdc (by omega))
 refine Ze u 10 V V V (fun h5=>?_) (fun h5=>?_)
 ·exact RI hS V (by exact Zdc (by omega))
 exact RI hS V (by exact ZnG (by omega) (by omega))
theorem ZgQ {G : GH} {w : World} (hG : G.In w) (u : Int) : CL Tryz.prog (nat_lit 59) #[U u] [] w G fun _ _ r=>r = U (ZT u):=by
 refine Zg ft [] Tryz.func59 V V ?_
 have hS:=St.start (X:=[]) hG
 refine Ze u 1 V V V (fun h1=>?_) (fun h1=>?_)
 ·exact RI hS V (by exact ZnF ‹_›)
 refine Ze u 5 V V V (fun h2=>?_) (fun h2=>?_)
 ·exact RI hS V (by exact Zdc (by omega))
 refine Ze u 6 V V V (fun h3=>?_) (fun h3=>?_)
 ·exact RI hS V (by exact Zdc (by omega))
 refine Ze u 7 V V V (fun h4=>?_) (fun h4=>?_)
 ·exact RI hS V (by exact Zdc (by omega))
 refine Ze u 10 V V V (fun h5=>?_) (fun h5=>?_)
 ·exact RI hS V (by exact Zdc (by omega))
 exact RI hS V (by exact ZnG (by omega) (by omega))
theorem Zx7 {G : GH} {w : World} (hG : G.In w) (s : List UInt8) : CL Tryz.prog (nat_lit 88) #[Za s] [] w G fun _ _ r=>r = .agg #[U 1,Za s,Zf,Zf,U 0,Za [],Za [],U 0,U 0,Za [],Zf,U 0,U 0,U 0,U 0,Zf]:=by
 refine Yw ft [] Tryz.func88 V V ?_
 have hS:=St.start (X:=[]) hG
 refine WL.alloc hS Zt V V (fun b1 w1 N1 S1=>?_)
 refine WL.build _ [(0,[U 1]),(1,[Za s])] [U 1,Za s,Zf,Zf,U 0,Za [],Za [],U 0,U 0,Za [],Zf,U 0,U 0,U 0,U 0,Zf] Zt V ZfZ V V V V ?_
 refine Z9 S1 0 [U 1,Za s,Zf,Zf,U 0,Za [],Za [],U 0,U 0,Za [],Zf,U 0,U 0,U 0,U 0,Zf] V V Zt V V V V V V (fun w2 S2=>?_)
 obtain ⟨G1,L1,C1,S3⟩:=S2.shutB N1
 exact Qk [.agg #[U 1,Za s,Zf,Zf,U 0,Za [],Za [],U 0,U 0,Za [],Zf,U 0,U 0,U 0,U 0,Zf]] S3 ⟨_,_,_,V,V,S3.loadC C1 Zt V V,V⟩ V
theorem ZmW {G : GH} {w : World} (hG : G.In w) (q : Query) (cq : List Value) (hcq : QryE.rep G q cq) : CL Tryz.prog (nat_lit 55) #[.agg cq.toArray] [] w G fun G' _ r=>Is QryE G' r (Ye q):=by
 refine Yw ft [] Tryz.func55 V V ?_
 have hS:=St.start (X:=[]) hG
 have T1:=Zs hcq
 obtain ⟨v1,v2,v3,v4,rfl,B1,B2,A1,A2,Z7,Z5,ZD,hb6,hb7,ZV,A3,hb9,ZI,ZJ,ZL,A4⟩:=T1
 refine WL.box (QV q v1 v2 v3 v4) _ hS V V V (fun b1 w1 N1 S1=>?_)
 refine WL.alloc S1 Zt V V (fun b2 w2 N2 S2=>?_)
 refine WL.store S2 1 _ _ _ 15 _ [Zf] (QV q v1 v2 v3 (Zf)) _ V V Yu V (ZZ V) V V V V V V (fun w3 S3=>?_)
 refine Yz S3 1 _ _ _ 0 _ V V Zk V V V ?_
 refine ZM q.kind 1 V V V (fun h1=>?_) (fun h1=>?_)
 ·refine Yz S3 1 _ _ _ 0 _ V V Zk V V V ?_
  refine X2 q.kind 10 V V V (fun h2=>?_) (fun h2=>?_)
  ·have S4:=S3.pad
   refine Yz S4 2 _ _ _ 0 _ V V Zk V V V ?_
   refine Zl S4 Zc3 V V V (Zeu S4.imm q.kind) (fun w4 G1 S5 L1=>?_)
   refine LP.go ft [] (fun m ρ1 w1=>∃ (k1 : Nat),∃ (v5 : Value) (o1 : OB),∃ (G2 : GH),m = (ZT q.kind).toNat - k1 ∧ G1.le G2 ∧ St w [] G G2 [o1,some (b2,39,[U 0,Za [],Zf,Zf,U 0,Za [],Za [],U 0,U 0,Za [],Zf,U 0,U 0,U 0,U 0,Zf]),some (b1,39,(QV q v1 v2 v3 v5))] w1 ∧ YX QryE 224 39 G2 v5 (List.replicate k1 scT) o1 ∧ FR ρ1 [(1, .pointer (some ⟨b1,0,none⟩)),(2, .pointer (some ⟨b2,0,none⟩)),(14,U (ZT q.kind)),(15,U (k1 : Int))] ∧ k1 ≤ (ZT q.kind).toNat) _ ⟨0,(Zf),none,G1,V,(G1.le_refl),S5,(YX.cast ((YX.nil QryE 224 39 G).mono L1) (by rfl)),(ZS V),(by omega)⟩ ?_
   rintro m ρ1 w5 ⟨k1,v5,o1,G2,rfl,L2,S6,R1,F9,f1⟩
   refine F9.set ?_
   clear F9
   have hob:=@Zbq q.kind
   refine Zp (k1 : Int) (ZT q.kind) V V V (fun h3=>?_) (fun h3=>?_)
   ·refine dr [(2,true),(3,true),(4,false),(6,false)] [(18,v5)] S6 ⟨fun _ hSw=>Yz hSw 2 _ _ _ 15 _ V V Yu V V V <| nu V V,trivial⟩ (fun w6 S7=>?_)
    refine Zl S7 Zhr V V V (Zx7 S7.imm [116]) (fun w7 G3 S8 L3=>?_)
    refine ⟨S8.down S7.le L3,?_⟩
    refine WL.buildSlice _ [(0,[U 1,Za [116],Zf,Zf,U 0,Za [],Za [],U 0,U 0,Za [],Zf,U 0,U 0,U 0,U 0,Zf])] [U 1,Za [116],Zf,Zf,U 0,Za [],Za [],U 0,U 0,Za [],Zf,U 0,U 0,U 0,U 0,Zf] S8 Zbb V V V V (fun z hz=>by match z,hz with | [z0,z1,z2,z3,z4,z5,z6,z7,z8,z9,z10,z11,z12,z13,z14,z15],_=>rfl) (fun b3 w9 N3 S9=>?_)
    refine ⟨S9.tail.down S7.le L3,?_⟩
    refine WL.push (m:=([(Query.mk 1 [116] [] [] (Cond.mk 0 [] [] (Val.mk 0 0 []) []) 0 0 (Span.mk 0 0) [])] : List Query)) Zbb V V V (R1.mono L3) S9 1 V 0 _ _ _ _ _ V ⟨[U 1,Za [116],Zf,Zf,U 0,Za [],Za [],U 0,U 0,Za [],Zf,U 0,U 0,U 0,U 0,Zf],_,V,(Zr (Query.mk 1 [116] [] [] (Cond.mk 0 [] [] (Val.mk 0 0 []) []) 0 0 (Span.mk 0 0) []) (show Zj 1 from by constructor <;> decide) (by simp [reach]) (Sl.nil Enc.str 16 G3) (Sl.nil Enc.str 16 G3) (show Zj 0 from by constructor <;> decide) (by simp [reach]) (by simp [reach]) (show Zj 0 from by constructor <;> decide) (show Zj 0 from by constructor <;> decide) (by simp [reach]) (Sl.nil CndE 96 G3) (show Zj 0 from by constructor <;> decide) (show Zj 0 from by constructor <;> decide) (show Zj 0 from by constructor <;> decide) (show Zj 0 from by constructor <;> decide) (Sl.nil QryE 224 G3)),V⟩ V (by have:=Zb; simp only [List.length_append,List.length_replicate,List.length_take,List.length_cons,List.length_nil]; omega) (by have:=Zb; simp only [List.length_append,List.length_replicate,List.length_take,List.length_cons,List.length_nil]; omega) V V V (fun v6 o2 w10 R2 S10=>?_)
    have S11:=S10.tail
    refine WL.store S11 2 _ _ _ 15 _ [v6] (QV q v1 v2 v3 v6) _ V R2.cells1 Yu V (ZZ V) (by simp only [YE,R2.oneC] <;> rfl) V V V V V (fun w11 S12=>?_)
    refine Zq k1 (by have:=Zb; omega) V V V ?_
    exact BK.mk' _ ⟨k1 + 1,v6,o2,G3,V,(L2.trans L3),S12,(YX.cast R2 (by (exact ZnH))),(ZS V),(by omega)⟩ (show (ZT q.kind).toNat - (k1 + 1) < (ZT q.kind).toNat - k1 by omega)
   refine Yp S6 2 _ _ _ 0 (QV q v1 v2 v3 v5) V V V Zt V V V ?_
   have j1:=(L1.trans L2)
   refine WL.store S6 1 _ _ _ 0 _ (QV q v1 v2 v3 v5) (QV q v1 v2 v3 v5) _ V V Zt V (ZZ V) (by simp only [YE,(A1.mono j1).oneC,(A2.mono j1).oneC,(A3.mono j1).oneC,R1.oneC] <;> rfl) V V V V V (fun w12 S13=>?_)
   have T2:=S13.sealAt 1 V N2
   obtain ⟨G4,L4,C1,S14⟩:=T2
   have T3:=YX.freeze (R1.mono L4) S14 0 V
   obtain ⟨G5,L5,A5,S15⟩:=T3
   have j2:=((j1.trans L4).trans L5)
   exact Qk [.agg (QV q v1 v2 v3 v5).toArray] S15 ⟨_,_,_,V,V,S15.loadC (C1.mono L5) Zt V V,V⟩ (Is.cast ⟨_,V,(Zr (Query.mk q.kind q.table q.cols q.names q.cond q.rel q.fn q.span (List.replicate k1 scT)) B1 B2 (A1.mono j2) (A2.mono j2) Z7 Z5 ZD hb6 hb7 ZV (A3.mono j2) hb9 ZI ZJ ZL A5)⟩ (by exact Zy2 (by omega) (by omega) (by omega)))
  refine Yp S3 1 _ _ _ 0 (QV q v1 v2 v3 (Zf)) V V V Zt V V V ?_
  refine WL.store S3 0 _ _ _ 0 _ (QV q v1 v2 v3 (Zf)) (QV q v1 v2 v3 (Zf)) _ V V Zt V (ZZ V) (by simp only [YE,A1.oneC,A2.oneC,A3.oneC] <;> rfl) V V V V V (fun w13 S16=>?_)
  have T4:=S16.shutB N2
  obtain ⟨G6,L6,C2,S17⟩:=T4
  exact Qk [.agg (QV q v1 v2 v3 (Zf)).toArray] S17 ⟨_,_,_,V,V,S17.loadC C2 Zt V V,V⟩ (Is.cast ⟨_,V,(Zr (Query.mk q.kind q.table q.cols q.names q.cond q.rel q.fn q.span []) B1 B2 (A1.mono L6) (A2.mono L6) Z7 Z5 ZD hb6 hb7 ZV (A3.mono L6) hb9 ZI ZJ ZL (Sl.nil QryE 224 G6))⟩ (by exact ZsO (by omega)))
 refine Yp S3 1 _ _ _ 0 (QV q v1 v2 v3 (Zf)) V V V Zt V V V ?_
 refine WL.store S3 0 _ _ _ 0 _ (QV q v1 v2 v3 (Zf)) (QV q v1 v2 v3 (Zf)) _ V V Zt V (ZZ V) (by simp only [YE,A1.oneC,A2.oneC,A3.oneC] <;> rfl) V V V V V (fun w14 S18=>?_)
 have T5:=S18.shutB N2
 obtain ⟨G7,L7,C3,S19⟩:=T5
 exact Qk [.agg (QV q v1 v2 v3 (Zf)).toArray] S19 ⟨_,_,_,V,V,S19.loadC C3 Zt V V,V⟩ (Is.cast ⟨_,V,(Zr (Query.mk q.kind q.table q.cols q.names q.cond q.rel q.fn q.span []) B1 B2 (A1.mono L7) (A2.mono L7) Z7 Z5 ZD hb6 hb7 ZV (A3.mono L7) hb9 ZI ZJ ZL (Sl.nil QryE 224 G7))⟩ (by exact ZsO (by omega)))
end Go.Civ
set_option linter.unusedVariables false
set_option linter.unusedSimpArgs false
set_option maxRecDepth 100000
set_option maxHeartbeats 4000000
namespace Go.Civ
open Go.Proofs
theorem ZgR {G : GH} {w : World} (hG : G.In w) (c : Int) : CL Tryz.prog (nat_lit 63) #[.int .u8 c] [] w G fun _ _ r=>r = .bool (YQ c):=by
 refine Zg ft [] Tryz.func63 V V ?_
 have hS:=St.start (X:=[]) hG
 refine ZM c 97 V V V (fun h1=>?_) (fun h1=>?_)
 ·refine X2 c 122 V V V (fun h2=>?_) (fun h2=>?_)
  ·exact RB hS V (by unfold YQ; simp_all [Cmp.b])
  refine ZM c 65 V V V (fun h3=>?_) (fun h3=>?_)
  ·refine Yd .leq V .u8 c 90 V V V ?_
   exact RB hS V (by unfold YQ; simp_all [Cmp.b] <;> (omega))
  exact RB hS V (by unfold YQ; simp_all [Cmp.b] <;> (omega))
 refine ZM c 65 V V V (fun h4=>?_) (fun h4=>?_)
 ·refine Yd .leq V .u8 c 90 V V V ?_
  exact RB hS V (by unfold YQ; simp_all [Cmp.b] <;> (omega))
 exact RB hS V (by unfold YQ; simp_all [Cmp.b] <;> (omega))
theorem Zof {G : GH} {w : World} (hG : G.In w) (c : Int) : CL Tryz.prog (nat_lit 64) #[.int .u8 c] [] w G fun _ _ r=>r = .bool (QE c):=by
 refine Zg ft [] Tryz.func64 V V ?_
 have hS:=St.start (X:=[]) hG
 refine ZM c 48 V V V (fun h1=>?_) (fun h1=>?_)
 ·refine Yd .leq V .u8 c 57 V V V ?_
  exact RB hS V (by unfold QE; simp_all [Cmp.b])
 exact RB hS V (by unfold QE; simp_all [Cmp.b] <;> (omega))
theorem Zqd {G : GH} {w : World} (hG : G.In w) (s : List UInt8) : CL Tryz.prog (nat_lit 29) #[Za s] [] w G fun _ _ r=>r = .bool (X5 s):=by
 refine Zg ft [] Tryz.func29 V V ?_
 have hS:=St.start (X:=[]) hG
 refine YN s X1 V V ?_
 refine Zp (s.length : Int) 1 V V V (fun h1=>?_) (fun h1=>?_)
 ·exact RB hS V (by exact (ZdE (by omega)).symm)
 refine YN s X1 V V ?_
 refine Z1 (s.length : Int) 30 V V V (fun h2=>?_) (fun h2=>?_)
 ·exact RB hS V (by exact (ZdE (by omega)).symm)
 refine YY s 0 (by omega) X1 V V V (fun c1 U1=>?_)
 refine Zl hS Zfg V V V (ZgR hS.imm (c1.toNat : Int)) (fun w1 G1 S1 L1=>?_)
 refine WL.split (fun (h3 : (YQ (c1.toNat : Int)) = true)=>?_) (fun (h3 : (YQ (c1.toNat : Int)) = false)=>?_)
 ·refine LP.go ft [] (fun m ρ1 w1=>∃ (k1 : Nat),∃ (G2 : GH),m = s.length - k1 ∧ G1.le G2 ∧ St w [] G G2 [] w1 ∧ FR ρ1 [(0,Za s),(3,U (k1 : Int))] ∧ k1 ≤ s.length ∧ ∀ j,j < k1 → ∀ c,s[j]? = some c → ZaG c = true) _ ⟨0,G1,V,(G1.le_refl),S1,⟨V,V,trivial⟩,(by omega),(by intro j hj; omega)⟩ ?_
  rintro m ρ1 w2 ⟨k1,G2,rfl,L2,S2,F9,f1,f2⟩
  refine F9.set ?_
  clear F9
  refine YN s X1 V V ?_
  refine Zp (k1 : Int) (s.length : Int) V V V (fun h4=>?_) (fun h4=>?_)
  ·refine YY s k1 (by omega) X1 V V V (fun c2 U2=>?_)
   refine Zl S2 Zfg V V V (ZgR S2.imm (c2.toNat : Int)) (fun w3 G3 S3 L3=>?_)
   refine WL.split (fun (h5 : (YQ (c2.toNat : Int)) = true)=>?_) (fun (h5 : (YQ (c2.toNat : Int)) = false)=>?_)
   ·refine Zq k1 (by have:=Zb; omega) V V V ?_
    exact BK.mk' _ ⟨k1 + 1,G3,V,(L2.trans L3),S3,⟨V,V,trivial⟩,(by omega),(by exact Ys ‹_› ‹_› (by exact Zmq ‹_›))⟩ (show s.length - (k1 + 1) < s.length - k1 by omega)
   refine Zl S3 hb64 V V V (Zof S3.imm (c2.toNat : Int)) (fun w4 G4 S4 L4=>?_)
   refine WL.split (fun (h6 : (QE (c2.toNat : Int)) = true)=>?_) (fun (h6 : (QE (c2.toNat : Int)) = false)=>?_)
   ·refine Zq k1 (by have:=Zb; omega) V V V ?_
    exact BK.mk' _ ⟨k1 + 1,G4,V,(L2.trans (L3.trans L4)),S4,⟨V,V,trivial⟩,(by omega),(by exact Ys ‹_› ‹_› (by exact Zmr ‹_›))⟩ (show s.length - (k1 + 1) < s.length - k1 by omega)
   refine Zz (c2.toNat : Int) 95 V V V (fun h7=>?_) (fun h7=>?_)
   ·refine Zz (c2.toNat : Int) 47 V V V (fun h8=>?_) (fun h8=>?_)
    ·refine Zz (c2.toNat : Int) 43 V V V (fun h9=>?_) (fun h9=>?_)
     ·refine Zz (c2.toNat : Int) 45 V V V (fun h10=>?_) (fun h10=>?_)
      ·exact RB S4 V (by exact (ZkI ‹_› (Z1y ‹_› ‹_› ‹_› ‹_› ‹_› ‹_›)).symm)
      refine Zq k1 (by have:=Zb; omega) V V V ?_
      exact BK.mk' _ ⟨k1 + 1,G4,V,(L2.trans (L3.trans L4)),S4,⟨V,V,trivial⟩,(by omega),(by exact Ys ‹_› ‹_› (by exact ZnS (by omega)))⟩ (show s.length - (k1 + 1) < s.length - k1 by omega)
     refine Zq k1 (by have:=Zb; omega) V V V ?_
     exact BK.mk' _ ⟨k1 + 1,G4,V,(L2.trans (L3.trans L4)),S4,⟨V,V,trivial⟩,(by omega),(by exact Ys ‹_› ‹_› (by exact ZnS (by omega)))⟩ (show s.length - (k1 + 1) < s.length - k1 by omega)
    refine Zq k1 (by have:=Zb; omega) V V V ?_
    exact BK.mk' _ ⟨k1 + 1,G4,V,(L2.trans (L3.trans L4)),S4,⟨V,V,trivial⟩,(by omega),(by exact Ys ‹_› ‹_› (by exact ZnS (by omega)))⟩ (show s.length - (k1 + 1) < s.length - k1 by omega)
   refine Zq k1 (by have:=Zb; omega) V V V ?_
   exact BK.mk' _ ⟨k1 + 1,G4,V,(L2.trans (L3.trans L4)),S4,⟨V,V,trivial⟩,(by omega),(by exact Ys ‹_› ‹_› (by exact ZnS (by omega)))⟩ (show s.length - (k1 + 1) < s.length - k1 by omega)
  exact RB S2 V (by exact (Zjh (by omega) (by omega) ‹_› ‹_› (Zbk ‹_› (by omega))).symm)
 exact RB S1 V (by exact (Zjg ‹_› ‹_›).symm)
theorem Za6 {G : GH} {w : World} (hG : G.In w) (k i : Int) (need : Bool) : CL Tryz.prog (nat_lit 62) #[U k,U i, .bool need] [] w G fun _ _ r=>r = .bool (Zar k i need):=by
 refine Zg ft [] Tryz.func62 V V ?_
 have hS:=St.start (X:=[]) hG
 refine ZgX (d:=2) V (fun (h1 : need = true)=>?_) (fun (h1 : need = false)=>?_)
 ·refine ZM k 0 V V V (fun h2=>?_) (fun h2=>?_)
  ·refine Yd .lss V .i64 k i V V V ?_
   exact RB hS V (by unfold Zar; simp_all [Cmp.b])
  exact RB hS V (by unfold Zar; simp_all [Cmp.b] <;> (omega))
 refine Yd .eql V .i64 k (-1) V V V ?_
 exact RB hS V (by unfold Zar; simp_all [Cmp.b] <;> ((rw [Bool.eq_iff_iff]; simp <;> omega)))
theorem Zqe {G : GH} {w : World} (hG : G.In w) (s : Span) (cs : List Value) (hcs : SpanE.rep G s cs) : CL Tryz.prog (nat_lit 61) #[.agg cs.toArray] [] w G fun _ _ r=>r = .bool (ZF s):=by
 refine Zg ft [] Tryz.func61 V V ?_
 have hS:=St.start (X:=[]) hG
 obtain ⟨rfl,B1,B2⟩:=QH hcs
 refine Z4 [U s.a,U s.b] _ hS V V V (fun p1 w1 G1 L1 M1 C1 S1=>?_)
 refine Z S1 (Xh.drop 0 C1) Zk V V V ?_
 refine ZM s.a (-62135596800) V V V (fun h1=>?_) (fun h1=>?_)
 ·refine Z S1 (Xh.drop 0 C1) Zk V V V <| Z S1 (Xh.drop 1 C1) Zk V V V ?_
  refine Zp s.a s.b V V V (fun h2=>?_) (fun h2=>?_)
  ·refine Z S1 (Xh.drop 1 C1) Zk V V V <| Yd .leq V .i64 s.b 253402300800 V V V ?_
   exact RB S1 V (by unfold ZF; simp_all [Cmp.b])
  exact RB S1 V (by unfold ZF; simp_all [Cmp.b] <;> (omega))
 exact RB S1 V (by unfold ZF; simp_all [Cmp.b] <;> (omega))
theorem ZrL {G : GH} {w : World} (hG : G.In w) (a b : Int) (ha : Xs a) (hb : Xs b) : CL Tryz.prog (nat_lit 65) #[U a,U b] [] w G fun _ _ r=>∃ r0 r1,r = .tuple #[r0,r1] ∧ r0 = U ((ZaT a b).1) ∧ r1 = U ((ZaT a b).2):=by
 refine Zg ft [] Tryz.func65 V V ?_
 have ha64:=Zde ha
 have hb64:=Zde hb
 obtain ⟨ha0,ha1⟩:=ha
 obtain ⟨B0,B1⟩:=hb
 have hS:=St.start (X:=[]) hG
 refine Ze a 0 V V V (fun h1=>?_) (fun h1=>?_)
 ·exact RT hS V ⟨_,_,V,(congrArg (Value.int .i64) (by exact (ZnR (by exact .inl ‹_›)).1)),(congrArg (Value.int .i64) (by exact (ZnR (by exact .inl ‹_›)).2))⟩
 refine Ze b 0 V V V (fun h2=>?_) (fun h2=>?_)
 ·exact RT hS V ⟨_,_,V,(congrArg (Value.int .i64) (by exact (ZnR (by exact .inr ‹_›)).1)),(congrArg (Value.int .i64) (by exact (ZnR (by exact .inr ‹_›)).2))⟩
 refine Ze a (-9223372036854775808) V V V (fun h3=>?_) (fun h3=>?_)
 ·exfalso; omega
 refine Ze b (-9223372036854775808) V V V (fun h4=>?_) (fun h4=>?_)
 ·exfalso; omega
 refine Zu7 a b V V V ?_
 refine Zdi (wrM a b) b (by omega) (Zu6 a b) V V V ?_
 refine Zz (Int.tdiv (wrM a b) b) a V V V (fun h5=>?_) (fun h5=>?_)
 ·exact RT hS V ⟨_,_,V,(congrArg (Value.int .i64) (by exact (Zxu ‹_› ‹_› ‹_›).1)),(congrArg (Value.int .i64) (by exact (Zxu ‹_› ‹_› ‹_›).2))⟩
 exact RT hS V ⟨_,_,V,(congrArg (Value.int .i64) (by exact (Zxv ‹_› ‹_› ‹_›).1)),(congrArg (Value.int .i64) (by exact (Zxv ‹_› ‹_› ‹_›).2))⟩
theorem Zgi {G : GH} {w : World} (hG : G.In w) (a b : Int) (ha : Xs a) (hb : Xs b) : CL Tryz.prog (nat_lit 31) #[U a,U b] [] w G fun _ _ r=>r = U (Yv a b):=by
 refine Zg ft [] Tryz.func31 V V ?_
 have ha64:=Zde ha
 have hb64:=Zde hb
 have hS:=St.start (X:=[]) hG
 refine Yq hS Zfh V V V (ZrL hS.imm a b ‹_› ‹_›) ?_
 rintro w1 G1 _ ⟨_,_,rfl,rfl,rfl⟩ S1 L1
 refine Zz ((ZaT a b).2) 0 V V V (fun h1=>?_) (fun h1=>?_)
 ·exact RI S1 V (by exact Z1w ha hb ‹_›)
 refine YR ((ZaT a b).1) 4398046511104 V V V ?_
 exact RI S1 V (by exact Z1x ha hb ‹_›)
end Go.Civ
set_option linter.unusedVariables false
set_option linter.unusedSimpArgs false
set_option maxRecDepth 100000
set_option maxHeartbeats 4000000
namespace Go.Civ
open Go.Proofs
theorem Zgj {G : GH} {w : World} (hG : G.In w) (p : Pln) (f : List UInt8 → Int) (cp : List Value) (hcp : PlnE.rep G p cp) (vm : Value) (hvm : Zhf Tryz.prog (nat_lit 26) G vm f) (hv : XC p = true) : CL Tryz.prog (nat_lit 11) #[.agg cp.toArray,vm] [] w G fun _ _ r=>r = U (Qp f p):=by
 refine Zg ft [] Tryz.func11 V V ?_
 have hp60:=Zig hv
 have hS:=St.start (X:=[]) hG
 have T1:=Za8 hcp
 obtain ⟨v1,v2,rfl,A1,A2⟩:=T1
 refine Z4 [v1,v2] _ hS V V V (fun p1 w1 G1 L1 M1 C1 S1=>?_)
 have S3:=S1.pad
 refine LP.go ft [] (fun m ρ1 w1=>∃ (k1 : Nat),∃ (ss : Int),∃ (v3 : Value) (o1 : OB),∃ (G2 : GH),m = p.steps.length - k1 ∧ G1.le G2 ∧ St w [] G G2 [o1] w1 ∧ YX Enc.int 8 3 G2 v3 ((YF f (p.steps.take k1)).1) o1 ∧ FR ρ1 [(1,vm),(2,ZP p1),(5,v3),(6,U ss),(7,U (k1 : Int))] ∧ k1 ≤ p.steps.length ∧ ss = (YF f (p.steps.take k1)).2) _ ⟨0,0,(Zf),none,G1,V,(G1.le_refl),S3,(YX.cast (YX.nil Enc.int 8 3 G1) (by rfl)),(ZS V),(by omega),(rfl)⟩ ?_
 rintro m ρ1 w2 ⟨k1,ss,v3,o1,G2,rfl,L2,S2,R1,F9,f1,f2⟩
 refine F9.set ?_
 clear F9
 have hel:=Zg4 (f:=f) (l:=p.steps) k1 (by omega)
 have hssm : Xs ss:=by rw [show ss = (YF f (p.steps.take k1)).2 by assumption]; exact (Xj k1).2
 have hss64:=Zde hssm
 obtain ⟨hss0,hss1⟩:=hssm
 refine Z S2 (Xh.drop 0 (C1.mono L2)) QG V V V ?_
 have V1:=A1.bound
 have j1:=(L1.trans L2)
 refine Zm (A1.mono j1) QS V V ?_
 refine Zp (k1 : Int) (p.steps.length : Int) V V V (fun h1=>?_) (fun h1=>?_)
 ·refine Z S2 (Xh.drop 0 (C1.mono L2)) QG V V V ?_
  refine WL.indexAddr (A1.mono j1) k1 (by omega) QS XQ V V V V (fun p2 x1 U1 E1=>?_)
  obtain ⟨D1,C2,R2⟩:=E1
  have T2:=Q8 R2
  obtain ⟨v4,v5,v6,v7,v9,rfl,B1,B2,A3,A4,Z7,Z5,ZD,hb6,hb7,ZV,A5,hb9,ZI,ZJ,ZL,A6,Y0,Y6,A7,YA,Y9⟩:=T2
  refine Zc S2 C2 (SV x1.q v4 v5 v6 v7 (U x1.a) (U x1.b) v9 (U x1.span.a) (U x1.span.b)) XQ V V V V V ?_
  refine WL.alloc S2 XQ V V (fun b1 w3 N1 S4=>?_)
  refine WL.store S4 0 _ _ _ 0 _ (SV x1.q v4 v5 v6 v7 (U x1.a) (U x1.b) v9 (U x1.span.a) (U x1.span.b)) (SV x1.q v4 v5 v6 v7 (U x1.a) (U x1.b) v9 (U x1.span.a) (U x1.span.b)) _ V V XQ V (ZZ V) (by simp only [YE,A3.oneC,A4.oneC,A5.oneC,A6.oneC,A7.oneC] <;> rfl) V V V V V (fun w4 S5=>?_)
  have T3:=S5.shutB N1
  obtain ⟨G3,L3,C3,S6⟩:=T3
  have T4:=Ze9 (Zdx hv (by assumption : p.steps[k1]? = some x1))
  obtain ⟨hiA,hiB,hiC,hiD⟩:=T4
  refine Z S6 (Xh.drop 16 C3) Zk V V V ?_
  refine ZM x1.a 0 V V V (fun h2=>?_) (fun h2=>?_)
  ·refine Z S6 (Xh.drop 16 C3) Zk V V V ?_
   refine Yh (R1.mono L3) ((x1.a).toNat) (by omega) Xz Zk V V V (congrArg (Value.int .i64) (Int.toNat_of_nonneg (by omega)).symm) (fun p3 x2 ec1 U2 R3 ra1=>?_)
   obtain ⟨rfl,Yr⟩:=R3
   refine X4 ra1 S6 0 V _ V Zk V V V <| Z S6 (Xh.drop 17 C3) Zk V V V ?_
   refine ZM x1.b 0 V V V (fun h3=>?_) (fun h3=>?_)
   ·refine Z S6 (Xh.drop 17 C3) Zk V V V ?_
    refine Yh (R1.mono L3) ((x1.b).toNat) (by omega) Xz Zk V V V (congrArg (Value.int .i64) (Int.toNat_of_nonneg (by omega)).symm) (fun p4 x3 ec2 U3 R4 ra2=>?_)
    obtain ⟨rfl,YH⟩:=R4
    refine X4 ra2 S6 0 V _ V Zk V V V ?_
    have hva : x2 = YI (YF f (p.steps.take k1)).1 x1.a:=by exact ZnT (by omega) ‹_›
    have hma : Xs x2:=by rw [hva]; exact Qe (Xj k1).1
    obtain ⟨hma0,hma1⟩:=hma
    have hvb : x3 = YI (YF f (p.steps.take k1)).1 x1.b:=by exact ZnT (by omega) ‹_›
    have hmb : Xs x3:=by rw [hvb]; exact Qe (Xj k1).1
    obtain ⟨hmb0,hmb1⟩:=hmb
    refine Z S6 (Xh.drop 0 (Xh.drop 0 C3)) Zk V V V ?_
    refine Ze x1.q.kind 1 V V V (fun h4=>?_) (fun h4=>?_)
    ·exfalso; omega
    refine Ze x1.q.kind 2 V V V (fun h5=>?_) (fun h5=>?_)
    ·exfalso; omega
    refine Ze x1.q.kind 5 V V V (fun h6=>?_) (fun h6=>?_)
    ·refine ZbN x2 x3 V V V <| Z S6 (Xh.drop 18 C3) QX V V V ?_
     have V2:=A7.bound
     refine Zm (A7.mono L3) QM V V ?_
     refine Ze (x1.keys.length : Int) 0 V V V (fun h7=>?_) (fun h7=>?_)
     ·refine Zl S6 Qb V V V (Zgi S6.imm x2 x3 ⟨by omega,by omega⟩ ⟨by omega,by omega⟩) (fun w5 G4 S7 L4=>?_)
      have hee : (Yv x2 x3) = YT f (YF f (p.steps.take k1)).1 x1:=by exact ZzM ‹_› ‹_› hva hvb
      have hmi : Xs (Yv x2 x3):=by rw [hee]; exact QB (Xj k1).1
      obtain ⟨hmi0,hmi1⟩:=hmi
      have hmi64 : Zj (Yv x2 x3):=⟨by omega,by omega⟩
      have hab9:=congrArg List.length (Za2 (f:=f) ‹_› hee)
      refine WL.buildSlice _ [(0,[U (Yv x2 x3)])] [U (Yv x2 x3)] S7 Qr V V V V (fun z hz=>by match z,hz with | [z0],_=>rfl) (fun b2 w6 N2 S8=>?_)
      refine WL.push (m:=([(Yv x2 x3)] : List Int)) Qr V V V (R1.mono (L3.trans L4)) S8 1 V 0 _ _ _ _ _ V ⟨[U (Yv x2 x3)],_,V,⟨V,hmi64⟩,V⟩ V (by have:=Zb; simp only [Zo]; omega) (by have:=Zb; simp only [Zo]; omega) V V V (fun v10 o2 w7 R5 S9=>?_)
      have S10:=S9.tail
      have hi1 : Zj (ss + (Yv x2 x3)):=by have:=hss64.1; have:=hss64.2; have:=hmi64.1; have:=hmi64.2; constructor <;> omega
      refine WL.ar .add V ss (Yv x2 x3) V V V hi1 <| YR (ss + (Yv x2 x3)) 4398046511104 V V V ?_
      refine Zq k1 (by have:=Zb; omega) V V V ?_
      exact BK.mk' _ ⟨k1 + 1,(min (ss + (Yv x2 x3)) 4398046511104),v10,o2,G4,V,(L2.trans (L3.trans L4)),S10,(YX.cast R5 (by (exact Za2 ‹_› hee))),(ZS V),(by omega),(by exact Za0 ‹_› ‹_› hee)⟩ (show p.steps.length - (k1 + 1) < p.steps.length - k1 by omega)
     have hee : (max x2 x3) = YT f (YF f (p.steps.take k1)).1 x1:=by exact ZzN ‹_› ‹_› hva hvb
     have hmi : Xs (max x2 x3):=by rw [hee]; exact QB (Xj k1).1
     obtain ⟨hmi0,hmi1⟩:=hmi
     have hmi64 : Zj (max x2 x3):=⟨by omega,by omega⟩
     have hab9:=congrArg List.length (Za2 (f:=f) ‹_› hee)
     refine WL.buildSlice _ [(0,[U (max x2 x3)])] [U (max x2 x3)] S6 Qr V V V V (fun z hz=>by match z,hz with | [z0],_=>rfl) (fun b3 w9 N3 S11=>?_)
     refine WL.push (m:=([(max x2 x3)] : List Int)) Qr V V V (R1.mono L3) S11 1 V 0 _ _ _ _ _ V ⟨[U (max x2 x3)],_,V,⟨V,hmi64⟩,V⟩ V (by have:=Zb; simp only [Zo]; omega) (by have:=Zb; simp only [Zo]; omega) V V V (fun v11 o3 w10 R6 S12=>?_)
     have S13:=S12.tail
     have hi2 : Zj (ss + (max x2 x3)):=by have:=hss64.1; have:=hss64.2; have:=hmi64.1; have:=hmi64.2; constructor <;> omega
     refine WL.ar .add V ss (max x2 x3) V V V hi2 <| YR (ss + (max x2 x3)) 4398046511104 V V V ?_
     refine Zq k1 (by have:=Zb; omega) V V V ?_
     exact BK.mk' _ ⟨k1 + 1,(min (ss + (max x2 x3)) 4398046511104),v11,o3,G3,V,(L2.trans L3),S13,(YX.cast R6 (by (exact Za2 ‹_› hee))),(ZS V),(by omega),(by exact Za0 ‹_› ‹_› hee)⟩ (show p.steps.length - (k1 + 1) < p.steps.length - k1 by omega)
    refine Ze x1.q.kind 6 V V V (fun h8=>?_) (fun h8=>?_)
    ·have hi3 : Zj (x2 + x3):=by have:=Yr.1; have:=Yr.2; have:=YH.1; have:=YH.2; constructor <;> omega
     refine WL.ar .add V x2 x3 V V V hi3 <| YR (x2 + x3) 4398046511104 V V V ?_
     have hee : (min (x2 + x3) 4398046511104) = YT f (YF f (p.steps.take k1)).1 x1:=by exact (ZwS ‹_› hva hvb)
     have hmi : Xs (min (x2 + x3) 4398046511104):=by rw [hee]; exact QB (Xj k1).1
     obtain ⟨hmi0,hmi1⟩:=hmi
     have hmi64 : Zj (min (x2 + x3) 4398046511104):=⟨by omega,by omega⟩
     have hab9:=congrArg List.length (Za2 (f:=f) ‹_› hee)
     refine WL.buildSlice _ [(0,[U (min (x2 + x3) 4398046511104)])] [U (min (x2 + x3) 4398046511104)] S6 Qr V V V V (fun z hz=>by match z,hz with | [z0],_=>rfl) (fun b4 w11 N4 S14=>?_)
     refine WL.push (m:=([(min (x2 + x3) 4398046511104)] : List Int)) Qr V V V (R1.mono L3) S14 1 V 0 _ _ _ _ _ V ⟨[U (min (x2 + x3) 4398046511104)],_,V,⟨V,hmi64⟩,V⟩ V (by have:=Zb; simp only [Zo]; omega) (by have:=Zb; simp only [Zo]; omega) V V V (fun v12 o4 w12 R7 S15=>?_)
     have S16:=S15.tail
     have hi4 : Zj (ss + (min (x2 + x3) 4398046511104)):=by have:=hss64.1; have:=hss64.2; have:=hmi64.1; have:=hmi64.2; constructor <;> omega
     refine WL.ar .add V ss (min (x2 + x3) 4398046511104) V V V hi4 <| YR (ss + (min (x2 + x3) 4398046511104)) 4398046511104 V V V ?_
     refine Zq k1 (by have:=Zb; omega) V V V ?_
     exact BK.mk' _ ⟨k1 + 1,(min (ss + (min (x2 + x3) 4398046511104)) 4398046511104),v12,o4,G3,V,(L2.trans L3),S16,(YX.cast R7 (by (exact Za2 ‹_› hee))),(ZS V),(by omega),(by exact Za0 ‹_› ‹_› hee)⟩ (show p.steps.length - (k1 + 1) < p.steps.length - k1 by omega)
    refine Ze x1.q.kind 10 V V V (fun h9=>?_) (fun h9=>?_)
    ·refine Zl S6 Qb V V V (Zgi S6.imm x2 x3 ⟨by omega,by omega⟩ ⟨by omega,by omega⟩) (fun w13 G5 S17 L5=>?_)
     have hee : (Yv x2 x3) = YT f (YF f (p.steps.take k1)).1 x1:=by exact ZzO ‹_› hva hvb
     have hmi : Xs (Yv x2 x3):=by rw [hee]; exact QB (Xj k1).1
     obtain ⟨hmi0,hmi1⟩:=hmi
     have hmi64 : Zj (Yv x2 x3):=⟨by omega,by omega⟩
     have hab9:=congrArg List.length (Za2 (f:=f) ‹_› hee)
     refine WL.buildSlice _ [(0,[U (Yv x2 x3)])] [U (Yv x2 x3)] S17 Qr V V V V (fun z hz=>by match z,hz with | [z0],_=>rfl) (fun b5 w14 N5 S18=>?_)
     refine WL.push (m:=([(Yv x2 x3)] : List Int)) Qr V V V (R1.mono (L3.trans L5)) S18 1 V 0 _ _ _ _ _ V ⟨[U (Yv x2 x3)],_,V,⟨V,hmi64⟩,V⟩ V (by have:=Zb; simp only [Zo]; omega) (by have:=Zb; simp only [Zo]; omega) V V V (fun v13 o5 w15 R8 S19=>?_)
     have S20:=S19.tail
     have hi5 : Zj (ss + (Yv x2 x3)):=by have:=hss64.1; have:=hss64.2; have:=hmi64.1; have:=hmi64.2; constructor <;> omega
     refine WL.ar .add V ss (Yv x2 x3) V V V hi5 <| YR (ss + (Yv x2 x3)) 4398046511104 V V V ?_
     refine Zq k1 (by have:=Zb; omega) V V V ?_
     exact BK.mk' _ ⟨k1 + 1,(min (ss + (Yv x2 x3)) 4398046511104),v13,o5,G5,V,(L2.trans (L3.trans L5)),S20,(YX.cast R8 (by (exact Za2 ‹_› hee))),(ZS V),(by omega),(by exact Za0 ‹_› ‹_› hee)⟩ (show p.steps.length - (k1 + 1) < p.steps.length - k1 by omega)
    have hee : x2 = YT f (YF f (p.steps.take k1)).1 x1:=by exact Zxw ‹_› ‹_› ‹_› ‹_› ‹_› hva
    have hmi : Xs x2:=by rw [hee]; exact QB (Xj k1).1
    obtain ⟨hmi0,hmi1⟩:=hmi
    have hmi64 : Zj x2:=⟨by omega,by omega⟩
    have hab9:=congrArg List.length (Za2 (f:=f) ‹_› hee)
    refine WL.buildSlice _ [(0,[U x2])] [U x2] S6 Qr V V V V (fun z hz=>by match z,hz with | [z0],_=>rfl) (fun b6 w16 N6 S21=>?_)
    refine WL.push (m:=([x2] : List Int)) Qr V V V (R1.mono L3) S21 1 V 0 _ _ _ _ _ V ⟨[U x2],_,V,⟨V,hmi64⟩,V⟩ V (by have:=Zb; simp only [Zo]; omega) (by have:=Zb; simp only [Zo]; omega) V V V (fun v14 o6 w17 R9 S22=>?_)
    have S23:=S22.tail
    have hi6 : Zj (ss + x2):=by have:=hss64.1; have:=hss64.2; have:=hmi64.1; have:=hmi64.2; constructor <;> omega
    refine WL.ar .add V ss x2 V V V hi6 <| YR (ss + x2) 4398046511104 V V V ?_
    refine Zq k1 (by have:=Zb; omega) V V V ?_
    exact BK.mk' _ ⟨k1 + 1,(min (ss + x2) 4398046511104),v14,o6,G3,V,(L2.trans L3),S23,(YX.cast R9 (by (exact Za2 ‹_› hee))),(ZS V),(by omega),(by exact Za0 ‹_› ‹_› hee)⟩ (show p.steps.length - (k1 + 1) < p.steps.length - k1 by omega)
   have hva : x2 = YI (YF f (p.steps.take k1)).1 x1.a:=by exact ZnT (by omega) ‹_›
   have hma : Xs x2:=by rw [hva]; exact Qe (Xj k1).1
   obtain ⟨hma0,hma1⟩:=hma
   have hvb : 0 = YI (YF f (p.steps.take k1)).1 x1.b:=by exact Ze8 (by omega)
   have hmb : Xs 0:=by rw [hvb]; exact Qe (Xj k1).1
   obtain ⟨hmb0,hmb1⟩:=hmb
   refine Z S6 (Xh.drop 0 (Xh.drop 0 C3)) Zk V V V ?_
   refine Ze x1.q.kind 1 V V V (fun h10=>?_) (fun h10=>?_)
   ·exfalso; omega
   refine Ze x1.q.kind 2 V V V (fun h11=>?_) (fun h11=>?_)
   ·have hi7 : Zj (x2 + 1):=by have:=Yr.1; have:=Yr.2; constructor <;> omega
    refine WL.ar .add V x2 1 V V V hi7 ?_
    refine YZ (x2 + 1) 2 (by omega) (by omega) hi7 V V V ?_
    have hee : ((x2 + 1) / 2) = YT f (YF f (p.steps.take k1)).1 x1:=by exact Z10 ‹_› hva
    have hmi : Xs ((x2 + 1) / 2):=by rw [hee]; exact QB (Xj k1).1
    obtain ⟨hmi0,hmi1⟩:=hmi
    have hmi64 : Zj ((x2 + 1) / 2):=⟨by omega,by omega⟩
    have hab9:=congrArg List.length (Za2 (f:=f) ‹_› hee)
    refine WL.buildSlice _ [(0,[U ((x2 + 1) / 2)])] [U ((x2 + 1) / 2)] S6 Qr V V V V (fun z hz=>by match z,hz with | [z0],_=>rfl) (fun b7 w18 N7 S24=>?_)
    refine WL.push (m:=([((x2 + 1) / 2)] : List Int)) Qr V V V (R1.mono L3) S24 1 V 0 _ _ _ _ _ V ⟨[U ((x2 + 1) / 2)],_,V,⟨V,hmi64⟩,V⟩ V (by have:=Zb; simp only [Zo]; omega) (by have:=Zb; simp only [Zo]; omega) V V V (fun v15 o7 w19 R10 S25=>?_)
    have S26:=S25.tail
    have hi8 : Zj (ss + ((x2 + 1) / 2)):=by have:=hss64.1; have:=hss64.2; have:=hmi64.1; have:=hmi64.2; constructor <;> omega
    refine WL.ar .add V ss ((x2 + 1) / 2) V V V hi8 <| YR (ss + ((x2 + 1) / 2)) 4398046511104 V V V ?_
    refine Zq k1 (by have:=Zb; omega) V V V ?_
    exact BK.mk' _ ⟨k1 + 1,(min (ss + ((x2 + 1) / 2)) 4398046511104),v15,o7,G3,V,(L2.trans L3),S26,(YX.cast R10 (by (exact Za2 ‹_› hee))),(ZS V),(by omega),(by exact Za0 ‹_› ‹_› hee)⟩ (show p.steps.length - (k1 + 1) < p.steps.length - k1 by omega)
   refine Ze x1.q.kind 5 V V V (fun h12=>?_) (fun h12=>?_)
   ·exfalso; omega
   refine Ze x1.q.kind 6 V V V (fun h13=>?_) (fun h13=>?_)
   ·exfalso; omega
   refine Ze x1.q.kind 10 V V V (fun h14=>?_) (fun h14=>?_)
   ·exfalso; omega
   have hee : x2 = YT f (YF f (p.steps.take k1)).1 x1:=by exact Zxw ‹_› ‹_› ‹_› ‹_› ‹_› hva
   have hmi : Xs x2:=by rw [hee]; exact QB (Xj k1).1
   obtain ⟨hmi0,hmi1⟩:=hmi
   have hmi64 : Zj x2:=⟨by omega,by omega⟩
   have hab9:=congrArg List.length (Za2 (f:=f) ‹_› hee)
   refine WL.buildSlice _ [(0,[U x2])] [U x2] S6 Qr V V V V (fun z hz=>by match z,hz with | [z0],_=>rfl) (fun b8 w20 N8 S27=>?_)
   refine WL.push (m:=([x2] : List Int)) Qr V V V (R1.mono L3) S27 1 V 0 _ _ _ _ _ V ⟨[U x2],_,V,⟨V,hmi64⟩,V⟩ V (by have:=Zb; simp only [Zo]; omega) (by have:=Zb; simp only [Zo]; omega) V V V (fun v16 o8 w21 R11 S28=>?_)
   have S29:=S28.tail
   have hi9 : Zj (ss + x2):=by have:=hss64.1; have:=hss64.2; have:=hmi64.1; have:=hmi64.2; constructor <;> omega
   refine WL.ar .add V ss x2 V V V hi9 <| YR (ss + x2) 4398046511104 V V V ?_
   refine Zq k1 (by have:=Zb; omega) V V V ?_
   exact BK.mk' _ ⟨k1 + 1,(min (ss + x2) 4398046511104),v16,o8,G3,V,(L2.trans L3),S29,(YX.cast R11 (by (exact Za2 ‹_› hee))),(ZS V),(by omega),(by exact Za0 ‹_› ‹_› hee)⟩ (show p.steps.length - (k1 + 1) < p.steps.length - k1 by omega)
  refine Z S6 (Xh.drop 17 C3) Zk V V V ?_
  refine ZM x1.b 0 V V V (fun h15=>?_) (fun h15=>?_)
  ·omega
  have hva : 0 = YI (YF f (p.steps.take k1)).1 x1.a:=by exact Ze8 (by omega)
  have hma : Xs 0:=by rw [hva]; exact Qe (Xj k1).1
  obtain ⟨hma0,hma1⟩:=hma
  have hvb : 0 = YI (YF f (p.steps.take k1)).1 x1.b:=by exact Ze8 (by omega)
  have hmb : Xs 0:=by rw [hvb]; exact Qe (Xj k1).1
  obtain ⟨hmb0,hmb1⟩:=hmb
  refine Z S6 (Xh.drop 0 (Xh.drop 0 C3)) Zk V V V ?_
  refine Ze x1.q.kind 1 V V V (fun h16=>?_) (fun h16=>?_)
  ·refine Z S6 (Xh.drop 1 (Xh.drop 0 C3)) Zv V V V ?_
   refine ZhP x1.q.table (hvm.mono (j1.trans L3)) S6 B2 V V V (fun hi10=>?_)
   refine ZbN 0 (f x1.q.table) V V V <| YR (max 0 (f x1.q.table)) 4398046511104 V V V ?_
   have hee : (min (max 0 (f x1.q.table)) 4398046511104) = YT f (YF f (p.steps.take k1)).1 x1:=by exact Z1z ‹_›
   have hmi : Xs (min (max 0 (f x1.q.table)) 4398046511104):=by rw [hee]; exact QB (Xj k1).1
   obtain ⟨hmi0,hmi1⟩:=hmi
   have hmi64 : Zj (min (max 0 (f x1.q.table)) 4398046511104):=⟨by omega,by omega⟩
   have hab9:=congrArg List.length (Za2 (f:=f) ‹_› hee)
   refine WL.buildSlice _ [(0,[U (min (max 0 (f x1.q.table)) 4398046511104)])] [U (min (max 0 (f x1.q.table)) 4398046511104)] S6 Qr V V V V (fun z hz=>by match z,hz with | [z0],_=>rfl) (fun b9 w22 N9 S30=>?_)
   refine WL.push (m:=([(min (max 0 (f x1.q.table)) 4398046511104)] : List Int)) Qr V V V (R1.mono L3) S30 1 V 0 _ _ _ _ _ V ⟨[U (min (max 0 (f x1.q.table)) 4398046511104)],_,V,⟨V,hmi64⟩,V⟩ V (by have:=Zb; simp only [Zo]; omega) (by have:=Zb; simp only [Zo]; omega) V V V (fun v17 o9 w23 R12 S31=>?_)
   have S32:=S31.tail
   have hi11 : Zj (ss + (min (max 0 (f x1.q.table)) 4398046511104)):=by have:=hss64.1; have:=hss64.2; have:=hmi64.1; have:=hmi64.2; constructor <;> omega
   refine WL.ar .add V ss (min (max 0 (f x1.q.table)) 4398046511104) V V V hi11 <| YR (ss + (min (max 0 (f x1.q.table)) 4398046511104)) 4398046511104 V V V ?_
   refine Zq k1 (by have:=Zb; omega) V V V ?_
   exact BK.mk' _ ⟨k1 + 1,(min (ss + (min (max 0 (f x1.q.table)) 4398046511104)) 4398046511104),v17,o9,G3,V,(L2.trans L3),S32,(YX.cast R12 (by (exact Za2 ‹_› hee))),(ZS V),(by omega),(by exact Za0 ‹_› ‹_› hee)⟩ (show p.steps.length - (k1 + 1) < p.steps.length - k1 by omega)
  exfalso; omega
 exact RI S2 V (by exact (ZsX ‹_› (by omega)).trans (ZwU hv))
end Go.Civ
