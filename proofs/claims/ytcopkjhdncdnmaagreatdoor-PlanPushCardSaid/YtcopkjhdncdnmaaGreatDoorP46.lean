/- Lemmas. -/
import Derived.Test.YtcopkjhdncdnmaaGreatDoorP44
import Derived.Test.YtcopkjhdncdnmaaGreatDoorP45
set_option linter.unusedVariables false
set_option linter.unusedSimpArgs false
set_option maxRecDepth 100000
set_option maxHeartbeats 4000000
namespace Go.Civ
open Go.Proofs
theorem ZsE {G : GH} {w : World} (hG : G.In w) (q : Query) (l : List Schema) (hg : Glob G) (cq : List Value) (hcq : QryE.rep G q cq) (vl : Value) (hvl : Sl SchemaE 72 G vl l) (hsm : smQ (Yc q) q) : CL Tryz.prog (nat_lit 25) #[.agg cq.toArray,vl] [] w G fun G' _ r=>∃ r0 r1,r = .tuple #[r0,r1] ∧ Is ZoT G' r0 ((ofT q l).1) ∧ r1 = U ((ofT q l).2):=by
 refine YA ft [] Tryz.func25 V V ?_
 have hg0:=hg
 obtain ⟨⟨rv,hrc,hrs⟩,hac⟩:=hg0
 have hS:=St.start (X:=[]) hG
 have T1:=Ze hcq
 obtain ⟨v1,v2,v3,v4,rfl,B1,B2,A1,A2,B3,B4,B5,B6,B7,ZK,A3,hb9,Z9,Z7,Z6,A4⟩:=T1
 refine ZL (QV q v1 v2 v3 v4) _ hS V V V (fun p1 w1 G1 L1 M1 C1 S1=>?_)
 refine WL.alloc S1 Zfg V V (fun b1 w2 N1 S2=>?_)
 refine Zc S2 C1 (QV q v1 v2 v3 v4) Zg V V V V V <| Zv S2 Ye V V V (ZaN S2.imm (Yc q) q l (hg.mono L1) _ (Zd q B1 B2 (A1.mono L1) (A2.mono L1) B3 B4 B5 B6 B7 ZK (A3.mono L1) hb9 Z9 Z7 Z6 (A4.mono L1)) _ (hvl.mono L1) (YU _) hsm) ?_
 rintro w3 G2 _ ⟨r2,_,rfl,A5,rfl⟩ S3 L2
 refine Z8 ((ZP (Yc q) q l).2) 0 V V V (fun h1=>?_) (fun h1=>?_)
 ·refine WL.build _ [] [Zh,Zh] Zfg V ZqW V V V V ?_
  refine ZY S3 0 [Zh,Zh] V V Zfg V V V V V V (fun w4 S4=>?_)
  exact YD [.agg #[Zh,Zh],U ((ZP (Yc q) q l).2)] S4 ⟨_,_,_,V,V,S4.loadA 0 _ _ _ 0 [Zh,Zh] V V V Zfg V,⟨_,V,V⟩⟩ ⟨_,_,V,(Is.cast ⟨_,V,(Zly (Pln.mk [] []) (Sl.nil ZeK 280 G2) (Sl.nil ColE 24 G2))⟩ (by exact (ZrI ‹_›).1)),(congrArg (Value.int .i64) (by exact (ZrI ‹_›).2))⟩
 have j1:=(L1.trans L2)
 refine WL.build _ [(0,[vl])] [vl,Zh] ZlO V Zsu V V (by show [(0,(vl : Value).cells.toList)] = _; simp only [(hvl.mono j1).cells1] <;> rfl) V ?_
 refine WL.alloc S3 ZlO V V (fun b2 w5 N2 S5=>?_)
 refine ZY S5 0 [vl,Zh] V V ZlO V V (by simp only [ZW,(hvl.mono j1).oneC] <;> rfl) V V V (fun w6 S6=>?_)
 have S7:=S6.pad
 refine Zc S7 (C1.mono L2) (QV q v1 v2 v3 v4) Zg V V V V V <| Zc S7 (hac.mono j1) [U (-62135596800),U 253402300800] Y7 V V V V V ?_
 have hP1 : St w [] G G2 [some (b2,134,[vl,(Zh)]),none,some (b1,51,[Zh,Zh])] w6:=S7.pick [1,0,2]
 refine XJ [.pointer (some ⟨b2,0,none⟩), .agg (QV q v1 v2 v3 v4).toArray, .agg #[U (-62135596800),U 253402300800], .bool true] #[] Zae V V V ((ZsC (Yc q) q (Span.mk (-62135596800) 253402300800) true l ([] : List Stp) _ _ _ _ (hvl.mono j1) (YH.nil ZeK 280 56 G2) hP1 (hg.mono j1) _ (Zd q B1 B2 (A1.mono j1) (A2.mono j1) B3 B4 B5 B6 B7 ZK (A3.mono j1) hb9 Z9 Z7 Z6 (A4.mono j1)) _ (X2 (Span.mk (-62135596800) 253402300800) (show ZM (-62135596800) from by constructor <;> decide) (show ZM 253402300800 from by constructor <;> decide)) (YU _) (ZfL (ZeS (by assumption : (ZP (Yc q) q l).2 = 0)).2 hsm) (by have h9:=ZsD (S:=l) (p:=(Span.mk (-62135596800) 253402300800)) (s:=true) (k:=([] : List Stp).length) (ZeS (by assumption : (ZP (Yc q) q l).2 = 0)).2; simp only [List.length_nil] at h9 ⊢; omega)).mono ?_)
 rintro e1 w7 ⟨G3,v5,o1,rfl,L3,S8,R1⟩
 refine ⟨_,V,?_⟩
 refine ZT S8 0 _ _ _ 1 _ V V Zca V V V ?_
 have T2:=YH.freeze R1 S8 1 V
 obtain ⟨G4,L4,A6,S9⟩:=T2
 have j2:=(L3.trans L4)
 refine WL.build _ [(0,[v5]),(1,[r2])] [v5,r2] Zfg V ZqW V V (by show [(0,(v5 : Value).cells.toList),(1,(r2 : Value).cells.toList)] = _; simp only [A6.cells1,(A5.mono j2).cells1] <;> rfl) V ?_
 refine ZY S9 2 [v5,r2] V V Zfg V V (by simp only [ZW,A6.oneC,(A5.mono j2).oneC] <;> rfl) V V V (fun w9 S10=>?_)
 exact YD [.agg #[v5,r2],U 0] S10 ⟨_,_,_,V,V,S10.loadA 2 _ _ _ 0 [v5,r2] V V V Zfg V,⟨_,V,V⟩⟩ ⟨_,_,V,(Is.cast ⟨_,V,(Zly (Pln.mk (([] : List Stp) ++ ZF l (Yc q) q (Span.mk (-62135596800) 253402300800) true ([] : List Stp).length) ((ZP (Yc q) q l).1)) A6 (A5.mono j2))⟩ (by exact (ZoU ‹_›).1)),(congrArg (Value.int .i64) (by exact (ZoU ‹_›).2))⟩
end Go.Civ
set_option linter.unusedVariables false
set_option maxRecDepth 100000
set_option maxHeartbeats 4000000
namespace Go.Civ
open Go.Proofs Go.RowKit
theorem tiB : Y3 Tryz.prog (nat_lit 4) = some ⟨false,1,1, .bool false⟩:=by kernel_rfl
theorem tiS : Y3 Tryz.prog (nat_lit 22) = some ⟨false,1,24, .slice none 0 0⟩:=by kernel_rfl
theorem hbE : Zq Tryz.prog 281:=Zi Tryz.func281 (by kernel_rfl) rfl
theorem hbC : Zq Tryz.prog 210:=Zi Tryz.func210 (by kernel_rfl) rfl
theorem ZnR {n : Nat} {c : Cond} {G : GH} {w : World} {pc : Addr} {cs : List Value} (hn : Xn c n) (hG : G.In w) (hc : CndE.rep G c cs) (hpc : YC G pc cs) : ZrN Tryz.prog 337 #[.pointer (some pc)] Zb (Yy n c) w:=by
 intro l J Jx W hW hJ hY h0
 have hGW:=hW.imm hG
 have hB : GB w.heap.size G:=hG.below
 refine callsIn_wide.2 ?_
 show Calls Tryz.prog 337 #[.func (.yield l) #[] #[], .pointer (some pc)] W _
 refine Zb5 Tryz.func337 rfl rfl rfl (WY.wc ?_)
 have hS:=St.start (X:=[]) hGW
 refine WY.seq <| WY.region ?_
 refine WI.op rfl (fun _ h=>nomatch h) (Zlz [.func (.yield l) #[] #[]] _ hS hB rfl rfl rfl (fun py w1 G1 hle1 hsp1 hc1 hB1 hS1=>?_))
 refine WI.nil <| WY.seq <| WY.region ?_
 refine WI.op rfl (fun _ h=>nomatch h) (WL.alloc hS1 tiV rfl rfl (fun b2 w2 hn2 hS2=>?_))
 refine WI.nil <| WY.seq <| WY.region ?_
 refine WI.op rfl (fun _ h=>nomatch h) (WL.makeFunc _ rfl rfl ?_)
 refine WI.op rfl (fun _ h=>nomatch h) (WL.store hS2 0 _ _ _ 0 _ [.func (.func 338) #[] #[.pointer (some py), .pointer (some ⟨b2,0,none⟩)]] [.func (.func 338) #[] #[.pointer (some py), .pointer (some ⟨b2,0,none⟩)]] _ rfl rfl tiV rfl (Nat.le_of_ble_eq_true rfl) rfl rfl rfl rfl rfl rfl (fun w3 hS3=>?_))
 obtain ⟨G2,hle2,hc2,hB2,hS4⟩:=St.shutK hS3 hn2 hB1
 refine WI.nil <| WY.region ?_
 refine WI.op rfl (fun _ h=>nomatch h) (Za hS4 hc2 tiV rfl rfl rfl ?_)
 have hc9:=CndE.mono (hle1.trans hle2) hc
 obtain ⟨lv,rfl,b1,b2',b3,b4,b5,b6,hl⟩:=ZO hc
 refine WI.op rfl (fun _ h=>nomatch h) (Zc hS4 (hpc.mono (hle1.trans hle2)) [.int .i64 c.kind,Zb c.col,Zb c.oth, .int .i64 c.v.k, .int .i64 c.v.n,Zb c.v.s,lv] Z5 rfl rfl rfl rfl rfl ?_)
 have hcall:=ZoW hJ hY n c G2 w3 [] _ py ⟨b2,0,none⟩ hn hc9 hS4.imm hB2 (hc1.mono hle2) hc2 (hJ _ _ _ h0 hS4.kept) (by simp)
 refine WI.op rfl (fun _ h=>nomatch h) (XJ _ _ hbV rfl rfl rfl (hcall.mono ?_))
 rintro e' w4 (⟨rfl,hj,hk⟩ | ⟨rfl,q,hq,hx⟩)
 ·exact ⟨_,rfl,WI.nil ⟨_,rfl,⟨_,rfl⟩, .inl (by simpa using hj)⟩⟩
 ·exact ⟨_,rfl,WI.nil ⟨_,rfl,⟨_,rfl⟩, .inr ⟨q,hq,by simpa using hx⟩⟩⟩
theorem Zqx {c : Cond} {G : GH} {w : World} {cs : List Value} (hG : G.In w) (hc : CndE.rep G c cs) : Calls Tryz.prog 281 #[.agg cs.toArray] w fun e w'=>∃ pc G',e = .returned (.func (.func 337) #[] #[.pointer (some pc)]) ∧ Res [] w G w' G' ∧ YC G' pc cs:=by
 obtain ⟨lv,rfl,b1,b2,b3,b4,b5,b6,hl⟩:=ZO hc
 refine Zb5 Tryz.func281 rfl rfl rfl (WY.wc ?_)
 have hS:=St.start (X:=[]) hG
 refine WY.seq <| WY.region ?_
 refine WI.op rfl (fun _ h=>nomatch h) (ZL [.int .i64 c.kind,Zb c.col,Zb c.oth, .int .i64 c.v.k, .int .i64 c.v.n,Zb c.v.s,lv] _ hS rfl rfl rfl (fun p1 w1 G1 hle1 hsp1 hc1 hS1=>?_))
 refine WI.op rfl (fun _ h=>nomatch h) (WL.assign rfl ?_)
 refine WI.nil <| WY.seq <| WY.region ?_
 refine WI.op rfl (fun _ h=>nomatch h) (WL.makeFunc _ rfl rfl ?_)
 refine WI.op rfl (fun _ h=>nomatch h) (WL.assign rfl ?_)
 exact WI.nil <| WY.ret ⟨_,rfl,p1,G1,rfl,hS1.res,hc1⟩
theorem ZhL {b D : Nat} {v : Bool} {w w' : World} {G G2 : GH} {a : Act} {p : Bool} (hS : St w [] G G2 [some (b,4,[.bool v])] w') (hK : w'.heap[D]? = some (.deferred (some []))) (hD : w.heap.size ≤ D) (hGD : G2 D = none) (hv : v = p)
  (ht : a.tmps.getD 4 undef = .pointer (some ⟨b,0,none⟩)) :
  LeavesInM Fence.wide 2 Tryz.prog Tryz.f204 a.tmps (fun e w''=>∃ r G',e = .returned r ∧ Res [] w G w'' G' ∧ r = .bool p) ({ target:= .collected D,args:=#[] } :: []) .returning w':=by
 refine ⟨by simp, .inl ⟨D,_,rfl,run_takeDeferred hK,?_⟩⟩
 have hS2:=hS.putObj (.deferred none) hK rfl hD hGD
 have hb:=hS2.own 0 _ rfl
 refine ⟨.bool v,?_,_,G2,rfl,hS2.res,by rw [hv]⟩
 have hcell : (w'.putObj D (.deferred none)).cell? ⟨b,0,none⟩ = some (.bool v):=hS2.cell 0 rfl rfl
 rw [ZeV]
 show Sem.run _ (do let vs ← #[ResultVar.cell 4 4].mapM (rv a.tmps); pure (if h : vs.size = 1 then vs[0] else .tuple vs)) _ = _
 simp [rv,ht,asAddr,loadVar,ZbU tiB,hcell,Result.andThen]
theorem Zm0 {G : GH} {w : World} (hG : G.In w) (n : Nat) (c : Cond) (l : List (List UInt8)) (cs : List Value) (hc : CndE.rep G c cs) (vl : Value) (hvl : Sl Enc.str 16 G vl l) (hn : Xn c n) :
  Calls Tryz.prog (nat_lit 204) #[.agg cs.toArray,vl] w fun e w'=>∃ r G',e = .returned r ∧ Res [] w G w' G' ∧ r = .bool (Qq n c l):=by
 have hc0:=hc
 obtain ⟨lv,rfl,b1,b2,b3,b4,b5,b6,hl⟩:=ZO hc
 refine (callsIn_wide (n:=2)).1 ?_
 refine callsIn_of_wp_marks Tryz.func204 rfl trivial ?_ rfl
 have ha:=Zmy (fn:=Tryz.f204) (N:=13) (args:=#[.agg [Value.int .i64 c.kind,Zb c.col,Zb c.oth, .int .i64 c.v.k, .int .i64 c.v.n,Zb c.v.s,lv].toArray,vl]) rfl rfl
 have hS:=St.start (X:=[]) hG
 refine wpIn_seq (wpIn_mono (WY.at (Q:=fun e ρ w'=>e = .normal ∧ ∃ p2 p3 b4 G1,FR ρ [(2, .pointer (some p2)),(3, .pointer (some p3)),(4, .pointer (some ⟨b4,0,none⟩))] ∧ G.le G1 ∧ YC G1 p2 [.int .i64 c.kind,Zb c.col,Zb c.oth, .int .i64 c.v.k, .int .i64 c.v.n,Zb c.v.s,lv] ∧ YC G1 p3 [vl] ∧ w.heap.size ≤ b4 ∧ St w [] G G1 [some (b4,4,[.bool false])] w') ?_ ha) ?_)
 ·refine WY.region ?_
  refine WI.op rfl (fun _ h=>nomatch h) (ZL [.int .i64 c.kind,Zb c.col,Zb c.oth, .int .i64 c.v.k, .int .i64 c.v.n,Zb c.v.s,lv] _ hS rfl rfl rfl (fun p2 w1 G1 hle1 hsp1 hc1 hS1=>?_))
  refine WI.op rfl (fun _ h=>nomatch h) (ZL [vl] _ hS1 rfl rfl hvl.cells1 (fun p3 w2 G2 hle2 hsp2 hc2 hS2=>?_))
  refine WI.op rfl (fun _ h=>nomatch h) (WL.alloc hS2 tiB rfl rfl (fun b4 w3 hn3 hS3=>?_))
  exact WI.nil ⟨rfl,p2,p3,b4,G2,⟨rfl,rfl,rfl,trivial⟩,hle1.trans hle2,hc1.mono hle2,hc2,hn3,hS3⟩
 rintro e a1 w1 ⟨ρ1,hf1,rfl,p2,p3,b4,G1,hF1,hle1,hc2,hc3,hb4,hS1⟩
 refine wpIn_seq (wpIn_seq (wpIn_mono (WY.at (Q:=fun e ρ w'=>e = .normal ∧ ∃ pc G2,FR ρ [(3, .pointer (some p3)),(4, .pointer (some ⟨b4,0,none⟩)),(7, .func (.func 337) #[] #[.pointer (some pc)])] ∧ G1.le G2 ∧ YC G2 pc [.int .i64 c.kind,Zb c.col,Zb c.oth, .int .i64 c.v.k, .int .i64 c.v.n,Zb c.v.s,lv] ∧ St w [] G G2 [some (b4,4,[.bool false])] w') ?_ hf1) ?_))
 ·refine WY.set hF1 <| WY.region ?_
  refine WI.op rfl (fun _ h=>nomatch h) (Zc hS1 hc2 [.int .i64 c.kind,Zb c.col,Zb c.oth, .int .i64 c.v.k, .int .i64 c.v.n,Zb c.v.s,lv] Z5 rfl rfl rfl rfl rfl ?_)
  refine WI.op rfl (fun _ h=>nomatch h) (XJ _ _ hbE rfl rfl rfl ((Zqx hS1.imm (CndE.mono hle1 hc0)).mono ?_))
  rintro e' w2 ⟨pc,G2,rfl,hres,hpc⟩
  exact ⟨_,rfl,WI.nil ⟨rfl,pc,G2,⟨rfl,rfl,rfl,trivial⟩,hres.le,hpc,hS1.call hres⟩⟩
 rintro e a2 w2 ⟨ρ2,hf2,rfl,pc,G2,hF2,hle2,hpc,hS2⟩
 have hle:=hle1.trans hle2
 have hp3:=hc3.mono hle2
 have hev:=hf2.eval
 have h4 : a2.tmps.getD 4 undef = .pointer (some ⟨b4,0,none⟩):=(hf2.get 4).trans hF2.2.1
 have hfr : ∀ D,w2.heap.size ≤ D → G2 D = none:=fun D hD=>hS2.imm.fresh hD
 have hw2:=hS2.kept.size
 refine wpIn_block (ZoX (by rw [hev]; exact hF2.2.2.1) hbS (ZnR hn hS2.imm (CndE.mono hle hc0) hpc)
  (fun pre W=>St w [] G G2 [some (b4,4,[.bool false])] W ∧ ∀ s ∈ pre,0 ≤ YT l s)
  (fun cd pre W=>cd = .ret ∧ St w [] G G2 [some (b4,4,[.bool false])] W ∧ ∃ s ∈ pre,YT l s < 0)
  (fun s A A' h k=>⟨h.1.step k,h.2⟩)
  (fun s A i o o' h hi ho hc=>⟨h.1.putObj o' ho hc (by omega) (hfr _ hi),h.2⟩)
  (fun cd s A i o o' h hi ho hc=>⟨h.1,h.2.1.putObj o' ho hc (by omega) (hfr _ hi),h.2.2⟩)
  ⟨hS2,fun s hs=>by cases hs⟩ _ (fun i x W K hK=>Zk3 hf2 rfl rfl hK) ?_ ?_ ?_)
 ·
  rintro i pre x W ⟨hS3,hall⟩ hlen
  have hf3:=Zmz (v:=Zb x) hf2 (p:=8) (d:=5) rfl rfl
  refine wpIn_mono (WY.atR (Q:=(fun e _ W'=>∀ a,ownPostK (KB w2.heap.size) (fun pre W=>St w [] G G2 [some (b4,4,[.bool false])] W ∧ ∀ s ∈ pre,0 ≤ YT l s) (fun cd pre W=>cd = .ret ∧ St w [] G G2 [some (b4,4,[.bool false])] W ∧ ∃ s ∈ pre,YT l s < 0) (pre ++ [x]) W e a W')) ?_ hf3) (fun e a W' ⟨_,_,h⟩=>h a)
  refine WY.set (l:=[(3, .pointer (some p3)),(4, .pointer (some ⟨b4,0,none⟩)),(5,Zb x)]) ⟨hF2.1,hF2.2.1,rfl,trivial⟩ ?_
  refine WY.block <| WY.seq <| WY.region ?_
  refine WI.op rfl (fun _ h=>nomatch h) (Za hS3 hp3 tiS rfl rfl rfl ?_)
  refine WI.op rfl (fun _ h=>nomatch h) (WL.move rfl ?_)
  refine WI.op rfl (fun _ h=>nomatch h) (XJ _ _ hbC rfl rfl rfl ((Zck hS3.imm l x _ (hvl.mono hle)).mono ?_))
  rintro e' w4 ⟨r,G3,rfl,hres,rfl⟩
  refine ⟨_,rfl,?_⟩
  rw [← Zla]
  have hS4:=hS3.step hres.kept
  by_cases hx : 0 ≤ YT l x
  ·rw [decide_eq_true hx]
   refine WI.op rfl (fun _ h=>nomatch h) (WL.not true rfl rfl ?_)
   refine WI.nil <| WY.condF rfl <| WY.skip ?_
   exact fun _=>⟨hres.kept.others,hres.kept.kb,hS4,fun s hs=>by
    rcases List.mem_append.1 hs with hs | hs
    ·exact hall s hs
    ·rw [List.mem_singleton.1 hs]; exact hx⟩
  ·rw [decide_eq_false hx]
   refine WI.op rfl (fun _ h=>nomatch h) (WL.not false rfl rfl ?_)
   have hcell:=hS4.own 0 _ rfl
   have hsl:=St.lent hS4.imm hcell (hS4.sep 0 _ rfl).2
   refine WI.nil <| WY.condT rfl <| WY.seq <| WY.region ?_
   refine WI.op rfl (fun _ h=>nomatch h) (WL.store hsl 0 _ _ _ 0 _ [.bool false] [.bool false] _ rfl rfl tiB rfl (Nat.le_of_ble_eq_true rfl) rfl rfl rfl rfl rfl rfl (fun w5 hS5=>?_))
   refine WI.nil <| WY.ret ?_
   exact fun _=>⟨hres.kept.others.trans (hS5.kept.others1 hcell),rfl,hS4.callX 0 rfl [.bool false] hS5.res (hS5.own 0 _ rfl),x,by simp,by omega⟩
 ·
  rintro D W hD ⟨hS3,hall⟩ hK
  have hcell:=hS3.own 0 _ rfl
  have hsl:=St.lent hS3.imm hcell (hS3.sep 0 _ rfl).2
  show (Code.seq _ _).wpIn Fence.wide 2 Tryz.prog _ _ W
  refine wpIn_seq (wpIn_region_lit (Zk2 (ρ:=ρ2) (J:=fun w5=>St W [b4] G2 G2 [some (b4,4,[.bool true])] w5) ?_ rfl rfl (fun _ h=>nomatch h) ?_ ?_))
  ·exact (show a2.eval = ev ρ2 from hev)
  ·exact WL.store hsl 0 _ _ _ 0 _ [.bool true] [.bool true] _ rfl rfl tiB rfl (Nat.le_of_ble_eq_true rfl) rfl rfl rfl rfl hF2.2.1 rfl (fun w5 hS5=>hS5)
  ·intro w5 hS5
   have hK5 : w5.heap[D]? = some (.deferred (some [])):=(hS5.kept.block D (Array.getElem?_eq_some_iff.1 hK).1 (by
    intro hm; rw [List.mem_singleton.1 hm,hcell] at hK; cases hK)).trans hK
   have hS6:=hS3.callX 0 rfl [.bool true] hS5.res (hS5.own 0 _ rfl)
   refine wpIn_ret ?_
   exact (show LeavesInM _ _ _ _ _ _ ({ target:= .collected D,args:=#[] } :: a2.defers) _ _ by
    rw [hf2.defers]
    exact ZhL hS6 hK5 (by omega) (hfr _ hD) (List.all_eq_true.2 fun s hs=>decide_eq_true (hall s hs)).symm h4)
 ·rintro D cd pre W hD hpre ⟨rfl,hS3,s,hs,hneg⟩ hK
  refine wpIn_ret ?_
  exact (show LeavesInM _ _ _ _ _ _ ({ target:= .collected D,args:=#[] } :: a2.defers) _ _ by
   rw [hf2.defers]
   exact ZhL hS3 hK (by omega) (hfr _ hD) (List.all_eq_false.2 ⟨s,hpre.subset hs,by rw [decide_eq_false (by omega)]; simp⟩).symm h4)
end Go.Civ
set_option linter.unusedVariables false
set_option linter.unusedSimpArgs false
set_option maxRecDepth 100000
set_option maxHeartbeats 4000000
namespace Go.Civ
open Go.Proofs
theorem Zoa {G : GH} {w : World} (hG : G.In w) (c : Col) (cc : List Value) (hcc : ColE.rep G c cc) : CL Tryz.prog (nat_lit 42) #[.agg cc.toArray] [] w G fun _ _ r=>r = .bool (decide (60 < (c.name.length : Int))):=by
 refine Zo ft [] Tryz.func42 V V ?_
 have hS:=St.start (X:=[]) hG
 obtain ⟨rfl,B1,B2⟩:=Yh hcc
 refine ZL [Zb c.name,U c.kind] _ hS V V V (fun p1 w1 G1 L1 M1 C1 S1=>?_)
 refine Za S1 (YC.drop 0 C1) Zy V V V <| Xo c.name Q2 V V <| YK .gtr V .i64 (c.name.length : Int) 60 V V V ?_
 exact RB S1 V (by rfl)
theorem Zpc {G : GH} {w : World} (hG : G.In w) (s : Schema) (cs : List Value) (hcs : SchemaE.rep G s cs) : CL Tryz.prog (nat_lit 40) #[.agg cs.toArray] [] w G fun _ _ r=>r = .bool (Zdc s):=by
 refine Zo ft [] Tryz.func40 V V ?_
 have hS:=St.start (X:=[]) hG
 obtain ⟨v1,v2,rfl,B1,A1,B2,A2⟩:=Xb hcs
 refine ZL [Zb s.name,v1,U s.key,v2] _ hS V V V (fun p1 w1 G1 L1 M1 C1 S1=>?_)
 refine Za S1 (YC.drop 1 C1) Yb V V V ?_
 have V1:=A1.bound
 refine Zl (A1.mono L1) Yx V V ?_
 refine Yk (s.cols.length : Int) 10 V V V (fun h1=>?_) (fun h1=>?_)
 ·exact RB S1 V (by exact ZsM (by omega))
 refine Za S1 (YC.drop 3 C1) Zo3 V V V ?_
 have V2:=A2.bound
 refine Zl (A2.mono L1) ZlQ V V ?_
 refine Yk (s.fks.length : Int) 10 V V V (fun h2=>?_) (fun h2=>?_)
 ·exact RB S1 V (by exact ZsN (by omega))
 refine Za S1 (YC.drop 0 C1) Zy V V V <| Xo s.name Q2 V V ?_
 refine Yk (s.name.length : Int) 60 V V V (fun h3=>?_) (fun h3=>?_)
 ·exact RB S1 V (by exact ZsO (by omega))
 refine Za S1 (YC.drop 1 C1) Yb V V V ?_
 refine Zw S1 XN V V V (Zg5 S1.imm s.cols (fun x8=>decide (60 < (x8.name.length : Int))) _ (A1.mono L1) 42 #[] ⟨Qo,fun G8 w8 v8 x8 L8 hG8 hon8 hA8=>by obtain ⟨cs_x8,rfl,hr_x8⟩:=hA8; exact Zoa hG8 x8 cs_x8 hr_x8⟩) (fun w2 G2 S2 L2=>?_)
 exact RB S2 V (by exact ZsP (by omega) (by omega) (by omega))
theorem Zq8 {G : GH} {w : World} (hG : G.In w) (q : Query) (l : List Schema) (cq : List Value) (hcq : QryE.rep G q cq) (vl : Value) (hvl : Sl SchemaE 72 G vl l) : CL Tryz.prog (nat_lit 9) #[.agg cq.toArray,vl] [] w G fun _ _ r=>r = .bool (Zdd q l):=by
 refine Zo ft [] Tryz.func9 V V ?_
 have hS:=St.start (X:=[]) hG
 obtain ⟨v1,v2,v3,v4,rfl,B1,B2,A1,A2,B3,B4,B5,B6,B7,ZK,A3,hb9,Z9,Z7,Z6,A4⟩:=Ze hcq
 refine ZL (QV q v1 v2 v3 v4) _ hS V V V (fun p1 w1 G1 L1 M1 C1 S1=>?_)
 refine WL.alloc S1 Z3 V V (fun b1 w2 N1 S2=>?_)
 refine ZY S2 0 [U 120] V V Z3 V V V V V V (fun w3 S3=>?_)
 refine Zc S3 C1 (QV q v1 v2 v3 v4) Zg V V V V V ?_
 refine XG Yf V V V (Zsb (Yc q) S3.imm q 0 120 _ (Zd q B1 B2 (A1.mono L1) (A2.mono L1) B3 B4 B5 B6 B7 ZK (A3.mono L1) hb9 Z9 Z7 Z6 (A4.mono L1)) _ (S3.lentAt 0 V) (by omega) (by omega) (YU _)) (fun w4 G2 r1 hres1 ⟨P1,hlc1⟩=>?_)
 have S4 : St w [] G G2 [some (b1,3,[U ((YN (Yc q) q 0 120).2)])] w4:=S3.callX 0 V [U ((YN (Yc q) q 0 120).2)] hres1 (hlc1 _ V).1
 have L2:=hres1.le
 subst P1
 refine WL.split (fun (h1 : ((YN (Yc q) q 0 120).1) = true)=>?_) (fun (h1 : ((YN (Yc q) q 0 120).1) = false)=>?_)
 ·have V1:=hvl.bound
  refine Zl (hvl.mono (L1.trans L2)) Zb3 V V ?_
  refine Qd (l.length : Int) 10 V V V (fun h2=>?_) (fun h2=>?_)
  ·refine Zw S4 Qj V V V (ZfO S4.imm l (fun x8=>Zdc x8) _ (hvl.mono (L1.trans L2)) 40 #[] ⟨Qk,fun G8 w8 v8 x8 L8 hG8 hon8 hA8=>by obtain ⟨cs_x8,rfl,hr_x8⟩:=hA8; exact Zpc hG8 x8 cs_x8 hr_x8⟩) (fun w5 G3 S5 L3=>?_)
   exact RB S5 V (by exact ZsL ‹_› (by omega))
  exact RB S4 V (by exact ZsK (by omega))
 exact RB S4 V (by exact ZsJ ‹_›)
theorem Zq9 {G : GH} {w : World} (hG : G.In w) (t : Schema) (nm : List UInt8) (z1 : Int) (ct : List Value) (hct : SchemaE.rep G t ct) (r1 : Value) (r2 : Value) (ps : Addr) (hps : YC G ps [Zb nm,r1,U z1,r2]) : CL Tryz.prog (nat_lit 47) #[.agg ct.toArray,Zu ps] [] w G fun _ _ r=>r = .bool (decide (t.name = nm)):=by
 refine Zo ft [] Tryz.func47 V V ?_
 have hS:=St.start (X:=[]) hG
 obtain ⟨v1,v2,rfl,B1,A1,B2,A2⟩:=Xb hct
 refine ZL [Zb t.name,v1,U t.key,v2] _ hS V V V (fun p1 w1 G1 L1 M1 C1 S1=>?_)
 refine Za S1 (YC.drop 0 C1) Zy V V V <| Za S1 (YC.drop 0 (hps.mono L1)) Zy V V V <| Zn .eql V t.name nm V V V ?_
 exact RB S1 V (by simp [SCmp.b])
theorem Zsc {G : GH} {w : World} (hG : G.In w) (l : List Schema) (vl : Value) (hvl : Sl SchemaE 72 G vl l) : CL Tryz.prog (nat_lit 11) #[vl] [] w G fun _ _ r=>r = .bool (QG l):=by
 refine Zo ft [] Tryz.func11 V V ?_
 have hS:=St.start (X:=[]) hG
 have V1:=hvl.bound
 refine Zl hvl Zb3 V V ?_
 refine LP.go ft [] (fun m ρ1 w1=>∃ (k1 : Nat),∃ (G1 : GH),m = l.length - k1 ∧ G.le G1 ∧ St w [] G G1 [] w1 ∧ FR ρ1 [(0,vl),(5,vl),(6,U (l.length : Int)),(7,U (k1 : Int))] ∧ k1 ≤ l.length ∧ ∀ j,j < k1 → ∀ s,l[j]? = some s → gdA l j s = true) _ ⟨0,G,V,(G.le_refl),hS,(Yt V),(by omega),(by intro j hj; omega)⟩ ?_
 rintro m ρ1 w1 ⟨k1,G1,rfl,L1,S1,F9,f1,f2⟩
 refine F9.set ?_
 clear F9
 refine Z1 (k1 : Int) (l.length : Int) V V V (fun h1=>?_) (fun h1=>?_)
 ·refine WL.indexAddr (hvl.mono L1) k1 (by omega) Zb3 Xu V V V V (fun p1 x1 U1 E1=>?_)
  obtain ⟨D1,C1,R1⟩:=E1
  have T1:=Xb R1
  obtain ⟨v1,v2,rfl,B1,A1,B2,A2⟩:=T1
  refine Zc S1 C1 [Zb x1.name,v1,U x1.key,v2] Xu V V V V V ?_
  refine WL.alloc S1 Xu V V (fun b1 w2 N1 S2=>?_)
  refine ZY S2 0 [Zb x1.name,v1,U x1.key,v2] V V Xu V V (by simp only [ZW,A1.oneC,A2.oneC] <;> rfl) V V V (fun w3 S3=>?_)
  have T2:=S3.shutB N1
  obtain ⟨G2,L2,C2,S4⟩:=T2
  refine Zc S4 C2 [Zb x1.name,v1,U x1.key,v2] Xu V V V V V ?_
  refine Zw S4 Qt V V V (Zfi S4.imm x1 _ (Qu x1 B1 (A1.mono L2) B2 (A2.mono L2))) (fun w4 G3 S5 L3=>?_)
  refine WL.split (fun (h2 : (X3 x1) = true)=>?_) (fun (h2 : (X3 x1) = false)=>?_)
  ·refine ZbY (hvl.mono ((L1.trans L2).trans L3)) k1 (by omega) Zb3 Xu V V V V (fun v3 A3=>?_)
   refine Zw S5 Qj V V V (ZfO S5.imm (l.take k1) (fun x8=>decide (x8.name = x1.name)) _ A3 47 #[.pointer (some (⟨b1,0,none⟩ : Addr))] ⟨QJ,fun G8 w8 v8 x8 L8 hG8 hon8 hA8=>by obtain ⟨cs_x8,rfl,hr_x8⟩:=hA8; exact Zq9 hG8 x8 x1.name x1.key cs_x8 hr_x8 v1 v2 (⟨b1,0,none⟩ : Addr) ((C2.mono L3).mono L8)⟩) (fun w5 G4 S6 L4=>?_)
   refine WL.split (fun (h3 : ((l.take k1).any (fun x8=>decide (x8.name = x1.name))) = true)=>?_) (fun (h3 : ((l.take k1).any (fun x8=>decide (x8.name = x1.name))) = false)=>?_)
   ·exact RB S6 V (by exact (Zbb ‹_› (ZrW ‹_›)).symm)
   refine ZC k1 (by have:=Zm; omega) V V V ?_
   exact BK.mk' _ ⟨k1 + 1,G4,V,(L1.trans ((L2.trans L3).trans L4)),S6,(Yt V),(by omega),(by exact Za9 (P:=fun j s=>gdA l j s = true) ‹_› ‹_› (ZrX ‹_› ‹_›))⟩ (show l.length - (k1 + 1) < l.length - k1 by omega)
  exact RB S5 V (by exact (Zbb ‹_› (ZrV ‹_›)).symm)
 exact RB S1 V (by exact (Zn2 ‹_› (by omega)).symm)
end Go.Civ
