/- Lemmas. -/
import Derived.Test.YtecneejegecmhaaGreatDoorK32
set_option linter.unusedVariables false
set_option linter.unusedSimpArgs false
set_option linter.unnecessarySimpa false
set_option linter.unusedVariables false
namespace Go.Civ
open Go.Proofs Go.RowKit
def wrL : List Nat:=[0,173,174,176,178,179,180,181,182,185,186]
theorem ZrD {G : GH} {w : World} (hG : G.In w) (hg : Glob G) (n : Nat) (q : Query) (cq : List Value) (hcq : QryE.rep G q cq) (hn : Xx q n) (ht : TxN n q) (hb : (Ya q).length ≤ 100000) {y : Nat} (hx : wrL[q.kind.toNat]? = some y) :
  fnv y = .func (.func y) #[] #[] ∧ Zi Tryz.prog y ∧ CL Tryz.prog y #[.agg cq.toArray] [] w G fun _ _ r=>r = Za (Ya q):=by
 have hk:=ht.kd
 have e : q.kind = 1 ∨ q.kind = 2 ∨ q.kind = 3 ∨ q.kind = 4 ∨ q.kind = 5 ∨ q.kind = 6 ∨ q.kind = 7 ∨ q.kind = 8 ∨ q.kind = 9 ∨ q.kind = 10:=by omega
 rcases e with h | h | h | h | h | h | h | h | h | h <;> rw [h] at hx <;> obtain rfl:=Option.some.inj hx
 ·exact ⟨rfl,Zzr,ZzR hG n q cq hcq hn ht h hb⟩
 ·exact ⟨rfl,Zzs,ZzS hG n q hg cq hcq hn ht h hb⟩
 ·exact ⟨rfl,Zzt,ZzT hG n q cq hcq hn ht h hb⟩
 ·exact ⟨rfl,Zzu,ZzU hG n q cq hcq hn ht h hb⟩
 ·exact ⟨rfl,Zzv,ZzV hG n q cq hcq hn ht h hb⟩
 ·exact ⟨rfl,Zzw,ZzW hG n q cq hcq hn ht h hb⟩
 ·exact ⟨rfl,Zzx,ZzX hG n q cq hcq hn ht h hb⟩
 ·exact ⟨rfl,Zzy,ZzY hG n q hg cq hcq hn ht h hb⟩
 ·exact ⟨rfl,Zzz,ZzZ hG n q cq hcq hn ht h hb⟩
 ·exact ⟨rfl,Zz0,Zx5 hG n q cq hcq hn ht h hb⟩
end Go.Civ
namespace Go.Civ
open Go.RowKit
set_option linter.unusedVariables false
section
variable {q x y : Query} {s t a z : Str} {l : List Str} {k : Nat}
theorem Z13 (h : l[k]? = some a) (hk : ¬ 0 < k) : Z2 s (l.take k) ++ a = Z2 s (l.take (k + 1)):=by
 obtain rfl : k = 0:=by omega
 rw [List.take_add_one,h,List.take_zero,Zlu]; simp [Zb8]
theorem Z14 (h : l[k]? = some a) (hk : 0 < k) : Z2 s (l.take k) ++ s ++ a = Z2 s (l.take (k + 1)):=by
 have hl:=(List.getElem?_eq_some_iff.1 h).1
 rw [List.take_add_one,h,Option.toList_some,ZmK]
 intro e
 have : (l.take k).length = 0:=by rw [e]; rfl
 rw [List.length_take] at this; omega
theorem Z15 (s : Str) (l : List Str) : ∀ k : Nat,(Z2 s (l.take k)).length ≤ (Z2 s l).length:=by
 intro k
 by_cases hk : l.length ≤ k
 ·rw [List.take_of_length_le hk]; exact Nat.le_refl _
 ·have key : ∀ (m : List Str) (n : Str) (r : List Str),(Z2 s (n :: m)).length ≤ (Z2 s (n :: (m ++ r))).length:=by
   intro m
   induction m with
   | nil=>
    intro n r
    cases r with
    | nil=>exact Nat.le_refl _
    | cons b r=>rw [List.nil_append,ZaN,Zb8]; simp
   | cons c m ih=>
    intro n r
    rw [List.cons_append,ZaN,ZaN]
    have:=ih c r
    simp only [List.length_append] at this ⊢
    omega
  cases l with
  | nil=>simp at hk
  | cons n l=>
   cases k with
   | zero=>simp [Zlu]
   | succ k=>
    rw [List.take_succ_cons]
    have:=key (l.take k) n (l.drop k)
    rwa [List.take_append_drop] at this
theorem Zko (a b : Str) (ha : a.length ≤ 300000) (hb : b.length ≤ 300000) : ([32,40] ++ a ++ [44,32] ++ b ++ [41]).length ≤ 600010:=by
 simp only [List.length_append,List.length_cons,List.length_nil]; omega
theorem Z16 (h : q.kind = 1) (h0 : q.l.length = 0) : [115,99,97,110,32] ++ q.table = Z0 q:=by rw [Zlm h,ZqT (by omega)]
theorem Zgk {u : Str} (h : u = Ya q) (hl : (q.l.length : Int) = 1) (h0 : q.l[0]? = some x) : u ++ [32,111,102,32] ++ Z0 x = Z0 q:=by rw [h]; exact ZqU hl h0
theorem Z17 (h : q.kind = 2) (hl : (q.l.length : Int) = 1) (h0 : q.l[0]? = some x) : [115,101,108,101,99,116,32,40] ++ YL q.cond ++ [41,32,111,102,32] ++ Z0 x = Z0 q:=by
 rw [← Zgk (Zn5 h) hl h0]; simp
theorem Z18 (h : q.kind = 3) (hl : (q.l.length : Int) = 1) (h0 : q.l[0]? = some x) : [112,114,111,106,101,99,116,32] ++ Z2 sJ q.cols ++ [32,111,102,32] ++ Z0 x = Z0 q:=Zgk (Zn6 h) hl h0
theorem Z19 (h : q.kind = 4) (hl : (q.l.length : Int) = 1) (h0 : q.l[0]? = some x) : [114,101,110,97,109,101,32] ++ Z2 sJ (Qy q.cols q.names) ++ [32,111,102,32] ++ Z0 x = Z0 q:=Zgk (Zn7 h) hl h0
theorem Z1A (h : q.kind = 8) (hl : (q.l.length : Int) = 1) (h0 : q.l[0]? = some x) : [100,117,114,105,110,103,32] ++ Yk q.span.a ++ [32,116,111,32] ++ Yk q.span.b ++ [32,111,102,32] ++ Z0 x = Z0 q:=Zgk (Zrf h) hl h0
theorem Zoh {u : Str} (h : u = Ya q) (h0 : q.l[0]? = some x) (h1 : q.l[1]? = some y) : u ++ ([32,40] ++ Z0 x ++ [44,32] ++ Z0 y ++ [41]) = Z0 q:=by rw [h,← ZqV h0 h1]; simp only [List.append_assoc]
theorem Z1B (h : q.kind = 5) (h0 : q.l[0]? = some x) (h1 : q.l[1]? = some y) : [106,111,105,110] ++ ([32,40] ++ Z0 x ++ [44,32] ++ Z0 y ++ [41]) = Z0 q:=Zoh (Zrc h) h0 h1
theorem Z1C (h : q.kind = 6) (h0 : q.l[0]? = some x) (h1 : q.l[1]? = some y) : [117,110,105,111,110] ++ ([32,40] ++ Z0 x ++ [44,32] ++ Z0 y ++ [41]) = Z0 q:=Zoh (Zrd h) h0 h1
theorem Z1D (h : q.kind = 7) (h0 : q.l[0]? = some x) (h1 : q.l[1]? = some y) : [101,120,99,101,112,116] ++ ([32,40] ++ Z0 x ++ [44,32] ++ Z0 y ++ [41]) = Z0 q:=Zoh (Zre h) h0 h1
theorem Z0a (h : q.kind = 10) (h0 : q.l[0]? = some x) (h1 : q.l[1]? = some y) : [114,101,108,97,116,101,32] ++ Z2 sJ (XA q.rel 13) ++ ([32,40] ++ Z0 x ++ [44,32] ++ Z0 y ++ [41]) = Z0 q:=Zoh (ZjQ h) h0 h1
theorem Z0b {f : Str} (h : q.kind = 9) (hg : 1 ≤ q.fn ∧ q.fn ≤ 4) (hn : (q.names.length : Int) = if q.fn = 1 then 1 else 2) (hf : f = fnN q.fn) (hc : 0 < (q.cols.length : Int)) (h1 : ¬ q.fn = 1) (hx : q.names[0]? = some s) (hy : q.names[q.names.length - 1]? = some t) (hl : (q.l.length : Int) = 1) (h0 : q.l[0]? = some x) :
  [103,114,111,117,112,32] ++ Z2 sJ q.cols ++ [32] ++ (f ++ [32] ++ s) ++ [32,97,115,32] ++ t ++ [32,111,102,32] ++ Z0 x = Z0 q:=by
 rw [if_neg h1] at hn
 refine Zgk ?_ hl h0
 rw [← Zee h,← Zlq hf hc (by omega) hx hy]
 simp [ZaN,Zb8]
theorem Z0c {f : Str} (h : q.kind = 9) (hg : 1 ≤ q.fn ∧ q.fn ≤ 4) (hn : (q.names.length : Int) = if q.fn = 1 then 1 else 2) (hf : f = fnN q.fn) (hc : 0 < (q.cols.length : Int)) (h1 : q.fn = 1) (hy : q.names[q.names.length - 1]? = some t) (hl : (q.l.length : Int) = 1) (h0 : q.l[0]? = some x) :
  [103,114,111,117,112,32] ++ Z2 sJ q.cols ++ [32] ++ f ++ [32,97,115,32] ++ t ++ [32,111,102,32] ++ Z0 x = Z0 q:=by
 rw [if_pos h1] at hn
 refine Zgk ?_ hl h0
 rw [← Zee h,← Zlr hf hc (by omega) hy]
 simp [ZaN,Zb8]
theorem Z0d {f : Str} (h : q.kind = 9) (hg : 1 ≤ q.fn ∧ q.fn ≤ 4) (hn : (q.names.length : Int) = if q.fn = 1 then 1 else 2) (hf : f = fnN q.fn) (hc : ¬ 0 < (q.cols.length : Int)) (h1 : ¬ q.fn = 1) (hx : q.names[0]? = some s) (hy : q.names[q.names.length - 1]? = some t) (hl : (q.l.length : Int) = 1) (h0 : q.l[0]? = some x) :
  [103,114,111,117,112,32] ++ (f ++ [32] ++ s) ++ [32,97,115,32] ++ t ++ [32,111,102,32] ++ Z0 x = Z0 q:=by
 rw [if_neg h1] at hn
 refine Zgk ?_ hl h0
 rw [← Zee h,← Zls hf hc (by omega) hx hy]
 simp [ZaN,Zb8]
theorem Z0e {f : Str} (h : q.kind = 9) (hg : 1 ≤ q.fn ∧ q.fn ≤ 4) (hn : (q.names.length : Int) = if q.fn = 1 then 1 else 2) (hf : f = fnN q.fn) (hc : ¬ 0 < (q.cols.length : Int)) (h1 : q.fn = 1) (hy : q.names[q.names.length - 1]? = some t) (hl : (q.l.length : Int) = 1) (h0 : q.l[0]? = some x) :
  [103,114,111,117,112,32] ++ f ++ [32,97,115,32] ++ t ++ [32,111,102,32] ++ Z0 x = Z0 q:=by
 rw [if_pos h1] at hn
 refine Zgk ?_ hl h0
 rw [← Zee h,← Zlt hf hc (by omega) hy]
 simp [ZaN,Zb8]
end
end Go.Civ
namespace Go.Civ
open Go.RowKit
set_option linter.unusedVariables false
section
variable {q : Query} {S : List Schema} {n : Nat}
theorem Zoj (h1 : q.cols.length ≤ 20) (h2 : q.names.length ≤ 20) (h3 : ∀ x ∈ q.l,∀ n,smQ n x) : ∀ n,smQ n q
 | 0=>trivial
 | n + 1=>⟨h1,h2,fun x hx=>h3 x hx n⟩
end
theorem Zt5 : ∀ n,smQ n pwQ:=
 Zoj (by decide) (by decide) fun x hx=>by
  rw [List.mem_singleton.1 hx]
  exact Zoj (by decide) (by decide) fun y hy=>by
   rw [List.mem_singleton.1 hy]
   exact Zoj (by decide) (by decide) fun z hz=>by cases hz
section
variable {x : Stp} {y : Query}
theorem Z1G (h : ¬ (ofT pwQ pwL).2 = 0) : False:=h Zrt.1
theorem Z1H (h : ¬ (XZ pwQ pwL).2 = 0) : False:=h (congrArg Prod.snd ZnE)
theorem Z1I : (ofT pwQ pwL).1.steps.length = 3:=by rw [Zrt.2]; rfl
theorem Z1J (h : ¬ (((ofT pwQ pwL).1.steps.length : Nat) : Int) = 3) : False:=h (by rw [Z1I]; rfl)
theorem Z1K (hx : (ofT pwQ pwL).1.steps[0]? = some x) : x.span = ⟨0,10⟩:=by rw [Zrt.2] at hx; obtain rfl:=Option.some.inj hx; rfl
theorem Z1L (h : ¬ (XZ pwQ pwL).1.kind = 2) : False:=h (by rw [ZnE])
theorem Z1M : (XZ pwQ pwL).1.l.length = 1:=by rw [ZnE]; rfl
theorem Z1N (h : ¬ (((XZ pwQ pwL).1.l.length : Nat) : Int) = 1) : False:=h (by rw [Z1M]; rfl)
theorem Z1O (hx : (XZ pwQ pwL).1.l[0]? = some y) : y.kind = 8:=by rw [ZnE] at hx; obtain rfl:=Option.some.inj hx; rfl
end
end Go.Civ
namespace Go.Civ
set_option linter.unusedVariables false
inductive Sim : Query → Prop
 | scan (q : Query) : q.kind = 1 → q.l = [] → Sim q
 | one (q c : Query) : q.kind = 2 ∨ q.kind = 8 → q.l = [c] → Sim c → Sim q
section
variable {q x : Query} {S : List Schema}
theorem Sim.kd (h : Sim q) : q.kind = 1 ∨ q.kind = 2 ∨ q.kind = 8:=by
 cases h with
 | scan _ h=>exact .inl h
 | one _ _ h=>exact .inr h
theorem Sim.kid (h : Sim q) (hx : x ∈ q.l) : Sim x:=by
 cases h with
 | scan _ _ h=>rw [h] at hx; cases hx
 | one _ c _ h2 h3=>rw [h2] at hx; rw [List.mem_singleton.1 hx]; exact h3
theorem Sim.len (h : Sim q) : (q.kind = 1 → q.l.length = 0) ∧ (¬ q.kind = 1 → q.l.length = 1):=by
 cases h with
 | scan _ h1 h2=>rw [h2]; exact ⟨fun _=>rfl,fun e=>absurd h1 e⟩
 | one _ c h1 h2 _=>rw [h2]; exact ⟨fun e=>by omega,fun _=>rfl⟩
theorem Sim.le (h : Sim q) : q.l.length ≤ 1:=by
 have:=h.len
 by_cases e : q.kind = 1
 ·rw [this.1 e]; omega
 ·rw [this.2 e]; exact Nat.le_refl _
theorem Sim.ar (h : Sim q) : arQ q:=by
 have h1:=h.kd
 have h2:=h.len
 exact ⟨fun e=>by omega,fun e=>by omega⟩
theorem Sim.dur {nd : Query} (hn : nd.kind = 8) (h : Sim x) : Sim (XY nd x):=by
 induction h with
 | scan x h1 h2=>
  rw [← ZqR (by omega) (by omega) (by omega) (by omega) (by omega) (by omega) (by omega) (by omega)]
  exact .one _ x (.inr hn) rfl (.scan x h1 h2)
 | one x c h1 h2 h3 ih=>
  rcases h1 with h1 | h1
  ·rw [← ZqQ (.inl h1) (show x.l[0]? = some c by rw [h2]; rfl)]
   exact .one _ _ (.inl h1) rfl ih
  ·cases hm : (ZX nd.span x.span).2 with
   | true=>
    rw [← ZvX h1 hm (show x.l[0]? = some c by rw [h2]; rfl)]
    exact .one _ c (.inr hn) rfl h3
   | false=>
    rw [← ZvY h1 hm]
    exact .one _ x (.inr hn) rfl (.one x c (.inr h1) h2 h3)
theorem Sim.sel {nd : Query} (hn : nd.kind = 2) (h : Sim x) : Sim (QL S nd x):=by
 have hk:=h.kd
 rw [← Zrl (by omega) (by omega) (by omega) (by omega) (by omega) (by omega) (by omega)]
 exact .one _ x (.inl hn) rfl h
theorem Sim.push (h : Sim q) : Sim (Yg S q):=by
 induction h with
 | scan q h1 h2=>
  rw [← Zro (q:=q) (by omega) (by omega)]
  exact .scan _ h1 (by rw [h2]; rfl)
 | one q c h1 h2 h3 ih=>
  have h0 : (q.l.map (Yg S))[0]? = some (Yg S c):=by rw [h2]; rfl
  rcases h1 with h1 | h1
  ·rw [← Zrn h1 h0]; exact ih.sel h1
  ·rw [← Zrm h1 h0]; exact ih.dur h1
theorem Zqk {y : Query} (h : Sim q) (h0 : (q.l.map (Yg S))[0]? = some y) : Sim y:=by
 obtain ⟨x,hx,rfl⟩:=List.mem_map.1 (List.mem_of_getElem? h0)
 exact (h.kid hx).push
end
theorem Zql : Sim pwQ:= .one _ pw1 (.inr rfl) rfl (.one _ pw0 (.inl rfl) rfl (.scan _ rfl rfl))
end Go.Civ
set_option linter.unusedVariables false
set_option linter.unusedSimpArgs false
set_option maxRecDepth 100000
set_option maxHeartbeats 4000000
namespace Go.Civ
open Go.Proofs
theorem ZuP (n : Nat) : ∀ {G : GH} {w : World} (hG : G.In w) (q : Query) (l : List Schema) (cq : List Value) (hcq : QryE.rep G q cq) (vl : Value) (hvl : Sl Qv 72 G vl l) (hsc : ∀ s ∈ l,s.cols.length ≤ 8) (hn : Xx q n) (hok : okQ n q) (hs : Sim q),CL Tryz.prog (nat_lit 70) #[.agg cq.toArray,vl] [] w G fun G' _ r=>∃ r0 r1,r = .tuple #[r0,r1] ∧ Sl ColE 24 G' r0 ((Xk n q l).1) ∧ r1 = U ((Xk n q l).2):=by
 induction n
 ·intro G w hG q l cq hcq vl hvl hsc hn hok hs; exact (hok).elim
 rename_i n ih
 intro G w hG q l cq hcq vl hvl hsc hn hok hs
 refine Zg ft [] Tryz.func70 V V ?_
 have hS:=St.start (X:=[]) hG
 have T1:=Zs hcq
 obtain ⟨v1,v2,v3,v4,rfl,B1,B2,A1,A2,Z7,Z5,ZD,hb6,hb7,ZV,A3,hb9,ZI,ZJ,ZL,A4⟩:=T1
 refine Z4 (QV q v1 v2 v3 v4) _ hS V V V (fun p1 w1 G1 L1 M1 C1 S1=>?_)
 refine WL.alloc S1 Zg6 V V (fun b1 w2 N1 S2=>?_)
 have S3:=S2.pad
 refine Z S3 (Xh.drop 15 C1) Yu V V V ?_
 have V1:=A4.bound
 refine Zm (A4.mono L1) Y1 V V ?_
 refine LP.go ft [] (fun m ρ1 w1=>∃ (k1 : Nat),∃ (v5 : Value) (o1 : OB),∃ (G2 : GH),m = q.l.length - k1 ∧ G1.le G2 ∧ St w [] G G2 [o1,some (b1,158,[v5])] w1 ∧ YX (ColE.slice 24) 24 23 G2 v5 ((q.l.take k1).map fun x=>(Xk n x l).1) o1 ∧ FR ρ1 [(1,vl),(2,ZP p1),(6, .pointer (some ⟨b1,0,none⟩)),(15,v4),(16,U (q.l.length : Int)),(17,U (k1 : Int))] ∧ k1 ≤ q.l.length ∧ ∀ j,j < k1 → ∀ x,q.l[j]? = some x → (Xk n x l).2 = 0) _ ⟨0,(Zf),none,G1,V,(G1.le_refl),S3,(YX.cast (YX.nil (ColE.slice 24) 24 23 G1) (by rfl)),(ZS V),(by omega),(by intro j hj; omega)⟩ ?_
 rintro m ρ1 w3 ⟨k1,v5,o1,G2,rfl,L2,S4,R1,F9,f1,f2⟩
 refine F9.set ?_
 clear F9
 refine Zp (k1 : Int) (q.l.length : Int) V V V (fun h1=>?_) (fun h1=>?_)
 ·refine WL.indexAddr (A4.mono (L1.trans L2)) k1 (by omega) Y1 Zt V V V V (fun p2 x1 U1 E1=>?_)
  obtain ⟨D1,C2,R2⟩:=E1
  have T2:=Zs R2
  obtain ⟨v6,v7,v9,v10,rfl,Y0,Y6,A5,A6,YA,Y9,Yr,YH,YJ,YO,A7,Xf,Xg,YK,Xc,A8⟩:=T2
  refine Zc S4 C2 (QV x1 v6 v7 v9 v10) Zt V V V V V ?_
  refine WL.alloc S4 Zt V V (fun b2 w4 N2 S5=>?_)
  refine WL.store S5 0 _ _ _ 0 _ (QV x1 v6 v7 v9 v10) (QV x1 v6 v7 v9 v10) _ V V Zt V (ZZ V) (by simp only [YE,A5.oneC,A6.oneC,A7.oneC,A8.oneC] <;> rfl) V V V V V (fun w5 S6=>?_)
  have T3:=S6.shutB N2
  obtain ⟨G3,L3,C3,S7⟩:=T3
  refine Zc S7 C3 (QV x1 v6 v7 v9 v10) Zt V V V V V ?_
  refine Yq S7 Zem V V V (ih S7.imm x1 l _ (Zr x1 Y0 Y6 (A5.mono L3) (A6.mono L3) YA Y9 Yr YH YJ YO (A7.mono L3) Xf Xg YK Xc (A8.mono L3)) _ (hvl.mono ((L1.trans L2).trans L3)) hsc (XN hn (List.mem_of_getElem? ‹_›)) (hok.2.2.2 _ (List.mem_of_getElem? ‹_›)) (hs.kid (List.mem_of_getElem? ‹_›))) ?_
  rintro w6 G4 _ ⟨r2,_,rfl,A9,rfl⟩ S8 L4
  refine Zz ((Xk n x1 l).2) 0 V V V (fun h2=>?_) (fun h2=>?_)
  ·exact RT S8 V ⟨_,_,V,(Sl.cast (Sl.nil ColE 24 G4) (by with_reducible exact (Zlc ‹_› ‹_› ‹_›).1)),(congrArg (Value.int .i64) (by with_reducible exact (Zlc ‹_› ‹_› ‹_›).2))⟩
  refine Yz S8 1 _ _ _ 0 _ V V Zg6 V V V ?_
  refine WL.buildSlice _ [(0,[r2])] [r2] S8 Zti V V V (by show [(0,(r2 : Value).cells.toList)] = _; simp only [A9.cells1] <;> rfl) (fun z hz=>by match z,hz with | [z0],_=>rfl) (fun b3 w7 N3 S9=>?_)
  refine WL.push (m:=([(Xk n x1 l).1] : List (List Col))) Zti V V V (R1.mono (L3.trans L4)) S9 1 V 0 _ _ _ _ _ V ⟨[r2],_,V,⟨_,V,A9⟩,V⟩ V (by have:=Zb; have hby9:=(by assumption : Sl QryE 224 G _ q.l).bytes; simp only [List.length_append,List.length_map,List.length_take,List.length_cons,List.length_nil]; omega) (by have:=Zb; have hby9:=(by assumption : Sl QryE 224 G _ q.l).bytes; simp only [List.length_append,List.length_map,List.length_take,List.length_cons,List.length_nil]; omega) V V V (fun v11 o2 w9 R3 S10=>?_)
  have S11:=S10.tail
  refine Z9 S11 1 [v11] V R3.cells1 Zg6 V V (by simp only [YE,R3.oneC] <;> rfl) V V V (fun w10 S12=>?_)
  refine Zq k1 (by have:=Zb; omega) V V V ?_
  exact BK.mk' _ ⟨k1 + 1,v11,o2,G4,V,(L2.trans (L3.trans L4)),S12,(YX.cast R3 (by (rw [List.take_add_one,(by assumption : q.l[k1]? = some _)]; simp))),(ZS V),(by omega),(by with_reducible exact Ys ‹_› ‹_› ‹_›)⟩ (show q.l.length - (k1 + 1) < q.l.length - k1 by omega)
 have T4:=YX.freeze R1 S4 0 V
 obtain ⟨G5,L5,A10,S13⟩:=T4
 have hins:=Sl.cast (l':=q.l.map fun x=>(Xk n x l).1) A10 (by rw [List.take_of_length_le (by omega)])
 have T5:=S13.sealAt 1 V N1
 obtain ⟨G6,L6,C4,S14⟩:=T5
 have hcf:=ZtX (by assumption : ∀ j,j < k1 → ∀ x,q.l[j]? = some x → (Xk n x l).2 = 0) (by omega)
 have hile:=ZvT hsc hok
 have hpl:=Zsm hok
 have hinl : (q.l.map fun x=>(Xk n x l).1).length = q.l.length:=List.length_map _
 have j1:=((L2.trans L5).trans L6)
 refine Z S14 (Xh.drop 0 (C1.mono j1)) Zk V V V ?_
 refine Ze q.kind 1 V V V (fun h3=>?_) (fun h3=>?_)
 ·refine Z S14 (Xh.drop 1 (C1.mono j1)) Zv V V V ?_
  refine Yq S14 ZcS V V V (Ziw S14.imm l q.table _ (hvl.mono (((L1.trans L2).trans L5).trans L6)) ‹_›) ?_
  rintro w11 G7 _ ⟨r5,_,rfl,A11,rfl⟩ S15 L7
  obtain ⟨D2,rfl,R4⟩:=A11
  have T6:=Qj R4
  obtain ⟨v12,v13,rfl,XR,A12,Qa,A13⟩:=T6
  refine WL.alloc S15 Qz V V (fun b4 w12 N4 S16=>?_)
  refine Z9 S16 0 [Za (((Xq l q.table).getD noS).name),v12,U (((Xq l q.table).getD noS).key),v13] V V Qz V V (by simp only [YE,A12.oneC,A13.oneC] <;> rfl) V V V (fun w13 S17=>?_)
  have T7:=S17.shutB N4
  obtain ⟨G9,L9,C5,S18⟩:=T7
  refine ZgX (d:=45) V (fun (h4 : ((Xq l q.table).isSome) = true)=>?_) (fun (h4 : ((Xq l q.table).isSome) = false)=>?_)
  ·refine Z S18 (Xh.drop 1 C5) QR V V V ?_
   refine Zax Zfr V V V (ZrN S18.imm (((Xq l q.table).getD noS).cols) _ (A12.mono L9)) (fun w14 G10 r7 hres1 P3=>?_)
   have S19:=S18.call hres1
   have L10:=hres1.le
   obtain ⟨o3,R5,hf1⟩:=P3
   have S20:=S18.adoptO hres1 hf1
   have T8:=YX.freeze R5 S20 0 V
   obtain ⟨G11,L11,A14,S21⟩:=T8
   exact RT S21 V ⟨_,_,V,(Sl.cast A14 (by (rw [hcf]; with_reducible exact (Zsj ‹_› ‹_›).1))),(congrArg (Value.int .i64) (by (rw [hcf]; with_reducible exact (Zsj ‹_› ‹_›).2)))⟩
  exact RT S18 V ⟨_,_,V,(Sl.cast (Sl.nil ColE 24 G9) (by (rw [hcf]; with_reducible exact (Zsi ‹_› ‹_›).1))),(congrArg (Value.int .i64) (by (rw [hcf]; with_reducible exact (Zsi ‹_› ‹_›).2)))⟩
 refine Ze q.kind 2 V V V (fun h5=>?_) (fun h5=>?_)
 ·have T9:=Sl.at (hins.mono L6) 0 (by (rw [hinl]; have:=op1 hpl (by omega); omega))
  obtain ⟨p3,x2,U2,E2,W1⟩:=T9
  obtain ⟨D3,C6,R6⟩:=E2
  obtain ⟨v14,rfl,A15⟩:=R6
  refine dr [(6,false)] [(54, .agg #[U q.cond.kind,Za q.cond.col,Za q.cond.oth,U q.cond.v.k,U q.cond.v.n,Za q.cond.v.s,v3]),(55,v5),(56,ZP p3),(57,v14),(58,U (Q3 (n + 1) q.cond x2))] S14 ⟨fun _ hSw=>Zc hSw (Xh.drop 4 (C1.mono j1)) [U q.cond.kind,Za q.cond.col,Za q.cond.oth,U q.cond.v.k,U q.cond.v.n,Za q.cond.v.s,v3] ZY V V V V V <| nu V V,fun _ hSw=>Z hSw C4 Zg6 V V V <| nu V V,fun _=>Zy 0 W1 ZjY QR V V V V <| nu V V,fun _ hSw=>Z hSw C6 QR V V V <| nu V V,fun _ hSw=>ZB hSw ZdV V V V (ZlN hSw.imm (n + 1) q.cond x2 _ (ZR q.cond Z7 Z5 ZD hb6 hb7 ZV (A3.mono (((L1.trans L2).trans L5).trans L6))) _ A15 (Zaz hn)) V,trivial⟩ (fun w15 S22=>?_)
  refine Zz (Q3 (n + 1) q.cond x2) 0 V V V (fun h6=>?_) (fun h6=>?_)
  ·exact RT S22 V ⟨_,_,V,(Sl.cast (Sl.nil ColE 24 G6) (by (rw [hcf]; with_reducible exact (Zsk ‹_› (by assumption : (List.map _ _)[0]? = some _) ‹_›).1))),(congrArg (Value.int .i64) (by (rw [hcf]; with_reducible exact (Zsk ‹_› (by assumption : (List.map _ _)[0]? = some _) ‹_›).2)))⟩
  refine Z S22 C4 Zg6 V V V ?_
  refine WL.indexAddr (hins.mono L6) 0 (by (rw [hinl]; have:=op1 hpl (by omega); omega)) ZjY QR V V V V (fun p4 x3 U3 E3=>?_)
  have T10 : x2 = x3:=Option.some.inj (U2.symm.trans U3)
  obtain rfl:=T10
  obtain ⟨D4,C7,R7⟩:=E3
  obtain ⟨v15,rfl,A16⟩:=R7
  refine Z S22 C7 QR V V V ?_
  exact RT S22 V ⟨_,_,V,(Sl.cast A16 (by (rw [hcf]; with_reducible exact (Zsl ‹_› (by assumption : (List.map _ _)[0]? = some _) ‹_›).1))),(congrArg (Value.int .i64) (by (rw [hcf]; with_reducible exact (Zsl ‹_› (by assumption : (List.map _ _)[0]? = some _) ‹_›).2)))⟩
 refine Ze q.kind 3 V V V (fun h7=>?_) (fun h7=>?_)
 ·exfalso; have h9:=hs.kd; have h8:=hs.len; omega
 refine Ze q.kind 4 V V V (fun h8=>?_) (fun h8=>?_)
 ·exfalso; have h9:=hs.kd; have h8:=hs.len; omega
 refine Ze q.kind 5 V V V (fun h9=>?_) (fun h9=>?_)
 ·exfalso; have h9:=hs.kd; have h8:=hs.len; omega
 refine Ze q.kind 6 V V V (fun h10=>?_) (fun h10=>?_)
 ·exfalso; have h9:=hs.kd; have h8:=hs.len; omega
 refine Ze q.kind 7 V V V (fun h11=>?_) (fun h11=>?_)
 ·exfalso; have h9:=hs.kd; have h8:=hs.len; omega
 refine Ze q.kind 9 V V V (fun h12=>?_) (fun h12=>?_)
 ·exfalso; have h9:=hs.kd; have h8:=hs.len; omega
 refine Ze q.kind 10 V V V (fun h13=>?_) (fun h13=>?_)
 ·exfalso; have h9:=hs.kd; have h8:=hs.len; omega
 refine Z S14 C4 Zg6 V V V ?_
 refine WL.indexAddr (hins.mono L6) 0 (by (rw [hinl]; have:=op1 hpl (by omega); omega)) ZjY QR V V V V (fun p5 x4 U4 E4=>?_)
 obtain ⟨D5,C8,R8⟩:=E4
 obtain ⟨v16,rfl,A17⟩:=R8
 refine Z S14 C8 QR V V V ?_
 exact RT S14 V ⟨_,_,V,(Sl.cast A17 (by (rw [hcf]; with_reducible exact (ZvQ ‹_› ‹_› ‹_› ‹_› ‹_› ‹_› ‹_› ‹_› ‹_› (by assumption : (List.map _ _)[0]? = some _)).1))),(congrArg (Value.int .i64) (by (rw [hcf]; with_reducible exact (ZvQ ‹_› ‹_› ‹_› ‹_› ‹_› ‹_› ‹_› ‹_› ‹_› (by assumption : (List.map _ _)[0]? = some _)).2)))⟩
theorem Zix {G : GH} {w : World} (hG : G.In w) (n : Nat) (q : Query) (l : List Schema) (hg : Glob G) (cq : List Value) (hcq : QryE.rep G q cq) (vl : Value) (hvl : Sl Qv 72 G vl l) (hn : Xx q n) (hsm : smQ n q) (hs : Sim q) : CL Tryz.prog (nat_lit 36) #[.agg cq.toArray,vl] [] w G fun G' _ r=>∃ r0 r1,r = .tuple #[r0,r1] ∧ Sl ColE 24 G' r0 ((X9 n q l).1) ∧ r1 = U ((X9 n q l).2):=by
 refine Zg ft [] Tryz.func36 V V ?_
 have hS:=St.start (X:=[]) hG
 have T1:=Zs hcq
 obtain ⟨v1,v2,v3,v4,rfl,B1,B2,A1,A2,Z7,Z5,ZD,hb6,hb7,ZV,A3,hb9,ZI,ZJ,ZL,A4⟩:=T1
 refine Z4 (QV q v1 v2 v3 v4) _ hS V V V (fun p1 w1 G1 L1 M1 C1 S1=>?_)
 refine Zc S1 C1 (QV q v1 v2 v3 v4) Zt V V V V V ?_
 refine Zl S1 Zbd V V V (Zfu S1.imm n q (hg.mono L1) _ (Zr q B1 B2 (A1.mono L1) (A2.mono L1) Z7 Z5 ZD hb6 hb7 ZV (A3.mono L1) hb9 ZI ZJ ZL (A4.mono L1)) hn) (fun w2 G2 S2 L2=>?_)
 refine WL.split (fun (h1 : (X8 n q) = true)=>?_) (fun (h1 : (X8 n q) = false)=>?_)
 ·have V1:=hvl.bound
  have j1:=(L1.trans L2)
  refine Zm (hvl.mono j1) Zgb V V ?_
  refine LP.go ft [] (fun m ρ1 w1=>∃ (k1 : Nat),∃ (G3 : GH),m = l.length - k1 ∧ G2.le G3 ∧ St w [] G G3 [] w1 ∧ FR ρ1 [(1,vl),(2,ZP p1),(13,vl),(14,U (l.length : Int)),(15,U (k1 : Int))] ∧ k1 ≤ l.length ∧ ∀ j,j < k1 → ∀ s,l[j]? = some s → gdA l j s = true) _ ⟨0,G2,V,(G2.le_refl),S2,(ZS V),(by omega),(by intro j hj; omega)⟩ ?_
  rintro m ρ1 w3 ⟨k1,G3,rfl,L3,S3,F9,f1,f2⟩
  refine F9.set ?_
  clear F9
  refine Zp (k1 : Int) (l.length : Int) V V V (fun h2=>?_) (fun h2=>?_)
  ·have j2:=(j1.trans L3)
   refine WL.indexAddr (hvl.mono j2) k1 (by omega) Zgb Qz V V V V (fun p2 x1 U1 E1=>?_)
   obtain ⟨D1,C2,R1⟩:=E1
   have T2:=Qj R1
   obtain ⟨v5,v6,rfl,Y0,A5,Y6,A6⟩:=T2
   refine Zc S3 C2 [Za x1.name,v5,U x1.key,v6] Qz V V V V V ?_
   refine WL.alloc S3 Qz V V (fun b1 w4 N1 S4=>?_)
   refine Z9 S4 0 [Za x1.name,v5,U x1.key,v6] V V Qz V V (by simp only [YE,A5.oneC,A6.oneC] <;> rfl) V V V (fun w5 S5=>?_)
   have T3:=S5.shutB N1
   obtain ⟨G4,L4,C3,S6⟩:=T3
   refine drT [2,5,6,7,8,9,10,11] [(25,Za x1.name)] S6 ⟨fun _ hSw=>Z hSw (Xh.drop 0 C3) Zv V V V <| nu V V,trivial⟩ (fun w6 S7=>?_)
   refine TG.fork 7 [2,5,6,7,8,9,10,11] [2,9] V V (by decide) (by decide) (TA.cons V ?_ (TA.cons V ?_ TA.nil))
   ·refine Zbn (hvl.mono (j2.trans L4)) k1 (by omega) Zgb Qz V V V V (fun v7 A7=>?_)
    refine ⟨fun _=>S7.down S7.le (G4.le_refl),?_⟩
    refine TG.fork 6 [5,6,7,8,9,10,11] [5,9] V V (by decide) (by decide) (TA.cons V ?_ (TA.cons V ?_ TA.nil))
    ·refine Yq S7 ZcS V V V (Ziw S7.imm (l.take k1) x1.name _ A7 ‹_›) ?_
     rintro w7 G5 _ ⟨r2,_,rfl,A8,rfl⟩ S8 L5
     obtain ⟨D2,rfl,R2⟩:=A8
     have T4:=Qj R2
     obtain ⟨v9,v10,rfl,YA,A9,Y9,A10⟩:=T4
     refine ⟨fun h=>absurd h (by decide),?_⟩
     refine TG.quiet 5 [6,7,8,9,10,11] 6 V V V V V (by decide) (fun w9 K9 k9=>WL.move V k9) ?_
     refine TG.quiet 4 [7,8,9,10,11] 7 V V V V V (by decide) (fun w9 K9 k9=>WL.extract _ _ V V V k9) ?_
     refine TG.quiet 3 [8,9,10,11] 8 V V V V V (by decide) (fun w9 K9 k9=>WL.extract _ _ V V V k9) ?_
     refine TG.fork 2 [9,10,11] [9] V V (by decide) (by decide) (TA.cons V ?_ TA.nil)
     refine WL.alloc S8 Qz V V (fun b2 w9 N2 S9=>?_)
     refine ⟨fun _=>S9.tail.down S7.le L5,?_⟩
     refine TG.fork 1 [10,11] [10] V V (by decide) (by decide) (TA.cons V ?_ TA.nil)
     refine Z9 S9 0 [Za (((Xq (l.take k1) x1.name).getD noS).name),v9,U (((Xq (l.take k1) x1.name).getD noS).key),v10] V V Qz V V (by simp only [YE,A9.oneC,A10.oneC] <;> rfl) V V V (fun w10 S10=>?_)
     have T5:=S10.shutB N2
     obtain ⟨G6,L6,C4,S11⟩:=T5
     refine ⟨fun h=>absurd h (by decide),?_⟩
     refine TG.quiet 0 [11] 11 V V V V V (by decide) (fun w9 K9 k9=>WL.assign V k9) ?_
     refine TG.fin V ?_
     refine Zc S11 (C3.mono (L5.trans L6)) [Za x1.name,v5,U x1.key,v6] Qz V V V V V ?_
     have j3:=((L4.trans L5).trans L6)
     refine Zl S11 Zd4 V V V (Zhw S11.imm x1 _ (Zan x1 Y0 (A5.mono j3) Y6 (A6.mono j3))) (fun w11 G7 S12 L7=>?_)
     refine WL.split (fun (h3 : (Qq x1) = true)=>?_) (fun (h3 : (Qq x1) = false)=>?_)
     ·refine Z S12 (Xh.drop 0 (C4.mono L7)) Zv V V V <| Zn .neq V (((Xq (l.take k1) x1.name).getD noS).name) [] V V V ?_
      refine WL.split (fun h0=>?_) (fun h0=>?_)
      ·have h4 : (((Xq (l.take k1) x1.name).getD noS).name) ≠ []:=by simpa [SCmp.b] using h0
       clear h0
       exact RT S12 V ⟨_,_,V,(Sl.cast (Sl.nil ColE 24 G7) (by with_reducible exact (ZbE ‹_› (ZbD ‹_› (Zgv ‹_›))).1)),(congrArg (Value.int .i64) (by with_reducible exact (ZbE ‹_› (ZbD ‹_› (Zgv ‹_›))).2))⟩
      have h4 : (((Xq (l.take k1) x1.name).getD noS).name) = []:=by simpa [SCmp.b] using h0
      clear h0
      refine Zq k1 (by have:=Zb; omega) V V V ?_
      exact BK.mk' _ ⟨k1 + 1,G7,V,(L3.trans (j3.trans L7)),S12,(ZS V),(by omega),(by exact QQ (P:=fun j s=>gdA l j s = true) ‹_› ‹_› (Zns ‹_› ‹_›))⟩ (show l.length - (k1 + 1) < l.length - k1 by omega)
     exact RT S12 V ⟨_,_,V,(Sl.cast (Sl.nil ColE 24 G7) (by with_reducible exact (ZbE ‹_› (ZbD ‹_› (Zgu ‹_›))).1)),(congrArg (Value.int .i64) (by with_reducible exact (ZbE ‹_› (ZbD ‹_› (Zgu ‹_›))).2))⟩
    refine WL.alloc S7 Qz V V (fun b3 w12 N3 S13=>?_)
    refine ⟨fun _=>S13.tail.down S7.le (G4.le_refl),?_⟩
    refine TG.fork 5 [5,6,7,8,10,11] [5] V V (by decide) (by decide) (TA.cons V ?_ TA.nil)
    refine Yq S13 ZcS V V V (Ziw S13.imm (l.take k1) x1.name _ A7 ‹_›) ?_
    rintro w13 G9 _ ⟨r5,_,rfl,A11,rfl⟩ S14 L9
    obtain ⟨D3,rfl,R3⟩:=A11
    have T6:=Qj R3
    obtain ⟨v11,v12,rfl,Yr,A12,YH,A13⟩:=T6
    refine ⟨fun h=>absurd h (by decide),?_⟩
    refine TG.quiet 4 [6,7,8,10,11] 6 V V V V V (by decide) (fun w9 K9 k9=>WL.move V k9) ?_
    refine TG.quiet 3 [7,8,10,11] 7 V V V V V (by decide) (fun w9 K9 k9=>WL.extract _ _ V V V k9) ?_
    refine TG.quiet 2 [8,10,11] 8 V V V V V (by decide) (fun w9 K9 k9=>WL.extract _ _ V V V k9) ?_
    refine TG.fork 1 [10,11] [10] V V (by decide) (by decide) (TA.cons V ?_ TA.nil)
    refine Z9 S14 0 [Za (((Xq (l.take k1) x1.name).getD noS).name),v11,U (((Xq (l.take k1) x1.name).getD noS).key),v12] V V Qz V V (by simp only [YE,A12.oneC,A13.oneC] <;> rfl) V V V (fun w14 S15=>?_)
    have T7:=S15.shutB N3
    obtain ⟨G10,L10,C5,S16⟩:=T7
    refine ⟨fun h=>absurd h (by decide),?_⟩
    refine TG.quiet 0 [11] 11 V V V V V (by decide) (fun w9 K9 k9=>WL.assign V k9) ?_
    refine TG.fin V ?_
    refine Zc S16 (C3.mono (L9.trans L10)) [Za x1.name,v5,U x1.key,v6] Qz V V V V V ?_
    refine Zl S16 Zd4 V V V (Zhw S16.imm x1 _ (Zan x1 Y0 (A5.mono ((L4.trans L9).trans L10)) Y6 (A6.mono ((L4.trans L9).trans L10)))) (fun w15 G11 S17 L11=>?_)
    refine WL.split (fun (h5 : (Qq x1) = true)=>?_) (fun (h5 : (Qq x1) = false)=>?_)
    ·refine Z S17 (Xh.drop 0 (C5.mono L11)) Zv V V V <| Zn .neq V (((Xq (l.take k1) x1.name).getD noS).name) [] V V V ?_
     refine WL.split (fun h0=>?_) (fun h0=>?_)
     ·have h6 : (((Xq (l.take k1) x1.name).getD noS).name) ≠ []:=by simpa [SCmp.b] using h0
      clear h0
      exact RT S17 V ⟨_,_,V,(Sl.cast (Sl.nil ColE 24 G11) (by with_reducible exact (ZbE ‹_› (ZbD ‹_› (Zgv ‹_›))).1)),(congrArg (Value.int .i64) (by with_reducible exact (ZbE ‹_› (ZbD ‹_› (Zgv ‹_›))).2))⟩
     have h6 : (((Xq (l.take k1) x1.name).getD noS).name) = []:=by simpa [SCmp.b] using h0
     clear h0
     refine Zq k1 (by have:=Zb; omega) V V V ?_
     exact BK.mk' _ ⟨k1 + 1,G11,V,(L3.trans (((L4.trans L9).trans L10).trans L11)),S17,(ZS V),(by omega),(by exact QQ (P:=fun j s=>gdA l j s = true) ‹_› ‹_› (Zns ‹_› ‹_›))⟩ (show l.length - (k1 + 1) < l.length - k1 by omega)
    exact RT S17 V ⟨_,_,V,(Sl.cast (Sl.nil ColE 24 G11) (by with_reducible exact (ZbE ‹_› (ZbD ‹_› (Zgu ‹_›))).1)),(congrArg (Value.int .i64) (by with_reducible exact (ZbE ‹_› (ZbD ‹_› (Zgu ‹_›))).2))⟩
   refine WL.alloc S7 Qz V V (fun b4 w16 N4 S18=>?_)
   refine ⟨fun _=>S18.tail.down S7.le (G4.le_refl),?_⟩
   refine TG.fork 6 [2,5,6,7,8,10,11] [2] V V (by decide) (by decide) (TA.cons V ?_ TA.nil)
   refine Zbn (hvl.mono (j2.trans L4)) k1 (by omega) Zgb Qz V V V V (fun v13 A14=>?_)
   refine ⟨fun _=>S18.tail.down S7.le (G4.le_refl),?_⟩
   refine TG.fork 5 [5,6,7,8,10,11] [5] V V (by decide) (by decide) (TA.cons V ?_ TA.nil)
   refine Yq S18 ZcS V V V (Ziw S18.imm (l.take k1) x1.name _ A14 ‹_›) ?_
   rintro w17 G12 _ ⟨r8,_,rfl,A15,rfl⟩ S19 L12
   obtain ⟨D4,rfl,R4⟩:=A15
   have T8:=Qj R4
   obtain ⟨v14,v15,rfl,YJ,A16,YO,A17⟩:=T8
   refine ⟨fun h=>absurd h (by decide),?_⟩
   refine TG.quiet 4 [6,7,8,10,11] 6 V V V V V (by decide) (fun w9 K9 k9=>WL.move V k9) ?_
   refine TG.quiet 3 [7,8,10,11] 7 V V V V V (by decide) (fun w9 K9 k9=>WL.extract _ _ V V V k9) ?_
   refine TG.quiet 2 [8,10,11] 8 V V V V V (by decide) (fun w9 K9 k9=>WL.extract _ _ V V V k9) ?_
   refine TG.fork 1 [10,11] [10] V V (by decide) (by decide) (TA.cons V ?_ TA.nil)
   refine Z9 S19 0 [Za (((Xq (l.take k1) x1.name).getD noS).name),v14,U (((Xq (l.take k1) x1.name).getD noS).key),v15] V V Qz V V (by simp only [YE,A16.oneC,A17.oneC] <;> rfl) V V V (fun w18 S20=>?_)
   have T9:=S20.shutB N4
   obtain ⟨G13,L13,C6,S21⟩:=T9
   refine ⟨fun h=>absurd h (by decide),?_⟩
   refine TG.quiet 0 [11] 11 V V V V V (by decide) (fun w9 K9 k9=>WL.assign V k9) ?_
   refine TG.fin V ?_
   refine Zc S21 (C3.mono (L12.trans L13)) [Za x1.name,v5,U x1.key,v6] Qz V V V V V ?_
   have j4:=((L4.trans L12).trans L13)
   refine Zl S21 Zd4 V V V (Zhw S21.imm x1 _ (Zan x1 Y0 (A5.mono j4) Y6 (A6.mono j4))) (fun w19 G14 S22 L14=>?_)
   refine WL.split (fun (h7 : (Qq x1) = true)=>?_) (fun (h7 : (Qq x1) = false)=>?_)
   ·refine Z S22 (Xh.drop 0 (C6.mono L14)) Zv V V V <| Zn .neq V (((Xq (l.take k1) x1.name).getD noS).name) [] V V V ?_
    refine WL.split (fun h0=>?_) (fun h0=>?_)
    ·have h8 : (((Xq (l.take k1) x1.name).getD noS).name) ≠ []:=by simpa [SCmp.b] using h0
     clear h0
     exact RT S22 V ⟨_,_,V,(Sl.cast (Sl.nil ColE 24 G14) (by with_reducible exact (ZbE ‹_› (ZbD ‹_› (Zgv ‹_›))).1)),(congrArg (Value.int .i64) (by with_reducible exact (ZbE ‹_› (ZbD ‹_› (Zgv ‹_›))).2))⟩
    have h8 : (((Xq (l.take k1) x1.name).getD noS).name) = []:=by simpa [SCmp.b] using h0
    clear h0
    refine Zq k1 (by have:=Zb; omega) V V V ?_
    exact BK.mk' _ ⟨k1 + 1,G14,V,(L3.trans (j4.trans L14)),S22,(ZS V),(by omega),(by exact QQ (P:=fun j s=>gdA l j s = true) ‹_› ‹_› (Zns ‹_› ‹_›))⟩ (show l.length - (k1 + 1) < l.length - k1 by omega)
   exact RT S22 V ⟨_,_,V,(Sl.cast (Sl.nil ColE 24 G14) (by with_reducible exact (ZbE ‹_› (ZbD ‹_› (Zgu ‹_›))).1)),(congrArg (Value.int .i64) (by with_reducible exact (ZbE ‹_› (ZbD ‹_› (Zgu ‹_›))).2))⟩
  have hgd9:=ZvU (by assumption : ∀ j,j < k1 → ∀ s,l[j]? = some s → gdA l j s = true) (by omega)
  refine Zc S3 (C1.mono (L2.trans L3)) (QV q v1 v2 v3 v4) Zt V V V V V ?_
  have j5:=(j1.trans L3)
  refine Yq S3 Zem V V V (ZuP n S3.imm q l _ (Zr q B1 B2 (A1.mono j5) (A2.mono j5) Z7 Z5 ZD hb6 hb7 ZV (A3.mono j5) hb9 ZI ZJ ZL (A4.mono j5)) _ (hvl.mono j5) (Zub hgd9) hn (Zpc ‹_› hsm) hs) ?_
  rintro w20 G15 _ ⟨r11,_,rfl,A18,rfl⟩ S23 L15
  exact RT S23 V ⟨_,_,V,(Sl.cast A18 (by with_reducible exact congrArg Prod.fst (Zsp ‹_› hgd9))),(congrArg (Value.int .i64) (by with_reducible exact congrArg Prod.snd (Zsp ‹_› hgd9)))⟩
 exact RT S2 V ⟨_,_,V,(Sl.cast (Sl.nil ColE 24 G2) (by with_reducible exact (Zso ‹_›).1)),(congrArg (Value.int .i64) (by with_reducible exact (Zso ‹_›).2))⟩
end Go.Civ
