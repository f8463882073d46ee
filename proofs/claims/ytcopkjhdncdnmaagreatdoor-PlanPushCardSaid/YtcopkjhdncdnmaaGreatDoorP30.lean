/- Lemmas. -/
import Derived.Test.YtcopkjhdncdnmaaGreatDoorP29
set_option linter.unusedVariables false
set_option linter.unusedSimpArgs false
set_option maxRecDepth 100000
set_option maxHeartbeats 4000000
namespace Go.Civ
open Go.Proofs
theorem ZoD (n : Nat) : ∀ {G : GH} {w : World} (hG : G.In w) (q : Query) (dep : Int) (hg : Glob G) (cq : List Value) (hcq : QryE.rep G q cq) (hdep : 0 ≤ dep ∧ dep ≤ 13) (hn : Xx q n),CL Tryz.prog (nat_lit 109) #[.agg cq.toArray,U dep] [] w G fun _ _ r=>r = U (Y8 n q dep):=by
 induction n
 ·intro G w hG q dep hg cq hcq hdep hn; exact (Q9 hn).elim
 rename_i n ih
 intro G w hG q dep hg cq hcq hdep hn
 refine Zo ft [] Tryz.func109 V V ?_
 have hdep64 : ZM dep:=⟨by omega,by omega⟩
 have hS:=St.start (X:=[]) hG
 obtain ⟨v1,v2,v3,v4,rfl,B1,B2,A1,A2,B3,B4,B5,B6,B7,ZK,A3,hb9,Z9,Z7,Z6,A4⟩:=Ze hcq
 refine ZL (QV q v1 v2 v3 v4) _ hS V V V (fun p1 w1 G1 L1 M1 C1 S1=>?_)
 refine Yk dep 12 V V V (fun h1=>?_) (fun h1=>?_)
 ·exact RI S1 V (by exact Zps ‹_›)
 refine Zc S1 C1 (QV q v1 v2 v3 v4) Zg V V V V V ?_
 refine Zw S1 Zdj V V V (ZoB S1.imm (n + 1) q (hg.mono L1) _ (Zd q B1 B2 (A1.mono L1) (A2.mono L1) B3 B4 B5 B6 B7 ZK (A3.mono L1) hb9 Z9 Z7 Z6 (A4.mono L1)) hn) (fun w2 G2 S2 L2=>?_)
 refine WL.split (fun (h2 : (Xc (n + 1) q) = true)=>?_) (fun (h2 : (Xc (n + 1) q) = false)=>?_)
 ·refine Za S2 (YC.drop 15 (C1.mono L2)) ZX V V V ?_
  have V1:=A4.bound
  have j1:=(L1.trans L2)
  refine Zl (A4.mono j1) ZS V V ?_
  refine LP.go ft [] (fun m ρ1 w1=>∃ (k1 : Nat),∃ (nn : Int),∃ (G3 : GH),m = q.l.length - k1 ∧ G2.le G3 ∧ St w [] G G3 [] w1 ∧ FR ρ1 [(1,U dep),(5,U nn),(16,v4),(17,U (q.l.length : Int)),(18,U (k1 : Int))] ∧ k1 ≤ q.l.length ∧ nn = Xg (fun x=>Y8 n x (dep + 1)) (q.l.take k1) 1 ∧ 1 ≤ nn ∧ nn ≤ 61 + 60 * (13 - dep) ∧ nn ≤ 60) _ ⟨0,1,G2,V,(G2.le_refl),S2,(Yt V),(by omega),(by rfl),(by omega),(by omega)⟩ ?_
  rintro m ρ1 w3 ⟨k1,nn,G3,rfl,L3,S3,F9,f1,f2,f3,f4⟩
  refine F9.set ?_
  clear F9
  have hnn64 : ZM nn:=⟨by omega,by omega⟩
  refine Z1 (k1 : Int) (q.l.length : Int) V V V (fun h3=>?_) (fun h3=>?_)
  ·refine WL.indexAddr (A4.mono (j1.trans L3)) k1 (by omega) ZS Zg V V V V (fun p2 x1 U1 E1=>?_)
   obtain ⟨D1,C2,R1⟩:=E1
   obtain ⟨v5,v6,v7,v9,rfl,ZV,Ye,A5,A6,Yd,B16,B17,Yf,B19,B20,A7,B21,B22,B23,B24,A8⟩:=Ze R1
   refine Zc S3 C2 (QV x1 v5 v6 v7 v9) Zg V V V V V ?_
   refine WL.alloc S3 Zg V V (fun b1 w4 N1 S4=>?_)
   refine WL.store S4 0 _ _ _ 0 _ (QV x1 v5 v6 v7 v9) (QV x1 v5 v6 v7 v9) _ V V Zg V (ZN V) (by simp only [ZW,A5.oneC,A6.oneC,A7.oneC,A8.oneC] <;> rfl) V V V V V (fun w5 S5=>?_)
   obtain ⟨G4,L4,C3,S6⟩:=S5.shutB N1
   refine Zc S6 C3 (QV x1 v5 v6 v7 v9) Zg V V V V V ?_
   have hi1 : ZM (dep + 1):=by have:=hdep64.1; have:=hdep64.2; constructor <;> omega
   refine WL.ar .add V dep 1 V V V hi1 ?_
   refine Zw S6 QB V V V (ih S6.imm x1 (dep + 1) (hg.mono ((j1.trans L3).trans L4)) _ (Zd x1 ZV Ye (A5.mono L4) (A6.mono L4) Yd B16 B17 Yf B19 B20 (A7.mono L4) B21 B22 B23 B24 (A8.mono L4)) (by omega) (Yp hn (List.mem_of_getElem? ‹_›))) (fun w6 G5 S7 L5=>?_)
   have hi2 : ZM (nn + (Y8 n x1 (dep + 1))):=by have:=hnn64.1; have:=hnn64.2; have:=(Zcl n x1 (dep + 1) (by omega)).1; have:=(Zcl n x1 (dep + 1) (by omega)).2; constructor <;> omega
   refine WL.ar .add V nn (Y8 n x1 (dep + 1)) V V V hi2 ?_
   refine Yk (nn + (Y8 n x1 (dep + 1))) 60 V V V (fun h4=>?_) (fun h4=>?_)
   ·exact RI S7 V (by exact Zsz (by omega) ‹_› ‹_› ‹_› (by omega) (by omega))
   refine ZC k1 (by have:=Zm; omega) V V V ?_
   exact BK.mk' _ ⟨k1 + 1,(nn + (Y8 n x1 (dep + 1))),G5,V,(L3.trans (L4.trans L5)),S7,(Yt V),(by omega),(by exact ZfK (f:=fun x=>Y8 n x (dep + 1)) ‹_› ‹_› (by omega)),(by have hb9:=Zcl n x1 (dep + 1) ⟨by omega,by omega⟩; omega),(by omega)⟩ (show q.l.length - (k1 + 1) < q.l.length - k1 by omega)
  exact RI S3 V (by exact ZiV (by omega) ‹_› ‹_› (.inl (by omega)))
 exact RI S2 V (by exact Zpt (by omega) ‹_›)
theorem ZlY (n : Nat) : ∀ {G : GH} {w : World} (hG : G.In w) (q : Query) (dep : Int) (cq : List Value) (hcq : QryE.rep G q cq) (hdep : 0 ≤ dep ∧ dep ≤ 13) (hn : Xx q n),CL Tryz.prog (nat_lit 100) #[.agg cq.toArray,U dep] [] w G fun _ _ r=>r = U (Y8 n q dep):=by
 induction n
 ·intro G w hG q dep cq hcq hdep hn; exact (Q9 hn).elim
 rename_i n ih
 intro G w hG q dep cq hcq hdep hn
 refine Zo ft [] Tryz.func100 V V ?_
 have hdep64 : ZM dep:=⟨by omega,by omega⟩
 have hS:=St.start (X:=[]) hG
 obtain ⟨v1,v2,v3,v4,rfl,B1,B2,A1,A2,B3,B4,B5,B6,B7,ZK,A3,hb9,Z9,Z7,Z6,A4⟩:=Ze hcq
 refine ZL (QV q v1 v2 v3 v4) _ hS V V V (fun p1 w1 G1 L1 M1 C1 S1=>?_)
 refine Yk dep 12 V V V (fun h1=>?_) (fun h1=>?_)
 ·exact RI S1 V (by exact Zps ‹_›)
 refine Zc S1 C1 (QV q v1 v2 v3 v4) Zg V V V V V ?_
 refine Zw S1 Zdh V V V (ZoC S1.imm (n + 1) q _ (Zd q B1 B2 (A1.mono L1) (A2.mono L1) B3 B4 B5 B6 B7 ZK (A3.mono L1) hb9 Z9 Z7 Z6 (A4.mono L1)) hn) (fun w2 G2 S2 L2=>?_)
 refine WL.split (fun (h2 : (Xc (n + 1) q) = true)=>?_) (fun (h2 : (Xc (n + 1) q) = false)=>?_)
 ·refine LP.go ft [] (fun m ρ1 w1=>∃ (k1 : Nat),∃ (nn : Int),∃ (G3 : GH),m = q.l.length - k1 ∧ G2.le G3 ∧ St w [] G G3 [] w1 ∧ FR ρ1 [(1,U dep),(2,Zu p1),(5,U nn),(6,U (k1 : Int))] ∧ k1 ≤ q.l.length ∧ nn = Xg (fun x=>Y8 n x (dep + 1)) (q.l.take k1) 1 ∧ 1 ≤ nn ∧ nn ≤ 61 + 60 * (13 - dep)) _ ⟨0,1,G2,V,(G2.le_refl),S2,(Yt V),(by omega),(by rfl),(by omega)⟩ ?_
  rintro m ρ1 w3 ⟨k1,nn,G3,rfl,L3,S3,F9,f1,f2,f3⟩
  refine F9.set ?_
  clear F9
  have hnn64 : ZM nn:=⟨by omega,by omega⟩
  refine Za S3 (YC.drop 15 (C1.mono (L2.trans L3))) ZX V V V ?_
  have V1:=A4.bound
  have j1:=((L1.trans L2).trans L3)
  refine Zl (A4.mono j1) ZS V V ?_
  refine Z1 (k1 : Int) (q.l.length : Int) V V V (fun h3=>?_) (fun h3=>?_)
  ·refine Qd nn 60 V V V (fun h4=>?_) (fun h4=>?_)
   ·refine Za S3 (YC.drop 15 (C1.mono (L2.trans L3))) ZX V V V ?_
    refine WL.indexAddr (A4.mono j1) k1 (by omega) ZS Zg V V V V (fun p2 x1 U1 E1=>?_)
    obtain ⟨D1,C2,R1⟩:=E1
    obtain ⟨v5,v6,v7,v9,rfl,ZV,Ye,A5,A6,Yd,B16,B17,Yf,B19,B20,A7,B21,B22,B23,B24,A8⟩:=Ze R1
    refine Zc S3 C2 (QV x1 v5 v6 v7 v9) Zg V V V V V ?_
    have hi1 : ZM (dep + 1):=by have:=hdep64.1; have:=hdep64.2; constructor <;> omega
    refine WL.ar .add V dep 1 V V V hi1 ?_
    refine Zw S3 QA V V V (ih S3.imm x1 (dep + 1) _ (Zd x1 ZV Ye A5 A6 Yd B16 B17 Yf B19 B20 A7 B21 B22 B23 B24 A8) (by omega) (Yp hn (List.mem_of_getElem? ‹_›))) (fun w4 G4 S4 L4=>?_)
    have hi2 : ZM (nn + (Y8 n x1 (dep + 1))):=by have:=hnn64.1; have:=hnn64.2; have:=(Zcl n x1 (dep + 1) (by omega)).1; have:=(Zcl n x1 (dep + 1) (by omega)).2; constructor <;> omega
    refine WL.ar .add V nn (Y8 n x1 (dep + 1)) V V V hi2 ?_
    refine ZC k1 (by have:=Zm; omega) V V V ?_
    exact BK.mk' _ ⟨k1 + 1,(nn + (Y8 n x1 (dep + 1))),G4,V,(L3.trans L4),S4,(Yt V),(by omega),(by exact ZfK (f:=fun x=>Y8 n x (dep + 1)) ‹_› ‹_› (by omega)),(by have hb9:=Zcl n x1 (dep + 1) ⟨by omega,by omega⟩; omega)⟩ (show q.l.length - (k1 + 1) < q.l.length - k1 by omega)
   exact RI S3 V (by exact ZiV (by omega) ‹_› ‹_› (.inr (by omega)))
  exact RI S3 V (by exact ZiV (by omega) ‹_› ‹_› (.inl (by omega)))
 exact RI S2 V (by exact Zpt (by omega) ‹_›)
theorem Zkb {G : GH} {w : World} (hG : G.In w) (n : Nat) (q : Query) (hg : Glob G) (cq : List Value) (hcq : QryE.rep G q cq) (hn : Xx q n) : CL Tryz.prog (nat_lit 44) #[.agg cq.toArray] [] w G fun _ _ r=>r = .bool (Qp n q):=by
 refine Zo ft [] Tryz.func44 V V ?_
 have hS:=St.start (X:=[]) hG
 obtain ⟨v1,v2,v3,v4,rfl,B1,B2,A1,A2,B3,B4,B5,B6,B7,ZK,A3,hb9,Z9,Z7,Z6,A4⟩:=Ze hcq
 refine ZL (QV q v1 v2 v3 v4) _ hS V V V (fun p1 w1 G1 L1 M1 C1 S1=>?_)
 refine Zc S1 C1 (QV q v1 v2 v3 v4) Zg V V V V V ?_
 refine Zw S1 QB V V V (ZoD n S1.imm q 1 (hg.mono L1) _ (Zd q B1 B2 (A1.mono L1) (A2.mono L1) B3 B4 B5 B6 B7 ZK (A3.mono L1) hb9 Z9 Z7 Z6 (A4.mono L1)) (by omega) hn) (fun w2 G2 S2 L2=>?_)
 refine YK .leq V .i64 (Y8 n q 1) 60 V V V ?_
 exact RB S2 V (by rfl)
theorem Zi6 {G : GH} {w : World} (hG : G.In w) (n : Nat) (q : Query) (cq : List Value) (hcq : QryE.rep G q cq) (hn : Xx q n) : CL Tryz.prog (nat_lit 34) #[.agg cq.toArray] [] w G fun _ _ r=>r = .bool (Qp n q):=by
 refine Zo ft [] Tryz.func34 V V ?_
 have hS:=St.start (X:=[]) hG
 obtain ⟨v1,v2,v3,v4,rfl,B1,B2,A1,A2,B3,B4,B5,B6,B7,ZK,A3,hb9,Z9,Z7,Z6,A4⟩:=Ze hcq
 refine ZL (QV q v1 v2 v3 v4) _ hS V V V (fun p1 w1 G1 L1 M1 C1 S1=>?_)
 refine Zc S1 C1 (QV q v1 v2 v3 v4) Zg V V V V V ?_
 refine Zw S1 QA V V V (ZlY n S1.imm q 1 _ (Zd q B1 B2 (A1.mono L1) (A2.mono L1) B3 B4 B5 B6 B7 ZK (A3.mono L1) hb9 Z9 Z7 Z6 (A4.mono L1)) (by omega) hn) (fun w2 G2 S2 L2=>?_)
 refine YK .leq V .i64 (Y8 n q 1) 60 V V V ?_
 exact RB S2 V (by rfl)
end Go.Civ
namespace Go.Civ
open Go.RowKit
set_option linter.unusedVariables false
abbrev Zs0 : Col:=⟨[],0⟩
def Xv (l : List Col) (s : Str) : Col:=(l[(Zx l s).toNat]?).getD Zs0
def Xk (l : List Col) (ns : List Str) : Bool:=ns.all fun s=>decide (0 ≤ Zx l s)
def Yl (l : List Col) (ns : List Str) : List Col × Int:=if Xk l ns then (ns.map (Xv l),0) else ([],7)
def Qa (l : List Col) : List Col × Int:=if 8 < l.length then ([],5) else (l,0)
section
variable {l o : List Col} {ns : List Str} {s : Str} {c : Col} {k j : Nat}
theorem ZB (h : 0 ≤ Zx l s) (hx : l[(Zx l s).toNat]? = some c) : Xv l s = c:=by unfold Xv; rw [hx]; rfl
theorem Zaz (h : 0 ≤ Zx l s) : (Zx l s).toNat < l.length:=by have:=Zaa (l:=l) (nm:=s); omega
theorem Zkc (h : ns[k]? = some s) (h2 : Zx l s < 0) : [] = (Yl l ns).1 ∧ 7 = (Yl l ns).2:=by
 have : Xk l ns = false:=List.all_eq_false.2 ⟨s,List.mem_of_getElem? h,by rw [decide_eq_false (by omega)]; simp⟩
 unfold Yl; rw [this]; exact ⟨rfl,rfl⟩
theorem ZhU (h : ∀ j,j < k → ∀ s,ns[j]? = some s → 0 ≤ Zx l s) (hk : ns.length ≤ k) : (ns.take k).map (Xv l) = (Yl l ns).1 ∧ 0 = (Yl l ns).2:=by
 have : Xk l ns = true:=List.all_eq_true.2 fun x hx=>by
  obtain ⟨i,hi⟩:=List.getElem?_of_mem hx
  exact decide_eq_true (h i (Nat.lt_of_lt_of_le (List.getElem?_eq_some_iff.1 hi).1 hk) x hi)
 unfold Yl; rw [this,List.take_of_length_le hk]; exact ⟨rfl,rfl⟩
theorem Zkd (h : ns[k]? = some s) (hc : Xv l s = c) : (ns.take (k + 1)).map (Xv l) = (ns.take k).map (Xv l) ++ [c]:=by
 rw [List.take_add_one,h]; simp [hc]
theorem Zh3 (h : 8 < (l.length : Int)) : [] = (Qa l).1 ∧ 5 = (Qa l).2:=by unfold Qa; rw [if_pos (show 8 < l.length by omega)]; exact ⟨rfl,rfl⟩
theorem Zgg (h : ¬ 8 < (l.length : Int)) : l = (Qa l).1 ∧ 0 = (Qa l).2:=by unfold Qa; rw [if_neg (show ¬ 8 < l.length by omega)]; exact ⟨rfl,rfl⟩
def jnB (a : List Col) (c : Col) : Bool:=decide (Zx a c.name < 0) || decide ((Xv a c.name).kind = c.kind)
def ZaY (a b : List Col) : List Col:=b.filter fun c=>decide (Zx a c.name < 0)
def jnT (a b : List Col) : List Col × Int:=if b.all (jnB a) then Qa (a ++ ZaY a b) else ([],13)
variable {a b : List Col}
theorem Zgh (h : b[k]? = some c) (h1 : 0 ≤ Zx a c.name) (h2 : ¬ (Xv a c.name).kind = c.kind) : [] = (jnT a b).1 ∧ 13 = (jnT a b).2:=by
 have : b.all (jnB a) = false:=List.all_eq_false.2 ⟨c,List.mem_of_getElem? h,by unfold jnB; rw [decide_eq_false (by omega),decide_eq_false h2]; simp⟩
 unfold jnT; rw [this]; exact ⟨rfl,rfl⟩
theorem Zfo (h : ∀ j,j < k → ∀ c,b[j]? = some c → jnB a c = true) (hk : b.length ≤ k) : jnT a b = Qa (a ++ ZaY a b):=by
 have : b.all (jnB a) = true:=List.all_eq_true.2 fun x hx=>by
  obtain ⟨i,hi⟩:=List.getElem?_of_mem hx
  exact h i (Nat.lt_of_lt_of_le (List.getElem?_eq_some_iff.1 hi).1 hk) x hi
 unfold jnT; rw [this]; rfl
theorem Zpu (h : Zx a c.name < 0) : jnB a c = true:=by unfold jnB; rw [decide_eq_true h]; rfl
theorem Zpv (h : (Xv a c.name).kind = c.kind) : jnB a c = true:=by unfold jnB; rw [decide_eq_true h]; simp
theorem Znx (h : b[k]? = some c) (h2 : Zx a c.name < 0) : ZaY a (b.take (k + 1)) = ZaY a (b.take k) ++ [c]:=by
 rw [List.take_add_one,h]; unfold ZaY; simp [List.filter_append,h2]
theorem Zny (h : b[k]? = some c) (h2 : 0 ≤ Zx a c.name) : ZaY a (b.take (k + 1)) = ZaY a (b.take k):=by
 rw [List.take_add_one,h]; unfold ZaY; simp [List.filter_append,Int.not_lt.2 h2]
theorem Zke : (ZaY a (b.take k)).length ≤ b.length:=Nat.le_trans (List.length_filter_le _ _) (List.length_take_le' _ _)
def Zbk (l : List Col) : Bool:=l.zipIdx.all fun p=>decide (Zx l p.1.name = (p.2 : Int))
theorem Zkf (h : l[k]? = some c) (h2 : ¬ Zx l c.name = (k : Int)) : Zbk l = false:=by
 unfold Zbk
 rw [Bool.eq_false_iff]
 intro e
 rw [List.all_eq_true] at e
 exact h2 (of_decide_eq_true (e (c,k) (List.mem_zipIdx_iff_getElem?.2 h)))
theorem Zgi (h : ∀ j,j < k → ∀ c,l[j]? = some c → Zx l c.name = (j : Int)) (hk : l.length ≤ k) : Zbk l = true:=by
 unfold Zbk
 rw [List.all_eq_true]
 rintro ⟨s,j⟩ hm
 have hj:=List.mem_zipIdx_iff_getElem?.1 hm
 have:=(List.getElem?_eq_some_iff.1 hj).1
 exact decide_eq_true (h j (by simp at this ⊢; omega) s hj)
def ZdK (o : List Col) (i : Nat) (nm : Str) : List Col:=match o[i]? with | some c=>o.set i ⟨nm,c.kind⟩ | none=>o
def Xt (l : List Col) : List Str → List Str → List Col → List Col
 | s :: ss,n :: ns,o=>Xt l ss ns (ZdK o (Zx l s).toNat n)
 | _,_,o=>o
def QM (q : Query) (l : List Col) : List Col × Int:=if Xk l q.cols then (if Zbk (Xt l q.cols q.names l) then (Xt l q.cols q.names l,0) else ([],8)) else ([],7)
theorem ZoE {i : Nat} {nm : Str} : (ZdK o i nm).length = o.length:=by unfold ZdK; split <;> simp
theorem ZbO : ∀ {ss ns : List Str} {o : List Col},(Xt l ss ns o).length = o.length
 | s :: ss,n :: ns,o=>by rw [Xt,ZbO,ZoE]
 | [],_,_=>rfl
 | _ :: _,[],_=>rfl
theorem Zi7 : ∀ {ss ns : List Str} {o : List Col} {s n : Str},ss.length = ns.length → Xt l (ss ++ [s]) (ns ++ [n]) o = ZdK (Xt l ss ns o) (Zx l s).toNat n
 | [],[],o,s,n,_=>rfl
 | a :: ss,b :: ns,o,s,n,h=>by
  rw [List.cons_append,List.cons_append,Xt,Xt]
  exact Zi7 (by simpa using h)
 | [],b :: ns,_,_,_,h=>by simp at h
 | a :: ss,[],_,_,_,h=>by simp at h
theorem Zi8 {ss ns : List Str} {n : Str} (hs : ss[k]? = some s) (hn : ns[k]? = some n) : Xt l (ss.take (k + 1)) (ns.take (k + 1)) o = ZdK (Xt l (ss.take k) (ns.take k) o) (Zx l s).toNat n:=by
 have h1:=(List.getElem?_eq_some_iff.1 hs).1
 have h2:=(List.getElem?_eq_some_iff.1 hn).1
 rw [List.take_add_one,hs,List.take_add_one,hn]
 exact Zi7 (by rw [List.length_take,List.length_take]; omega)
theorem Zlk {i : Nat} {nm : Str} (h : o[i]? = some c) : o.set i ⟨nm,c.kind⟩ = ZdK o i nm:=by unfold ZdK; rw [h]
variable {q : Query}
theorem Zpw (h : q.cols[k]? = some s) (h2 : Zx l s < 0) : [] = (QM q l).1 ∧ 7 = (QM q l).2:=by
 have : Xk l q.cols = false:=List.all_eq_false.2 ⟨s,List.mem_of_getElem? h,by rw [decide_eq_false (by omega)]; simp⟩
 unfold QM; rw [this]; exact ⟨rfl,rfl⟩
theorem Zqe (h : ∀ j,j < k → ∀ s,q.cols[j]? = some s → 0 ≤ Zx l s) (hk : q.cols.length ≤ k) : Xk l q.cols = true:=List.all_eq_true.2 fun x hx=>by
 obtain ⟨i,hi⟩:=List.getElem?_of_mem hx
 exact decide_eq_true (h i (Nat.lt_of_lt_of_le (List.getElem?_eq_some_iff.1 hi).1 hk) x hi)
theorem ZiW (h : Xk l q.cols = true) (h2 : Zbk (Xt l q.cols q.names l) = false) : [] = (QM q l).1 ∧ 8 = (QM q l).2:=by unfold QM; rw [h,h2]; exact ⟨rfl,rfl⟩
theorem ZiX (h : Xk l q.cols = true) (h2 : Zbk (Xt l q.cols q.names l) = true) : Xt l q.cols q.names l = (QM q l).1 ∧ 0 = (QM q l).2:=by unfold QM; rw [h,h2]; exact ⟨rfl,rfl⟩
end
end Go.Civ
namespace Go.Civ
open Go.RowKit
set_option linter.unusedVariables false
def Zda (q : Query) : Str:=(q.names[0]?).getD []
def Zfp (q : Query) : Str:=(q.names[q.names.length - 1]?).getD []
def ZhV (q : Query) (l : List Col) : Int:=if q.fn = 1 then 1 else (Xv l (Zda q)).kind
def XF (q : Query) (l : List Col) : List Col × Int:=
 if (Yl l q.cols).2 ≠ 0 then ([],(Yl l q.cols).2)
 else if q.fn ≠ 1 ∧ Zx l (Zda q) < 0 then ([],7)
 else if 0 ≤ Zx (Yl l q.cols).1 (Zfp q) then ([],8)
 else if q.fn = 2 ∧ ZhV q l ≠ 1 then ([],13)
 else Qa ((Yl l q.cols).1 ++ [⟨Zfp q,if q.fn = 2 then 1 else ZhV q l⟩])
section
variable {q : Query} {l : List Col} {s t : Str} {c : Col}
theorem Zr (h : q.names[0]? = some s) : Zda q = s:=by unfold Zda; rw [h]; rfl
theorem Z0 {j : Nat} (h : q.names[j]? = some s) (hj : j = q.names.length - 1) : Zfp q = s:=by unfold Zfp; rw [← hj,h]; rfl
theorem ZlZ (h : (Yl l q.cols).2 ≠ 0) : [] = (XF q l).1 ∧ (Yl l q.cols).2 = (XF q l).2:=by unfold XF; rw [if_pos h]; exact ⟨rfl,rfl⟩
theorem ZiY (h : (Yl l q.cols).2 = 0) (h1 : ¬ q.fn = 1) (h2 : Zx l s < 0) (hs : Zda q = s) : [] = (XF q l).1 ∧ 7 = (XF q l).2:=by
 unfold XF; rw [if_neg (by omega),if_pos ⟨h1,by rw [hs]; exact h2⟩]; exact ⟨rfl,rfl⟩
theorem ZbJ (h : (Yl l q.cols).2 = 0) (h1 : q.fn = 1 ∨ 0 ≤ Zx l (Zda q)) (h2 : 0 ≤ Zx (Yl l q.cols).1 t) (ht : Zfp q = t) : [] = (XF q l).1 ∧ 8 = (XF q l).2:=by
 unfold XF; rw [if_neg (by omega),if_neg (by omega),if_pos (by rw [ht]; exact h2)]; exact ⟨rfl,rfl⟩
theorem ZiZ (h : (Yl l q.cols).2 = 0) (h1 : 0 ≤ Zx l (Zda q)) (h2 : Zx (Yl l q.cols).1 t < 0) (ht : Zfp q = t) (hf : q.fn = 2) (hk : (Xv l (Zda q)).kind ≠ 1) : [] = (XF q l).1 ∧ 13 = (XF q l).2:=by
 unfold XF ZhV; rw [if_neg (by omega),if_neg (by omega),if_neg (by rw [ht]; omega),if_pos ⟨hf,by rw [if_neg (by omega)]; exact hk⟩]; exact ⟨rfl,rfl⟩
theorem YX (h : (Yl l q.cols).2 = 0) (h1 : q.fn = 1) (h2 : Zx (Yl l q.cols).1 t < 0) (ht : Zfp q = t) : Qa ((Yl l q.cols).1 ++ [⟨t,1⟩]) = XF q l:=by
 unfold XF ZhV; rw [if_neg (by omega),if_neg (by omega),if_neg (by rw [ht]; omega),if_neg (by omega),if_neg (show ¬ q.fn = 2 by omega),if_pos h1,ht]
theorem YY (h : (Yl l q.cols).2 = 0) (h1 : 0 ≤ Zx l (Zda q)) (h2 : Zx (Yl l q.cols).1 t < 0) (ht : Zfp q = t) (hf : q.fn = 2) (hk : (Xv l (Zda q)).kind = 1) : Qa ((Yl l q.cols).1 ++ [⟨t,1⟩]) = XF q l:=by
 unfold XF ZhV; rw [if_neg (by omega),if_neg (by omega),if_neg (by rw [ht]; omega),if_neg (by rw [if_neg (by omega)]; omega),if_pos hf,ht]
theorem YZ {k : Int} (h : (Yl l q.cols).2 = 0) (h1 : 0 ≤ Zx l (Zda q)) (h2 : Zx (Yl l q.cols).1 t < 0) (ht : Zfp q = t) (hf : ¬ q.fn = 2) (h3 : ¬ q.fn = 1) (hk : (Xv l (Zda q)).kind = k) : Qa ((Yl l q.cols).1 ++ [⟨t,k⟩]) = XF q l:=by
 unfold XF ZhV; rw [if_neg (by omega),if_neg (by omega),if_neg (by rw [ht]; omega),if_neg (by omega),if_neg hf,if_neg h3,hk,ht]
theorem ZhW {ns : List Str} : (Yl l ns).1.length ≤ ns.length:=by unfold Yl; split <;> simp
end
def YM (n : Nat) (q : Query) (l : List Schema) (ins : List (List Col)) : List Col × Int:=
 if q.kind = 1 then (if (YQ l q.table).isSome then (((YQ l q.table).getD noS).cols,0) else ([],7))
 else if q.kind = 2 then (if Xq n q.cond ((ins[0]?).getD []) = 0 then ((ins[0]?).getD [],0) else ([],Xq n q.cond ((ins[0]?).getD [])))
 else if q.kind = 3 then Yl ((ins[0]?).getD []) q.cols
 else if q.kind = 4 then QM q ((ins[0]?).getD [])
 else if q.kind = 5 then jnT ((ins[0]?).getD []) ((ins[1]?).getD [])
 else if q.kind = 6 ∨ q.kind = 7 then (if (ins[0]?).getD [] = (ins[1]?).getD [] then ((ins[0]?).getD [],0) else ([],13))
 else if q.kind = 9 then XF q ((ins[0]?).getD [])
 else if q.kind = 10 then (if ((ins[1]?).getD []).any (fun c=>decide (0 ≤ Zx ((ins[0]?).getD []) c.name)) then ([],8) else Qa ((ins[0]?).getD [] ++ (ins[1]?).getD []))
 else ((ins[0]?).getD [],0)
def Y5 : Nat → Query → List Schema → List Col × Int
 | 0,_,_=>([],0)
 | n + 1,q,l=>if q.l.all (fun x=>decide ((Y5 n x l).2 = 0)) then YM (n + 1) q l (q.l.map fun x=>(Y5 n x l).1)
  else ([],((q.l.find? fun x=>!decide ((Y5 n x l).2 = 0)).map fun x=>(Y5 n x l).2).getD 0)
section
variable {n : Nat} {q x : Query} {l : List Schema} {ins : List (List Col)} {a b : List Col} {k : Nat}
theorem ZhX (h : ∀ j,j < k → ∀ x,q.l[j]? = some x → (Y5 n x l).2 = 0) (hk : q.l.length ≤ k) : Y5 (n + 1) q l = YM (n + 1) q l (q.l.map fun x=>(Y5 n x l).1):=by
 have : q.l.all (fun x=>decide ((Y5 n x l).2 = 0)) = true:=List.all_eq_true.2 fun x hx=>by
  obtain ⟨i,hi⟩:=List.getElem?_of_mem hx
  exact decide_eq_true (h i (Nat.lt_of_lt_of_le (List.getElem?_eq_some_iff.1 hi).1 hk) x hi)
 rw [Y5,if_pos this]
theorem Zfq (h : ∀ j,j < k → ∀ x,q.l[j]? = some x → (Y5 n x l).2 = 0) (hx : q.l[k]? = some x) (he : (Y5 n x l).2 ≠ 0) : [] = (Y5 (n + 1) q l).1 ∧ (Y5 n x l).2 = (Y5 (n + 1) q l).2:=by
 have h1 : ¬ q.l.all (fun x=>decide ((Y5 n x l).2 = 0)) = true:=by
  rw [Bool.not_eq_true]
  exact List.all_eq_false.2 ⟨x,List.mem_of_getElem? hx,by rw [decide_eq_false he]; simp⟩
 have h2 : (q.l.find? fun x=>!decide ((Y5 n x l).2 = 0)) = some x:=by
  have hl:=(List.getElem?_eq_some_iff.1 hx).1
  rw [List.find?_eq_some_iff_getElem]
  refine ⟨by rw [decide_eq_false he]; rfl,k,hl,(List.getElem?_eq_some_iff.1 hx).2,fun j hj=>?_⟩
  have hjl : j < q.l.length:=by omega
  rw [decide_eq_true (h j hj _ (List.getElem?_eq_getElem hjl))]; rfl
 rw [Y5,if_neg h1,h2]; exact ⟨rfl,rfl⟩
theorem QF (h : Xc n q = true) (hk : ¬ q.kind = 1) : 1 ≤ q.l.length:=by
 by_cases e : (q.l.length : Int) = 0
 ·have hc : (q.kind = 2 ∨ q.kind = 3 ∨ q.kind = 4 ∨ q.kind = 8 ∨ q.kind = 9) ∨ (q.kind = 5 ∨ q.kind = 6 ∨ q.kind = 7 ∨ q.kind = 10) ∨ (¬ q.kind = 1 ∧ ¬ q.kind = 2 ∧ ¬ q.kind = 3 ∧ ¬ q.kind = 4 ∧ ¬ q.kind = 5 ∧ ¬ q.kind = 6 ∧ ¬ q.kind = 7 ∧ ¬ q.kind = 8 ∧ ¬ q.kind = 9 ∧ ¬ q.kind = 10):=by omega
  rcases hc with hc | hc | ⟨h1,h2,h3,h4,h5,h6,h7,h8,h9,h10⟩
  ·rw [← ZiU (n:=n) (m:=1) (.inr (.inl ⟨hc,rfl⟩)) (by omega)] at h; cases h
  ·rw [← ZiU (n:=n) (m:=2) (.inr (.inr ⟨hc,rfl⟩)) (by omega)] at h; cases h
  ·rw [ZiT h1 h2 h3 h4 h5 h6 h7 h8 h9 h10] at h; cases h
 ·omega
theorem op2 (h : Xc n q = true) (hk : q.kind = 5 ∨ q.kind = 6 ∨ q.kind = 7 ∨ q.kind = 10) : q.l.length = 2:=by
 by_cases e : (q.l.length : Int) = 2
 ·omega
 ·rw [← ZiU (n:=n) (m:=2) (.inr (.inr ⟨hk,rfl⟩)) e] at h; cases h
theorem QE {i : Nat} (h : ins[i]? = some a) : (ins[i]?).getD [] = a:=by rw [h]; rfl
theorem Zma (hk : q.kind = 1) (h : (YQ l q.table).isSome = false) : [] = (YM n q l ins).1 ∧ 7 = (YM n q l ins).2:=by unfold YM; rw [if_pos hk,h]; exact ⟨rfl,rfl⟩
theorem Zmb (hk : q.kind = 1) (h : (YQ l q.table).isSome = true) : ((YQ l q.table).getD noS).cols = (YM n q l ins).1 ∧ 0 = (YM n q l ins).2:=by unfold YM; rw [if_pos hk,h]; exact ⟨rfl,rfl⟩
theorem Zh4 (hk : q.kind = 2) (h0 : ins[0]? = some a) (h : Xq n q.cond a ≠ 0) : [] = (YM n q l ins).1 ∧ Xq n q.cond a = (YM n q l ins).2:=by
 unfold YM; rw [if_neg (by omega),if_pos hk,QE h0,if_neg h]; exact ⟨rfl,rfl⟩
theorem Zh5 (hk : q.kind = 2) (h0 : ins[0]? = some a) (h : Xq n q.cond a = 0) : a = (YM n q l ins).1 ∧ 0 = (YM n q l ins).2:=by
 unfold YM; rw [if_neg (by omega),if_pos hk,QE h0,if_pos h]; exact ⟨rfl,rfl⟩
theorem ZgJ (hk : q.kind = 3) (h0 : ins[0]? = some a) : Yl a q.cols = YM n q l ins:=by unfold YM; rw [if_neg (by omega),if_neg (by omega),if_pos hk,QE h0]
theorem Zfr (hk : q.kind = 4) (h0 : ins[0]? = some a) : QM q a = YM n q l ins:=by unfold YM; rw [if_neg (by omega),if_neg (by omega),if_neg (by omega),if_pos hk,QE h0]
theorem ZgK (hk : q.kind = 5) (h0 : ins[0]? = some a) (h1 : ins[1]? = some b) : jnT a b = YM n q l ins:=by unfold YM; rw [if_neg (by omega),if_neg (by omega),if_neg (by omega),if_neg (by omega),if_pos hk,QE h0,QE h1]
theorem Zd6 (hk : q.kind = 6 ∨ q.kind = 7) (h0 : ins[0]? = some a) (h1 : ins[1]? = some b) (h : ¬ a = b) : [] = (YM n q l ins).1 ∧ 13 = (YM n q l ins).2:=by
 unfold YM; rw [if_neg (by omega),if_neg (by omega),if_neg (by omega),if_neg (by omega),if_neg (by omega),if_pos hk,QE h0,QE h1,if_neg h]; exact ⟨rfl,rfl⟩
theorem Zd7 (hk : q.kind = 6 ∨ q.kind = 7) (h0 : ins[0]? = some a) (h1 : ins[1]? = some b) (h : a = b) : a = (YM n q l ins).1 ∧ 0 = (YM n q l ins).2:=by
 unfold YM; rw [if_neg (by omega),if_neg (by omega),if_neg (by omega),if_neg (by omega),if_neg (by omega),if_pos hk,QE h0,QE h1,if_pos h]; exact ⟨rfl,rfl⟩
theorem Zki (hk : q.kind = 9) (h0 : ins[0]? = some a) : XF q a = YM n q l ins:=by unfold YM; rw [if_neg (by omega),if_neg (by omega),if_neg (by omega),if_neg (by omega),if_neg (by omega),if_neg (by omega),if_pos hk,QE h0]
theorem Zh6 (hk : q.kind = 10) (h1 : ins[1]? = some b) (h : (b.any fun c=>decide (0 ≤ Zx ((ins[0]?).getD []) c.name)) = true) : [] = (YM n q l ins).1 ∧ 8 = (YM n q l ins).2:=by
 unfold YM; rw [if_neg (by omega),if_neg (by omega),if_neg (by omega),if_neg (by omega),if_neg (by omega),if_neg (by omega),if_neg (by omega),if_pos hk,QE h1,if_pos h]; exact ⟨rfl,rfl⟩
theorem Zh7 (hk : q.kind = 10) (h0 : ins[0]? = some a) (h1 : ins[1]? = some b) (h : (b.any fun c=>decide (0 ≤ Zx ((ins[0]?).getD []) c.name)) = false) : Qa [a,b].flatten = YM n q l ins:=by
 unfold YM; rw [if_neg (by omega),if_neg (by omega),if_neg (by omega),if_neg (by omega),if_neg (by omega),if_neg (by omega),if_neg (by omega),if_pos hk,QE h1,if_neg (by rw [h]; simp),QE h0]; simp
theorem Zkj (h1 : ¬ q.kind = 1) (h2 : ¬ q.kind = 2) (h3 : ¬ q.kind = 3) (h4 : ¬ q.kind = 4) (h5 : ¬ q.kind = 5) (h6 : ¬ q.kind = 6) (h7 : ¬ q.kind = 7) (h9 : ¬ q.kind = 9) (h10 : ¬ q.kind = 10) (h0 : ins[0]? = some a) : a = (YM n q l ins).1 ∧ 0 = (YM n q l ins).2:=by
 unfold YM; rw [if_neg h1,if_neg h2,if_neg h3,if_neg h4,if_neg h5,if_neg (by omega),if_neg h9,if_neg h10,QE h0]; exact ⟨rfl,rfl⟩
end
def okQ : Nat → Query → Prop
 | 0,_=>False
 | n + 1,q=>Xc (n + 1) q = true ∧ q.cols.length ≤ 20 ∧ q.names.length ≤ 20 ∧ ∀ x ∈ q.l,okQ n x
end Go.Civ
set_option linter.unusedVariables false
set_option linter.unusedSimpArgs false
set_option maxRecDepth 100000
set_option maxHeartbeats 4000000
namespace Go.Civ
open Go.Proofs
theorem ZgP {G : GH} {w : World} (hG : G.In w) (l : List Col) (vl : Value) (hvl : Sl ColE 24 G vl l) : CL Tryz.prog (nat_lit 121) #[vl] [] w G fun G' w' r=>∃ o,YH ColE 24 (nat_lit 48) G' r l o ∧ ZdY w w' G' o:=by
 refine Zo ft [] Tryz.func121 V V ?_
 have hS:=St.start (X:=[]) hG
 refine Zjw hvl Yx V V V (fun h1=>?_) ?_
 ·exact RT hS V ⟨none,YH.cast (YH.nil _ _ _ _) (by exact Eq.symm ‹_›),fun _ h=>by cases h⟩
 refine WL.buildSlice _ [] [] hS YF V V V V (fun z hz=>by match z,hz with | [],_=>rfl) (fun b1 w1 N1 S1=>?_)
 have R1:=YH.empty ColE 24 48 G b1
 refine YV YF V V V R1 S1 0 V hvl (by have:=Zm; have:=hvl.bytes; have:=hvl.bound; simp only [List.length_nil,Nat.zero_add]; omega) (by have:=Zm; have:=hvl.bytes; have:=hvl.bound; simp only [List.length_nil,Nat.zero_add]; omega) V V V (fun v1 o1 w2 R2 S2=>?_)
 exact RT S2 V ⟨_,YH.cast R2 (by rfl),S2.freshAt 0 V⟩
theorem Zkm {G : GH} {w : World} (hG : G.In w) (x : Col) (nm : List UInt8) (cx : List Value) (hcx : ColE.rep G x cx) (pn : Addr) (hpn : YC G pn [Zb nm]) : CL Tryz.prog (nat_lit 224) #[.agg cx.toArray,Zu pn] [] w G fun _ _ r=>r = .bool (decide (x.name = nm)):=by
 refine Zo ft [] Tryz.func224 V V ?_
 have hS:=St.start (X:=[]) hG
 obtain ⟨rfl,B1,B2⟩:=Yh hcx
 refine ZL [Zb x.name,U x.kind] _ hS V V V (fun p1 w1 G1 L1 M1 C1 S1=>?_)
 refine Za S1 (YC.drop 0 C1) Zy V V V <| Za S1 (hpn.mono L1) Zy V V V <| Zn .eql V x.name nm V V V ?_
 exact RB S1 V (by simp [SCmp.b])
theorem ZdC {G : GH} {w : World} (hG : G.In w) (l : List Col) (nm : List UInt8) (vl : Value) (hvl : Sl ColE 24 G vl l) : CL Tryz.prog (nat_lit 128) #[vl,Zb nm] [] w G fun _ _ r=>r = U (Zx l nm):=by
 refine Zo ft [] Tryz.func128 V V ?_
 have hS:=St.start (X:=[]) hG
 refine ZL [Zb nm] _ hS V V V (fun p1 w1 G1 L1 M1 C1 S1=>?_)
 refine Zw S1 ZaC V V V (Zfk S1.imm l (fun x8=>decide (x8.name = nm)) _ (hvl.mono L1) 224 #[Zu p1] ⟨ZcA,fun G8 w8 v8 x8 L8 hG8 hon8 hA8=>by obtain ⟨cs_x8,rfl,hr_x8⟩:=hA8; exact Zkm hG8 x8 nm cs_x8 hr_x8 p1 (C1.mono L8)⟩) (fun w2 G2 S2 L2=>?_)
 exact RI S2 V (by rfl)
theorem Zcn {G : GH} {w : World} (hG : G.In w) (l : List Col) (vl : Value) (hvl : Sl ColE 24 G vl l) : CL Tryz.prog (nat_lit 129) #[vl] [] w G fun G' _ r=>∃ r0 r1,r = .tuple #[r0,r1] ∧ Sl ColE 24 G' r0 ((Qa l).1) ∧ r1 = U ((Qa l).2):=by
 refine Zo ft [] Tryz.func129 V V ?_
 have hS:=St.start (X:=[]) hG
 have V1:=hvl.bound
 refine Zl hvl Yx V V ?_
 refine Yk (l.length : Int) 8 V V V (fun h1=>?_) (fun h1=>?_)
 ·exact RT hS V ⟨_,_,V,(Sl.cast (Sl.nil ColE 24 G) (by exact (Zh3 (by omega)).1)),(congrArg (Value.int .i64) (by exact (Zh3 (by omega)).2))⟩
 exact RT hS V ⟨_,_,V,(Sl.cast hvl (by exact (Zgg (by omega)).1)),(congrArg (Value.int .i64) (by exact (Zgg (by omega)).2))⟩
theorem Zlp {G : GH} {w : World} (hG : G.In w) (l : List Col) (ns : List (List UInt8)) (vl : Value) (hvl : Sl ColE 24 G vl l) (vn : Value) (hvn : Sl Enc.str 16 G vn ns) (hns : ns.length ≤ 1000) : CL Tryz.prog (nat_lit 123) #[vl,vn] [] w G fun G' w' r=>∃ r0 r1,r = .tuple #[r0,r1] ∧ (∃ o,YH ColE 24 (nat_lit 48) G' r0 ((Yl l ns).1) o ∧ ZdY w w' G' o) ∧ r1 = U ((Yl l ns).2):=by
 refine Zo ft [] Tryz.func123 V V ?_
 have hS:=St.start (X:=[]) hG
 have V1:=hvn.bound
 refine Zl hvn Yo V V ?_
 have S2:=hS.pad
 refine LP.go ft [] (fun m ρ1 w1=>∃ (k1 : Nat),∃ (v1 : Value) (o1 : OB),∃ (G1 : GH),m = ns.length - k1 ∧ G.le G1 ∧ St w [] G G1 [o1] w1 ∧ YH ColE 24 48 G1 v1 ((ns.take k1).map (Xv l)) o1 ∧ FR ρ1 [(0,vl),(6,v1),(10,vn),(11,U (ns.length : Int)),(12,U (k1 : Int))] ∧ k1 ≤ ns.length ∧ ∀ j,j < k1 → ∀ s,ns[j]? = some s → 0 ≤ Zx l s) _ ⟨0,(Zh),none,G,V,(G.le_refl),S2,(YH.cast (YH.nil ColE 24 48 G) (by simp)),(Yt V),(by omega),(by intro j hj; omega)⟩ ?_
 rintro m ρ1 w1 ⟨k1,v1,o1,G1,rfl,L1,S1,R1,F9,f1,f2⟩
 refine F9.set ?_
 clear F9
 have hlt9:=List.length_take_le' k1 ns
 refine Z1 (k1 : Int) (ns.length : Int) V V V (fun h1=>?_) (fun h1=>?_)
 ·refine WL.indexAddr (hvn.mono L1) k1 (by omega) Yo Zy V V V V (fun p1 x1 U1 E1=>?_)
  obtain ⟨D1,C1,R2⟩:=E1
  obtain ⟨rfl,B1⟩:=R2
  refine Za S1 C1 Zy V V V ?_
  refine Zw S1 Qm V V V (ZdC S1.imm l x1 _ (hvl.mono L1)) (fun w2 G2 S3 L2=>?_)
  refine Z1 (Zx l x1) 0 V V V (fun h2=>?_) (fun h2=>?_)
  ·exact RT S3 V ⟨_,_,V,⟨none,YH.cast (YH.nil _ _ _ _) (by exact (Zkc ‹_› ‹_›).1),fun _ h=>by cases h⟩,(congrArg (Value.int .i64) (by exact (Zkc ‹_› ‹_›).2))⟩
  refine WL.indexAddr (hvl.mono (L1.trans L2)) (((Zx l x1)).toNat) (by exact Zaz (by omega)) Yx Ym V V V (congrArg (Value.int .i64) (Int.toNat_of_nonneg (by omega)).symm) (fun p2 x2 U2 E2=>?_)
  obtain ⟨D2,C2,R3⟩:=E2
  obtain ⟨rfl,B2,B3⟩:=Yh R3
  refine Zc S3 C2 [Zb x2.name,U x2.kind] Ym V V V V V ?_
  refine WL.buildSlice _ [(0,[Zb x2.name,U x2.kind])] [Zb x2.name,U x2.kind] S3 YF V V V V (fun z hz=>by match z,hz with | [z0,z1],_=>rfl) (fun b1 w3 N1 S4=>?_)
  refine WL.push (m:=([x2] : List Col)) YF V V V (R1.mono L2) S4 1 V 0 _ _ _ _ _ V ⟨[Zb x2.name,U x2.kind],_,V,(Xz x2 B2 B3),V⟩ V (by have:=Zm; simp only [List.length_append,List.length_map,List.length_take,List.length_cons,List.length_nil]; omega) (by have:=Zm; simp only [List.length_append,List.length_map,List.length_take,List.length_cons,List.length_nil]; omega) V V V (fun v2 o2 w4 R4 S5=>?_)
  have S6:=S5.tail
  refine ZC k1 (by have:=Zm; omega) V V V ?_
  exact BK.mk' _ ⟨k1 + 1,v2,o2,G2,V,(L1.trans L2),S6,(YH.cast R4 (by (exact (Zkd ‹_› (ZB (by omega) ‹_›)).symm))),(Yt V),(by omega),(by exact Yz ‹_› ‹_› (by omega))⟩ (show ns.length - (k1 + 1) < ns.length - k1 by omega)
 exact RT S1 V ⟨_,_,V,⟨_,YH.cast R1 (by exact (ZhU ‹_› (by omega)).1),S1.freshAt 0 V⟩,(congrArg (Value.int .i64) (by exact (ZhU ‹_› (by omega)).2))⟩
theorem ZnC {G : GH} {w : World} (hG : G.In w) (a b : List Col) (va : Value) (hva : Sl ColE 24 G va a) (vb : Value) (hvb : Sl ColE 24 G vb b) (ha : a.length ≤ 1000) (hb : b.length ≤ 1000) : CL Tryz.prog (nat_lit 125) #[va,vb] [] w G fun G' _ r=>∃ r0 r1,r = .tuple #[r0,r1] ∧ Sl ColE 24 G' r0 ((jnT a b).1) ∧ r1 = U ((jnT a b).2):=by
 refine Zo ft [] Tryz.func125 V V ?_
 have hS:=St.start (X:=[]) hG
 refine XG QT V V V (ZgP hS.imm a _ hva) (fun w1 G1 r1 hres1 P1=>?_)
 have S1:=hS.call hres1
 have L1:=hres1.le
 obtain ⟨o1,R1,hf1⟩:=P1
 have S2:=hS.adoptO hres1 hf1
 have V1:=hvb.bound
 refine Zl (hvb.mono L1) Yx V V ?_
 refine LP.go ft [] (fun m ρ1 w1=>∃ (k1 : Nat),∃ (v1 : Value) (o2 : OB),∃ (G2 : GH),m = b.length - k1 ∧ G1.le G2 ∧ St w [] G G2 [o2] w1 ∧ YH ColE 24 48 G2 v1 (a ++ ZaY a (b.take k1)) o2 ∧ FR ρ1 [(0,va),(6,v1),(12,vb),(13,U (b.length : Int)),(14,U (k1 : Int))] ∧ k1 ≤ b.length ∧ ∀ j,j < k1 → ∀ c,b[j]? = some c → jnB a c = true) _ ⟨0,r1,o1,G1,V,(G1.le_refl),S2,(YH.cast R1 (by simp [ZaY])),(Yt V),(by omega),(by intro j hj; omega)⟩ ?_
 rintro m ρ1 w2 ⟨k1,v1,o2,G2,rfl,L2,S3,R2,F9,f1,f2⟩
 refine F9.set ?_
 clear F9
 have hnl9:=@Zke k1 a b
 refine Z1 (k1 : Int) (b.length : Int) V V V (fun h1=>?_) (fun h1=>?_)
 ·have j1:=(L1.trans L2)
  refine WL.indexAddr (hvb.mono j1) k1 (by omega) Yx Ym V V V V (fun p1 x1 U1 E1=>?_)
  obtain ⟨D1,C1,R3⟩:=E1
  obtain ⟨rfl,B1,B2⟩:=Yh R3
  refine Zc S3 C1 [Zb x1.name,U x1.kind] Ym V V V V V ?_
  refine WL.alloc S3 Ym V V (fun b1 w3 N1 S4=>?_)
  refine ZY S4 0 [Zb x1.name,U x1.kind] V V Ym V V V V V V (fun w4 S5=>?_)
  obtain ⟨G3,L3,C2,S6⟩:=S5.shutB N1
  refine Za S6 (YC.drop 0 C2) Zy V V V ?_
  refine Zw S6 Qm V V V (ZdC S6.imm a x1.name _ (hva.mono (j1.trans L3))) (fun w5 G4 S7 L4=>?_)
  refine Z1 (Zx a x1.name) 0 V V V (fun h2=>?_) (fun h2=>?_)
  ·refine Zc S7 (C2.mono L4) [Zb x1.name,U x1.kind] Ym V V V V V ?_
   refine WL.buildSlice _ [(0,[Zb x1.name,U x1.kind])] [Zb x1.name,U x1.kind] S7 YF V V V V (fun z hz=>by match z,hz with | [z0,z1],_=>rfl) (fun b2 w6 N2 S8=>?_)
   refine WL.push (m:=([x1] : List Col)) YF V V V (R2.mono (L3.trans L4)) S8 1 V 0 _ _ _ _ _ V ⟨[Zb x1.name,U x1.kind],_,V,(Xz x1 B1 B2),V⟩ V (by have:=Zm; simp only [List.length_append,List.length_map,List.length_take,List.length_cons,List.length_nil]; omega) (by have:=Zm; simp only [List.length_append,List.length_map,List.length_take,List.length_cons,List.length_nil]; omega) V V V (fun v2 o3 w7 R4 S9=>?_)
   have S10:=S9.tail
   refine ZC k1 (by have:=Zm; omega) V V V ?_
   exact BK.mk' _ ⟨k1 + 1,v2,o3,G4,V,(L2.trans (L3.trans L4)),S10,(YH.cast R4 (by (rw [Znx ‹_› ‹_›,List.append_assoc]))),(Yt V),(by omega),(by exact Yz ‹_› ‹_› (by exact Zpu ‹_›))⟩ (show b.length - (k1 + 1) < b.length - k1 by omega)
  obtain ⟨p2,x2,U2,E2,W1⟩:=Sl.at (hva.mono ((j1.trans L3).trans L4)) (((Zx a x1.name)).toNat) (by exact Zaz (by omega))
  obtain ⟨D2,C3,R5⟩:=E2
  obtain ⟨rfl,B3,B4⟩:=Yh R5
  rcases Cmp.dec .neq x2.kind x1.kind with ⟨B5,q1⟩ | ⟨B5,q1⟩
  ·have h3 : x2.kind ≠ x1.kind:=q1
   clear q1
   refine dr [] [(30,Zu p2),(32,U x2.kind),(34,U x1.kind),(35, .bool true)] S7 ⟨fun _=>Zf (((Zx a x1.name)).toNat) W1 Yx Ym V V V (congrArg (Value.int .i64) (Int.toNat_of_nonneg (by omega)).symm) <| nu V V,fun _ hSw=>Za hSw (YC.drop 1 C3) Z3 V V V <| nu V V,fun _ hSw=>Za hSw (YC.drop 1 (C2.mono L4)) Z3 V V V <| nu V V,fun _=>WL.cmpV .neq V .i64 x2.kind x1.kind _ B5 V V V <| nu V V,trivial⟩ (fun w9 S11=>?_)
   exact RT S11 V ⟨_,_,V,(Sl.cast (Sl.nil ColE 24 G4) (by exact (Zgh ‹_› (by omega) (by rw [ZB (by omega) ‹_›]; assumption)).1)),(congrArg (Value.int .i64) (by exact (Zgh ‹_› (by omega) (by rw [ZB (by omega) ‹_›]; assumption)).2))⟩
  have h3 : x2.kind = x1.kind:=q1
  clear q1
  refine dr [] [(30,Zu p2),(32,U x2.kind),(34,U x1.kind),(35, .bool false)] S7 ⟨fun _=>Zf (((Zx a x1.name)).toNat) W1 Yx Ym V V V (congrArg (Value.int .i64) (Int.toNat_of_nonneg (by omega)).symm) <| nu V V,fun _ hSw=>Za hSw (YC.drop 1 C3) Z3 V V V <| nu V V,fun _ hSw=>Za hSw (YC.drop 1 (C2.mono L4)) Z3 V V V <| nu V V,fun _=>WL.cmpV .neq V .i64 x2.kind x1.kind _ B5 V V V <| nu V V,trivial⟩ (fun w10 S12=>?_)
  refine ZC k1 (by have:=Zm; omega) V V V ?_
  exact BK.mk' _ ⟨k1 + 1,v1,o2,G4,V,(L2.trans (L3.trans L4)),S12,(YH.cast (R2.mono (L3.trans L4)) (by (rw [Zny ‹_› (by omega)]))),(Yt V),(by omega),(by exact Yz ‹_› ‹_› (by exact Zpv (by rw [ZB (by omega) ‹_›]; assumption)))⟩ (show b.length - (k1 + 1) < b.length - k1 by omega)
 obtain ⟨G5,L5,A1,S13⟩:=YH.freeze R2 S3 0 V
 refine Zv S13 QU V V V (Zcn S13.imm (a ++ ZaY a (b.take k1)) _ A1) ?_
 rintro w11 G6 _ ⟨r3,_,rfl,A2,rfl⟩ S14 L6
 exact RT S14 V ⟨_,_,V,(Sl.cast A2 (by (rw [Zfo ‹_› (by omega),List.take_of_length_le (by omega)]))),(congrArg (Value.int .i64) (by (rw [Zfo ‹_› (by omega),List.take_of_length_le (by omega)])))⟩
theorem ZnD {G : GH} {w : World} (hG : G.In w) (l : List Col) (pf : Col → Bool) (vl : Value) (ol : OB) (hvl : YH ColE 24 (nat_lit 48) G vl l ol) (hol : XK w G ol) (fid : Nat) (fcap : Array Value) (hf : FnB Tryz.prog (Is ColE) fid fcap G (fun x=>x ∈ l) pf) : CL Tryz.prog (nat_lit 84) #[vl, .func (.func fid) #[] fcap] (blk ol) w G fun G' w' r=>r = U (YP pf l) ∧ YH ColE 24 (nat_lit 48) G' vl l ol ∧ XK w' G' ol:=by
 refine Zo ft [] Tryz.func84 V V ?_
 have hS:=St.lentO hG hol
 have V1:=hvl.bound
 refine ZdS hvl Yx V V ?_
 refine LP.go ft [] (fun m ρ1 w1=>∃ (k1 : Nat),∃ (G1 : GH),m = l.length - k1 ∧ G.le G1 ∧ St w (blk ol) G G1 [ol] w1 ∧ FR ρ1 [(0,vl),(1, .func (.func fid) #[] fcap),(7,U (l.length : Int)),(8,U (k1 : Int))] ∧ k1 ≤ l.length ∧ ∀ j,j < k1 → ∀ x,l[j]? = some x → pf x = false) _ ⟨0,G,V,(G.le_refl),hS,(Yt V),(by omega),(by intro j hj; omega)⟩ ?_
 rintro m ρ1 w1 ⟨k1,G1,rfl,L1,S1,F9,f1,f2⟩
 refine F9.set ?_
 clear F9
 refine Z1 (k1 : Int) (l.length : Int) V V V (fun h1=>?_) (fun h1=>?_)
 ·refine ZdU (hvl.mono L1) k1 (by omega) Yx Ym V V V V (fun p1 x1 ec1 U1 R1 ra1=>?_)
  obtain ⟨rfl,B1,B2⟩:=Yh R1
  refine ZmG ra1 S1 0 V Ym V V V V ?_
  refine Zw S1 hf.body V V V (hf.call _ _ (.agg #[Zb x1.name,U x1.kind]) x1 L1 S1.imm (List.mem_of_getElem? ‹_›) ⟨_,V,(Xz x1 B1 B2)⟩) (fun w2 G2 S2 L2=>?_)
  refine WL.split (fun (h2 : (pf x1) = true)=>?_) (fun (h2 : (pf x1) = false)=>?_)
  ·exact RT S2 V ⟨congrArg (Value.int .i64) (by exact (Za2 _ ‹_› ‹_› ‹_›).symm),(hvl.mono (L1.trans L2)),S2.lentAt 0 V⟩
  refine ZC k1 (by have:=Zm; omega) V V V ?_
  exact BK.mk' _ ⟨k1 + 1,G2,V,(L1.trans L2),S2,(Yt V),(by omega),(by exact Yz ‹_› ‹_› ‹_›)⟩ (show l.length - (k1 + 1) < l.length - k1 by omega)
 exact RT S1 V ⟨congrArg (Value.int .i64) (by exact (QO ‹_› (by omega)).symm),(hvl.mono L1),S1.lentAt 0 V⟩
theorem ZgQ {G : GH} {w : World} (hG : G.In w) (l : List Col) (nm : List UInt8) (vl : Value) (ol : OB) (hvl : YH ColE 24 (nat_lit 48) G vl l ol) (hol : XK w G ol) : CL Tryz.prog (nat_lit 128) #[vl,Zb nm] (blk ol) w G fun G' w' r=>r = U (Zx l nm) ∧ YH ColE 24 (nat_lit 48) G' vl l ol ∧ XK w' G' ol:=by
 refine Zo ft [] Tryz.func128 V V ?_
 have hS:=St.lentO hG hol
 refine ZL [Zb nm] _ hS V V V (fun p1 w1 G1 L1 M1 C1 S1=>?_)
 refine XG ZaC V V V (ZnD S1.imm l (fun x8=>decide (x8.name = nm)) _ _ (hvl.mono L1) (S1.lentAt 0 V) 224 #[Zu p1] ⟨ZcA,fun G8 w8 v8 x8 L8 hG8 hon8 hA8=>by obtain ⟨cs_x8,rfl,hr_x8⟩:=hA8; exact Zkm hG8 x8 nm cs_x8 hr_x8 p1 (C1.mono L8)⟩) (fun w2 G2 r1 hres1 P1=>?_)
 have L2:=hres1.le
 obtain ⟨rfl,R1,hf1⟩:=P1
 have S3:=S1.callRow 0 V hres1 (hvl.mono L1) R1 hf1
 exact RT S3 V ⟨congrArg (Value.int .i64) (by rfl),(hvl.mono (L1.trans L2)),S3.lentAt 0 V⟩
end Go.Civ
