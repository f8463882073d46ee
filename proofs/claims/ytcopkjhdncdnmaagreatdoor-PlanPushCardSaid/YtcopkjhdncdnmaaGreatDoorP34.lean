/- Lemmas. -/
import Derived.Test.YtcopkjhdncdnmaaGreatDoorP33
set_option linter.unusedVariables false
set_option linter.unusedSimpArgs false
set_option maxRecDepth 100000
set_option maxHeartbeats 4000000
namespace Go.Civ
open Go.Proofs
theorem ZnF {G : GH} {w : World} (hG : G.In w) (l : List (List Col)) (vl : Value) (hvl : Sl (ColE.slice 24) 24 G vl l) (hl : l.flatten.length ≤ 1000000) : CL Tryz.prog (nat_lit 130) #[vl] [] w G fun G' _ r=>Sl ColE 24 G' r l.flatten:=by
 refine Zo ft [] Tryz.func130 V V ?_
 have hS:=St.start (X:=[]) hG
 have V1:=hvl.bound
 refine Zl hvl Y4 V V ?_
 refine LP.go ft [] (fun m ρ1 w1=>∃ (k1 : Nat),∃ (sz : Nat),∃ (G1 : GH),m = l.length - k1 ∧ G.le G1 ∧ St w [] G G1 [] w1 ∧ FR ρ1 [(0,vl),(3,U (sz : Int)),(9,vl),(10,U (l.length : Int)),(11,U (k1 : Int))] ∧ k1 ≤ l.length ∧ sz = (l.take k1).flatten.length) _ ⟨0,0,G,V,(G.le_refl),hS,(Yt V),(by omega),(by simp)⟩ ?_
 rintro m ρ1 w1 ⟨k1,sz,G1,rfl,L1,S1,F9,f1,f2⟩
 refine F9.set ?_
 clear F9
 have hf9:=Zgb l k1
 refine Z1 (k1 : Int) (l.length : Int) V V V (fun h1=>?_) (fun h1=>?_)
 ·refine WL.indexAddr (hvl.mono L1) k1 (by omega) Y4 Yb V V V V (fun p1 x1 U1 E1=>?_)
  obtain ⟨D1,C1,R1⟩:=E1
  obtain ⟨v1,rfl,A1⟩:=R1
  refine Za S1 C1 Yb V V V ?_
  have V2:=A1.bound
  refine Zl A1 Yx V V ?_
  refine WL.addN sz x1.length (by have:=Zm; omega) V V V ?_
  refine Z1 ((sz + x1.length : Nat) : Int) 0 V V V (fun h2=>?_) (fun h2=>?_)
  ·exact absurd h2 (by omega)
  refine ZC k1 (by have:=Zm; omega) V V V ?_
  exact BK.mk' _ ⟨k1 + 1,sz + x1.length,G1,V,L1,S1,(Yt V),(by omega),(by rw [Zee ‹_›,List.length_append]; omega)⟩ (show l.length - (k1 + 1) < l.length - k1 by omega)
 refine XG Zdo V V V (Zqm S1.imm sz (by omega)) (fun w2 G2 r1 hres1 P1=>?_)
 have S2:=S1.call hres1
 have L2:=hres1.le
 obtain ⟨o1,R2,hf1⟩:=P1
 have S3:=S1.adoptO hres1 hf1
 have V3:=hvl.bound
 have j1:=(L1.trans L2)
 refine Zl (hvl.mono j1) Y4 V V ?_
 refine LP.go ft [] (fun m ρ1 w1=>∃ (k2 : Nat),∃ (v2 : Value) (o2 : OB),∃ (G3 : GH),m = l.length - k2 ∧ G2.le G3 ∧ St w [] G G3 [o2] w1 ∧ YH ColE 24 48 G3 v2 ((l.take k2).flatten) o2 ∧ FR ρ1 [(6,v2),(25,vl),(26,U (l.length : Int)),(27,U (k2 : Int))] ∧ k2 ≤ l.length) _ ⟨0,r1,o1,G2,V,(G2.le_refl),S3,(YH.cast R2 (by simp)),(Yt V),(by omega)⟩ ?_
 rintro m ρ1 w3 ⟨k2,v2,o2,G3,rfl,L3,S4,R3,F9,f3⟩
 refine F9.set ?_
 clear F9
 have hf8:=Zgb l k2
 refine Z1 (k2 : Int) (l.length : Int) V V V (fun h3=>?_) (fun h3=>?_)
 ·refine WL.indexAddr (hvl.mono (j1.trans L3)) k2 (by omega) Y4 Yb V V V V (fun p2 x2 U2 E2=>?_)
  obtain ⟨D2,C2,R4⟩:=E2
  obtain ⟨v3,rfl,A2⟩:=R4
  refine Za S4 C2 Yb V V V ?_
  refine YV YF V V V R3 S4 0 V A2 (by have hf7:=Zgb l (k2 + 1); rw [Zee ‹_›,List.length_append] at hf7; have:=Zm; (dsimp only; omega)) (by have hf7:=Zgb l (k2 + 1); rw [Zee ‹_›,List.length_append] at hf7; have:=Zm; omega) V V V (fun v4 o3 w4 R5 S5=>?_)
  refine ZC k2 (by have:=Zm; omega) V V V ?_
  exact BK.mk' _ ⟨k2 + 1,v4,o3,G3,V,L3,S5,(YH.cast R5 (by exact (Zee ‹_›).symm)),(Yt V),(by omega)⟩ (show l.length - (k2 + 1) < l.length - k2 by omega)
 obtain ⟨G4,L4,A3,S6⟩:=YH.freeze R3 S4 0 V
 exact RT S6 V (Sl.cast A3 (by exact Zox (by omega)))
end Go.Civ
namespace Go.Civ
open Go.RowKit
set_option linter.unusedVariables false
structure Stp where
 q : Query
 a : Int
 b : Int
 keys : List (Int × Int)
 span : Span
def ZeK : Enc Stp:=(Enc.pair QryE (Enc.pair .int (Enc.pair .int (Enc.pair (ZaZ.slice 16) SpanE)))).via fun x=>(x.q,x.a,x.b,x.keys,x.span)
section
variable {G : GH} {cs : List Value}
theorem ZnI {x : Stp} (h : ZeK.rep G x cs) : ∃ cv nv clv lv kv,cs = [.int .i64 x.q.kind,Zb x.q.table,cv,nv, .int .i64 x.q.cond.kind,Zb x.q.cond.col,Zb x.q.cond.oth, .int .i64 x.q.cond.v.k, .int .i64 x.q.cond.v.n,Zb x.q.cond.v.s,clv, .int .i64 x.q.rel, .int .i64 x.q.fn, .int .i64 x.q.span.a, .int .i64 x.q.span.b,lv, .int .i64 x.a, .int .i64 x.b,kv, .int .i64 x.span.a, .int .i64 x.span.b] ∧
  ZM x.q.kind ∧ x.q.table.length ≤ reach ∧ Sl Enc.str 16 G cv x.q.cols ∧ Sl Enc.str 16 G nv x.q.names ∧ ZM x.q.cond.kind ∧ x.q.cond.col.length ≤ reach ∧ x.q.cond.oth.length ≤ reach ∧ ZM x.q.cond.v.k ∧ ZM x.q.cond.v.n ∧ x.q.cond.v.s.length ≤ reach ∧ Sl CndE 96 G clv x.q.cond.l ∧
  ZM x.q.rel ∧ ZM x.q.fn ∧ ZM x.q.span.a ∧ ZM x.q.span.b ∧ Sl QryE 224 G lv x.q.l ∧ ZM x.a ∧ ZM x.b ∧ Sl ZaZ 16 G kv x.keys ∧ ZM x.span.a ∧ ZM x.span.b:=by
 obtain ⟨c1,c2,rfl,hq,_,_,rfl,⟨rfl,ha⟩,_,_,rfl,⟨rfl,hb⟩,_,_,rfl,⟨kv,rfl,hk⟩,hs⟩:=h
 obtain ⟨cv,nv,clv,lv,rfl,h2,h3,h4,h5,h6,h7,h8,h9,h10,h11,h12,h13,h14,h15,h16,h17⟩:=Ze hq
 obtain ⟨rfl,hs1,hs2⟩:=Ql hs
 exact ⟨cv,nv,clv,lv,kv,rfl,h2,h3,h4,h5,h6,h7,h8,h9,h10,h11,h12,h13,h14,h15,h16,h17,ha,hb,hk,hs1,hs2⟩
theorem Zih (x : Stp) {cv nv clv lv kv : Value} (h2 : ZM x.q.kind) (h3 : x.q.table.length ≤ reach) (h4 : Sl Enc.str 16 G cv x.q.cols) (h5 : Sl Enc.str 16 G nv x.q.names) (h6 : ZM x.q.cond.kind) (h7 : x.q.cond.col.length ≤ reach) (h8 : x.q.cond.oth.length ≤ reach) (h9 : ZM x.q.cond.v.k) (h10 : ZM x.q.cond.v.n) (h11 : x.q.cond.v.s.length ≤ reach) (h12 : Sl CndE 96 G clv x.q.cond.l)
  (h13 : ZM x.q.rel) (h14 : ZM x.q.fn) (h15 : ZM x.q.span.a) (h16 : ZM x.q.span.b) (h17 : Sl QryE 224 G lv x.q.l) (h18 : ZM x.a) (h19 : ZM x.b) (h20 : Sl ZaZ 16 G kv x.keys) (h21 : ZM x.span.a) (h22 : ZM x.span.b) :
  ZeK.rep G x [.int .i64 x.q.kind,Zb x.q.table,cv,nv, .int .i64 x.q.cond.kind,Zb x.q.cond.col,Zb x.q.cond.oth, .int .i64 x.q.cond.v.k, .int .i64 x.q.cond.v.n,Zb x.q.cond.v.s,clv, .int .i64 x.q.rel, .int .i64 x.q.fn, .int .i64 x.q.span.a, .int .i64 x.q.span.b,lv, .int .i64 x.a, .int .i64 x.b,kv, .int .i64 x.span.a, .int .i64 x.span.b]:=
 ⟨_,_,rfl,Zd x.q h2 h3 h4 h5 h6 h7 h8 h9 h10 h11 h12 h13 h14 h15 h16 h17,_,_,rfl,⟨rfl,h18⟩,_,_,rfl,⟨rfl,h19⟩,_,_,rfl,⟨kv,rfl,h20⟩,X2 _ h21 h22⟩
end
def Zag (a : List Col) : List Col → Int → List (Int × Int)
 | [],_=>[]
 | c :: b,j=>(if 0 ≤ Zx a c.name then [(Zx a c.name,j)] else []) ++ Zag a b (j + 1)
section
variable {a b : List Col} {c : Col} {k : Nat}
theorem ZfS : ∀ {b : List Col} {j : Int},Zag a (b ++ [c]) j = Zag a b j ++ (if 0 ≤ Zx a c.name then [(Zx a c.name,j + b.length)] else [])
 | [],j=>by simp [Zag]
 | d :: b,j=>by
  rw [List.cons_append,Zag,Zag,ZfS,List.append_assoc]
  rw [show j + 1 + (b.length : Int) = j + ((d :: b).length : Nat) by simp only [List.length_cons]; omega]
theorem ZrC (h : b[k]? = some c) (h2 : 0 ≤ Zx a c.name) : Zag a (b.take (k + 1)) 0 = Zag a (b.take k) 0 ++ [(Zx a c.name,(k : Int))]:=by
 have:=(List.getElem?_eq_some_iff.1 h).1
 rw [List.take_add_one,h,Option.toList_some,ZfS,if_pos h2,List.length_take,Nat.min_eq_left (by omega),Int.zero_add]
theorem ZrD (h : b[k]? = some c) (h2 : Zx a c.name < 0) : Zag a (b.take (k + 1)) 0 = Zag a (b.take k) 0:=by
 rw [List.take_add_one,h,Option.toList_some,ZfS,if_neg (by omega),List.append_nil]
theorem Zkv : ∀ {b : List Col} {j : Int},(Zag a b j).length ≤ b.length
 | [],_=>Nat.le_refl _
 | c :: b,j=>by
  rw [Zag,List.length_append,List.length_cons]
  have:=@Zkv b (j + 1)
  split <;> simp <;> omega
end
def Zmq : Span:=⟨-62135596800,253402300800⟩
def ndT (q : Query) (p : Span) (s : Bool) : Span × Bool:=if q.kind = 8 then (if s then ZR p q.span else (p,s)) else if q.kind = 10 then (Zmq,true) else (p,s)
def spT (q : Query) (p : Span) (s : Bool) : Span:=if q.kind = 1 ∧ s = true then p else ⟨0,0⟩
noncomputable def Zb4 (S : List Schema) (q : Query) : List (Int × Int):=if q.kind = 5 then Zag (ZP (Yc ((q.l[0]?).getD noQ)) ((q.l[0]?).getD noQ) S).1 (ZP (Yc ((q.l[1]?).getD noQ)) ((q.l[1]?).getD noQ) S).1 0 else []
noncomputable def ZF (S : List Schema) : Nat → Query → Span → Bool → Nat → List Stp
 | 0,_,_,_,_=>[]
 | n + 1,q,p,s,k=>
  let r:=ndT q p s
  let l0:=match q.l[0]? with | some x=>ZF S n x r.1 r.2 k | none=>[]
  let l1:=match q.l[1]? with | some x=>ZF S n x r.1 r.2 (k + l0.length) | none=>[]
  l0 ++ l1 ++ [⟨ZA q,if q.l = [] then -1 else ((k + l0.length - 1 : Nat) : Int),if q.l.length ≤ 1 then -1 else ((k + l0.length + l1.length - 1 : Nat) : Int),Zb4 S q,spT q p s⟩]
end Go.Civ
namespace Go.Civ
open Go.RowKit
set_option linter.unusedVariables false
section
variable {n k : Nat} {q x y : Query} {S : List Schema} {p p' : Span} {s s' : Bool} {acc : List Stp}
theorem ZsA (h : Xc n q = true) : (q.kind = 1 ∧ q.l.length = 0) ∨ ((q.kind = 2 ∨ q.kind = 3 ∨ q.kind = 4 ∨ q.kind = 8 ∨ q.kind = 9) ∧ q.l.length = 1) ∨ ((q.kind = 5 ∨ q.kind = 6 ∨ q.kind = 7 ∨ q.kind = 10) ∧ q.l.length = 2):=by
 have key : ∀ m : Int,(q.kind = 1 ∧ m = 0) ∨ ((q.kind = 2 ∨ q.kind = 3 ∨ q.kind = 4 ∨ q.kind = 8 ∨ q.kind = 9) ∧ m = 1) ∨ ((q.kind = 5 ∨ q.kind = 6 ∨ q.kind = 7 ∨ q.kind = 10) ∧ m = 2) → (q.l.length : Int) = m:=fun m hm=>by
  by_cases e : (q.l.length : Int) = m
  ·exact e
  ·rw [← ZiU hm e] at h; cases h
 have hk : (q.kind = 1) ∨ (q.kind = 2 ∨ q.kind = 3 ∨ q.kind = 4 ∨ q.kind = 8 ∨ q.kind = 9) ∨ (q.kind = 5 ∨ q.kind = 6 ∨ q.kind = 7 ∨ q.kind = 10) ∨ (¬ q.kind = 1 ∧ ¬ q.kind = 2 ∧ ¬ q.kind = 3 ∧ ¬ q.kind = 4 ∧ ¬ q.kind = 5 ∧ ¬ q.kind = 6 ∧ ¬ q.kind = 7 ∧ ¬ q.kind = 8 ∧ ¬ q.kind = 9 ∧ ¬ q.kind = 10):=by omega
 rcases hk with h1 | h2 | h3 | ⟨h1,h2,h3,h4,h5,h6,h7,h8,h9,h10⟩
 ·have:=key 0 (.inl ⟨h1,rfl⟩); exact .inl ⟨h1,by omega⟩
 ·have:=key 1 (.inr (.inl ⟨h2,rfl⟩)); exact .inr (.inl ⟨h2,by omega⟩)
 ·have:=key 2 (.inr (.inr ⟨h3,rfl⟩)); exact .inr (.inr ⟨h3,by omega⟩)
 ·rw [ZiT h1 h2 h3 h4 h5 h6 h7 h8 h9 h10] at h; cases h
theorem Zkw (h8 : ¬ q.kind = 8) (h10 : ¬ q.kind = 10) : ndT q p s = (p,s):=by unfold ndT; rw [if_neg h8,if_neg h10]
theorem Zp4 (h8 : q.kind = 8) (hs : s = true) : ndT q p s = ZR p q.span:=by unfold ndT; rw [if_pos h8,hs]; rfl
theorem Zp5 (h8 : q.kind = 8) (hs : s = false) : ndT q p s = (p,false):=by unfold ndT; rw [if_pos h8,hs]; rfl
theorem Zmr (h : q.kind = 10) : ndT q p s = (Zmq,true):=by unfold ndT; rw [if_neg (by omega),if_pos h]
theorem Zt0 (h : q.kind = 1) (hs : s = true) : spT q p s = p:=by unfold spT; rw [if_pos ⟨h,hs⟩]
theorem ZgU (h : ¬ q.kind = 1 ∨ s = false) : spT q p s = ⟨0,0⟩:=by
 unfold spT; rw [if_neg (fun e=>by rcases h with h | h; exact h e.1; rw [h] at e; exact absurd e.2 (by simp))]
theorem Zfw (h : ¬ q.kind = 5) : Zb4 S q = []:=by unfold Zb4; rw [if_neg h]
theorem ZsB (h : q.kind = 5) (hx : q.l[0]? = some x) (hy : q.l[1]? = some y) : Zb4 S q = Zag (ZP (Yc x) x S).1 (ZP (Yc y) y S).1 0:=by unfold Zb4; rw [if_pos h,hx,hy]; rfl
theorem Zp6 (hl : q.l.length = 0) : acc ++ [⟨ZA q, -1, -1,Zb4 S q,spT q p s⟩] = acc ++ ZF S (n + 1) q p s acc.length:=by
 have e : q.l = []:=List.eq_nil_of_length_eq_zero hl
 simp [ZF,e]
theorem Zms (hl : q.l.length = 1) (hx : q.l[0]? = some x) (hd : ndT q p s = (p',s')) :
  acc ++ ZF S n x p' s' acc.length ++ [⟨ZA q,(((acc ++ ZF S n x p' s' acc.length).length - 1 : Nat) : Int), -1,Zb4 S q,spT q p s⟩] = acc ++ ZF S (n + 1) q p s acc.length:=by
 match e : q.l,hl,hx with
 | [y],_,hx=>
  obtain rfl:=Option.some.inj hx
  simp [ZF,e,hd]
theorem Zje (hl : q.l.length = 2) (hx : q.l[0]? = some x) (hy : q.l[1]? = some y) (hd : ndT q p s = (p',s')) :
  acc ++ ZF S n x p' s' acc.length ++ ZF S n y p' s' (acc ++ ZF S n x p' s' acc.length).length ++ [⟨ZA q,(((acc ++ ZF S n x p' s' acc.length).length - 1 : Nat) : Int),(((acc ++ ZF S n x p' s' acc.length ++ ZF S n y p' s' (acc ++ ZF S n x p' s' acc.length).length).length - 1 : Nat) : Int),Zb4 S q,spT q p s⟩] = acc ++ ZF S (n + 1) q p s acc.length:=by
 match e : q.l,hl,hx,hy with
 | [a,b],_,hx,hy=>
  obtain rfl:=Option.some.inj hx
  obtain rfl:=Option.some.inj hy
  simp [ZF,e,hd,List.append_assoc,Nat.add_assoc]
theorem Zlv (hl : q.l.length = 2) (hx : q.l[0]? = some x) (hy : q.l[1]? = some y) (hd : ndT q p s = (p',s')) (h : acc.length + (ZF S (n + 1) q p s acc.length).length ≤ 1000000) : acc.length + (ZF S n x p' s' acc.length).length ≤ 999999 ∧ (acc ++ ZF S n x p' s' acc.length).length + (ZF S n y p' s' (acc ++ ZF S n x p' s' acc.length).length).length ≤ 999999:=by
 have e:=congrArg List.length (Zje (n:=n) (S:=S) (acc:=acc) hl hx hy hd)
 simp only [List.length_append,List.length_cons,List.length_nil] at e ⊢
 omega
theorem Zgq (hx : q.l[0]? = some x) (hd : ndT q p s = (p',s')) (h : acc.length + (ZF S (n + 1) q p s acc.length).length ≤ 1000000) : acc.length + (ZF S n x p' s' acc.length).length ≤ 999999:=by
 rw [ZF] at h
 simp only [hx,hd,List.length_append,List.length_cons,List.length_nil] at h
 omega
variable {a b : List Col} {c : Col}
theorem ZrE (h : b[k]? = some c) (h2 : 0 ≤ YP (fun x=>decide (x.name = c.name)) a) : Zag a (b.take (k + 1)) 0 = Zag a (b.take k) 0 ++ [(YP (fun x=>decide (x.name = c.name)) a,(k : Int))]:=ZrC h h2
theorem ZrF (h : b[k]? = some c) (h2 : YP (fun x=>decide (x.name = c.name)) a < 0) : Zag a (b.take (k + 1)) 0 = Zag a (b.take k) 0:=ZrD h h2
theorem ZoN {nm : Str} (h : a.length ≤ 20) : ZM (YP (fun x=>decide (x.name = nm)) a):=Zom (Nat.le_trans h (by decide))
end
theorem St.pickT {w0 w : World} {X : List Nat} {G0 G : GH} {A R : Own} (h : St w0 X G0 G (A ++ R) w) (is : List Nat) (hnd : is.Nodup:=by decide) (hlt : is.all (fun i=>decide (i < A.length)) = true:=by rfl) : St w0 X G0 G ((is.map fun i=>(A[i]?).getD none) ++ R) w:=by
 have hl : ∀ j,j < is.length → is.getD j 0 < A.length:=fun j hj=>by
  rw [List.getD_eq_getElem?_getD,List.getElem?_eq_getElem hj]
  exact of_decide_eq_true (List.all_eq_true.1 hlt _ (List.getElem_mem hj))
 refine h.reindex _ (fun j=>if j < is.length then is.getD j 0 else j - is.length + A.length) (fun j p hp=>?_) (fun j k hj hk he=>?_)
 ·by_cases hj : j < is.length
  ·have h1:=hl j hj
   simp only [if_pos hj]
   rw [List.getElem?_append_left (by rw [List.length_map]; exact hj),List.getElem?_map,List.getElem?_eq_getElem hj] at hp
   simp only [Option.map_some,Option.some.injEq] at hp
   rw [List.getD_eq_getElem?_getD,List.getElem?_eq_getElem hj] at h1 ⊢
   simp only [Option.getD_some] at h1 ⊢
   rw [List.getElem?_append_left h1]
   rw [List.getElem?_eq_getElem h1] at hp ⊢
   simp only [Option.getD_some] at hp
   rw [hp]
  ·simp only [if_neg hj]
   rw [List.getElem?_append_right (by rw [List.length_map]; omega),List.length_map] at hp
   rw [List.getElem?_append_right (by omega)]
   rw [show j - is.length + A.length - A.length = j - is.length by omega]; exact hp
 ·by_cases hj' : j < is.length <;> by_cases hk' : k < is.length
  ·simp only [if_pos hj',if_pos hk'] at he
   rw [List.getD_eq_getElem?_getD,List.getD_eq_getElem?_getD,List.getElem?_eq_getElem hj',List.getElem?_eq_getElem hk'] at he
   exact (List.getElem_inj hnd).1 (by simpa using he)
  ·have:=hl j hj'; simp only [if_pos hj',if_neg hk'] at he; omega
  ·have:=hl k hk'; simp only [if_neg hj',if_pos hk'] at he; omega
  ·simp only [if_neg hj',if_neg hk'] at he; omega
end Go.Civ
namespace Go.Civ
open Go.RowKit
set_option linter.unusedVariables false
structure Pln where
 steps : List Stp
 cols : List Col
def ZoT : Enc Pln:=(Enc.pair (ZeK.slice 280) (ColE.slice 24)).via fun x=>(x.steps,x.cols)
section
variable {G : GH} {cs : List Value}
theorem ZnL {x : Pln} (h : ZoT.rep G x cs) : ∃ sv cv,cs = [sv,cv] ∧ Sl ZeK 280 G sv x.steps ∧ Sl ColE 24 G cv x.cols:=by
 obtain ⟨_,_,rfl,⟨sv,rfl,hs⟩,cv,rfl,hc⟩:=h
 exact ⟨sv,cv,rfl,hs,hc⟩
theorem Zly (x : Pln) {sv cv : Value} (h1 : Sl ZeK 280 G sv x.steps) (h2 : Sl ColE 24 G cv x.cols) : ZoT.rep G x [sv,cv]:=⟨[sv],[cv],rfl,⟨sv,rfl,h1⟩,cv,rfl,h2⟩
end
noncomputable def ofT (q : Query) (S : List Schema) : Pln × Int:=if (ZP (Yc q) q S).2 ≠ 0 then (⟨[],[]⟩,(ZP (Yc q) q S).2) else (⟨ZF S (Yc q) q Zmq true 0,(ZP (Yc q) q S).1⟩,0)
section
variable {n : Nat} {q x y : Query} {S : List Schema} {p : Span} {s : Bool} {k : Nat}
theorem ZrI (h : (ZP (Yc q) q S).2 ≠ 0) : Pln.mk [] [] = (ofT q S).1 ∧ (ZP (Yc q) q S).2 = (ofT q S).2:=by unfold ofT; rw [if_pos h]; exact ⟨rfl,rfl⟩
theorem ZoU (h : (ZP (Yc q) q S).2 = 0) : Pln.mk (([] : List Stp) ++ ZF S (Yc q) q (Span.mk (-62135596800) 253402300800) true ([] : List Stp).length) (ZP (Yc q) q S).1 = (ofT q S).1 ∧ 0 = (ofT q S).2:=by
 unfold ofT; rw [if_neg (fun e=>e h)]; exact ⟨rfl,rfl⟩
theorem Zii {f : Query → Int} (h0 : ∀ x,1 ≤ f x) : ∀ {l : List Query} {m : Int},m ≤ Xg f l m
 | [],m=>Int.le_refl _
 | z :: l,m=>by
  rw [Xg]
  split
  ·have h1:=@Zii f h0 l (m + f z); have:=h0 z; omega
  ·exact Int.le_refl _
theorem Zgs : ∀ {n : Nat} {q : Query} {p : Span} {s : Bool} {k : Nat} {dep : Int},0 ≤ dep ∧ dep ≤ 13 → Y8 n q dep ≤ 60 → ((ZF S n q p s k).length : Int) ≤ Y8 n q dep
 | 0,q,p,s,k,dep,_,h=>by rw [Y8] at h; omega
 | n + 1,q,p,s,k,dep,hd,h=>by
  rw [Y8] at h ⊢
  by_cases g1 : 12 < dep
  ·rw [if_pos g1] at h; omega
  rw [if_neg g1] at h ⊢
  by_cases g2 : Xc (n + 1) q = false
  ·rw [if_pos g2] at h; omega
  rw [if_neg g2] at h ⊢
  have h0 : ∀ x,1 ≤ Y8 n x (dep + 1):=fun x=>(Zcl n x (dep + 1) (by omega)).1
  rw [ZF]
  match e : q.l with
  | []=>simp [Xg]
  | [a]=>
   rw [e] at h
   simp only [Xg] at h ⊢
   have hu : Y8 n a (dep + 1) ≤ 60:=by rw [if_pos (by decide)] at h; omega
   have i1:=Zgs (p:=(ndT q p s).1) (s:=(ndT q p s).2) (k:=k) (show 0 ≤ dep + 1 ∧ dep + 1 ≤ 13 by omega) hu
   simp only [List.length_append,List.length_cons,List.length_nil,List.getElem?_cons_zero,List.getElem?_cons_succ,List.getElem?_nil]
   rw [if_pos (by decide)]; omega
  | a :: b :: r=>
   rw [e] at h
   have up:=@Zii (fun x=>Y8 n x (dep + 1)) h0 (b :: r) (1 + Y8 n a (dep + 1))
   have e1 : Xg (fun x=>Y8 n x (dep + 1)) (a :: b :: r) 1 = Xg (fun x=>Y8 n x (dep + 1)) (b :: r) (1 + Y8 n a (dep + 1)):=by rw [Xg,if_pos (by decide)]
   rw [e1] at h ⊢
   have ha : 1 + Y8 n a (dep + 1) ≤ 60:=by omega
   have e2 : Xg (fun x=>Y8 n x (dep + 1)) (b :: r) (1 + Y8 n a (dep + 1)) = Xg (fun x=>Y8 n x (dep + 1)) r (1 + Y8 n a (dep + 1) + Y8 n b (dep + 1)):=by rw [Xg,if_pos ha]
   have up2:=@Zii (fun x=>Y8 n x (dep + 1)) h0 r (1 + Y8 n a (dep + 1) + Y8 n b (dep + 1))
   rw [e2] at h ⊢
   have hb : Y8 n b (dep + 1) ≤ 60:=by have:=h0 a; omega
   have i1:=Zgs (p:=(ndT q p s).1) (s:=(ndT q p s).2) (k:=k) (show 0 ≤ dep + 1 ∧ dep + 1 ≤ 13 by omega) (show Y8 n a (dep + 1) ≤ 60 by omega)
   have i2:=Zgs (p:=(ndT q p s).1) (s:=(ndT q p s).2) (k:=k + (ZF S n a (ndT q p s).1 (ndT q p s).2 k).length) (show 0 ≤ dep + 1 ∧ dep + 1 ≤ 13 by omega) hb
   simp only [List.length_append,List.length_cons,List.length_nil,List.getElem?_cons_zero,List.getElem?_cons_succ]
   omega
theorem ZsD (h : Qp n q = true) : (ZF S n q p s k).length ≤ 60:=by
 have h1:=of_decide_eq_true h
 have:=Zgs (S:=S) (p:=p) (s:=s) (k:=k) (show (0 : Int) ≤ 1 ∧ (1 : Int) ≤ 13 by decide) h1
 omega
theorem Zk0 : ∀ {n m : Nat} {q : Query} {p : Span} {s : Bool} {k : Nat},Xx q n → Xx q m → ZF S n q p s k = ZF S m q p s k
 | 0,_,q,_,_,_,h,_=>(Q9 h).elim
 | _ + 1,0,q,_,_,_,_,h=>(Q9 h).elim
 | n + 1,m + 1,q,p,s,k,h,h'=>by
  have e : ∀ x p s k,x ∈ q.l → ZF S n x p s k = ZF S m x p s k:=fun x p s k hx=>Zk0 (Yp h hx) (Yp h' hx)
  rw [ZF,ZF]
  match e0 : q.l[0]?,e1 : q.l[1]? with
  | none,none=>rfl
  | some a,none=>simp only [e a _ _ _ (List.mem_of_getElem? e0)]
  | none,some b=>simp only [e b _ _ _ (List.mem_of_getElem? e1)]
  | some a,some b=>simp only [e a _ _ _ (List.mem_of_getElem? e0),e b _ _ _ (List.mem_of_getElem? e1)]
end
abbrev pw0 : Query:=⟨1,[116],[],[],noC,0,0,⟨0,0⟩,[]⟩
abbrev pwC : Cond:=⟨2,[97],[],⟨1,3,[]⟩,[]⟩
abbrev pw1 : Query:=⟨2,[],[],[],pwC,0,0,⟨0,0⟩,[pw0]⟩
abbrev pwQ : Query:=⟨8,[],[],[],noC,0,0,⟨0,10⟩,[pw1]⟩
abbrev pwL : List Schema:=[⟨[116],[⟨[97],1⟩],1,[]⟩]
abbrev pwD : Query:=⟨8,[],[],[],noC,0,0,⟨0,10⟩,[pw0]⟩
abbrev pwX : Query:=⟨2,[],[],[],pwC,0,0,⟨0,0⟩,[pwD]⟩
theorem ZnM : Xx pwQ 1000:=Nat.le_of_ble_eq_true (by kernel_rfl)
theorem ZrJ : Xx pwX 1000:=Nat.le_of_ble_eq_true (by kernel_rfl)
theorem ZnN : (ZP (Yc pwQ) pwQ pwL).2 = 0:=by rw [ZoS (YU _) ZnM]; decide
theorem ZnO : ZD pwL pwQ = pwX:=by
 have e0 : ZD pwL pw0 = pw0:=(Zku (q:=pw0) (by decide) (by decide)).symm
 have e1 : ZD pwL pw1 = pw1:=by
  rw [← Zkt (q:=pw1) (y:=pw0) rfl (by simp [e0])]
  exact (Zkr (x:=pw0) (by decide) (by decide) (by decide) (by decide) (by decide) (by decide) (by decide)).symm
 rw [← Zks (q:=pwQ) (y:=pw1) rfl (by simp [e1]),← ZdN (x:=pw1) (y:=pw0) (.inl rfl) rfl,← Zkn (x:=pw0) (by decide) (by decide) (by decide) (by decide) (by decide) (by decide) (by decide) (by decide)]
 rfl
theorem ZrK : Qp (Yc (ZD pwL pwQ)) (ZD pwL pwQ) = true:=by rw [ZnO,Zkz (YU _) ZrJ]; decide
theorem Zmv : Yv pwQ pwL = (pwX,0):=by
 have h:=Zgp ZnN ZrK
 rw [ZnO] at h
 exact Prod.ext h.1.symm h.2.symm
theorem Zt4 : ZF pwL (Yc pwQ) pwQ Zmq true 0 = [⟨pw0, -1, -1,[],⟨0,10⟩⟩,⟨ZA pw1,0, -1,[],⟨0,0⟩⟩,⟨ZA pwQ,1, -1,[],⟨0,0⟩⟩]:=by
 rw [Zk0 (YU _) ZnM]; rfl
theorem ZoV : (ofT pwQ pwL).2 = 0 ∧ (ofT pwQ pwL).1.steps = [⟨pw0, -1, -1,[],⟨0,10⟩⟩,⟨ZA pw1,0, -1,[],⟨0,0⟩⟩,⟨ZA pwQ,1, -1,[],⟨0,0⟩⟩]:=by
 have h:=ZoU ZnN
 refine ⟨h.2.symm,?_⟩
 rw [← h.1]; exact Zt4
end Go.Civ
namespace Go.Civ
open Go.RowKit
set_option linter.unusedVariables false
section
variable {q : Query} {S : List Schema} {n : Nat}
theorem Zl8 (h : QG S = false) : Yv q S = (noQ,1):=by
 have e : ZP (Yc q) q S = ([],1):=by unfold ZP; rw [h]; simp
 unfold Yv; rw [e]; rfl
theorem ZfX (h : (Yv q S).2 = 0) : (ZP (Yc q) q S).2 = 0:=by
 by_cases e : (ZP (Yc q) q S).2 = 0
 ·exact e
 ·rw [← (ZhF e).2] at h; exact h
theorem ZnX (h : (Yv q S).2 = 0) : (Yv q S).1 = q ∨ ((Yv q S).1 = ZD S q ∧ Qp (Yc (ZD S q)) (ZD S q) = true):=by
 have e:=ZfX h
 cases v : Qp (Yc (ZD S q)) (ZD S q) with
 | true=>exact .inr ⟨(Zgp e v).1.symm,rfl⟩
 | false=>exact .inl (ZhG e v).1.symm
theorem ZrZ (h : (Yv q S).2 = 0) (hs : smQ (Yc q) q) : smQ (Yc (Yv q S).1) (Yv q S).1:=by
 have hg:=ZhH (YU q) (ZfX h) hs
 rcases ZnX h with e | ⟨e,_⟩
 ·rw [e]; exact hs
 ·rw [e]; exact (Zcz hg).sm
theorem ZnY (h : (Yv q S).2 = 0) (hs : smQ (Yc q) q) : ZP (Yc (Yv q S).1) (Yv q S).1 S = ZP (Yc q) q S:=by
 have h0:=ZfX h
 have hg:=ZhH (YU q) h0 hs
 rcases ZnX h with e | ⟨e,v⟩
 ·rw [e]
 ·have hd:=ZeS h0
  have e1 : ZP (Yc q) q S = cT S q:=(Zgl hd.2 hd.1).symm
  have h1 : (cT S q).2 = 0:=by rw [← e1]; exact h0
  rw [e,← Zgl v hd.1,e1]
  exact Zk8 hd.1 hg h1
theorem Zm3 (h1 : q.cols.length ≤ 20) (h2 : q.names.length ≤ 20) (h3 : ∀ x ∈ q.l,∀ n,smQ n x) : ∀ n,smQ n q
 | 0=>trivial
 | n + 1=>⟨h1,h2,fun x hx=>h3 x hx n⟩
end
theorem ZpC : ∀ n,smQ n pwQ:=
 Zm3 (by decide) (by decide) fun x hx=>by
  rw [List.mem_singleton.1 hx]
  exact Zm3 (by decide) (by decide) fun y hy=>by
   rw [List.mem_singleton.1 hy]
   exact Zm3 (by decide) (by decide) fun z hz=>by cases hz
section
variable {x : Stp} {y : Query}
theorem Zt5 (h : ¬ (ofT pwQ pwL).2 = 0) : False:=h ZoV.1
theorem Zt6 (h : ¬ (Yv pwQ pwL).2 = 0) : False:=h (congrArg Prod.snd Zmv)
theorem Zt7 : (ofT pwQ pwL).1.steps.length = 3:=by rw [ZoV.2]; rfl
theorem Zt8 (h : ¬ (((ofT pwQ pwL).1.steps.length : Nat) : Int) = 3) : False:=h (by rw [Zt7]; rfl)
theorem Zt9 (hx : (ofT pwQ pwL).1.steps[0]? = some x) : x.span = ⟨0,10⟩:=by rw [ZoV.2] at hx; obtain rfl:=Option.some.inj hx; rfl
theorem ZtA (h : ¬ (Yv pwQ pwL).1.kind = 2) : False:=h (by rw [Zmv])
theorem ZtB : (Yv pwQ pwL).1.l.length = 1:=by rw [Zmv]; rfl
theorem ZtC (h : ¬ (((Yv pwQ pwL).1.l.length : Nat) : Int) = 1) : False:=h (by rw [ZtB]; rfl)
theorem ZtD (hx : (Yv pwQ pwL).1.l[0]? = some y) : y.kind = 8:=by rw [Zmv] at hx; obtain rfl:=Option.some.inj hx; rfl
end
end Go.Civ
