/- Lemmas. -/
import Derived.Test.YtcopkjhdncdnmaaGreatDoorP05
set_option linter.unusedSimpArgs false
namespace Go.Civ
structure Span where
 a : Int
 b : Int
deriving DecidableEq
structure Val where
 k : Int
 n : Int
 s : List UInt8
deriving DecidableEq
structure Fact where
 v : List Val
 t : Span
deriving DecidableEq
structure Col where
 name : List UInt8
 kind : Int
deriving DecidableEq
structure Group where
 v : List Val
 t : List Span
deriving DecidableEq
def SpanE : Enc Span:=(Enc.pair .int .int).via fun x=>(x.a,x.b)
def ValE : Enc Val:=(Enc.pair .int (Enc.pair .int .str)).via fun x=>(x.k,x.n,x.s)
def ColE : Enc Col:=(Enc.pair .str .int).via fun x=>(x.name,x.kind)
def ZaZ : Enc (Int × Int):=Enc.pair .int .int
section
variable {G : GH} {cs : List Value}
theorem Ql {x : Span} (h : SpanE.rep G x cs) : cs = [.int .i64 x.a, .int .i64 x.b] ∧ ZM x.a ∧ ZM x.b:=by
 obtain ⟨c1,c2,rfl,⟨rfl,h1⟩,rfl,h2⟩:=h; exact ⟨rfl,h1,h2⟩
theorem X2 (x : Span) (h1 : ZM x.a) (h2 : ZM x.b) : SpanE.rep G x [.int .i64 x.a, .int .i64 x.b]:=⟨_,_,rfl,⟨rfl,h1⟩,rfl,h2⟩
theorem ZdV {x : Val} (h : ValE.rep G x cs) : cs = [.int .i64 x.k, .int .i64 x.n,Zb x.s] ∧ ZM x.k ∧ ZM x.n ∧ x.s.length ≤ reach:=by
 obtain ⟨c1,c2,rfl,⟨rfl,h1⟩,c3,c4,rfl,⟨rfl,h2⟩,rfl,h3⟩:=h; exact ⟨rfl,h1,h2,h3⟩
theorem QN (x : Val) (h1 : ZM x.k) (h2 : ZM x.n) (h3 : x.s.length ≤ reach) : ValE.rep G x [.int .i64 x.k, .int .i64 x.n,Zb x.s]:=⟨_,_,rfl,⟨rfl,h1⟩,_,_,rfl,⟨rfl,h2⟩,rfl,h3⟩
theorem Yh {x : Col} (h : ColE.rep G x cs) : cs = [Zb x.name, .int .i64 x.kind] ∧ x.name.length ≤ reach ∧ ZM x.kind:=by
 obtain ⟨c1,c2,rfl,⟨rfl,h1⟩,rfl,h2⟩:=h; exact ⟨rfl,h1,h2⟩
end
def Is {α : Type} (E : Enc α) (G : GH) (v : Value) (x : α) : Prop:=∃ cs,v = .agg cs.toArray ∧ E.rep G x cs
end Go.Civ
namespace Go.Civ
open Go.RowKit
set_option linter.unusedVariables false
theorem Yr : ZM 0:=by constructor <;> decide
theorem ZkR {a b : Int} (h : ZM a) (k : ZM b) : ZM (max a b):=by rw [Int.max_def]; split <;> assumption
theorem ZkS {a b : Int} (h : ZM a) (k : ZM b) : ZM (min a b):=by rw [Int.min_def]; split <;> assumption
theorem Cmp.dec (c : Cmp) (a b : Int) : (c.b a b = true ∧ c.p a b) ∨ (c.b a b = false ∧ c.np a b):=by
 cases h : c.b a b
 ·exact .inr ⟨rfl,c.no a b h⟩
 ·exact .inl ⟨rfl,c.yes a b h⟩
section
variable {α : Type} {E : Enc α} {by_ : Nat} {G : GH} {v : Value} {l l' : List α}
theorem Sl.cells1 (h : Sl E by_ G v l) : v.cells = [v].toArray:=by obtain ⟨a,cap,rfl,_⟩:=h; rfl
theorem Sl.cast (h : Sl E by_ G v l) (e : l = l') : Sl E by_ G v l':=e ▸ h
theorem Is.cast {x y : α} (h : Is E G v x) (e : x = y) : Is E G v y:=e ▸ h
theorem YH.cast {e : TypeId} {o : Option (Nat × TypeId × List Value)} (h : YH E by_ e G v l o) (k : l = l') : YH E by_ e G v l' o:=k ▸ h
end
section
variable {w0 w : World} {X : List Nat} {G0 G G' : GH} {L : Own}
theorem St.pad (h : St w0 X G0 G L w) : St w0 X G0 G (none :: L) w:=by
 have look : ∀ (j : Nat) p,(none :: L)[j]? = some (some p) → ∃ k,j = k + 1 ∧ L[k]? = some (some p):=fun j p hp=>by
  cases j with
  | zero=>simp at hp
  | succ k=>exact ⟨k,rfl,by simpa using hp⟩
 refine ⟨h.kept,h.le,h.new,h.imm,fun j p hp=>?_,fun j p hp=>?_,fun j k p q hp hq he=>?_⟩
 ·obtain ⟨k,_,hk⟩:=look j p hp; exact h.own k p hk
 ·obtain ⟨k,_,hk⟩:=look j p hp; exact h.sep k p hk
 ·obtain ⟨a,rfl,ha⟩:=look j p hp
  obtain ⟨b,rfl,hb⟩:=look k q hq
  exact congrArg (· + 1) (h.nd a b p q ha hb he)
theorem St.down (h : St w0 X G0 G' L w) (h1 : G0.le G) (h2 : G.le G') : St w0 X G0 G L w:=by
 have sub : ∀ b o,G b = some o → G' b = some o:=h2
 refine ⟨h.kept,h1,fun b hb=>?_,fun b o hb=>h.imm b o (sub b o hb),h.own,fun i p hp=>⟨(h.sep i p hp).1,?_⟩,h.nd⟩
 ·cases e : G b with
  | none=>
   cases e0 : G0 b with
   | none=>rfl
   | some o=>rw [h1 b o e0] at e; cases e
  | some o=>rw [← h.new b hb]; exact (sub b o e).symm
 ·cases e : G p.1 with
  | none=>rfl
  | some o=>have:=sub _ _ e; rw [(h.sep i p hp).2] at this; cases this
theorem QH.rows {α : Type} {E : Enc α} {G : GH} {l : List α} {xs : List Value} (h : QH E G l xs) {p : Addr} (hc : YC G p xs) : ∀ i x,l[i]? = some x → ZeW E G (p.add (i * E.n)) x:=by
 intro i x hx
 obtain ⟨c,h1,h2⟩:=h.at i x hx
 refine ⟨c,?_,h1⟩
 obtain ⟨hs,cc,e,fz,k1,k2⟩:=hc
 rw [X1 _ _ hs]
 refine ⟨rfl,cc,e,fz,k1,fun j v hv=>?_⟩
 have:=k2 _ _ (h2 j v hv)
 rwa [← Nat.add_assoc] at this
theorem YH.freeze {α : Type} {E : Enc α} {by_ : Nat} {e : TypeId} {v : Value} {l : List α} {o : Option (Nat × TypeId × List Value)} (h : YH E by_ e G v l o) (hS : St w0 [] G0 G L w) (i : Nat) (hi : L[i]? = some o) :
  ∃ G',G.le G' ∧ Sl E by_ G' v l ∧ St w0 [] G0 G' (L.set i none) w:=by
 rcases h with ⟨rfl,rfl,rfl⟩ | ⟨b,cs,cap,xs,rfl,rfl,h3,h4,h5,h6,h7,h8,h9⟩
 ·exact ⟨G,G.le_refl,Sl.nil _ _ _,hS.drop i⟩
 ·have hb:=hS.mine hi
  have f:=hS.freeze i hi hb
  have hG : G b = none:=(hS.sep i _ hi).2
  have hle:=G.add_le (.cells cs.toArray e) hG
  refine ⟨_,hle,⟨some ⟨b,0,none⟩,cap,rfl,h3,h8,h9,fun j x hx=>⟨_,rfl,rfl,?_⟩⟩,f⟩
  refine (h6.mono hle).rows (p:=⟨b,0,none⟩) ⟨rfl,_,_,_,GH.add_at _ _ _,fun q u hu=>?_⟩ j x hx
  rw [← h7,List.getElem?_take] at hu
  split at hu
  ·simpa using hu
  ·cases hu
theorem St.sealSl {α : Type} {E : Enc α} {by_ : Nat} {l : List α} {b : Nat} {e : TypeId} {cs : List Value} (h : St w0 X G0 G (some (b,e,cs) :: L) w) (hb : w0.heap.size ≤ b) (hf : QH E G l cs) {n : Nat} (hn : n = l.length) (hby : n * by_ ≤ reach) (hlen : n ≤ reach) :
  ∃ G',G.le G' ∧ Sl E by_ G' (.slice (some ⟨b,0,none⟩) n n) l ∧ St w0 X G0 G' L w:=by
 obtain ⟨G',h1,h2,h3⟩:=h.shutB hb
 subst hn
 refine ⟨G',h1,⟨some ⟨b,0,none⟩,l.length,rfl,Nat.le_refl _,hby,hlen,fun i x hx=>⟨_,rfl,rfl,?_⟩⟩,h3⟩
 exact (hf.mono h1).rows h2 i x hx
theorem YH.empty {α : Type} (E : Enc α) (by_ : Nat) (e : TypeId) (G : GH) (b : Nat) : YH E by_ e G (.slice (some ⟨b,0,none⟩) 0 0) [] (some (b,e,[])):=
 .inr ⟨b,[],0,[],rfl,rfl,Nat.le_refl _,by simp [maxLen],by simp,rfl,by simp,by simp [reach],by simp [reach]⟩
end
section
variable {P : Program} {N : Nat} {Q : Exit → Env → World → Prop} {ρ : Env} {w : World} {ops : Array Oper} {rest : List Oper} {K : Env → World → Prop}
variable {d : Nat} {ty : TypeId} {pos : String} {af : Array Edge} {g : Option (Nat × Bool)}
variable {w0 : World} {X : List Nat} {G0 G : GH} {L : Own}
structure ElPtr {α : Type} (E : Enc α) (v : Value) (n : Nat) (p : Addr) : Prop where
 ex : ∃ a len cap,v = .slice (some a) len cap ∧ n < len ∧ p = a.add (n * E.n)
theorem Sl.at {α : Type} {E : Enc α} {by_ : Nat} {v : Value} {l : List α} (h : Sl E by_ G v l) (n : Nat) (hlt : n < l.length) : ∃ p x,l[n]? = some x ∧ ZeW E G p x ∧ ElPtr E v n p:=by
 obtain ⟨a,cap,rfl,h1,h2,h3,h4⟩:=h
 obtain ⟨p,rfl,hp,hel⟩:=h4 n l[n] (List.getElem?_eq_getElem hlt)
 exact ⟨_,l[n],List.getElem?_eq_getElem hlt,hel,⟨p,_,cap,rfl,hlt,rfl⟩⟩
theorem Zf {α : Type} {E : Enc α} {t e : TypeId} {x ix : Operand} {v : Value} {p : Addr} {ti : TI} (n : Nat) (h : ElPtr E v n p) (hu : P.underlying t = some (.slice e)) (ht : Y3 P e = some ti) (hE : ti.size = E.n)
  (hw : Region.wanted ⟨some d, .indexAddr t x ix,ty,pos,af,g⟩ (ZI ops ρ) = true) (hx : ev ρ x = v) (hi : ev ρ ix = .int .i64 (n : Int))
  (k : K (Yq ρ d (.pointer (some p))) w) : OW P ops ⟨some d, .indexAddr t x ix,ty,pos,af,g⟩ ρ w K:=by
 obtain ⟨a,len,cap,rfl,hlt,rfl⟩:=h.ex
 refine WL.val hw ?_ rfl k
 simp [execOp,Instr.indexAt,hi,hx,asIntOf,Xe hu,XS ht,hE,Result.andThen]
 rw [if_pos (by omega)]
theorem YH.atP {α : Type} {E : Enc α} {by_ : Nat} {e : TypeId} {v : Value} {l : List α} {o : Option (Nat × TypeId × List Value)} (h : YH E by_ e G v l o) (n : Nat) (hn : n < l.length) :
  ∃ p x ec,l[n]? = some x ∧ E.rep G x ec ∧ RowAt o E.n n p ec ∧ ElPtr E v n p:=by
 obtain ⟨b,cs,cap,ec,rfl,rfl,h1,h2⟩:=h.at n hn
 exact ⟨_,l[n],ec,List.getElem?_eq_getElem hn,h1,h2,⟨⟨b,0,none⟩,_,cap,rfl,hn,by rw [X1 _ _ rfl]; simp⟩⟩
theorem WL.cmpV {t ty' : TypeId} {x y : Operand} (c : Cmp) {op : BinOp} (hop : op = c.op) (k : IntKind) (a b : Int) (r : Bool) (hr : c.b a b = r)
  (hw : Region.wanted ⟨some d, .binOp op t x y ty',ty,pos,af,g⟩ (ZI ops ρ) = true) (hx : ev ρ x = .int k a) (hy : ev ρ y = .int k b)
  (kk : K (Yq ρ d (.bool r)) w) : OW P ops ⟨some d, .binOp op t x y ty',ty,pos,af,g⟩ ρ w K:=by
 subst hr; exact YK c hop k a b hw hx hy kk
theorem YG {t ty' : TypeId} {x y : Operand} (c : SCmp) {op : BinOp} (hop : op = c.op) (a b : List UInt8) (r : Bool) (hr : c.b a b = r)
  (hw : Region.wanted ⟨some d, .binOp op t x y ty',ty,pos,af,g⟩ (ZI ops ρ) = true) (hx : ev ρ x = Zb a) (hy : ev ρ y = Zb b)
  (kk : K (Yq ρ d (.bool r)) w) : OW P ops ⟨some d, .binOp op t x y ty',ty,pos,af,g⟩ ρ w K:=by
 subst hr; exact Zn c hop a b hw hx hy kk
theorem nu {d : Nat} {v : Value} {ρH : Env} {R : World → Prop} (h : ρH d = v) (hR : R w) : Yq ρH d v = ρH ∧ R w:=⟨Zbd h,hR⟩
theorem YS {f : Nat} {x : Operand} {args : List Operand} {ts : Array TypeId} {vs : List Value} {cap : Array Value} {u : Value} (hS : St w0 X G0 G L w) (hf : Zq P f)
  (hw : Region.wanted ⟨some d, .call ⟨.value x,args.toArray,ts⟩,ty,pos,af,g⟩ (ZI ops ρ) = true) (hx : ev ρ x = .func (.func f) #[] cap) (ha : args.map (ev ρ) ++ cap.toList = vs)
  (hc : CL P f vs.toArray [] w G fun _ _ r=>r = u) (hv : ρ d = u) :
  OW P ops ⟨some d, .call ⟨.value x,args.toArray,ts⟩,ty,pos,af,g⟩ ρ w (fun ρ' w'=>ρ' = ρ ∧ St w0 X G0 G L w'):=by
 refine XJ vs cap hf hw hx ha (hc.mono ?_)
 rintro e w9 ⟨r9,G9,rfl,hres9,rfl⟩
 exact ⟨_,rfl,Zbd hv,(hS.call hres9).down hS.le hres9.le⟩
section
variable {t ty' : TypeId} {x y : Operand} {k : IntKind} (a b : Int)
theorem Zj (hw : Region.wanted ⟨some d, .binOp .eql t x y ty',ty,pos,af,g⟩ (ZI ops ρ) = true) (hx : ev ρ x = .int k a) (hy : ev ρ y = .int k b)
  (kT : a = b → K (Yq ρ d (.bool true)) w) (kF : a ≠ b → K (Yq ρ d (.bool false)) w) : OW P ops ⟨some d, .binOp .eql t x y ty',ty,pos,af,g⟩ ρ w K:=WL.cmpS .eql rfl k a b hw hx hy kT kF
theorem Z8 (hw : Region.wanted ⟨some d, .binOp .neq t x y ty',ty,pos,af,g⟩ (ZI ops ρ) = true) (hx : ev ρ x = .int k a) (hy : ev ρ y = .int k b)
  (kT : a ≠ b → K (Yq ρ d (.bool true)) w) (kF : a = b → K (Yq ρ d (.bool false)) w) : OW P ops ⟨some d, .binOp .neq t x y ty',ty,pos,af,g⟩ ρ w K:=WL.cmpS .neq rfl k a b hw hx hy kT kF
theorem Z1 (hw : Region.wanted ⟨some d, .binOp .lss t x y ty',ty,pos,af,g⟩ (ZI ops ρ) = true) (hx : ev ρ x = .int k a) (hy : ev ρ y = .int k b)
  (kT : a < b → K (Yq ρ d (.bool true)) w) (kF : b ≤ a → K (Yq ρ d (.bool false)) w) : OW P ops ⟨some d, .binOp .lss t x y ty',ty,pos,af,g⟩ ρ w K:=WL.cmpS .lss rfl k a b hw hx hy kT kF
theorem Qd (hw : Region.wanted ⟨some d, .binOp .leq t x y ty',ty,pos,af,g⟩ (ZI ops ρ) = true) (hx : ev ρ x = .int k a) (hy : ev ρ y = .int k b)
  (kT : a ≤ b → K (Yq ρ d (.bool true)) w) (kF : b < a → K (Yq ρ d (.bool false)) w) : OW P ops ⟨some d, .binOp .leq t x y ty',ty,pos,af,g⟩ ρ w K:=WL.cmpS .leq rfl k a b hw hx hy kT kF
theorem Yk (hw : Region.wanted ⟨some d, .binOp .gtr t x y ty',ty,pos,af,g⟩ (ZI ops ρ) = true) (hx : ev ρ x = .int k a) (hy : ev ρ y = .int k b)
  (kT : b < a → K (Yq ρ d (.bool true)) w) (kF : a ≤ b → K (Yq ρ d (.bool false)) w) : OW P ops ⟨some d, .binOp .gtr t x y ty',ty,pos,af,g⟩ ρ w K:=WL.cmpS .gtr rfl k a b hw hx hy kT kF
theorem Y9 (hw : Region.wanted ⟨some d, .binOp .geq t x y ty',ty,pos,af,g⟩ (ZI ops ρ) = true) (hx : ev ρ x = .int k a) (hy : ev ρ y = .int k b)
  (kT : b ≤ a → K (Yq ρ d (.bool true)) w) (kF : a < b → K (Yq ρ d (.bool false)) w) : OW P ops ⟨some d, .binOp .geq t x y ty',ty,pos,af,g⟩ ρ w K:=WL.cmpS .geq rfl k a b hw hx hy kT kF
end
end
structure FnB (P : Program) {α : Type} (A : GH → Value → α → Prop) (fid : Nat) (cap : Array Value) (G : GH) (on : α → Prop) (pf : α → Bool) : Prop where
 body : Zq P fid
 call : ∀ (G' : GH) (w' : World) (v : Value) (x : α),G.le G' → G'.In w' → on x → A G' v x →
  Calls P fid ([v] ++ cap.toList).toArray w' fun e w''=>∃ r G'',e = .returned r ∧ Res [] w' G' w'' G'' ∧ r = .bool (pf x)
structure FnB2 (P : Program) {α β : Type} (A : GH → Value → α → Prop) (B : GH → Value → β → Prop) (fid : Nat) (cap : Array Value) (G : GH) (on : α → β → Prop) (pf : α → β → Bool) : Prop where
 body : Zq P fid
 call : ∀ (G' : GH) (w' : World) (v u : Value) (x : α) (y : β),G.le G' → G'.In w' → on x y → A G' v x → B G' u y →
  Calls P fid ([v,u] ++ cap.toList).toArray w' fun e w''=>∃ r G'',e = .returned r ∧ Res [] w' G' w'' G'' ∧ r = .bool (pf x y)
structure FnI2 (P : Program) {α β : Type} (A : GH → Value → α → Prop) (B : GH → Value → β → Prop) (fid : Nat) (cap : Array Value) (G : GH) (on : α → β → Prop) (pf : α → β → Int) : Prop where
 body : Zq P fid
 call : ∀ (G' : GH) (w' : World) (v u : Value) (x : α) (y : β),G.le G' → G'.In w' → on x y → A G' v x → B G' u y →
  Calls P fid ([v,u] ++ cap.toList).toArray w' fun e w''=>∃ r G'',e = .returned r ∧ Res [] w' G' w'' G'' ∧ r = .int .i64 (pf x y)
theorem FnB.up {P : Program} {α : Type} {A : GH → Value → α → Prop} {fid : Nat} {cap : Array Value} {G G' : GH} {on : α → Prop} {pf : α → Bool} (h : FnB P A fid cap G on pf) (k : G.le G') : FnB P A fid cap G' on pf:=
 ⟨h.body,fun G2 w' v x hle=>h.call G2 w' v x (k.trans hle)⟩
def YP {α : Type} (p : α → Bool) (l : List α) : Int:=match l.findIdx? p with | some i=>(i : Int) | none=>-1
theorem ZmI {α : Type} {p : α → Bool} {l : List α} (h : ∀ (j : Nat) x,l[j]? = some x → p x = false) : YP p l = -1:=by
 unfold YP
 have : l.findIdx? p = none:=by
  rw [List.findIdx?_eq_none_iff]
  intro x hx
  obtain ⟨j,hj⟩:=List.getElem?_of_mem hx
  exact h j x hj
 rw [this]
theorem Za2 {α : Type} {p : α → Bool} {l : List α} (k : Nat) {x : α} (hk : l[k]? = some x) (hx : p x = true) (h : ∀ j,j < k → ∀ x,l[j]? = some x → p x = false) : YP p l = (k : Int):=by
 unfold YP
 have : l.findIdx? p = some k:=by
  rw [List.findIdx?_eq_some_iff_getElem]
  obtain ⟨hlt,he⟩:=List.getElem?_eq_some_iff.1 hk
  refine ⟨hlt,by rw [he]; exact hx,fun j hj=>?_⟩
  have:=h j hj l[j] (List.getElem?_eq_getElem (by omega))
  simp [this]
 rw [this]
theorem ZbM {α : Type} (p : α → Bool) (l : List α) : Cmp.b .geq (YP p l) 0 = l.any p:=by
 unfold YP Cmp.b
 cases h : l.findIdx? p with
 | none=>
  rw [List.findIdx?_eq_none_iff] at h
  simp only
  rw [Bool.eq_iff_iff]
  simp only [decide_eq_true_eq,List.any_eq_true]
  constructor
  ·intro h'; omega
  ·rintro ⟨x,hx,hp⟩; rw [h x hx] at hp; cases hp
 | some i=>
  rw [List.findIdx?_eq_some_iff_getElem] at h
  obtain ⟨hlt,hp,_⟩:=h
  simp only
  rw [Bool.eq_iff_iff]
  simp only [decide_eq_true_eq,List.any_eq_true]
  exact ⟨fun _=>⟨l[i],List.getElem_mem hlt,hp⟩,fun _=>by omega⟩
end Go.Civ
