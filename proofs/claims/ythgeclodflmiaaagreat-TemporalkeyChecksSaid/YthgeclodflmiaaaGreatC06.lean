/- Lemmas. -/
import Derived.Test.YthgeclodflmiaaaGreatC05
import Derived.Laws.StructEq
import Derived.Laws.Cover3
namespace Go.Civ
structure Span where
 a : Int
 b : Int
deriving DecidableEq
structure Val where
 k : Int
 n : Int
 s : List UInt8
deriving DecidableEq
structure Fact where
 v : List Val
 t : Span
deriving DecidableEq
structure Col where
 name : List UInt8
 kind : Int
deriving DecidableEq
structure Group where
 v : List Val
 t : List Span
deriving DecidableEq
def SpanE : Enc Span:=(Enc.pair .int .int).via fun x=>(x.a,x.b)
def ValE : Enc Val:=(Enc.pair .int (Enc.pair .int .str)).via fun x=>(x.k,x.n,x.s)
def ZcW : Enc Fact:=(Enc.pair (ValE.slice 32) SpanE).via fun x=>(x.v,x.t)
def ColE : Enc Col:=(Enc.pair .str .int).via fun x=>(x.name,x.kind)
section
variable {G : GH} {cs : List Value}
theorem ZP {x : Span} (h : SpanE.rep G x cs) : cs = [.int .i64 x.a, .int .i64 x.b] ∧ Z1 x.a ∧ Z1 x.b:=by
 obtain ⟨c1,c2,rfl,⟨rfl,h1⟩,rfl,h2⟩:=h; exact ⟨rfl,h1,h2⟩
theorem Zw (x : Span) (h1 : Z1 x.a) (h2 : Z1 x.b) : SpanE.rep G x [.int .i64 x.a, .int .i64 x.b]:=⟨_,_,rfl,⟨rfl,h1⟩,rfl,h2⟩
theorem Y4 {x : Val} (h : ValE.rep G x cs) : cs = [.int .i64 x.k, .int .i64 x.n,Zc x.s] ∧ Z1 x.k ∧ Z1 x.n ∧ x.s.length ≤ reach:=by
 obtain ⟨c1,c2,rfl,⟨rfl,h1⟩,c3,c4,rfl,⟨rfl,h2⟩,rfl,h3⟩:=h; exact ⟨rfl,h1,h2,h3⟩
theorem Qs (x : Val) (h1 : Z1 x.k) (h2 : Z1 x.n) (h3 : x.s.length ≤ reach) : ValE.rep G x [.int .i64 x.k, .int .i64 x.n,Zc x.s]:=⟨_,_,rfl,⟨rfl,h1⟩,_,_,rfl,⟨rfl,h2⟩,rfl,h3⟩
theorem Zap {x : Col} (h : ColE.rep G x cs) : cs = [Zc x.name, .int .i64 x.kind] ∧ x.name.length ≤ reach ∧ Z1 x.kind:=by
 obtain ⟨c1,c2,rfl,⟨rfl,h1⟩,rfl,h2⟩:=h; exact ⟨rfl,h1,h2⟩
theorem Zgu {x : Fact} (h : ZcW.rep G x cs) : ∃ v,cs = [v, .int .i64 x.t.a, .int .i64 x.t.b] ∧ Sl ValE 32 G v x.v ∧ Z1 x.t.a ∧ Z1 x.t.b:=by
 obtain ⟨c1,c2,rfl,⟨v,rfl,h1⟩,h2⟩:=h
 obtain ⟨rfl,h3,h4⟩:=ZP h2
 exact ⟨v,rfl,h1,h3,h4⟩
theorem ZoN (x : Fact) {v : Value} (h1 : Sl ValE 32 G v x.v) (h2 : Z1 x.t.a) (h3 : Z1 x.t.b) : ZcW.rep G x [v, .int .i64 x.t.a, .int .i64 x.t.b]:=
 ⟨[v],_,rfl,⟨v,rfl,h1⟩,Zw x.t h2 h3⟩
end
def Is {α : Type} (E : Enc α) (G : GH) (v : Value) (x : α) : Prop:=∃ cs,v = .agg cs.toArray ∧ E.rep G x cs
end Go.Civ
namespace Go.Civ
open Go.RowKit
set_option linter.unusedVariables false
theorem Yl : Z1 0:=by constructor <;> decide
theorem Zab {a b : Int} (h : Z1 a) (k : Z1 b) : Z1 (max a b):=by rw [Int.max_def]; split <;> assumption
theorem Cmp.dec (c : Cmp) (a b : Int) : (c.b a b = true ∧ c.p a b) ∨ (c.b a b = false ∧ c.np a b):=by
 cases h : c.b a b
 ·exact .inr ⟨rfl,c.no a b h⟩
 ·exact .inl ⟨rfl,c.yes a b h⟩
section
variable {α : Type} {E : Enc α} {by_ : Nat} {G : GH} {v : Value} {l l' : List α}
theorem Sl.cells1 (h : Sl E by_ G v l) : v.cells = [v].toArray:=by obtain ⟨a,cap,rfl,_⟩:=h; rfl
theorem Sl.cast (h : Sl E by_ G v l) (e : l = l') : Sl E by_ G v l':=e ▸ h
theorem Is.cast {x y : α} (h : Is E G v x) (e : x = y) : Is E G v y:=e ▸ h
theorem Yb.cast {e : TypeId} {o : Option (Nat × TypeId × List Value)} (h : Yb E by_ e G v l o) (k : l = l') : Yb E by_ e G v l' o:=k ▸ h
end
section
variable {w0 w : World} {X : List Nat} {G0 G G' : GH} {L : Own}
theorem St.pad (h : St w0 X G0 G L w) : St w0 X G0 G (none :: L) w:=by
 have look : ∀ (j : Nat) p,(none :: L)[j]? = some (some p) → ∃ k,j = k + 1 ∧ L[k]? = some (some p):=fun j p hp=>by
  cases j with
  | zero=>simp at hp
  | succ k=>exact ⟨k,rfl,by simpa using hp⟩
 refine ⟨h.kept,h.le,h.new,h.imm,fun j p hp=>?_,fun j p hp=>?_,fun j k p q hp hq he=>?_⟩
 ·obtain ⟨k,_,hk⟩:=look j p hp; exact h.own k p hk
 ·obtain ⟨k,_,hk⟩:=look j p hp; exact h.sep k p hk
 ·obtain ⟨a,rfl,ha⟩:=look j p hp
  obtain ⟨b,rfl,hb⟩:=look k q hq
  exact congrArg (· + 1) (h.nd a b p q ha hb he)
theorem St.down (h : St w0 X G0 G' L w) (h1 : G0.le G) (h2 : G.le G') : St w0 X G0 G L w:=by
 have sub : ∀ b o,G b = some o → G' b = some o:=h2
 refine ⟨h.kept,h1,fun b hb=>?_,fun b o hb=>h.imm b o (sub b o hb),h.own,fun i p hp=>⟨(h.sep i p hp).1,?_⟩,h.nd⟩
 ·cases e : G b with
  | none=>
   cases e0 : G0 b with
   | none=>rfl
   | some o=>rw [h1 b o e0] at e; cases e
  | some o=>rw [← h.new b hb]; exact (sub b o e).symm
 ·cases e : G p.1 with
  | none=>rfl
  | some o=>have:=sub _ _ e; rw [(h.sep i p hp).2] at this; cases this
theorem Xp.rows {α : Type} {E : Enc α} {G : GH} {l : List α} {xs : List Value} (h : Xp E G l xs) {p : Addr} (hc : XL G p xs) : ∀ i x,l[i]? = some x → Ze5 E G (p.add (i * E.n)) x:=by
 intro i x hx
 obtain ⟨c,h1,h2⟩:=h.at i x hx
 refine ⟨c,?_,h1⟩
 obtain ⟨hs,cc,e,fz,k1,k2⟩:=hc
 rw [YG _ _ hs]
 refine ⟨rfl,cc,e,fz,k1,fun j v hv=>?_⟩
 have:=k2 _ _ (h2 j v hv)
 rwa [← Nat.add_assoc] at this
theorem Yb.freeze {α : Type} {E : Enc α} {by_ : Nat} {e : TypeId} {v : Value} {l : List α} {o : Option (Nat × TypeId × List Value)} (h : Yb E by_ e G v l o) (hS : St w0 [] G0 G L w) (i : Nat) (hi : L[i]? = some o) :
  ∃ G',G.le G' ∧ Sl E by_ G' v l ∧ St w0 [] G0 G' (L.set i none) w:=by
 rcases h with ⟨rfl,rfl,rfl⟩ | ⟨b,cs,cap,xs,rfl,rfl,h3,h4,h5,h6,h7,h8,h9⟩
 ·exact ⟨G,G.le_refl,Sl.nil _ _ _,hS.drop i⟩
 ·have hb:=hS.mine hi
  have f:=hS.freeze i hi hb
  have hG : G b = none:=(hS.sep i _ hi).2
  have hle:=G.add_le (.cells cs.toArray e) hG
  refine ⟨_,hle,⟨some ⟨b,0,none⟩,cap,rfl,h3,h8,h9,fun j x hx=>⟨_,rfl,rfl,?_⟩⟩,f⟩
  refine (h6.mono hle).rows (p:=⟨b,0,none⟩) ⟨rfl,_,_,_,GH.add_at _ _ _,fun q u hu=>?_⟩ j x hx
  rw [← h7,List.getElem?_take] at hu
  split at hu
  ·simpa using hu
  ·cases hu
theorem St.sealSl {α : Type} {E : Enc α} {by_ : Nat} {l : List α} {b : Nat} {e : TypeId} {cs : List Value} (h : St w0 X G0 G (some (b,e,cs) :: L) w) (hb : w0.heap.size ≤ b) (hf : Xp E G l cs) {n : Nat} (hn : n = l.length) (hby : n * by_ ≤ reach) (hlen : n ≤ reach) :
  ∃ G',G.le G' ∧ Sl E by_ G' (.slice (some ⟨b,0,none⟩) n n) l ∧ St w0 X G0 G' L w:=by
 obtain ⟨G',h1,h2,h3⟩:=h.shutB hb
 subst hn
 refine ⟨G',h1,⟨some ⟨b,0,none⟩,l.length,rfl,Nat.le_refl _,hby,hlen,fun i x hx=>⟨_,rfl,rfl,?_⟩⟩,h3⟩
 exact (hf.mono h1).rows h2 i x hx
theorem Yb.empty {α : Type} (E : Enc α) (by_ : Nat) (e : TypeId) (G : GH) (b : Nat) : Yb E by_ e G (.slice (some ⟨b,0,none⟩) 0 0) [] (some (b,e,[])):=
 .inr ⟨b,[],0,[],rfl,rfl,Nat.le_refl _,by simp [maxLen],by simp,rfl,by simp,by simp [reach],by simp [reach]⟩
end
section
variable {P : Program} {N : Nat} {Q : Exit → Env → World → Prop} {ρ : Env} {w : World} {ops : Array Oper} {rest : List Oper} {K : Env → World → Prop}
variable {d : Nat} {ty : TypeId} {pos : String} {af : Array Edge} {g : Option (Nat × Bool)}
variable {w0 : World} {X : List Nat} {G0 G : GH} {L : Own}
structure ElPtr {α : Type} (E : Enc α) (v : Value) (n : Nat) (p : Addr) : Prop where
 ex : ∃ a len cap,v = .slice (some a) len cap ∧ n < len ∧ p = a.add (n * E.n)
theorem Sl.at {α : Type} {E : Enc α} {by_ : Nat} {v : Value} {l : List α} (h : Sl E by_ G v l) (n : Nat) (hlt : n < l.length) : ∃ p x,l[n]? = some x ∧ Ze5 E G p x ∧ ElPtr E v n p:=by
 obtain ⟨a,cap,rfl,h1,h2,h3,h4⟩:=h
 obtain ⟨p,rfl,hp,hel⟩:=h4 n l[n] (List.getElem?_eq_getElem hlt)
 exact ⟨_,l[n],List.getElem?_eq_getElem hlt,hel,⟨p,_,cap,rfl,hlt,rfl⟩⟩
theorem Zi {α : Type} {E : Enc α} {t e : TypeId} {x ix : Operand} {v : Value} {p : Addr} {ti : TI} (n : Nat) (h : ElPtr E v n p) (hu : P.underlying t = some (.slice e)) (ht : Yp P e = some ti) (hE : ti.size = E.n)
  (hw : Region.wanted ⟨some d, .indexAddr t x ix,ty,pos,af,g⟩ (Zo ops ρ) = true) (hx : ev ρ x = v) (hi : ev ρ ix = .int .i64 (n : Int))
  (k : K (ZC ρ d (.pointer (some p))) w) : OW P ops ⟨some d, .indexAddr t x ix,ty,pos,af,g⟩ ρ w K:=by
 obtain ⟨a,len,cap,rfl,hlt,rfl⟩:=h.ex
 refine WL.val hw ?_ rfl k
 simp [execOp,Instr.indexAt,hi,hx,asIntOf,ZV hu,XA ht,hE,Result.andThen]
 rw [if_pos (by omega)]
theorem Yb.atP {α : Type} {E : Enc α} {by_ : Nat} {e : TypeId} {v : Value} {l : List α} {o : Option (Nat × TypeId × List Value)} (h : Yb E by_ e G v l o) (n : Nat) (hn : n < l.length) :
  ∃ p x ec,l[n]? = some x ∧ E.rep G x ec ∧ RowAt o E.n n p ec ∧ ElPtr E v n p:=by
 obtain ⟨b,cs,cap,ec,rfl,rfl,h1,h2⟩:=h.at n hn
 exact ⟨_,l[n],ec,List.getElem?_eq_getElem hn,h1,h2,⟨⟨b,0,none⟩,_,cap,rfl,hn,by rw [YG _ _ rfl]; simp⟩⟩
theorem WL.cmpV {t ty' : TypeId} {x y : Operand} (c : Cmp) {op : BinOp} (hop : op = c.op) (k : IntKind) (a b : Int) (r : Bool) (hr : c.b a b = r)
  (hw : Region.wanted ⟨some d, .binOp op t x y ty',ty,pos,af,g⟩ (Zo ops ρ) = true) (hx : ev ρ x = .int k a) (hy : ev ρ y = .int k b)
  (kk : K (ZC ρ d (.bool r)) w) : OW P ops ⟨some d, .binOp op t x y ty',ty,pos,af,g⟩ ρ w K:=by
 subst hr; exact Yh c hop k a b hw hx hy kk
theorem Zjh {t t' : TypeId} {x : Operand} (n : Int) (hs : P.underlying t = some (.int .u8)) (h : P.underlying t' = some (.int .i64)) (hb : 0 ≤ n ∧ n ≤ 255)
  (hw : Region.wanted ⟨some d, .convert t t' x,ty,pos,af,g⟩ (Zo ops ρ) = true) (hx : ev ρ x = .int .u8 n)
  (kk : K (ZC ρ d (.int .i64 n)) w) : OW P ops ⟨some d, .convert t t' x,ty,pos,af,g⟩ ρ w K:=by
 refine WL.val hw ?_ rfl kk
 simp [execOp,hx,convert,ZV hs,ZV h,Conv.intToInt,Result.andThen,Zd5 (show Z1 n from ⟨by omega,by omega⟩)]
theorem ZlA {t t' : TypeId} {x : Operand} (n : Int) {k k' : IntKind} (hs : P.underlying t = some (.int k)) (h : P.underlying t' = some (.int .i64)) (hb : Z1 n)
  (hw : Region.wanted ⟨some d, .convert t t' x,ty,pos,af,g⟩ (Zo ops ρ) = true) (hx : ev ρ x = .int k' n)
  (kk : K (ZC ρ d (.int .i64 n)) w) : OW P ops ⟨some d, .convert t t' x,ty,pos,af,g⟩ ρ w K:=by
 refine WL.val hw ?_ rfl kk
 simp [execOp,hx,convert,ZV hs,ZV h,Conv.intToInt,Result.andThen,Zd5 hb]
theorem Zsz (c : UInt8) : 0 ≤ (c.toNat : Int) ∧ (c.toNat : Int) ≤ 255:=by have:=c.toNat_lt; omega
theorem QG {t : TypeId} {x ix : Operand} (s : List UInt8) (n : Nat) (c : UInt8) (hc : s[n]? = some c) (hu : P.underlying t = some .string)
  (hw : Region.wanted ⟨some d, .index t x ix,ty,pos,af,g⟩ (Zo ops ρ) = true) (hx : ev ρ x = Zc s) (hi : ev ρ ix = .int .i64 (n : Int))
  (k : K (ZC ρ d (.int .u8 (c.toNat : Int))) w) : OW P ops ⟨some d, .index t x ix,ty,pos,af,g⟩ ρ w K:=
 ZaS s n (List.getElem?_eq_some_iff.1 hc).1 hu hw hx hi fun c' hc'=>by rw [hc] at hc'; obtain rfl:=Option.some.inj hc'; exact k
theorem nu {d : Nat} {v : Value} {ρH : Env} {R : World → Prop} (h : ρH d = v) (hR : R w) : ZC ρH d v = ρH ∧ R w:=⟨Zbb h,hR⟩
theorem ZO {f : Nat} {x : Operand} {args : List Operand} {ts : Array TypeId} {vs : List Value} {cap : Array Value} {u : Value} (hS : St w0 X G0 G L w) (hf : Zk P f)
  (hw : Region.wanted ⟨some d, .call ⟨.value x,args.toArray,ts⟩,ty,pos,af,g⟩ (Zo ops ρ) = true) (hx : ev ρ x = .func (.func f) #[] cap) (ha : args.map (ev ρ) ++ cap.toList = vs)
  (hc : CL P f vs.toArray [] w G fun _ _ r=>r = u) (hv : ρ d = u) :
  OW P ops ⟨some d, .call ⟨.value x,args.toArray,ts⟩,ty,pos,af,g⟩ ρ w (fun ρ' w'=>ρ' = ρ ∧ St w0 X G0 G L w'):=by
 refine Zc4 vs cap hf hw hx ha (hc.mono ?_)
 rintro e w9 ⟨r9,G9,rfl,hres9,rfl⟩
 exact ⟨_,rfl,Zbb hv,(hS.call hres9).down hS.le hres9.le⟩
section
variable {t ty' : TypeId} {x y : Operand} {k : IntKind} (a b : Int)
theorem Xi (hw : Region.wanted ⟨some d, .binOp .eql t x y ty',ty,pos,af,g⟩ (Zo ops ρ) = true) (hx : ev ρ x = .int k a) (hy : ev ρ y = .int k b)
  (kT : a = b → K (ZC ρ d (.bool true)) w) (kF : a ≠ b → K (ZC ρ d (.bool false)) w) : OW P ops ⟨some d, .binOp .eql t x y ty',ty,pos,af,g⟩ ρ w K:=WL.cmpS .eql rfl k a b hw hx hy kT kF
theorem Xn (hw : Region.wanted ⟨some d, .binOp .neq t x y ty',ty,pos,af,g⟩ (Zo ops ρ) = true) (hx : ev ρ x = .int k a) (hy : ev ρ y = .int k b)
  (kT : a ≠ b → K (ZC ρ d (.bool true)) w) (kF : a = b → K (ZC ρ d (.bool false)) w) : OW P ops ⟨some d, .binOp .neq t x y ty',ty,pos,af,g⟩ ρ w K:=WL.cmpS .neq rfl k a b hw hx hy kT kF
theorem Zm (hw : Region.wanted ⟨some d, .binOp .lss t x y ty',ty,pos,af,g⟩ (Zo ops ρ) = true) (hx : ev ρ x = .int k a) (hy : ev ρ y = .int k b)
  (kT : a < b → K (ZC ρ d (.bool true)) w) (kF : b ≤ a → K (ZC ρ d (.bool false)) w) : OW P ops ⟨some d, .binOp .lss t x y ty',ty,pos,af,g⟩ ρ w K:=WL.cmpS .lss rfl k a b hw hx hy kT kF
theorem QH (hw : Region.wanted ⟨some d, .binOp .leq t x y ty',ty,pos,af,g⟩ (Zo ops ρ) = true) (hx : ev ρ x = .int k a) (hy : ev ρ y = .int k b)
  (kT : a ≤ b → K (ZC ρ d (.bool true)) w) (kF : b < a → K (ZC ρ d (.bool false)) w) : OW P ops ⟨some d, .binOp .leq t x y ty',ty,pos,af,g⟩ ρ w K:=WL.cmpS .leq rfl k a b hw hx hy kT kF
theorem YZ (hw : Region.wanted ⟨some d, .binOp .gtr t x y ty',ty,pos,af,g⟩ (Zo ops ρ) = true) (hx : ev ρ x = .int k a) (hy : ev ρ y = .int k b)
  (kT : b < a → K (ZC ρ d (.bool true)) w) (kF : a ≤ b → K (ZC ρ d (.bool false)) w) : OW P ops ⟨some d, .binOp .gtr t x y ty',ty,pos,af,g⟩ ρ w K:=WL.cmpS .gtr rfl k a b hw hx hy kT kF
theorem Qt (hw : Region.wanted ⟨some d, .binOp .geq t x y ty',ty,pos,af,g⟩ (Zo ops ρ) = true) (hx : ev ρ x = .int k a) (hy : ev ρ y = .int k b)
  (kT : b ≤ a → K (ZC ρ d (.bool true)) w) (kF : a < b → K (ZC ρ d (.bool false)) w) : OW P ops ⟨some d, .binOp .geq t x y ty',ty,pos,af,g⟩ ρ w K:=WL.cmpS .geq rfl k a b hw hx hy kT kF
end
end
structure FnB (P : Program) {α : Type} (A : GH → Value → α → Prop) (fid : Nat) (cap : Array Value) (G : GH) (on : α → Prop) (pf : α → Bool) : Prop where
 body : Zk P fid
 call : ∀ (G' : GH) (w' : World) (v : Value) (x : α),G.le G' → G'.In w' → on x → A G' v x →
  Calls P fid ([v] ++ cap.toList).toArray w' fun e w''=>∃ r G'',e = .returned r ∧ Res [] w' G' w'' G'' ∧ r = .bool (pf x)
structure FnB2 (P : Program) {α β : Type} (A : GH → Value → α → Prop) (B : GH → Value → β → Prop) (fid : Nat) (cap : Array Value) (G : GH) (on : α → β → Prop) (pf : α → β → Bool) : Prop where
 body : Zk P fid
 call : ∀ (G' : GH) (w' : World) (v u : Value) (x : α) (y : β),G.le G' → G'.In w' → on x y → A G' v x → B G' u y →
  Calls P fid ([v,u] ++ cap.toList).toArray w' fun e w''=>∃ r G'',e = .returned r ∧ Res [] w' G' w'' G'' ∧ r = .bool (pf x y)
structure FnI2 (P : Program) {α β : Type} (A : GH → Value → α → Prop) (B : GH → Value → β → Prop) (fid : Nat) (cap : Array Value) (G : GH) (on : α → β → Prop) (pf : α → β → Int) : Prop where
 body : Zk P fid
 call : ∀ (G' : GH) (w' : World) (v u : Value) (x : α) (y : β),G.le G' → G'.In w' → on x y → A G' v x → B G' u y →
  Calls P fid ([v,u] ++ cap.toList).toArray w' fun e w''=>∃ r G'',e = .returned r ∧ Res [] w' G' w'' G'' ∧ r = .int .i64 (pf x y)
theorem FnB.up {P : Program} {α : Type} {A : GH → Value → α → Prop} {fid : Nat} {cap : Array Value} {G G' : GH} {on : α → Prop} {pf : α → Bool} (h : FnB P A fid cap G on pf) (k : G.le G') : FnB P A fid cap G' on pf:=
 ⟨h.body,fun G2 w' v x hle=>h.call G2 w' v x (k.trans hle)⟩
def Xe {α : Type} (p : α → Bool) (l : List α) : Int:=match l.findIdx? p with | some i=>(i : Int) | none=>-1
theorem ZmR {α : Type} {p : α → Bool} {l : List α} (h : ∀ (j : Nat) x,l[j]? = some x → p x = false) : Xe p l = -1:=by
 unfold Xe
 have : l.findIdx? p = none:=by
  rw [List.findIdx?_eq_none_iff]
  intro x hx
  obtain ⟨j,hj⟩:=List.getElem?_of_mem hx
  exact h j x hj
 rw [this]
theorem Qy {α : Type} {p : α → Bool} {l : List α} (k : Nat) {x : α} (hk : l[k]? = some x) (hx : p x = true) (h : ∀ j,j < k → ∀ x,l[j]? = some x → p x = false) : Xe p l = (k : Int):=by
 unfold Xe
 have : l.findIdx? p = some k:=by
  rw [List.findIdx?_eq_some_iff_getElem]
  obtain ⟨hlt,he⟩:=List.getElem?_eq_some_iff.1 hk
  refine ⟨hlt,by rw [he]; exact hx,fun j hj=>?_⟩
  have:=h j hj l[j] (List.getElem?_eq_getElem (by omega))
  simp [this]
 rw [this]
theorem Zc9 {α : Type} (p : α → Bool) (l : List α) : Cmp.b .geq (Xe p l) 0 = l.any p:=by
 unfold Xe Cmp.b
 cases h : l.findIdx? p with
 | none=>
  rw [List.findIdx?_eq_none_iff] at h
  simp only
  rw [Bool.eq_iff_iff]
  simp only [decide_eq_true_eq,List.any_eq_true]
  constructor
  ·intro h'; omega
  ·rintro ⟨x,hx,hp⟩; rw [h x hx] at hp; cases hp
 | some i=>
  rw [List.findIdx?_eq_some_iff_getElem] at h
  obtain ⟨hlt,hp,_⟩:=h
  simp only
  rw [Bool.eq_iff_iff]
  simp only [decide_eq_true_eq,List.any_eq_true]
  exact ⟨fun _=>⟨l[i],List.getElem_mem hlt,hp⟩,fun _=>by omega⟩
end Go.Civ
namespace Go.Civ
set_option linter.unusedVariables false
def Yx (a b : Int) : Int:=if a < b then -1 else if b < a then 1 else 0
def Qz (l : List Int) : Int:=(l.find? fun x=>decide (x ≠ 0)).getD 0
def cmpS (a b : List UInt8) : Int:=if Op.bytesLess a b then -1 else if a = b then 0 else 1
def cmpV (x y : Val) : Int:=if Yx x.k y.k ≠ 0 then Yx x.k y.k else if Yx x.n y.n ≠ 0 then Yx x.n y.n else cmpS x.s y.s
def okC (c : UInt8) : Bool:=decide (32 ≤ c.toNat) && decide (c.toNat ≤ 126)
def ZK (x : Val) : Bool:=
 if x.k = 1 then decide (x.s = [])
 else if x.k = 2 then decide (x.n = 0) && decide (x.s.length ≤ 30) && x.s.all okC
 else if x.k = 3 then decide (x.s = []) && (decide (x.n = 0) || decide (x.n = 1))
 else if x.k = 4 then decide (x.s = []) && decide (-62135596800 ≤ x.n) && decide (x.n ≤ 253402300800)
 else false
def ZL {α β : Type} (f : α → β → Int) : List α → List β → Int
 | [],[]=>0
 | [],_ :: _=>-1
 | _ :: _,[]=>1
 | x :: a,y :: b=>if f x y ≠ 0 then f x y else ZL f a b
def Xr (a b : List Val) : Int:=if a.all ZK && b.all ZK then ZL cmpV a b else 0
def QI {α β : Type} (f : α → β → Bool) : List α → List β → Bool
 | [],[]=>true
 | x :: a,y :: b=>f x y && QI f a b
 | _,_=>false
def ZaZ (x : Int) : Bool:=decide (-4398046511104 ≤ x) && decide (x ≤ 4398046511104)
def Xk (s : Span) : Bool:=ZaZ s.a && ZaZ s.b && decide (s.a < s.b)
def ZM (s : Span) : Bool:=decide (-62135596800 ≤ s.a) && decide (s.a < s.b) && decide (s.b ≤ 253402300800)
def Zrr (s : Span) (x : Int) : Bool:=Xk s && decide (s.a ≤ x) && decide (x < s.b)
def Zs1 (a b : List Val) : Bool:=QI (fun x y=>decide (x.k = y.k)) a b
def ZtT (v : List Val) (f : Fact) : Bool:=ZM f.t && decide (f.v.length ≤ 8) && Zs1 f.v v && f.v.all ZK
def Zs2 (l : List Fact) : Bool:=decide (l.length ≤ 1000) && l.all fun f=>ZtT (l.head?.elim [] Fact.v) f
theorem Zhj {G : GH} (x : Col) (h1 : x.name.length ≤ reach) (h2 : Z1 x.kind) : ColE.rep G x [Zc x.name, .int .i64 x.kind]:=⟨_,_,rfl,⟨rfl,h1⟩,rfl,h2⟩
theorem Yb.bound {α : Type} {E : Enc α} {by_ : Nat} {e : TypeId} {G : GH} {v : Value} {l : List α} {o : Option (Nat × TypeId × List Value)} (h : Yb E by_ e G v l o) : l.length ≤ reach:=by
 rcases h with ⟨_,_,rfl⟩ | ⟨b,cs,cap,xs,_,_,_,_,_,_,_,_,h9⟩
 ·simp [reach]
 ·exact h9
theorem Yj {α : Type} {P : α → Prop} {l : List α} {k : Nat} {y : α} (h : ∀ j,j < k → ∀ x,l[j]? = some x → P x) (hk : l[k]? = some y) (hy : P y) : ∀ j,j < k + 1 → ∀ x,l[j]? = some x → P x:=fun j hj x hx=>by
 by_cases e : j = k
 ·subst e; rw [hk] at hx; obtain rfl:=Option.some.inj hx; exact hy
 ·exact h j (by omega) x hx
theorem Zar {α β : Type} {P : α → β → Prop} {a : List α} {b : List β} {k : Nat} {u : α} {v : β} (h : ∀ j,j < k → ∀ x y,a[j]? = some x → b[j]? = some y → P x y) (hk : a[k]? = some u) (hk' : b[k]? = some v) (hy : P u v) : ∀ j,j < k + 1 → ∀ x y,a[j]? = some x → b[j]? = some y → P x y:=fun j hj x y hx hy'=>by
 by_cases e : j = k
 ·subst e; rw [hk] at hx; rw [hk'] at hy'; obtain rfl:=Option.some.inj hx; obtain rfl:=Option.some.inj hy'; exact hy
 ·exact h j (by omega) x y hx hy'
theorem ZmT {α : Type} {P : α → Prop} {l : List α} {k : Nat} (h : ∀ j,j < k → ∀ x,l[j]? = some x → P x) (hk : l.length ≤ k) : ∀ x ∈ l,P x:=fun x hx=>by
 obtain ⟨j,hj⟩:=List.getElem?_of_mem hx
 exact h j (Nat.lt_of_lt_of_le (List.getElem?_eq_some_iff.1 hj).1 hk) x hj
theorem XX {α : Type} {p : α → Bool} {l : List α} {k : Nat} (h : ∀ j,j < k → ∀ x,l[j]? = some x → p x = false) (hk : l.length ≤ k) : Xe p l = -1:=
 ZmR fun j x hj=>h j (Nat.lt_of_lt_of_le (List.getElem?_eq_some_iff.1 hj).1 hk) x hj
theorem Ze8 {α : Type} {p : α → Bool} {l : List α} {k : Nat} {x : α} (hk : l[k]? = some x) (hx : p x = false) : l.all p = false:=by
 rw [List.all_eq_false]; exact ⟨x,List.mem_of_getElem? hk,by simp [hx]⟩
theorem Yw {α : Type} {p : α → Bool} {l : List α} {k : Nat} (h : ∀ j,j < k → ∀ x,l[j]? = some x → p x = true) (hk : l.length ≤ k) : l.all p = true:=by
 rw [List.all_eq_true]; exact ZmT h hk
theorem ZkV {α : Type} (p : α → Bool) (l : List α) : (!l.any fun x=>!p x) = l.all p:=by simp [List.any_eq_not_all_not]
theorem Zcy {α β : Type} {f : α → β → Bool} : ∀ {a : List α} {b : List β},a.length ≠ b.length → QI f a b = false
 | [],[],h=>absurd rfl h
 | x :: a,y :: b,h=>by simp only [QI]; rw [Zcy (by simpa using h)]; simp
 | [],_ :: _,_=>rfl
 | _ :: _,[],_=>rfl
theorem Zd7 {α β : Type} {f : α → β → Bool} : ∀ {a : List α} {b : List β} {k : Nat} {x : α} {y : β},a[k]? = some x → b[k]? = some y → f x y = false → QI f a b = false
 | u :: a,v :: b,0,x,y,h1,h2,h=>by simp at h1 h2; subst h1 h2; simp [QI,h]
 | u :: a,v :: b,k + 1,x,y,h1,h2,h=>by simp only [QI]; rw [Zd7 (k:=k) (by simpa using h1) (by simpa using h2) h]; simp
 | [],_,_,_,_,h1,_,_=>by simp at h1
 | _ :: _,[],_,_,_,_,h2,_=>by simp at h2
theorem ZkW {α β : Type} {f : α → β → Bool} : ∀ {a : List α} {b : List β},a.length = b.length → (∀ (j : Nat) x y,a[j]? = some x → b[j]? = some y → f x y = true) → QI f a b = true
 | [],[],_,_=>rfl
 | x :: a,y :: b,h,k=>by
  simp only [QI,Bool.and_eq_true]
  exact ⟨k 0 x y rfl rfl,ZkW (by simpa using h) fun j u v hu hv=>k (j + 1) u v (by simpa using hu) (by simpa using hv)⟩
theorem Zd8 {α β : Type} {f : α → β → Bool} {a : List α} {b : List β} {k : Nat} (hl : a.length = b.length) (h : ∀ j,j < k → ∀ x y,a[j]? = some x → b[j]? = some y → f x y = true) (hk : a.length ≤ k) : QI f a b = true:=
 ZkW hl fun j x y hx hy=>h j (Nat.lt_of_lt_of_le (List.getElem?_eq_some_iff.1 hx).1 hk) x y hx hy
theorem Zas {α : Type} [DecidableEq α] : ∀ {a b : List α},QI (fun x y=>decide (x = y)) a b = decide (a = b)
 | [],[]=>by simp [QI]
 | x :: a,y :: b=>by simp only [QI]; rw [Zas]; simp [Bool.decide_and]
 | [],_ :: _=>by simp [QI]
 | _ :: _,[]=>by simp [QI]
theorem Zhk {α β : Type} {f : α → β → Int} : ∀ {a : List α} {b : List β} {k : Nat} {x : α} {y : β},(∀ j,j < k → ∀ x y,a[j]? = some x → b[j]? = some y → f x y = 0) → a[k]? = some x → b[k]? = some y → f x y ≠ 0 → ZL f a b = f x y
 | u :: a,v :: b,0,x,y,_,h1,h2,h=>by simp at h1 h2; subst h1 h2; simp [ZL,h]
 | u :: a,v :: b,k + 1,x,y,h0,h1,h2,h=>by
  simp only [ZL]
  rw [if_neg (by simpa using h0 0 (by omega) u v rfl rfl)]
  exact Zhk (k:=k) (fun j hj x y hx hy=>h0 (j + 1) (by omega) x y (by simpa using hx) (by simpa using hy)) (by simpa using h1) (by simpa using h2) h
 | [],_,_,_,_,_,h1,_,_=>by simp at h1
 | _ :: _,[],_,_,_,_,_,h2,_=>by simp at h2
theorem ZcA {α β : Type} {f : α → β → Int} : ∀ {a : List α} {b : List β},(∀ (j : Nat) x y,a[j]? = some x → b[j]? = some y → f x y = 0) → ZL f a b = Yx a.length b.length
 | [],[],_=>by simp [ZL,Yx]
 | [],_ :: _,_=>by simp only [ZL,Yx,List.length_nil,List.length_cons]; rw [if_pos (by omega)]
 | _ :: _,[],_=>by simp only [ZL,Yx,List.length_nil,List.length_cons]; rw [if_neg (by omega),if_pos (by omega)]
 | x :: a,y :: b,h=>by
  simp only [ZL]
  rw [if_neg (by simpa using h 0 x y rfl rfl),ZcA fun j u v hu hv=>h (j + 1) u v (by simpa using hu) (by simpa using hv)]
  unfold Yx; simp only [List.length_cons]; split <;> split <;> (try split) <;> (try split) <;> omega
theorem ZmU {α β : Type} {f : α → β → Int} {a : List α} {b : List β} {k : Nat} (h : ∀ j,j < k → ∀ x y,a[j]? = some x → b[j]? = some y → f x y = 0) (hb : b.length ≤ k) (ha : k < a.length) : ZL f a b = 1:=by
 rw [ZcA fun j x y hx hy=>h j (Nat.lt_of_lt_of_le (List.getElem?_eq_some_iff.1 hy).1 hb) x y hx hy]
 unfold Yx; rw [if_neg (by omega),if_pos (by omega)]
theorem ZlC {α β : Type} {f : α → β → Int} {a : List α} {b : List β} {k : Nat} (h : ∀ j,j < k → ∀ x y,a[j]? = some x → b[j]? = some y → f x y = 0) (ha : a.length ≤ k) (hb : a.length < b.length) : ZL f a b = -1:=by
 rw [ZcA fun j x y hx hy=>h j (Nat.lt_of_lt_of_le (List.getElem?_eq_some_iff.1 hx).1 ha) x y hx hy]
 unfold Yx; rw [if_pos (by omega)]
theorem ZmV {α β : Type} {f : α → β → Int} {a : List α} {b : List β} {k : Nat} (h : ∀ j,j < k → ∀ x y,a[j]? = some x → b[j]? = some y → f x y = 0) (ha : a.length ≤ k) (hb : b.length ≤ a.length) (hk : k ≤ b.length) : ZL f a b = 0:=by
 rw [ZcA fun j x y hx hy=>h j (Nat.lt_of_lt_of_le (List.getElem?_eq_some_iff.1 hx).1 ha) x y hx hy]
 unfold Yx; rw [if_neg (by omega),if_neg (by omega)]
theorem Zji {l : List Int} {k : Nat} {x : Int} (h : ∀ j,j < k → ∀ x,l[j]? = some x → x = 0) (hk : l[k]? = some x) (hx : x ≠ 0) : Qz l = x:=by
 unfold Qz
 induction l generalizing k with
 | nil=>simp at hk
 | cons y l ih=>
  cases k with
  | zero=>simp at hk; subst hk; simp [hx]
  | succ k=>
   have h0:=h 0 (by omega) y rfl
   rw [List.find?_cons_of_neg (by simp [h0])]
   exact ih (k:=k) (fun j hj x hx=>h (j + 1) (by omega) x (by simpa using hx)) (by simpa using hk)
theorem Zgv {l : List Int} {k : Nat} (h : ∀ j,j < k → ∀ x,l[j]? = some x → x = 0) (hk : l.length ≤ k) : Qz l = 0:=by
 unfold Qz
 rw [List.find?_eq_none.2 fun x hx=>by simp [ZmT h hk x hx]]; rfl
theorem ZmW (a b c : Int) : Qz [a,b,c] = if a ≠ 0 then a else if b ≠ 0 then b else c:=by
 unfold Qz
 by_cases ha : a = 0 <;> by_cases hb : b = 0 <;> by_cases hc : c = 0 <;> simp [List.find?,ha,hb,hc]
theorem Zd9 (a b : Int) : Z1 (Yx a b):=by unfold Yx; split <;> (try split) <;> constructor <;> decide
theorem Zjj (a b : List UInt8) : Z1 (cmpS a b):=by unfold cmpS; split <;> (try split) <;> constructor <;> decide
theorem ZoP (x y : Val) : Z1 (cmpV x y):=by unfold cmpV; split <;> (try split) <;> first | exact Zd9 _ _ | exact Zjj _ _
theorem Zjk {α β : Type} {f : α → β → Int} (hf : ∀ x y,Z1 (f x y)) : ∀ (a : List α) (b : List β),Z1 (ZL f a b)
 | [],[]=>by simp [ZL]; exact Yl
 | [],_ :: _=>by simp [ZL]; constructor <;> decide
 | _ :: _,[]=>by simp [ZL]; constructor <;> decide
 | x :: a,y :: b=>by simp only [ZL]; split; exact hf _ _; exact Zjk hf a b
theorem ZoQ (a b : List Val) : Z1 (Xr a b):=by unfold Xr; split; exact Zjk ZoP _ _; exact Yl
theorem Zrs (x : Span) (h : -62135596800 ≤ x.a) (k : x.b ≤ 253402300800) : Xk x = decide (x.a < x.b):=by
 unfold Xk ZaZ
 by_cases e : x.a < x.b <;> simp [e] <;> omega
section
open Go.RowKit
variable {P : Program} {N : Nat} {Q : Exit → Env → World → Prop} {ρ : Env} {w : World} {ops : Array Oper} {rest : List Oper} {K : Env → World → Prop}
variable {d : Nat} {ty : TypeId} {pos : String} {af : Array Edge} {g : Option (Nat × Bool)}
theorem ZfL {t ty' : TypeId} {x y : Operand} {X Y : Array Value} {b : Bool} (h : ∀ w,(Op.equalIn 10000 t (.agg X) (.agg Y)).run P w = .ok b w) (hg : P.eqGuardType P.depth t = false)
  (hw : Region.wanted ⟨some d, .binOp .eql t x y ty',ty,pos,af,g⟩ (Zo ops ρ) = true) (hx : ev ρ x = .agg X) (hy : ev ρ y = .agg Y)
  (kk : K (ZC ρ d (.bool b)) w) : OW P ops ⟨some d, .binOp .eql t x y ty',ty,pos,af,g⟩ ρ w K:=by
 refine WL.val hw ?_ rfl kk
 simp [execOp,hx,hy,run_eqGuard_agg w _ t _ _ X Y hg,run_eql_struct,h,Result.andThen]
theorem ZmX {t ty' : TypeId} {x y : Operand} {X Y : Array Value} {b : Bool} (h : ∀ w,(Op.equalIn 10000 t (.agg X) (.agg Y)).run P w = .ok b w) (hg : P.eqGuardType P.depth t = false)
  (hw : Region.wanted ⟨some d, .binOp .neq t x y ty',ty,pos,af,g⟩ (Zo ops ρ) = true) (hx : ev ρ x = .agg X) (hy : ev ρ y = .agg Y)
  (kk : K (ZC ρ d (.bool (!b))) w) : OW P ops ⟨some d, .binOp .neq t x y ty',ty,pos,af,g⟩ ρ w K:=by
 refine WL.val hw ?_ rfl kk
 simp [execOp,hx,hy,run_eqGuard_agg w _ t _ _ X Y hg,run_neq_struct,h,Result.andThen]
theorem Q0 {t ty' : TypeId} {x y : Operand} {X Y : Array Value} {b : Bool} (r : Bool) (h : ∀ w,(Op.equalIn 10000 t (.agg X) (.agg Y)).run P w = .ok b w) (hg : P.eqGuardType P.depth t = false) (hr : (!b) = r)
  (hw : Region.wanted ⟨some d, .binOp .neq t x y ty',ty,pos,af,g⟩ (Zo ops ρ) = true) (hx : ev ρ x = .agg X) (hy : ev ρ y = .agg Y)
  (kk : K (ZC ρ d (.bool r)) w) : OW P ops ⟨some d, .binOp .neq t x y ty',ty,pos,af,g⟩ ρ w K:=by
 subst hr; exact ZmX h hg hw hx hy kk
end
end Go.Civ
namespace Go.Civ
open Go.RowKit
set_option linter.unusedVariables false
abbrev OB:=Option (Nat × TypeId × List Value)
def blk : OB → List Nat | none=>[] | some p=>[p.1]
def Zfk (w w' : World) (G : GH) (o : OB) : Prop:=∀ p,o = some p → w.heap.size ≤ p.1 ∧ w'.heap[p.1]? = some (Za9 p.2) ∧ G p.1 = none
def Zat (w : World) (G : GH) (o : OB) : Prop:=∀ p,o = some p → w.heap[p.1]? = some (Za9 p.2) ∧ G p.1 = none
theorem FnI2.up {P : Program} {α β : Type} {A : GH → Value → α → Prop} {B : GH → Value → β → Prop} {fid : Nat} {cap : Array Value} {G G' : GH} {on : α → β → Prop} {pf : α → β → Int} (h : FnI2 P A B fid cap G on pf) (k : G.le G') : FnI2 P A B fid cap G' on pf:=
 ⟨h.body,fun G2 w' v u x y hle=>h.call G2 w' v u x y (k.trans hle)⟩
theorem FnB2.up {P : Program} {α β : Type} {A : GH → Value → α → Prop} {B : GH → Value → β → Prop} {fid : Nat} {cap : Array Value} {G G' : GH} {on : α → β → Prop} {pf : α → β → Bool} (h : FnB2 P A B fid cap G on pf) (k : G.le G') : FnB2 P A B fid cap G' on pf:=
 ⟨h.body,fun G2 w' v u x y hle=>h.call G2 w' v u x y (k.trans hle)⟩
section
variable {w0 w w' : World} {X : List Nat} {G0 G G' : GH} {L : Own} {o : OB}
theorem St.freshAt (h : St w0 [] G0 G L w) (i : Nat) (hi : L[i]? = some o) : Zfk w0 w G o:=fun p hp=>by
 subst hp; exact ⟨h.mine hi,h.own i p hi,(h.sep i p hi).2⟩
theorem St.lentAt (h : St w0 X G0 G L w) (i : Nat) (hi : L[i]? = some o) : Zat w G o:=fun p hp=>by
 subst hp; exact ⟨h.own i p hi,(h.sep i p hi).2⟩
theorem St.adoptO (h : St w0 X G0 G L w) (r : Res [] w G w' G') (ho : Zfk w w' G' o) : St w0 X G0 G' (o :: L) w':=by
 cases o with
 | none=>exact (h.call r).pad
 | some p=>
  obtain ⟨b,e,cs⟩:=p
  obtain ⟨h1,h2,h3⟩:=ho _ rfl
  exact h.adopt r h2 h1 h3
theorem St.callRow (h : St w0 X G0 G L w) (i : Nat) (hi : L[i]? = some o) {o' : OB} (r : Res (blk o) w G w' G') {α : Type} {E : Enc α} {by_ : Nat} {e : TypeId} {v : Value} {l l' : List α}
  (h1 : Yb E by_ e G v l o) (h2 : Yb E by_ e G' v l' o') (hl : Zat w' G' o') : St w0 X G0 G' (L.set i o') w':=by
 rcases h1 with ⟨rfl,rfl,rfl⟩ | ⟨b,cs,cap,xs,rfl,rfl,_⟩
 ·rcases h2 with ⟨rfl,_,rfl⟩ | ⟨b,cs,cap,xs,rfl,hv,_⟩
  ·exact (h.call r).drop i
  ·simp at hv
 ·rcases h2 with ⟨rfl,hv,rfl⟩ | ⟨b',cs',cap',xs',rfl,hv,_⟩
  ·simp at hv
  ·simp at hv
   obtain ⟨rfl,_⟩:=hv
   exact h.callX i hi cs' r (hl _ rfl).1
theorem Yb.cells1 {α : Type} {E : Enc α} {by_ : Nat} {e : TypeId} {v : Value} {l : List α} (h : Yb E by_ e G v l o) : v.cells = [v].toArray:=by obtain ⟨a,cap,rfl⟩:=h.shape; rfl
theorem ElPtr.inj {α : Type} {E : Enc α} {v : Value} {n : Nat} {p q : Addr} (h : ElPtr E v n p) (k : ElPtr E v n q) : p = q:=by
 obtain ⟨a,l,c,rfl,_,rfl⟩:=h.ex
 obtain ⟨a',l',c',e,_,rfl⟩:=k.ex
 simp at e; rw [e.1]
theorem Sl.oneC {α : Type} {E : Enc α} {by_ : Nat} {v : Value} {l : List α} (h : Sl E by_ G v l) : v.oneCell' = true:=by obtain ⟨a,cap,rfl,_⟩:=h; rfl
theorem Yb.oneC {α : Type} {E : Enc α} {by_ : Nat} {e : TypeId} {v : Value} {l : List α} (h : Yb E by_ e G v l o) : v.oneCell' = true:=by obtain ⟨a,cap,rfl⟩:=h.shape; rfl
theorem Yb.len {α : Type} {E : Enc α} {by_ : Nat} {e : TypeId} {v : Value} {l l' : List α} {o' : OB} (h1 : Yb E by_ e G v l o) (h2 : Yb E by_ e G' v l' o') : l'.length = l.length:=by
 obtain ⟨a,c,h⟩:=h1.shape
 obtain ⟨a',c',h'⟩:=h2.shape
 rw [h] at h'; simp at h'; omega
end
section
variable {P : Program} {N : Nat} {Q : Exit → Env → World → Prop} {ρ : Env} {w : World} {ops : Array Oper} {rest : List Oper} {K : Env → World → Prop}
variable {d : Nat} {ty : TypeId} {pos : String} {af : Array Edge} {g : Option (Nat × Bool)} {G : GH}
theorem WL.addN {t ty' : TypeId} {x y : Operand} (a b : Nat) (hn : a + b ≤ 4 * reach)
  (hw : Region.wanted ⟨some d, .binOp .add t x y ty',ty,pos,af,g⟩ (Zo ops ρ) = true) (hx : ev ρ x = .int .i64 (a : Int)) (hy : ev ρ y = .int .i64 (b : Int))
  (kk : K (ZC ρ d (.int .i64 ((a + b : Nat) : Int))) w) : OW P ops ⟨some d, .binOp .add t x y ty',ty,pos,af,g⟩ ρ w K:=by
 refine Zcn .add rfl a b hw hx hy ⟨?_,?_⟩ kk
 ·simp only [Ar.f]; omega
 ·simp only [Ar.f,reach] at *; omega
theorem Zfl {t ty' : TypeId} {x y : Operand} (a b : Nat) (hn : a * b ≤ 4 * reach)
  (hw : Region.wanted ⟨some d, .binOp .mul t x y ty',ty,pos,af,g⟩ (Zo ops ρ) = true) (hx : ev ρ x = .int .i64 (a : Int)) (hy : ev ρ y = .int .i64 (b : Int))
  (kk : K (ZC ρ d (.int .i64 ((a * b : Nat) : Int))) w) : OW P ops ⟨some d, .binOp .mul t x y ty',ty,pos,af,g⟩ ρ w K:=by
 have e : ((a : Int) * (b : Int)) = ((a * b : Nat) : Int):=by simp
 refine Zcn .mul rfl a b hw hx hy ⟨?_,?_⟩ (by simp only [Ar.f,e]; exact kk)
 ·simp only [Ar.f,e]; omega
 ·simp only [Ar.f,e,reach] at *; omega
theorem Zgw (op : BinOp) (t : TypeId) (x y : Operand) (a b : Option Addr) (l c m n : Nat) : (eqGuard op t x y (.slice a l c) (.slice b m n)).run P w = .ok () w:=by
 unfold eqGuard; split <;> simp
theorem ZfM {α : Type} {E : Enc α} {by_ : Nat} {t e ty' : TypeId} {x y : Operand} {v : Value} {l : List α} (hs : Sl E by_ G v l) (hu : P.underlying t = some (.slice e))
  (hw : Region.wanted ⟨some d, .binOp .eql t x y ty',ty,pos,af,g⟩ (Zo ops ρ) = true) (hx : ev ρ x = v) (hy : ev ρ y = .slice none 0 0)
  (kN : l = [] → K (ZC ρ d (.bool true)) w) (kS : K (ZC ρ d (.bool false)) w) : OW P ops ⟨some d, .binOp .eql t x y ty',ty,pos,af,g⟩ ρ w K:=by
 obtain ⟨a,cap,rfl,h1,h2,h3,h4⟩:=hs
 have run : (binOp .eql t (.slice a l.length cap) (.slice none 0 0)).run P w = .ok (.bool a.isNone) w:=by
  simp only [binOp]
  simp [run_equal_slice_nil w t e a l.length cap hu]
 have go : ∀ b,a.isNone = b → K (ZC ρ d (.bool b)) w → OW P ops ⟨some d, .binOp .eql t x y ty',ty,pos,af,g⟩ ρ w K:=fun b hb kk=>by
  subst hb
  refine WL.val hw ?_ rfl kk
  simp [execOp,hx,hy,Zgw,run,Result.andThen]
 cases a with
 | some a=>exact go false rfl kS
 | none=>
  refine go true rfl (kN ?_)
  cases l with
  | nil=>rfl
  | cons x l=>obtain ⟨p,hp,_⟩:=h4 0 x rfl; cases hp
end
end Go.Civ
namespace Go.Civ
set_option linter.unusedVariables false
section
variable {α : Type}
theorem Zjl {l : List α} {i : Nat} {x : α} (h : l[i]? = some x) (y : α) : (x :: l.set i y).Perm (y :: l):=by
 induction l generalizing i with
 | nil=>simp at h
 | cons z l ih=>
  cases i with
  | zero=>simp at h; subst h; exact List.Perm.swap _ _ _
  | succ i=>
   have:=ih (i:=i) (by simpa using h)
   simp only [List.set_cons_succ]
   exact (List.Perm.swap _ _ _).trans ((this.cons z).trans (List.Perm.swap _ _ _))
theorem ZhK {l : List α} {i j : Nat} {x y : α} (hij : i ≠ j) (hi : l[i]? = some x) (hj : l[j]? = some y) : ((l.set i y).set j x).Perm l:=by
 have h1:=Zjl hi y
 have hj' : (l.set i y)[j]? = some y:=by rw [List.getElem?_set]; rw [if_neg hij]; exact hj
 have h2:=Zjl hj' x
 exact (List.perm_cons y).1 (h2.trans h1)
def Asc (pf : α → α → Int) (L : List α) (a i : Nat) : Prop:=∀ p q x y,a ≤ p → p < q → q < i → L[p]? = some x → L[q]? = some y → ¬ pf y x < 0
structure Ins (pf : α → α → Int) (l L : List α) (a b i : Nat) : Prop where
 perm : L.Perm l
 frame : ∀ p,p < a ∨ b ≤ p → L[p]? = l[p]?
 asc : Asc pf L a i
structure Ins2 (pf : α → α → Int) (l L : List α) (a b i j : Nat) : Prop where
 perm : L.Perm l
 frame : ∀ p,p < a ∨ b ≤ p → L[p]? = l[p]?
 inv : ∀ p q x y,a ≤ p → p < q → q ≤ i → q ≠ j → L[p]? = some x → L[q]? = some y → ¬ pf y x < 0
variable {pf : α → α → Int} {l L : List α} {a b i j : Nat}
theorem Ins.len (h : Ins pf l L a b i) : L.length = l.length:=h.perm.length_eq
theorem Ins2.len (h : Ins2 pf l L a b i j) : L.length = l.length:=h.perm.length_eq
theorem Ins.start : Ins pf l l a b (a + 1):=⟨List.Perm.refl _,fun _ _=>rfl,fun p q x y h1 h2 h3=>by omega⟩
theorem Ins.enter (h : Ins pf l L a b i) : Ins2 pf l L a b i i:=⟨h.perm,h.frame,fun p q x y h1 h2 h3 h4=>h.asc p q x y h1 h2 (by omega)⟩
theorem Ins2.step (h : Ins2 pf l L a b i j) (hA : ∀ x ∈ l,∀ y ∈ l,pf x y < 0 → ¬ pf y x < 0) (haj : a < j) (hji : j ≤ i) (hib : i < b) {x y : α} (hx : L[j]? = some x) (hy : L[j - 1]? = some y) (hlt : pf x y < 0) :
  Ins2 pf l ((L.set j y).set (j - 1) x) a b i (j - 1):=by
 have hjl : j < L.length:=(List.getElem?_eq_some_iff.1 hx).1
 have get : ∀ p,((L.set j y).set (j - 1) x)[p]? = if p = j - 1 then some x else if p = j then some y else L[p]? :=fun p=>by
  rw [List.getElem?_set]
  by_cases h1 : j - 1 = p
  ·subst h1; rw [if_pos rfl,if_pos (by simp; omega),if_pos rfl]
  ·rw [if_neg h1,if_neg (Ne.symm h1),List.getElem?_set]
   by_cases h2 : j = p
   ·subst h2; rw [if_pos rfl,if_pos hjl,if_pos rfl]
   ·rw [if_neg h2,if_neg (Ne.symm h2)]
 refine ⟨(ZhK (by omega) hx hy).trans h.perm,fun p hp=>?_,fun p q u v h1 h2 h3 h4 hu hv=>?_⟩
 ·rw [get,if_neg (by omega),if_neg (by omega)]; exact h.frame p hp
 ·rw [get] at hu hv
  rw [if_neg (by omega)] at hv
  by_cases hq : q = j
  ·subst hq
   rw [if_pos rfl] at hv; obtain rfl:=Option.some.inj hv
   by_cases hp : p = q - 1
   ·rw [if_pos hp] at hu; obtain rfl:=Option.some.inj hu
    exact hA _ (h.perm.mem_iff.1 (List.mem_of_getElem? hx)) _ (h.perm.mem_iff.1 (List.mem_of_getElem? hy)) hlt
   ·rw [if_neg hp,if_neg (by omega)] at hu
    exact h.inv p (q - 1) u y h1 (by omega) (by omega) (by omega) hu hy
  ·rw [if_neg hq] at hv
   by_cases hp : p = j - 1
   ·subst hp; rw [if_pos rfl] at hu; obtain rfl:=Option.some.inj hu
    exact h.inv j q x v (by omega) (by omega) h3 hq hx hv
   ·rw [if_neg hp] at hu
    by_cases hp2 : p = j
    ·subst hp2; rw [if_pos rfl] at hu; obtain rfl:=Option.some.inj hu
     exact h.inv (p - 1) q y v (by omega) (by omega) h3 hq hy hv
    ·rw [if_neg hp2] at hu
     exact h.inv p q u v h1 h2 h3 hq hu hv
theorem Ins2.first (h : Ins2 pf l L a b i j) (hj : j ≤ a) : Ins pf l L a b (i + 1):=
 ⟨h.perm,h.frame,fun p q x y h1 h2 h3=>h.inv p q x y h1 h2 (by omega) (by omega)⟩
theorem Ins.zero {n : Nat} : Ins pf l l 0 n 0:=⟨List.Perm.refl _,fun _ _=>rfl,fun p q x y h1 h2 h3=>by omega⟩
end
end Go.Civ
