/- Lemmas. -/
import Derived.Test.YtecneejegecmhaaGreatDoorK04
set_option linter.unusedVariables false
set_option linter.unusedSimpArgs false
set_option linter.unnecessarySimpa false
namespace Go.Civ
open Go.RowKit
set_option linter.unusedVariables false
def Cmp.p : Cmp → Int → Int → Prop
 | .eql,a,b=>a = b | .neq,a,b=>a ≠ b | .lss,a,b=>a < b | .leq,a,b=>a ≤ b | .gtr,a,b=>b < a | .geq,a,b=>b ≤ a
def Cmp.np : Cmp → Int → Int → Prop
 | .eql,a,b=>a ≠ b | .neq,a,b=>a = b | .lss,a,b=>b ≤ a | .leq,a,b=>b < a | .gtr,a,b=>a ≤ b | .geq,a,b=>a < b
theorem Cmp.yes (c : Cmp) (a b : Int) (h : c.b a b = true) : c.p a b:=by cases c <;> simpa [Cmp.b,Cmp.p] using h
theorem Cmp.no (c : Cmp) (a b : Int) (h : c.b a b = false) : c.np a b:=by cases c <;> simpa [Cmp.b,Cmp.np] using h
section
variable {P : Program} {N : Nat} {Q : Exit → Env → World → Prop} {ρ : Env} {w : World} {ops : Array Oper} {rest : List Oper} {K : Env → World → Prop}
variable {d : Nat} {ty : TypeId} {pos : String} {af : Array Edge} {g : Option (Nat × Bool)}
variable {w0 : World} {X : List Nat} {G0 G : GH} {L : Own}
theorem WL.cmpS {t ty' : TypeId} {x y : Operand} (c : Cmp) {op : BinOp} (hop : op = c.op) (k : IntKind) (a b : Int)
  (hw : Region.wanted ⟨some d, .binOp op t x y ty',ty,pos,af,g⟩ (Zu ops ρ) = true) (hx : ev ρ x = .int k a) (hy : ev ρ y = .int k b)
  (kT : c.p a b → K (ZQ ρ d (.bool true)) w) (kF : c.np a b → K (ZQ ρ d (.bool false)) w) : OW P ops ⟨some d, .binOp op t x y ty',ty,pos,af,g⟩ ρ w K:=
 Yd c hop k a b hw hx hy (WL.split (fun h=>kT (c.yes a b h)) (fun h=>kF (c.no a b h)))
theorem Zq {t ty' : TypeId} {x y : Operand} (n : Nat) (hn : n ≤ 4 * reach)
  (hw : Region.wanted ⟨some d, .binOp .add t x y ty',ty,pos,af,g⟩ (Zu ops ρ) = true) (hx : ev ρ x = .int .i64 (n : Int)) (hy : ev ρ y = .int .i64 1)
  (kk : K (ZQ ρ d (.int .i64 ((n + 1 : Nat) : Int))) w) : OW P ops ⟨some d, .binOp .add t x y ty',ty,pos,af,g⟩ ρ w K:=by
 refine WL.ar .add rfl n 1 hw hx hy ⟨?_,?_⟩ kk
 ·simp only [Ar.f]; omega
 ·simp only [Ar.f,reach] at *; omega
theorem XW {t ty' : TypeId} {x y : Operand} (n : Nat) (h1 : 1 ≤ n) (hn : n ≤ reach)
  (hw : Region.wanted ⟨some d, .binOp .sub t x y ty',ty,pos,af,g⟩ (Zu ops ρ) = true) (hx : ev ρ x = .int .i64 (n : Int)) (hy : ev ρ y = .int .i64 1)
  (kk : K (ZQ ρ d (.int .i64 ((n - 1 : Nat) : Int))) w) : OW P ops ⟨some d, .binOp .sub t x y ty',ty,pos,af,g⟩ ρ w K:=by
 have e : ((n - 1 : Nat) : Int) = (n : Int) - 1:=by omega
 rw [e] at kk
 refine WL.ar .sub rfl n 1 hw hx hy ⟨?_,?_⟩ kk
 ·simp only [Ar.f]; omega
 ·simp only [Ar.f,reach] at *; omega
theorem St.shutB {b : Nat} {e : TypeId} {cs : List Value} (h : St w0 X G0 G (some (b,e,cs) :: L) w) (hb : w0.heap.size ≤ b) : ∃ G',G.le G' ∧ Xh G' ⟨b,0,none⟩ cs ∧ St w0 X G0 G' L w:=by
 have f:=h.freeze 0 (b:=b) (e:=e) (cs:=cs) rfl hb
 have hG : G b = none:=(h.sep 0 _ rfl).2
 exact ⟨_,G.add_le _ hG,⟨rfl,_,_,_,GH.add_at _ _ _,fun j v hv=>by simpa using hv⟩,f.tail⟩
theorem Zc {t : TypeId} {x : Operand} {p : Addr} {cs : List Value} {ti : TI} (hS : St w0 X G0 G L w) (hc : Xh G p cs) (vs : List Value) (ht : Yj P t = some ti) (ha : ti.agg = true) (hv : cs.take ti.size = vs) (hn : vs.length = ti.size)
  (hw : Region.wanted ⟨some d, .load t x,ty,pos,af,g⟩ (Zu ops ρ) = true) (hx : ev ρ x = .pointer (some p))
  (k : K (ZQ ρ d (.agg vs.toArray)) w) : OW P ops ⟨some d, .load t x,ty,pos,af,g⟩ ρ w K:=by
 subst hv
 refine WL.loadA ht ha (fun j v h=>hc.cell hS.imm ?_) hn hw hx k
 rw [List.getElem?_take] at h
 split at h
 ·exact h
 ·cases h
theorem Zfx (op : BinOp) (t : TypeId) (x y : Operand) (a b : List UInt8) : (eqGuard op t x y (Za a) (Za b)).run P w = .ok () w:=by
 unfold eqGuard Za; split <;> simp
inductive SCmp where | eql | neq | lss | leq | gtr | geq
def SCmp.op : SCmp → BinOp | .eql=> .eql | .neq=> .neq | .lss=> .lss | .leq=> .leq | .gtr=> .gtr | .geq=> .geq
def SCmp.b : SCmp → List UInt8 → List UInt8 → Bool
 | .eql,a,b=>decide (a = b) | .neq,a,b=>decide (a ≠ b) | .lss,a,b=>Op.bytesLess a b | .leq,a,b=>Op.bytesLess a b || decide (a = b) | .gtr,a,b=>!(Op.bytesLess a b || decide (a = b)) | .geq,a,b=>!Op.bytesLess a b
theorem Zn {t ty' : TypeId} {x y : Operand} (c : SCmp) {op : BinOp} (hop : op = c.op) (a b : List UInt8)
  (hw : Region.wanted ⟨some d, .binOp op t x y ty',ty,pos,af,g⟩ (Zu ops ρ) = true) (hx : ev ρ x = Za a) (hy : ev ρ y = Za b)
  (kk : K (ZQ ρ d (.bool (c.b a b))) w) : OW P ops ⟨some d, .binOp op t x y ty',ty,pos,af,g⟩ ρ w K:=by
 subst hop
 refine WL.val hw ?_ rfl kk
 have e : (a == b) = decide (a = b):=by rw [Bool.eq_iff_iff]; simp
 have e' : (!(a == b)) = decide (a ≠ b):=by rw [e]; simp
 have : (binOp c.op t (Za a) (Za b)).run P w = .ok (.bool (c.b a b)) w:=by
  cases c <;> simp [binOp,SCmp.op,SCmp.b,Za,Op.stringOp,ByteArray.toList_mk,e]
 simp [execOp,hx,hy,Zfx,this,Result.andThen]
structure RowAt (o : Option (Nat × TypeId × List Value)) (k n : Nat) (p : Addr) (ec : List Value) : Prop where
 ex : ∃ b e cs,o = some (b,e,cs) ∧ p = ⟨b,n * k,none⟩ ∧ ∀ j u,ec[j]? = some u → cs[n * k + j]? = some u
theorem YX.at {α : Type} {E : Enc α} {by_ : Nat} {e : TypeId} {v : Value} {l : List α} {o : Option (Nat × TypeId × List Value)} (h : YX E by_ e G v l o) (n : Nat) (hn : n < l.length) :
  ∃ b cs cap ec,o = some (b,e,cs) ∧ v = .slice (some ⟨b,0,none⟩) l.length cap ∧ E.rep G l[n] ec ∧ RowAt o E.n n ⟨b,n * E.n,none⟩ ec:=by
 rcases h with ⟨_,_,rfl⟩ | ⟨b,cs,cap,xs,rfl,rfl,h3,h4,h5,h6,h7,_⟩
 ·simp at hn
 ·obtain ⟨c,k1,k2⟩:=h6.at n l[n] (List.getElem?_eq_getElem hn)
  refine ⟨b,cs,cap,c,rfl,rfl,k1,⟨b,e,cs,rfl,rfl,fun j u hu=>?_⟩⟩
  have:=k2 j u hu
  rw [← h7,List.getElem?_take] at this
  split at this
  ·exact this
  ·cases this
theorem Yh {α : Type} {E : Enc α} {by_ : Nat} {e' : TypeId} {t e : TypeId} {x ix : Operand} {v : Value} {l : List α} {o : Option (Nat × TypeId × List Value)} {ti : TI} (hr : YX E by_ e' G v l o) (n : Nat) (hlt : n < l.length) (hu : P.underlying t = some (.slice e)) (ht : Yj P e = some ti) (hE : ti.size = E.n)
  (hw : Region.wanted ⟨some d, .indexAddr t x ix,ty,pos,af,g⟩ (Zu ops ρ) = true) (hx : ev ρ x = v) (hi : ev ρ ix = .int .i64 (n : Int))
  (k : ∀ p y ec,l[n]? = some y → E.rep G y ec → RowAt o E.n n p ec → K (ZQ ρ d (.pointer (some p))) w) : OW P ops ⟨some d, .indexAddr t x ix,ty,pos,af,g⟩ ρ w K:=by
 obtain ⟨b,cs,cap,ec,rfl,rfl,h1,h2⟩:=hr.at n hlt
 refine Zj2 b l.length cap n hlt hu ht hw hx hi ?_
 rw [hE]
 exact k _ l[n] ec (List.getElem?_eq_getElem hlt) h1 h2
theorem RowAt.cell {o : Option (Nat × TypeId × List Value)} {k n : Nat} {p : Addr} {ec : List Value} (h : RowAt o k n p ec) (hS : St w0 X G0 G L w) (i : Nat) (hi : L[i]? = some o) {j : Nat} {u : Value} (hu : ec[j]? = some u) : w.cell? (p.add j) = some u:=by
 obtain ⟨b,e,cs,rfl,rfl,h3⟩:=h.ex
 rw [YC _ _ rfl]
 exact hS.cell i hi (h3 j u hu)
theorem X4 {t : TypeId} {x : Operand} {o : Option (Nat × TypeId × List Value)} {kk n : Nat} {p : Addr} {ec : List Value} {ti : TI} (h : RowAt o kk n p ec) (hS : St w0 X G0 G L w) (i : Nat) (hi : L[i]? = some o) (u : Value) (hu : ec[0]? = some u) (ht : Yj P t = some ti) (ha : ti.agg = false)
  (hw : Region.wanted ⟨some d, .load t x,ty,pos,af,g⟩ (Zu ops ρ) = true) (hx : ev ρ x = .pointer (some p))
  (k : K (ZQ ρ d u) w) : OW P ops ⟨some d, .load t x,ty,pos,af,g⟩ ρ w K:=
 ZgW ht ha (by have:=h.cell hS i hi hu; rwa [ZiV] at this) hw hx k
theorem Zoy (A e D us : List Value) (j : Nat) (hj : j + us.length ≤ e.length) : XT (A ++ (e ++ D)) (A.length + j) us = A ++ (XT e j us ++ D):=by
 unfold XT
 rw [List.take_length_add_append,Nat.add_assoc,List.drop_length_add_append,List.take_append_of_le_length (by omega),List.drop_append_of_le_length hj]
 simp [List.append_assoc]
theorem Zng (A e D us : List Value) (j m : Nat) (hj : j + us.length ≤ e.length) (hm : A.length + e.length ≤ m) :
  (XT (A ++ (e ++ D)) (A.length + j) us).take m = XT ((A ++ (e ++ D)).take m) A.length (XT e j us):=by
 have hlen : (XT e j us).length = e.length:=by unfold XT; simp; omega
 obtain ⟨k,rfl⟩ : ∃ k,m = A.length + (e.length + k):=⟨m - A.length - e.length,by omega⟩
 rw [Zoy A e D us j hj]
 have h1 : (A ++ (XT e j us ++ D)).take (A.length + (e.length + k)) = A ++ (XT e j us ++ D.take k):=by
  rw [List.take_length_add_append,← hlen,List.take_length_add_append]
 have h2 : (A ++ (e ++ D)).take (A.length + (e.length + k)) = A ++ (e ++ D.take k):=by
  rw [List.take_length_add_append,List.take_length_add_append]
 rw [h1,h2]
 unfold XT
 rw [List.take_left,← List.append_assoc A e,show A.length + (List.take j e ++ us ++ List.drop (j + us.length) e).length = (A ++ e).length by have:=hlen; unfold XT at this; rw [this,List.length_append],List.drop_left]
 simp [List.append_assoc]
theorem Zoz {α : Type} {E : Enc α} {by_ : Nat} {e : TypeId} {t : TypeId} {a x : Operand} {v : Value} {l : List α} {o : Option (Nat × TypeId × List Value)} {n : Nat} {p : Addr} {ec : List Value} {ti : TI}
  (hr : YX E by_ e G v l o) (h : RowAt o E.n n p ec) (hS : St w0 X G0 G L w) (i : Nat) (hi : L[i]? = some o) (hlt : n < l.length) (hlen : ec.length = E.n) (j : Nat) (u : Value) (us : List Value) (y : α) (ec' : List Value) (hu : u.cells = us.toArray) (ht : Yj P t = some ti) (hn : us.length = ti.size) (hfit : j + us.length ≤ ec.length) (h1 : us.all (·.oneCell') = true)
  (hec : XT ec j us = ec') (hy : E.rep G y ec')
  (hw : Region.wanted ⟨none, .store t a x,ty,pos,af,g⟩ (Zu ops ρ) = true) (ha : ev ρ a = .pointer (some (p.add j))) (hx : ev ρ x = u)
  (k : ∀ o' w',YX E by_ e G v (l.set n y) o' → St w0 X G0 G (L.set i o') w' → K ρ w') : OW P ops ⟨none, .store t a x,ty,pos,af,g⟩ ρ w K:=by
 obtain ⟨b,e',cs,rfl,rfl,h3⟩:=h.ex
 rw [YC _ _ rfl] at ha
 rcases hr with ⟨h0,_⟩ | ⟨b2,cs2,cap,xs,h0,rfl,k3,k4,k5,k6,k7,k8,k9⟩
 ·cases h0
 ·simp only [Option.some.injEq,Prod.mk.injEq] at h0
  obtain ⟨rfl,rfl,rfl⟩:=h0
  have hfitcs : (n + 1) * E.n ≤ cs.length:=by rw [k5]; exact Nat.mul_le_mul_right _ (by omega)
  rw [Nat.add_mul] at hfitcs
  refine WL.store hS i b e' cs (n * E.n + j) u us _ _ hi hu ht hn (by omega) h1 rfl rfl hw ha hx fun w' hS'=>k _ w' (.inr ⟨b,_,cap,_,rfl,by simp,by simpa using k3,k4,?_,k6.set n y ec' hlt hy,?_,by rw [List.length_set]; exact k8,by rw [List.length_set]; exact k9⟩) hS'
  ·simp only [XT,List.length_append,List.length_take,List.length_drop]; omega
  ·
   subst hec
   have hec : ec = (cs.drop (n * E.n)).take E.n:=by
    apply List.ext_getElem?
    intro q
    rcases Nat.lt_or_ge q ec.length with hq | hq
    ·rw [List.getElem?_take,if_pos (by omega),List.getElem?_drop,h3 q _ (List.getElem?_eq_getElem hq),List.getElem?_eq_getElem hq]
    ·rw [List.getElem?_eq_none (by omega),List.getElem?_eq_none (by simp; omega)]
   have hle : (n + 1) * E.n ≤ l.length * E.n:=Nat.mul_le_mul_right _ (by omega)
   rw [Nat.add_mul,Nat.one_mul] at hle
   rw [List.length_set,← k7]
   have hcs : cs = cs.take (n * E.n) ++ (ec ++ cs.drop (n * E.n + E.n)):=by
    rw [hec,← List.drop_drop,List.take_append_drop,List.take_append_drop]
   have hA : (cs.take (n * E.n)).length = n * E.n:=by simp; omega
   have:=Zng (cs.take (n * E.n)) ec (cs.drop (n * E.n + E.n)) us j (l.length * E.n) hfit (by rw [hA]; omega)
   rw [← hcs,hA] at this
   exact this
theorem XJ {α : Type} {E : Enc α} {by_ : Nat} {e : TypeId} {t : TypeId} {a x : Operand} {v : Value} {l : List α} {o : Option (Nat × TypeId × List Value)} {n : Nat} {p : Addr} {ec : List Value} {ti : TI}
  (hr : YX E by_ e G v l o) (h : RowAt o E.n n p ec) (hS : St w0 X G0 G L w) (i : Nat) (hi : L[i]? = some o) (hlt : n < l.length) (hlen : ec.length = E.n) (j : Nat) (u : Value) (us : List Value) (y : α) (ec' : List Value) (hu : u.cells = us.toArray) (ht : Yj P t = some ti) (hn : us.length = ti.size) (hfit : j + us.length ≤ ec.length) (h1 : us.all (·.oneCell') = true)
  (hec : XT ec j us = ec') (hy : E.rep G y ec') (hj : j = 0:=by rfl)
  (hw : Region.wanted ⟨none, .store t a x,ty,pos,af,g⟩ (Zu ops ρ) = true) (ha : ev ρ a = .pointer (some p)) (hx : ev ρ x = u)
  (k : ∀ o' w',YX E by_ e G v (l.set n y) o' → St w0 X G0 G (L.set i o') w' → K ρ w') : OW P ops ⟨none, .store t a x,ty,pos,af,g⟩ ρ w K:=by
 subst hj
 refine Zoz hr h hS i hi hlt hlen 0 u us y ec' hu ht hn hfit h1 hec hy hw ?_ hx k
 obtain ⟨b,e',cs,rfl,rfl,h3⟩:=h.ex
 rw [YC _ _ rfl]; simpa using ha
end
end Go.Civ
namespace Go.Civ
structure Span where
 a : Int
 b : Int
deriving DecidableEq
structure Val where
 k : Int
 n : Int
 s : List UInt8
deriving DecidableEq
structure Fact where
 v : List Val
 t : Span
deriving DecidableEq
structure Col where
 name : List UInt8
 kind : Int
deriving DecidableEq
structure Group where
 v : List Val
 t : List Span
deriving DecidableEq
def SpanE : Enc Span:=(Enc.pair .int .int).via fun x=>(x.a,x.b)
def ValE : Enc Val:=(Enc.pair .int (Enc.pair .int .str)).via fun x=>(x.k,x.n,x.s)
def ColE : Enc Col:=(Enc.pair .str .int).via fun x=>(x.name,x.kind)
def PairE : Enc (Int × Int):=Enc.pair .int .int
section
variable {G : GH} {cs : List Value}
theorem QH {x : Span} (h : SpanE.rep G x cs) : cs = [.int .i64 x.a, .int .i64 x.b] ∧ Zj x.a ∧ Zj x.b:=by
 obtain ⟨c1,c2,rfl,⟨rfl,h1⟩,rfl,h2⟩:=h; exact ⟨rfl,h1,h2⟩
theorem QD (x : Span) (h1 : Zj x.a) (h2 : Zj x.b) : SpanE.rep G x [.int .i64 x.a, .int .i64 x.b]:=⟨_,_,rfl,⟨rfl,h1⟩,rfl,h2⟩
theorem XK {x : Int × Int} (h : PairE.rep G x cs) : cs = [.int .i64 x.1, .int .i64 x.2] ∧ Zj x.1 ∧ Zj x.2:=by
 obtain ⟨c1,c2,rfl,⟨rfl,h1⟩,rfl,h2⟩:=h; exact ⟨rfl,h1,h2⟩
theorem ZbO {x : Val} (h : ValE.rep G x cs) : cs = [.int .i64 x.k, .int .i64 x.n,Za x.s] ∧ Zj x.k ∧ Zj x.n ∧ x.s.length ≤ reach:=by
 obtain ⟨c1,c2,rfl,⟨rfl,h1⟩,c3,c4,rfl,⟨rfl,h2⟩,rfl,h3⟩:=h; exact ⟨rfl,h1,h2,h3⟩
theorem XX (x : Val) (h1 : Zj x.k) (h2 : Zj x.n) (h3 : x.s.length ≤ reach) : ValE.rep G x [.int .i64 x.k, .int .i64 x.n,Za x.s]:=⟨_,_,rfl,⟨rfl,h1⟩,_,_,rfl,⟨rfl,h2⟩,rfl,h3⟩
theorem XU {x : Col} (h : ColE.rep G x cs) : cs = [Za x.name, .int .i64 x.kind] ∧ x.name.length ≤ reach ∧ Zj x.kind:=by
 obtain ⟨c1,c2,rfl,⟨rfl,h1⟩,rfl,h2⟩:=h; exact ⟨rfl,h1,h2⟩
end
def Is {α : Type} (E : Enc α) (G : GH) (v : Value) (x : α) : Prop:=∃ cs,v = .agg cs.toArray ∧ E.rep G x cs
end Go.Civ
namespace Go.Civ
open Go.RowKit
set_option linter.unusedVariables false
theorem Yf : Zj 0:=by constructor <;> decide
theorem Ziz {a b : Int} (h : Zj a) (k : Zj b) : Zj (max a b):=by rw [Int.max_def]; split <;> assumption
theorem Zbj {a b : Int} (h : Zj a) (k : Zj b) : Zj (min a b):=by rw [Int.min_def]; split <;> assumption
theorem Cmp.dec (c : Cmp) (a b : Int) : (c.b a b = true ∧ c.p a b) ∨ (c.b a b = false ∧ c.np a b):=by
 cases h : c.b a b
 ·exact .inr ⟨rfl,c.no a b h⟩
 ·exact .inl ⟨rfl,c.yes a b h⟩
section
variable {α : Type} {E : Enc α} {by_ : Nat} {G : GH} {v : Value} {l l' : List α}
theorem Sl.cells1 (h : Sl E by_ G v l) : v.cells = [v].toArray:=by obtain ⟨a,cap,rfl,_⟩:=h; rfl
theorem Sl.cast (h : Sl E by_ G v l) (e : l = l') : Sl E by_ G v l':=e ▸ h
theorem Is.cast {x y : α} (h : Is E G v x) (e : x = y) : Is E G v y:=e ▸ h
theorem YX.cast {e : TypeId} {o : Option (Nat × TypeId × List Value)} (h : YX E by_ e G v l o) (k : l = l') : YX E by_ e G v l' o:=k ▸ h
end
section
variable {w0 w : World} {X : List Nat} {G0 G G' : GH} {L : Own}
theorem St.pad (h : St w0 X G0 G L w) : St w0 X G0 G (none :: L) w:=by
 have look : ∀ (j : Nat) p,(none :: L)[j]? = some (some p) → ∃ k,j = k + 1 ∧ L[k]? = some (some p):=fun j p hp=>by
  cases j with
  | zero=>simp at hp
  | succ k=>exact ⟨k,rfl,by simpa using hp⟩
 refine ⟨h.kept,h.le,h.new,h.imm,fun j p hp=>?_,fun j p hp=>?_,fun j k p q hp hq he=>?_⟩
 ·obtain ⟨k,_,hk⟩:=look j p hp; exact h.own k p hk
 ·obtain ⟨k,_,hk⟩:=look j p hp; exact h.sep k p hk
 ·obtain ⟨a,rfl,ha⟩:=look j p hp
  obtain ⟨b,rfl,hb⟩:=look k q hq
  exact congrArg (· + 1) (h.nd a b p q ha hb he)
theorem St.down (h : St w0 X G0 G' L w) (h1 : G0.le G) (h2 : G.le G') : St w0 X G0 G L w:=by
 have sub : ∀ b o,G b = some o → G' b = some o:=h2
 refine ⟨h.kept,h1,fun b hb=>?_,fun b o hb=>h.imm b o (sub b o hb),h.own,fun i p hp=>⟨(h.sep i p hp).1,?_⟩,h.nd⟩
 ·cases e : G b with
  | none=>
   cases e0 : G0 b with
   | none=>rfl
   | some o=>rw [h1 b o e0] at e; cases e
  | some o=>rw [← h.new b hb]; exact (sub b o e).symm
 ·cases e : G p.1 with
  | none=>rfl
  | some o=>have:=sub _ _ e; rw [(h.sep i p hp).2] at this; cases this
theorem Qx.rows {α : Type} {E : Enc α} {G : GH} {l : List α} {xs : List Value} (h : Qx E G l xs) {p : Addr} (hc : Xh G p xs) : ∀ i x,l[i]? = some x → ZeD E G (p.add (i * E.n)) x:=by
 intro i x hx
 obtain ⟨c,h1,h2⟩:=h.at i x hx
 refine ⟨c,?_,h1⟩
 obtain ⟨hs,cc,e,fz,k1,k2⟩:=hc
 rw [YC _ _ hs]
 refine ⟨rfl,cc,e,fz,k1,fun j v hv=>?_⟩
 have:=k2 _ _ (h2 j v hv)
 rwa [← Nat.add_assoc] at this
theorem YX.freeze {α : Type} {E : Enc α} {by_ : Nat} {e : TypeId} {v : Value} {l : List α} {o : Option (Nat × TypeId × List Value)} (h : YX E by_ e G v l o) (hS : St w0 [] G0 G L w) (i : Nat) (hi : L[i]? = some o) :
  ∃ G',G.le G' ∧ Sl E by_ G' v l ∧ St w0 [] G0 G' (L.set i none) w:=by
 rcases h with ⟨rfl,rfl,rfl⟩ | ⟨b,cs,cap,xs,rfl,rfl,h3,h4,h5,h6,h7,h8,h9⟩
 ·exact ⟨G,G.le_refl,Sl.nil _ _ _,hS.drop i⟩
 ·have hb:=hS.mine hi
  have f:=hS.freeze i hi hb
  have hG : G b = none:=(hS.sep i _ hi).2
  have hle:=G.add_le (.cells cs.toArray e) hG
  refine ⟨_,hle,⟨some ⟨b,0,none⟩,cap,rfl,h3,h8,h9,fun j x hx=>⟨_,rfl,rfl,?_⟩⟩,f⟩
  refine (h6.mono hle).rows (p:=⟨b,0,none⟩) ⟨rfl,_,_,_,GH.add_at _ _ _,fun q u hu=>?_⟩ j x hx
  rw [← h7,List.getElem?_take] at hu
  split at hu
  ·simpa using hu
  ·cases hu
theorem St.sealSl {α : Type} {E : Enc α} {by_ : Nat} {l : List α} {b : Nat} {e : TypeId} {cs : List Value} (h : St w0 X G0 G (some (b,e,cs) :: L) w) (hb : w0.heap.size ≤ b) (hf : Qx E G l cs) {n : Nat} (hn : n = l.length) (hby : n * by_ ≤ reach) (hlen : n ≤ reach) :
  ∃ G',G.le G' ∧ Sl E by_ G' (.slice (some ⟨b,0,none⟩) n n) l ∧ St w0 X G0 G' L w:=by
 obtain ⟨G',h1,h2,h3⟩:=h.shutB hb
 subst hn
 refine ⟨G',h1,⟨some ⟨b,0,none⟩,l.length,rfl,Nat.le_refl _,hby,hlen,fun i x hx=>⟨_,rfl,rfl,?_⟩⟩,h3⟩
 exact (hf.mono h1).rows h2 i x hx
theorem YX.empty {α : Type} (E : Enc α) (by_ : Nat) (e : TypeId) (G : GH) (b : Nat) : YX E by_ e G (.slice (some ⟨b,0,none⟩) 0 0) [] (some (b,e,[])):=
 .inr ⟨b,[],0,[],rfl,rfl,Nat.le_refl _,by simp [maxLen],by simp,rfl,by simp,by simp [reach],by simp [reach]⟩
end
section
variable {P : Program} {N : Nat} {Q : Exit → Env → World → Prop} {ρ : Env} {w : World} {ops : Array Oper} {rest : List Oper} {K : Env → World → Prop}
variable {d : Nat} {ty : TypeId} {pos : String} {af : Array Edge} {g : Option (Nat × Bool)}
variable {w0 : World} {X : List Nat} {G0 G : GH} {L : Own}
structure ElPtr {α : Type} (E : Enc α) (v : Value) (n : Nat) (p : Addr) : Prop where
 ex : ∃ a len cap,v = .slice (some a) len cap ∧ n < len ∧ p = a.add (n * E.n)
theorem Sl.at {α : Type} {E : Enc α} {by_ : Nat} {v : Value} {l : List α} (h : Sl E by_ G v l) (n : Nat) (hlt : n < l.length) : ∃ p x,l[n]? = some x ∧ ZeD E G p x ∧ ElPtr E v n p:=by
 obtain ⟨a,cap,rfl,h1,h2,h3,h4⟩:=h
 obtain ⟨p,rfl,hp,hel⟩:=h4 n l[n] (List.getElem?_eq_getElem hlt)
 exact ⟨_,l[n],List.getElem?_eq_getElem hlt,hel,⟨p,_,cap,rfl,hlt,rfl⟩⟩
theorem Zy {α : Type} {E : Enc α} {t e : TypeId} {x ix : Operand} {v : Value} {p : Addr} {ti : TI} (n : Nat) (h : ElPtr E v n p) (hu : P.underlying t = some (.slice e)) (ht : Yj P e = some ti) (hE : ti.size = E.n)
  (hw : Region.wanted ⟨some d, .indexAddr t x ix,ty,pos,af,g⟩ (Zu ops ρ) = true) (hx : ev ρ x = v) (hi : ev ρ ix = .int .i64 (n : Int))
  (k : K (ZQ ρ d (.pointer (some p))) w) : OW P ops ⟨some d, .indexAddr t x ix,ty,pos,af,g⟩ ρ w K:=by
 obtain ⟨a,len,cap,rfl,hlt,rfl⟩:=h.ex
 refine WL.val hw ?_ rfl k
 simp [execOp,Instr.indexAt,hi,hx,asIntOf,Yt hu,Xt ht,hE,Result.andThen]
 rw [if_pos (by omega)]
theorem YX.atP {α : Type} {E : Enc α} {by_ : Nat} {e : TypeId} {v : Value} {l : List α} {o : Option (Nat × TypeId × List Value)} (h : YX E by_ e G v l o) (n : Nat) (hn : n < l.length) :
  ∃ p x ec,l[n]? = some x ∧ E.rep G x ec ∧ RowAt o E.n n p ec ∧ ElPtr E v n p:=by
 obtain ⟨b,cs,cap,ec,rfl,rfl,h1,h2⟩:=h.at n hn
 exact ⟨_,l[n],ec,List.getElem?_eq_getElem hn,h1,h2,⟨⟨b,0,none⟩,_,cap,rfl,hn,by rw [YC _ _ rfl]; simp⟩⟩
theorem WL.cmpV {t ty' : TypeId} {x y : Operand} (c : Cmp) {op : BinOp} (hop : op = c.op) (k : IntKind) (a b : Int) (r : Bool) (hr : c.b a b = r)
  (hw : Region.wanted ⟨some d, .binOp op t x y ty',ty,pos,af,g⟩ (Zu ops ρ) = true) (hx : ev ρ x = .int k a) (hy : ev ρ y = .int k b)
  (kk : K (ZQ ρ d (.bool r)) w) : OW P ops ⟨some d, .binOp op t x y ty',ty,pos,af,g⟩ ρ w K:=by
 subst hr; exact Yd c hop k a b hw hx hy kk
theorem Xn {t ty' : TypeId} {x y : Operand} (c : SCmp) {op : BinOp} (hop : op = c.op) (a b : List UInt8) (r : Bool) (hr : c.b a b = r)
  (hw : Region.wanted ⟨some d, .binOp op t x y ty',ty,pos,af,g⟩ (Zu ops ρ) = true) (hx : ev ρ x = Za a) (hy : ev ρ y = Za b)
  (kk : K (ZQ ρ d (.bool r)) w) : OW P ops ⟨some d, .binOp op t x y ty',ty,pos,af,g⟩ ρ w K:=by
 subst hr; exact Zn c hop a b hw hx hy kk
theorem nu {d : Nat} {v : Value} {ρH : Env} {R : World → Prop} (h : ρH d = v) (hR : R w) : ZQ ρH d v = ρH ∧ R w:=⟨ZaW h,hR⟩
theorem ZB {f : Nat} {x : Operand} {args : List Operand} {ts : Array TypeId} {vs : List Value} {cap : Array Value} {u : Value} (hS : St w0 X G0 G L w) (hf : Zi P f)
  (hw : Region.wanted ⟨some d, .call ⟨.value x,args.toArray,ts⟩,ty,pos,af,g⟩ (Zu ops ρ) = true) (hx : ev ρ x = .func (.func f) #[] cap) (ha : args.map (ev ρ) ++ cap.toList = vs)
  (hc : CL P f vs.toArray [] w G fun _ _ r=>r = u) (hv : ρ d = u) :
  OW P ops ⟨some d, .call ⟨.value x,args.toArray,ts⟩,ty,pos,af,g⟩ ρ w (fun ρ' w'=>ρ' = ρ ∧ St w0 X G0 G L w'):=by
 refine X3 vs cap hf hw hx ha (hc.mono ?_)
 rintro e w9 ⟨r9,G9,rfl,hres9,rfl⟩
 exact ⟨_,rfl,ZaW hv,(hS.call hres9).down hS.le hres9.le⟩
theorem Zja {f : Nat} {x : Operand} {args : List Operand} {ts : Array TypeId} {vs : List Value} {cap : Array Value} {u : Value} {B : GH → World → Value → Prop} (hS : St w0 X G0 G L w) (hf : Zi P f)
  (hw : Region.wanted ⟨some d, .call ⟨.value x,args.toArray,ts⟩,ty,pos,af,g⟩ (Zu ops ρ) = true) (hx : ev ρ x = .func (.func f) #[] cap) (ha : args.map (ev ρ) ++ cap.toList = vs)
  (hc : CL P f vs.toArray [] w G B) (hB : ∀ G w r,B G w r → r = u) (hv : ρ d = u) :
  OW P ops ⟨some d, .call ⟨.value x,args.toArray,ts⟩,ty,pos,af,g⟩ ρ w (fun ρ' w'=>ρ' = ρ ∧ St w0 X G0 G L w'):=by
 refine X3 vs cap hf hw hx ha (hc.mono ?_)
 rintro e w9 ⟨r9,G9,rfl,hres9,hb⟩
 exact ⟨_,rfl,ZaW (hv.trans (hB _ _ _ hb).symm),(hS.call hres9).down hS.le hres9.le⟩
section
variable {t ty' : TypeId} {x y : Operand} {k : IntKind} (a b : Int)
theorem Ze (hw : Region.wanted ⟨some d, .binOp .eql t x y ty',ty,pos,af,g⟩ (Zu ops ρ) = true) (hx : ev ρ x = .int k a) (hy : ev ρ y = .int k b)
  (kT : a = b → K (ZQ ρ d (.bool true)) w) (kF : a ≠ b → K (ZQ ρ d (.bool false)) w) : OW P ops ⟨some d, .binOp .eql t x y ty',ty,pos,af,g⟩ ρ w K:=WL.cmpS .eql rfl k a b hw hx hy kT kF
theorem Zz (hw : Region.wanted ⟨some d, .binOp .neq t x y ty',ty,pos,af,g⟩ (Zu ops ρ) = true) (hx : ev ρ x = .int k a) (hy : ev ρ y = .int k b)
  (kT : a ≠ b → K (ZQ ρ d (.bool true)) w) (kF : a = b → K (ZQ ρ d (.bool false)) w) : OW P ops ⟨some d, .binOp .neq t x y ty',ty,pos,af,g⟩ ρ w K:=WL.cmpS .neq rfl k a b hw hx hy kT kF
theorem Zp (hw : Region.wanted ⟨some d, .binOp .lss t x y ty',ty,pos,af,g⟩ (Zu ops ρ) = true) (hx : ev ρ x = .int k a) (hy : ev ρ y = .int k b)
  (kT : a < b → K (ZQ ρ d (.bool true)) w) (kF : b ≤ a → K (ZQ ρ d (.bool false)) w) : OW P ops ⟨some d, .binOp .lss t x y ty',ty,pos,af,g⟩ ρ w K:=WL.cmpS .lss rfl k a b hw hx hy kT kF
theorem X2 (hw : Region.wanted ⟨some d, .binOp .leq t x y ty',ty,pos,af,g⟩ (Zu ops ρ) = true) (hx : ev ρ x = .int k a) (hy : ev ρ y = .int k b)
  (kT : a ≤ b → K (ZQ ρ d (.bool true)) w) (kF : b < a → K (ZQ ρ d (.bool false)) w) : OW P ops ⟨some d, .binOp .leq t x y ty',ty,pos,af,g⟩ ρ w K:=WL.cmpS .leq rfl k a b hw hx hy kT kF
theorem Z1 (hw : Region.wanted ⟨some d, .binOp .gtr t x y ty',ty,pos,af,g⟩ (Zu ops ρ) = true) (hx : ev ρ x = .int k a) (hy : ev ρ y = .int k b)
  (kT : b < a → K (ZQ ρ d (.bool true)) w) (kF : a ≤ b → K (ZQ ρ d (.bool false)) w) : OW P ops ⟨some d, .binOp .gtr t x y ty',ty,pos,af,g⟩ ρ w K:=WL.cmpS .gtr rfl k a b hw hx hy kT kF
theorem ZM (hw : Region.wanted ⟨some d, .binOp .geq t x y ty',ty,pos,af,g⟩ (Zu ops ρ) = true) (hx : ev ρ x = .int k a) (hy : ev ρ y = .int k b)
  (kT : b ≤ a → K (ZQ ρ d (.bool true)) w) (kF : a < b → K (ZQ ρ d (.bool false)) w) : OW P ops ⟨some d, .binOp .geq t x y ty',ty,pos,af,g⟩ ρ w K:=WL.cmpS .geq rfl k a b hw hx hy kT kF
end
end
structure FnB (P : Program) {α : Type} (A : GH → Value → α → Prop) (fid : Nat) (cap : Array Value) (G : GH) (on : α → Prop) (pf : α → Bool) : Prop where
 body : Zi P fid
 call : ∀ (G' : GH) (w' : World) (v : Value) (x : α),G.le G' → G'.In w' → on x → A G' v x →
  Calls P fid ([v] ++ cap.toList).toArray w' fun e w''=>∃ r G'',e = .returned r ∧ Res [] w' G' w'' G'' ∧ r = .bool (pf x)
structure FnB2 (P : Program) {α β : Type} (A : GH → Value → α → Prop) (B : GH → Value → β → Prop) (fid : Nat) (cap : Array Value) (G : GH) (on : α → β → Prop) (pf : α → β → Bool) : Prop where
 body : Zi P fid
 call : ∀ (G' : GH) (w' : World) (v u : Value) (x : α) (y : β),G.le G' → G'.In w' → on x y → A G' v x → B G' u y →
  Calls P fid ([v,u] ++ cap.toList).toArray w' fun e w''=>∃ r G'',e = .returned r ∧ Res [] w' G' w'' G'' ∧ r = .bool (pf x y)
structure FnI2 (P : Program) {α β : Type} (A : GH → Value → α → Prop) (B : GH → Value → β → Prop) (fid : Nat) (cap : Array Value) (G : GH) (on : α → β → Prop) (pf : α → β → Int) : Prop where
 body : Zi P fid
 call : ∀ (G' : GH) (w' : World) (v u : Value) (x : α) (y : β),G.le G' → G'.In w' → on x y → A G' v x → B G' u y →
  Calls P fid ([v,u] ++ cap.toList).toArray w' fun e w''=>∃ r G'',e = .returned r ∧ Res [] w' G' w'' G'' ∧ r = .int .i64 (pf x y)
theorem FnB.up {P : Program} {α : Type} {A : GH → Value → α → Prop} {fid : Nat} {cap : Array Value} {G G' : GH} {on : α → Prop} {pf : α → Bool} (h : FnB P A fid cap G on pf) (k : G.le G') : FnB P A fid cap G' on pf:=
 ⟨h.body,fun G2 w' v x hle=>h.call G2 w' v x (k.trans hle)⟩
def Zvd (_ : GH) (v : Value) (x : Int) : Prop:=v = .int .i64 x ∧ Zj x
def Qi {α : Type} (p : α → Bool) (l : List α) : Int:=match l.findIdx? p with | some i=>(i : Int) | none=>-1
theorem Zo0 {α : Type} {p : α → Bool} {l : List α} (h : ∀ (j : Nat) x,l[j]? = some x → p x = false) : Qi p l = -1:=by
 unfold Qi
 have : l.findIdx? p = none:=by
  rw [List.findIdx?_eq_none_iff]
  intro x hx
  obtain ⟨j,hj⟩:=List.getElem?_of_mem hx
  exact h j x hj
 rw [this]
theorem ZaY {α : Type} {p : α → Bool} {l : List α} (k : Nat) {x : α} (hk : l[k]? = some x) (hx : p x = true) (h : ∀ j,j < k → ∀ x,l[j]? = some x → p x = false) : Qi p l = (k : Int):=by
 unfold Qi
 have : l.findIdx? p = some k:=by
  rw [List.findIdx?_eq_some_iff_getElem]
  obtain ⟨hlt,he⟩:=List.getElem?_eq_some_iff.1 hk
  refine ⟨hlt,by rw [he]; exact hx,fun j hj=>?_⟩
  have:=h j hj l[j] (List.getElem?_eq_getElem (by omega))
  simp [this]
 rw [this]
theorem Zcu {α : Type} (p : α → Bool) (l : List α) : Cmp.b .geq (Qi p l) 0 = l.any p:=by
 unfold Qi Cmp.b
 cases h : l.findIdx? p with
 | none=>
  rw [List.findIdx?_eq_none_iff] at h
  simp only
  rw [Bool.eq_iff_iff]
  simp only [decide_eq_true_eq,List.any_eq_true]
  constructor
  ·intro h'; omega
  ·rintro ⟨x,hx,hp⟩; rw [h x hx] at hp; cases hp
 | some i=>
  rw [List.findIdx?_eq_some_iff_getElem] at h
  obtain ⟨hlt,hp,_⟩:=h
  simp only
  rw [Bool.eq_iff_iff]
  simp only [decide_eq_true_eq,List.any_eq_true]
  exact ⟨fun _=>⟨l[i],List.getElem_mem hlt,hp⟩,fun _=>by omega⟩
end Go.Civ
