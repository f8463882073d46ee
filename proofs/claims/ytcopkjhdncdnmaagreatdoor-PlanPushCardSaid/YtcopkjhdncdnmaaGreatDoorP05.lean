/- Lemmas. -/
import Derived.Test.YtcopkjhdncdnmaaGreatDoorP04
set_option linter.unusedSimpArgs false
namespace Go.Civ
open Go.RowKit
set_option linter.unusedVariables false
def Cmp.p : Cmp → Int → Int → Prop
 | .eql,a,b=>a = b | .neq,a,b=>a ≠ b | .lss,a,b=>a < b | .leq,a,b=>a ≤ b | .gtr,a,b=>b < a | .geq,a,b=>b ≤ a
def Cmp.np : Cmp → Int → Int → Prop
 | .eql,a,b=>a ≠ b | .neq,a,b=>a = b | .lss,a,b=>b ≤ a | .leq,a,b=>b < a | .gtr,a,b=>a ≤ b | .geq,a,b=>a < b
theorem Cmp.yes (c : Cmp) (a b : Int) (h : c.b a b = true) : c.p a b:=by cases c <;> simpa [Cmp.b,Cmp.p] using h
theorem Cmp.no (c : Cmp) (a b : Int) (h : c.b a b = false) : c.np a b:=by cases c <;> simpa [Cmp.b,Cmp.np] using h
section
variable {P : Program} {N : Nat} {Q : Exit → Env → World → Prop} {ρ : Env} {w : World} {ops : Array Oper} {rest : List Oper} {K : Env → World → Prop}
variable {d : Nat} {ty : TypeId} {pos : String} {af : Array Edge} {g : Option (Nat × Bool)}
variable {w0 : World} {X : List Nat} {G0 G : GH} {L : Own}
theorem WL.cmpS {t ty' : TypeId} {x y : Operand} (c : Cmp) {op : BinOp} (hop : op = c.op) (k : IntKind) (a b : Int)
  (hw : Region.wanted ⟨some d, .binOp op t x y ty',ty,pos,af,g⟩ (ZI ops ρ) = true) (hx : ev ρ x = .int k a) (hy : ev ρ y = .int k b)
  (kT : c.p a b → K (Yq ρ d (.bool true)) w) (kF : c.np a b → K (Yq ρ d (.bool false)) w) : OW P ops ⟨some d, .binOp op t x y ty',ty,pos,af,g⟩ ρ w K:=
 YK c hop k a b hw hx hy (WL.split (fun h=>kT (c.yes a b h)) (fun h=>kF (c.no a b h)))
theorem ZC {t ty' : TypeId} {x y : Operand} (n : Nat) (hn : n ≤ 4 * reach)
  (hw : Region.wanted ⟨some d, .binOp .add t x y ty',ty,pos,af,g⟩ (ZI ops ρ) = true) (hx : ev ρ x = .int .i64 (n : Int)) (hy : ev ρ y = .int .i64 1)
  (kk : K (Yq ρ d (.int .i64 ((n + 1 : Nat) : Int))) w) : OW P ops ⟨some d, .binOp .add t x y ty',ty,pos,af,g⟩ ρ w K:=by
 refine WL.ar .add rfl n 1 hw hx hy ⟨?_,?_⟩ kk
 ·simp only [Ar.f]; omega
 ·simp only [Ar.f,reach] at *; omega
theorem ZeL {t ty' : TypeId} {x y : Operand} (n : Nat) (h1 : 1 ≤ n) (hn : n ≤ reach)
  (hw : Region.wanted ⟨some d, .binOp .sub t x y ty',ty,pos,af,g⟩ (ZI ops ρ) = true) (hx : ev ρ x = .int .i64 (n : Int)) (hy : ev ρ y = .int .i64 1)
  (kk : K (Yq ρ d (.int .i64 ((n - 1 : Nat) : Int))) w) : OW P ops ⟨some d, .binOp .sub t x y ty',ty,pos,af,g⟩ ρ w K:=by
 have e : ((n - 1 : Nat) : Int) = (n : Int) - 1:=by omega
 rw [e] at kk
 refine WL.ar .sub rfl n 1 hw hx hy ⟨?_,?_⟩ kk
 ·simp only [Ar.f]; omega
 ·simp only [Ar.f,reach] at *; omega
theorem St.shutB {b : Nat} {e : TypeId} {cs : List Value} (h : St w0 X G0 G (some (b,e,cs) :: L) w) (hb : w0.heap.size ≤ b) : ∃ G',G.le G' ∧ YC G' ⟨b,0,none⟩ cs ∧ St w0 X G0 G' L w:=by
 have f:=h.freeze 0 (b:=b) (e:=e) (cs:=cs) rfl hb
 have hG : G b = none:=(h.sep 0 _ rfl).2
 exact ⟨_,G.add_le _ hG,⟨rfl,_,_,_,GH.add_at _ _ _,fun j v hv=>by simpa using hv⟩,f.tail⟩
theorem Zc {t : TypeId} {x : Operand} {p : Addr} {cs : List Value} {ti : TI} (hS : St w0 X G0 G L w) (hc : YC G p cs) (vs : List Value) (ht : Y3 P t = some ti) (ha : ti.agg = true) (hv : cs.take ti.size = vs) (hn : vs.length = ti.size)
  (hw : Region.wanted ⟨some d, .load t x,ty,pos,af,g⟩ (ZI ops ρ) = true) (hx : ev ρ x = .pointer (some p))
  (k : K (Yq ρ d (.agg vs.toArray)) w) : OW P ops ⟨some d, .load t x,ty,pos,af,g⟩ ρ w K:=by
 subst hv
 refine WL.loadA ht ha (fun j v h=>hc.cell hS.imm ?_) hn hw hx k
 rw [List.getElem?_take] at h
 split at h
 ·exact h
 ·cases h
theorem ZiH (op : BinOp) (t : TypeId) (x y : Operand) (a b : List UInt8) : (eqGuard op t x y (Zb a) (Zb b)).run P w = .ok () w:=by
 unfold eqGuard Zb; split <;> simp
inductive SCmp where | eql | neq | lss | leq | gtr | geq
def SCmp.op : SCmp → BinOp | .eql=> .eql | .neq=> .neq | .lss=> .lss | .leq=> .leq | .gtr=> .gtr | .geq=> .geq
def SCmp.b : SCmp → List UInt8 → List UInt8 → Bool
 | .eql,a,b=>decide (a = b) | .neq,a,b=>decide (a ≠ b) | .lss,a,b=>Op.bytesLess a b | .leq,a,b=>Op.bytesLess a b || decide (a = b) | .gtr,a,b=>!(Op.bytesLess a b || decide (a = b)) | .geq,a,b=>!Op.bytesLess a b
theorem Zn {t ty' : TypeId} {x y : Operand} (c : SCmp) {op : BinOp} (hop : op = c.op) (a b : List UInt8)
  (hw : Region.wanted ⟨some d, .binOp op t x y ty',ty,pos,af,g⟩ (ZI ops ρ) = true) (hx : ev ρ x = Zb a) (hy : ev ρ y = Zb b)
  (kk : K (Yq ρ d (.bool (c.b a b))) w) : OW P ops ⟨some d, .binOp op t x y ty',ty,pos,af,g⟩ ρ w K:=by
 subst hop
 refine WL.val hw ?_ rfl kk
 have e : (a == b) = decide (a = b):=by rw [Bool.eq_iff_iff]; simp
 have e' : (!(a == b)) = decide (a ≠ b):=by rw [e]; simp
 have : (binOp c.op t (Zb a) (Zb b)).run P w = .ok (.bool (c.b a b)) w:=by
  cases c <;> simp [binOp,SCmp.op,SCmp.b,Zb,Op.stringOp,ByteArray.toList_mk,e]
 simp [execOp,hx,hy,ZiH,this,Result.andThen]
structure RowAt (o : Option (Nat × TypeId × List Value)) (k n : Nat) (p : Addr) (ec : List Value) : Prop where
 ex : ∃ b e cs,o = some (b,e,cs) ∧ p = ⟨b,n * k,none⟩ ∧ ∀ j u,ec[j]? = some u → cs[n * k + j]? = some u
theorem YH.at {α : Type} {E : Enc α} {by_ : Nat} {e : TypeId} {v : Value} {l : List α} {o : Option (Nat × TypeId × List Value)} (h : YH E by_ e G v l o) (n : Nat) (hn : n < l.length) :
  ∃ b cs cap ec,o = some (b,e,cs) ∧ v = .slice (some ⟨b,0,none⟩) l.length cap ∧ E.rep G l[n] ec ∧ RowAt o E.n n ⟨b,n * E.n,none⟩ ec:=by
 rcases h with ⟨_,_,rfl⟩ | ⟨b,cs,cap,xs,rfl,rfl,h3,h4,h5,h6,h7,_⟩
 ·simp at hn
 ·obtain ⟨c,k1,k2⟩:=h6.at n l[n] (List.getElem?_eq_getElem hn)
  refine ⟨b,cs,cap,c,rfl,rfl,k1,⟨b,e,cs,rfl,rfl,fun j u hu=>?_⟩⟩
  have:=k2 j u hu
  rw [← h7,List.getElem?_take] at this
  split at this
  ·exact this
  ·cases this
theorem ZdU {α : Type} {E : Enc α} {by_ : Nat} {e' : TypeId} {t e : TypeId} {x ix : Operand} {v : Value} {l : List α} {o : Option (Nat × TypeId × List Value)} {ti : TI} (hr : YH E by_ e' G v l o) (n : Nat) (hlt : n < l.length) (hu : P.underlying t = some (.slice e)) (ht : Y3 P e = some ti) (hE : ti.size = E.n)
  (hw : Region.wanted ⟨some d, .indexAddr t x ix,ty,pos,af,g⟩ (ZI ops ρ) = true) (hx : ev ρ x = v) (hi : ev ρ ix = .int .i64 (n : Int))
  (k : ∀ p y ec,l[n]? = some y → E.rep G y ec → RowAt o E.n n p ec → K (Yq ρ d (.pointer (some p))) w) : OW P ops ⟨some d, .indexAddr t x ix,ty,pos,af,g⟩ ρ w K:=by
 obtain ⟨b,cs,cap,ec,rfl,rfl,h1,h2⟩:=hr.at n hlt
 refine ZiF b l.length cap n hlt hu ht hw hx hi ?_
 rw [hE]
 exact k _ l[n] ec (List.getElem?_eq_getElem hlt) h1 h2
theorem RowAt.cell {o : Option (Nat × TypeId × List Value)} {k n : Nat} {p : Addr} {ec : List Value} (h : RowAt o k n p ec) (hS : St w0 X G0 G L w) (i : Nat) (hi : L[i]? = some o) {j : Nat} {u : Value} (hu : ec[j]? = some u) : w.cell? (p.add j) = some u:=by
 obtain ⟨b,e,cs,rfl,rfl,h3⟩:=h.ex
 rw [X1 _ _ rfl]
 exact hS.cell i hi (h3 j u hu)
theorem ZmG {t : TypeId} {x : Operand} {o : Option (Nat × TypeId × List Value)} {kk n : Nat} {p : Addr} {ec : List Value} {ti : TI} (h : RowAt o kk n p ec) (hS : St w0 X G0 G L w) (i : Nat) (hi : L[i]? = some o) (ht : Y3 P t = some ti) (ha : ti.agg = true) (hn : ec.length = ti.size)
  (hw : Region.wanted ⟨some d, .load t x,ty,pos,af,g⟩ (ZI ops ρ) = true) (hx : ev ρ x = .pointer (some p))
  (k : K (Yq ρ d (.agg ec.toArray)) w) : OW P ops ⟨some d, .load t x,ty,pos,af,g⟩ ρ w K:=
 WL.loadA ht ha (fun j v hv=>h.cell hS i hi hv) hn hw hx k
theorem ZmH (A e D us : List Value) (j : Nat) (hj : j + us.length ≤ e.length) : XB (A ++ (e ++ D)) (A.length + j) us = A ++ (XB e j us ++ D):=by
 unfold XB
 rw [List.take_length_add_append,Nat.add_assoc,List.drop_length_add_append,List.take_append_of_le_length (by omega),List.drop_append_of_le_length hj]
 simp [List.append_assoc]
theorem ZlH (A e D us : List Value) (j m : Nat) (hj : j + us.length ≤ e.length) (hm : A.length + e.length ≤ m) :
  (XB (A ++ (e ++ D)) (A.length + j) us).take m = XB ((A ++ (e ++ D)).take m) A.length (XB e j us):=by
 have hlen : (XB e j us).length = e.length:=by unfold XB; simp; omega
 obtain ⟨k,rfl⟩ : ∃ k,m = A.length + (e.length + k):=⟨m - A.length - e.length,by omega⟩
 rw [ZmH A e D us j hj]
 have h1 : (A ++ (XB e j us ++ D)).take (A.length + (e.length + k)) = A ++ (XB e j us ++ D.take k):=by
  rw [List.take_length_add_append,← hlen,List.take_length_add_append]
 have h2 : (A ++ (e ++ D)).take (A.length + (e.length + k)) = A ++ (e ++ D.take k):=by
  rw [List.take_length_add_append,List.take_length_add_append]
 rw [h1,h2]
 unfold XB
 rw [List.take_left,← List.append_assoc A e,show A.length + (List.take j e ++ us ++ List.drop (j + us.length) e).length = (A ++ e).length by have:=hlen; unfold XB at this; rw [this,List.length_append],List.drop_left]
 simp [List.append_assoc]
theorem Ziq {α : Type} {E : Enc α} {by_ : Nat} {e : TypeId} {t : TypeId} {a x : Operand} {v : Value} {l : List α} {o : Option (Nat × TypeId × List Value)} {n : Nat} {p : Addr} {ec : List Value} {ti : TI}
  (hr : YH E by_ e G v l o) (h : RowAt o E.n n p ec) (hS : St w0 X G0 G L w) (i : Nat) (hi : L[i]? = some o) (hlt : n < l.length) (hlen : ec.length = E.n) (j : Nat) (u : Value) (us : List Value) (y : α) (ec' : List Value) (hu : u.cells = us.toArray) (ht : Y3 P t = some ti) (hn : us.length = ti.size) (hfit : j + us.length ≤ ec.length) (h1 : us.all (·.oneCell') = true)
  (hec : XB ec j us = ec') (hy : E.rep G y ec')
  (hw : Region.wanted ⟨none, .store t a x,ty,pos,af,g⟩ (ZI ops ρ) = true) (ha : ev ρ a = .pointer (some (p.add j))) (hx : ev ρ x = u)
  (k : ∀ o' w',YH E by_ e G v (l.set n y) o' → St w0 X G0 G (L.set i o') w' → K ρ w') : OW P ops ⟨none, .store t a x,ty,pos,af,g⟩ ρ w K:=by
 obtain ⟨b,e',cs,rfl,rfl,h3⟩:=h.ex
 rw [X1 _ _ rfl] at ha
 rcases hr with ⟨h0,_⟩ | ⟨b2,cs2,cap,xs,h0,rfl,k3,k4,k5,k6,k7,k8,k9⟩
 ·cases h0
 ·simp only [Option.some.injEq,Prod.mk.injEq] at h0
  obtain ⟨rfl,rfl,rfl⟩:=h0
  have hfitcs : (n + 1) * E.n ≤ cs.length:=by rw [k5]; exact Nat.mul_le_mul_right _ (by omega)
  rw [Nat.add_mul] at hfitcs
  refine WL.store hS i b e' cs (n * E.n + j) u us _ _ hi hu ht hn (by omega) h1 rfl rfl hw ha hx fun w' hS'=>k _ w' (.inr ⟨b,_,cap,_,rfl,by simp,by simpa using k3,k4,?_,k6.set n y ec' hlt hy,?_,by rw [List.length_set]; exact k8,by rw [List.length_set]; exact k9⟩) hS'
  ·simp only [XB,List.length_append,List.length_take,List.length_drop]; omega
  ·
   subst hec
   have hec : ec = (cs.drop (n * E.n)).take E.n:=by
    apply List.ext_getElem?
    intro q
    rcases Nat.lt_or_ge q ec.length with hq | hq
    ·rw [List.getElem?_take,if_pos (by omega),List.getElem?_drop,h3 q _ (List.getElem?_eq_getElem hq),List.getElem?_eq_getElem hq]
    ·rw [List.getElem?_eq_none (by omega),List.getElem?_eq_none (by simp; omega)]
   have hle : (n + 1) * E.n ≤ l.length * E.n:=Nat.mul_le_mul_right _ (by omega)
   rw [Nat.add_mul,Nat.one_mul] at hle
   rw [List.length_set,← k7]
   have hcs : cs = cs.take (n * E.n) ++ (ec ++ cs.drop (n * E.n + E.n)):=by
    rw [hec,← List.drop_drop,List.take_append_drop,List.take_append_drop]
   have hA : (cs.take (n * E.n)).length = n * E.n:=by simp; omega
   have:=ZlH (cs.take (n * E.n)) ec (cs.drop (n * E.n + E.n)) us j (l.length * E.n) hfit (by rw [hA]; omega)
   rw [← hcs,hA] at this
   exact this
end
end Go.Civ
