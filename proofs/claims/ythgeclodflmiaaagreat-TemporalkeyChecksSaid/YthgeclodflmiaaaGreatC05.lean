/- Lemmas. -/
import Derived.Test.YthgeclodflmiaaaGreatC02
import Derived.Test.YthgeclodflmiaaaGreatC04
import Derived.Shelf.SlSortCmp.NoneTotal
import Derived.Shelf.Slices.In.SortAlone
import Derived.Shelf.Slices.In.SortNone
import Derived.Ground.SlsfProg
import Derived.Ground.NamesProg
import Derived.Test.YthgeclodflmiaaaGreatProg
namespace Go.Civ
open Go.RowKit
set_option linter.unusedVariables false
def Cmp.p : Cmp → Int → Int → Prop
 | .eql,a,b=>a = b | .neq,a,b=>a ≠ b | .lss,a,b=>a < b | .leq,a,b=>a ≤ b | .gtr,a,b=>b < a | .geq,a,b=>b ≤ a
def Cmp.np : Cmp → Int → Int → Prop
 | .eql,a,b=>a ≠ b | .neq,a,b=>a = b | .lss,a,b=>b ≤ a | .leq,a,b=>b < a | .gtr,a,b=>a ≤ b | .geq,a,b=>a < b
theorem Cmp.yes (c : Cmp) (a b : Int) (h : c.b a b = true) : c.p a b:=by cases c <;> simpa [Cmp.b,Cmp.p] using h
theorem Cmp.no (c : Cmp) (a b : Int) (h : c.b a b = false) : c.np a b:=by cases c <;> simpa [Cmp.b,Cmp.np] using h
section
variable {P : Program} {N : Nat} {Q : Exit → Env → World → Prop} {ρ : Env} {w : World} {ops : Array Oper} {rest : List Oper} {K : Env → World → Prop}
variable {d : Nat} {ty : TypeId} {pos : String} {af : Array Edge} {g : Option (Nat × Bool)}
variable {w0 : World} {X : List Nat} {G0 G : GH} {L : Own}
theorem WL.cmpS {t ty' : TypeId} {x y : Operand} (c : Cmp) {op : BinOp} (hop : op = c.op) (k : IntKind) (a b : Int)
  (hw : Region.wanted ⟨some d, .binOp op t x y ty',ty,pos,af,g⟩ (Zo ops ρ) = true) (hx : ev ρ x = .int k a) (hy : ev ρ y = .int k b)
  (kT : c.p a b → K (ZC ρ d (.bool true)) w) (kF : c.np a b → K (ZC ρ d (.bool false)) w) : OW P ops ⟨some d, .binOp op t x y ty',ty,pos,af,g⟩ ρ w K:=
 Yh c hop k a b hw hx hy (WL.split (fun h=>kT (c.yes a b h)) (fun h=>kF (c.no a b h)))
theorem Zj {t ty' : TypeId} {x y : Operand} (n : Nat) (hn : n ≤ 4 * reach)
  (hw : Region.wanted ⟨some d, .binOp .add t x y ty',ty,pos,af,g⟩ (Zo ops ρ) = true) (hx : ev ρ x = .int .i64 (n : Int)) (hy : ev ρ y = .int .i64 1)
  (kk : K (ZC ρ d (.int .i64 ((n + 1 : Nat) : Int))) w) : OW P ops ⟨some d, .binOp .add t x y ty',ty,pos,af,g⟩ ρ w K:=by
 refine Zcn .add rfl n 1 hw hx hy ⟨?_,?_⟩ kk
 ·simp only [Ar.f]; omega
 ·simp only [Ar.f,reach] at *; omega
theorem Qf {t ty' : TypeId} {x y : Operand} (n : Nat) (h1 : 1 ≤ n) (hn : n ≤ reach)
  (hw : Region.wanted ⟨some d, .binOp .sub t x y ty',ty,pos,af,g⟩ (Zo ops ρ) = true) (hx : ev ρ x = .int .i64 (n : Int)) (hy : ev ρ y = .int .i64 1)
  (kk : K (ZC ρ d (.int .i64 ((n - 1 : Nat) : Int))) w) : OW P ops ⟨some d, .binOp .sub t x y ty',ty,pos,af,g⟩ ρ w K:=by
 have e : ((n - 1 : Nat) : Int) = (n : Int) - 1:=by omega
 rw [e] at kk
 refine Zcn .sub rfl n 1 hw hx hy ⟨?_,?_⟩ kk
 ·simp only [Ar.f]; omega
 ·simp only [Ar.f,reach] at *; omega
theorem St.shutB {b : Nat} {e : TypeId} {cs : List Value} (h : St w0 X G0 G (some (b,e,cs) :: L) w) (hb : w0.heap.size ≤ b) : ∃ G',G.le G' ∧ XL G' ⟨b,0,none⟩ cs ∧ St w0 X G0 G' L w:=by
 have f:=h.freeze 0 (b:=b) (e:=e) (cs:=cs) rfl hb
 have hG : G b = none:=(h.sep 0 _ rfl).2
 exact ⟨_,G.add_le _ hG,⟨rfl,_,_,_,GH.add_at _ _ _,fun j v hv=>by simpa using hv⟩,f.tail⟩
theorem Zd {t : TypeId} {x : Operand} {p : Addr} {cs : List Value} {ti : TI} (hS : St w0 X G0 G L w) (hc : XL G p cs) (vs : List Value) (ht : Yp P t = some ti) (ha : ti.agg = true) (hv : cs.take ti.size = vs) (hn : vs.length = ti.size)
  (hw : Region.wanted ⟨some d, .load t x,ty,pos,af,g⟩ (Zo ops ρ) = true) (hx : ev ρ x = .pointer (some p))
  (k : K (ZC ρ d (.agg vs.toArray)) w) : OW P ops ⟨some d, .load t x,ty,pos,af,g⟩ ρ w K:=by
 subst hv
 refine WL.loadA ht ha (fun j v h=>hc.cell hS.imm ?_) hn hw hx k
 rw [List.getElem?_take] at h
 split at h
 ·exact h
 ·cases h
theorem Zi7 (op : BinOp) (t : TypeId) (x y : Operand) (a b : List UInt8) : (eqGuard op t x y (Zc a) (Zc b)).run P w = .ok () w:=by
 unfold eqGuard Zc; split <;> simp
inductive SCmp where | eql | neq | lss | leq | gtr | geq
def SCmp.op : SCmp → BinOp | .eql=> .eql | .neq=> .neq | .lss=> .lss | .leq=> .leq | .gtr=> .gtr | .geq=> .geq
def SCmp.b : SCmp → List UInt8 → List UInt8 → Bool
 | .eql,a,b=>decide (a = b) | .neq,a,b=>decide (a ≠ b) | .lss,a,b=>Op.bytesLess a b | .leq,a,b=>Op.bytesLess a b || decide (a = b) | .gtr,a,b=>!(Op.bytesLess a b || decide (a = b)) | .geq,a,b=>!Op.bytesLess a b
theorem YX {t ty' : TypeId} {x y : Operand} (c : SCmp) {op : BinOp} (hop : op = c.op) (a b : List UInt8)
  (hw : Region.wanted ⟨some d, .binOp op t x y ty',ty,pos,af,g⟩ (Zo ops ρ) = true) (hx : ev ρ x = Zc a) (hy : ev ρ y = Zc b)
  (kk : K (ZC ρ d (.bool (c.b a b))) w) : OW P ops ⟨some d, .binOp op t x y ty',ty,pos,af,g⟩ ρ w K:=by
 subst hop
 refine WL.val hw ?_ rfl kk
 have e : (a == b) = decide (a = b):=by rw [Bool.eq_iff_iff]; simp
 have e' : (!(a == b)) = decide (a ≠ b):=by rw [e]; simp
 have : (binOp c.op t (Zc a) (Zc b)).run P w = .ok (.bool (c.b a b)) w:=by
  cases c <;> simp [binOp,SCmp.op,SCmp.b,Zc,Op.stringOp,ByteArray.toList_mk,e]
 simp [execOp,hx,hy,Zi7,this,Result.andThen]
structure RowAt (o : Option (Nat × TypeId × List Value)) (k n : Nat) (p : Addr) (ec : List Value) : Prop where
 ex : ∃ b e cs,o = some (b,e,cs) ∧ p = ⟨b,n * k,none⟩ ∧ ∀ j u,ec[j]? = some u → cs[n * k + j]? = some u
theorem Yb.at {α : Type} {E : Enc α} {by_ : Nat} {e : TypeId} {v : Value} {l : List α} {o : Option (Nat × TypeId × List Value)} (h : Yb E by_ e G v l o) (n : Nat) (hn : n < l.length) :
  ∃ b cs cap ec,o = some (b,e,cs) ∧ v = .slice (some ⟨b,0,none⟩) l.length cap ∧ E.rep G l[n] ec ∧ RowAt o E.n n ⟨b,n * E.n,none⟩ ec:=by
 rcases h with ⟨_,_,rfl⟩ | ⟨b,cs,cap,xs,rfl,rfl,h3,h4,h5,h6,h7,_⟩
 ·simp at hn
 ·obtain ⟨c,k1,k2⟩:=h6.at n l[n] (List.getElem?_eq_getElem hn)
  refine ⟨b,cs,cap,c,rfl,rfl,k1,⟨b,e,cs,rfl,rfl,fun j u hu=>?_⟩⟩
  have:=k2 j u hu
  rw [← h7,List.getElem?_take] at this
  split at this
  ·exact this
  ·cases this
theorem Qx {α : Type} {E : Enc α} {by_ : Nat} {e' : TypeId} {t e : TypeId} {x ix : Operand} {v : Value} {l : List α} {o : Option (Nat × TypeId × List Value)} {ti : TI} (hr : Yb E by_ e' G v l o) (n : Nat) (hlt : n < l.length) (hu : P.underlying t = some (.slice e)) (ht : Yp P e = some ti) (hE : ti.size = E.n)
  (hw : Region.wanted ⟨some d, .indexAddr t x ix,ty,pos,af,g⟩ (Zo ops ρ) = true) (hx : ev ρ x = v) (hi : ev ρ ix = .int .i64 (n : Int))
  (k : ∀ p y ec,l[n]? = some y → E.rep G y ec → RowAt o E.n n p ec → K (ZC ρ d (.pointer (some p))) w) : OW P ops ⟨some d, .indexAddr t x ix,ty,pos,af,g⟩ ρ w K:=by
 obtain ⟨b,cs,cap,ec,rfl,rfl,h1,h2⟩:=hr.at n hlt
 refine Zi5 b l.length cap n hlt hu ht hw hx hi ?_
 rw [hE]
 exact k _ l[n] ec (List.getElem?_eq_getElem hlt) h1 h2
theorem RowAt.cell {o : Option (Nat × TypeId × List Value)} {k n : Nat} {p : Addr} {ec : List Value} (h : RowAt o k n p ec) (hS : St w0 X G0 G L w) (i : Nat) (hi : L[i]? = some o) {j : Nat} {u : Value} (hu : ec[j]? = some u) : w.cell? (p.add j) = some u:=by
 obtain ⟨b,e,cs,rfl,rfl,h3⟩:=h.ex
 rw [YG _ _ rfl]
 exact hS.cell i hi (h3 j u hu)
theorem ZbU {t : TypeId} {x : Operand} {o : Option (Nat × TypeId × List Value)} {kk n : Nat} {p : Addr} {ec : List Value} {ti : TI} (h : RowAt o kk n p ec) (hS : St w0 X G0 G L w) (i : Nat) (hi : L[i]? = some o) (j : Nat) (u : Value) (hu : ec[j]? = some u) (ht : Yp P t = some ti) (ha : ti.agg = false)
  (hw : Region.wanted ⟨some d, .load t x,ty,pos,af,g⟩ (Zo ops ρ) = true) (hx : ev ρ x = .pointer (some (p.add j)))
  (k : K (ZC ρ d u) w) : OW P ops ⟨some d, .load t x,ty,pos,af,g⟩ ρ w K:=
 ZdI ht ha (h.cell hS i hi hu) hw hx k
theorem Zgt {t : TypeId} {x : Operand} {o : Option (Nat × TypeId × List Value)} {kk n : Nat} {p : Addr} {ec : List Value} {ti : TI} (h : RowAt o kk n p ec) (hS : St w0 X G0 G L w) (i : Nat) (hi : L[i]? = some o) (u : Value) (hu : ec[0]? = some u) (ht : Yp P t = some ti) (ha : ti.agg = false)
  (hw : Region.wanted ⟨some d, .load t x,ty,pos,af,g⟩ (Zo ops ρ) = true) (hx : ev ρ x = .pointer (some p))
  (k : K (ZC ρ d u) w) : OW P ops ⟨some d, .load t x,ty,pos,af,g⟩ ρ w K:=
 ZdI ht ha (by have:=h.cell hS i hi hu; rwa [ZhF] at this) hw hx k
theorem Ze7 {t : TypeId} {x : Operand} {o : Option (Nat × TypeId × List Value)} {kk n : Nat} {p : Addr} {ec : List Value} {ti : TI} (h : RowAt o kk n p ec) (hS : St w0 X G0 G L w) (i : Nat) (hi : L[i]? = some o) (ht : Yp P t = some ti) (ha : ti.agg = true) (hn : ec.length = ti.size)
  (hw : Region.wanted ⟨some d, .load t x,ty,pos,af,g⟩ (Zo ops ρ) = true) (hx : ev ρ x = .pointer (some p))
  (k : K (ZC ρ d (.agg ec.toArray)) w) : OW P ops ⟨some d, .load t x,ty,pos,af,g⟩ ρ w K:=
 WL.loadA ht ha (fun j v hv=>h.cell hS i hi hv) hn hw hx k
theorem ZmQ (A e D us : List Value) (j : Nat) (hj : j + us.length ≤ e.length) : Xw (A ++ (e ++ D)) (A.length + j) us = A ++ (Xw e j us ++ D):=by
 unfold Xw
 rw [List.take_length_add_append,Nat.add_assoc,List.drop_length_add_append,List.take_append_of_le_length (by omega),List.drop_append_of_le_length hj]
 simp [List.append_assoc]
theorem Zl9 (A e D us : List Value) (j m : Nat) (hj : j + us.length ≤ e.length) (hm : A.length + e.length ≤ m) :
  (Xw (A ++ (e ++ D)) (A.length + j) us).take m = Xw ((A ++ (e ++ D)).take m) A.length (Xw e j us):=by
 have hlen : (Xw e j us).length = e.length:=by unfold Xw; simp; omega
 obtain ⟨k,rfl⟩ : ∃ k,m = A.length + (e.length + k):=⟨m - A.length - e.length,by omega⟩
 rw [ZmQ A e D us j hj]
 have h1 : (A ++ (Xw e j us ++ D)).take (A.length + (e.length + k)) = A ++ (Xw e j us ++ D.take k):=by
  rw [List.take_length_add_append,← hlen,List.take_length_add_append]
 have h2 : (A ++ (e ++ D)).take (A.length + (e.length + k)) = A ++ (e ++ D.take k):=by
  rw [List.take_length_add_append,List.take_length_add_append]
 rw [h1,h2]
 unfold Xw
 rw [List.take_left,← List.append_assoc A e,show A.length + (List.take j e ++ us ++ List.drop (j + us.length) e).length = (A ++ e).length by have:=hlen; unfold Xw at this; rw [this,List.length_append],List.drop_left]
 simp [List.append_assoc]
theorem ZcV {α : Type} {E : Enc α} {by_ : Nat} {e : TypeId} {t : TypeId} {a x : Operand} {v : Value} {l : List α} {o : Option (Nat × TypeId × List Value)} {n : Nat} {p : Addr} {ec : List Value} {ti : TI}
  (hr : Yb E by_ e G v l o) (h : RowAt o E.n n p ec) (hS : St w0 X G0 G L w) (i : Nat) (hi : L[i]? = some o) (hlt : n < l.length) (hlen : ec.length = E.n) (j : Nat) (u : Value) (us : List Value) (y : α) (ec' : List Value) (hu : u.cells = us.toArray) (ht : Yp P t = some ti) (hn : us.length = ti.size) (hfit : j + us.length ≤ ec.length) (h1 : us.all (·.oneCell') = true)
  (hec : Xw ec j us = ec') (hy : E.rep G y ec')
  (hw : Region.wanted ⟨none, .store t a x,ty,pos,af,g⟩ (Zo ops ρ) = true) (ha : ev ρ a = .pointer (some (p.add j))) (hx : ev ρ x = u)
  (k : ∀ o' w',Yb E by_ e G v (l.set n y) o' → St w0 X G0 G (L.set i o') w' → K ρ w') : OW P ops ⟨none, .store t a x,ty,pos,af,g⟩ ρ w K:=by
 obtain ⟨b,e',cs,rfl,rfl,h3⟩:=h.ex
 rw [YG _ _ rfl] at ha
 rcases hr with ⟨h0,_⟩ | ⟨b2,cs2,cap,xs,h0,rfl,k3,k4,k5,k6,k7,k8,k9⟩
 ·cases h0
 ·simp only [Option.some.injEq,Prod.mk.injEq] at h0
  obtain ⟨rfl,rfl,rfl⟩:=h0
  have hfitcs : (n + 1) * E.n ≤ cs.length:=by rw [k5]; exact Nat.mul_le_mul_right _ (by omega)
  rw [Nat.add_mul] at hfitcs
  refine WL.store hS i b e' cs (n * E.n + j) u us _ _ hi hu ht hn (by omega) h1 rfl rfl hw ha hx fun w' hS'=>k _ w' (.inr ⟨b,_,cap,_,rfl,by simp,by simpa using k3,k4,?_,k6.set n y ec' hlt hy,?_,by rw [List.length_set]; exact k8,by rw [List.length_set]; exact k9⟩) hS'
  ·simp only [Xw,List.length_append,List.length_take,List.length_drop]; omega
  ·
   subst hec
   have hec : ec = (cs.drop (n * E.n)).take E.n:=by
    apply List.ext_getElem?
    intro q
    rcases Nat.lt_or_ge q ec.length with hq | hq
    ·rw [List.getElem?_take,if_pos (by omega),List.getElem?_drop,h3 q _ (List.getElem?_eq_getElem hq),List.getElem?_eq_getElem hq]
    ·rw [List.getElem?_eq_none (by omega),List.getElem?_eq_none (by simp; omega)]
   have hle : (n + 1) * E.n ≤ l.length * E.n:=Nat.mul_le_mul_right _ (by omega)
   rw [Nat.add_mul,Nat.one_mul] at hle
   rw [List.length_set,← k7]
   have hcs : cs = cs.take (n * E.n) ++ (ec ++ cs.drop (n * E.n + E.n)):=by
    rw [hec,← List.drop_drop,List.take_append_drop,List.take_append_drop]
   have hA : (cs.take (n * E.n)).length = n * E.n:=by simp; omega
   have:=Zl9 (cs.take (n * E.n)) ec (cs.drop (n * E.n + E.n)) us j (l.length * E.n) hfit (by rw [hA]; omega)
   rw [← hcs,hA] at this
   exact this
end
end Go.Civ
namespace Go.Proofs
open Go.Shelf
def Tryz.sortSp_ren : Go.Shelf.Ren:=⟨fun | 6=>189 | 15=>167 | 14=>227 | 28=>208 | 29=>209 | 20=>254 | 21=>255 | 22=>256 | 23=>257 | 24=>258 | 25=>259 | 26=>260 | 27=>261 | 46=>270 | 47=>241 | 48=>242 | 49=>271 | 50=>272 | 57=>275 | n=>n,fun | 22=>71 | 24=>33 | 25=>227 | 3=>3 | 39=>207 | 0=>0 | 53=>243 | 55=>245 | 4=>4 | 46=>237 | 45=>236 | 50=>183 | 5=>5 | 9=>9 | 66=>264 | 70=>90 | 76=>281 | 77=>282 | n=>n,fun | n=>n⟩
theorem Tryz.sortSp : Go.Proofs.SlLaysF0.n6 Tryz.prog Tryz.sortSp_ren:={
 mixed:=by kernel_rfl
 f6:=⟨Tryz.f189.name,by decide,Tryz.func189.trans (congrArg some (by kernel_rfl))⟩
 f14:=⟨Tryz.f227.name,by decide,Tryz.func227.trans (congrArg some (by kernel_rfl))⟩
 f15:=Tryz.func167.trans (congrArg some (by kernel_rfl))
 f20:=⟨Tryz.f254.name,by decide,Tryz.func254.trans (congrArg some (by kernel_rfl))⟩
 f21:=⟨Tryz.f255.name,by decide,Tryz.func255.trans (congrArg some (by kernel_rfl))⟩
 f22:=⟨Tryz.f256.name,by decide,Tryz.func256.trans (congrArg some (by kernel_rfl))⟩
 f23:=⟨Tryz.f257.name,by decide,Tryz.func257.trans (congrArg some (by kernel_rfl))⟩
 f24:=⟨Tryz.f258.name,by decide,Tryz.func258.trans (congrArg some (by kernel_rfl))⟩
 f25:=⟨Tryz.f259.name,by decide,Tryz.func259.trans (congrArg some (by kernel_rfl))⟩
 f26:=⟨Tryz.f260.name,by decide,Tryz.func260.trans (congrArg some (by kernel_rfl))⟩
 f27:=⟨Tryz.f261.name,by decide,Tryz.func261.trans (congrArg some (by kernel_rfl))⟩
 f28:=Tryz.func208.trans (congrArg some (by kernel_rfl))
 f29:=Tryz.func209.trans (congrArg some (by kernel_rfl))
 f46:=⟨Tryz.f270.name,by decide,Tryz.func270.trans (congrArg some (by kernel_rfl))⟩
 f47:=Tryz.func241.trans (congrArg some (by kernel_rfl))
 f48:=Tryz.func242.trans (congrArg some (by kernel_rfl))
 f49:=⟨Tryz.f271.name,by decide,Tryz.func271.trans (congrArg some (by kernel_rfl))⟩
 f50:=⟨Tryz.f272.name,by decide,Tryz.func272.trans (congrArg some (by kernel_rfl))⟩
 f57:=⟨Tryz.f275.name,by decide,Tryz.func275.trans (congrArg some (by kernel_rfl))⟩
 t0:=Tryz.underlying0
 a0:=Tryz.isAgg0
 z0:=Tryz.sizeOf0
 v0:=Tryz.zeroValue0
 t3:=Tryz.underlying3
 a3:=Tryz.isAgg3
 z3:=Tryz.sizeOf3
 v3:=Tryz.zeroValue3
 t4:=Tryz.underlying4
 a4:=Tryz.isAgg4
 z4:=Tryz.sizeOf4
 v4:=Tryz.zeroValue4
 t5:=Tryz.underlying5
 a5:=Tryz.isAgg5
 z5:=Tryz.sizeOf5
 v5:=Tryz.zeroValue5
 t9:=Tryz.underlying9
 a9:=Tryz.isAgg9
 z9:=Tryz.sizeOf9
 v9:=Tryz.zeroValue9
 t22:=Tryz.underlying71
 a22:=Tryz.isAgg71
 z22:=Tryz.sizeOf71
 v22:=Tryz.zeroValue71
 t25:=Tryz.underlying227
 a25:=Tryz.isAgg227
 z25:=Tryz.sizeOf227
 v25:=Tryz.zeroValue227
 t39:=Tryz.underlying207
 a39:=Tryz.isAgg207
 z39:=Tryz.sizeOf207
 v39:=Tryz.zeroValue207
 t45:=Tryz.underlying236
 a45:=Tryz.isAgg236
 z45:=Tryz.sizeOf236
 v45:=Tryz.zeroValue236
 t46:=Tryz.underlying237
 a46:=Tryz.isAgg237
 z46:=Tryz.sizeOf237
 v46:=Tryz.zeroValue237
 t50:=Tryz.underlying183
 a50:=Tryz.isAgg183
 z50:=Tryz.sizeOf183
 v50:=Tryz.zeroValue183
 t53:=Tryz.underlying243
 a53:=Tryz.isAgg243
 z53:=Tryz.sizeOf243
 v53:=Tryz.zeroValue243
 t55:=Tryz.underlying245
 a55:=Tryz.isAgg245
 z55:=Tryz.sizeOf245
 v55:=Tryz.zeroValue245
 t66:=Tryz.underlying264
 a66:=Tryz.isAgg264
 z66:=Tryz.sizeOf264
 v66:=Tryz.zeroValue264
 t70:=Tryz.underlying90
 a70:=Tryz.isAgg90
 z70:=Tryz.sizeOf90
 v70:=Tryz.zeroValue90
 t76:=Tryz.underlying281
 a76:=Tryz.isAgg281
 z76:=Tryz.sizeOf281
 v76:=Tryz.zeroValue281
 t77:=Tryz.underlying282
 a77:=Tryz.isAgg282
 z77:=Tryz.sizeOf282
 v77:=Tryz.zeroValue282 }
def Tryz.sortGr_ren : Go.Shelf.Ren:=⟨fun | 6=>138 | 15=>167 | 14=>185 | 28=>208 | 29=>209 | 20=>218 | 21=>219 | 22=>220 | 23=>221 | 24=>222 | 25=>223 | 26=>224 | 27=>225 | 46=>251 | 47=>241 | 48=>242 | 49=>252 | 50=>253 | 57=>269 | n=>n,fun | 22=>133 | 24=>136 | 25=>185 | 3=>3 | 39=>207 | 0=>0 | 53=>243 | 55=>245 | 4=>4 | 46=>237 | 45=>236 | 50=>183 | 5=>5 | 9=>9 | 66=>264 | 70=>90 | 76=>281 | 77=>282 | n=>n,fun | n=>n⟩
theorem Tryz.sortGr : Go.Proofs.SlLaysF0.n6 Tryz.prog Tryz.sortGr_ren:={
 mixed:=by kernel_rfl
 f6:=⟨Tryz.f138.name,by decide,Tryz.func138.trans (congrArg some (by kernel_rfl))⟩
 f14:=⟨Tryz.f185.name,by decide,Tryz.func185.trans (congrArg some (by kernel_rfl))⟩
 f15:=Tryz.func167.trans (congrArg some (by kernel_rfl))
 f20:=⟨Tryz.f218.name,by decide,Tryz.func218.trans (congrArg some (by kernel_rfl))⟩
 f21:=⟨Tryz.f219.name,by decide,Tryz.func219.trans (congrArg some (by kernel_rfl))⟩
 f22:=⟨Tryz.f220.name,by decide,Tryz.func220.trans (congrArg some (by kernel_rfl))⟩
 f23:=⟨Tryz.f221.name,by decide,Tryz.func221.trans (congrArg some (by kernel_rfl))⟩
 f24:=⟨Tryz.f222.name,by decide,Tryz.func222.trans (congrArg some (by kernel_rfl))⟩
 f25:=⟨Tryz.f223.name,by decide,Tryz.func223.trans (congrArg some (by kernel_rfl))⟩
 f26:=⟨Tryz.f224.name,by decide,Tryz.func224.trans (congrArg some (by kernel_rfl))⟩
 f27:=⟨Tryz.f225.name,by decide,Tryz.func225.trans (congrArg some (by kernel_rfl))⟩
 f28:=Tryz.func208.trans (congrArg some (by kernel_rfl))
 f29:=Tryz.func209.trans (congrArg some (by kernel_rfl))
 f46:=⟨Tryz.f251.name,by decide,Tryz.func251.trans (congrArg some (by kernel_rfl))⟩
 f47:=Tryz.func241.trans (congrArg some (by kernel_rfl))
 f48:=Tryz.func242.trans (congrArg some (by kernel_rfl))
 f49:=⟨Tryz.f252.name,by decide,Tryz.func252.trans (congrArg some (by kernel_rfl))⟩
 f50:=⟨Tryz.f253.name,by decide,Tryz.func253.trans (congrArg some (by kernel_rfl))⟩
 f57:=⟨Tryz.f269.name,by decide,Tryz.func269.trans (congrArg some (by kernel_rfl))⟩
 t0:=Tryz.underlying0
 a0:=Tryz.isAgg0
 z0:=Tryz.sizeOf0
 v0:=Tryz.zeroValue0
 t3:=Tryz.underlying3
 a3:=Tryz.isAgg3
 z3:=Tryz.sizeOf3
 v3:=Tryz.zeroValue3
 t4:=Tryz.underlying4
 a4:=Tryz.isAgg4
 z4:=Tryz.sizeOf4
 v4:=Tryz.zeroValue4
 t5:=Tryz.underlying5
 a5:=Tryz.isAgg5
 z5:=Tryz.sizeOf5
 v5:=Tryz.zeroValue5
 t9:=Tryz.underlying9
 a9:=Tryz.isAgg9
 z9:=Tryz.sizeOf9
 v9:=Tryz.zeroValue9
 t22:=Tryz.underlying133
 a22:=Tryz.isAgg133
 z22:=Tryz.sizeOf133
 v22:=Tryz.zeroValue133
 t25:=Tryz.underlying185
 a25:=Tryz.isAgg185
 z25:=Tryz.sizeOf185
 v25:=Tryz.zeroValue185
 t39:=Tryz.underlying207
 a39:=Tryz.isAgg207
 z39:=Tryz.sizeOf207
 v39:=Tryz.zeroValue207
 t45:=Tryz.underlying236
 a45:=Tryz.isAgg236
 z45:=Tryz.sizeOf236
 v45:=Tryz.zeroValue236
 t46:=Tryz.underlying237
 a46:=Tryz.isAgg237
 z46:=Tryz.sizeOf237
 v46:=Tryz.zeroValue237
 t50:=Tryz.underlying183
 a50:=Tryz.isAgg183
 z50:=Tryz.sizeOf183
 v50:=Tryz.zeroValue183
 t53:=Tryz.underlying243
 a53:=Tryz.isAgg243
 z53:=Tryz.sizeOf243
 v53:=Tryz.zeroValue243
 t55:=Tryz.underlying245
 a55:=Tryz.isAgg245
 z55:=Tryz.sizeOf245
 v55:=Tryz.zeroValue245
 t66:=Tryz.underlying264
 a66:=Tryz.isAgg264
 z66:=Tryz.sizeOf264
 v66:=Tryz.zeroValue264
 t70:=Tryz.underlying90
 a70:=Tryz.isAgg90
 z70:=Tryz.sizeOf90
 v70:=Tryz.zeroValue90
 t76:=Tryz.underlying281
 a76:=Tryz.isAgg281
 z76:=Tryz.sizeOf281
 v76:=Tryz.zeroValue281
 t77:=Tryz.underlying282
 a77:=Tryz.isAgg282
 z77:=Tryz.sizeOf282
 v77:=Tryz.zeroValue282 }
def Tryz.sortPt_ren : Go.Shelf.Ren:=⟨fun | 6=>116 | 15=>167 | 14=>166 | 28=>208 | 29=>209 | 20=>200 | 21=>201 | 22=>202 | 23=>203 | 24=>204 | 25=>205 | 26=>206 | 27=>207 | 46=>240 | 47=>241 | 48=>242 | 49=>243 | 50=>244 | 57=>267 | n=>n,fun | 22=>160 | 24=>105 | 25=>164 | 3=>3 | 39=>207 | 0=>0 | 53=>243 | 55=>245 | 4=>4 | 46=>237 | 45=>236 | 50=>183 | 5=>5 | 9=>9 | 66=>264 | 70=>90 | 76=>281 | 77=>282 | n=>n,fun | n=>n⟩
theorem Tryz.sortPt : Go.Proofs.SlLaysF0.n6 Tryz.prog Tryz.sortPt_ren:={
 mixed:=by kernel_rfl
 f6:=⟨Tryz.f116.name,by decide,Tryz.func116.trans (congrArg some (by kernel_rfl))⟩
 f14:=⟨Tryz.f166.name,by decide,Tryz.func166.trans (congrArg some (by kernel_rfl))⟩
 f15:=Tryz.func167.trans (congrArg some (by kernel_rfl))
 f20:=⟨Tryz.f200.name,by decide,Tryz.func200.trans (congrArg some (by kernel_rfl))⟩
 f21:=⟨Tryz.f201.name,by decide,Tryz.func201.trans (congrArg some (by kernel_rfl))⟩
 f22:=⟨Tryz.f202.name,by decide,Tryz.func202.trans (congrArg some (by kernel_rfl))⟩
 f23:=⟨Tryz.f203.name,by decide,Tryz.func203.trans (congrArg some (by kernel_rfl))⟩
 f24:=⟨Tryz.f204.name,by decide,Tryz.func204.trans (congrArg some (by kernel_rfl))⟩
 f25:=⟨Tryz.f205.name,by decide,Tryz.func205.trans (congrArg some (by kernel_rfl))⟩
 f26:=⟨Tryz.f206.name,by decide,Tryz.func206.trans (congrArg some (by kernel_rfl))⟩
 f27:=⟨Tryz.f207.name,by decide,Tryz.func207.trans (congrArg some (by kernel_rfl))⟩
 f28:=Tryz.func208.trans (congrArg some (by kernel_rfl))
 f29:=Tryz.func209.trans (congrArg some (by kernel_rfl))
 f46:=⟨Tryz.f240.name,by decide,Tryz.func240.trans (congrArg some (by kernel_rfl))⟩
 f47:=Tryz.func241.trans (congrArg some (by kernel_rfl))
 f48:=Tryz.func242.trans (congrArg some (by kernel_rfl))
 f49:=⟨Tryz.f243.name,by decide,Tryz.func243.trans (congrArg some (by kernel_rfl))⟩
 f50:=⟨Tryz.f244.name,by decide,Tryz.func244.trans (congrArg some (by kernel_rfl))⟩
 f57:=⟨Tryz.f267.name,by decide,Tryz.func267.trans (congrArg some (by kernel_rfl))⟩
 t0:=Tryz.underlying0
 a0:=Tryz.isAgg0
 z0:=Tryz.sizeOf0
 v0:=Tryz.zeroValue0
 t3:=Tryz.underlying3
 a3:=Tryz.isAgg3
 z3:=Tryz.sizeOf3
 v3:=Tryz.zeroValue3
 t4:=Tryz.underlying4
 a4:=Tryz.isAgg4
 z4:=Tryz.sizeOf4
 v4:=Tryz.zeroValue4
 t5:=Tryz.underlying5
 a5:=Tryz.isAgg5
 z5:=Tryz.sizeOf5
 v5:=Tryz.zeroValue5
 t9:=Tryz.underlying9
 a9:=Tryz.isAgg9
 z9:=Tryz.sizeOf9
 v9:=Tryz.zeroValue9
 t22:=Tryz.underlying160
 a22:=Tryz.isAgg160
 z22:=Tryz.sizeOf160
 v22:=Tryz.zeroValue160
 t25:=Tryz.underlying164
 a25:=Tryz.isAgg164
 z25:=Tryz.sizeOf164
 v25:=Tryz.zeroValue164
 t39:=Tryz.underlying207
 a39:=Tryz.isAgg207
 z39:=Tryz.sizeOf207
 v39:=Tryz.zeroValue207
 t45:=Tryz.underlying236
 a45:=Tryz.isAgg236
 z45:=Tryz.sizeOf236
 v45:=Tryz.zeroValue236
 t46:=Tryz.underlying237
 a46:=Tryz.isAgg237
 z46:=Tryz.sizeOf237
 v46:=Tryz.zeroValue237
 t50:=Tryz.underlying183
 a50:=Tryz.isAgg183
 z50:=Tryz.sizeOf183
 v50:=Tryz.zeroValue183
 t53:=Tryz.underlying243
 a53:=Tryz.isAgg243
 z53:=Tryz.sizeOf243
 v53:=Tryz.zeroValue243
 t55:=Tryz.underlying245
 a55:=Tryz.isAgg245
 z55:=Tryz.sizeOf245
 v55:=Tryz.zeroValue245
 t66:=Tryz.underlying264
 a66:=Tryz.isAgg264
 z66:=Tryz.sizeOf264
 v66:=Tryz.zeroValue264
 t70:=Tryz.underlying90
 a70:=Tryz.isAgg90
 z70:=Tryz.sizeOf90
 v70:=Tryz.zeroValue90
 t76:=Tryz.underlying281
 a76:=Tryz.isAgg281
 z76:=Tryz.sizeOf281
 v76:=Tryz.zeroValue281
 t77:=Tryz.underlying282
 a77:=Tryz.isAgg282
 z77:=Tryz.sizeOf282
 v77:=Tryz.zeroValue282 }
def Tryz.laysSort_ren : Go.Shelf.Ren:=⟨fun | 189=>145 | 125=>167 | 257=>192 | 128=>208 | 129=>209 | 294=>228 | 295=>229 | 296=>230 | 297=>231 | 298=>232 | 299=>233 | 216=>234 | 300=>235 | 301=>236 | 328=>262 | 329=>241 | 330=>242 | 331=>263 | 332=>264 | 215=>210 | 343=>273 | n=>n,fun | 28=>113 | 3=>3 | 46=>207 | 0=>0 | 51=>243 | 53=>245 | 4=>4 | 183=>237 | 182=>236 | 131=>183 | 5=>5 | 9=>9 | 218=>264 | 222=>90 | 228=>281 | 229=>282 | n=>n,fun | n=>n⟩
theorem Tryz.laysSort : Go.Proofs.Lays.n189 Tryz.prog Tryz.laysSort_ren:={
 mixed:=by kernel_rfl
 f125:=Tryz.func167.trans (congrArg some (by kernel_rfl))
 f128:=Tryz.func208.trans (congrArg some (by kernel_rfl))
 f129:=Tryz.func209.trans (congrArg some (by kernel_rfl))
 f189:=Tryz.func145.trans (congrArg some (by kernel_rfl))
 f215:=Tryz.func210.trans (congrArg some (by kernel_rfl))
 f216:=Tryz.func234.trans (congrArg some (by kernel_rfl))
 f257:=Tryz.func192.trans (congrArg some (by kernel_rfl))
 f294:=Tryz.func228.trans (congrArg some (by kernel_rfl))
 f295:=Tryz.func229.trans (congrArg some (by kernel_rfl))
 f296:=Tryz.func230.trans (congrArg some (by kernel_rfl))
 f297:=Tryz.func231.trans (congrArg some (by kernel_rfl))
 f298:=Tryz.func232.trans (congrArg some (by kernel_rfl))
 f299:=Tryz.func233.trans (congrArg some (by kernel_rfl))
 f300:=Tryz.func235.trans (congrArg some (by kernel_rfl))
 f301:=Tryz.func236.trans (congrArg some (by kernel_rfl))
 f328:=Tryz.func262.trans (congrArg some (by kernel_rfl))
 f329:=Tryz.func241.trans (congrArg some (by kernel_rfl))
 f330:=Tryz.func242.trans (congrArg some (by kernel_rfl))
 f331:=Tryz.func263.trans (congrArg some (by kernel_rfl))
 f332:=Tryz.func264.trans (congrArg some (by kernel_rfl))
 f343:=Tryz.func273.trans (congrArg some (by kernel_rfl))
 t0:=Tryz.underlying0
 a0:=Tryz.isAgg0
 z0:=Tryz.sizeOf0
 v0:=Tryz.zeroValue0
 t3:=Tryz.underlying3
 a3:=Tryz.isAgg3
 z3:=Tryz.sizeOf3
 v3:=Tryz.zeroValue3
 t4:=Tryz.underlying4
 a4:=Tryz.isAgg4
 z4:=Tryz.sizeOf4
 v4:=Tryz.zeroValue4
 t5:=Tryz.underlying5
 a5:=Tryz.isAgg5
 z5:=Tryz.sizeOf5
 v5:=Tryz.zeroValue5
 t9:=Tryz.underlying9
 a9:=Tryz.isAgg9
 z9:=Tryz.sizeOf9
 v9:=Tryz.zeroValue9
 t28:=Tryz.underlying113
 a28:=Tryz.isAgg113
 z28:=Tryz.sizeOf113
 v28:=Tryz.zeroValue113
 t46:=Tryz.underlying207
 a46:=Tryz.isAgg207
 z46:=Tryz.sizeOf207
 v46:=Tryz.zeroValue207
 t51:=Tryz.underlying243
 a51:=Tryz.isAgg243
 z51:=Tryz.sizeOf243
 v51:=Tryz.zeroValue243
 t53:=Tryz.underlying245
 a53:=Tryz.isAgg245
 z53:=Tryz.sizeOf245
 v53:=Tryz.zeroValue245
 t131:=Tryz.underlying183
 a131:=Tryz.isAgg183
 z131:=Tryz.sizeOf183
 v131:=Tryz.zeroValue183
 t182:=Tryz.underlying236
 a182:=Tryz.isAgg236
 z182:=Tryz.sizeOf236
 v182:=Tryz.zeroValue236
 t183:=Tryz.underlying237
 a183:=Tryz.isAgg237
 z183:=Tryz.sizeOf237
 v183:=Tryz.zeroValue237
 t218:=Tryz.underlying264
 a218:=Tryz.isAgg264
 z218:=Tryz.sizeOf264
 v218:=Tryz.zeroValue264
 t222:=Tryz.underlying90
 a222:=Tryz.isAgg90
 z222:=Tryz.sizeOf90
 v222:=Tryz.zeroValue90
 t228:=Tryz.underlying281
 a228:=Tryz.isAgg281
 z228:=Tryz.sizeOf281
 v228:=Tryz.zeroValue281
 t229:=Tryz.underlying282
 a229:=Tryz.isAgg282
 z229:=Tryz.sizeOf282
 v229:=Tryz.zeroValue282 }
end Go.Proofs
