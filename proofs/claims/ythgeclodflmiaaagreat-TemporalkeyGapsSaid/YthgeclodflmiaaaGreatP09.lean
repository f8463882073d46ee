/- Lemmas. -/
import Derived.Test.YthgeclodflmiaaaGreatP06
import Derived.Test.YthgeclodflmiaaaGreatP08
import Derived.Deep.Slices
import Derived.SizedLaws
import Derived.OpenShut
namespace Go.Civ
open Go.RowKit Go.ChangeShapes Go.Deep
set_option linter.unusedVariables false
def GW (w : World) : GH:=fun b=>w.heap[b]?
theorem Zp0 (w : World) : (GW w).In w:=fun _ _ h=>h
section
variable {H : Type} {enc : TypeId × Value → H} {P : Program} {w : World}
def ZeN (P : Program) (t : TypeId) (d : DataW H) : Prop:=∀ x ∈ DataW.weights P t d,x ≤ reachBytes
def YL {α : Type} (enc : TypeId × Value → H) (P : Program) (w : World) (t : TypeId) (E : Enc α) : Prop:=
 ∀ fuel cs d pl,DataW.trod enc P w 0 (fun _=>true) true fuel t cs = some (d,pl) → ZeN P t d → ∃ x,E.rep (GW w) x cs
theorem QV {t : TypeId} (hu : P.underlying t = some (.int .i64)) : YL enc P w t Enc.int:=fun fuel cs d pl h hl=>by
 obtain ⟨n,rfl,_,wf⟩:=DataW.trod_int hu h
 exact ⟨n,rfl,bounds_i64 wf⟩
theorem Zb8 {t : TypeId} (hu : P.underlying t = some .string) : YL enc P w t Enc.str:=fun fuel cs d pl h hl=>by
 obtain ⟨s,rfl,hd,_⟩:=DataW.trod_string hu h
 simp only [Prod.mk.injEq] at hd
 obtain ⟨rfl,_⟩:=hd
 have h1 : s.data.toList.length ≤ reachBytes:=hl _ (by simp [DataW.weights])
 refine ⟨s.data.toList,?_,Nat.le_trans h1 (by simp [reachBytes,reach])⟩
 simp [Zd]
theorem Zrl {t : TypeId} {f0 f1 : Field} {d0 d1 : DataW H} (hu : P.underlying t = some (.struct #[f0,f1])) (h : ZeN P t (.agg [d0,d1])) : ZeN P f0.type d0 ∧ ZeN P f1.type d1:=by
 have e : DataW.weights P t (.agg [d0,d1]) = d0.weights P f0.type ++ (d1.weights P f1.type ++ []):=by
  rw [DataW.weights,hu]; simp [DataW.weightsEach]
 refine ⟨fun x hx=>h x (by rw [e]; simp [hx]),fun x hx=>h x (by rw [e]; simp [hx])⟩
theorem ZaF {α β γ : Type} {A : Enc α} {B : Enc β} {f : γ → α × β} {g : α × β → γ} {t : TypeId} {f0 f1 : Field} (surj : ∀ p,f (g p) = p) (hu : P.underlying t = some (.struct #[f0,f1])) (o0 : f0.offset = 0) (c0 : P.cellsOf f0.type = A.n) (o1 : f1.offset = A.n) (c1 : P.cellsOf f1.type = B.n)
  (ct : P.cellsOf t = A.n + B.n) (hA : YL enc P w f0.type A) (hB : YL enc P w f1.type B) : YL enc P w t ((Enc.pair A B).via f):=fun fuel cs d pl h hl=>by
 obtain ⟨y0,y1,n,hx,hlen,h0,h1⟩:=trod_struct2 hu h
 simp only [Prod.mk.injEq] at hx
 obtain ⟨rfl,_⟩:=hx
 obtain ⟨l0,l1⟩:=Zrl hu hl
 rw [o0,c0,List.drop_zero] at h0
 rw [o1,c1] at h1
 obtain ⟨x0,r0⟩:=hA _ _ _ _ h0 l0
 obtain ⟨x1,r1⟩:=hB _ _ _ _ h1 l1
 rw [List.take_of_length_le (by rw [List.length_drop,hlen,ct]; omega)] at r1
 exact ⟨g (x0,x1),by show (Enc.pair A B).rep _ (f (g (x0,x1))) _; rw [surj]; exact ⟨_,_,(List.take_append_drop A.n cs).symm,r0,r1⟩⟩
theorem Zif {base : Nat} {spare : Nat → Bool} {held : Bool} {t : TypeId} {f0 f1 f2 : Field} {fuel : Nat} {cs : List Value} {x : DataW H × List MemPlace} (ht : P.underlying t = some (.struct #[f0,f1,f2])) (h : DataW.trod enc P w base spare held fuel t cs = some x) :
  ∃ y0 y1 y2 n,x = (.agg [y0.1,y1.1,y2.1],y0.2 ++ (y1.2 ++ y2.2)) ∧ cs.length = P.cellsOf t ∧ DataW.trod enc P w base spare held n f0.type ((cs.drop f0.offset).take (P.cellsOf f0.type)) = some y0 ∧
   DataW.trod enc P w base spare held n f1.type ((cs.drop f1.offset).take (P.cellsOf f1.type)) = some y1 ∧ DataW.trod enc P w base spare held n f2.type ((cs.drop f2.offset).take (P.cellsOf f2.type)) = some y2:=by
 obtain ⟨xs,n,_,rfl,hl,hlen,hf⟩:=DataW.trod_struct ht h
 match xs,hlen with
 | [y0,y1,y2],_=>exact ⟨y0,y1,y2,n,by simp,hl,by simpa using hf 0 f0 rfl,by simpa using hf 1 f1 rfl,by simpa using hf 2 f2 rfl⟩
theorem Zfh {α β γ δ : Type} {A : Enc α} {B : Enc β} {C : Enc γ} {f : δ → α × β × γ} {g : α × β × γ → δ} {t : TypeId} {f0 f1 f2 : Field} (surj : ∀ p,f (g p) = p) (hu : P.underlying t = some (.struct #[f0,f1,f2])) (o0 : f0.offset = 0) (c0 : P.cellsOf f0.type = A.n) (o1 : f1.offset = A.n) (c1 : P.cellsOf f1.type = B.n)
  (o2 : f2.offset = A.n + B.n) (c2 : P.cellsOf f2.type = C.n) (ct : P.cellsOf t = A.n + (B.n + C.n)) (hA : YL enc P w f0.type A) (hB : YL enc P w f1.type B) (hC : YL enc P w f2.type C) : YL enc P w t ((Enc.pair A (Enc.pair B C)).via f):=fun fuel cs d pl h hl=>by
 obtain ⟨y0,y1,y2,n,hx,hlen,h0,h1,h2⟩:=Zif hu h
 simp only [Prod.mk.injEq] at hx
 obtain ⟨rfl,_⟩:=hx
 have e : DataW.weights P t (.agg [y0.1,y1.1,y2.1]) = y0.1.weights P f0.type ++ (y1.1.weights P f1.type ++ (y2.1.weights P f2.type ++ [])):=by
  rw [DataW.weights,hu]; simp [DataW.weightsEach]
 rw [o0,c0,List.drop_zero] at h0
 rw [o1,c1] at h1
 rw [o2,c2] at h2
 obtain ⟨x0,r0⟩:=hA _ _ _ _ h0 fun x hx=>hl x (by rw [e]; simp [hx])
 obtain ⟨x1,r1⟩:=hB _ _ _ _ h1 fun x hx=>hl x (by rw [e]; simp [hx])
 obtain ⟨x2,r2⟩:=hC _ _ _ _ h2 fun x hx=>hl x (by rw [e]; simp [hx])
 rw [List.take_of_length_le (by rw [List.length_drop,hlen,ct]; omega)] at r2
 refine ⟨g (x0,x1,x2),?_⟩
 show (Enc.pair A (Enc.pair B C)).rep _ (f (g (x0,x1,x2))) _
 rw [surj]
 refine ⟨_,_,(List.take_append_drop A.n cs).symm,r0,(cs.drop A.n).take B.n,cs.drop (A.n + B.n),?_,r1,r2⟩
 rw [← List.drop_drop,List.take_append_drop]
theorem ZcW {e : TypeId} {d : DataW H} {x : Nat} : ∀ {ds : List (DataW H)},d ∈ ds → x ∈ d.weights P e → x ∈ DataW.weightsAll P e ds
 | [],h,_=>by simp at h
 | y :: ds,h,hx=>by
  rw [DataW.weightsAll]
  rcases List.mem_cons.1 h with rfl | h
  ·exact List.mem_append_left _ hx
  ·exact List.mem_append_right _ (ZcW h hx)
theorem Zkm {α : Type} {p : Nat → α → Prop} : ∀ n,(∀ i,i < n → ∃ x,p i x) → ∃ l : List α,l.length = n ∧ ∀ (i : Nat) x,l[i]? = some x → p i x
 | 0,_=>⟨[],rfl,fun i x h=>by simp at h⟩
 | n + 1,h=>by
  obtain ⟨l,hl,hp⟩:=Zkm n fun i hi=>h i (by omega)
  obtain ⟨y,hy⟩:=h n (by omega)
  refine ⟨l ++ [y],by simp [hl],fun i x hx=>?_⟩
  rw [List.getElem?_append] at hx
  split at hx
  ·exact hp i x hx
  ·rename_i hi
   have : i = n:=by
    have h1:=(List.getElem?_eq_some_iff.1 hx).1
    simp at h1; omega
   subst this
   rw [hl,Nat.sub_self] at hx
   simp at hx; subst hx; exact hy
theorem ZnT {a : Addr} {n : Nat} {cs : List Value} (hs : a.spot = none) (h : w.cells? 0 a n = some cs) (hn : 0 < n) : Xl (GW w) a cs:=by
 obtain ⟨_,hl,hc⟩:=World.cells?_some h
 have key : ∀ (j : Nat) v,cs[j]? = some v → w.cell? ⟨a.block,a.off + j,none⟩ = some v:=fun j v hv=>by
  have hj : j < n:=by have:=(List.getElem?_eq_some_iff.1 hv).1; omega
  have:=hc j hj
  rw [Yr _ _ hs,hv] at this; exact this
 obtain ⟨v0,hv0⟩ : ∃ v,cs[0]? = some v:=⟨_,List.getElem?_eq_getElem (by omega)⟩
 have h0:=key 0 v0 hv0
 unfold World.cell? at h0
 split at h0
 ·rename_i c e fz hb
  refine ⟨hs,c,e,fz,hb,fun j v hv=>?_⟩
  have:=key j v hv
  unfold World.cell? at this
  rw [hb] at this
  simpa using this
 ·simp at h0
theorem Zat {α : Type} {E : Enc α} {by_ : Nat} {t e : TypeId} (ht : P.underlying t = some (.slice e)) (hc : P.cellsOf e = E.n) (hn : 0 < E.n) (hby : P.bytesOf e = by_) (hb1 : 0 < by_) (hE : YL enc P w e E) : YL enc P w t (E.slice by_):=fun fuel cs d pl h hl=>by
 rcases open_slice ht h with ⟨rfl,hx⟩ | ⟨a,len,cap,m,n,D,Pl,rfl,hb',hlc,hm,hmm,hx,hel⟩
 ·exact ⟨[], .slice none 0 0,rfl,Sl.nil E by_ (GW w)⟩
 ·simp only [if_true] at hmm
  subst hmm
  simp only [Prod.mk.injEq] at hx
  obtain ⟨rfl,_⟩:=hx
  have ew : DataW.weights P t (.slice ((List.range len).map D) ((List.range (m - len)).map fun j=>D (len + j))) = (len + (m - len)) * by_ :: (DataW.weightsAll P e ((List.range len).map D) ++ DataW.weightsAll P e ((List.range (m - len)).map fun j=>D (len + j))):=by
   rw [DataW.weights,ht]; simp [hby]
  have hw : (len + (m - len)) * by_ ≤ reachBytes:=hl _ (by rw [ew]; simp)
  have hlen : len * by_ ≤ reach:=by
   have h1 : len * by_ ≤ (len + (m - len)) * by_:=Nat.mul_le_mul_right _ (by omega)
   have h2 : reachBytes ≤ reach:=by simp [reachBytes,reach]
   omega
  have hlen1 : len ≤ reach:=Nat.le_trans (Nat.le_mul_of_pos_right _ hb1) hlen
  rcases Nat.eq_zero_or_pos len with h0 | hpos
  ·subst h0
   exact ⟨[], .slice (some a) 0 m,rfl,some a,m,rfl,Nat.zero_le _,by simp,by simp,fun i x hx=>by simp at hx⟩
  ·have hspot : a.spot = none:=by
    obtain ⟨cs',h1,_⟩:=hel 0 (by omega)
    rw [hc] at h1
    obtain ⟨_,hl',hcc⟩:=World.cells?_some h1
    have:=hcc 0 hn
    obtain ⟨v0,hv0⟩ : ∃ v,cs'[0]? = some v:=⟨_,List.getElem?_eq_getElem (by omega)⟩
    rw [hv0] at this
    have:=World.cell?_spot this
    simpa [Addr.add] using this
   obtain ⟨l,hll,hp⟩:=Zkm (α:=α) (p:=fun i x=>ZdZ E (GW w) (a.add (i * E.n)) x) len fun i hi=>by
    obtain ⟨cs',h1,h2⟩:=hel i (by omega)
    obtain ⟨x,hx⟩:=hE _ _ _ _ h2 fun y hy=>hl y (by rw [ew]; exact List.mem_cons_of_mem _ (List.mem_append_left _ (ZcW (List.mem_map.2 ⟨i,List.mem_range.2 hi,rfl⟩) hy)))
    rw [hc] at h1
    exact ⟨x,cs',ZnT (by rw [Yr _ _ hspot]) h1 hn,hx⟩
   subst hll
   exact ⟨l,_,rfl,some a,m,rfl,hlc,hlen,hlen1,fun i x hx=>⟨a,rfl,hspot,hp i x hx⟩⟩
theorem Zae {α : Type} {E : Enc α} {t : TypeId} {v : Value} {d : DataW H} {p : List MemPlace} (hO : YL enc P w t E) (hv : ∃ cs : Array Value,v = .agg cs) (h : DataW.Trod enc P w 0 (fun _=>true) true t v d p) (hl : ZeN P t d) : ∃ x cs,v = .agg cs.toArray ∧ E.rep (GW w) x cs:=by
 obtain ⟨fuel,hf⟩:=h
 obtain ⟨cs,rfl⟩:=hv
 obtain ⟨x,hx⟩:=hO _ _ _ _ hf hl
 exact ⟨x,cs.toList,by simp,hx⟩
theorem Zaf {t : TypeId} {ts : List TypeId} {d : DataW H} {ds : List (DataW H)} (h : (DataW.weightsEach P (t :: ts) (d :: ds)).all (fun x=>decide (x ≤ reachBytes)) = true) : ZeN P t d ∧ (DataW.weightsEach P ts ds).all (fun x=>decide (x ≤ reachBytes)) = true:=by
 rw [DataW.weightsEach,List.all_append,Bool.and_eq_true] at h
 exact ⟨fun x hx=>by have:=List.all_eq_true.1 h.1 x hx; simpa using this,h.2⟩
end
end Go.Civ
namespace Go.Civ
open Go.RowKit
set_option linter.unusedVariables false
structure Rect where
 d : Span
 x : Span
deriving DecidableEq
structure HRow where
 v : List Val
 r : Rect
deriving DecidableEq
structure Foreign where
 cols : List (List UInt8)
 table : List UInt8
deriving DecidableEq
structure Schema where
 name : List UInt8
 cols : List Col
 key : Int
 fks : List Foreign
deriving DecidableEq
structure Table where
 s : Schema
 rows : List HRow
 last : Int
deriving DecidableEq
def RectE : Enc Rect:=(Enc.pair SpanE SpanE).via fun x=>(x.d,x.x)
def HRowE : Enc HRow:=(Enc.pair (ValE.slice 32) RectE).via fun x=>(x.v,x.r)
def ForeignE : Enc Foreign:=(Enc.pair (Enc.str.slice 16) .str).via fun x=>(x.cols,x.table)
def SchemaE : Enc Schema:=(Enc.pair .str (Enc.pair (ColE.slice 24) (Enc.pair .int (ForeignE.slice 40)))).via fun x=>(x.name,x.cols,x.key,x.fks)
def TableE : Enc Table:=(Enc.pair SchemaE (Enc.pair (HRowE.slice 56) .int)).via fun x=>(x.s,x.rows,x.last)
section
variable {G : GH} {cs : List Value}
theorem ZkZ {x : Rect} (h : RectE.rep G x cs) : cs = [.int .i64 x.d.a, .int .i64 x.d.b, .int .i64 x.x.a, .int .i64 x.x.b] ∧ Zy x.d.a ∧ Zy x.d.b ∧ Zy x.x.a ∧ Zy x.x.b:=by
 obtain ⟨c1,c2,rfl,h1,h2⟩:=h
 obtain ⟨rfl,h3,h4⟩:=ZF h1
 obtain ⟨rfl,h5,h6⟩:=ZF h2
 exact ⟨rfl,h3,h4,h5,h6⟩
theorem ZnY (x : Rect) (h1 : Zy x.d.a) (h2 : Zy x.d.b) (h3 : Zy x.x.a) (h4 : Zy x.x.b) : RectE.rep G x [.int .i64 x.d.a, .int .i64 x.d.b, .int .i64 x.x.a, .int .i64 x.x.b]:=
 ⟨_,_,rfl,Zs x.d h1 h2,Zs x.x h3 h4⟩
theorem ZK {x : HRow} (h : HRowE.rep G x cs) : ∃ v,cs = [v, .int .i64 x.r.d.a, .int .i64 x.r.d.b, .int .i64 x.r.x.a, .int .i64 x.r.x.b] ∧ Sl ValE 32 G v x.v ∧ Zy x.r.d.a ∧ Zy x.r.d.b ∧ Zy x.r.x.a ∧ Zy x.r.x.b:=by
 obtain ⟨c1,c2,rfl,⟨v,rfl,h1⟩,h2⟩:=h
 obtain ⟨rfl,h3,h4,h5,h6⟩:=ZkZ h2
 exact ⟨v,rfl,h1,h3,h4,h5,h6⟩
theorem ZM (x : HRow) {v : Value} (h1 : Sl ValE 32 G v x.v) (h2 : Zy x.r.d.a) (h3 : Zy x.r.d.b) (h4 : Zy x.r.x.a) (h5 : Zy x.r.x.b) :
  HRowE.rep G x [v, .int .i64 x.r.d.a, .int .i64 x.r.d.b, .int .i64 x.r.x.a, .int .i64 x.r.x.b]:=⟨[v],_,rfl,⟨v,rfl,h1⟩,ZnY x.r h2 h3 h4 h5⟩
theorem Y1 {x : Foreign} (h : ForeignE.rep G x cs) : ∃ v,cs = [v,Zd x.table] ∧ Sl Enc.str 16 G v x.cols ∧ x.table.length ≤ reach:=by
 obtain ⟨c1,c2,rfl,⟨v,rfl,h1⟩,rfl,h2⟩:=h
 exact ⟨v,rfl,h1,h2⟩
theorem Xc (x : Foreign) {v : Value} (h1 : Sl Enc.str 16 G v x.cols) (h2 : x.table.length ≤ reach) : ForeignE.rep G x [v,Zd x.table]:=⟨[v],_,rfl,⟨v,rfl,h1⟩,rfl,h2⟩
theorem YJ {x : Schema} (h : SchemaE.rep G x cs) : ∃ v u,cs = [Zd x.name,v, .int .i64 x.key,u] ∧ x.name.length ≤ reach ∧ Sl ColE 24 G v x.cols ∧ Zy x.key ∧ Sl ForeignE 40 G u x.fks:=by
 obtain ⟨c1,c2,rfl,⟨rfl,h1⟩,c3,c4,rfl,⟨v,rfl,h2⟩,c5,c6,rfl,⟨rfl,h3⟩,u,rfl,h4⟩:=h
 exact ⟨v,u,rfl,h1,h2,h3,h4⟩
theorem ZL (x : Schema) {v u : Value} (h1 : x.name.length ≤ reach) (h2 : Sl ColE 24 G v x.cols) (h3 : Zy x.key) (h4 : Sl ForeignE 40 G u x.fks) : SchemaE.rep G x [Zd x.name,v, .int .i64 x.key,u]:=
 ⟨_,_,rfl,⟨rfl,h1⟩,_,_,rfl,⟨v,rfl,h2⟩,_,_,rfl,⟨rfl,h3⟩,u,rfl,h4⟩
theorem Z0 {x : Table} (h : TableE.rep G x cs) : ∃ v u r,cs = [Zd x.s.name,v, .int .i64 x.s.key,u,r, .int .i64 x.last] ∧ x.s.name.length ≤ reach ∧ Sl ColE 24 G v x.s.cols ∧ Zy x.s.key ∧ Sl ForeignE 40 G u x.s.fks ∧ Sl HRowE 56 G r x.rows ∧ Zy x.last:=by
 obtain ⟨c1,c2,rfl,h0,c3,c4,rfl,⟨r,rfl,h2⟩,rfl,h3⟩:=h
 obtain ⟨v,u,rfl,h4,h5,h6,h7⟩:=YJ h0
 exact ⟨v,u,r,rfl,h4,h5,h6,h7,h2,h3⟩
theorem Zl (x : Table) {v u r : Value} (h1 : x.s.name.length ≤ reach) (h2 : Sl ColE 24 G v x.s.cols) (h3 : Zy x.s.key) (h4 : Sl ForeignE 40 G u x.s.fks) (h5 : Sl HRowE 56 G r x.rows) (h6 : Zy x.last) :
  TableE.rep G x [Zd x.s.name,v, .int .i64 x.s.key,u,r, .int .i64 x.last]:=⟨_,_,rfl,ZL x.s h1 h2 h3 h4,_,_,rfl,⟨r,rfl,h5⟩,rfl,h6⟩
end
def QX (n : Int) : Nat:=(n + 9223372036854775808).toNat
def Zgc (n k : Nat) : UInt8:=UInt8.ofNat (n / 2 ^ k)
def ZcM (n : Int) : List UInt8:=[56,48,40,32,24,16,8,0].map (Zgc (QX n))
def Zaq (x : Val) : List UInt8:=UInt8.ofNat x.k.toNat :: (if x.k = 2 then x.s ++ [0] else if x.k = 3 then [UInt8.ofNat x.n.toNat] else ZcM x.n)
def QL (l : List Val) : List UInt8:=l.flatMap Zaq
def XF (l : List Val) : List UInt8:=if l.length ≤ 1000 ∧ l.all Z9 = true then QL l else []
theorem Zhs (n k : Nat) : (Zgc n k).toNat = n / 2 ^ k % 256:=by unfold Zgc; simp
theorem dig {a b k : Nat} (h : a / 2 ^ k % 256 = b / 2 ^ k % 256) (hk : a / 2 ^ (k + 8) = b / 2 ^ (k + 8)) : a / 2 ^ k = b / 2 ^ k:=by
 rw [Nat.pow_add,← Nat.div_div_eq_div_mul,← Nat.div_div_eq_div_mul] at hk
 generalize a / 2 ^ k = x at *
 generalize b / 2 ^ k = y at *
 have e : (2 : Nat) ^ 8 = 256:=rfl
 rw [e] at hk
 omega
theorem ZnZ {m n : Int} (hm : Zy m) (hn : Zy n) (h : ZcM m = ZcM n) : m = n:=by
 have e : ∀ k,k ∈ [56,48,40,32,24,16,8,0] → QX m / 2 ^ k % 256 = QX n / 2 ^ k % 256:=fun k hk=>by
  have:=List.map_inj_left.1 h k hk
  rw [← Zhs,← Zhs,this]
 have bm : QX m < 2 ^ 64:=by unfold QX; have:=hm.1; have:=hm.2; omega
 have bn : QX n < 2 ^ 64:=by unfold QX; have:=hn.1; have:=hn.2; omega
 have h64 : QX m / 2 ^ (56 + 8) = QX n / 2 ^ (56 + 8):=by rw [Nat.div_eq_of_lt bm,Nat.div_eq_of_lt bn]
 have h56:=dig (e 56 (by simp)) h64
 have h48:=dig (e 48 (by simp)) h56
 have h40:=dig (e 40 (by simp)) h48
 have h32:=dig (e 32 (by simp)) h40
 have h24:=dig (e 24 (by simp)) h32
 have h16:=dig (e 16 (by simp)) h24
 have h8:=dig (e 8 (by simp)) h16
 have h0:=dig (e 0 (by simp)) h8
 rw [Nat.pow_zero,Nat.div_one,Nat.div_one] at h0
 unfold QX at h0
 have:=hm.1; have:=hn.1
 omega
theorem ZiK : ∀ {s t r r' : List UInt8},s.all okC = true → t.all okC = true → s ++ 0 :: r = t ++ 0 :: r' → s = t ∧ r = r'
 | [],[],r,r',_,_,h=>⟨rfl,(List.cons.inj h).2⟩
 | [],c :: t,r,r',_,h2,h=>by
  have e:=(List.cons.inj h).1
  subst e
  simp [okC] at h2
 | c :: s,[],r,r',h1,_,h=>by
  have e:=(List.cons.inj h).1
  subst e
  simp [okC] at h1
 | c :: s,c' :: t,r,r',h1,h2,h=>by
  have e:=List.cons.inj h
  simp only [List.all_cons,Bool.and_eq_true] at h1 h2
  obtain ⟨rfl,rfl⟩:=ZiK h1.2 h2.2 e.2
  exact ⟨by rw [e.1],rfl⟩
theorem Zda {x : Val} (h : Z9 x = true) : (x.k = 1 ∧ x.s = []) ∨ (x.k = 2 ∧ x.n = 0 ∧ x.s.all okC = true) ∨ (x.k = 3 ∧ x.s = [] ∧ (x.n = 0 ∨ x.n = 1)) ∨ (x.k = 4 ∧ x.s = []):=by
 unfold Z9 at h
 by_cases h1 : x.k = 1
 ·simp [h1] at h; exact .inl ⟨h1,h⟩
 ·by_cases h2 : x.k = 2
  ·simp [h2] at h; exact .inr (.inl ⟨h2,h.1.1,by simpa using h.2⟩)
  ·by_cases h3 : x.k = 3
   ·simp [h3] at h; exact .inr (.inr (.inl ⟨h3,h.1,h.2⟩))
   ·by_cases h4 : x.k = 4
    ·simp [h4] at h; exact .inr (.inr (.inr ⟨h4,h.1.1⟩))
    ·simp [h1,h2,h3,h4] at h
theorem ZeQ {x y : Val} (h1 : x.k = y.k) (h2 : x.n = y.n) (h3 : x.s = y.s) : x = y:=by cases x; cases y; simp_all
theorem Zoa {x y : Val} {r r' : List UInt8} (hx : Z9 x = true) (hy : Z9 y = true) (nx : Zy x.n) (ny : Zy y.n) (h : Zaq x ++ r = Zaq y ++ r') : x = y ∧ r = r':=by
 unfold Zaq at h
 rw [List.cons_append,List.cons_append] at h
 obtain ⟨hk,ht⟩:=List.cons.inj h
 have key : x.k = y.k:=by
  rcases Zda hx with ⟨h1,_⟩ | ⟨h1,_⟩ | ⟨h1,_⟩ | ⟨h1,_⟩ <;> rcases Zda hy with ⟨h2,_⟩ | ⟨h2,_⟩ | ⟨h2,_⟩ | ⟨h2,_⟩ <;> rw [h1,h2] at hk <;> first | exact h1.trans h2.symm | exact absurd hk (by decide)
 have eight : ∀ n m : Int,Zy n → Zy m → ZcM n ++ r = ZcM m ++ r' → n = m ∧ r = r':=fun n m hn hm e=>by
  obtain ⟨e1,e2⟩:=List.append_inj e (by simp [ZcM])
  exact ⟨ZnZ hn hm e1,e2⟩
 rcases Zda hx with ⟨h1,h3⟩ | ⟨h1,h3,h5⟩ | ⟨h1,h3,h5⟩ | ⟨h1,h3⟩ <;> rcases Zda hy with ⟨h2,h4⟩ | ⟨h2,h4,h6⟩ | ⟨h2,h4,h6⟩ | ⟨h2,h4⟩ <;> first | (exfalso; omega) | skip
 ·rw [h1,h2] at ht
  obtain ⟨e1,e2⟩:=eight _ _ nx ny (by simpa using ht)
  exact ⟨ZeQ key e1 (h3.trans h4.symm),e2⟩
 ·rw [h1,h2] at ht
  obtain ⟨e1,e2⟩:=ZiK h5 h6 (by simpa using ht)
  exact ⟨ZeQ key (h3.trans h4.symm) e1,e2⟩
 ·rw [h1,h2] at ht
  simp at ht
  refine ⟨ZeQ key ?_ (h3.trans h4.symm),ht.2⟩
  rcases h5 with h5 | h5 <;> rcases h6 with h6 | h6 <;> rw [h5,h6] at ht <;> first | exact h5.trans h6.symm | exact absurd ht.1 (by decide)
 ·rw [h1,h2] at ht
  obtain ⟨e1,e2⟩:=eight _ _ nx ny (by simpa using ht)
  exact ⟨ZeQ key e1 (h3.trans h4.symm),e2⟩
theorem ZiL : ∀ {l m : List Val},l.all Z9 = true → m.all Z9 = true → (∀ x ∈ l,Zy x.n) → (∀ x ∈ m,Zy x.n) → QL l = QL m → l = m
 | [],[],_,_,_,_,_=>rfl
 | [],y :: m,_,_,_,_,h=>by simp [QL,Zaq] at h
 | x :: l,[],_,_,_,_,h=>by simp [QL,Zaq] at h
 | x :: l,y :: m,h1,h2,h3,h4,h=>by
  simp only [List.all_cons,Bool.and_eq_true] at h1 h2
  simp only [QL,List.flatMap_cons] at h
  obtain ⟨rfl,e⟩:=Zoa h1.1 h2.1 (h3 x (by simp)) (h4 y (by simp)) h
  rw [ZiL h1.2 h2.2 (fun z hz=>h3 z (by simp [hz])) (fun z hz=>h4 z (by simp [hz])) e]
theorem Zob {l m : List Val} (hl : l.length ≤ 1000) (hm : m.length ≤ 1000) (h1 : l.all Z9 = true) (h2 : m.all Z9 = true) (h3 : ∀ x ∈ l,Zy x.n) (h4 : ∀ x ∈ m,Zy x.n) (h : XF l = XF m) : l = m:=by
 unfold XF at h
 rw [if_pos ⟨hl,h1⟩,if_pos ⟨hm,h2⟩] at h
 exact ZiL h1 h2 h3 h4 h
end Go.Civ
