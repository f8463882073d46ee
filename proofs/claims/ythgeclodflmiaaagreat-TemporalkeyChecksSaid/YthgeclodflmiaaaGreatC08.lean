/- Lemmas. -/
import Derived.Test.YthgeclodflmiaaaGreatC05
import Derived.Test.YthgeclodflmiaaaGreatC06
import Derived.Test.YthgeclodflmiaaaGreatC07
import Derived.Deep.Slices
import Derived.SizedLaws
import Derived.OpenShut
import Derived.Lib.SlicesCompact
import Derived.WalkKit
import Derived.KernelRfl
import Derived.Shelf.Sort.Plain
namespace Go.Civ
open Go.RowKit Go.ChangeShapes Go.Deep
set_option linter.unusedVariables false
def GW (w : World) : GH:=fun b=>w.heap[b]?
theorem ZtS (w : World) : (GW w).In w:=fun _ _ h=>h
section
variable {H : Type} {enc : TypeId × Value → H} {P : Program} {w : World}
def Zfj (P : Program) (t : TypeId) (d : DataW H) : Prop:=∀ x ∈ DataW.weights P t d,x ≤ reachBytes
def Xa {α : Type} (enc : TypeId × Value → H) (P : Program) (w : World) (t : TypeId) (E : Enc α) : Prop:=
 ∀ fuel cs d pl,DataW.trod enc P w 0 (fun _=>true) true fuel t cs = some (d,pl) → Zfj P t d → ∃ x,E.rep (GW w) x cs
theorem Zaq {t : TypeId} (hu : P.underlying t = some (.int .i64)) : Xa enc P w t Enc.int:=fun fuel cs d pl h hl=>by
 obtain ⟨n,rfl,_,wf⟩:=DataW.trod_int hu h
 exact ⟨n,rfl,bounds_i64 wf⟩
theorem ZbV {t : TypeId} (hu : P.underlying t = some .string) : Xa enc P w t Enc.str:=fun fuel cs d pl h hl=>by
 obtain ⟨s,rfl,hd,_⟩:=DataW.trod_string hu h
 simp only [Prod.mk.injEq] at hd
 obtain ⟨rfl,_⟩:=hd
 have h1 : s.data.toList.length ≤ reachBytes:=hl _ (by simp [DataW.weights])
 refine ⟨s.data.toList,?_,Nat.le_trans h1 (by simp [reachBytes,reach])⟩
 simp [Zc]
theorem Zs0 {t : TypeId} {f0 f1 : Field} {d0 d1 : DataW H} (hu : P.underlying t = some (.struct #[f0,f1])) (h : Zfj P t (.agg [d0,d1])) : Zfj P f0.type d0 ∧ Zfj P f1.type d1:=by
 have e : DataW.weights P t (.agg [d0,d1]) = d0.weights P f0.type ++ (d1.weights P f1.type ++ []):=by
  rw [DataW.weights,hu]; simp [DataW.weightsEach]
 refine ⟨fun x hx=>h x (by rw [e]; simp [hx]),fun x hx=>h x (by rw [e]; simp [hx])⟩
theorem Zbp {α β γ : Type} {A : Enc α} {B : Enc β} {f : γ → α × β} {g : α × β → γ} {t : TypeId} {f0 f1 : Field} (surj : ∀ p,f (g p) = p) (hu : P.underlying t = some (.struct #[f0,f1])) (o0 : f0.offset = 0) (c0 : P.cellsOf f0.type = A.n) (o1 : f1.offset = A.n) (c1 : P.cellsOf f1.type = B.n)
  (ct : P.cellsOf t = A.n + B.n) (hA : Xa enc P w f0.type A) (hB : Xa enc P w f1.type B) : Xa enc P w t ((Enc.pair A B).via f):=fun fuel cs d pl h hl=>by
 obtain ⟨y0,y1,n,hx,hlen,h0,h1⟩:=trod_struct2 hu h
 simp only [Prod.mk.injEq] at hx
 obtain ⟨rfl,_⟩:=hx
 obtain ⟨l0,l1⟩:=Zs0 hu hl
 rw [o0,c0,List.drop_zero] at h0
 rw [o1,c1] at h1
 obtain ⟨x0,r0⟩:=hA _ _ _ _ h0 l0
 obtain ⟨x1,r1⟩:=hB _ _ _ _ h1 l1
 rw [List.take_of_length_le (by rw [List.length_drop,hlen,ct]; omega)] at r1
 exact ⟨g (x0,x1),by show (Enc.pair A B).rep _ (f (g (x0,x1))) _; rw [surj]; exact ⟨_,_,(List.take_append_drop A.n cs).symm,r0,r1⟩⟩
theorem Zi8 {base : Nat} {spare : Nat → Bool} {held : Bool} {t : TypeId} {f0 f1 f2 : Field} {fuel : Nat} {cs : List Value} {x : DataW H × List MemPlace} (ht : P.underlying t = some (.struct #[f0,f1,f2])) (h : DataW.trod enc P w base spare held fuel t cs = some x) :
  ∃ y0 y1 y2 n,x = (.agg [y0.1,y1.1,y2.1],y0.2 ++ (y1.2 ++ y2.2)) ∧ cs.length = P.cellsOf t ∧ DataW.trod enc P w base spare held n f0.type ((cs.drop f0.offset).take (P.cellsOf f0.type)) = some y0 ∧
   DataW.trod enc P w base spare held n f1.type ((cs.drop f1.offset).take (P.cellsOf f1.type)) = some y1 ∧ DataW.trod enc P w base spare held n f2.type ((cs.drop f2.offset).take (P.cellsOf f2.type)) = some y2:=by
 obtain ⟨xs,n,_,rfl,hl,hlen,hf⟩:=DataW.trod_struct ht h
 match xs,hlen with
 | [y0,y1,y2],_=>exact ⟨y0,y1,y2,n,by simp,hl,by simpa using hf 0 f0 rfl,by simpa using hf 1 f1 rfl,by simpa using hf 2 f2 rfl⟩
theorem Zf4 {α β γ δ : Type} {A : Enc α} {B : Enc β} {C : Enc γ} {f : δ → α × β × γ} {g : α × β × γ → δ} {t : TypeId} {f0 f1 f2 : Field} (surj : ∀ p,f (g p) = p) (hu : P.underlying t = some (.struct #[f0,f1,f2])) (o0 : f0.offset = 0) (c0 : P.cellsOf f0.type = A.n) (o1 : f1.offset = A.n) (c1 : P.cellsOf f1.type = B.n)
  (o2 : f2.offset = A.n + B.n) (c2 : P.cellsOf f2.type = C.n) (ct : P.cellsOf t = A.n + (B.n + C.n)) (hA : Xa enc P w f0.type A) (hB : Xa enc P w f1.type B) (hC : Xa enc P w f2.type C) : Xa enc P w t ((Enc.pair A (Enc.pair B C)).via f):=fun fuel cs d pl h hl=>by
 obtain ⟨y0,y1,y2,n,hx,hlen,h0,h1,h2⟩:=Zi8 hu h
 simp only [Prod.mk.injEq] at hx
 obtain ⟨rfl,_⟩:=hx
 have e : DataW.weights P t (.agg [y0.1,y1.1,y2.1]) = y0.1.weights P f0.type ++ (y1.1.weights P f1.type ++ (y2.1.weights P f2.type ++ [])):=by
  rw [DataW.weights,hu]; simp [DataW.weightsEach]
 rw [o0,c0,List.drop_zero] at h0
 rw [o1,c1] at h1
 rw [o2,c2] at h2
 obtain ⟨x0,r0⟩:=hA _ _ _ _ h0 fun x hx=>hl x (by rw [e]; simp [hx])
 obtain ⟨x1,r1⟩:=hB _ _ _ _ h1 fun x hx=>hl x (by rw [e]; simp [hx])
 obtain ⟨x2,r2⟩:=hC _ _ _ _ h2 fun x hx=>hl x (by rw [e]; simp [hx])
 rw [List.take_of_length_le (by rw [List.length_drop,hlen,ct]; omega)] at r2
 refine ⟨g (x0,x1,x2),?_⟩
 show (Enc.pair A (Enc.pair B C)).rep _ (f (g (x0,x1,x2))) _
 rw [surj]
 refine ⟨_,_,(List.take_append_drop A.n cs).symm,r0,(cs.drop A.n).take B.n,cs.drop (A.n + B.n),?_,r1,r2⟩
 rw [← List.drop_drop,List.take_append_drop]
theorem Zd6 {e : TypeId} {d : DataW H} {x : Nat} : ∀ {ds : List (DataW H)},d ∈ ds → x ∈ d.weights P e → x ∈ DataW.weightsAll P e ds
 | [],h,_=>by simp at h
 | y :: ds,h,hx=>by
  rw [DataW.weightsAll]
  rcases List.mem_cons.1 h with rfl | h
  ·exact List.mem_append_left _ hx
  ·exact List.mem_append_right _ (Zd6 h hx)
theorem ZkU {α : Type} {p : Nat → α → Prop} : ∀ n,(∀ i,i < n → ∃ x,p i x) → ∃ l : List α,l.length = n ∧ ∀ (i : Nat) x,l[i]? = some x → p i x
 | 0,_=>⟨[],rfl,fun i x h=>by simp at h⟩
 | n + 1,h=>by
  obtain ⟨l,hl,hp⟩:=ZkU n fun i hi=>h i (by omega)
  obtain ⟨y,hy⟩:=h n (by omega)
  refine ⟨l ++ [y],by simp [hl],fun i x hx=>?_⟩
  rw [List.getElem?_append] at hx
  split at hx
  ·exact hp i x hx
  ·rename_i hi
   have : i = n:=by
    have h1:=(List.getElem?_eq_some_iff.1 hx).1
    simp at h1; omega
   subst this
   rw [hl,Nat.sub_self] at hx
   simp at hx; subst hx; exact hy
theorem ZoO {a : Addr} {n : Nat} {cs : List Value} (hs : a.spot = none) (h : w.cells? 0 a n = some cs) (hn : 0 < n) : XL (GW w) a cs:=by
 obtain ⟨_,hl,hc⟩:=World.cells?_some h
 have key : ∀ (j : Nat) v,cs[j]? = some v → w.cell? ⟨a.block,a.off + j,none⟩ = some v:=fun j v hv=>by
  have hj : j < n:=by have:=(List.getElem?_eq_some_iff.1 hv).1; omega
  have:=hc j hj
  rw [YG _ _ hs,hv] at this; exact this
 obtain ⟨v0,hv0⟩ : ∃ v,cs[0]? = some v:=⟨_,List.getElem?_eq_getElem (by omega)⟩
 have h0:=key 0 v0 hv0
 unfold World.cell? at h0
 split at h0
 ·rename_i c e fz hb
  refine ⟨hs,c,e,fz,hb,fun j v hv=>?_⟩
  have:=key j v hv
  unfold World.cell? at this
  rw [hb] at this
  simpa using this
 ·simp at h0
theorem Zac {α : Type} {E : Enc α} {by_ : Nat} {t e : TypeId} (ht : P.underlying t = some (.slice e)) (hc : P.cellsOf e = E.n) (hn : 0 < E.n) (hby : P.bytesOf e = by_) (hb1 : 0 < by_) (hE : Xa enc P w e E) : Xa enc P w t (E.slice by_):=fun fuel cs d pl h hl=>by
 rcases open_slice ht h with ⟨rfl,hx⟩ | ⟨a,len,cap,m,n,D,Pl,rfl,hb',hlc,hm,hmm,hx,hel⟩
 ·exact ⟨[], .slice none 0 0,rfl,Sl.nil E by_ (GW w)⟩
 ·simp only [if_true] at hmm
  subst hmm
  simp only [Prod.mk.injEq] at hx
  obtain ⟨rfl,_⟩:=hx
  have ew : DataW.weights P t (.slice ((List.range len).map D) ((List.range (m - len)).map fun j=>D (len + j))) = (len + (m - len)) * by_ :: (DataW.weightsAll P e ((List.range len).map D) ++ DataW.weightsAll P e ((List.range (m - len)).map fun j=>D (len + j))):=by
   rw [DataW.weights,ht]; simp [hby]
  have hw : (len + (m - len)) * by_ ≤ reachBytes:=hl _ (by rw [ew]; simp)
  have hlen : len * by_ ≤ reach:=by
   have h1 : len * by_ ≤ (len + (m - len)) * by_:=Nat.mul_le_mul_right _ (by omega)
   have h2 : reachBytes ≤ reach:=by simp [reachBytes,reach]
   omega
  have hlen1 : len ≤ reach:=Nat.le_trans (Nat.le_mul_of_pos_right _ hb1) hlen
  rcases Nat.eq_zero_or_pos len with h0 | hpos
  ·subst h0
   exact ⟨[], .slice (some a) 0 m,rfl,some a,m,rfl,Nat.zero_le _,by simp,by simp,fun i x hx=>by simp at hx⟩
  ·have hspot : a.spot = none:=by
    obtain ⟨cs',h1,_⟩:=hel 0 (by omega)
    rw [hc] at h1
    obtain ⟨_,hl',hcc⟩:=World.cells?_some h1
    have:=hcc 0 hn
    obtain ⟨v0,hv0⟩ : ∃ v,cs'[0]? = some v:=⟨_,List.getElem?_eq_getElem (by omega)⟩
    rw [hv0] at this
    have:=World.cell?_spot this
    simpa [Addr.add] using this
   obtain ⟨l,hll,hp⟩:=ZkU (α:=α) (p:=fun i x=>Ze5 E (GW w) (a.add (i * E.n)) x) len fun i hi=>by
    obtain ⟨cs',h1,h2⟩:=hel i (by omega)
    obtain ⟨x,hx⟩:=hE _ _ _ _ h2 fun y hy=>hl y (by rw [ew]; exact List.mem_cons_of_mem _ (List.mem_append_left _ (Zd6 (List.mem_map.2 ⟨i,List.mem_range.2 hi,rfl⟩) hy)))
    rw [hc] at h1
    exact ⟨x,cs',ZoO (by rw [YG _ _ hspot]) h1 hn,hx⟩
   subst hll
   exact ⟨l,_,rfl,some a,m,rfl,hlc,hlen,hlen1,fun i x hx=>⟨a,rfl,hspot,hp i x hx⟩⟩
theorem ZmS {α : Type} {E : Enc α} {by_ : Nat} {t : TypeId} {v : Value} {d : DataW H} {p : List MemPlace} (hO : Xa enc P w t (E.slice by_)) (hv : ∃ a len cap,v = .slice a len cap) (h : DataW.Trod enc P w 0 (fun _=>true) true t v d p) (hl : Zfj P t d) : ∃ l,Sl E by_ (GW w) v l:=by
 obtain ⟨fuel,hf⟩:=h
 obtain ⟨a,len,cap,rfl⟩:=hv
 obtain ⟨l,v,hcs,hs⟩:=hO _ _ _ _ hf hl
 simp [Value.cells] at hcs
 subst hcs
 exact ⟨l,hs⟩
theorem ZlB {t : TypeId} {ts : List TypeId} {d : DataW H} {ds : List (DataW H)} (h : (DataW.weightsEach P (t :: ts) (d :: ds)).all (fun x=>decide (x ≤ reachBytes)) = true) : Zfj P t d ∧ (DataW.weightsEach P ts ds).all (fun x=>decide (x ≤ reachBytes)) = true:=by
 rw [DataW.weightsEach,List.all_append,Bool.and_eq_true] at h
 exact ⟨fun x hx=>by have:=List.all_eq_true.1 h.1 x hx; simpa using this,h.2⟩
end
end Go.Civ
namespace Go.Civ
open Go.RowKit
set_option linter.unusedVariables false
structure Rect where
 d : Span
 x : Span
deriving DecidableEq
structure HRow where
 v : List Val
 r : Rect
deriving DecidableEq
structure Foreign where
 cols : List (List UInt8)
 table : List UInt8
deriving DecidableEq
structure Schema where
 name : List UInt8
 cols : List Col
 key : Int
 fks : List Foreign
deriving DecidableEq
structure Table where
 s : Schema
 rows : List HRow
 last : Int
deriving DecidableEq
def RectE : Enc Rect:=(Enc.pair SpanE SpanE).via fun x=>(x.d,x.x)
def HRowE : Enc HRow:=(Enc.pair (ValE.slice 32) RectE).via fun x=>(x.v,x.r)
def ForeignE : Enc Foreign:=(Enc.pair (Enc.str.slice 16) .str).via fun x=>(x.cols,x.table)
def SchemaE : Enc Schema:=(Enc.pair .str (Enc.pair (ColE.slice 24) (Enc.pair .int (ForeignE.slice 40)))).via fun x=>(x.name,x.cols,x.key,x.fks)
def TableE : Enc Table:=(Enc.pair SchemaE (Enc.pair (HRowE.slice 56) .int)).via fun x=>(x.s,x.rows,x.last)
section
variable {G : GH} {cs : List Value}
theorem ZlI {x : Rect} (h : RectE.rep G x cs) : cs = [.int .i64 x.d.a, .int .i64 x.d.b, .int .i64 x.x.a, .int .i64 x.x.b] ∧ Z1 x.d.a ∧ Z1 x.d.b ∧ Z1 x.x.a ∧ Z1 x.x.b:=by
 obtain ⟨c1,c2,rfl,h1,h2⟩:=h
 obtain ⟨rfl,h3,h4⟩:=ZP h1
 obtain ⟨rfl,h5,h6⟩:=ZP h2
 exact ⟨rfl,h3,h4,h5,h6⟩
theorem ZoT (x : Rect) (h1 : Z1 x.d.a) (h2 : Z1 x.d.b) (h3 : Z1 x.x.a) (h4 : Z1 x.x.b) : RectE.rep G x [.int .i64 x.d.a, .int .i64 x.d.b, .int .i64 x.x.a, .int .i64 x.x.b]:=
 ⟨_,_,rfl,Zw x.d h1 h2,Zw x.x h3 h4⟩
theorem Z7 {x : HRow} (h : HRowE.rep G x cs) : ∃ v,cs = [v, .int .i64 x.r.d.a, .int .i64 x.r.d.b, .int .i64 x.r.x.a, .int .i64 x.r.x.b] ∧ Sl ValE 32 G v x.v ∧ Z1 x.r.d.a ∧ Z1 x.r.d.b ∧ Z1 x.r.x.a ∧ Z1 x.r.x.b:=by
 obtain ⟨c1,c2,rfl,⟨v,rfl,h1⟩,h2⟩:=h
 obtain ⟨rfl,h3,h4,h5,h6⟩:=ZlI h2
 exact ⟨v,rfl,h1,h3,h4,h5,h6⟩
theorem Ya (x : HRow) {v : Value} (h1 : Sl ValE 32 G v x.v) (h2 : Z1 x.r.d.a) (h3 : Z1 x.r.d.b) (h4 : Z1 x.r.x.a) (h5 : Z1 x.r.x.b) :
  HRowE.rep G x [v, .int .i64 x.r.d.a, .int .i64 x.r.d.b, .int .i64 x.r.x.a, .int .i64 x.r.x.b]:=⟨[v],_,rfl,⟨v,rfl,h1⟩,ZoT x.r h2 h3 h4 h5⟩
theorem XC {x : Foreign} (h : ForeignE.rep G x cs) : ∃ v,cs = [v,Zc x.table] ∧ Sl Enc.str 16 G v x.cols ∧ x.table.length ≤ reach:=by
 obtain ⟨c1,c2,rfl,⟨v,rfl,h1⟩,rfl,h2⟩:=h
 exact ⟨v,rfl,h1,h2⟩
theorem ZaU (x : Foreign) {v : Value} (h1 : Sl Enc.str 16 G v x.cols) (h2 : x.table.length ≤ reach) : ForeignE.rep G x [v,Zc x.table]:=⟨[v],_,rfl,⟨v,rfl,h1⟩,rfl,h2⟩
theorem Yk {x : Schema} (h : SchemaE.rep G x cs) : ∃ v u,cs = [Zc x.name,v, .int .i64 x.key,u] ∧ x.name.length ≤ reach ∧ Sl ColE 24 G v x.cols ∧ Z1 x.key ∧ Sl ForeignE 40 G u x.fks:=by
 obtain ⟨c1,c2,rfl,⟨rfl,h1⟩,c3,c4,rfl,⟨v,rfl,h2⟩,c5,c6,rfl,⟨rfl,h3⟩,u,rfl,h4⟩:=h
 exact ⟨v,u,rfl,h1,h2,h3,h4⟩
theorem Yg (x : Schema) {v u : Value} (h1 : x.name.length ≤ reach) (h2 : Sl ColE 24 G v x.cols) (h3 : Z1 x.key) (h4 : Sl ForeignE 40 G u x.fks) : SchemaE.rep G x [Zc x.name,v, .int .i64 x.key,u]:=
 ⟨_,_,rfl,⟨rfl,h1⟩,_,_,rfl,⟨v,rfl,h2⟩,_,_,rfl,⟨rfl,h3⟩,u,rfl,h4⟩
theorem Z0 {x : Table} (h : TableE.rep G x cs) : ∃ v u r,cs = [Zc x.s.name,v, .int .i64 x.s.key,u,r, .int .i64 x.last] ∧ x.s.name.length ≤ reach ∧ Sl ColE 24 G v x.s.cols ∧ Z1 x.s.key ∧ Sl ForeignE 40 G u x.s.fks ∧ Sl HRowE 56 G r x.rows ∧ Z1 x.last:=by
 obtain ⟨c1,c2,rfl,h0,c3,c4,rfl,⟨r,rfl,h2⟩,rfl,h3⟩:=h
 obtain ⟨v,u,rfl,h4,h5,h6,h7⟩:=Yk h0
 exact ⟨v,u,r,rfl,h4,h5,h6,h7,h2,h3⟩
theorem Zs (x : Table) {v u r : Value} (h1 : x.s.name.length ≤ reach) (h2 : Sl ColE 24 G v x.s.cols) (h3 : Z1 x.s.key) (h4 : Sl ForeignE 40 G u x.s.fks) (h5 : Sl HRowE 56 G r x.rows) (h6 : Z1 x.last) :
  TableE.rep G x [Zc x.s.name,v, .int .i64 x.s.key,u,r, .int .i64 x.last]:=⟨_,_,rfl,Yg x.s h1 h2 h3 h4,_,_,rfl,⟨r,rfl,h5⟩,rfl,h6⟩
end
def u63 (n : Int) : Nat:=(n + 9223372036854775808).toNat
def Zg2 (n k : Nat) : UInt8:=UInt8.ofNat (n / 2 ^ k)
def Zdq (n : Int) : List UInt8:=[56,48,40,32,24,16,8,0].map (Zg2 (u63 n))
def ZaM (x : Val) : List UInt8:=UInt8.ofNat x.k.toNat :: (if x.k = 2 then x.s ++ [0] else if x.k = 3 then [UInt8.ofNat x.n.toNat] else Zdq x.n)
def Zaf (l : List Val) : List UInt8:=l.flatMap ZaM
def XY (l : List Val) : List UInt8:=if l.length ≤ 1000 ∧ l.all ZK = true then Zaf l else []
theorem ZhL (n k : Nat) : (Zg2 n k).toNat = n / 2 ^ k % 256:=by unfold Zg2; simp
theorem dig {a b k : Nat} (h : a / 2 ^ k % 256 = b / 2 ^ k % 256) (hk : a / 2 ^ (k + 8) = b / 2 ^ (k + 8)) : a / 2 ^ k = b / 2 ^ k:=by
 rw [Nat.pow_add,← Nat.div_div_eq_div_mul,← Nat.div_div_eq_div_mul] at hk
 generalize a / 2 ^ k = x at *
 generalize b / 2 ^ k = y at *
 have e : (2 : Nat) ^ 8 = 256:=rfl
 rw [e] at hk
 omega
theorem ZoU {m n : Int} (hm : Z1 m) (hn : Z1 n) (h : Zdq m = Zdq n) : m = n:=by
 have e : ∀ k,k ∈ [56,48,40,32,24,16,8,0] → u63 m / 2 ^ k % 256 = u63 n / 2 ^ k % 256:=fun k hk=>by
  have:=List.map_inj_left.1 h k hk
  rw [← ZhL,← ZhL,this]
 have bm : u63 m < 2 ^ 64:=by unfold u63; have:=hm.1; have:=hm.2; omega
 have bn : u63 n < 2 ^ 64:=by unfold u63; have:=hn.1; have:=hn.2; omega
 have h64 : u63 m / 2 ^ (56 + 8) = u63 n / 2 ^ (56 + 8):=by rw [Nat.div_eq_of_lt bm,Nat.div_eq_of_lt bn]
 have h56:=dig (e 56 (by simp)) h64
 have h48:=dig (e 48 (by simp)) h56
 have h40:=dig (e 40 (by simp)) h48
 have h32:=dig (e 32 (by simp)) h40
 have h24:=dig (e 24 (by simp)) h32
 have h16:=dig (e 16 (by simp)) h24
 have h8:=dig (e 8 (by simp)) h16
 have h0:=dig (e 0 (by simp)) h8
 rw [Nat.pow_zero,Nat.div_one,Nat.div_one] at h0
 unfold u63 at h0
 have:=hm.1; have:=hn.1
 omega
theorem Zjq : ∀ {s t r r' : List UInt8},s.all okC = true → t.all okC = true → s ++ 0 :: r = t ++ 0 :: r' → s = t ∧ r = r'
 | [],[],r,r',_,_,h=>⟨rfl,(List.cons.inj h).2⟩
 | [],c :: t,r,r',_,h2,h=>by
  have e:=(List.cons.inj h).1
  subst e
  simp [okC] at h2
 | c :: s,[],r,r',h1,_,h=>by
  have e:=(List.cons.inj h).1
  subst e
  simp [okC] at h1
 | c :: s,c' :: t,r,r',h1,h2,h=>by
  have e:=List.cons.inj h
  simp only [List.all_cons,Bool.and_eq_true] at h1 h2
  obtain ⟨rfl,rfl⟩:=Zjq h1.2 h2.2 e.2
  exact ⟨by rw [e.1],rfl⟩
theorem ZdB {x : Val} (h : ZK x = true) : (x.k = 1 ∧ x.s = []) ∨ (x.k = 2 ∧ x.n = 0 ∧ x.s.all okC = true) ∨ (x.k = 3 ∧ x.s = [] ∧ (x.n = 0 ∨ x.n = 1)) ∨ (x.k = 4 ∧ x.s = []):=by
 unfold ZK at h
 by_cases h1 : x.k = 1
 ·simp [h1] at h; exact .inl ⟨h1,h⟩
 ·by_cases h2 : x.k = 2
  ·simp [h2] at h; exact .inr (.inl ⟨h2,h.1.1,by simpa using h.2⟩)
  ·by_cases h3 : x.k = 3
   ·simp [h3] at h; exact .inr (.inr (.inl ⟨h3,h.1,h.2⟩))
   ·by_cases h4 : x.k = 4
    ·simp [h4] at h; exact .inr (.inr (.inr ⟨h4,h.1.1⟩))
    ·simp [h1,h2,h3,h4] at h
theorem Zfm {x y : Val} (h1 : x.k = y.k) (h2 : x.n = y.n) (h3 : x.s = y.s) : x = y:=by cases x; cases y; simp_all
theorem ZoV {x y : Val} {r r' : List UInt8} (hx : ZK x = true) (hy : ZK y = true) (nx : Z1 x.n) (ny : Z1 y.n) (h : ZaM x ++ r = ZaM y ++ r') : x = y ∧ r = r':=by
 unfold ZaM at h
 rw [List.cons_append,List.cons_append] at h
 obtain ⟨hk,ht⟩:=List.cons.inj h
 have key : x.k = y.k:=by
  rcases ZdB hx with ⟨h1,_⟩ | ⟨h1,_⟩ | ⟨h1,_⟩ | ⟨h1,_⟩ <;> rcases ZdB hy with ⟨h2,_⟩ | ⟨h2,_⟩ | ⟨h2,_⟩ | ⟨h2,_⟩ <;> rw [h1,h2] at hk <;> first | exact h1.trans h2.symm | exact absurd hk (by decide)
 have eight : ∀ n m : Int,Z1 n → Z1 m → Zdq n ++ r = Zdq m ++ r' → n = m ∧ r = r':=fun n m hn hm e=>by
  obtain ⟨e1,e2⟩:=List.append_inj e (by simp [Zdq])
  exact ⟨ZoU hn hm e1,e2⟩
 rcases ZdB hx with ⟨h1,h3⟩ | ⟨h1,h3,h5⟩ | ⟨h1,h3,h5⟩ | ⟨h1,h3⟩ <;> rcases ZdB hy with ⟨h2,h4⟩ | ⟨h2,h4,h6⟩ | ⟨h2,h4,h6⟩ | ⟨h2,h4⟩ <;> first | (exfalso; omega) | skip
 ·rw [h1,h2] at ht
  obtain ⟨e1,e2⟩:=eight _ _ nx ny (by simpa using ht)
  exact ⟨Zfm key e1 (h3.trans h4.symm),e2⟩
 ·rw [h1,h2] at ht
  obtain ⟨e1,e2⟩:=Zjq h5 h6 (by simpa using ht)
  exact ⟨Zfm key (h3.trans h4.symm) e1,e2⟩
 ·rw [h1,h2] at ht
  simp at ht
  refine ⟨Zfm key ?_ (h3.trans h4.symm),ht.2⟩
  rcases h5 with h5 | h5 <;> rcases h6 with h6 | h6 <;> rw [h5,h6] at ht <;> first | exact h5.trans h6.symm | exact absurd ht.1 (by decide)
 ·rw [h1,h2] at ht
  obtain ⟨e1,e2⟩:=eight _ _ nx ny (by simpa using ht)
  exact ⟨Zfm key e1 (h3.trans h4.symm),e2⟩
theorem Zjr : ∀ {l m : List Val},l.all ZK = true → m.all ZK = true → (∀ x ∈ l,Z1 x.n) → (∀ x ∈ m,Z1 x.n) → Zaf l = Zaf m → l = m
 | [],[],_,_,_,_,_=>rfl
 | [],y :: m,_,_,_,_,h=>by simp [Zaf,ZaM] at h
 | x :: l,[],_,_,_,_,h=>by simp [Zaf,ZaM] at h
 | x :: l,y :: m,h1,h2,h3,h4,h=>by
  simp only [List.all_cons,Bool.and_eq_true] at h1 h2
  simp only [Zaf,List.flatMap_cons] at h
  obtain ⟨rfl,e⟩:=ZoV h1.1 h2.1 (h3 x (by simp)) (h4 y (by simp)) h
  rw [Zjr h1.2 h2.2 (fun z hz=>h3 z (by simp [hz])) (fun z hz=>h4 z (by simp [hz])) e]
theorem ZoW {l m : List Val} (hl : l.length ≤ 1000) (hm : m.length ≤ 1000) (h1 : l.all ZK = true) (h2 : m.all ZK = true) (h3 : ∀ x ∈ l,Z1 x.n) (h4 : ∀ x ∈ m,Z1 x.n) (h : XY l = XY m) : l = m:=by
 unfold XY at h
 rw [if_pos ⟨hl,h1⟩,if_pos ⟨hm,h2⟩] at h
 exact Zjr h1 h2 h3 h4 h
end Go.Civ
namespace Go.Civ
set_option linter.unusedVariables false
open Go.Lib (compact compactUpTo keeps)
structure CInv (z : List Int) (m : Nat) (c : List Int) : Prop where
 inc : c.Pairwise (· < ·)
 mem : ∀ x,x ∈ c ↔ ∃ j,j < m ∧ z[j]? = some x
theorem ZcZ {z : List Int} (hs : z.Pairwise (· ≤ ·)) : ∀ m,m ≤ z.length → CInv z m (compactUpTo z.toArray m)
 | 0,_=>⟨by simp [compactUpTo],fun x=>by simp [compactUpTo]⟩
 | m + 1,hm=>by
  have ih:=ZcZ hs m (by omega)
  have hlt : m < z.length:=by omega
  have hz : z.toArray[m]! = z[m]:=by rw [getElem!_pos z.toArray m (by simpa using hlt)]; simp
  have hzm : z[m]? = some z[m]:=List.getElem?_eq_getElem hlt
  rw [Go.Lib.compactUpTo_succ]
  cases hk : keeps z.toArray m with
  | true=>
   simp only [if_true,hz]
   refine ⟨List.pairwise_append.2 ⟨ih.inc,by simp,fun a ha b hb=>?_⟩,fun x=>?_⟩
   ·obtain rfl:=List.mem_singleton.1 hb
    obtain ⟨j,hj,hja⟩:=(ih.mem a).1 ha
    have hm0 : 0 < m:=by omega
    have hz1 : z.toArray[m - 1]! = z[m - 1]:=by rw [getElem!_pos z.toArray (m - 1) (by simp; omega)]; simp
    have hne : z[m] ≠ z[m - 1]:=by
     unfold keeps at hk
     simp only [decide_eq_true_eq] at hk
     rcases hk with h | h
     ·omega
     ·rwa [hz,hz1] at h
    obtain ⟨hjl,rfl⟩:=List.getElem?_eq_some_iff.1 hja
    have h1 : z[m - 1] ≤ z[m]:=List.pairwise_iff_getElem.1 hs (m - 1) m (by omega) hlt (by omega)
    have h2 : z[j] ≤ z[m - 1]:=by
     by_cases e : j = m - 1
     ·subst e; exact Int.le_refl _
     ·exact List.pairwise_iff_getElem.1 hs j (m - 1) hjl (by omega) (by omega)
    omega
   ·rw [List.mem_append,ih.mem,List.mem_singleton]
    constructor
    ·rintro (⟨j,hj,h⟩ | rfl)
     ·exact ⟨j,by omega,h⟩
     ·exact ⟨m,by omega,hzm⟩
    ·rintro ⟨j,hj,h⟩
     by_cases e : j = m
     ·subst e; rw [hzm] at h; exact .inr (Option.some.inj h).symm
     ·exact .inl ⟨j,by omega,h⟩
  | false=>
   have h:=hk
   unfold keeps at h
   simp only [decide_eq_false_iff_not,not_or,Classical.not_not] at h
   have hz1 : z.toArray[m - 1]! = z[m - 1]:=by rw [getElem!_pos z.toArray (m - 1) (by simp; omega)]; simp
   rw [hz,hz1] at h
   simp only [Bool.false_eq_true,if_false,List.append_nil]
   refine ⟨ih.inc,fun x=>?_⟩
   rw [ih.mem]
   constructor
   ·rintro ⟨j,hj,h⟩; exact ⟨j,by omega,h⟩
   ·rintro ⟨j,hj,hx⟩
    by_cases e : j = m
    ·subst e
     rw [hzm] at hx
     obtain rfl:=Option.some.inj hx
     exact ⟨j - 1,by omega,by rw [List.getElem?_eq_getElem (by omega),h.2]⟩
    ·exact ⟨j,by omega,hx⟩
theorem Zdv {z : List Int} (hs : z.Pairwise (· ≤ ·)) : CInv z z.length (compact z):=ZcZ hs _ (Nat.le_refl _)
theorem Zf6 {z : List Int} (hs : z.Pairwise (· ≤ ·)) {x : Int} : x ∈ compact z ↔ x ∈ z:=by
 rw [(Zdv hs).mem]
 constructor
 ·rintro ⟨j,_,h⟩; exact List.mem_of_getElem? h
 ·intro h
  obtain ⟨j,hj⟩:=List.getElem?_of_mem h
  exact ⟨j,(List.getElem?_eq_some_iff.1 hj).1,hj⟩
theorem Zf7 (z : List Int) : (compact z).length ≤ z.length:=by
 unfold compact compactUpTo
 rw [List.length_map]
 exact Nat.le_trans (List.length_filter_le _ _) (by simp)
def XO (l : List Int) : List Int:=l.mergeSort fun x y=>decide (x ≤ y)
theorem Zda (l : List Int) : (XO l).Pairwise (· ≤ ·):=by
 have:=List.pairwise_mergeSort (le:=fun (x y : Int)=>decide (x ≤ y)) (fun a b c h1 h2=>by simp at *; omega) (fun a b=>by simp; omega) l
 exact this.imp fun h=>by simpa using h
theorem ZdT (l : List Int) : (XO l).Perm l:=List.mergeSort_perm _ _
def Zfq : List Int → Bool
 | x :: y :: r=>decide (x ≤ y) && Zfq (y :: r)
 | _=>true
theorem Zf8 : ∀ {l : List Int},(∀ (k : Nat) x y,l[k]? = some y → l[k + 1]? = some x → y ≤ x) → Zfq l = true
 | a :: b :: r,h=>by
  simp only [Zfq,Bool.and_eq_true,decide_eq_true_eq]
  exact ⟨h 0 b a rfl rfl,Zf8 fun k x y h1 h2=>h (k + 1) x y (by simpa using h1) (by simpa using h2)⟩
 | [],_=>rfl
 | [_],_=>rfl
def ZdU (l : List Int) (j : Int) : Prop:=∀ (q : Nat) (x y : Int),j ≤ q → l[q]? = some y → l[q + 1]? = some x → y ≤ x
theorem ZdU.start {l : List Int} {j : Int} (h : (l.length : Int) - 1 ≤ j) : ZdU l j:=fun q x y hq h1 h2=>by
 have:=(List.getElem?_eq_some_iff.1 h2).1; omega
theorem ZdU.step {l : List Int} {j x y : Int} (h : ZdU l j) (hj : 0 < j) (h1 : l[j.toNat]? = some x) (h2 : l[(j - 1).toNat]? = some y) (hxy : decide (x < y) = false) : ZdU l (j - 1):=fun q u v hq k1 k2=>by
 by_cases e : (q : Int) = j - 1
 ·have e1 : q = (j - 1).toNat:=by omega
  have e2 : q + 1 = j.toNat:=by omega
  rw [e2,h1] at k2
  rw [e1,h2] at k1
  obtain rfl:=Option.some.inj k1
  obtain rfl:=Option.some.inj k2
  have:=of_decide_eq_false hxy; omega
 ·exact h q u v (by omega) k1 k2
theorem ZdU.yes {l : List Int} {j : Int} (h : ZdU l j) (hj : j ≤ 0) : Zfq l = true:=Zf8 fun k x y h1 h2=>h k x y (by omega) h1 h2
end Go.Civ
set_option linter.unusedVariables false
namespace Go.Civ
open Go.Proofs Go.Shelf Go.RowKit Go.Lib Go.Sort
abbrev BSpan:={ s : Span // -4398046511104 ≤ s.a ∧ s.a ≤ 4398046511104 }
instance : Inhabited BSpan:=⟨⟨⟨0,0⟩,by decide⟩⟩
def Zby (x : BSpan) : List Value:=[.int .i64 x.1.a, .int .i64 x.1.b]
def cfB (x y : BSpan) : Int:=x.1.a - y.1.a
set_option maxHeartbeats 1000000 in
theorem Zmt (x y : BSpan) (W : World) : Calls Tryz.prog 190 #[.agg #[.int .i64 x.1.a, .int .i64 x.1.b], .agg #[.int .i64 y.1.a, .int .i64 y.1.b]] W fun e w'=>e = .returned (.int .i64 (cfB x y)) ∧ ∃ q os',w' = grow (W.drewN q) os':=by
 obtain ⟨⟨xa,xb⟩,hx⟩:=x
 obtain ⟨⟨ya,yb⟩,hy⟩:=y
 simp only [cfB]
 have hw : IntKind.wrap .i64 (xa - ya) = xa - ya:=Zd5 ⟨by simp at hx hy; omega,by simp at hx hy; omega⟩
 go_enter Tryz.func190,Tryz.ntmps190
 go_wp2
 go_ret
 exact ⟨rfl,0,_,by rw [alloc_eq_grow,alloc_eq_grow,grow_grow]; rfl⟩
theorem Zv2 : SWO (ltOf cfB) where
 irrefl x:=decide_eq_false (show ¬ x.1.a - x.1.a < 0 by omega)
 trans x y z h1 h2:=by
  have h1' : x.1.a - y.1.a < 0:=of_decide_eq_true h1
  have h2' : y.1.a - z.1.a < 0:=of_decide_eq_true h2
  exact decide_eq_true (show x.1.a - z.1.a < 0 by omega)
 ntrans x y z h1 h2:=by
  have h1' : ¬ x.1.a - y.1.a < 0:=of_decide_eq_false h1
  have h2' : ¬ y.1.a - z.1.a < 0:=of_decide_eq_false h2
  exact decide_eq_false (show ¬ x.1.a - z.1.a < 0 by omega)
theorem ZjN {α : Type} (enc : α → List Value) (h2 : ∀ x,(enc x).length = 2) : ∀ (l : List α) (t : Nat),(l.flatMap enc)[t]? = (l[t / 2]?).bind fun x=>(enc x)[t % 2]?
 | [],t=>by simp
 | x :: l,t=>by
  rw [List.flatMap_cons,List.getElem?_append]
  by_cases ht : t < 2
  ·rw [if_pos (by rw [h2]; exact ht),show t / 2 = 0 by omega,Nat.mod_eq_of_lt ht]; rfl
  ·rw [if_neg (by rw [h2]; exact ht),h2,ZjN enc h2 l (t - 2),show (t - 2) / 2 = t / 2 - 1 by omega,show (t - 2) % 2 = t % 2 by omega]
   obtain ⟨m,hm⟩ : ∃ m,t / 2 = m + 1:=⟨t / 2 - 1,by omega⟩
   rw [hm]; simp
theorem ZjO {α : Type} [Inhabited α] (enc : α → List Value) (h2 : ∀ x,(enc x).length = 2) (d : Array α) (t : Nat) (ht : t < d.size * 2) : (d.toList.flatMap enc)[t]? = some ((flatK enc 2 d)[t]!):=by
 rw [ZjN enc h2,get_flatK enc 2 d t ht]
 have hd : t / 2 < d.size:=by omega
 have e : d.toList[t / 2]? = some d[t / 2]! :=by
  rw [getElem!_pos d (t / 2) hd,Array.getElem?_toList,Array.getElem?_eq_getElem hd]
 rw [e]
 simp only [Option.bind_some]
 have hl : t % 2 < (enc d[t / 2]!).length:=by rw [h2]; omega
 rw [List.getElem?_eq_getElem hl,getElem!_pos (enc d[t / 2]!) (t % 2) hl]
theorem ZfV {G : GH} : ∀ (l : List BSpan),(∀ x ∈ l,Z1 x.1.b) → Xp SpanE G (l.map (·.1)) (l.flatMap Zby)
 | [],_=>rfl
 | x :: l,h=>⟨Zby x,l.flatMap Zby,rfl,Zw x.1 ⟨by have:=x.2; omega,by have:=x.2; omega⟩ (h x (by simp)),ZfV l fun y hy=>h y (by simp [hy])⟩
theorem ZgK {G : GH} : ∀ (l : List BSpan) (xs : List Value),Xp SpanE G (l.map (·.1)) xs → xs = l.flatMap Zby ∧ ∀ x ∈ l,Z1 x.1.b
 | [],xs,h=>⟨h,by simp⟩
 | x :: l,xs,⟨c,r,h1,h2,h3⟩=>by
  obtain ⟨rfl,_,hb⟩:=ZP h2
  obtain ⟨rfl,h4⟩:=ZgK l r h3
  refine ⟨h1,fun y hy=>?_⟩
  rcases List.mem_cons.1 hy with rfl | hy
  ·exact hb
  ·exact h4 y hy
theorem ZfC : ∀ (l : List Span),(∀ s ∈ l, -4398046511104 ≤ s.a ∧ s.a ≤ 4398046511104) → ∃ d : List BSpan,d.map (·.1) = l
 | [],_=>⟨[],rfl⟩
 | s :: l,h=>by
  obtain ⟨d,hd⟩:=ZfC l fun x hx=>h x (by simp [hx])
  exact ⟨⟨s,h s (by simp)⟩ :: d,by simp [hd]⟩
set_option maxHeartbeats 1000000 in
theorem ZrM {G : GH} {w : World} (hG : G.In w) (l : List Span) (vd : Value) (od : OB) (hvd : Yb SpanE 16 (nat_lit 33) G vd l od) (hod : Zat w G od) (hB : ∀ s ∈ l, -4398046511104 ≤ s.a ∧ s.a ≤ 4398046511104) :
  Calls Tryz.prog (nat_lit 189) #[vd, .func (.func 190) #[] #[]] w fun e w'=>∃ r G',e = .returned r ∧ Res (blk od) w G w' G' ∧ r = .tuple #[] ∧ ∃ (l' : List Span) (o' : OB),Yb SpanE 16 (nat_lit 33) G' vd l' o' ∧ Zat w' G' o' ∧ (l'.Perm l ∧ ZoR l'):=by
 rcases hvd with ⟨rfl,rfl,rfl⟩ | ⟨b,cs,cap,xs,rfl,rfl,h3,h4,h5,h6,h7,h8,h9⟩
 ·exact (AnyF.slices_SortFunc_none (P:=Tryz.prog) (ρ:=Tryz.sortSp_ren) { Tryz.sortSp with } none 0 (.func (.func 190) #[] #[]) w).mono fun e w' ⟨he,hw⟩=>by
   subst hw
   exact ⟨_,G,he,Res.refl hG,rfl,[],none, .inl ⟨rfl,rfl,rfl⟩,fun p hp=>(by cases hp),List.Perm.refl _,List.Pairwise.nil⟩
 ·obtain ⟨hb1,hb2⟩:=hod _ rfl
  obtain ⟨dl,rfl⟩:=ZfC l hB
  obtain ⟨rfl,hI⟩:=ZgK dl xs h6
  have hsz : dl.toArray.size = (dl.map (·.1)).length:=by simp
  have hcell : ∀ t,t < dl.toArray.size * 2 → cs[t]? = some ((flatK Zby 2 dl.toArray)[t]!):=fun t ht=>by
   rw [← ZjO Zby (fun _=>rfl) dl.toArray t ht]
   rw [← h7,List.getElem?_take,if_pos (by rw [← hsz]; exact ht)]
  have hH : HoldsK Zby 2 w b 0 dl.toArray:=fun t ht=>by
   rw [size_flatK] at ht
   refine ⟨?_,?_⟩
   ·rw [Nat.zero_add]
    simp only [World.cell?,hb1,Za9]
    have:=hcell t ht
    simpa using this
   ·simp [World.frozen?,hb1,Za9]
  have hcon:=AnyQ.slices_SortFunc Tryz.sortSp 2 Tryz.isAgg33 Tryz.sizeOf33 Zby (fun _=>rfl) (fun x v hv=>by simp [Zby] at hv; rcases hv with rfl | rfl <;> rfl) cfB Zv2 190 #[] b 0 cap dl.toArray w
   (enters_of Tryz.func190 (by kernel_rfl) rfl) (fun _ _ _ _ x y=>Zmt x y _) hH (Array.getElem?_eq_some_iff.1 hb1).1 (by rw [hsz]; unfold reach at h9; omega)
  rw [hsz] at hcon
  refine hcon.mono fun e w' ⟨he,d',n,os,hp,hs,hw⟩=>?_
  obtain ⟨hp1,hp2,hp3⟩:=hp
  have hd' : d'.size = dl.length:=by simpa using hp1
  have hperm : d'.toList.Perm dl:=by
   have e1 : d'.extract 0 dl.toArray.size = d':=by rw [← hp1]; simp
   have e2 : dl.toArray.extract 0 dl.toArray.size = dl.toArray:=by simp
   rw [hsz.symm,e1,e2] at hp3; simpa using hp3
  have hbl : b < w.heap.size:=(Array.getElem?_eq_some_iff.1 hb1).1
  subst hw
  obtain ⟨cs',hcs'⟩ : ∃ cs' : List Value,cs' = (putCells id 0 (flatK Zby 2 d') cs.toArray).toList:=⟨_,rfl⟩
  have hget : ∀ k,(sortWorldK Zby 2 w b 0 n d' os).heap[k]? = if k < w.heap.size then (if b = k then some (.cells cs'.toArray (nat_lit 33) (0,0)) else w.heap[k]?) else os[k - w.heap.size]? :=fun k=>by
   have hah : (Go.Sort.ahead w n).heap = w.heap:=rfl
   simp only [sortWorldK,putRowK,putRow,mapBlock,grow,hah]
   rw [Array.getElem?_append]
   simp only [Array.size_modify]
   by_cases hk : k < w.heap.size
   ·rw [if_pos hk,if_pos hk,Array.getElem?_modify]
    by_cases hkb : b = k
    ·subst hkb
     rw [if_pos rfl,if_pos rfl,hb1]
     simp [Za9,onCells,hcs']
    ·rw [if_neg hkb,if_neg hkb]
   ·rw [if_neg hk,if_neg hk]
  have hres : Res [b] w G (sortWorldK Zby 2 w b 0 n d' os) G:=by
   refine ⟨⟨rfl,rfl,rfl,Nat.le_add_right _ _,?_,fun k hk hkb=>?_⟩,G.le_refl,fun _ _=>rfl,fun k o hk=>?_⟩
   ·have hah : (Go.Sort.ahead w n).heap = w.heap:=rfl
    simp [sortWorldK,putRowK,putRow,mapBlock,grow]
    try simp [hah]
   ·rw [hget,if_pos hk,if_neg (by simpa [eq_comm] using hkb)]
   ·have hk1:=hG.lt hk
    have hkb : b ≠ k:=fun e=>by subst e; simp only at hb2; rw [hb2] at hk; cases hk
    rw [hget,if_pos hk1,if_neg hkb]; exact hG k o hk
  have hI' : ∀ x ∈ d'.toList,Z1 x.1.b:=fun x hx=>hI x (hperm.mem_iff.1 hx)
  have hlen : (d'.toList.map (·.1)).length = (dl.map (·.1)).length:=by simp [hd']
  have hln : (dl.map (·.1)).length = dl.length:=by simp
  refine ⟨_,G,he,hres,rfl,d'.toList.map (·.1),some (b,nat_lit 33,cs'), .inr ⟨b,cs',cap,d'.toList.flatMap Zby,rfl,by rw [hlen],by rw [hlen]; exact h3,h4,?_,ZfV _ hI',?_,by rw [hlen]; exact h8,by rw [hlen]; exact h9⟩,fun p hp=>?_,?_,?_⟩
  ·subst hcs'; simpa [putCells] using h5
  ·
   have h5' : cs.length = cap * 2:=h5
   apply List.ext_getElem?
   intro t
   rw [List.getElem?_take]
   have hn2 : (d'.toList.map (·.1)).length * SpanE.n = d'.size * 2:=by simp; rfl
   rw [hn2]
   by_cases ht : t < d'.size * 2
   ·have htc : t < cs.length:=by rw [h5']; rw [hln] at h3; omega
    rw [if_pos ht,ZjO Zby (fun _=>rfl) d' t ht,hcs']
    simp only [putCells,Array.getElem?_toList,Array.getElem?_mapIdx,size_flatK]
    simp only [List.getElem?_toArray]
    rw [List.getElem?_eq_getElem htc]
    simp [ht]
   ·rw [if_neg ht,List.getElem?_eq_none]
    have:=Xp.len (ZfV (G:=G) d'.toList hI')
    omega
  ·obtain rfl:=Option.some.inj hp
   exact ⟨by rw [hget,if_pos hbl,if_pos rfl]; rfl,hb2⟩
  ·exact hperm.map _
  ·unfold ZoR
   rw [List.pairwise_map,List.pairwise_iff_getElem]
   intro i j hi hj hij
   have h:=hs i j (by omega) hij (by rw [← hsz,← hp1]; simpa using hj)
   have hi' : i < d'.size:=by simpa using hi
   have hj' : j < d'.size:=by simpa using hj
   rw [getElem!_pos d' i hi',getElem!_pos d' j hj'] at h
   have:=of_decide_eq_false h
   simp only [cfB] at this
   simp only [Array.getElem_toList]
   omega
end Go.Civ
set_option linter.unusedVariables false
namespace Go.Civ
open Go.Proofs Go.Shelf Go.RowKit Go.Lib Go.Sort
theorem Zh0 {G : GH} : ∀ (l : List Int),(∀ x ∈ l,Z1 x) → Xp Enc.int G l (l.map (Value.int .i64))
 | [],_=>rfl
 | x :: l,h=>⟨[.int .i64 x],l.map (Value.int .i64),rfl,⟨rfl,h x (by simp)⟩,Zh0 l fun y hy=>h y (by simp [hy])⟩
theorem Zch {G : GH} : ∀ (l : List Int) (xs : List Value),Xp Enc.int G l xs → xs = l.map (Value.int .i64) ∧ ∀ x ∈ l,Z1 x
 | [],xs,h=>⟨h,by simp⟩
 | x :: l,xs,⟨c,r,h1,h2,h3⟩=>by
  obtain ⟨rfl,hb⟩:=h2
  obtain ⟨rfl,h4⟩:=Zch l r h3
  refine ⟨h1,fun y hy=>?_⟩
  rcases List.mem_cons.1 hy with rfl | hy
  ·exact hb
  ·exact h4 y hy
def Zbz (l : List Int) : List Int:=l.mergeSort fun x y=>decide (x ≤ y)
set_option maxHeartbeats 1000000 in
theorem Zli {G : GH} {w : World} (hG : G.In w) (l : List Int) (vd : Value) (od : OB) (hvd : Yb Enc.int 8 (nat_lit 3) G vd l od) (hod : Zat w G od) :
  Calls Tryz.prog (nat_lit 145) #[vd] w fun e w'=>∃ r G',e = .returned r ∧ Res (blk od) w G w' G' ∧ r = .tuple #[] ∧ ∃ (l' : List Int) (o' : OB),Yb Enc.int 8 (nat_lit 3) G' vd l' o' ∧ Zat w' G' o' ∧ l' = Zbz l:=by
 rcases hvd with ⟨rfl,rfl,rfl⟩ | ⟨b,cs,cap,xs,rfl,rfl,h3,h4,h5,h6,h7,h8,h9⟩
 ·exact (Any.slices_Sort_int_none Tryz.laysSort none 0 w).mono fun e w' ⟨he,hw⟩=>by
   subst hw
   exact ⟨_,G,he,Res.refl hG,rfl,[],none, .inl ⟨rfl,rfl,rfl⟩,fun p hp=>(by cases hp),by simp [Zbz]⟩
 ·obtain ⟨hb1,hb2⟩:=hod _ rfl
  obtain ⟨rfl,hI⟩:=Zch l xs h6
  have hE : Enc.int.n = 1:=rfl
  rw [hE,Nat.mul_one] at h5 h7
  have hcell : ∀ t,t < l.length → cs[t]? = some (.int .i64 l[t]!):=fun t ht=>by
   have:=congrArg (·[t]?) h7
   simp only [List.getElem?_take,if_pos ht,List.getElem?_map] at this
   rw [this,List.getElem?_eq_getElem ht,getElem!_pos l t ht]; rfl
  have hH : Holds (Value.int .i64) w b 0 l.toArray:=fun t ht=>by
   have ht' : t < l.length:=by simpa using ht
   refine ⟨?_,?_⟩
   ·rw [Nat.zero_add]
    simp only [World.cell?,hb1,Za9]
    have:=hcell t ht'
    rw [getElem!_pos l t ht'] at this
    rw [getElem!_pos l.toArray t ht]
    simpa using this
   ·simp [World.frozen?,hb1,Za9]
  have hcon:=Any.slices_Sort_int Tryz.laysSort b 0 cap l w hH (Array.getElem?_eq_some_iff.1 hb1).1 (by unfold reach at h9; omega)
  refine hcon.mono fun e w' ⟨he,n,os,hw⟩=>?_
  have hperm : (Zbz l).Perm l:=List.mergeSort_perm _ _
  have hlen : (Zbz l).length = l.length:=hperm.length_eq
  have hbl : b < w.heap.size:=(Array.getElem?_eq_some_iff.1 hb1).1
  obtain ⟨cs',hcs'⟩ : ∃ cs' : List Value,cs' = (putCells (Value.int .i64) 0 (Zbz l).toArray cs.toArray).toList:=⟨_,rfl⟩
  have hget : ∀ k,w'.heap[k]? = if k < w.heap.size then (if b = k then some (.cells cs'.toArray (nat_lit 3) (0,0)) else w.heap[k]?) else os[k - w.heap.size]? :=fun k=>by
   subst hw
   have hah : (Go.Sort.ahead w n).heap = w.heap:=rfl
   simp only [putRow,mapBlock,grow,hah]
   rw [Array.getElem?_append]
   simp only [Array.size_modify]
   by_cases hk : k < w.heap.size
   ·rw [if_pos hk,if_pos hk,Array.getElem?_modify]
    by_cases hkb : b = k
    ·subst hkb
     rw [if_pos rfl,if_pos rfl,hb1]
     simp [Za9,onCells,hcs',Zbz]
    ·rw [if_neg hkb,if_neg hkb]
   ·rw [if_neg hk,if_neg hk]
  have hres : Res [b] w G w' G:=by
   refine ⟨?_,G.le_refl,fun _ _=>rfl,fun k o hk=>?_⟩
   ·refine ⟨by subst hw; rfl,by subst hw; rfl,by subst hw; rfl,by subst hw; exact Nat.le_add_right _ _,?_,fun k hk hkb=>?_⟩
    ·subst hw
     have hah : (Go.Sort.ahead w n).heap = w.heap:=rfl
     simp [putRow,mapBlock,grow]
     try simp [hah]
    ·rw [hget,if_pos hk,if_neg (by simpa [eq_comm] using hkb)]
   ·have hk1:=hG.lt hk
    have hkb : b ≠ k:=fun e=>by subst e; simp only at hb2; rw [hb2] at hk; cases hk
    rw [hget,if_pos hk1,if_neg hkb]; exact hG k o hk
  have hI' : ∀ x ∈ Zbz l,Z1 x:=fun x hx=>hI x (hperm.mem_iff.1 hx)
  refine ⟨_,G,he,hres,rfl,Zbz l,some (b,nat_lit 3,cs'), .inr ⟨b,cs',cap,(Zbz l).map (Value.int .i64),rfl,by rw [hlen],by rw [hlen]; exact h3,h4,?_,Zh0 _ hI',?_,by rw [hlen]; exact h8,by rw [hlen]; exact h9⟩,fun p hp=>?_,rfl⟩
  ·subst hcs'; rw [hE]; simpa [putCells] using h5
  ·rw [hE,Nat.mul_one]
   apply List.ext_getElem?
   intro t
   rw [List.getElem?_take]
   by_cases ht : t < (Zbz l).length
   ·have htc : t < cs.length:=by omega
    rw [if_pos ht,hcs']
    simp only [putCells,Array.getElem?_toList,Array.getElem?_mapIdx]
    simp only [List.getElem?_toArray]
    rw [List.getElem?_eq_getElem htc,List.getElem?_map,List.getElem?_eq_getElem ht]
    simp [ht]
   ·rw [if_neg ht,List.getElem?_eq_none]
    simp; omega
  ·obtain rfl:=Option.some.inj hp
   exact ⟨by rw [hget,if_pos hbl,if_pos rfl]; rfl,hb2⟩
end Go.Civ
