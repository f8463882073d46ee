/- Lemmas. -/
import Derived.Test.YthgeclodflmiaaaGreatH03
import Derived.Test.YthgeclodflmiaaaGreatH06
import Derived.Test.YthgeclodflmiaaaGreatH07
import Derived.Test.YthgeclodflmiaaaGreatH08
import Derived.Test.YthgeclodflmiaaaGreatH09
import Derived.Test.YthgeclodflmiaaaGreatH10
import Derived.JoinedOf
import Derived.Lib.SlicesCompact
import Derived.Laws.Slices
import Derived.Laws.Small
import Derived.WalkKit
import Derived.KernelRfl
namespace Go.Civ
open Go.RowKit
set_option linter.unusedVariables false
structure Rect where
 d : Span
 x : Span
deriving DecidableEq
structure HRow where
 v : List Val
 r : Rect
deriving DecidableEq
structure Foreign where
 cols : List (List UInt8)
 table : List UInt8
deriving DecidableEq
structure Schema where
 name : List UInt8
 cols : List Col
 key : Int
 fks : List Foreign
deriving DecidableEq
structure Table where
 s : Schema
 rows : List HRow
 last : Int
deriving DecidableEq
def RectE : Enc Rect:=(Enc.pair SpanE SpanE).via fun x=>(x.d,x.x)
def HRowE : Enc HRow:=(Enc.pair (ValE.slice 32) RectE).via fun x=>(x.v,x.r)
def ForeignE : Enc Foreign:=(Enc.pair (Enc.str.slice 16) .str).via fun x=>(x.cols,x.table)
def SchemaE : Enc Schema:=(Enc.pair .str (Enc.pair (ColE.slice 24) (Enc.pair .int (ForeignE.slice 40)))).via fun x=>(x.name,x.cols,x.key,x.fks)
def TableE : Enc Table:=(Enc.pair SchemaE (Enc.pair (HRowE.slice 56) .int)).via fun x=>(x.s,x.rows,x.last)
section
variable {G : GH} {cs : List Value}
theorem ZmJ {x : Rect} (h : RectE.rep G x cs) : cs = [.int .i64 x.d.a, .int .i64 x.d.b, .int .i64 x.x.a, .int .i64 x.x.b] ∧ Zw x.d.a ∧ Zw x.d.b ∧ Zw x.x.a ∧ Zw x.x.b:=by
 obtain ⟨c1,c2,rfl,h1,h2⟩:=h
 obtain ⟨rfl,h3,h4⟩:=ZE h1
 obtain ⟨rfl,h5,h6⟩:=ZE h2
 exact ⟨rfl,h3,h4,h5,h6⟩
theorem Zqc (x : Rect) (h1 : Zw x.d.a) (h2 : Zw x.d.b) (h3 : Zw x.x.a) (h4 : Zw x.x.b) : RectE.rep G x [.int .i64 x.d.a, .int .i64 x.d.b, .int .i64 x.x.a, .int .i64 x.x.b]:=
 ⟨_,_,rfl,Zs x.d h1 h2,Zs x.x h3 h4⟩
theorem ZA {x : HRow} (h : HRowE.rep G x cs) : ∃ v,cs = [v, .int .i64 x.r.d.a, .int .i64 x.r.d.b, .int .i64 x.r.x.a, .int .i64 x.r.x.b] ∧ Sl ValE 32 G v x.v ∧ Zw x.r.d.a ∧ Zw x.r.d.b ∧ Zw x.r.x.a ∧ Zw x.r.x.b:=by
 obtain ⟨c1,c2,rfl,⟨v,rfl,h1⟩,h2⟩:=h
 obtain ⟨rfl,h3,h4,h5,h6⟩:=ZmJ h2
 exact ⟨v,rfl,h1,h3,h4,h5,h6⟩
theorem ZQ (x : HRow) {v : Value} (h1 : Sl ValE 32 G v x.v) (h2 : Zw x.r.d.a) (h3 : Zw x.r.d.b) (h4 : Zw x.r.x.a) (h5 : Zw x.r.x.b) :
  HRowE.rep G x [v, .int .i64 x.r.d.a, .int .i64 x.r.d.b, .int .i64 x.r.x.a, .int .i64 x.r.x.b]:=⟨[v],_,rfl,⟨v,rfl,h1⟩,Zqc x.r h2 h3 h4 h5⟩
theorem Zjz {x : Foreign} (h : ForeignE.rep G x cs) : ∃ v,cs = [v,Zb x.table] ∧ Sl Enc.str 16 G v x.cols ∧ x.table.length ≤ reach:=by
 obtain ⟨c1,c2,rfl,⟨v,rfl,h1⟩,rfl,h2⟩:=h
 exact ⟨v,rfl,h1,h2⟩
theorem Qc {x : Schema} (h : SchemaE.rep G x cs) : ∃ v u,cs = [Zb x.name,v, .int .i64 x.key,u] ∧ x.name.length ≤ reach ∧ Sl ColE 24 G v x.cols ∧ Zw x.key ∧ Sl ForeignE 40 G u x.fks:=by
 obtain ⟨c1,c2,rfl,⟨rfl,h1⟩,c3,c4,rfl,⟨v,rfl,h2⟩,c5,c6,rfl,⟨rfl,h3⟩,u,rfl,h4⟩:=h
 exact ⟨v,u,rfl,h1,h2,h3,h4⟩
theorem XB (x : Schema) {v u : Value} (h1 : x.name.length ≤ reach) (h2 : Sl ColE 24 G v x.cols) (h3 : Zw x.key) (h4 : Sl ForeignE 40 G u x.fks) : SchemaE.rep G x [Zb x.name,v, .int .i64 x.key,u]:=
 ⟨_,_,rfl,⟨rfl,h1⟩,_,_,rfl,⟨v,rfl,h2⟩,_,_,rfl,⟨rfl,h3⟩,u,rfl,h4⟩
theorem Zy {x : Table} (h : TableE.rep G x cs) : ∃ v u r,cs = [Zb x.s.name,v, .int .i64 x.s.key,u,r, .int .i64 x.last] ∧ x.s.name.length ≤ reach ∧ Sl ColE 24 G v x.s.cols ∧ Zw x.s.key ∧ Sl ForeignE 40 G u x.s.fks ∧ Sl HRowE 56 G r x.rows ∧ Zw x.last:=by
 obtain ⟨c1,c2,rfl,h0,c3,c4,rfl,⟨r,rfl,h2⟩,rfl,h3⟩:=h
 obtain ⟨v,u,rfl,h4,h5,h6,h7⟩:=Qc h0
 exact ⟨v,u,r,rfl,h4,h5,h6,h7,h2,h3⟩
theorem Zi (x : Table) {v u r : Value} (h1 : x.s.name.length ≤ reach) (h2 : Sl ColE 24 G v x.s.cols) (h3 : Zw x.s.key) (h4 : Sl ForeignE 40 G u x.s.fks) (h5 : Sl HRowE 56 G r x.rows) (h6 : Zw x.last) :
  TableE.rep G x [Zb x.s.name,v, .int .i64 x.s.key,u,r, .int .i64 x.last]:=⟨_,_,rfl,XB x.s h1 h2 h3 h4,_,_,rfl,⟨r,rfl,h5⟩,rfl,h6⟩
end
def u63 (n : Int) : Nat:=(n + 9223372036854775808).toNat
def Zhw (n k : Nat) : UInt8:=UInt8.ofNat (n / 2 ^ k)
def ZdL (n : Int) : List UInt8:=[56,48,40,32,24,16,8,0].map (Zhw (u63 n))
def ZaW (x : Val) : List UInt8:=UInt8.ofNat x.k.toNat :: (if x.k = 2 then x.s ++ [0] else if x.k = 3 then [UInt8.ofNat x.n.toNat] else ZdL x.n)
def Zaq (l : List Val) : List UInt8:=l.flatMap ZaW
def Qm (l : List Val) : List UInt8:=if l.length ≤ 1000 ∧ l.all Zz = true then Zaq l else []
theorem ZiD (n k : Nat) : (Zhw n k).toNat = n / 2 ^ k % 256:=by unfold Zhw; simp
theorem dig {a b k : Nat} (h : a / 2 ^ k % 256 = b / 2 ^ k % 256) (hk : a / 2 ^ (k + 8) = b / 2 ^ (k + 8)) : a / 2 ^ k = b / 2 ^ k:=by
 rw [Nat.pow_add,← Nat.div_div_eq_div_mul,← Nat.div_div_eq_div_mul] at hk
 generalize a / 2 ^ k = x at *
 generalize b / 2 ^ k = y at *
 have e : (2 : Nat) ^ 8 = 256:=rfl
 rw [e] at hk
 omega
theorem Zqd {m n : Int} (hm : Zw m) (hn : Zw n) (h : ZdL m = ZdL n) : m = n:=by
 have e : ∀ k,k ∈ [56,48,40,32,24,16,8,0] → u63 m / 2 ^ k % 256 = u63 n / 2 ^ k % 256:=fun k hk=>by
  have:=List.map_inj_left.1 h k hk
  rw [← ZiD,← ZiD,this]
 have bm : u63 m < 2 ^ 64:=by unfold u63; have:=hm.1; have:=hm.2; omega
 have bn : u63 n < 2 ^ 64:=by unfold u63; have:=hn.1; have:=hn.2; omega
 have h64 : u63 m / 2 ^ (56 + 8) = u63 n / 2 ^ (56 + 8):=by rw [Nat.div_eq_of_lt bm,Nat.div_eq_of_lt bn]
 have h56:=dig (e 56 (by simp)) h64
 have h48:=dig (e 48 (by simp)) h56
 have h40:=dig (e 40 (by simp)) h48
 have h32:=dig (e 32 (by simp)) h40
 have h24:=dig (e 24 (by simp)) h32
 have h16:=dig (e 16 (by simp)) h24
 have h8:=dig (e 8 (by simp)) h16
 have h0:=dig (e 0 (by simp)) h8
 rw [Nat.pow_zero,Nat.div_one,Nat.div_one] at h0
 unfold u63 at h0
 have:=hm.1; have:=hn.1
 omega
theorem Zkw : ∀ {s t r r' : List UInt8},s.all okC = true → t.all okC = true → s ++ 0 :: r = t ++ 0 :: r' → s = t ∧ r = r'
 | [],[],r,r',_,_,h=>⟨rfl,(List.cons.inj h).2⟩
 | [],c :: t,r,r',_,h2,h=>by
  have e:=(List.cons.inj h).1
  subst e
  simp [okC] at h2
 | c :: s,[],r,r',h1,_,h=>by
  have e:=(List.cons.inj h).1
  subst e
  simp [okC] at h1
 | c :: s,c' :: t,r,r',h1,h2,h=>by
  have e:=List.cons.inj h
  simp only [List.all_cons,Bool.and_eq_true] at h1 h2
  obtain ⟨rfl,rfl⟩:=Zkw h1.2 h2.2 e.2
  exact ⟨by rw [e.1],rfl⟩
theorem Zee {x : Val} (h : Zz x = true) : (x.k = 1 ∧ x.s = []) ∨ (x.k = 2 ∧ x.n = 0 ∧ x.s.all okC = true) ∨ (x.k = 3 ∧ x.s = [] ∧ (x.n = 0 ∨ x.n = 1)) ∨ (x.k = 4 ∧ x.s = []):=by
 unfold Zz at h
 by_cases h1 : x.k = 1
 ·simp [h1] at h; exact .inl ⟨h1,h⟩
 ·by_cases h2 : x.k = 2
  ·simp [h2] at h; exact .inr (.inl ⟨h2,h.1.1,by simpa using h.2⟩)
  ·by_cases h3 : x.k = 3
   ·simp [h3] at h; exact .inr (.inr (.inl ⟨h3,h.1,h.2⟩))
   ·by_cases h4 : x.k = 4
    ·simp [h4] at h; exact .inr (.inr (.inr ⟨h4,h.1.1⟩))
    ·simp [h1,h2,h3,h4] at h
theorem ZfV {x y : Val} (h1 : x.k = y.k) (h2 : x.n = y.n) (h3 : x.s = y.s) : x = y:=by cases x; cases y; simp_all
theorem Zqe {x y : Val} {r r' : List UInt8} (hx : Zz x = true) (hy : Zz y = true) (nx : Zw x.n) (ny : Zw y.n) (h : ZaW x ++ r = ZaW y ++ r') : x = y ∧ r = r':=by
 unfold ZaW at h
 rw [List.cons_append,List.cons_append] at h
 obtain ⟨hk,ht⟩:=List.cons.inj h
 have key : x.k = y.k:=by
  rcases Zee hx with ⟨h1,_⟩ | ⟨h1,_⟩ | ⟨h1,_⟩ | ⟨h1,_⟩ <;> rcases Zee hy with ⟨h2,_⟩ | ⟨h2,_⟩ | ⟨h2,_⟩ | ⟨h2,_⟩ <;> rw [h1,h2] at hk <;> first | exact h1.trans h2.symm | exact absurd hk (by decide)
 have eight : ∀ n m : Int,Zw n → Zw m → ZdL n ++ r = ZdL m ++ r' → n = m ∧ r = r':=fun n m hn hm e=>by
  obtain ⟨e1,e2⟩:=List.append_inj e (by simp [ZdL])
  exact ⟨Zqd hn hm e1,e2⟩
 rcases Zee hx with ⟨h1,h3⟩ | ⟨h1,h3,h5⟩ | ⟨h1,h3,h5⟩ | ⟨h1,h3⟩ <;> rcases Zee hy with ⟨h2,h4⟩ | ⟨h2,h4,h6⟩ | ⟨h2,h4,h6⟩ | ⟨h2,h4⟩ <;> first | (exfalso; omega) | skip
 ·rw [h1,h2] at ht
  obtain ⟨e1,e2⟩:=eight _ _ nx ny (by simpa using ht)
  exact ⟨ZfV key e1 (h3.trans h4.symm),e2⟩
 ·rw [h1,h2] at ht
  obtain ⟨e1,e2⟩:=Zkw h5 h6 (by simpa using ht)
  exact ⟨ZfV key (h3.trans h4.symm) e1,e2⟩
 ·rw [h1,h2] at ht
  simp at ht
  refine ⟨ZfV key ?_ (h3.trans h4.symm),ht.2⟩
  rcases h5 with h5 | h5 <;> rcases h6 with h6 | h6 <;> rw [h5,h6] at ht <;> first | exact h5.trans h6.symm | exact absurd ht.1 (by decide)
 ·rw [h1,h2] at ht
  obtain ⟨e1,e2⟩:=eight _ _ nx ny (by simpa using ht)
  exact ⟨ZfV key e1 (h3.trans h4.symm),e2⟩
theorem Zkx : ∀ {l m : List Val},l.all Zz = true → m.all Zz = true → (∀ x ∈ l,Zw x.n) → (∀ x ∈ m,Zw x.n) → Zaq l = Zaq m → l = m
 | [],[],_,_,_,_,_=>rfl
 | [],y :: m,_,_,_,_,h=>by simp [Zaq,ZaW] at h
 | x :: l,[],_,_,_,_,h=>by simp [Zaq,ZaW] at h
 | x :: l,y :: m,h1,h2,h3,h4,h=>by
  simp only [List.all_cons,Bool.and_eq_true] at h1 h2
  simp only [Zaq,List.flatMap_cons] at h
  obtain ⟨rfl,e⟩:=Zqe h1.1 h2.1 (h3 x (by simp)) (h4 y (by simp)) h
  rw [Zkx h1.2 h2.2 (fun z hz=>h3 z (by simp [hz])) (fun z hz=>h4 z (by simp [hz])) e]
theorem Zqf {l m : List Val} (hl : l.length ≤ 1000) (hm : m.length ≤ 1000) (h1 : l.all Zz = true) (h2 : m.all Zz = true) (h3 : ∀ x ∈ l,Zw x.n) (h4 : ∀ x ∈ m,Zw x.n) (h : Qm l = Qm m) : l = m:=by
 unfold Qm at h
 rw [if_pos ⟨hl,h1⟩,if_pos ⟨hm,h2⟩] at h
 exact Zkx h1 h2 h3 h4 h
end Go.Civ
namespace Go.Civ
open Go.RowKit Go.ChangeShapes Go.Deep
set_option linter.unusedVariables false
section
variable {H : Type} {enc : TypeId × Value → H} {P : Program} {w : World}
theorem ZmK {t : TypeId} (hu : P.underlying t = some .bool) : YY enc P w t Enc.bool:=fun fuel cs d pl h hl=>by
 obtain ⟨b,rfl,_⟩:=DataW.trod_bool hu h
 exact ⟨b,rfl⟩
theorem Zj0 {base : Nat} {spare : Nat → Bool} {held : Bool} {t : TypeId} {f0 f1 f2 f3 : Field} {fuel : Nat} {cs : List Value} {x : DataW H × List MemPlace} (ht : P.underlying t = some (.struct #[f0,f1,f2,f3])) (h : DataW.trod enc P w base spare held fuel t cs = some x) :
  ∃ y0 y1 y2 y3 n,x = (.agg [y0.1,y1.1,y2.1,y3.1],y0.2 ++ (y1.2 ++ (y2.2 ++ y3.2))) ∧ cs.length = P.cellsOf t ∧ DataW.trod enc P w base spare held n f0.type ((cs.drop f0.offset).take (P.cellsOf f0.type)) = some y0 ∧
   DataW.trod enc P w base spare held n f1.type ((cs.drop f1.offset).take (P.cellsOf f1.type)) = some y1 ∧ DataW.trod enc P w base spare held n f2.type ((cs.drop f2.offset).take (P.cellsOf f2.type)) = some y2 ∧
   DataW.trod enc P w base spare held n f3.type ((cs.drop f3.offset).take (P.cellsOf f3.type)) = some y3:=by
 obtain ⟨xs,n,_,rfl,hl,hlen,hf⟩:=DataW.trod_struct ht h
 match xs,hlen with
 | [y0,y1,y2,y3],_=>exact ⟨y0,y1,y2,y3,n,by simp,hl,by simpa using hf 0 f0 rfl,by simpa using hf 1 f1 rfl,by simpa using hf 2 f2 rfl,by simpa using hf 3 f3 rfl⟩
theorem ZmL {α β γ δ ε : Type} {A : Enc α} {B : Enc β} {C : Enc γ} {D : Enc δ} {f : ε → α × β × γ × δ} {g : α × β × γ × δ → ε} {t : TypeId} {f0 f1 f2 f3 : Field} (surj : ∀ p,f (g p) = p) (hu : P.underlying t = some (.struct #[f0,f1,f2,f3])) (o0 : f0.offset = 0) (c0 : P.cellsOf f0.type = A.n) (o1 : f1.offset = A.n) (c1 : P.cellsOf f1.type = B.n)
  (o2 : f2.offset = A.n + B.n) (c2 : P.cellsOf f2.type = C.n) (o3 : f3.offset = A.n + B.n + C.n) (c3 : P.cellsOf f3.type = D.n) (ct : P.cellsOf t = A.n + (B.n + (C.n + D.n))) (hA : YY enc P w f0.type A) (hB : YY enc P w f1.type B) (hC : YY enc P w f2.type C) (hD : YY enc P w f3.type D) :
  YY enc P w t ((Enc.pair A (Enc.pair B (Enc.pair C D))).via f):=fun fuel cs d pl h hl=>by
 obtain ⟨y0,y1,y2,y3,n,hx,hlen,h0,h1,h2,h3⟩:=Zj0 hu h
 simp only [Prod.mk.injEq] at hx
 obtain ⟨rfl,_⟩:=hx
 have e : DataW.weights P t (.agg [y0.1,y1.1,y2.1,y3.1]) = y0.1.weights P f0.type ++ (y1.1.weights P f1.type ++ (y2.1.weights P f2.type ++ (y3.1.weights P f3.type ++ []))):=by
  rw [DataW.weights,hu]; simp [DataW.weightsEach]
 rw [o0,c0,List.drop_zero] at h0
 rw [o1,c1] at h1
 rw [o2,c2] at h2
 rw [o3,c3] at h3
 obtain ⟨x0,r0⟩:=hA _ _ _ _ h0 fun x hx=>hl x (by rw [e]; simp [hx])
 obtain ⟨x1,r1⟩:=hB _ _ _ _ h1 fun x hx=>hl x (by rw [e]; simp [hx])
 obtain ⟨x2,r2⟩:=hC _ _ _ _ h2 fun x hx=>hl x (by rw [e]; simp [hx])
 obtain ⟨x3,r3⟩:=hD _ _ _ _ h3 fun x hx=>hl x (by rw [e]; simp [hx])
 rw [List.take_of_length_le (by rw [List.length_drop,hlen,ct]; omega)] at r3
 refine ⟨g (x0,x1,x2,x3),?_⟩
 show (Enc.pair A (Enc.pair B (Enc.pair C D))).rep _ (f (g (x0,x1,x2,x3))) _
 rw [surj]
 refine ⟨_,_,(List.take_append_drop A.n cs).symm,r0,(cs.drop A.n).take B.n,(cs.drop A.n).drop B.n,(List.take_append_drop B.n _).symm,r1,((cs.drop A.n).drop B.n).take C.n,((cs.drop A.n).drop B.n).drop C.n,(List.take_append_drop C.n _).symm,?_,?_⟩
 ·rw [List.drop_drop]; exact r2
 ·rw [List.drop_drop,List.drop_drop,← Nat.add_assoc]; exact r3
end
end Go.Civ
namespace Go.Civ
section
variable (P : Program) (f : FuncId) (fn : Func) (s : ChangeSpec) (c : OpenClaim)
def Zky : Bool:=c.inPlace == P.inPlace f
def Zkz : Bool:=c.unfollowed == P.unfollowed f
def Zk0 : Bool:=c.recurses == P.recurses f
def Zk1 : Bool:=c.named == P.varsNamed f
theorem Zqg {P : Program} {f : FuncId} {fn : Func} {s : ChangeSpec} {c : OpenClaim} (ha : Zky P f c = true) (hb : Zkz P f c = true) (hc : Zk0 P f c = true) (hd : Zk1 P f c = true)
  (h1 : (c.wf (OpenSpec.ofChange s) && laidOutB P && mapsRowed P && fn.params.all (P.readableRec ·) && namedTie P c.named s.vars && (c.stops == []) && (P.stops == []) && (c.knobs == []) && (P.stopKnobs == [])) = true)
  (h2 : ((c.maps == (fn.params.toList ++ s.plain.varTypes P).any (P.mapsRec ·)) && (c.ifaces == (fn.params.toList ++ s.plain.varTypes P).any (P.ifacesRec ·)) && (c.mapsOut == P.mapsAmong fn.resultTypes.toList) &&
   (c.loops == (fn.params.toList ++ s.plain.varTypes P).any (P.loopsFrom ·)) && (c.wideKeys == (fn.params.toList ++ s.plain.varTypes P ++ fn.resultTypes.toList).any (P.wideKeysFrom ·))) = true)
  (h3 : (s.vars.all (P.varReadable ·) && fn.resultTypes.all (fun t=>P.readableRec t && decide (t < P.types.size)) && (c.ifacesOut == fn.resultTypes.toList.any (P.ifacesRec ·)) && (c.loopsOut == fn.resultTypes.toList.any (P.loopsFrom ·)) && (c.plainKeys == P.plainKeys) && c.shortTexts.isNone && P.stopsHeard && P.mayEnter && (c.lifted == P.liftsFinal) && (P.make == some c.make)) = true)
  (h4 : ((c.kinds == (if c.domain.isEmpty then [] else fn.params.toList.map fun t=>match P.underlying t with | some (.int k)=>some k | _=>none)) && (c.pinned == c.pinnedBy) &&
   (c.veiled == (fn.params.toList ++ s.plain.varTypes P ++ fn.resultTypes.toList).any (P.veiledRec ·)) && c.veiledFits P fn.params.toList (fn.params.toList ++ s.plain.varTypes P ++ fn.resultTypes.toList)) = true) : joinedFacts P f fn s c = true:=by
 unfold Zky at ha
 unfold Zkz at hb
 unfold Zk0 at hc
 unfold Zk1 at hd
 unfold joinedFacts
 simp only [Bool.and_eq_true] at h1 h2 h3 h4 ⊢
 obtain ⟨⟨⟨⟨⟨⟨⟨⟨a1,a2⟩,a3⟩,a4⟩,a5⟩,a6⟩,a7⟩,a8⟩,a9⟩:=h1
 obtain ⟨⟨⟨⟨b1,b2⟩,b3⟩,b4⟩,b5⟩:=h2
 obtain ⟨⟨⟨⟨⟨⟨⟨⟨⟨c1,c2⟩,c3⟩,c4⟩,c5⟩,c6⟩,c7⟩,c8⟩,c9⟩,c10⟩:=h3
 obtain ⟨⟨⟨d1,d2⟩,d3⟩,d4⟩:=h4
 exact ⟨⟨⟨⟨⟨⟨⟨⟨⟨⟨⟨⟨⟨⟨⟨⟨⟨⟨⟨⟨⟨⟨⟨⟨⟨⟨⟨⟨⟨⟨⟨a1,a2⟩,a3⟩,a4⟩,a5⟩,a6⟩,a7⟩,a8⟩,a9⟩,ha⟩,hb⟩,hc⟩,hd⟩,b1⟩,b2⟩,b3⟩,b4⟩,b5⟩,c1⟩,c2⟩,c3⟩,c4⟩,c5⟩,c6⟩,c7⟩,c8⟩,c9⟩,c10⟩,d1⟩,d2⟩,d3⟩,d4⟩
end
end Go.Civ
namespace Go.Civ
set_option linter.unusedVariables false
open Go.Lib (compact compactUpTo keeps)
structure CInv (z : List Int) (m : Nat) (c : List Int) : Prop where
 inc : c.Pairwise (· < ·)
 mem : ∀ x,x ∈ c ↔ ∃ j,j < m ∧ z[j]? = some x
theorem Zd2 {z : List Int} (hs : z.Pairwise (· ≤ ·)) : ∀ m,m ≤ z.length → CInv z m (compactUpTo z.toArray m)
 | 0,_=>⟨by simp [compactUpTo],fun x=>by simp [compactUpTo]⟩
 | m + 1,hm=>by
  have ih:=Zd2 hs m (by omega)
  have hlt : m < z.length:=by omega
  have hz : z.toArray[m]! = z[m]:=by rw [getElem!_pos z.toArray m (by simpa using hlt)]; simp
  have hzm : z[m]? = some z[m]:=List.getElem?_eq_getElem hlt
  rw [Go.Lib.compactUpTo_succ]
  cases hk : keeps z.toArray m with
  | true=>
   simp only [if_true,hz]
   refine ⟨List.pairwise_append.2 ⟨ih.inc,by simp,fun a ha b hb=>?_⟩,fun x=>?_⟩
   ·obtain rfl:=List.mem_singleton.1 hb
    obtain ⟨j,hj,hja⟩:=(ih.mem a).1 ha
    have hm0 : 0 < m:=by omega
    have hz1 : z.toArray[m - 1]! = z[m - 1]:=by rw [getElem!_pos z.toArray (m - 1) (by simp; omega)]; simp
    have hne : z[m] ≠ z[m - 1]:=by
     unfold keeps at hk
     simp only [decide_eq_true_eq] at hk
     rcases hk with h | h
     ·omega
     ·rwa [hz,hz1] at h
    obtain ⟨hjl,rfl⟩:=List.getElem?_eq_some_iff.1 hja
    have h1 : z[m - 1] ≤ z[m]:=List.pairwise_iff_getElem.1 hs (m - 1) m (by omega) hlt (by omega)
    have h2 : z[j] ≤ z[m - 1]:=by
     by_cases e : j = m - 1
     ·subst e; exact Int.le_refl _
     ·exact List.pairwise_iff_getElem.1 hs j (m - 1) hjl (by omega) (by omega)
    omega
   ·rw [List.mem_append,ih.mem,List.mem_singleton]
    constructor
    ·rintro (⟨j,hj,h⟩ | rfl)
     ·exact ⟨j,by omega,h⟩
     ·exact ⟨m,by omega,hzm⟩
    ·rintro ⟨j,hj,h⟩
     by_cases e : j = m
     ·subst e; rw [hzm] at h; exact .inr (Option.some.inj h).symm
     ·exact .inl ⟨j,by omega,h⟩
  | false=>
   have h:=hk
   unfold keeps at h
   simp only [decide_eq_false_iff_not,not_or,Classical.not_not] at h
   have hz1 : z.toArray[m - 1]! = z[m - 1]:=by rw [getElem!_pos z.toArray (m - 1) (by simp; omega)]; simp
   rw [hz,hz1] at h
   simp only [Bool.false_eq_true,if_false,List.append_nil]
   refine ⟨ih.inc,fun x=>?_⟩
   rw [ih.mem]
   constructor
   ·rintro ⟨j,hj,h⟩; exact ⟨j,by omega,h⟩
   ·rintro ⟨j,hj,hx⟩
    by_cases e : j = m
    ·subst e
     rw [hzm] at hx
     obtain rfl:=Option.some.inj hx
     exact ⟨j - 1,by omega,by rw [List.getElem?_eq_getElem (by omega),h.2]⟩
    ·exact ⟨j,by omega,hx⟩
theorem Zgt {z : List Int} (hs : z.Pairwise (· ≤ ·)) : CInv z z.length (compact z):=Zd2 hs _ (Nat.le_refl _)
theorem ZlD {z : List Int} (hs : z.Pairwise (· ≤ ·)) {x : Int} : x ∈ compact z ↔ x ∈ z:=by
 rw [(Zgt hs).mem]
 constructor
 ·rintro ⟨j,_,h⟩; exact List.mem_of_getElem? h
 ·intro h
  obtain ⟨j,hj⟩:=List.getElem?_of_mem h
  exact ⟨j,(List.getElem?_eq_some_iff.1 hj).1,hj⟩
theorem ZlE (z : List Int) : (compact z).length ≤ z.length:=by
 unfold compact compactUpTo
 rw [List.length_map]
 exact Nat.le_trans (List.length_filter_le _ _) (by simp)
def ZjF (l : List Int) : List Int:=l.mergeSort fun x y=>decide (x ≤ y)
theorem ZiF (l : List Int) : (ZjF l).Pairwise (· ≤ ·):=by
 have:=List.pairwise_mergeSort (le:=fun (x y : Int)=>decide (x ≤ y)) (fun a b c h1 h2=>by simp at *; omega) (fun a b=>by simp; omega) l
 exact this.imp fun h=>by simpa using h
theorem Znl (l : List Int) : (ZjF l).Perm l:=List.mergeSort_perm _ _
def ZfZ : List Int → Bool
 | x :: y :: r=>decide (x ≤ y) && ZfZ (y :: r)
 | _=>true
theorem Zgu : ∀ {l : List Int},(∀ (k : Nat) x y,l[k]? = some y → l[k + 1]? = some x → y ≤ x) → ZfZ l = true
 | a :: b :: r,h=>by
  simp only [ZfZ,Bool.and_eq_true,decide_eq_true_eq]
  exact ⟨h 0 b a rfl rfl,Zgu fun k x y h1 h2=>h (k + 1) x y (by simpa using h1) (by simpa using h2)⟩
 | [],_=>rfl
 | [_],_=>rfl
def Ze8 (l : List Int) (j : Int) : Prop:=∀ (q : Nat) (x y : Int),j ≤ q → l[q]? = some y → l[q + 1]? = some x → y ≤ x
theorem Ze8.start {l : List Int} {j : Int} (h : (l.length : Int) - 1 ≤ j) : Ze8 l j:=fun q x y hq h1 h2=>by
 have:=(List.getElem?_eq_some_iff.1 h2).1; omega
theorem Ze8.step {l : List Int} {j x y : Int} (h : Ze8 l j) (hj : 0 < j) (h1 : l[j.toNat]? = some x) (h2 : l[(j - 1).toNat]? = some y) (hxy : decide (x < y) = false) : Ze8 l (j - 1):=fun q u v hq k1 k2=>by
 by_cases e : (q : Int) = j - 1
 ·have e1 : q = (j - 1).toNat:=by omega
  have e2 : q + 1 = j.toNat:=by omega
  rw [e2,h1] at k2
  rw [e1,h2] at k1
  obtain rfl:=Option.some.inj k1
  obtain rfl:=Option.some.inj k2
  have:=of_decide_eq_false hxy; omega
 ·exact h q u v (by omega) k1 k2
theorem Ze8.yes {l : List Int} {j : Int} (h : Ze8 l j) (hj : j ≤ 0) : ZfZ l = true:=Zgu fun k x y h1 h2=>h k x y (by omega) h1 h2
end Go.Civ
namespace Go.Civ
open Go.RowKit
set_option linter.unusedVariables false
theorem Sl.takeV {α : Type} {E : Enc α} {by_ : Nat} {G : GH} {a : Option Addr} {n len cap : Nat} {l : List α} (h : Sl E by_ G (.slice a len cap) l) (hn : n ≤ l.length) : Sl E by_ G (sliced a 0 n cap E.n) (l.take n):=by
 obtain ⟨a',cap',e,h2,h3,h4,h5⟩:=h
 simp only [Value.slice.injEq] at e
 obtain ⟨rfl,rfl,rfl⟩:=e
 have hl : (l.take n).length = n:=by rw [List.length_take]; omega
 have ev : sliced a 0 n cap E.n = .slice a n cap:=by
  unfold sliced
  cases a <;> simp [Addr.add]
 rw [ev]
 refine ⟨a,cap,by rw [hl],by omega,?_,by omega,fun i x hx=>?_⟩
 ·rw [hl]; exact Nat.le_trans (Nat.mul_le_mul_right _ hn) h3
 ·rw [List.getElem?_take] at hx
  split at hx
  ·exact h5 i x hx
  ·cases hx
theorem Sl.dropV {α : Type} {E : Enc α} {by_ : Nat} {G : GH} {a : Option Addr} {n len cap : Nat} {l : List α} (h : Sl E by_ G (.slice a len cap) l) (hn : n ≤ l.length) : Sl E by_ G (sliced a n len cap E.n) (l.drop n):=by
 obtain ⟨a',cap',e,h2,h3,h4,h5⟩:=h
 simp only [Value.slice.injEq] at e
 obtain ⟨rfl,rfl,rfl⟩:=e
 have hl : (l.drop n).length = l.length - n:=by rw [List.length_drop]
 unfold sliced
 by_cases hc : cap = n
 ·rw [if_pos hc]
  refine ⟨a,cap - n,by rw [hl],by omega,?_,by omega,fun i x hx=>?_⟩
  ·rw [hl]; exact Nat.le_trans (Nat.mul_le_mul_right _ (by omega)) h3
  ·have:=(List.getElem?_eq_some_iff.1 hx).1
   rw [hl] at this; omega
 ·rw [if_neg hc]
  refine ⟨a.map fun p=>p.add (n * E.n),cap - n,by rw [hl],by omega,?_,by omega,fun i x hx=>?_⟩
  ·rw [hl]; exact Nat.le_trans (Nat.mul_le_mul_right _ (by omega)) h3
  ·rw [List.getElem?_drop] at hx
   obtain ⟨p,rfl,hp,hel⟩:=h5 (n + i) x hx
   refine ⟨p.add (n * E.n),rfl,by rw [YC _ _ hp],?_⟩
   have e1 : (p.add (n * E.n)).add (i * E.n) = p.add ((n + i) * E.n):=by
    rw [YC _ _ (by rw [YC _ _ hp]),YC _ _ hp,YC _ _ hp,Nat.add_mul,Nat.add_assoc]
   rw [e1]; exact hel
section
variable {P : Program} {Q : Exit → Env → World → Prop} {ρ : Env} {w : World} {ops : Array Oper} {rest : List Oper} {K : Env → World → Prop}
variable {d : Nat} {ty : TypeId} {pos : String} {af : Array Edge} {g : Option (Nat × Bool)} {G : GH}
theorem Zma {t e : TypeId} (hu : P.underlying t = some (.slice e)) : P.elem t = e:=by simp [Program.elem,hu]
theorem Yr {α : Type} {E : Enc α} {by_ : Nat} {t e : TypeId} {x hi : Operand} {v : Value} {l : List α} {ti : TI} (hs : Sl E by_ G v l) (n : Nat) (hn : n ≤ l.length) (hu : P.underlying t = some (.slice e)) (ht : Yb P e = some ti) (hE : ti.size = E.n)
  (hw : Region.wanted ⟨some d, .slice t x none (some hi) none,ty,pos,af,g⟩ (Zr ops ρ) = true) (hx : ev ρ x = v) (hh : ev ρ hi = .int .i64 (n : Int))
  (k : ∀ v',Sl E by_ G v' (l.take n) → K (Z5 ρ d v') w) : OW P ops ⟨some d, .slice t x none (some hi) none,ty,pos,af,g⟩ ρ w K:=by
 obtain ⟨a,cap,rfl,h2,_⟩:=id hs
 have he:=Zma hu
 have hu' : P.underlying t = some (.slice (P.elem t)):=by rw [he]; exact hu
 have run : (Instr.sliceAt t (.slice a l.length cap) none (some (.int .i64 (n : Int))) none).run P w = .ok (sliced a 0 n cap E.n) w:=by
  rw [run_sliceAt_slice w t _ _ _ _ hu',run_slice_h w t a l.length cap hu' .i64 (n : Int) (by omega) (by omega),he,XK ht,hE]; rfl
 refine WL.val hw ?_ rfl (k _ (hs.takeV hn))
 simp [execOp,hx,hh,run,Result.andThen]
theorem Qo {α : Type} {E : Enc α} {by_ : Nat} {t e : TypeId} {x lo : Operand} {v : Value} {l : List α} {ti : TI} (hs : Sl E by_ G v l) (n : Nat) (hn : n ≤ l.length) (hu : P.underlying t = some (.slice e)) (ht : Yb P e = some ti) (hE : ti.size = E.n)
  (hw : Region.wanted ⟨some d, .slice t x (some lo) none none,ty,pos,af,g⟩ (Zr ops ρ) = true) (hx : ev ρ x = v) (hh : ev ρ lo = .int .i64 (n : Int))
  (k : ∀ v',Sl E by_ G v' (l.drop n) → K (Z5 ρ d v') w) : OW P ops ⟨some d, .slice t x (some lo) none none,ty,pos,af,g⟩ ρ w K:=by
 obtain ⟨a,cap,rfl,h2,_⟩:=id hs
 have he:=Zma hu
 have hu' : P.underlying t = some (.slice (P.elem t)):=by rw [he]; exact hu
 have run : (Instr.sliceAt t (.slice a l.length cap) (some (.int .i64 (n : Int))) none none).run P w = .ok (sliced a n l.length cap E.n) w:=by
  rw [run_sliceAt_slice w t _ _ _ _ hu',run_slice_l w t a l.length cap hu' .i64 (n : Int) (by omega) (by omega),he,XK ht,hE]; rfl
 refine WL.val hw ?_ rfl (k _ (hs.dropV hn))
 simp [execOp,hx,hh,run,Result.andThen]
theorem Zei (op : BinOp) (t : TypeId) (x y : Operand) (a b : Bool) : (eqGuard op t x y (.bool a) (.bool b)).run P w = .ok () w:=by
 unfold eqGuard; split <;> simp
theorem Xu {t ty' : TypeId} {x y : Operand} (a b : Bool) (hu : P.underlying t = some .bool)
  (hw : Region.wanted ⟨some d, .binOp .eql t x y ty',ty,pos,af,g⟩ (Zr ops ρ) = true) (hx : ev ρ x = .bool a) (hy : ev ρ y = .bool b)
  (kk : K (Z5 ρ d (.bool (a == b))) w) : OW P ops ⟨some d, .binOp .eql t x y ty',ty,pos,af,g⟩ ρ w K:=by
 refine WL.val hw ?_ rfl kk
 simp [execOp,hx,hy,Zei,run_eql_bool w t a b hu,Result.andThen]
theorem Zaa {t ty' : TypeId} {x y : Operand} (a b : Bool) (hu : P.underlying t = some .bool)
  (hw : Region.wanted ⟨some d, .binOp .neq t x y ty',ty,pos,af,g⟩ (Zr ops ρ) = true) (hx : ev ρ x = .bool a) (hy : ev ρ y = .bool b)
  (kk : K (Z5 ρ d (.bool (!(a == b)))) w) : OW P ops ⟨some d, .binOp .neq t x y ty',ty,pos,af,g⟩ ρ w K:=by
 refine WL.val hw ?_ rfl kk
 simp [execOp,hx,hy,Zei,run_neq_bool w t a b hu,Result.andThen]
end
section
variable {w0 w w' : World} {X : List Nat} {G0 G G' : GH} {L : Own} {o o' : OB}
end
end Go.Civ
namespace Go.Civ
set_option linter.unusedVariables false
def Zd6 (a m b p : Nat) : Nat:=if a ≤ p ∧ p < a + (b - m) then p + (m - a) else if a + (b - m) ≤ p ∧ p < b then p - (b - m) else p
def Zgc (a b n p : Nat) : Nat:=if a ≤ p ∧ p < a + n then p - a + b else if b ≤ p ∧ p < b + n then p - b + a else p
section
variable {α : Type}
structure Moved (l L : List α) (f : Nat → Nat) : Prop where
 perm : L.Perm l
 map : ∀ p,p < l.length → L[p]? = l[f p]?
variable {l L M : List α} {f g : Nat → Nat}
theorem Moved.len (h : Moved l L f) : L.length = l.length:=h.perm.length_eq
theorem Moved.refl (hf : ∀ p,p < l.length → f p = p) : Moved l l f:=⟨List.Perm.refl _,fun p hp=>by rw [hf p hp]⟩
theorem Moved.swap (h : Moved l L f) {i j : Nat} {x y : α} (hi : L[i]? = some x) (hj : L[j]? = some y) (hij : i ≠ j) (hg : ∀ p,p < l.length → g p = if p = i then f j else if p = j then f i else f p) : Moved l ((L.set i y).set j x) g:=by
 have hil : i < L.length:=(List.getElem?_eq_some_iff.1 hi).1
 have hjl : j < L.length:=(List.getElem?_eq_some_iff.1 hj).1
 have hl:=h.len
 refine ⟨(Zi8 hij hi hj).trans h.perm,fun p hp=>?_⟩
 rw [hg p hp,List.getElem?_set]
 by_cases h1 : j = p
 ·subst h1
  rw [if_pos rfl,if_pos (by simpa using hjl),if_neg (Ne.symm hij),if_pos rfl,← hi]
  exact h.map i (by omega)
 ·rw [if_neg h1,List.getElem?_set]
  by_cases h2 : i = p
  ·subst h2
   rw [if_pos rfl,if_pos hil,if_pos rfl,← hj]
   exact h.map j (by omega)
  ·rw [if_neg h2,if_neg (Ne.symm h2),if_neg (Ne.symm h1)]; exact h.map p hp
structure RotInv (l M : List α) (a m b i j : Nat) : Prop where
 perm : M.Perm l
 map : ∀ p,p < l.length → M[Zd6 (m - i) m (m + j) p]? = l[Zd6 a m b p]?
theorem RotInv.start {a m b : Nat} (h1 : a ≤ m) (h2 : m ≤ b) : RotInv l l a m b (m - a) (b - m):=by
 refine ⟨List.Perm.refl _,fun p hp=>?_⟩
 rw [show m - (m - a) = a by omega,show m + (b - m) = b by omega]
theorem RotInv.len {a m b i j : Nat} (h : RotInv l M a m b i j) : M.length = l.length:=h.perm.length_eq
theorem RotInv.left {a m b i j : Nat} (h : RotInv l M a m b i j) (k : Moved M L (Zgc (m - i) m j)) (hij : j < i) (hi : i ≤ m) (hj : m + j ≤ l.length) : RotInv l L a m b (i - j) j:=by
 refine ⟨k.perm.trans h.perm,fun p hp=>?_⟩
 have hl:=h.len
 rw [k.map _ (by rw [hl]; unfold Zd6; split <;> (try split) <;> omega),← h.map p hp]
 congr 1
 unfold Zgc Zd6
 repeat' split
 all_goals omega
theorem RotInv.right {a m b i j : Nat} (h : RotInv l M a m b i j) (k : Moved M L (Zgc (m - i) (m + j - i) i)) (hij : i < j) (hi : i ≤ m) (hj : m + j ≤ l.length) : RotInv l L a m b i (j - i):=by
 refine ⟨k.perm.trans h.perm,fun p hp=>?_⟩
 have hl:=h.len
 rw [k.map _ (by rw [hl]; unfold Zd6; split <;> (try split) <;> omega),← h.map p hp]
 congr 1
 unfold Zgc Zd6
 repeat' split
 all_goals omega
theorem RotInv.done {a m b i j : Nat} (h : RotInv l M a m b i j) (k : Moved M L (Zgc (m - i) m i)) (hij : i = j) (hi : i ≤ m) (hj : m + j ≤ l.length) : Moved l L (Zd6 a m b):=by
 subst hij
 refine ⟨k.perm.trans h.perm,fun p hp=>?_⟩
 have hl:=h.len
 rw [k.map p (by omega),← h.map p hp]
 congr 1
 unfold Zgc Zd6
 repeat' split
 all_goals omega
variable {pf : α → α → Int}
def Zu7 (pf : α → α → Int) (l : List α) : Prop:=∀ x ∈ l,∀ y ∈ l,pf x y < 0 → ¬ pf y x < 0
def Zu8 (pf : α → α → Int) (l : List α) : Prop:=∀ x ∈ l,∀ y ∈ l,∀ z ∈ l,¬ pf y x < 0 → ¬ pf z y < 0 → ¬ pf z x < 0
def Zwn (pf : α → α → Int) (M : List α) (a mid b : Nat) : Prop:=∀ p q u v,a ≤ p → p < mid → mid ≤ q → q < b → M[p]? = some u → M[q]? = some v → ¬ pf v u < 0
structure Halves (pf : α → α → Int) (l M : List α) (a s mid e b : Nat) : Prop where
 perm : M.Perm l
 frame : ∀ p,p < a ∨ b ≤ p → M[p]? = l[p]?
 s1 : Asc pf M a s
 s2 : Asc pf M s mid
 s3 : Asc pf M mid e
 s4 : Asc pf M e b
 cross : Zwn pf M a mid b
theorem Ins.from_ {a b i p : Nat} {x : α} (h : Ins pf l L a b i) (hab : a ≤ b) (h1 : a ≤ p) (h2 : p < b) (hx : L[p]? = some x) : ∃ q,a ≤ q ∧ q < b ∧ l[q]? = some x:=by
 have hl:=h.len
 have e1 : L.take a = l.take a:=by
  apply List.ext_getElem?; intro k
  rw [List.getElem?_take,List.getElem?_take]
  split
  ·exact h.frame k (by omega)
  ·rfl
 have e2 : L.drop b = l.drop b:=by
  apply List.ext_getElem?; intro k
  rw [List.getElem?_drop,List.getElem?_drop]; exact h.frame _ (by omega)
 have dec : ∀ t : List α,t = t.take a ++ ((t.drop a).take (b - a) ++ t.drop b):=fun t=>by
  rw [show t.drop b = (t.drop a).drop (b - a) by rw [List.drop_drop]; congr 1; omega,List.take_append_drop,List.take_append_drop]
 have hp:=h.perm
 rw [dec L,dec l,e1,e2,List.perm_append_left_iff,List.perm_append_right_iff] at hp
 have hm : x ∈ (L.drop a).take (b - a):=by
  refine List.mem_of_getElem? (i:=p - a) ?_
  rw [List.getElem?_take,if_pos (by omega),List.getElem?_drop,show a + (p - a) = p by omega]; exact hx
 obtain ⟨k,hk⟩:=List.getElem?_of_mem (hp.mem_iff.1 hm)
 rw [List.getElem?_take] at hk
 split at hk
 ·rw [List.getElem?_drop] at hk; exact ⟨a + k,by omega,by omega,hk⟩
 ·cases hk
theorem Asc.empty {a b : Nat} (h : b ≤ a + 1) : Asc pf l a b:=fun p q x y h1 h2 h3=>by omega
theorem Halves.done {a s mid e b : Nat} {M1 M2 : List α} (h : Halves pf l M a s mid e b) (h1 : Ins pf M M1 a mid mid) (h2 : Ins pf M1 M2 mid b b) (ha : a ≤ mid) (hb : mid ≤ b) : Ins pf l M2 a b b:=by
 refine ⟨h2.perm.trans (h1.perm.trans h.perm),fun p hp=>?_,fun p q u v k1 k2 k3 hu hv=>?_⟩
 ·rw [h2.frame p (by omega),h1.frame p (by omega)]; exact h.frame p hp
 ·rcases Nat.lt_or_ge q mid with c | c
  ·rw [h2.frame p (by omega)] at hu; rw [h2.frame q (by omega)] at hv
   exact h1.asc p q u v k1 k2 c hu hv
  ·rcases Nat.lt_or_ge p mid with d | d
   ·rw [h2.frame p (by omega)] at hu
    obtain ⟨p',a1,a2,a3⟩:=h1.from_ ha k1 d hu
    obtain ⟨q',b1,b2,b3⟩:=h2.from_ hb c k3 hv
    rw [h1.frame q' (by omega)] at b3
    exact h.cross p' q' u v a1 a2 b1 b2 a3 b3
   ·exact h2.asc p q u v d k2 k3 hu hv
theorem Ins.same {a b : Nat} (h : Asc pf l a b) : Ins pf l l a b b:=⟨List.Perm.refl _,fun _ _=>rfl,h⟩
theorem Asc.frame {a b : Nat} (h : Asc pf l a b) (k : ∀ p,a ≤ p → p < b → L[p]? = l[p]?) : Asc pf L a b:=fun p q x y h1 h2 h3 hx hy=>by
 rw [k p h1 (by omega)] at hx; rw [k q (by omega) h3] at hy
 exact h p q x y h1 h2 h3 hx hy
theorem Zu7.perm (h : Zu7 pf l) (k : L.Perm l) : Zu7 pf L:=fun x hx y hy=>h x (k.mem_iff.1 hx) y (k.mem_iff.1 hy)
theorem Zu8.perm (h : Zu8 pf l) (k : L.Perm l) : Zu8 pf L:=fun x hx y hy z hz=>h x (k.mem_iff.1 hx) y (k.mem_iff.1 hy) z (k.mem_iff.1 hz)
end
end Go.Civ
set_option linter.unusedVariables false
namespace Go.Civ
open Go.Proofs Go.Shelf Go.RowKit Go.Lib Go.Sort
theorem Zjl {α : Type} (enc : α → List Value) (k : Nat) (hk0 : 0 < k) (hk : ∀ x,(enc x).length = k) : ∀ (l : List α) (t : Nat),(l.flatMap enc)[t]? = (l[t / k]?).bind fun x=>(enc x)[t % k]?
 | [],t=>by simp
 | x :: l,t=>by
  rw [List.flatMap_cons,List.getElem?_append]
  by_cases ht : t < k
  ·rw [if_pos (by rw [hk]; exact ht),Nat.div_eq_of_lt ht,Nat.mod_eq_of_lt ht]; rfl
  ·rw [if_neg (by rw [hk]; exact ht),hk,Zjl enc k hk0 hk l (t - k),Nat.div_eq_sub_div (a:=t) hk0 (by omega),Nat.mod_eq_sub_mod (a:=t) (by omega),List.getElem?_cons_succ]
theorem Zjm {α : Type} [Inhabited α] (enc : α → List Value) (k : Nat) (hk0 : 0 < k) (hk : ∀ x,(enc x).length = k) (d : Array α) (t : Nat) (ht : t < d.size * k) : (d.toList.flatMap enc)[t]? = some ((flatK enc k d)[t]!):=by
 rw [Zjl enc k hk0 hk,get_flatK enc k d t ht]
 have hd : t / k < d.size:=(Nat.div_lt_iff_lt_mul hk0).2 ht
 have e : d.toList[t / k]? = some d[t / k]! :=by
  rw [getElem!_pos d (t / k) hd,Array.getElem?_toList,Array.getElem?_eq_getElem hd]
 rw [e]
 simp only [Option.bind_some]
 have hl : t % k < (enc d[t / k]!).length:=by rw [hk]; exact Nat.mod_lt _ hk0
 rw [List.getElem?_eq_getElem hl,getElem!_pos (enc d[t / k]!) (t % k) hl]
abbrev Elt {α : Type} (E : Enc α) (G : GH) (V : α → Prop):={ p : α × List Value // E.rep G p.1 p.2 ∧ V p.1 }
section
variable {α : Type} {E : Enc α} {G : GH} {V : α → Prop}
theorem Zjn : ∀ (l : List α) (xs : List Value),X2 E G l xs → (∀ x ∈ l,V x) → ∃ dl : List (Elt E G V),dl.map (·.1.1) = l ∧ dl.flatMap (·.1.2) = xs
 | [],xs,h,_=>⟨[],rfl,by simpa using h.symm⟩
 | x :: l,xs,⟨c,r,h1,h2,h3⟩,hV=>by
  obtain ⟨dl,k1,k2⟩:=Zjn l r h3 fun y hy=>hV y (by simp [hy])
  exact ⟨⟨(x,c),h2,hV x (by simp)⟩ :: dl,by simp [k1],by simp [k2,h1]⟩
theorem ZfJ : ∀ (dl : List (Elt E G V)),X2 E G (dl.map (·.1.1)) (dl.flatMap (·.1.2))
 | []=>rfl
 | x :: l=>⟨x.1.2,_,rfl,x.2.1,ZfJ l⟩
theorem Kept.grow {w w' : World} (h : Kept [] w w') : ∃ q os',w' = grow (w.drewN q) os':=by
 refine ⟨w'.drawn - w.drawn,w'.heap.extract w.heap.size w'.heap.size,?_⟩
 obtain ⟨h1,h2,h3,h4,h5,h6⟩:=h
 obtain ⟨heap,tape,drawn,os,output⟩:=w
 obtain ⟨heap',tape',drawn',os',output'⟩:=w'
 simp only at h1 h2 h3 h4 h5 h6
 subst h1 h2 h3
 simp only [Go.Sort.grow,World.drewN]
 have e1 : drawn + (drawn' - drawn) = drawn':=by omega
 have e2 : heap ++ heap'.extract heap.size heap'.size = heap':=by
  apply Array.ext_getElem?
  intro i
  rw [Array.getElem?_append]
  split
  ·rename_i hi; exact (h6 i hi (by simp)).symm
  ·rename_i hi
   rw [Array.getElem?_extract]
   split
   ·congr 1; omega
   ·rw [Array.getElem?_eq_none]; omega
 rw [e1,e2]
end
theorem ZfK {β : Type} [Inhabited β] (enc : β → List Value) (k : Nat) (w : World) (b n : Nat) (d : Array β) (os : Array Obj) {cs : List Value} {tid : TypeId} (hb : w.heap[b]? = some (.cells cs.toArray tid (0,0))) (i : Nat) :
  (sortWorldK enc k w b 0 n d os).heap[i]? = if i < w.heap.size then (if b = i then some (.cells (putCells id 0 (flatK enc k d) cs.toArray) tid (0,0)) else w.heap[i]?) else os[i - w.heap.size]? :=by
 have hah : (Go.Sort.ahead w n).heap = w.heap:=rfl
 simp only [sortWorldK,putRowK,putRow,mapBlock,Go.Sort.grow,hah]
 rw [Array.getElem?_append]
 simp only [Array.size_modify]
 by_cases hk : i < w.heap.size
 ·rw [if_pos hk,if_pos hk,Array.getElem?_modify]
  by_cases hkb : b = i
  ·subst hkb
   rw [if_pos rfl,if_pos rfl,hb]
   simp [onCells]
  ·rw [if_neg hkb,if_neg hkb]
 ·rw [if_neg hk,if_neg hk]
theorem Zlq {β : Type} [Inhabited β] (enc : β → List Value) (k : Nat) {w : World} {G : GH} (hG : G.In w) (b n : Nat) (d : Array β) (os : Array Obj) {cs : List Value} {tid : TypeId} (hb : w.heap[b]? = some (.cells cs.toArray tid (0,0))) (hg : G b = none) :
  Res [b] w G (sortWorldK enc k w b 0 n d os) G:=by
 refine ⟨⟨rfl,rfl,rfl,Nat.le_add_right _ _,?_,fun i hi hkb=>?_⟩,G.le_refl,fun _ _=>rfl,fun i o hk=>?_⟩
 ·have hah : (Go.Sort.ahead w n).heap = w.heap:=rfl
  simp [sortWorldK,putRowK,putRow,mapBlock,Go.Sort.grow]
  try simp [hah]
 ·rw [ZfK enc k w b n d os hb,if_pos hi,if_neg (by simpa [eq_comm] using hkb)]
 ·have hk1:=hG.lt hk
  have hkb : b ≠ i:=fun e=>by subst e; rw [hg] at hk; cases hk
  rw [ZfK enc k w b n d os hb,if_pos hk1,if_neg hkb]; exact hG i o hk
set_option maxHeartbeats 2000000 in
theorem Zmn {P : Program} {ρr : Ren} (Ls : SlLaysF0.n6 P ρr) {α : Type} {E : Enc α} {by_ : Nat} {tid : TypeId} (hk0 : 0 < E.n) (aE : ∀ w,(isAgg (ρr.t 24)).run P w = .ok true w) (zE : ∀ w,(Go.sizeOf (ρr.t 24)).run P w = .ok E.n w)
  (cf : α → α → Int) (V : α → Prop) (hirr : ∀ x,V x → ¬ cf x x < 0) (htr : ∀ x y z,V x → V y → V z → cf x y < 0 → cf y z < 0 → cf x z < 0) (hnt : ∀ x y z,V x → V y → V z → ¬ cf x y < 0 → ¬ cf y z < 0 → ¬ cf x z < 0)
  (gf : Nat) (eg : ∀ args w,(callFunc gf args).run P w = .ok (.enter gf args) w) {G : GH} {w : World} (hG : G.In w)
  (hcl : ∀ W,G.In W → ∀ x y cx cy,V x → V y → E.rep G x cx → E.rep G y cy → Calls P gf #[.agg cx.toArray, .agg cy.toArray] W fun e w'=>∃ r G',e = .returned r ∧ Res [] W G w' G' ∧ r = .int .i64 (cf x y))
  (x0 : α) (c0 : List Value) (h0 : E.rep G x0 c0) (hV0 : V x0) (l : List α) (hV : ∀ x ∈ l,V x) (vd : Value) (od : OB) (hvd : Ye E by_ tid G vd l od) (hod : XJ w G od) :
  Calls P (ρr.f 6) #[vd, .func (.func gf) #[] #[]] w fun e w'=>∃ r G',e = .returned r ∧ Res (blk od) w G w' G' ∧ r = .tuple #[] ∧ ∃ (l' : List α) (o' : OB),Ye E by_ tid G' vd l' o' ∧ XJ w' G' o' ∧ (l'.Perm l ∧ l'.Pairwise fun x y=>¬ cf y x < 0):=by
 rcases hvd with ⟨rfl,rfl,rfl⟩ | ⟨b,cs,cap,xs,rfl,rfl,h3,h4,h5,h6,h7,h8,h9⟩
 ·exact (AnyF.slices_SortFunc_none (P:=P) (ρ:=ρr) { Ls with } none 0 (.func (.func gf) #[] #[]) w).mono fun e w' ⟨he,hw⟩=>by
   subst hw
   exact ⟨_,G,he,Res.refl hG,rfl,[],none, .inl ⟨rfl,rfl,rfl⟩,fun p hp=>(by cases hp),List.Perm.refl _,List.Pairwise.nil⟩
 ·obtain ⟨hb1,hb2⟩:=hod _ rfl
  simp only [ZaK] at hb1
  obtain ⟨dl,rfl,rfl⟩:=Zjn l xs h6 hV
  letI : Inhabited (Elt E G V):=⟨⟨(x0,c0),h0,hV0⟩⟩
  have hkE : ∀ x : Elt E G V,(x.1.2).length = E.n:=fun x=>E.len x.2.1
  have hsz : dl.toArray.size = (dl.map (·.1.1)).length:=by simp
  have hcell : ∀ t,t < dl.toArray.size * E.n → cs[t]? = some ((flatK (fun x : Elt E G V=>x.1.2) E.n dl.toArray)[t]!):=fun t ht=>by
   rw [← Zjm (fun x : Elt E G V=>x.1.2) E.n hk0 hkE dl.toArray t ht]
   have e7:=congrArg (·[t]?) h7
   rw [List.getElem?_take,if_pos (by rw [← hsz]; exact ht)] at e7
   exact e7
  have hH : HoldsK (fun x : Elt E G V=>x.1.2) E.n w b 0 dl.toArray:=fun t ht=>by
   rw [size_flatK] at ht
   refine ⟨?_,?_⟩
   ·rw [Nat.zero_add]
    simp only [World.cell?,hb1]
    have:=hcell t ht
    simpa using this
   ·simp [World.frozen?,hb1]
  have hO : SWO (ltOf fun x y : Elt E G V=>cf x.1.1 y.1.1):=
   ⟨fun x=>decide_eq_false (hirr _ x.2.2),fun x y z p q=>decide_eq_true (htr _ _ _ x.2.2 y.2.2 z.2.2 (of_decide_eq_true p) (of_decide_eq_true q)),fun x y z p q=>decide_eq_false (hnt _ _ _ x.2.2 y.2.2 z.2.2 (of_decide_eq_false p) (of_decide_eq_false q))⟩
  have hcon:=AnyQ.slices_SortFunc Ls E.n aE zE (fun x : Elt E G V=>x.1.2) hkE (fun x v hv=>E.one x.2.1 v hv) (fun x y=>cf x.1.1 y.1.1) hO gf #[] b 0 cap dl.toArray w eg
   (fun m os dk _ x y=>(hcl _ (Zlq _ _ hG b m dk os hb1 hb2).imm x.1.1 y.1.1 x.1.2 y.1.2 x.2.2 y.2.2 x.2.1 y.2.1).mono fun e w' ⟨r,G',he,hres,hr⟩=>⟨by rw [he,hr],hres.kept.grow⟩)
   hH (Array.getElem?_eq_some_iff.1 hb1).1 (by rw [hsz]; unfold reach at h9; omega)
  rw [hsz] at hcon
  refine hcon.mono fun e w' ⟨he,d',n,os,hp,hs,hw⟩=>?_
  obtain ⟨hp1,hp2,hp3⟩:=hp
  have hd' : d'.size = dl.length:=by simpa using hp1
  have hperm : d'.toList.Perm dl:=by
   have e1 : d'.extract 0 dl.toArray.size = d':=by rw [← hp1]; simp
   have e2 : dl.toArray.extract 0 dl.toArray.size = dl.toArray:=by simp
   rw [hsz.symm,e1,e2] at hp3; simpa using hp3
  have hbl : b < w.heap.size:=(Array.getElem?_eq_some_iff.1 hb1).1
  subst hw
  obtain ⟨cs',hcs'⟩ : ∃ cs' : List Value,cs' = (putCells id 0 (flatK (fun x : Elt E G V=>x.1.2) E.n d') cs.toArray).toList:=⟨_,rfl⟩
  have hres:=Zlq (fun x : Elt E G V=>x.1.2) E.n hG b n d' os hb1 hb2
  have hlen : (d'.toList.map (·.1.1)).length = (dl.map (·.1.1)).length:=by simp [hd']
  have hln : (dl.map (·.1.1)).length = dl.length:=by simp
  have h5' : cs.length = cap * E.n:=h5
  have hfl : (d'.toList.flatMap (·.1.2)).length = d'.size * E.n:=by
   have:=X2.len (ZfJ d'.toList); simpa using this
  have hcapd : d'.size * E.n ≤ cs.length:=by
   rw [h5']; exact Nat.mul_le_mul_right _ (by omega)
  refine ⟨_,G,he,hres,rfl,d'.toList.map (·.1.1),some (b,tid,cs'), .inr ⟨b,cs',cap,d'.toList.flatMap (·.1.2),rfl,by rw [hlen],by rw [hlen]; exact h3,h4,?_,ZfJ _,?_,by rw [hlen]; exact h8,by rw [hlen]; exact h9⟩,fun p hp=>?_,?_,?_⟩
  ·subst hcs'; simpa [putCells] using h5
  ·apply List.ext_getElem?
   intro t
   rw [List.getElem?_take]
   have hn2 : (d'.toList.map (·.1.1)).length * E.n = d'.size * E.n:=by simp
   rw [hn2]
   by_cases ht : t < d'.size * E.n
   ·have htc : t < cs.length:=by omega
    rw [if_pos ht,Zjm (fun x : Elt E G V=>x.1.2) E.n hk0 hkE d' t ht,hcs']
    simp only [putCells,Array.getElem?_toList,Array.getElem?_mapIdx,size_flatK]
    simp only [List.getElem?_toArray]
    rw [List.getElem?_eq_getElem htc]
    simp [ht]
   ·rw [if_neg ht,List.getElem?_eq_none]; omega
  ·obtain rfl:=Option.some.inj hp
   refine ⟨?_,hb2⟩
   rw [ZfK _ _ w b n d' os hb1,if_pos hbl,if_pos rfl,hcs']; rfl
  ·exact hperm.map _
  ·rw [List.pairwise_map,List.pairwise_iff_getElem]
   intro i j hi hj hij
   have h:=hs i j (by omega) hij (by rw [← hsz,← hp1]; simpa using hj)
   have hi' : i < d'.size:=by simpa using hi
   have hj' : j < d'.size:=by simpa using hj
   rw [getElem!_pos d' i hi',getElem!_pos d' j hj'] at h
   have:=of_decide_eq_false h
   simpa only [Array.getElem_toList] using this
end Go.Civ
