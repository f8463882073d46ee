/- Lemmas. -/
import Derived.Test.YthgeclodflmiaaaGreatK05
import Derived.Test.YthgeclodflmiaaaGreatK08
import Derived.WalkKit
import Derived.KernelRfl
namespace Go.Civ
open Go.RowKit
set_option linter.unusedVariables false
structure Rect where
  d : Span
  x : Span
deriving DecidableEq
structure HRow where
  v : List Val
  r : Rect
deriving DecidableEq
structure Foreign where
  cols : List (List UInt8)
  table : List UInt8
deriving DecidableEq
structure Schema where
  name : List UInt8
  cols : List Col
  key : Int
  fks : List Foreign
deriving DecidableEq
structure Table where
  s : Schema
  rows : List HRow
  last : Int
deriving DecidableEq
def RectE : Enc Rect:=(Enc.pair SpanE SpanE).via fun x=>(x.d,x.x)
def HRowE : Enc HRow:=(Enc.pair (ValE.slice 32) RectE).via fun x=>(x.v,x.r)
def ForeignE : Enc Foreign:=(Enc.pair (Enc.str.slice 16) .str).via fun x=>(x.cols,x.table)
def SchemaE : Enc Schema:=(Enc.pair .str (Enc.pair (ColE.slice 24) (Enc.pair .int (ForeignE.slice 40)))).via fun x=>(x.name,x.cols,x.key,x.fks)
def TableE : Enc Table:=(Enc.pair SchemaE (Enc.pair (HRowE.slice 56) .int)).via fun x=>(x.s,x.rows,x.last)
section
variable {G : GH} {cs : List Value}
theorem RectE_open {x : Rect} (h : RectE.rep G x cs) : cs = [.int .i64 x.d.a, .int .i64 x.d.b, .int .i64 x.x.a, .int .i64 x.x.b] ∧ I64 x.d.a ∧ I64 x.d.b ∧ I64 x.x.a ∧ I64 x.x.b:=by
  obtain ⟨c1,c2,rfl,h1,h2⟩:=h
  obtain ⟨rfl,h3,h4⟩:=SpanE_open h1
  obtain ⟨rfl,h5,h6⟩:=SpanE_open h2
  exact ⟨rfl,h3,h4,h5,h6⟩
theorem RectE_mk (x : Rect) (h1 : I64 x.d.a) (h2 : I64 x.d.b) (h3 : I64 x.x.a) (h4 : I64 x.x.b) : RectE.rep G x [.int .i64 x.d.a, .int .i64 x.d.b, .int .i64 x.x.a, .int .i64 x.x.b]:=
  ⟨_,_,rfl,SpanE_mk x.d h1 h2,SpanE_mk x.x h3 h4⟩
theorem HRowE_open {x : HRow} (h : HRowE.rep G x cs) : ∃ v,cs = [v, .int .i64 x.r.d.a, .int .i64 x.r.d.b, .int .i64 x.r.x.a, .int .i64 x.r.x.b] ∧ Sl ValE 32 G v x.v ∧ I64 x.r.d.a ∧ I64 x.r.d.b ∧ I64 x.r.x.a ∧ I64 x.r.x.b:=by
  obtain ⟨c1,c2,rfl,⟨v,rfl,h1⟩,h2⟩:=h
  obtain ⟨rfl,h3,h4,h5,h6⟩:=RectE_open h2
  exact ⟨v,rfl,h1,h3,h4,h5,h6⟩
theorem HRowE_mk (x : HRow) {v : Value} (h1 : Sl ValE 32 G v x.v) (h2 : I64 x.r.d.a) (h3 : I64 x.r.d.b) (h4 : I64 x.r.x.a) (h5 : I64 x.r.x.b) :
    HRowE.rep G x [v, .int .i64 x.r.d.a, .int .i64 x.r.d.b, .int .i64 x.r.x.a, .int .i64 x.r.x.b]:=⟨[v],_,rfl,⟨v,rfl,h1⟩,RectE_mk x.r h2 h3 h4 h5⟩
theorem ForeignE_open {x : Foreign} (h : ForeignE.rep G x cs) : ∃ v,cs = [v,strV x.table] ∧ Sl Enc.str 16 G v x.cols ∧ x.table.length ≤ reach:=by
  obtain ⟨c1,c2,rfl,⟨v,rfl,h1⟩,rfl,h2⟩:=h
  exact ⟨v,rfl,h1,h2⟩
theorem SchemaE_open {x : Schema} (h : SchemaE.rep G x cs) : ∃ v u,cs = [strV x.name,v, .int .i64 x.key,u] ∧ x.name.length ≤ reach ∧ Sl ColE 24 G v x.cols ∧ I64 x.key ∧ Sl ForeignE 40 G u x.fks:=by
  obtain ⟨c1,c2,rfl,⟨rfl,h1⟩,c3,c4,rfl,⟨v,rfl,h2⟩,c5,c6,rfl,⟨rfl,h3⟩,u,rfl,h4⟩:=h
  exact ⟨v,u,rfl,h1,h2,h3,h4⟩
theorem SchemaE_mk (x : Schema) {v u : Value} (h1 : x.name.length ≤ reach) (h2 : Sl ColE 24 G v x.cols) (h3 : I64 x.key) (h4 : Sl ForeignE 40 G u x.fks) : SchemaE.rep G x [strV x.name,v, .int .i64 x.key,u]:=
  ⟨_,_,rfl,⟨rfl,h1⟩,_,_,rfl,⟨v,rfl,h2⟩,_,_,rfl,⟨rfl,h3⟩,u,rfl,h4⟩
theorem TableE_open {x : Table} (h : TableE.rep G x cs) : ∃ v u r,cs = [strV x.s.name,v, .int .i64 x.s.key,u,r, .int .i64 x.last] ∧ x.s.name.length ≤ reach ∧ Sl ColE 24 G v x.s.cols ∧ I64 x.s.key ∧ Sl ForeignE 40 G u x.s.fks ∧ Sl HRowE 56 G r x.rows ∧ I64 x.last:=by
  obtain ⟨c1,c2,rfl,h0,c3,c4,rfl,⟨r,rfl,h2⟩,rfl,h3⟩:=h
  obtain ⟨v,u,rfl,h4,h5,h6,h7⟩:=SchemaE_open h0
  exact ⟨v,u,r,rfl,h4,h5,h6,h7,h2,h3⟩
theorem TableE_mk (x : Table) {v u r : Value} (h1 : x.s.name.length ≤ reach) (h2 : Sl ColE 24 G v x.s.cols) (h3 : I64 x.s.key) (h4 : Sl ForeignE 40 G u x.s.fks) (h5 : Sl HRowE 56 G r x.rows) (h6 : I64 x.last) :
    TableE.rep G x [strV x.s.name,v, .int .i64 x.s.key,u,r, .int .i64 x.last]:=⟨_,_,rfl,SchemaE_mk x.s h1 h2 h3 h4,_,_,rfl,⟨r,rfl,h5⟩,rfl,h6⟩
end
def u63 (n : Int) : Nat:=(n + 9223372036854775808).toNat
def byteN (n k : Nat) : UInt8:=UInt8.ofNat (n / 2 ^ k)
def encN (n : Int) : List UInt8:=[56,48,40,32,24,16,8,0].map (byteN (u63 n))
def encV (x : Val) : List UInt8:=UInt8.ofNat x.k.toNat :: (if x.k = 2 then x.s ++ [0] else if x.k = 3 then [UInt8.ofNat x.n.toNat] else encN x.n)
def encL (l : List Val) : List UInt8:=l.flatMap encV
def keyE (l : List Val) : List UInt8:=if l.length ≤ 1000 ∧ l.all valB = true then encL l else []
theorem byteN_val (n k : Nat) : (byteN n k).toNat = n / 2 ^ k % 256:=by unfold byteN; simp
theorem dig {a b k : Nat} (h : a / 2 ^ k % 256 = b / 2 ^ k % 256) (hk : a / 2 ^ (k + 8) = b / 2 ^ (k + 8)) : a / 2 ^ k = b / 2 ^ k:=by
  rw [Nat.pow_add,← Nat.div_div_eq_div_mul,← Nat.div_div_eq_div_mul] at hk
  generalize a / 2 ^ k = x at *
  generalize b / 2 ^ k = y at *
  have e : (2 : Nat) ^ 8 = 256:=rfl
  rw [e] at hk
  omega
theorem encN_inj {m n : Int} (hm : I64 m) (hn : I64 n) (h : encN m = encN n) : m = n:=by
  have e : ∀ k,k ∈ [56,48,40,32,24,16,8,0] → u63 m / 2 ^ k % 256 = u63 n / 2 ^ k % 256:=fun k hk=>by
    have:=List.map_inj_left.1 h k hk
    rw [← byteN_val,← byteN_val,this]
  have bm : u63 m < 2 ^ 64:=by unfold u63; have:=hm.1; have:=hm.2; omega
  have bn : u63 n < 2 ^ 64:=by unfold u63; have:=hn.1; have:=hn.2; omega
  have h64 : u63 m / 2 ^ (56 + 8) = u63 n / 2 ^ (56 + 8):=by rw [Nat.div_eq_of_lt bm,Nat.div_eq_of_lt bn]
  have h56:=dig (e 56 (by simp)) h64
  have h48:=dig (e 48 (by simp)) h56
  have h40:=dig (e 40 (by simp)) h48
  have h32:=dig (e 32 (by simp)) h40
  have h24:=dig (e 24 (by simp)) h32
  have h16:=dig (e 16 (by simp)) h24
  have h8:=dig (e 8 (by simp)) h16
  have h0:=dig (e 0 (by simp)) h8
  rw [Nat.pow_zero,Nat.div_one,Nat.div_one] at h0
  unfold u63 at h0
  have:=hm.1; have:=hn.1
  omega
theorem text_inj : ∀ {s t r r' : List UInt8},s.all okC = true → t.all okC = true → s ++ 0 :: r = t ++ 0 :: r' → s = t ∧ r = r'
  | [],[],r,r',_,_,h=>⟨rfl,(List.cons.inj h).2⟩
  | [],c :: t,r,r',_,h2,h=>by
    have e:=(List.cons.inj h).1
    subst e
    simp [okC] at h2
  | c :: s,[],r,r',h1,_,h=>by
    have e:=(List.cons.inj h).1
    subst e
    simp [okC] at h1
  | c :: s,c' :: t,r,r',h1,h2,h=>by
    have e:=List.cons.inj h
    simp only [List.all_cons,Bool.and_eq_true] at h1 h2
    obtain ⟨rfl,rfl⟩:=text_inj h1.2 h2.2 e.2
    exact ⟨by rw [e.1],rfl⟩
theorem valB_k {x : Val} (h : valB x = true) : (x.k = 1 ∧ x.s = []) ∨ (x.k = 2 ∧ x.n = 0 ∧ x.s.all okC = true) ∨ (x.k = 3 ∧ x.s = [] ∧ (x.n = 0 ∨ x.n = 1)) ∨ (x.k = 4 ∧ x.s = []):=by
  unfold valB at h
  by_cases h1 : x.k = 1
  · simp [h1] at h; exact .inl ⟨h1,h⟩
  · by_cases h2 : x.k = 2
    · simp [h2] at h; exact .inr (.inl ⟨h2,h.1.1,by simpa using h.2⟩)
    · by_cases h3 : x.k = 3
      · simp [h3] at h; exact .inr (.inr (.inl ⟨h3,h.1,h.2⟩))
      · by_cases h4 : x.k = 4
        · simp [h4] at h; exact .inr (.inr (.inr ⟨h4,h.1.1⟩))
        · simp [h1,h2,h3,h4] at h
theorem val_ext {x y : Val} (h1 : x.k = y.k) (h2 : x.n = y.n) (h3 : x.s = y.s) : x = y:=by cases x; cases y; simp_all
theorem encV_inj {x y : Val} {r r' : List UInt8} (hx : valB x = true) (hy : valB y = true) (nx : I64 x.n) (ny : I64 y.n) (h : encV x ++ r = encV y ++ r') : x = y ∧ r = r':=by
  unfold encV at h
  rw [List.cons_append,List.cons_append] at h
  obtain ⟨hk,ht⟩:=List.cons.inj h
  have key : x.k = y.k:=by
    rcases valB_k hx with ⟨h1,_⟩ | ⟨h1,_⟩ | ⟨h1,_⟩ | ⟨h1,_⟩ <;> rcases valB_k hy with ⟨h2,_⟩ | ⟨h2,_⟩ | ⟨h2,_⟩ | ⟨h2,_⟩ <;> rw [h1,h2] at hk <;> first | exact h1.trans h2.symm | exact absurd hk (by decide)
  have eight : ∀ n m : Int,I64 n → I64 m → encN n ++ r = encN m ++ r' → n = m ∧ r = r':=fun n m hn hm e=>by
    obtain ⟨e1,e2⟩:=List.append_inj e (by simp [encN])
    exact ⟨encN_inj hn hm e1,e2⟩
  rcases valB_k hx with ⟨h1,h3⟩ | ⟨h1,h3,h5⟩ | ⟨h1,h3,h5⟩ | ⟨h1,h3⟩ <;> rcases valB_k hy with ⟨h2,h4⟩ | ⟨h2,h4,h6⟩ | ⟨h2,h4,h6⟩ | ⟨h2,h4⟩ <;> first | (exfalso; omega) | skip
  · rw [h1,h2] at ht
    obtain ⟨e1,e2⟩:=eight _ _ nx ny (by simpa using ht)
    exact ⟨val_ext key e1 (h3.trans h4.symm),e2⟩
  · rw [h1,h2] at ht
    obtain ⟨e1,e2⟩:=text_inj h5 h6 (by simpa using ht)
    exact ⟨val_ext key (h3.trans h4.symm) e1,e2⟩
  · rw [h1,h2] at ht
    simp at ht
    refine ⟨val_ext key ?_ (h3.trans h4.symm),ht.2⟩
    rcases h5 with h5 | h5 <;> rcases h6 with h6 | h6 <;> rw [h5,h6] at ht <;> first | exact h5.trans h6.symm | exact absurd ht.1 (by decide)
  · rw [h1,h2] at ht
    obtain ⟨e1,e2⟩:=eight _ _ nx ny (by simpa using ht)
    exact ⟨val_ext key e1 (h3.trans h4.symm),e2⟩
theorem encL_inj : ∀ {l m : List Val},l.all valB = true → m.all valB = true → (∀ x ∈ l,I64 x.n) → (∀ x ∈ m,I64 x.n) → encL l = encL m → l = m
  | [],[],_,_,_,_,_=>rfl
  | [],y :: m,_,_,_,_,h=>by simp [encL,encV] at h
  | x :: l,[],_,_,_,_,h=>by simp [encL,encV] at h
  | x :: l,y :: m,h1,h2,h3,h4,h=>by
    simp only [List.all_cons,Bool.and_eq_true] at h1 h2
    simp only [encL,List.flatMap_cons] at h
    obtain ⟨rfl,e⟩:=encV_inj h1.1 h2.1 (h3 x (by simp)) (h4 y (by simp)) h
    rw [encL_inj h1.2 h2.2 (fun z hz=>h3 z (by simp [hz])) (fun z hz=>h4 z (by simp [hz])) e]
theorem keyE_inj {l m : List Val} (hl : l.length ≤ 1000) (hm : m.length ≤ 1000) (h1 : l.all valB = true) (h2 : m.all valB = true) (h3 : ∀ x ∈ l,I64 x.n) (h4 : ∀ x ∈ m,I64 x.n) (h : keyE l = keyE m) : l = m:=by
  unfold keyE at h
  rw [if_pos ⟨hl,h1⟩,if_pos ⟨hm,h2⟩] at h
  exact encL_inj h1 h2 h3 h4 h
end Go.Civ
set_option linter.unusedVariables false
namespace Go.Civ
open Go.Proofs Go.Shelf Go.RowKit Go.Lib Go.Sort
abbrev BSpan:={ s : Span // -4398046511104 ≤ s.a ∧ s.a ≤ 4398046511104 }
instance : Inhabited BSpan:=⟨⟨⟨0,0⟩,by decide⟩⟩
def encB (x : BSpan) : List Value:=[.int .i64 x.1.a, .int .i64 x.1.b]
def cfB (x y : BSpan) : Int:=x.1.a - y.1.a
set_option maxHeartbeats 1000000 in
theorem closure190 (x y : BSpan) (W : World) : Calls Tryz.prog 190 #[.agg #[.int .i64 x.1.a, .int .i64 x.1.b], .agg #[.int .i64 y.1.a, .int .i64 y.1.b]] W fun e w'=>e = .returned (.int .i64 (cfB x y)) ∧ ∃ q os',w' = grow (W.drewN q) os':=by
  obtain ⟨⟨xa,xb⟩,hx⟩:=x
  obtain ⟨⟨ya,yb⟩,hy⟩:=y
  simp only [cfB]
  have hw : IntKind.wrap .i64 (xa - ya) = xa - ya:=wrap_in ⟨by simp at hx hy; omega,by simp at hx hy; omega⟩
  go_enter Tryz.func190,Tryz.ntmps190
  go_wp2
  go_ret
  exact ⟨rfl,0,_,by rw [alloc_eq_grow,alloc_eq_grow,grow_grow]; rfl⟩
theorem swoB : SWO (ltOf cfB) where
  irrefl x:=decide_eq_false (show ¬ x.1.a - x.1.a < 0 by omega)
  trans x y z h1 h2:=by
    have h1' : x.1.a - y.1.a < 0:=of_decide_eq_true h1
    have h2' : y.1.a - z.1.a < 0:=of_decide_eq_true h2
    exact decide_eq_true (show x.1.a - z.1.a < 0 by omega)
  ntrans x y z h1 h2:=by
    have h1' : ¬ x.1.a - y.1.a < 0:=of_decide_eq_false h1
    have h2' : ¬ y.1.a - z.1.a < 0:=of_decide_eq_false h2
    exact decide_eq_false (show ¬ x.1.a - z.1.a < 0 by omega)
theorem flat_get {α : Type} (enc : α → List Value) (h2 : ∀ x,(enc x).length = 2) : ∀ (l : List α) (t : Nat),(l.flatMap enc)[t]? = (l[t / 2]?).bind fun x=>(enc x)[t % 2]?
  | [],t=>by simp
  | x :: l,t=>by
    rw [List.flatMap_cons,List.getElem?_append]
    by_cases ht : t < 2
    · rw [if_pos (by rw [h2]; exact ht),show t / 2 = 0 by omega,Nat.mod_eq_of_lt ht]; rfl
    · rw [if_neg (by rw [h2]; exact ht),h2,flat_get enc h2 l (t - 2),show (t - 2) / 2 = t / 2 - 1 by omega,show (t - 2) % 2 = t % 2 by omega]
      obtain ⟨m,hm⟩ : ∃ m,t / 2 = m + 1:=⟨t / 2 - 1,by omega⟩
      rw [hm]; simp
theorem flatK_at {α : Type} [Inhabited α] (enc : α → List Value) (h2 : ∀ x,(enc x).length = 2) (d : Array α) (t : Nat) (ht : t < d.size * 2) : (d.toList.flatMap enc)[t]? = some ((flatK enc 2 d)[t]!):=by
  rw [flat_get enc h2,get_flatK enc 2 d t ht]
  have hd : t / 2 < d.size:=by omega
  have e : d.toList[t / 2]? = some d[t / 2]! :=by
    rw [getElem!_pos d (t / 2) hd,Array.getElem?_toList,Array.getElem?_eq_getElem hd]
  rw [e]
  simp only [Option.bind_some]
  have hl : t % 2 < (enc d[t / 2]!).length:=by rw [h2]; omega
  rw [List.getElem?_eq_getElem hl,getElem!_pos (enc d[t / 2]!) (t % 2) hl]
theorem flatSpan {G : GH} : ∀ (l : List BSpan),(∀ x ∈ l,I64 x.1.b) → Flat SpanE G (l.map (·.1)) (l.flatMap encB)
  | [],_=>rfl
  | x :: l,h=>⟨encB x,l.flatMap encB,rfl,SpanE_mk x.1 ⟨by have:=x.2; omega,by have:=x.2; omega⟩ (h x (by simp)),flatSpan l fun y hy=>h y (by simp [hy])⟩
theorem flat_cells {G : GH} : ∀ (l : List BSpan) (xs : List Value),Flat SpanE G (l.map (·.1)) xs → xs = l.flatMap encB ∧ ∀ x ∈ l,I64 x.1.b
  | [],xs,h=>⟨h,by simp⟩
  | x :: l,xs,⟨c,r,h1,h2,h3⟩=>by
    obtain ⟨rfl,_,hb⟩:=SpanE_open h2
    obtain ⟨rfl,h4⟩:=flat_cells l r h3
    refine ⟨h1,fun y hy=>?_⟩
    rcases List.mem_cons.1 hy with rfl | hy
    · exact hb
    · exact h4 y hy
theorem attach_list : ∀ (l : List Span),(∀ s ∈ l, -4398046511104 ≤ s.a ∧ s.a ≤ 4398046511104) → ∃ d : List BSpan,d.map (·.1) = l
  | [],_=>⟨[],rfl⟩
  | s :: l,h=>by
    obtain ⟨d,hd⟩:=attach_list l fun x hx=>h x (by simp [hx])
    exact ⟨⟨s,h s (by simp)⟩ :: d,by simp [hd]⟩
set_option maxHeartbeats 1000000 in
theorem c_SortS {G : GH} {w : World} (hG : G.In w) (l : List Span) (vd : Value) (od : OB) (hvd : Row SpanE 16 (nat_lit 33) G vd l od) (hod : Lent w G od) (hB : ∀ s ∈ l, -4398046511104 ≤ s.a ∧ s.a ≤ 4398046511104) :
    Calls Tryz.prog (nat_lit 189) #[vd, .func (.func 190) #[] #[]] w fun e w'=>∃ r G',e = .returned r ∧ Res (blk od) w G w' G' ∧ r = .tuple #[] ∧ ∃ (l' : List Span) (o' : OB),Row SpanE 16 (nat_lit 33) G' vd l' o' ∧ Lent w' G' o' ∧ (l'.Perm l ∧ AscA l'):=by
  rcases hvd with ⟨rfl,rfl,rfl⟩ | ⟨b,cs,cap,xs,rfl,rfl,h3,h4,h5,h6,h7,h8,h9⟩
  · exact (AnyF.slices_SortFunc_none (P:=Tryz.prog) (ρ:=Tryz.sortSp_ren) { Tryz.sortSp with } none 0 (.func (.func 190) #[] #[]) w).mono fun e w' ⟨he,hw⟩=>by
      subst hw
      exact ⟨_,G,he,Res.refl hG,rfl,[],none, .inl ⟨rfl,rfl,rfl⟩,fun p hp=>(by cases hp),List.Perm.refl _,List.Pairwise.nil⟩
  · obtain ⟨hb1,hb2⟩:=hod _ rfl
    obtain ⟨dl,rfl⟩:=attach_list l hB
    obtain ⟨rfl,hI⟩:=flat_cells dl xs h6
    have hsz : dl.toArray.size = (dl.map (·.1)).length:=by simp
    have hcell : ∀ t,t < dl.toArray.size * 2 → cs[t]? = some ((flatK encB 2 dl.toArray)[t]!):=fun t ht=>by
      rw [← flatK_at encB (fun _=>rfl) dl.toArray t ht]
      rw [← h7,List.getElem?_take,if_pos (by rw [← hsz]; exact ht)]
    have hH : HoldsK encB 2 w b 0 dl.toArray:=fun t ht=>by
      rw [size_flatK] at ht
      refine ⟨?_,?_⟩
      · rw [Nat.zero_add]
        simp only [World.cell?,hb1,objOf]
        have:=hcell t ht
        simpa using this
      · simp [World.frozen?,hb1,objOf]
    have hcon:=AnyQ.slices_SortFunc Tryz.sortSp 2 Tryz.isAgg33 Tryz.sizeOf33 encB (fun _=>rfl) (fun x v hv=>by simp [encB] at hv; rcases hv with rfl | rfl <;> rfl) cfB swoB 190 #[] b 0 cap dl.toArray w
      (enters_of Tryz.func190 (by kernel_rfl) rfl) (fun _ _ _ _ x y=>closure190 x y _) hH (Array.getElem?_eq_some_iff.1 hb1).1 (by rw [hsz]; unfold reach at h9; omega)
    rw [hsz] at hcon
    refine hcon.mono fun e w' ⟨he,d',n,os,hp,hs,hw⟩=>?_
    obtain ⟨hp1,hp2,hp3⟩:=hp
    have hd' : d'.size = dl.length:=by simpa using hp1
    have hperm : d'.toList.Perm dl:=by
      have e1 : d'.extract 0 dl.toArray.size = d':=by rw [← hp1]; simp
      have e2 : dl.toArray.extract 0 dl.toArray.size = dl.toArray:=by simp
      rw [hsz.symm,e1,e2] at hp3; simpa using hp3
    have hbl : b < w.heap.size:=(Array.getElem?_eq_some_iff.1 hb1).1
    subst hw
    obtain ⟨cs',hcs'⟩ : ∃ cs' : List Value,cs' = (putCells id 0 (flatK encB 2 d') cs.toArray).toList:=⟨_,rfl⟩
    have hget : ∀ k,(sortWorldK encB 2 w b 0 n d' os).heap[k]? = if k < w.heap.size then (if b = k then some (.cells cs'.toArray (nat_lit 33) (0,0)) else w.heap[k]?) else os[k - w.heap.size]? :=fun k=>by
      have hah : (Go.Sort.ahead w n).heap = w.heap:=rfl
      simp only [sortWorldK,putRowK,putRow,mapBlock,grow,hah]
      rw [Array.getElem?_append]
      simp only [Array.size_modify]
      by_cases hk : k < w.heap.size
      · rw [if_pos hk,if_pos hk,Array.getElem?_modify]
        by_cases hkb : b = k
        · subst hkb
          rw [if_pos rfl,if_pos rfl,hb1]
          simp [objOf,onCells,hcs']
        · rw [if_neg hkb,if_neg hkb]
      · rw [if_neg hk,if_neg hk]
    have hres : Res [b] w G (sortWorldK encB 2 w b 0 n d' os) G:=by
      refine ⟨⟨rfl,rfl,rfl,Nat.le_add_right _ _,?_,fun k hk hkb=>?_⟩,G.le_refl,fun _ _=>rfl,fun k o hk=>?_⟩
      · have hah : (Go.Sort.ahead w n).heap = w.heap:=rfl
        simp [sortWorldK,putRowK,putRow,mapBlock,grow]
        try simp [hah]
      · rw [hget,if_pos hk,if_neg (by simpa [eq_comm] using hkb)]
      · have hk1:=hG.lt hk
        have hkb : b ≠ k:=fun e=>by subst e; simp only at hb2; rw [hb2] at hk; cases hk
        rw [hget,if_pos hk1,if_neg hkb]; exact hG k o hk
    have hI' : ∀ x ∈ d'.toList,I64 x.1.b:=fun x hx=>hI x (hperm.mem_iff.1 hx)
    have hlen : (d'.toList.map (·.1)).length = (dl.map (·.1)).length:=by simp [hd']
    have hln : (dl.map (·.1)).length = dl.length:=by simp
    refine ⟨_,G,he,hres,rfl,d'.toList.map (·.1),some (b,nat_lit 33,cs'), .inr ⟨b,cs',cap,d'.toList.flatMap encB,rfl,by rw [hlen],by rw [hlen]; exact h3,h4,?_,flatSpan _ hI',?_,by rw [hlen]; exact h8,by rw [hlen]; exact h9⟩,fun p hp=>?_,?_,?_⟩
    · subst hcs'; simpa [putCells] using h5
    ·
      have h5' : cs.length = cap * 2:=h5
      apply List.ext_getElem?
      intro t
      rw [List.getElem?_take]
      have hn2 : (d'.toList.map (·.1)).length * SpanE.n = d'.size * 2:=by simp; rfl
      rw [hn2]
      by_cases ht : t < d'.size * 2
      · have htc : t < cs.length:=by rw [h5']; rw [hln] at h3; omega
        rw [if_pos ht,flatK_at encB (fun _=>rfl) d' t ht,hcs']
        simp only [putCells,Array.getElem?_toList,Array.getElem?_mapIdx,size_flatK]
        simp only [List.getElem?_toArray]
        rw [List.getElem?_eq_getElem htc]
        simp [ht]
      · rw [if_neg ht,List.getElem?_eq_none]
        have:=Flat.len (flatSpan (G:=G) d'.toList hI')
        omega
    · obtain rfl:=Option.some.inj hp
      exact ⟨by rw [hget,if_pos hbl,if_pos rfl]; rfl,hb2⟩
    · exact hperm.map _
    · unfold AscA
      rw [List.pairwise_map,List.pairwise_iff_getElem]
      intro i j hi hj hij
      have h:=hs i j (by omega) hij (by rw [← hsz,← hp1]; simpa using hj)
      have hi' : i < d'.size:=by simpa using hi
      have hj' : j < d'.size:=by simpa using hj
      rw [getElem!_pos d' i hi',getElem!_pos d' j hj'] at h
      have:=of_decide_eq_false h
      simp only [cfB] at this
      simp only [Array.getElem_toList]
      omega
end Go.Civ
