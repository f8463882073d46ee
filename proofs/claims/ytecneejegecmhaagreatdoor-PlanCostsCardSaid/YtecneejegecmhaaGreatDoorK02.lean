/- Lemmas. -/
import Derived.Test.YtecneejegecmhaaGreatDoorK01
import Derived.Laws.Entries
import Derived.Laws.Slices
import Derived.Laws.Append
import Derived.Laws.Strings
import Derived.Laws.CopyRow
set_option linter.unusedVariables false
set_option linter.unusedSimpArgs false
set_option linter.unnecessarySimpa false
namespace Go.Civ
open Go.RowKit
structure Enc (α : Type) where
 n : Nat
 rep : GH → α → List Value → Prop
 len : ∀ {G x cs},rep G x cs → cs.length = n
 mono : ∀ {G G' x cs},G.le G' → rep G x cs → rep G' x cs
 one : ∀ {G x cs},rep G x cs → ∀ c ∈ cs,c.oneCell' = true
def Zj (x : Int) : Prop:=-9223372036854775808 ≤ x ∧ x ≤ 9223372036854775807
def Enc.int : Enc Int where
 n:=1
 rep _ x cs:=cs = [.int .i64 x] ∧ Zj x
 len h:=by rw [h.1]; rfl
 mono _ h:=h
 one h c hc:=by rw [h.1] at hc; simp at hc; subst hc; rfl
def Enc.bool : Enc Bool where
 n:=1
 rep _ x cs:=cs = [.bool x]
 len h:=by rw [h]; rfl
 mono _ h:=h
 one h c hc:=by rw [h] at hc; simp at hc; subst hc; rfl
def reach : Nat:=140737488355328
theorem Zb : reach = 140737488355328:=rfl
theorem V {α : Sort _} {a : α} : a = a:=rfl
abbrev U (x : Int) : Value:= .int .i64 x
def Za (l : List UInt8) : Value:= .string ⟨l.toArray⟩
def Enc.str : Enc (List UInt8) where
 n:=1
 rep _ x cs:=cs = [Za x] ∧ x.length ≤ reach
 len h:=by rw [h.1]; rfl
 mono _ h:=h
 one h c hc:=by rw [h.1] at hc; simp at hc; subst hc; rfl
def Enc.pair {α β : Type} (A : Enc α) (B : Enc β) : Enc (α × β) where
 n:=A.n + B.n
 rep G x cs:=∃ c1 c2,cs = c1 ++ c2 ∧ A.rep G x.1 c1 ∧ B.rep G x.2 c2
 len:=by rintro G x cs ⟨c1,c2,rfl,h1,h2⟩; rw [List.length_append,A.len h1,B.len h2]
 mono:=by rintro G G' x cs hle ⟨c1,c2,rfl,h1,h2⟩; exact ⟨c1,c2,rfl,A.mono hle h1,B.mono hle h2⟩
 one:=by
  rintro G x cs ⟨c1,c2,rfl,h1,h2⟩ c hc
  rcases List.mem_append.1 hc with hc | hc
  ·exact A.one h1 c hc
  ·exact B.one h2 c hc
def Enc.via {α β : Type} (A : Enc α) (f : β → α) : Enc β where
 n:=A.n
 rep G x cs:=A.rep G (f x) cs
 len h:=A.len h
 mono hle h:=A.mono hle h
 one h:=A.one h
def Xh (G : GH) (p : Addr) (cs : List Value) : Prop:=
 p.spot = none ∧ ∃ c e fz,G p.block = some (.cells c e fz) ∧ ∀ j v,cs[j]? = some v → c[p.off + j]? = some v
theorem Xh.mono {G G' : GH} {p : Addr} {cs : List Value} (hle : G.le G') (h : Xh G p cs) : Xh G' p cs:=
 let ⟨h1,c,e,fz,h2,h3⟩:=h
 ⟨h1,c,e,fz,hle _ _ h2,h3⟩
theorem YC (p : Addr) (k : Nat) (h : p.spot = none) : p.add k = ⟨p.block,p.off + k,none⟩:=by
 unfold Addr.add; split
 ·rename_i h0; subst h0; cases p; simp at h; subst h; rfl
 ·rfl
theorem Xh.drop {G : GH} {p : Addr} {cs : List Value} (k : Nat) (h : Xh G p cs) : Xh G (p.add k) (cs.drop k):=by
 obtain ⟨h1,c,e,fz,h2,h3⟩:=h
 rw [YC p k h1]
 refine ⟨rfl,c,e,fz,h2,fun j v hv=>?_⟩
 rw [List.getElem?_drop] at hv
 have:=h3 _ _ hv
 rwa [← Nat.add_assoc] at this
theorem Xh.take {G : GH} {p : Addr} {cs cs' : List Value} (h : Xh G p (cs ++ cs')) : Xh G p cs:=by
 obtain ⟨h1,c,e,fz,h2,h3⟩:=h
 refine ⟨h1,c,e,fz,h2,fun j v hv=>h3 j v ?_⟩
 have:=(List.getElem?_eq_some_iff.1 hv).1
 rw [List.getElem?_append_left this]; exact hv
theorem Xh.cell {G : GH} {w : World} {p : Addr} {cs : List Value} (h : Xh G p cs) (hG : G.In w) {j : Nat} {v : Value} (hv : cs[j]? = some v) : w.cell? (p.add j) = some v:=by
 obtain ⟨h1,c,e,fz,h2,h3⟩:=h
 rw [YC p j h1]
 simp [World.cell?,hG _ _ h2,h3 j v hv]
def ZeD {α : Type} (E : Enc α) (G : GH) (p : Addr) (x : α) : Prop:=∃ cs,Xh G p cs ∧ E.rep G x cs
theorem ZeD.mono {α : Type} {E : Enc α} {G G' : GH} {p : Addr} {x : α} (hle : G.le G') (h : ZeD E G p x) : ZeD E G' p x:=
 let ⟨cs,h1,h2⟩:=h
 ⟨cs,h1.mono hle,E.mono hle h2⟩
def Sl {α : Type} (E : Enc α) (by_ : Nat) (G : GH) (v : Value) (l : List α) : Prop:=
 ∃ a cap,v = .slice a l.length cap ∧ l.length ≤ cap ∧ l.length * by_ ≤ reach ∧ l.length ≤ reach ∧ ∀ i x,l[i]? = some x → ∃ p,a = some p ∧ p.spot = none ∧ ZeD E G (p.add (i * E.n)) x
theorem Sl.mono {α : Type} {E : Enc α} {b : Nat} {G G' : GH} {v : Value} {l : List α} (hle : G.le G') (h : Sl E b G v l) : Sl E b G' v l:=
 let ⟨a,cap,h1,h2,h3,h3',h4⟩:=h
 ⟨a,cap,h1,h2,h3,h3',fun i x hx=>let ⟨p,k1,k2,k3⟩:=h4 i x hx; ⟨p,k1,k2,k3.mono hle⟩⟩
theorem Sl.bound {α : Type} {E : Enc α} {b : Nat} {G : GH} {v : Value} {l : List α} (h : Sl E b G v l) : l.length ≤ reach:=
 let ⟨_,_,_,_,_,h3,_⟩:=h
 h3
theorem Sl.bytes {α : Type} {E : Enc α} {b : Nat} {G : GH} {v : Value} {l : List α} (h : Sl E b G v l) : l.length * b ≤ reach:=
 let ⟨_,_,_,_,h3,_,_⟩:=h
 h3
theorem Sl.nil {α : Type} (E : Enc α) (b : Nat) (G : GH) : Sl E b G (.slice none 0 0) []:=⟨none,0,rfl,Nat.le_refl _,by simp [reach],by simp [reach],fun i x h=>by simp at h⟩
def Enc.slice {α : Type} (E : Enc α) (b : Nat) : Enc (List α) where
 n:=1
 rep G l cs:=∃ v,cs = [v] ∧ Sl E b G v l
 len:=by rintro G x cs ⟨v,rfl,_⟩; rfl
 mono:=by rintro G G' x cs hle ⟨v,rfl,h⟩; exact ⟨v,rfl,h.mono hle⟩
 one:=by
  rintro G x cs ⟨v,rfl,a,cap,rfl,_⟩ c hc
  simp at hc; subst hc; rfl
section
variable {P : Program} {Q : Exit → Env → World → Prop} {ρ : Env} {w : World} {ops : Array Oper} {rest : List Oper} {K : Env → World → Prop}
variable {d : Nat} {ty : TypeId} {pos : String} {af : Array Edge} {g : Option (Nat × Bool)}
theorem WL.move {x : Operand} (hw : Region.wanted ⟨some d, .move x,ty,pos,af,g⟩ (Zu ops ρ) = true)
  (k : K (ZQ ρ d (ev ρ x)) w) : OW P ops ⟨some d, .move x,ty,pos,af,g⟩ ρ w K:=WL.val hw rfl rfl k
theorem WL.assign {x : Operand} (hw : Region.wanted ⟨some d, .assign x,ty,pos,af,g⟩ (Zu ops ρ) = true)
  (k : K (ZQ ρ d (ev ρ x)) w) : OW P ops ⟨some d, .assign x,ty,pos,af,g⟩ ρ w K:=WL.val hw rfl rfl k
theorem WL.pickT {c a b : Operand} (hw : Region.wanted ⟨some d, .pick c a b,ty,pos,af,g⟩ (Zu ops ρ) = true) (hc : ev ρ c = .bool true)
  (k : K (ZQ ρ d (ev ρ a)) w) : OW P ops ⟨some d, .pick c a b,ty,pos,af,g⟩ ρ w K:=
 WL.val hw (by simp [execOp,hc,asBool]) rfl k
theorem ZgV {c a b : Operand} (hw : Region.wanted ⟨some d, .pick c a b,ty,pos,af,g⟩ (Zu ops ρ) = true) (hc : ev ρ c = .bool false)
  (k : K (ZQ ρ d (ev ρ b)) w) : OW P ops ⟨some d, .pick c a b,ty,pos,af,g⟩ ρ w K:=
 WL.val hw (by simp [execOp,hc,asBool]) rfl k
theorem WL.not {x : Operand} {t : TypeId} (b : Bool) (hw : Region.wanted ⟨some d, .unOp .not t x,ty,pos,af,g⟩ (Zu ops ρ) = true) (hx : ev ρ x = .bool b)
  (k : K (ZQ ρ d (.bool (!b))) w) : OW P ops ⟨some d, .unOp .not t x,ty,pos,af,g⟩ ρ w K:=
 WL.val hw (by simp [execOp,hx,Op.unary]) rfl k
theorem WL.split {b : Bool} (kT : b = true → K (ZQ ρ d (.bool true)) w) (kF : b = false → K (ZQ ρ d (.bool false)) w) : K (ZQ ρ d (.bool b)) w:=by
 cases b
 ·exact kF rfl
 ·exact kT rfl
theorem WL.extract {x : Operand} {i : Nat} (v : Value) (vs : List Value) (hw : Region.wanted ⟨some d, .extract x i,ty,pos,af,g⟩ (Zu ops ρ) = true) (hx : ev ρ x = .tuple vs.toArray) (hv : vs[i]? = some v)
  (k : K (ZQ ρ d v) w) : OW P ops ⟨some d, .extract x i,ty,pos,af,g⟩ ρ w K:=
 WL.val hw (by simp [execOp,hx,Instr.extract,hv]) rfl k
theorem WL.makeFunc {f : Nat} {cap : List Operand} (vs : List Value) (hw : Region.wanted ⟨some d, .makeFunc (.func f) #[] cap.toArray,ty,pos,af,g⟩ (Zu ops ρ) = true) (hv : cap.map (ev ρ) = vs)
  (k : K (ZQ ρ d (.func (.func f) #[] vs.toArray)) w) : OW P ops ⟨some d, .makeFunc (.func f) #[] cap.toArray,ty,pos,af,g⟩ ρ w K:=
 WL.val hw (by subst hv; simp [execOp,Instr.makeFunc]) rfl k
inductive Cmp where | eql | neq | lss | leq | gtr | geq
def Cmp.op : Cmp → BinOp | .eql=> .eql | .neq=> .neq | .lss=> .lss | .leq=> .leq | .gtr=> .gtr | .geq=> .geq
def Cmp.b : Cmp → Int → Int → Bool
 | .eql,a,b=>a == b | .neq,a,b=>a != b | .lss,a,b=>decide (a < b) | .leq,a,b=>decide (a ≤ b) | .gtr,a,b=>decide (b < a) | .geq,a,b=>decide (b ≤ a)
theorem Zt6 (c : Cmp) (t : TypeId) (k : IntKind) (a b : Int) : (binOp c.op t (.int k a) (.int k b)).run P w = .ok (.bool (c.b a b)) w:=by
 cases c <;> simp [binOp,Cmp.op,Cmp.b,Op.intCmp]
theorem XV (op : BinOp) (t : TypeId) (x y : Operand) (k k' : IntKind) (a b : Int) : (eqGuard op t x y (.int k a) (.int k' b)).run P w = .ok () w:=by
 unfold eqGuard; split <;> simp
theorem Yd {t ty' : TypeId} {x y : Operand} (c : Cmp) {op : BinOp} (hop : op = c.op) (k : IntKind) (a b : Int)
  (hw : Region.wanted ⟨some d, .binOp op t x y ty',ty,pos,af,g⟩ (Zu ops ρ) = true) (hx : ev ρ x = .int k a) (hy : ev ρ y = .int k b)
  (kk : K (ZQ ρ d (.bool (c.b a b))) w) : OW P ops ⟨some d, .binOp op t x y ty',ty,pos,af,g⟩ ρ w K:=by
 subst hop
 refine WL.val hw ?_ rfl kk
 simp [execOp,hx,hy,XV,Zt6,Result.andThen]
inductive Ar where | add | sub | mul
def Ar.op : Ar → BinOp | .add=> .add | .sub=> .sub | .mul=> .mul
def Ar.f : Ar → Int → Int → Int | .add,a,b=>a + b | .sub,a,b=>a - b | .mul,a,b=>a * b
theorem Zmg {n : Int} (h : Zj n) : IntKind.i64.wrap n = n:=by
 rw [IntKind.wrap_i64]; obtain ⟨h1,h2⟩:=h; omega
theorem Zor (c : Ar) (t : TypeId) (k : IntKind) (a b : Int) : (binOp c.op t (.int k a) (.int k b)).run P w = .ok (.int k (k.wrap (c.f a b))) w:=by
 cases c <;> simp [binOp,Ar.op,Ar.f,Op.intArith]
theorem WL.ar {t ty' : TypeId} {x y : Operand} (c : Ar) {op : BinOp} (hop : op = c.op) (a b : Int)
  (hw : Region.wanted ⟨some d, .binOp op t x y ty',ty,pos,af,g⟩ (Zu ops ρ) = true) (hx : ev ρ x = .int .i64 a) (hy : ev ρ y = .int .i64 b) (hI : Zj (c.f a b))
  (kk : K (ZQ ρ d (.int .i64 (c.f a b))) w) : OW P ops ⟨some d, .binOp op t x y ty',ty,pos,af,g⟩ ρ w K:=by
 subst hop
 refine WL.val hw ?_ rfl kk
 simp [execOp,hx,hy,XV,Zor,Result.andThen,Zmg hI]
theorem Yt {t : TypeId} {ds : TypeDesc} (h : P.underlying t = some ds) : (underlying t).run P w = .ok ds w:=by simp [underlying,h]
theorem Zgm {t e : TypeId} {x : Operand} (a : Option Addr) (n cap : Nat) (hu : P.underlying t = some (.slice e))
  (hw : Region.wanted ⟨some d, .call ⟨.builtin .len,#[x],#[t]⟩,ty,pos,af,g⟩ (Zu ops ρ) = true) (hx : ev ρ x = .slice a n cap)
  (kk : K (ZQ ρ d (.int .i64 n)) w) : OW P ops ⟨some d, .call ⟨.builtin .len,#[x],#[t]⟩,ty,pos,af,g⟩ ρ w K:=by
 refine WL.val hw ?_ rfl kk
 simp [execOp,resolve,invoke,builtin,Builtin.len_,hx,Yt hu,goInt,Result.andThen]
theorem Zm {α : Type} {E : Enc α} {by_ : Nat} {G : GH} {t e : TypeId} {x : Operand} {v : Value} {l : List α} (hs : Sl E by_ G v l) (hu : P.underlying t = some (.slice e))
  (hw : Region.wanted ⟨some d, .call ⟨.builtin .len,#[x],#[t]⟩,ty,pos,af,g⟩ (Zu ops ρ) = true) (hx : ev ρ x = v)
  (kk : K (ZQ ρ d (.int .i64 l.length)) w) : OW P ops ⟨some d, .call ⟨.builtin .len,#[x],#[t]⟩,ty,pos,af,g⟩ ρ w K:=by
 obtain ⟨a,cap,rfl,_⟩:=hs
 exact Zgm a _ cap hu hw hx kk
theorem YN {t : TypeId} {x : Operand} (s : List UInt8) (hu : P.underlying t = some .string)
  (hw : Region.wanted ⟨some d, .call ⟨.builtin .len,#[x],#[t]⟩,ty,pos,af,g⟩ (Zu ops ρ) = true) (hx : ev ρ x = Za s)
  (kk : K (ZQ ρ d (.int .i64 s.length)) w) : OW P ops ⟨some d, .call ⟨.builtin .len,#[x],#[t]⟩,ty,pos,af,g⟩ ρ w K:=by
 refine WL.val hw ?_ rfl kk
 have e : (ByteArray.mk s.toArray).size = s.length:=rfl
 simp [execOp,resolve,invoke,builtin,Builtin.len_,hx,Za,Yt hu,goInt,Result.andThen,e]
theorem ZbN {ts : Array TypeId} {x y : Operand} (a b : Int)
  (hw : Region.wanted ⟨some d, .call ⟨.builtin .max,#[x,y],ts⟩,ty,pos,af,g⟩ (Zu ops ρ) = true) (hx : ev ρ x = .int .i64 a) (hy : ev ρ y = .int .i64 b)
  (kk : K (ZQ ρ d (.int .i64 (max a b))) w) : OW P ops ⟨some d, .call ⟨.builtin .max,#[x,y],ts⟩,ty,pos,af,g⟩ ρ w K:=by
 refine WL.val hw ?_ rfl kk
 have : (if b > a then b else a) = max a b:=by rw [Int.max_def]; split <;> split <;> omega
 simp [execOp,resolve,invoke,builtin,Builtin.max_,Builtin.max2,hx,hy,this]
theorem YR {ts : Array TypeId} {x y : Operand} (a b : Int)
  (hw : Region.wanted ⟨some d, .call ⟨.builtin .min,#[x,y],ts⟩,ty,pos,af,g⟩ (Zu ops ρ) = true) (hx : ev ρ x = .int .i64 a) (hy : ev ρ y = .int .i64 b)
  (kk : K (ZQ ρ d (.int .i64 (min a b))) w) : OW P ops ⟨some d, .call ⟨.builtin .min,#[x,y],ts⟩,ty,pos,af,g⟩ ρ w K:=by
 refine WL.val hw ?_ rfl kk
 have : (if b < a then b else a) = min a b:=by rw [Int.min_def]; split <;> split <;> omega
 simp [execOp,resolve,invoke,builtin,Builtin.min_,Builtin.min2,hx,hy,this]
def Zi (P : Program) (f : FuncId) : Prop:=∀ args (w : World),(callFunc f args).run P w = .ok (.enter f args) w
theorem Zd {f : FuncId} {fn : Func} {c : Code} (hf : P.funcs[f]? = some fn) (hn : (fn.name == "runtime.NumGoroutine") = false) (hb : fn.body = some c) : Zi P f:=by
 intro args w
 have hn' : ¬ fn.name = "runtime.NumGoroutine" :=by simpa using hn
 simp [callFunc,hf,hn',hb]
theorem X3 {f : Nat} {x : Operand} {args : List Operand} {ts : Array TypeId} (vs : List Value) (cap : Array Value) (hf : Zi P f)
  (hw : Region.wanted ⟨some d, .call ⟨.value x,args.toArray,ts⟩,ty,pos,af,g⟩ (Zu ops ρ) = true) (hx : ev ρ x = .func (.func f) #[] cap) (ha : args.map (ev ρ) ++ cap.toList = vs)
  (hc : Calls P f vs.toArray w fun e w''=>∃ v,e = .returned v ∧ K (ZQ ρ d v) w'') : OW P ops ⟨some d, .call ⟨.value x,args.toArray,ts⟩,ty,pos,af,g⟩ ρ w K:=by
 refine WL.call hw ?_ rfl hc
 subst ha
 have e : args.toArray.map (ev ρ) ++ cap = (args.map (ev ρ) ++ cap.toList).toArray:=Array.ext' (by simp)
 simp only [execOp,resolve,Sem.run_bind,hx,Deferred.ofValue,Sem.run_pure,Result.andThen,invoke,Array.empty_append]
 rw [e]
 exact hf _ _
end
end Go.Civ
namespace Go.Civ
open Go.RowKit
structure TI where
 agg : Bool
 size : Nat
 bytes : Nat
 zero : Value
def Zvb : TypeDesc → Bool
 | .struct _ | .array _ _=>true
 | _=>false
def Yj (P : Program) (t : TypeId) : Option TI:=
 match P.underlying t,P.info? t with
 | some ds,some i=>match i.zero with
  | some z=>some ⟨Zvb ds,i.size,i.bytes,z⟩
  | none=>none
 | _,_=>none
def fieldsOf (P : Program) (t : TypeId) : Option (List (Nat × Nat)):=
 match P.underlying t with
 | some (.struct fs)=>bif fs.toList.all (fun f=>(P.info? f.type).isSome) then some (fs.toList.map fun f=>(f.offset,P.cellsOf f.type)) else none
 | _=>none
theorem Zcr {P : Program} {t : TypeId} {l : List (Nat × Nat)} (h : fieldsOf P t = some l) : ∃ fs,P.underlying t = some (.struct fs) ∧ (∀ f ∈ fs.toList,(P.info? f.type).isSome = true) ∧ l = fs.toList.map fun f=>(f.offset,P.cellsOf f.type):=by
 unfold fieldsOf at h
 split at h
 ·rename_i fs hu
  cases hb : fs.toList.all (fun f=>(P.info? f.type).isSome) with
  | false=>rw [hb] at h; cases h
  | true=>
   rw [hb] at h
   exact ⟨fs,hu,fun f hf=>by simpa using List.all_eq_true.1 hb f hf,(Option.some.inj h).symm⟩
 ·cases h
theorem Zaq {P : Program} {t : TypeId} {x : TI} (h : Yj P t = some x) : ∃ ds i,P.underlying t = some ds ∧ P.info? t = some i ∧ i.zero = some x.zero ∧ Zvb ds = x.agg ∧ i.size = x.size ∧ i.bytes = x.bytes:=by
 unfold Yj at h
 split at h
 ·rename_i ds i h1 h2
  split at h
  ·rename_i z h3
   obtain rfl:=Option.some.inj h
   exact ⟨ds,i,h1,h2,h3,rfl,rfl,rfl⟩
  ·cases h
 ·cases h
section
variable {P : Program} {w : World} {t : TypeId} {x : TI}
theorem Zbh (h : Yj P t = some x) : (isAgg t).run P w = .ok x.agg w:=by
 obtain ⟨ds,i,h1,_,_,h4,_⟩:=Zaq h
 simp only [isAgg,Sem.run_bind,Yt h1,Result.andThen]
 rw [← h4]; cases ds <;> rfl
theorem Xt (h : Yj P t = some x) : (sizeOf t).run P w = .ok x.size w:=by
 obtain ⟨ds,i,_,h2,_,_,h5,_⟩:=Zaq h
 simp [sizeOf,typeInfo,h2,h5]
theorem Za3 (h : Yj P t = some x) : (zeroValue t).run P w = .ok x.zero w:=by
 obtain ⟨ds,i,_,h2,h3,_⟩:=Zaq h
 simp [zeroValue,typeInfo,h2,h3]
end
section
variable {P : Program} {Q : Exit → Env → World → Prop} {ρ : Env} {w : World} {ops : Array Oper} {rest : List Oper} {K : Env → World → Prop}
variable {d : Nat} {ty : TypeId} {pos : String} {af : Array Edge} {g : Option (Nat × Bool)}
variable {w0 : World} {X : List Nat} {G0 G : GH} {L : Own}
theorem WL.fieldAddr {s : TypeId} {x : Operand} {f : Nat} {fs : List (Nat × Nat)} (p : Addr) (off n : Nat) (hf : fieldsOf P s = some fs) (hi : fs[f]? = some (off,n + 1))
  (hw : Region.wanted ⟨some d, .fieldAddr s x f,ty,pos,af,g⟩ (Zu ops ρ) = true) (hx : ev ρ x = .pointer (some p))
  (k : K (ZQ ρ d (.pointer (some (p.add off)))) w) : OW P ops ⟨some d, .fieldAddr s x f,ty,pos,af,g⟩ ρ w K:=by
 refine WL.val hw ?_ rfl k
 obtain ⟨fa,hu,_,rfl⟩:=Zcr hf
 rw [List.getElem?_map] at hi
 obtain ⟨fd,hfd,he⟩:=Option.map_eq_some_iff.1 hi
 simp only [Prod.mk.injEq] at he
 have hfa : fa[f]? = some fd:=by simpa using hfd
 have hsz : ∃ i,P.info? fd.type = some i ∧ i.size = n + 1:=by
  have h2:=he.2
  unfold Program.cellsOf at h2
  cases hi2 : P.info? fd.type with
  | none=>simp [hi2] at h2
  | some i=>simp [hi2] at h2; exact ⟨i,rfl,h2⟩
 obtain ⟨i,hi2,hi3⟩:=hsz
 simp [execOp,Instr.fieldAt,Yt hu,hfa,hx,Instr.sureAddr,fieldPlace,sizeOf,typeInfo,hi2,hi3,Result.andThen,he.1]
theorem Zcs {p : Addr} {cs : List Value} {n : Nat} (hn : cs.length = n) (h : ∀ j v,cs[j]? = some v → w.cell? (p.add j) = some v) : (loadCells p n).run P w = .ok cs.toArray w:=by
 subst hn; exact run_loadCells_list w p cs h
theorem WL.loadA {t : TypeId} {x : Operand} {p : Addr} {cs : List Value} {ti : TI} (ht : Yj P t = some ti) (ha : ti.agg = true) (hc : ∀ j v,cs[j]? = some v → w.cell? (p.add j) = some v) (hn : cs.length = ti.size)
  (hw : Region.wanted ⟨some d, .load t x,ty,pos,af,g⟩ (Zu ops ρ) = true) (hx : ev ρ x = .pointer (some p))
  (k : K (ZQ ρ d (.agg cs.toArray)) w) : OW P ops ⟨some d, .load t x,ty,pos,af,g⟩ ρ w K:=by
 refine WL.val hw ?_ rfl k
 simp [execOp,Instr.loadAt,hx,Instr.sureAddr,loadVar,Zbh ht,ha,Xt ht,Zcs hn hc,Result.andThen]
theorem ZgW {t : TypeId} {x : Operand} {p : Addr} {v : Value} {ti : TI} (ht : Yj P t = some ti) (ha : ti.agg = false) (hc : w.cell? p = some v)
  (hw : Region.wanted ⟨some d, .load t x,ty,pos,af,g⟩ (Zu ops ρ) = true) (hx : ev ρ x = .pointer (some p))
  (k : K (ZQ ρ d v) w) : OW P ops ⟨some d, .load t x,ty,pos,af,g⟩ ρ w K:=by
 refine WL.val hw ?_ rfl k
 simp [execOp,Instr.loadAt,hx,Instr.sureAddr,loadVar,Zbh ht,ha,hc,Result.andThen]
theorem ZiV (p : Addr) : p.add 0 = p:=by simp [Addr.add]
theorem Z {t : TypeId} {x : Operand} {p : Addr} {v : Value} {cs : List Value} {ti : TI} (hS : St w0 X G0 G L w) (hc : Xh G p (v :: cs)) (ht : Yj P t = some ti) (ha : ti.agg = false)
  (hw : Region.wanted ⟨some d, .load t x,ty,pos,af,g⟩ (Zu ops ρ) = true) (hx : ev ρ x = .pointer (some p))
  (k : K (ZQ ρ d v) w) : OW P ops ⟨some d, .load t x,ty,pos,af,g⟩ ρ w K:=
 ZgW ht ha (by have:=hc.cell (j:=0) (v:=v) hS.imm rfl; rwa [ZiV] at this) hw hx k
theorem St.cell (hS : St w0 X G0 G L w) (i : Nat) {b : Nat} {e : TypeId} {cs : List Value} (hi : L[i]? = some (some (b,e,cs))) {off : Nat} {v : Value} (hv : cs[off]? = some v) : w.cell? ⟨b,off,none⟩ = some v:=by
 simp [World.cell?,hS.get i hi,hv]
theorem Yp {t : TypeId} {x : Operand} {ti : TI} (hS : St w0 X G0 G L w) (i : Nat) (b : Nat) (e : TypeId) (cs : List Value) (off : Nat) (vs : List Value) (hi : L[i]? = some (some (b,e,cs))) (hv : (cs.drop off).take ti.size = vs) (hn : vs.length = ti.size)
  (ht : Yj P t = some ti) (ha : ti.agg = true)
  (hw : Region.wanted ⟨some d, .load t x,ty,pos,af,g⟩ (Zu ops ρ) = true) (hx : ev ρ x = .pointer (some ⟨b,off,none⟩))
  (k : K (ZQ ρ d (.agg vs.toArray)) w) : OW P ops ⟨some d, .load t x,ty,pos,af,g⟩ ρ w K:=by
 refine WL.loadA ht ha (fun j v h=>?_) hn hw hx k
 rw [YC _ _ rfl]
 refine hS.cell i hi ?_
 subst hv
 rw [List.getElem?_take] at h
 split at h
 ·rwa [List.getElem?_drop] at h
 ·cases h
theorem Yz {t : TypeId} {x : Operand} {ti : TI} (hS : St w0 X G0 G L w) (i : Nat) (b : Nat) (e : TypeId) (cs : List Value) (off : Nat) (v : Value) (hi : L[i]? = some (some (b,e,cs))) (hv : cs[off]? = some v)
  (ht : Yj P t = some ti) (ha : ti.agg = false)
  (hw : Region.wanted ⟨some d, .load t x,ty,pos,af,g⟩ (Zu ops ρ) = true) (hx : ev ρ x = .pointer (some ⟨b,off,none⟩))
  (k : K (ZQ ρ d v) w) : OW P ops ⟨some d, .load t x,ty,pos,af,g⟩ ρ w K:=
 ZgW ht ha (hS.cell i hi hv) hw hx k
theorem WL.indexAddr {α : Type} {E : Enc α} {by_ : Nat} {t e : TypeId} {x ix : Operand} {v : Value} {l : List α} {ti : TI} (hs : Sl E by_ G v l) (n : Nat) (hlt : n < l.length) (hu : P.underlying t = some (.slice e)) (ht : Yj P e = some ti) (hE : ti.size = E.n)
  (hw : Region.wanted ⟨some d, .indexAddr t x ix,ty,pos,af,g⟩ (Zu ops ρ) = true) (hx : ev ρ x = v) (hi : ev ρ ix = .int .i64 (n : Int))
  (k : ∀ p y,l[n]? = some y → ZeD E G p y → K (ZQ ρ d (.pointer (some p))) w) : OW P ops ⟨some d, .indexAddr t x ix,ty,pos,af,g⟩ ρ w K:=by
 obtain ⟨a,cap,rfl,h1,h2,h3,h4⟩:=hs
 obtain ⟨p,rfl,hp,hel⟩:=h4 n l[n] (List.getElem?_eq_getElem hlt)
 refine WL.val hw ?_ rfl (k (p.add (n * E.n)) l[n] (List.getElem?_eq_getElem hlt) hel)
 simp [execOp,Instr.indexAt,hi,hx,asIntOf,Yt hu,Xt ht,hE,Result.andThen]
 rw [if_pos (by omega)]
theorem Zj2 {t e : TypeId} {x ix : Operand} {ti : TI} (b len cap : Nat) (n : Nat) (hlt : n < len) (hu : P.underlying t = some (.slice e)) (ht : Yj P e = some ti)
  (hw : Region.wanted ⟨some d, .indexAddr t x ix,ty,pos,af,g⟩ (Zu ops ρ) = true) (hx : ev ρ x = .slice (some ⟨b,0,none⟩) len cap) (hi : ev ρ ix = .int .i64 (n : Int))
  (k : K (ZQ ρ d (.pointer (some ⟨b,n * ti.size,none⟩))) w) : OW P ops ⟨some d, .indexAddr t x ix,ty,pos,af,g⟩ ρ w K:=by
 refine WL.val hw ?_ rfl k
 simp [execOp,Instr.indexAt,hi,hx,asIntOf,Yt hu,Xt ht,Result.andThen]
 rw [if_pos (by omega)]
 simp [YC]
theorem YY {t : TypeId} {x ix : Operand} (s : List UInt8) (n : Nat) (hlt : n < s.length) (hu : P.underlying t = some .string)
  (hw : Region.wanted ⟨some d, .index t x ix,ty,pos,af,g⟩ (Zu ops ρ) = true) (hx : ev ρ x = Za s) (hi : ev ρ ix = .int .i64 (n : Int))
  (k : ∀ c,s[n]? = some c → K (ZQ ρ d (.int .u8 (c.toNat : Int))) w) : OW P ops ⟨some d, .index t x ix,ty,pos,af,g⟩ ρ w K:=by
 refine WL.val hw ?_ rfl (k s[n] (List.getElem?_eq_getElem hlt))
 have e : (ByteArray.mk s.toArray)[n]? = some s[n]:=by
  rw [ByteArray.getElem?_lt' _ _ (show n < (ByteArray.mk s.toArray).size from hlt)]; rfl
 simp [execOp,Instr.index,hi,hx,Za,asIntOf,Yt hu,Result.andThen,e]
theorem WL.alloc {t : TypeId} {ti : TI} {zs : List Value} (hS : St w0 X G0 G L w) (ht : Yj P t = some ti) (hz : ti.zero.cells.toList = zs)
  (hw : Region.wanted ⟨some d, .alloc t,ty,pos,af,g⟩ (Zu ops ρ) = true)
  (k : ∀ b w',w0.heap.size ≤ b → St w0 X G0 G (some (b,t,zs) :: L) w' → K (ZQ ρ d (.pointer (some ⟨b,0,none⟩))) w') : OW P ops ⟨some d, .alloc t,ty,pos,af,g⟩ ρ w K:=by
 refine WL.val (w':={ w with heap:=w.heap.push (.cells zs.toArray t) }) hw ?_ rfl (k _ _ hS.kept.size (hS.alloc t zs))
 subst hz
 simp [execOp,Instr.alloc,Za3 ht,newVar,newRow,newObj,Sem.run,Result.andThen]
theorem WL.box {t : TypeId} {x : Operand} (cs : List Value) (v : Value) (hS : St w0 X G0 G L w)
  (hw : Region.wanted ⟨some d, .box t x,ty,pos,af,g⟩ (Zu ops ρ) = true) (hx : ev ρ x = v) (hv : v.cells = cs.toArray)
  (k : ∀ b w',w0.heap.size ≤ b → St w0 X G0 G (some (b,t,cs) :: L) w' → K (ZQ ρ d (.pointer (some ⟨b,0,none⟩))) w') : OW P ops ⟨some d, .box t x,ty,pos,af,g⟩ ρ w K:=by
 refine WL.val (w':={ w with heap:=w.heap.push (.cells cs.toArray t) }) hw ?_ rfl (k _ _ hS.kept.size (hS.alloc t cs))
 simp [execOp,Instr.box,hx,hv,newVar,newRow,newObj,Sem.run,Result.andThen]
theorem Z4 {t : TypeId} {x : Operand} (cs : List Value) (v : Value) (hS : St w0 X G0 G L w)
  (hw : Region.wanted ⟨some d, .box t x,ty,pos,af,g⟩ (Zu ops ρ) = true) (hx : ev ρ x = v) (hv : v.cells = cs.toArray)
  (k : ∀ p w' G',G.le G' → p.spot = none → Xh G' p cs → St w0 X G0 G' L w' → K (ZQ ρ d (.pointer (some p))) w') : OW P ops ⟨some d, .box t x,ty,pos,af,g⟩ ρ w K:=by
 refine WL.box cs v hS hw hx hv fun b w' hb hS'=>?_
 have f:=hS'.freeze 0 (b:=b) (e:=t) (cs:=cs) rfl hb
 have hG : G b = none:=(hS'.sep 0 _ rfl).2
 exact k ⟨b,0,none⟩ w' _ (G.add_le _ hG) rfl ⟨rfl,_,_,_,GH.add_at _ _ _,fun j v hv=>by simpa using hv⟩ f.tail
def Zal (lay : List (Nat × Nat)) : List (Nat × List Value) → List Value → Option (List Value)
 | [],cs=>some cs
 | (i,vs) :: rest,cs=>match lay[i]? with
  | none=>none
  | some (off,n)=>if vs.length = n ∧ off + n ≤ cs.length then Zal lay rest (cs.take off ++ vs ++ cs.drop (off + n)) else none
theorem ZiW (vs : List Value) : ∀ (cs : Array Value) (off k : Nat),off + k + vs.length ≤ cs.size →
  ((vs.zipIdx k).foldl (fun cs x=>cs.setIfInBounds (off + x.2) x.1) cs).toList = cs.toList.take (off + k) ++ vs ++ cs.toList.drop (off + k + vs.length):=by
 induction vs with
 | nil=>intro cs off k _; simp
 | cons v vs ih=>
  intro cs off k h
  simp only [List.zipIdx_cons,List.foldl_cons]
  rw [ih _ off (k + 1) (by simp at h ⊢; omega)]
  have h' : off + k < cs.toList.length:=by simp at h ⊢; omega
  simp only [Array.toList_setIfInBounds]
  have e1 : (cs.toList.set (off + k) v).take (off + (k + 1)) = cs.toList.take (off + k) ++ [v]:=by
   rw [show off + (k + 1) = off + k + 1 by omega,List.take_add_one,List.take_set_of_le (by omega),List.getElem?_set_self h']
   rfl
  rw [e1,List.drop_set_of_lt (by omega)]
  simp [Nat.add_assoc,Nat.add_comm 1]
theorem Zmh (place : Nat → Option (Nat × Nat)) (lay : List (Nat × Nat)) (hp : ∀ i,place i = lay[i]?) : ∀ (parts : List (Nat × Value)) (cs : Array Value) (out : List Value),
  Zal lay (parts.map fun q=>(q.1,q.2.cells.toList)) cs.toList = some out → Instr.fill place cs parts = some out.toArray
 | [],cs,out,h=>by simp [Zal] at h; subst h; simp [Instr.fill]
 | (i,v) :: rest,cs,out,h=>by
  simp only [List.map_cons,Zal] at h
  simp only [Instr.fill,hp]
  split at h
  ·cases h
  ·rename_i off n hl
   split at h
   ·rename_i hc
    simp only [Array.length_toList] at hc
    simp only [hl]
    rw [if_neg (by simp; omega)]
    refine Zmh place lay hp rest _ out ?_
    rw [← h]
    congr 1
    have:=ZiW v.cells.toList cs off 0 (by simp only [Nat.add_zero,Array.length_toList]; omega)
    simp only [Nat.add_zero,Array.length_toList] at this
    rw [hc.1] at this
    rw [← this,← Array.foldl_toList]
    simp
   ·cases h
theorem WL.build {t : TypeId} {parts : Array (Nat × Operand)} {ti : TI} {fs : List (Nat × Nat)} {zs : List Value} (ps : List (Nat × Value)) (pc : List (Nat × List Value)) (cs : List Value) (ht : Yj P t = some ti) (hz : ti.zero.cells.toList = zs) (hf : fieldsOf P t = some fs)
  (hw : Region.wanted ⟨some d, .build t parts,ty,pos,af,g⟩ (Zu ops ρ) = true) (hps : parts.toList.map (fun q=>(q.1,ev ρ q.2)) = ps) (hpc : ps.map (fun q=>(q.1,q.2.cells.toList)) = pc) (hfill : Zal fs pc zs = some cs)
  (k : K (ZQ ρ d (.agg cs.toArray)) w) : OW P ops ⟨some d, .build t parts,ty,pos,af,g⟩ ρ w K:=by
 refine WL.val hw ?_ rfl k
 subst hz hpc
 obtain ⟨fa,hu,hinfo,rfl⟩:=Zcr hf
 have hsz : ∀ (l : List Field),(∀ f ∈ l,(P.info? f.type).isSome = true) → ∀ w : World,(l.mapM fun f=>do pure (f.offset,← sizeOf f.type) : Sem (List (Nat × Nat))).run P w = .ok (l.map fun f=>(f.offset,P.cellsOf f.type)) w:=by
  intro l
  induction l with
  | nil=>intro _ w; rfl
  | cons f l ih=>
   intro h w
   obtain ⟨i,hi⟩:=Option.isSome_iff_exists.1 (h f (by simp))
   have ih':=ih (fun f hf=>h f (by simp [hf])) w
   have hsf : (sizeOf f.type).run P w = .ok i.size w:=by simp [sizeOf,typeInfo,hi]
   have hcf : P.cellsOf f.type = i.size:=by simp [Program.cellsOf,hi]
   simp only [List.mapM_cons,Sem.run_bind,hsf,Result.andThen_ok,Sem.run_pure,ih',List.map_cons,hcf]
 have hfl:=Zmh (fun i=>(fa.toList.map fun f=>(f.offset,P.cellsOf f.type)).toArray[i]?) _ (fun i=>by simp) ps ti.zero.cells cs hfill
 have hpe : (parts.map fun x=>(x.1,ev ρ x.2)).toList = ps:=by simpa using hps
 simp only [execOp,Sem.run_bind,Instr.build,Za3 ht,Yt hu,Result.andThen,Array.mapM_eq_mapM_toList,Sem.run_map,hsz _ hinfo,hpe,hfl,Sem.run_pure]
end
end Go.Civ
namespace Go.Civ
open Go.RowKit
set_option linter.unusedVariables false
structure TSl (P : Program) (t e : TypeId) (ti : TI) : Prop where
 u : P.underlying t = some (.slice e)
 i : Yj P e = some ti
section
variable {P : Program} {Q : Exit → Env → World → Prop} {ρ : Env} {w : World} {ops : Array Oper} {rest : List Oper} {K : Env → World → Prop}
variable {d : Nat} {ty : TypeId} {pos : String} {af : Array Edge} {g : Option (Nat × Bool)}
variable {w0 : World} {X : List Nat} {G0 G : GH} {L : Own}
def XT (cs : List Value) (off : Nat) (vs : List Value) : List Value:=cs.take off ++ vs ++ cs.drop (off + vs.length)
theorem Zkr (hS : St w0 X G0 G L w) (i : Nat) {b : Nat} {e : TypeId} {cs : List Value} {off : Nat} {t : TypeId} {ti : TI} {v : Value} {vs : List Value} (hi : L[i]? = some (some (b,e,cs))) (ht : Yj P t = some ti) (hv : v.cells = vs.toArray) (hn : vs.length = ti.size)
  (hfit : off + vs.length ≤ cs.length) (h1 : ∀ u ∈ vs,u.oneCell' = true) :
  ∃ w',(storeVar t ⟨b,off,none⟩ v).run P w = .ok () w' ∧ St w0 X G0 G (L.set i (some (b,e,XT cs off vs))) w':=by
 have hg:=hS.get i hi
 have hst:=run_storeCells_at P b off e vs 0 cs.toArray w hg (by simpa using hfit) h1
 simp only [Nat.add_zero] at hst
 refine ⟨_,?_,hS.write i hi (XT cs off vs) (w':=w.setRow b (XT cs off vs).toArray) rfl rfl rfl (Nat.le_refl _) (by simp) (setRow_heap w b cs.toArray _ e _ hg) (fun k hk=>setRow_other w b k _ hk)⟩
 simp only [storeVar,Sem.run_bind,Xt ht,Result.andThen,hv]
 rw [if_neg (by simp [hn])]
 rw [hst]
 rfl
theorem WL.store {t : TypeId} {a x : Operand} {ti : TI} (hS : St w0 X G0 G L w) (i : Nat) (b : Nat) (e : TypeId) (cs : List Value) (off : Nat) (v : Value) (vs cs' : List Value) (L' : Own) (hi : L[i]? = some (some (b,e,cs))) (hv : v.cells = vs.toArray) (ht : Yj P t = some ti) (hn : vs.length = ti.size)
  (hfit : off + vs.length ≤ cs.length) (h1 : vs.all (·.oneCell') = true) (hcs : XT cs off vs = cs') (hL : L.set i (some (b,e,cs')) = L')
  (hw : Region.wanted ⟨none, .store t a x,ty,pos,af,g⟩ (Zu ops ρ) = true) (ha : ev ρ a = .pointer (some ⟨b,off,none⟩)) (hx : ev ρ x = v)
  (k : ∀ w',St w0 X G0 G L' w' → K ρ w') : OW P ops ⟨none, .store t a x,ty,pos,af,g⟩ ρ w K:=by
 subst hcs hL
 obtain ⟨w',hr,hS'⟩:=Zkr (P:=P) hS i (off:=off) (v:=v) (vs:=vs) hi ht hv hn hfit (by simpa using h1)
 refine Zop (w':=w') hw ?_ rfl (k w' hS')
 simp [execOp,Instr.storeAt,ha,hx,Instr.sureAddr,hr,Result.andThen]
theorem Z9 {t : TypeId} {a x : Operand} {ti : TI} (hS : St w0 X G0 G L w) (i : Nat) (vs : List Value) {b : Nat} {e : TypeId} {cs : List Value} {v : Value} (hi : L[i]? = some (some (b,e,cs))) (hv : v.cells = vs.toArray) (ht : Yj P t = some ti) (hn : vs.length = ti.size)
  (hl : vs.length = cs.length) (h1 : vs.all (·.oneCell') = true)
  (hw : Region.wanted ⟨none, .store t a x,ty,pos,af,g⟩ (Zu ops ρ) = true) (ha : ev ρ a = .pointer (some ⟨b,0,none⟩)) (hx : ev ρ x = v)
  (k : ∀ w',St w0 X G0 G (L.set i (some (b,e,vs))) w' → K ρ w') : OW P ops ⟨none, .store t a x,ty,pos,af,g⟩ ρ w K:=
 WL.store hS i b e cs 0 v vs vs _ hi hv ht hn (by omega) h1 (by simp [XT,hl]) rfl hw ha hx k
theorem ZZ {a b : Nat} (h : Nat.ble a b = true) : a ≤ b:=Nat.le_of_ble_eq_true h
abbrev Zf : Value:= .slice none 0 0
abbrev ZP (a : Addr) : Value:= .pointer (some a)
theorem Zo : (∀ {α : Type} (a b : List α),(a ++ b).length = a.length + b.length) ∧ (∀ {α : Type} (x : α) (l : List α),(x :: l).length = l.length + 1) ∧ (∀ {α : Type},([] : List α).length = 0):=⟨fun _ _=>List.length_append,fun _ _=>rfl,rfl⟩
theorem YE : (∀ (p : Value → Bool) (x : Value) (l : List Value),(x :: l).all p = (p x && l.all p)) ∧ (∀ (p : Value → Bool),([] : List Value).all p = true) ∧ (∀ b : Bool,(true && b) = b):=⟨fun _ _ _=>rfl,fun _=>rfl,fun _=>rfl⟩
def ZaX (n size : Nat) : List (Nat × Nat):=(List.range n).map fun i=>(i * size,size)
theorem ZeE (size : Nat) (n : Nat) : ∀ (parts : List (Nat × Value)) (cs : Array Value) (out : List Value),
  Zal (ZaX n size) (parts.map fun q=>(q.1,q.2.cells.toList)) cs.toList = some out → Instr.fill (fun i=>some (i * size,size)) cs parts = some out.toArray
 | [],cs,out,h=>by simp [Zal] at h; subst h; simp [Instr.fill]
 | (i,v) :: rest,cs,out,h=>by
  simp only [List.map_cons,Zal] at h
  simp only [Instr.fill]
  split at h
  ·cases h
  ·rename_i off m hl
   have hl' : off = i * size ∧ m = size:=by
    unfold ZaX at hl
    rw [List.getElem?_map] at hl
    obtain ⟨j,hj,he⟩:=Option.map_eq_some_iff.1 hl
    have : j = i:=by
     have:=List.getElem?_eq_some_iff.1 hj
     obtain ⟨h1,h2⟩:=this
     simpa using h2.symm
    subst this
    simp only [Prod.mk.injEq] at he
    exact ⟨he.1.symm,he.2.symm⟩
   obtain ⟨rfl,rfl⟩:=hl'
   split at h
   ·rename_i hc
    simp only [Array.length_toList] at hc
    rw [if_neg (by simp; omega)]
    refine ZeE m n rest _ out ?_
    rw [← h]
    congr 1
    have:=ZiW v.cells.toList cs (i * m) 0 (by simp only [Nat.add_zero,Array.length_toList]; omega)
    simp only [Nat.add_zero,Array.length_toList] at this
    rw [hc.1] at this
    rw [← this,← Array.foldl_toList]
    simp
   ·cases h
theorem WL.buildSlice {t e : TypeId} {n : Nat} {parts : Array (Nat × Operand)} {ti : TI} (ps : List (Nat × Value)) (pc : List (Nat × List Value)) (cs : List Value) (hS : St w0 X G0 G L w) (ht : TSl P t e ti) (hlim : Nat.ble (n * ti.size) 16777216 = true)
  (hw : Region.wanted ⟨some d, .buildSlice t n parts,ty,pos,af,g⟩ (Zu ops ρ) = true) (hps : parts.toList.map (fun q=>(q.1,ev ρ q.2)) = ps) (hpc : ps.map (fun q=>(q.1,q.2.cells.toList)) = pc)
  (hfill : ∀ z : List Value,z.length = n * ti.size → Zal (ZaX n ti.size) pc z = some cs)
  (k : ∀ b w',w0.heap.size ≤ b → St w0 X G0 G (some (b,e,cs) :: L) w' → K (ZQ ρ d (.slice (some ⟨b,0,none⟩) n n)) w') : OW P ops ⟨some d, .buildSlice t n parts,ty,pos,af,g⟩ ρ w K:=by
 refine WL.val (w':={ w with heap:=w.heap.push (.cells cs.toArray e) }) hw ?_ rfl (k _ _ hS.kept.size (hS.alloc e cs))
 subst hpc
 have hpe : (parts.map fun x=>(x.1,ev ρ x.2)).toList = ps:=by simpa using hps
 have hlim' : n * ti.size ≤ 2 ^ 24:=by simpa using hlim
 simp only [execOp,Instr.buildSlice,Sem.run_bind,Yt ht.u,Xt ht.i,Result.andThen]
 rw [if_neg (by omega)]
 have hf : ∀ z : Array Value,z.size = n * ti.size → Instr.fill (fun i=>some (i * ti.size,ti.size)) z ps = some cs.toArray:=fun z hz=>ZeE ti.size n ps z cs (hfill _ (by simpa using hz))
 by_cases h0 : n * ti.size = 0
 ·rw [if_pos h0]
  simp only [pure_bind,hpe]
  rw [hf _ (by simp)]
  simp [newRow,newObj,Sem.run,Result.andThen]
 ·rw [if_neg h0]
  simp only [Sem.run_bind,Za3 ht.i,Result.andThen,Sem.run_pure,hpe]
  rw [hf _ (by simp)]
  simp [newRow,newObj,Sem.run,Result.andThen]
def Qx {α : Type} (E : Enc α) (G : GH) : List α → List Value → Prop
 | [],xs=>xs = []
 | x :: l,xs=>∃ c r,xs = c ++ r ∧ E.rep G x c ∧ Qx E G l r
theorem Qx.mono {α : Type} {E : Enc α} {G G' : GH} (hle : G.le G') : ∀ {l : List α} {xs : List Value},Qx E G l xs → Qx E G' l xs
 | [],_,h=>h
 | _ :: _,_,⟨c,r,h1,h2,h3⟩=>⟨c,r,h1,E.mono hle h2,h3.mono hle⟩
theorem Qx.len {α : Type} {E : Enc α} {G : GH} : ∀ {l : List α} {xs : List Value},Qx E G l xs → xs.length = l.length * E.n
 | [],_,h=>by simp [Qx] at h; subst h; simp
 | x :: l,_,⟨c,r,h1,h2,h3⟩=>by subst h1; rw [List.length_append,E.len h2,h3.len,List.length_cons,Nat.add_mul]; omega
theorem Qx.append {α : Type} {E : Enc α} {G : GH} : ∀ {l l' : List α} {xs xs' : List Value},Qx E G l xs → Qx E G l' xs' → Qx E G (l ++ l') (xs ++ xs')
 | [],_,_,_,h,h'=>by simp [Qx] at h; subst h; simpa using h'
 | _ :: _,_,_,_,⟨c,r,h1,h2,h3⟩,h'=>⟨c,r ++ _,by rw [h1,List.append_assoc],h2,h3.append h'⟩
theorem Qx.one {α : Type} {E : Enc α} {G : GH} {x : α} {c : List Value} (h : E.rep G x c) : Qx E G [x] c:=⟨c,[],by simp,h,rfl⟩
theorem Qx.cells1 {α : Type} {E : Enc α} {G : GH} : ∀ {l : List α} {xs : List Value},Qx E G l xs → ∀ u ∈ xs,u.oneCell' = true
 | [],_,h,u,hu=>by simp [Qx] at h; subst h; cases hu
 | _ :: _,_,⟨c,r,h1,h2,h3⟩,u,hu=>by
  subst h1
  rcases List.mem_append.1 hu with hu | hu
  ·exact E.one h2 u hu
  ·exact h3.cells1 u hu
theorem Qx.at {α : Type} {E : Enc α} {G : GH} : ∀ {l : List α} {xs : List Value} (n : Nat) (x : α),Qx E G l xs → l[n]? = some x → ∃ c,E.rep G x c ∧ ∀ j u,c[j]? = some u → xs[n * E.n + j]? = some u
 | [],_,n,x,_,hx=>by simp at hx
 | y :: l,_,0,x,⟨c,r,h1,h2,h3⟩,hx=>by
  simp at hx; subst hx h1
  refine ⟨c,h2,fun j u hu=>?_⟩
  have:=(List.getElem?_eq_some_iff.1 hu).1
  rw [List.getElem?_append_left (by omega)]; simpa using hu
 | y :: l,_,n + 1,x,⟨c,r,h1,h2,h3⟩,hx=>by
  subst h1
  obtain ⟨c',k1,k2⟩:=h3.at n x (by simpa using hx)
  refine ⟨c',k1,fun j u hu=>?_⟩
  have hlen:=E.len h2
  rw [List.getElem?_append_right (by rw [hlen,Nat.add_mul]; omega),hlen]
  have:=k2 j u hu
  rw [show (n + 1) * E.n + j - E.n = n * E.n + j by rw [Nat.add_mul]; omega]
  exact this
theorem Qx.set {α : Type} {E : Enc α} {G : GH} : ∀ {l : List α} {xs : List Value} (n : Nat) (y : α) (c : List Value),Qx E G l xs → n < l.length → E.rep G y c → Qx E G (l.set n y) (XT xs (n * E.n) c)
 | [],_,n,_,_,_,hn,_=>by simp at hn
 | x :: l,_,0,y,c,⟨c0,r,h1,h2,h3⟩,_,hy=>by
  subst h1
  refine ⟨c,r,?_,hy,h3⟩
  simp [XT,E.len hy,← E.len h2]
 | x :: l,_,n + 1,y,c,⟨c0,r,h1,h2,h3⟩,hn,hy=>by
  subst h1
  refine ⟨c0,_,?_,h2,h3.set n y c (by simpa using hn) hy⟩
  have hlen:=E.len h2
  unfold XT
  rw [show (n + 1) * E.n = c0.length + n * E.n by rw [Nat.add_mul,hlen]; omega]
  rw [List.take_length_add_append,Nat.add_assoc,List.drop_length_add_append]
  simp
def YX {α : Type} (E : Enc α) (by_ : Nat) (e : TypeId) (G : GH) (v : Value) (l : List α) (o : Option (Nat × TypeId × List Value)) : Prop:=
 (o = none ∧ v = .slice none 0 0 ∧ l = []) ∨
 ∃ b cs cap xs,o = some (b,e,cs) ∧ v = .slice (some ⟨b,0,none⟩) l.length cap ∧ l.length ≤ cap ∧ cap ≤ maxLen ∧ cs.length = cap * E.n ∧ Qx E G l xs ∧ cs.take (l.length * E.n) = xs ∧ l.length * by_ ≤ reach ∧ l.length ≤ reach
theorem YX.mono {α : Type} {E : Enc α} {b : Nat} {e : TypeId} {G G' : GH} {v : Value} {l : List α} {o : Option (Nat × TypeId × List Value)} (hle : G.le G') (h : YX E b e G v l o) : YX E b e G' v l o:=by
 rcases h with h | ⟨b,cs,cap,xs,h1,h2,h3,h4,h5,h6,h7⟩
 ·exact .inl h
 ·exact .inr ⟨b,cs,cap,xs,h1,h2,h3,h4,h5,h6.mono hle,h7⟩
theorem YX.nil {α : Type} (E : Enc α) (b : Nat) (e : TypeId) (G : GH) : YX E b e G (.slice none 0 0) [] none:= .inl ⟨rfl,rfl,rfl⟩
theorem YX.shape {α : Type} {E : Enc α} {b : Nat} {e : TypeId} {G : GH} {v : Value} {l : List α} {o : Option (Nat × TypeId × List Value)} (h : YX E b e G v l o) : ∃ a cap,v = .slice a l.length cap:=by
 rcases h with ⟨_,rfl,rfl⟩ | ⟨b,cs,cap,xs,_,rfl,_⟩
 ·exact ⟨none,0,rfl⟩
 ·exact ⟨_,cap,rfl⟩
theorem Zf3 {α : Type} {E : Enc α} {by_ : Nat} {e' : TypeId} {o : Option (Nat × TypeId × List Value)} {t e : TypeId} {x : Operand} {v : Value} {l : List α} (hs : YX E by_ e' G v l o) (hu : P.underlying t = some (.slice e))
  (hw : Region.wanted ⟨some d, .call ⟨.builtin .len,#[x],#[t]⟩,ty,pos,af,g⟩ (Zu ops ρ) = true) (hx : ev ρ x = v)
  (kk : K (ZQ ρ d (.int .i64 l.length)) w) : OW P ops ⟨some d, .call ⟨.builtin .len,#[x],#[t]⟩,ty,pos,af,g⟩ ρ w K:=by
 obtain ⟨a,cap,rfl⟩:=hs.shape
 exact Zgm a _ cap hu hw hx kk
theorem ZbC (z : Array Value) (n : Nat) : (Builtin.zeroCells z n).toList.length = n * z.size:=by simp [Builtin.zeroCells]
theorem Zks {α : Type} {E : Enc α} {by_ : Nat} {t e : TypeId} {ti : TI} {v : Value} {l m : List α} {o : Option (Nat × TypeId × List Value)} (ht : TSl P t e ti) (hE : ti.size = E.n) (hby : ti.bytes = by_) (hz : ti.zero.cells.size = E.n)
  (hr : YX E by_ e G v l o) (hS : St w0 X G0 G L w) (i : Nat) (hi : L[i]? = some o) (tty : TypeId) (a : Addr) (c : Nat) (news : List Value) (hm : Qx E G m news) (hnews : ∀ j u,news[j]? = some u → w.cell? (a.add j) = some u)
  (hb : (l.length + m.length) * by_ ≤ reach) (hb2 : l.length + m.length ≤ reach) :
  ∃ v' o' w',(Builtin.append_ #[t,t] tty #[v, .slice (some a) m.length c]).run P w = .ok v' w' ∧ YX E by_ e G v' (l ++ m) o' ∧ St w0 X G0 G (L.set i o') w':=by
 obtain ⟨ds,ii,h1,h2,h3,h4,h5,h6⟩:=Zaq ht.i
 unfold reach at hb hb2
 have hil : i < L.length:=(List.getElem?_eq_some_iff.1 hi).1
 have hsz : ii.size = E.n:=h5.trans hE
 have hmn : news.length = m.length * ii.size:=by rw [hsz]; exact hm.len
 rcases hr with ⟨rfl,rfl,rfl⟩ | ⟨b,cs,cap,xs,rfl,rfl,k3,k4,k5,k6,k7,k8,k9⟩
 ·simp only [List.length_nil,Nat.zero_add] at hb hb2
  by_cases hm0 : m.length = 0
  ·have : m = []:=List.eq_nil_of_length_eq_zero hm0
   subst this
   have hn : news = []:=hm
   subst hn
   have hLe : L.set i none = L:=by
    apply List.ext_getElem?; intro j
    rw [List.getElem?_set]; split
    ·rename_i hj; subst hj; simp [hi]
    ·rfl
   refine ⟨.slice none 0 0,none,w,?_, .inl ⟨rfl,rfl,rfl⟩,by rw [hLe]; exact hS⟩
   simp [Builtin.append_,run_underlying ht.u,sizeOf,typeInfo,h2,Builtin.lenOf,Builtin.firstCells,loadCells,loadCellsFrom]
  ·have hrun:=run_append_nil (P:=P) w t tty e ii ti.zero ht.u h2 h3 a m.length c news hmn hnews (by omega) (by omega) (by rw [h6,hby]; omega)
   have hge:=grownCap_ge w m.length 0 e
   have hmax:=grownCap_le_maxLen w m.length 0 e (by unfold maxLen; omega)
   have hS':=(hS.same (w':=w.drew) rfl rfl rfl rfl (Nat.le_succ _)).alloc e (news ++ (Builtin.zeroCells ti.zero.cells (grownCap w m.length 0 e - m.length)).toList)
   refine ⟨_,some (w.heap.size,e,news ++ (Builtin.zeroCells ti.zero.cells (grownCap w m.length 0 e - m.length)).toList),_,hrun, .inr ⟨w.heap.size,news ++ (Builtin.zeroCells ti.zero.cells (grownCap w m.length 0 e - m.length)).toList,grownCap w m.length 0 e,news,rfl,rfl,by simpa using hge,hmax,?_,by simpa using hm,?_,by simpa [reach] using hb,by simpa [reach] using hb2⟩,?_⟩
   ·rw [List.length_append,ZbC,hz,hm.len,← Nat.add_mul]; congr 1; omega
   ·rw [List.nil_append,← hm.len]; exact List.take_left
   ·have e1 : news.toArray ++ Builtin.zeroCells ti.zero.cells (grownCap w m.length 0 e - m.length) = (news ++ (Builtin.zeroCells ti.zero.cells (grownCap w m.length 0 e - m.length)).toList).toArray:=Array.ext' (by simp)
    rw [e1]; exact hS'.place i
 ·by_cases hroom : l.length + m.length ≤ cap
  ·have hfit : l.length * ii.size + news.length ≤ cs.toArray.size:=by rw [hmn,hsz,← Nat.add_mul,List.size_toArray,k5]; exact Nat.mul_le_mul_right _ hroom
   have hg:=hS.get i hi
   have hrun:=run_append_room (P:=P) w t tty e ii ht.u h2 b l.length cap cs.toArray hg a m.length c news hmn hnews hm.cells1 hroom hfit
   refine ⟨_,some (b,e,cs.take (l.length * ii.size) ++ news ++ cs.drop (l.length * ii.size + news.length)),_,hrun, .inr ⟨b,cs.take (l.length * ii.size) ++ news ++ cs.drop (l.length * ii.size + news.length),cap,xs ++ news,rfl,by rw [List.length_append],by rw [List.length_append]; exact hroom,k4,?_,k6.append hm,?_,by rw [List.length_append]; exact hb,by rw [List.length_append]; exact hb2⟩,?_⟩
   ·simp only [List.size_toArray] at hfit
    simp only [List.length_append,List.length_take,List.length_drop]
    omega
   ·rw [hsz,k7,List.length_append,Nat.add_mul,← k6.len,← hm.len,← List.length_append]
    exact List.take_left
   ·refine hS.write i hi _ rfl rfl rfl (Nat.le_refl _) (by simp) (setRow_heap w b cs.toArray _ e _ hg) (fun k hk=>setRow_other w b k _ hk)
  ·have hg:=hS.get i hi
   have holds : ∀ j u,xs[j]? = some u → w.cell? ((⟨b,0,none⟩ : Addr).add j) = some u:=fun j u hu=>by
    rw [YC _ _ rfl]
    refine hS.cell i hi ?_
    rw [Nat.zero_add,← k7] at *
    rw [List.getElem?_take] at hu
    split at hu
    ·exact hu
    ·cases hu
   have hrun:=run_append_grow (P:=P) w t tty e ii ti.zero ht.u h2 h3 ⟨b,0,none⟩ l.length cap xs (by rw [hsz]; exact k6.len) holds a m.length c news hmn hnews (by omega) (by omega) (growslice_fits (by omega) (by rw [h6,hby]; exact hb))
   have hge:=grownCap_ge w (l.length + m.length) cap e
   have hmax:=grownCap_le_maxLen w (l.length + m.length) cap e (by unfold maxLen; omega)
   have hS':=(hS.same (w':=w.drew) rfl rfl rfl rfl (Nat.le_succ _)).alloc e (xs ++ news ++ (Builtin.zeroCells ti.zero.cells (grownCap w (l.length + m.length) cap e - (l.length + m.length))).toList)
   refine ⟨_,some (w.heap.size,e,xs ++ news ++ (Builtin.zeroCells ti.zero.cells (grownCap w (l.length + m.length) cap e - (l.length + m.length))).toList),_,hrun, .inr ⟨w.heap.size,xs ++ news ++ (Builtin.zeroCells ti.zero.cells (grownCap w (l.length + m.length) cap e - (l.length + m.length))).toList,grownCap w (l.length + m.length) cap e,xs ++ news,rfl,by rw [List.length_append],by rw [List.length_append]; exact hge,hmax,?_,k6.append hm,?_,by rw [List.length_append]; exact hb,by rw [List.length_append]; exact hb2⟩,?_⟩
   ·rw [List.length_append,List.length_append,ZbC,hz,hm.len,k6.len,← Nat.add_mul,← Nat.add_mul]; congr 1; omega
   ·rw [List.length_append,Nat.add_mul,← k6.len,← hm.len,← List.length_append]; exact List.take_left
   ·have e1 : xs.toArray ++ news.toArray ++ Builtin.zeroCells ti.zero.cells (grownCap w (l.length + m.length) cap e - (l.length + m.length)) = (xs ++ news ++ (Builtin.zeroCells ti.zero.cells (grownCap w (l.length + m.length) cap e - (l.length + m.length))).toList).toArray:=Array.ext' (by simp)
    rw [e1]; exact hS'.place i
theorem WL.push {α : Type} {E : Enc α} {by_ : Nat} {t e : TypeId} {ti : TI} {s x : Operand} {v : Value} {l m : List α} {o : Option (Nat × TypeId × List Value)} (ht : TSl P t e ti) (hE : ti.size = E.n) (hby : ti.bytes = by_) (hz : ti.zero.cells.size = E.n)
  (hr : YX E by_ e G v l o) (hS : St w0 X G0 G L w) (i : Nat) (hi : L[i]? = some o) (j : Nat) (b : Nat) (e' : TypeId) (news : List Value) (n c : Nat) (hj : L[j]? = some (some (b,e',news))) (hm : Qx E G m news) (hn : n = m.length)
  (hb : (l.length + m.length) * by_ ≤ reach) (hb2 : l.length + m.length ≤ reach)
  (hw : Region.wanted ⟨some d, .call ⟨.builtin .append,#[s,x],#[t,t]⟩,ty,pos,af,g⟩ (Zu ops ρ) = true) (hs : ev ρ s = v) (hx : ev ρ x = .slice (some ⟨b,0,none⟩) n c)
  (k : ∀ v' o' w',YX E by_ e G v' (l ++ m) o' → St w0 X G0 G (L.set i o') w' → K (ZQ ρ d v') w') : OW P ops ⟨some d, .call ⟨.builtin .append,#[s,x],#[t,t]⟩,ty,pos,af,g⟩ ρ w K:=by
 subst hn
 obtain ⟨v',o',w',hrun,hr',hS'⟩:=Zks ht hE hby hz hr hS i hi ty ⟨b,0,none⟩ c news hm (fun q u hu=>by rw [YC _ _ rfl]; exact hS.cell j hj (by simpa using hu)) hb hb2
 refine WL.val (w':=w') hw ?_ rfl (k v' o' w' hr' hS')
 simp [execOp,resolve,invoke,builtin,hs,hx,hrun,Result.andThen]
theorem Zj3 {α : Type} {E : Enc α} {by_ : Nat} {t e : TypeId} {ti : TI} {v : Value} {l : List α} {o : Option (Nat × TypeId × List Value)} (ht : TSl P t e ti) (hr : YX E by_ e G v l o) (tty : TypeId) (c : Nat) :
  (Builtin.append_ #[t,t] tty #[v, .slice none 0 c]).run P w = .ok v w:=by
 obtain ⟨ds,ii,h1,h2,h3,h4,h5,h6⟩:=Zaq ht.i
 rcases hr with ⟨_,rfl,rfl⟩ | ⟨b,cs,cap,xs,_,rfl,k3,_⟩
 ·simp [Builtin.append_,run_underlying ht.u,sizeOf,typeInfo,h2,Builtin.lenOf,Builtin.firstCells]
 ·simp [Builtin.append_,run_underlying ht.u,sizeOf,typeInfo,h2,Builtin.lenOf,Builtin.firstCells,k3,storeCells]
theorem Sl.flat {α : Type} {E : Enc α} {by_ : Nat} {v : Value} {l : List α} (h : Sl E by_ G v l) : ∃ a cap,v = .slice a l.length cap ∧ ((a = none ∧ l = []) ∨ ∃ p news,a = some p ∧ Qx E G l news ∧ ∀ w,G.In w → ∀ j u,news[j]? = some u → w.cell? (p.add j) = some u):=by
 obtain ⟨a,cap,rfl,h2,h3,h3',h4⟩:=h
 refine ⟨a,cap,rfl,?_⟩
 cases a with
 | none=>
  refine .inl ⟨rfl,?_⟩
  cases l with
  | nil=>rfl
  | cons x l=>obtain ⟨p,hp,_⟩:=h4 0 x rfl; cases hp
 | some p=>
  refine .inr ⟨p,?_⟩
  have key : ∀ (m : List α) (k : Nat),(∀ i x,m[i]? = some x → p.spot = none ∧ ZeD E G (p.add ((k + i) * E.n)) x) → ∃ news,Qx E G m news ∧ ∀ w,G.In w → ∀ j u,news[j]? = some u → w.cell? (p.add (k * E.n + j)) = some u:=by
   intro m
   induction m with
   | nil=>intro k _; exact ⟨[],rfl,fun w _ j u hu=>by simp at hu⟩
   | cons x m ih=>
    intro k hm
    obtain ⟨hsp,c,hc,hx⟩:=hm 0 x rfl
    obtain ⟨news,hf,hn⟩:=ih (k + 1) (fun i y hy=>by
     have:=hm (i + 1) y (by simpa using hy)
     rwa [show k + (i + 1) = k + 1 + i by omega] at this)
    refine ⟨c ++ news,⟨c,news,rfl,hx,hf⟩,fun w hG j u hu=>?_⟩
    have hlen:=E.len hx
    rcases Nat.lt_or_ge j c.length with hj | hj
    ·rw [List.getElem?_append_left hj] at hu
     have:=hc.cell hG hu
     rw [YC _ _ (by rw [YC _ _ hsp]),YC _ _ hsp] at this
     rw [YC _ _ hsp]
     simp only [Nat.add_zero] at this
     rwa [← Nat.add_assoc]
    ·rw [List.getElem?_append_right hj] at hu
     have:=hn w hG _ _ hu
     rwa [show (k + 1) * E.n + (j - c.length) = k * E.n + j by rw [Nat.add_mul,hlen]; omega] at this
  obtain ⟨news,hf,hn⟩:=key l 0 (fun i x hx=>by
   obtain ⟨p',hp',hsp,hel⟩:=h4 i x hx
   obtain rfl:=Option.some.inj hp'
   exact ⟨hsp,by rwa [Nat.zero_add]⟩)
  exact ⟨news,rfl,hf,fun w hG j u hu=>by have:=hn w hG j u hu; rwa [Nat.zero_mul,Nat.zero_add] at this⟩
theorem Zf4 {α : Type} {E : Enc α} {by_ by' : Nat} {t e : TypeId} {ti : TI} {s x : Operand} {v vx : Value} {l m : List α} {o : Option (Nat × TypeId × List Value)} (ht : TSl P t e ti) (hE : ti.size = E.n) (hby : ti.bytes = by_) (hz : ti.zero.cells.size = E.n)
  (hr : YX E by_ e G v l o) (hS : St w0 X G0 G L w) (i : Nat) (hi : L[i]? = some o) (hm : Sl E by' G vx m)
  (hb : (l.length + m.length) * by_ ≤ reach) (hb2 : l.length + m.length ≤ reach)
  (hw : Region.wanted ⟨some d, .call ⟨.builtin .append,#[s,x],#[t,t]⟩,ty,pos,af,g⟩ (Zu ops ρ) = true) (hs : ev ρ s = v) (hx : ev ρ x = vx)
  (k : ∀ v' o' w',YX E by_ e G v' (l ++ m) o' → St w0 X G0 G (L.set i o') w' → K (ZQ ρ d v') w') : OW P ops ⟨some d, .call ⟨.builtin .append,#[s,x],#[t,t]⟩,ty,pos,af,g⟩ ρ w K:=by
 obtain ⟨a,cap,rfl,⟨rfl,rfl⟩ | ⟨p,news,rfl,hf,hn⟩⟩:=hm.flat
 ·have hrun:=Zj3 (w:=w) ht hr ty cap
  have hLe : L.set i o = L:=by
   have hil : i < L.length:=(List.getElem?_eq_some_iff.1 hi).1
   apply List.ext_getElem?; intro j
   rw [List.getElem?_set]; split
   ·rename_i hj; subst hj; simp [hi]
   ·rfl
  refine WL.val (w':=w) hw ?_ rfl (k v o w (by simpa using hr) (by rw [hLe]; exact hS))
  simp [execOp,resolve,invoke,builtin,hs,hx,hrun,Result.andThen]
 ·obtain ⟨v',o',w',hrun,hr',hS'⟩:=Zks ht hE hby hz hr hS i hi ty p cap news hf (hn w hS.imm) hb hb2
  refine WL.val (w':=w') hw ?_ rfl (k v' o' w' hr' hS')
  simp [execOp,resolve,invoke,builtin,hs,hx,hrun,Result.andThen]
end
end Go.Civ
