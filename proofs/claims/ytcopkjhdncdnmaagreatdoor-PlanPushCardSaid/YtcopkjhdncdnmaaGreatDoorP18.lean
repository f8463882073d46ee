/- Lemmas. -/
import Derived.Test.YtcopkjhdncdnmaaGreatDoorP17
set_option linter.unusedSimpArgs false
namespace Go.Civ
open Go.RowKit
set_option linter.unusedVariables false
abbrev Str:=List UInt8
theorem Sl.imp {α : Type} {E E' : Enc α} {by_ : Nat} {G : GH} {v : Value} {l : List α} (hs : Sl E by_ G v l) (hn : E.n = E'.n) (h : ∀ x ∈ l,∀ cs,E.rep G x cs → E'.rep G x cs) : Sl E' by_ G v l:=by
 obtain ⟨a,cap,h1,h2,h3,h4,h5⟩:=hs
 refine ⟨a,cap,h1,h2,h3,h4,fun i x hx=>?_⟩
 obtain ⟨a0,e1,e2,cs0,hc0,hr0⟩:=h5 i x hx
 exact ⟨a0,e1,e2,cs0,by rw [← hn]; exact hc0,h x (List.mem_of_getElem? hx) cs0 hr0⟩
theorem Sl.upto {α : Type} {E : Nat → Enc α} {by_ : Nat} {G : GH} {v : Value} {l : List α} {E' : Enc α} (hn : ∀ d,(E d).n = E'.n) (hup : ∀ d d' x cs,d ≤ d' → (E d).rep G x cs → (E d').rep G x cs) (h : ∀ x cs,E'.rep G x cs → ∃ d,(E d).rep G x cs) (hs : Sl E' by_ G v l) : ∃ d,Sl (E d) by_ G v l:=by
 obtain ⟨a,cap,h1,h2,h3,h4,h5⟩:=hs
 have hP : ∀ n,∃ d,∀ i,i < n → ∀ x,l[i]? = some x → ∃ a0,a = some a0 ∧ a0.spot = none ∧ ∃ cs0,YC G (a0.add (i * E'.n)) cs0 ∧ (E d).rep G x cs0:=by
  intro n
  induction n with
  | zero=>exact ⟨0,fun i hi=>by omega⟩
  | succ n ih=>
   obtain ⟨d,hd⟩:=ih
   cases hx : l[n]? with
   | none=>exact ⟨d,fun i hi x hxi=>by
     by_cases e : i = n
     ·subst e; rw [hx] at hxi; cases hxi
     ·exact hd i (by omega) x hxi⟩
   | some y=>
    obtain ⟨a0,e1,e2,cs0,hc0,hr0⟩:=h5 n y hx
    obtain ⟨d2,h2'⟩:=h y cs0 hr0
    refine ⟨max d d2,fun i hi x hxi=>?_⟩
    by_cases e : i = n
    ·subst e; rw [hx] at hxi; obtain rfl:=Option.some.inj hxi
     exact ⟨a0,e1,e2,cs0,hc0,hup _ _ _ _ (Nat.le_max_right _ _) h2'⟩
    ·obtain ⟨b0,f1,f2,cs1,hc1,hr1⟩:=hd i (by omega) x hxi
     exact ⟨b0,f1,f2,cs1,hc1,hup _ _ _ _ (Nat.le_max_left _ _) hr1⟩
 obtain ⟨d,hd⟩:=hP l.length
 refine ⟨d,a,cap,h1,h2,h3,h4,fun i x hx=>?_⟩
 obtain ⟨a0,e1,e2,cs0,hc0,hr0⟩:=hd i (List.getElem?_eq_some_iff.1 hx).1 x hx
 exact ⟨a0,e1,e2,cs0,by rw [hn]; exact hc0,hr0⟩
def CndE : Enc Cond:=⟨7,fun G x cs=>∃ d,(Xd d).rep G x cs,fun ⟨d,h⟩=>(Xd d).len h,fun hle ⟨d,h⟩=>⟨d,(Xd d).mono hle h⟩,fun ⟨d,h⟩=>(Xd d).one h⟩
section
variable {G : GH} {c : Cond} {cs : List Value}
theorem ZO (h : CndE.rep G c cs) : ∃ lv,cs = [.int .i64 c.kind,Zb c.col,Zb c.oth, .int .i64 c.v.k, .int .i64 c.v.n,Zb c.v.s,lv] ∧ ZM c.kind ∧ c.col.length ≤ reach ∧ c.oth.length ≤ reach ∧ ZM c.v.k ∧ ZM c.v.n ∧ c.v.s.length ≤ reach ∧ Sl CndE 96 G lv c.l:=by
 obtain ⟨d,h⟩:=h
 cases d with
 | zero=>exact (QP h).elim
 | succ d=>
  obtain ⟨lv,h1,h2,h3,h4,h5,h6,h7,h8⟩:=QQ h
  exact ⟨lv,h1,h2,h3,h4,h5,h6,h7,h8.imp rfl fun x _ cs hr=>⟨d,hr⟩⟩
theorem ZJ (c : Cond) {lv : Value} (h2 : ZM c.kind) (h3 : c.col.length ≤ reach) (h4 : c.oth.length ≤ reach) (h5 : ZM c.v.k) (h6 : ZM c.v.n) (h7 : c.v.s.length ≤ reach) (h8 : Sl CndE 96 G lv c.l) : CndE.rep G c [.int .i64 c.kind,Zb c.col,Zb c.oth, .int .i64 c.v.k, .int .i64 c.v.n,Zb c.v.s,lv]:=by
 obtain ⟨d,hd⟩:=Sl.upto (E:=Xd) (fun _=>rfl) (fun d d' x cs hle hr=>Zok hr hle) (fun x cs hr=>hr) h8
 exact ⟨d + 1,Zhi.2 ⟨lv,rfl,h2,h3,h4,h5,h6,h7,hd⟩⟩
def Xn (c : Cond) (n : Nat) : Prop:=SizeOf.sizeOf c ≤ n
theorem YR {x : Cond} {n : Nat} (hn : Xn c (n + 1)) (h : x ∈ c.l) : Xn x n:=by
 have:=List.sizeOf_lt_of_mem h
 unfold Xn at hn ⊢; cases c; simp at this hn; omega
theorem XC (hn : Xn c 0) : False:=by unfold Xn at hn; cases c; simp at hn
theorem Zgc : ∀ {n : Nat} {c : Cond} {cs : List Value},Xn c n → CndE.rep G c cs → (Xd n).rep G c cs
 | 0,c,cs,hn,_=>(XC hn).elim
 | n + 1,c,cs,hn,h=>by
  obtain ⟨lv,h1,h2,h3,h4,h5,h6,h7,h8⟩:=ZO h
  exact Zhi.2 ⟨lv,h1,h2,h3,h4,h5,h6,h7,h8.imp rfl fun x hx cs hr=>Zgc (YR hn hx) hr⟩
end
structure Query where
 kind : Int
 table : Str
 cols : List Str
 names : List Str
 cond : Cond
 rel : Int
 fn : Int
 span : Span
 l : List Query
def ZqP (R : Enc Query) (G : GH) (q : Query) (cs : List Value) : Prop:=
 ∃ cv nv clv lv,cs = [.int .i64 q.kind,Zb q.table,cv,nv, .int .i64 q.cond.kind,Zb q.cond.col,Zb q.cond.oth, .int .i64 q.cond.v.k, .int .i64 q.cond.v.n,Zb q.cond.v.s,clv, .int .i64 q.rel, .int .i64 q.fn, .int .i64 q.span.a, .int .i64 q.span.b,lv] ∧
  ZM q.kind ∧ q.table.length ≤ reach ∧ Sl Enc.str 16 G cv q.cols ∧ Sl Enc.str 16 G nv q.names ∧ ZM q.cond.kind ∧ q.cond.col.length ≤ reach ∧ q.cond.oth.length ≤ reach ∧ ZM q.cond.v.k ∧ ZM q.cond.v.n ∧ q.cond.v.s.length ≤ reach ∧ Sl CndE 96 G clv q.cond.l ∧
  ZM q.rel ∧ ZM q.fn ∧ ZM q.span.a ∧ ZM q.span.b ∧ Sl R 224 G lv q.l
abbrev QryP:={ R : GH → Query → List Value → Prop // (∀ {G x cs},R G x cs → cs.length = 16) ∧ (∀ {G G' x cs},G.le G' → R G x cs → R G' x cs) ∧ (∀ {G x cs},R G x cs → ∀ c ∈ cs,c.oneCell' = true) }
def QryP.enc (R : QryP) : Enc Query:=⟨16,R.1,R.2.1,R.2.2.1,R.2.2.2⟩
def QryP.up (R : QryP) : QryP:=
 ⟨ZqP R.enc,fun ⟨_,_,_,_,h,_⟩=>by rw [h]; rfl,fun hle ⟨cv,nv,clv,lv,h1,h2,h3,h4,h5,h6,h7,h8,h9,h10,h11,h12,h13,h14,h15,h16,h17⟩=>⟨cv,nv,clv,lv,h1,h2,h3,h4.mono hle,h5.mono hle,h6,h7,h8,h9,h10,h11,h12.mono hle,h13,h14,h15,h16,h17.mono hle⟩,
  fun ⟨cv,nv,clv,lv,h1,_,_,h4,h5,_,_,_,_,_,_,h12,_,_,_,_,h17⟩ c hc=>by
  rw [h1] at hc
  simp at hc
  rcases hc with rfl | rfl | rfl | rfl | rfl | rfl | rfl | rfl | rfl | rfl | rfl | rfl | rfl | rfl | rfl | rfl
  ·rfl
  ·rfl
  ·exact Sl.oneC h4
  ·exact Sl.oneC h5
  ·rfl
  ·rfl
  ·rfl
  ·rfl
  ·rfl
  ·rfl
  ·exact Sl.oneC h12
  ·rfl
  ·rfl
  ·rfl
  ·rfl
  ·exact Sl.oneC h17⟩
def ZjB : Nat → QryP
 | 0=>⟨fun _ _ _=>False,fun h=>h.elim,fun _ h=>h.elim,fun h=>h.elim⟩
 | d + 1=>(ZjB d).up
def ZcY (d : Nat) : Enc Query:=⟨16,(ZjB d).1,(ZjB d).2.1,(ZjB d).2.2.1,(ZjB d).2.2.2⟩
def QryE : Enc Query:=⟨16,fun G x cs=>∃ d,(ZcY d).rep G x cs,fun ⟨d,h⟩=>(ZcY d).len h,fun hle ⟨d,h⟩=>⟨d,(ZcY d).mono hle h⟩,fun ⟨d,h⟩=>(ZcY d).one h⟩
section
variable {G : GH} {q : Query} {cs : List Value} {d : Nat}
theorem Zix (h : (ZcY 0).rep G q cs) : False:=h
theorem Zef : (ZcY (d + 1)).rep G q cs ↔ ZqP (ZcY d) G q cs:=Iff.rfl
theorem ZpP (h : (ZcY d).rep G q cs) : (ZcY (d + 1)).rep G q cs:=by
 induction d generalizing q cs with
 | zero=>exact (Zix h).elim
 | succ d ih=>
  obtain ⟨cv,nv,clv,lv,h1,h2,h3,h4,h5,h6,h7,h8,h9,h10,h11,h12,h13,h14,h15,h16,h17⟩:=Zef.1 h
  exact Zef.2 ⟨cv,nv,clv,lv,h1,h2,h3,h4,h5,h6,h7,h8,h9,h10,h11,h12,h13,h14,h15,h16,h17.imp rfl fun x _ cs hr=>ih hr⟩
theorem ZpQ {d' : Nat} (h : (ZcY d).rep G q cs) (hd : d ≤ d') : (ZcY d').rep G q cs:=by
 induction d' with
 | zero=>
  obtain rfl : d = 0:=by omega
  exact h
 | succ n ih=>
  by_cases e : d = n + 1
  ·subst e; exact h
  ·exact ZpP (ih (by omega))
theorem Ze (h : QryE.rep G q cs) : ∃ cv nv clv lv,cs = [.int .i64 q.kind,Zb q.table,cv,nv, .int .i64 q.cond.kind,Zb q.cond.col,Zb q.cond.oth, .int .i64 q.cond.v.k, .int .i64 q.cond.v.n,Zb q.cond.v.s,clv, .int .i64 q.rel, .int .i64 q.fn, .int .i64 q.span.a, .int .i64 q.span.b,lv] ∧
  ZM q.kind ∧ q.table.length ≤ reach ∧ Sl Enc.str 16 G cv q.cols ∧ Sl Enc.str 16 G nv q.names ∧ ZM q.cond.kind ∧ q.cond.col.length ≤ reach ∧ q.cond.oth.length ≤ reach ∧ ZM q.cond.v.k ∧ ZM q.cond.v.n ∧ q.cond.v.s.length ≤ reach ∧ Sl CndE 96 G clv q.cond.l ∧
  ZM q.rel ∧ ZM q.fn ∧ ZM q.span.a ∧ ZM q.span.b ∧ Sl QryE 224 G lv q.l:=by
 obtain ⟨d,h⟩:=h
 cases d with
 | zero=>exact (Zix h).elim
 | succ d=>
  obtain ⟨cv,nv,clv,lv,h1,h2,h3,h4,h5,h6,h7,h8,h9,h10,h11,h12,h13,h14,h15,h16,h17⟩:=Zef.1 h
  exact ⟨cv,nv,clv,lv,h1,h2,h3,h4,h5,h6,h7,h8,h9,h10,h11,h12,h13,h14,h15,h16,h17.imp rfl fun x _ cs hr=>⟨d,hr⟩⟩
theorem Zd (q : Query) {cv nv clv lv : Value} (h2 : ZM q.kind) (h3 : q.table.length ≤ reach) (h4 : Sl Enc.str 16 G cv q.cols) (h5 : Sl Enc.str 16 G nv q.names) (h6 : ZM q.cond.kind) (h7 : q.cond.col.length ≤ reach) (h8 : q.cond.oth.length ≤ reach) (h9 : ZM q.cond.v.k) (h10 : ZM q.cond.v.n) (h11 : q.cond.v.s.length ≤ reach) (h12 : Sl CndE 96 G clv q.cond.l)
  (h13 : ZM q.rel) (h14 : ZM q.fn) (h15 : ZM q.span.a) (h16 : ZM q.span.b) (h17 : Sl QryE 224 G lv q.l) :
  QryE.rep G q [.int .i64 q.kind,Zb q.table,cv,nv, .int .i64 q.cond.kind,Zb q.cond.col,Zb q.cond.oth, .int .i64 q.cond.v.k, .int .i64 q.cond.v.n,Zb q.cond.v.s,clv, .int .i64 q.rel, .int .i64 q.fn, .int .i64 q.span.a, .int .i64 q.span.b,lv]:=by
 obtain ⟨d,hd⟩:=Sl.upto (E:=ZcY) (fun _=>rfl) (fun d d' x cs hle hr=>ZpQ hr hle) (fun x cs hr=>hr) h17
 exact ⟨d + 1,Zef.2 ⟨cv,nv,clv,lv,rfl,h2,h3,h4,h5,h6,h7,h8,h9,h10,h11,h12,h13,h14,h15,h16,hd⟩⟩
def Xx (q : Query) (n : Nat) : Prop:=SizeOf.sizeOf q ≤ n
theorem Yp {x : Query} {n : Nat} (hn : Xx q (n + 1)) (h : x ∈ q.l) : Xx x n:=by
 have:=List.sizeOf_lt_of_mem h
 unfold Xx at hn ⊢; cases q; simp at this hn; omega
theorem Q9 (hn : Xx q 0) : False:=by unfold Xx at hn; cases q; simp at hn
theorem Zbs {n : Nat} (hn : Xx q n) : Xn q.cond n:=by unfold Xx Xn at *; cases q; simp at hn ⊢; omega
end
abbrev noC : Cond:=⟨0,[],[],⟨0,0,[]⟩,[]⟩
abbrev noQ : Query:=⟨0,[],[],[],noC,0,0,⟨0,0⟩,[]⟩
def Xp : List Str:=[[115,99,97,110],[115,101,108,101,99,116],[111,102],[112,114,111,106,101,99,116],[114,101,110,97,109,101],[116,111],[106,111,105,110],[117,110,105,111,110],[101,120,99,101,112,116],[100,117,114,105,110,103],[103,114,111,117,112],[97,115],[99,111,117,110,116],[115,117,109],[109,105,110],[109,97,120],[114,101,108,97,116,101],[97,110,100],[111,114],[110,111,116],[97,108,119,97,121,115],[116,114,117,101],[102,97,108,115,101],[102,111,114,101,118,101,114]]
structure Glob (G : GH) : Prop where
 resv : ∃ v,YC G ⟨1,0,none⟩ [v] ∧ Sl Enc.str 16 G v Xp
 all : YC G ⟨0,0,none⟩ [.int .i64 (-62135596800), .int .i64 253402300800]
theorem Glob.mono {G G' : GH} (hle : G.le G') (h : Glob G) : Glob G':=by
 obtain ⟨⟨v,h1,h2⟩,h3⟩:=h
 exact ⟨⟨v,h1.mono hle,h2.mono hle⟩,h3.mono hle⟩
end Go.Civ
