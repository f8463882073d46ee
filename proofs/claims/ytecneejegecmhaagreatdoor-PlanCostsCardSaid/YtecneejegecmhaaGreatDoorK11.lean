/- Lemmas. -/
import Derived.Test.YtecneejegecmhaaGreatDoorK10
set_option linter.unusedVariables false
set_option linter.unusedSimpArgs false
set_option linter.unnecessarySimpa false
namespace Go.Civ
open Go.RowKit
set_option linter.unusedVariables false
abbrev Str:=List UInt8
theorem Sl.imp {α : Type} {E E' : Enc α} {by_ : Nat} {G : GH} {v : Value} {l : List α} (hs : Sl E by_ G v l) (hn : E.n = E'.n) (h : ∀ x ∈ l,∀ cs,E.rep G x cs → E'.rep G x cs) : Sl E' by_ G v l:=by
 obtain ⟨a,cap,h1,h2,h3,h4,h5⟩:=hs
 refine ⟨a,cap,h1,h2,h3,h4,fun i x hx=>?_⟩
 obtain ⟨a0,e1,e2,cs0,hc0,hr0⟩:=h5 i x hx
 exact ⟨a0,e1,e2,cs0,by rw [← hn]; exact hc0,h x (List.mem_of_getElem? hx) cs0 hr0⟩
theorem Sl.upto {α : Type} {E : Nat → Enc α} {by_ : Nat} {G : GH} {v : Value} {l : List α} {E' : Enc α} (hn : ∀ d,(E d).n = E'.n) (hup : ∀ d d' x cs,d ≤ d' → (E d).rep G x cs → (E d').rep G x cs) (h : ∀ x cs,E'.rep G x cs → ∃ d,(E d).rep G x cs) (hs : Sl E' by_ G v l) : ∃ d,Sl (E d) by_ G v l:=by
 obtain ⟨a,cap,h1,h2,h3,h4,h5⟩:=hs
 have hP : ∀ n,∃ d,∀ i,i < n → ∀ x,l[i]? = some x → ∃ a0,a = some a0 ∧ a0.spot = none ∧ ∃ cs0,Xh G (a0.add (i * E'.n)) cs0 ∧ (E d).rep G x cs0:=by
  intro n
  induction n with
  | zero=>exact ⟨0,fun i hi=>by omega⟩
  | succ n ih=>
   obtain ⟨d,hd⟩:=ih
   cases hx : l[n]? with
   | none=>exact ⟨d,fun i hi x hxi=>by
     by_cases e : i = n
     ·subst e; rw [hx] at hxi; cases hxi
     ·exact hd i (by omega) x hxi⟩
   | some y=>
    obtain ⟨a0,e1,e2,cs0,hc0,hr0⟩:=h5 n y hx
    obtain ⟨d2,h2'⟩:=h y cs0 hr0
    refine ⟨max d d2,fun i hi x hxi=>?_⟩
    by_cases e : i = n
    ·subst e; rw [hx] at hxi; obtain rfl:=Option.some.inj hxi
     exact ⟨a0,e1,e2,cs0,hc0,hup _ _ _ _ (Nat.le_max_right _ _) h2'⟩
    ·obtain ⟨b0,f1,f2,cs1,hc1,hr1⟩:=hd i (by omega) x hxi
     exact ⟨b0,f1,f2,cs1,hc1,hup _ _ _ _ (Nat.le_max_left _ _) hr1⟩
 obtain ⟨d,hd⟩:=hP l.length
 refine ⟨d,a,cap,h1,h2,h3,h4,fun i x hx=>?_⟩
 obtain ⟨a0,e1,e2,cs0,hc0,hr0⟩:=hd i (List.getElem?_eq_some_iff.1 hx).1 x hx
 exact ⟨a0,e1,e2,cs0,by rw [hn]; exact hc0,hr0⟩
def CndE : Enc Cond:=⟨7,fun G x cs=>∃ d,(Xy d).rep G x cs,fun ⟨d,h⟩=>(Xy d).len h,fun hle ⟨d,h⟩=>⟨d,(Xy d).mono hle h⟩,fun ⟨d,h⟩=>(Xy d).one h⟩
section
variable {G : GH} {c : Cond} {cs : List Value}
theorem Yl (h : CndE.rep G c cs) : ∃ lv,cs = [.int .i64 c.kind,Za c.col,Za c.oth, .int .i64 c.v.k, .int .i64 c.v.n,Za c.v.s,lv] ∧ Zj c.kind ∧ c.col.length ≤ reach ∧ c.oth.length ≤ reach ∧ Zj c.v.k ∧ Zj c.v.n ∧ c.v.s.length ≤ reach ∧ Sl CndE 96 G lv c.l:=by
 obtain ⟨d,h⟩:=h
 cases d with
 | zero=>exact (ZaD h).elim
 | succ d=>
  obtain ⟨lv,h1,h2,h3,h4,h5,h6,h7,h8⟩:=ZaE h
  exact ⟨lv,h1,h2,h3,h4,h5,h6,h7,h8.imp rfl fun x _ cs hr=>⟨d,hr⟩⟩
theorem ZR (c : Cond) {lv : Value} (h2 : Zj c.kind) (h3 : c.col.length ≤ reach) (h4 : c.oth.length ≤ reach) (h5 : Zj c.v.k) (h6 : Zj c.v.n) (h7 : c.v.s.length ≤ reach) (h8 : Sl CndE 96 G lv c.l) : CndE.rep G c [.int .i64 c.kind,Za c.col,Za c.oth, .int .i64 c.v.k, .int .i64 c.v.n,Za c.v.s,lv]:=by
 obtain ⟨d,hd⟩:=Sl.upto (E:=Xy) (fun _=>rfl) (fun d d' x cs hle hr=>Zq2 hr hle) (fun x cs hr=>hr) h8
 exact ⟨d + 1,Zh8.2 ⟨lv,rfl,h2,h3,h4,h5,h6,h7,hd⟩⟩
def Qd (c : Cond) (n : Nat) : Prop:=SizeOf.sizeOf c ≤ n
theorem Xb {x : Cond} {n : Nat} (hn : Qd c (n + 1)) (h : x ∈ c.l) : Qd x n:=by
 have:=List.sizeOf_lt_of_mem h
 unfold Qd at hn ⊢; cases c; simp at this hn; omega
theorem ZaU (hn : Qd c 0) : False:=by unfold Qd at hn; cases c; simp at hn
theorem Zi4 : ∀ {n : Nat} {c : Cond} {cs : List Value},Qd c n → CndE.rep G c cs → (Xy n).rep G c cs
 | 0,c,cs,hn,_=>(ZaU hn).elim
 | n + 1,c,cs,hn,h=>by
  obtain ⟨lv,h1,h2,h3,h4,h5,h6,h7,h8⟩:=Yl h
  exact Zh8.2 ⟨lv,h1,h2,h3,h4,h5,h6,h7,h8.imp rfl fun x hx cs hr=>Zi4 (Xb hn hx) hr⟩
end
structure Query where
 kind : Int
 table : Str
 cols : List Str
 names : List Str
 cond : Cond
 rel : Int
 fn : Int
 span : Span
 l : List Query
def Zvo (R : Enc Query) (G : GH) (q : Query) (cs : List Value) : Prop:=
 ∃ cv nv clv lv,cs = [.int .i64 q.kind,Za q.table,cv,nv, .int .i64 q.cond.kind,Za q.cond.col,Za q.cond.oth, .int .i64 q.cond.v.k, .int .i64 q.cond.v.n,Za q.cond.v.s,clv, .int .i64 q.rel, .int .i64 q.fn, .int .i64 q.span.a, .int .i64 q.span.b,lv] ∧
  Zj q.kind ∧ q.table.length ≤ reach ∧ Sl Enc.str 16 G cv q.cols ∧ Sl Enc.str 16 G nv q.names ∧ Zj q.cond.kind ∧ q.cond.col.length ≤ reach ∧ q.cond.oth.length ≤ reach ∧ Zj q.cond.v.k ∧ Zj q.cond.v.n ∧ q.cond.v.s.length ≤ reach ∧ Sl CndE 96 G clv q.cond.l ∧
  Zj q.rel ∧ Zj q.fn ∧ Zj q.span.a ∧ Zj q.span.b ∧ Sl R 224 G lv q.l
abbrev QryP:={ R : GH → Query → List Value → Prop // (∀ {G x cs},R G x cs → cs.length = 16) ∧ (∀ {G G' x cs},G.le G' → R G x cs → R G' x cs) ∧ (∀ {G x cs},R G x cs → ∀ c ∈ cs,c.oneCell' = true) }
def QryP.enc (R : QryP) : Enc Query:=⟨16,R.1,R.2.1,R.2.2.1,R.2.2.2⟩
def QryP.up (R : QryP) : QryP:=
 ⟨Zvo R.enc,fun ⟨_,_,_,_,h,_⟩=>by rw [h]; rfl,fun hle ⟨cv,nv,clv,lv,h1,h2,h3,h4,h5,h6,h7,h8,h9,h10,h11,h12,h13,h14,h15,h16,h17⟩=>⟨cv,nv,clv,lv,h1,h2,h3,h4.mono hle,h5.mono hle,h6,h7,h8,h9,h10,h11,h12.mono hle,h13,h14,h15,h16,h17.mono hle⟩,
  fun ⟨cv,nv,clv,lv,h1,_,_,h4,h5,_,_,_,_,_,_,h12,_,_,_,_,h17⟩ c hc=>by
  rw [h1] at hc
  simp at hc
  rcases hc with rfl | rfl | rfl | rfl | rfl | rfl | rfl | rfl | rfl | rfl | rfl | rfl | rfl | rfl | rfl | rfl
  ·rfl
  ·rfl
  ·exact Sl.oneC h4
  ·exact Sl.oneC h5
  ·rfl
  ·rfl
  ·rfl
  ·rfl
  ·rfl
  ·rfl
  ·exact Sl.oneC h12
  ·rfl
  ·rfl
  ·rfl
  ·rfl
  ·exact Sl.oneC h17⟩
def ZkL : Nat → QryP
 | 0=>⟨fun _ _ _=>False,fun h=>h.elim,fun _ h=>h.elim,fun h=>h.elim⟩
 | d + 1=>(ZkL d).up
def ZcL (d : Nat) : Enc Query:=⟨16,(ZkL d).1,(ZkL d).2.1,(ZkL d).2.2.1,(ZkL d).2.2.2⟩
def QryE : Enc Query:=⟨16,fun G x cs=>∃ d,(ZcL d).rep G x cs,fun ⟨d,h⟩=>(ZcL d).len h,fun hle ⟨d,h⟩=>⟨d,(ZcL d).mono hle h⟩,fun ⟨d,h⟩=>(ZcL d).one h⟩
section
variable {G : GH} {q : Query} {cs : List Value} {d : Nat}
theorem Zjj (h : (ZcL 0).rep G q cs) : False:=h
theorem ZdF : (ZcL (d + 1)).rep G q cs ↔ Zvo (ZcL d) G q cs:=Iff.rfl
theorem ZtM (h : (ZcL d).rep G q cs) : (ZcL (d + 1)).rep G q cs:=by
 induction d generalizing q cs with
 | zero=>exact (Zjj h).elim
 | succ d ih=>
  obtain ⟨cv,nv,clv,lv,h1,h2,h3,h4,h5,h6,h7,h8,h9,h10,h11,h12,h13,h14,h15,h16,h17⟩:=ZdF.1 h
  exact ZdF.2 ⟨cv,nv,clv,lv,h1,h2,h3,h4,h5,h6,h7,h8,h9,h10,h11,h12,h13,h14,h15,h16,h17.imp rfl fun x _ cs hr=>ih hr⟩
theorem ZtN {d' : Nat} (h : (ZcL d).rep G q cs) (hd : d ≤ d') : (ZcL d').rep G q cs:=by
 induction d' with
 | zero=>
  obtain rfl : d = 0:=by omega
  exact h
 | succ n ih=>
  by_cases e : d = n + 1
  ·subst e; exact h
  ·exact ZtM (ih (by omega))
theorem Zs (h : QryE.rep G q cs) : ∃ cv nv clv lv,cs = [.int .i64 q.kind,Za q.table,cv,nv, .int .i64 q.cond.kind,Za q.cond.col,Za q.cond.oth, .int .i64 q.cond.v.k, .int .i64 q.cond.v.n,Za q.cond.v.s,clv, .int .i64 q.rel, .int .i64 q.fn, .int .i64 q.span.a, .int .i64 q.span.b,lv] ∧
  Zj q.kind ∧ q.table.length ≤ reach ∧ Sl Enc.str 16 G cv q.cols ∧ Sl Enc.str 16 G nv q.names ∧ Zj q.cond.kind ∧ q.cond.col.length ≤ reach ∧ q.cond.oth.length ≤ reach ∧ Zj q.cond.v.k ∧ Zj q.cond.v.n ∧ q.cond.v.s.length ≤ reach ∧ Sl CndE 96 G clv q.cond.l ∧
  Zj q.rel ∧ Zj q.fn ∧ Zj q.span.a ∧ Zj q.span.b ∧ Sl QryE 224 G lv q.l:=by
 obtain ⟨d,h⟩:=h
 cases d with
 | zero=>exact (Zjj h).elim
 | succ d=>
  obtain ⟨cv,nv,clv,lv,h1,h2,h3,h4,h5,h6,h7,h8,h9,h10,h11,h12,h13,h14,h15,h16,h17⟩:=ZdF.1 h
  exact ⟨cv,nv,clv,lv,h1,h2,h3,h4,h5,h6,h7,h8,h9,h10,h11,h12,h13,h14,h15,h16,h17.imp rfl fun x _ cs hr=>⟨d,hr⟩⟩
theorem Zr (q : Query) {cv nv clv lv : Value} (h2 : Zj q.kind) (h3 : q.table.length ≤ reach) (h4 : Sl Enc.str 16 G cv q.cols) (h5 : Sl Enc.str 16 G nv q.names) (h6 : Zj q.cond.kind) (h7 : q.cond.col.length ≤ reach) (h8 : q.cond.oth.length ≤ reach) (h9 : Zj q.cond.v.k) (h10 : Zj q.cond.v.n) (h11 : q.cond.v.s.length ≤ reach) (h12 : Sl CndE 96 G clv q.cond.l)
  (h13 : Zj q.rel) (h14 : Zj q.fn) (h15 : Zj q.span.a) (h16 : Zj q.span.b) (h17 : Sl QryE 224 G lv q.l) :
  QryE.rep G q [.int .i64 q.kind,Za q.table,cv,nv, .int .i64 q.cond.kind,Za q.cond.col,Za q.cond.oth, .int .i64 q.cond.v.k, .int .i64 q.cond.v.n,Za q.cond.v.s,clv, .int .i64 q.rel, .int .i64 q.fn, .int .i64 q.span.a, .int .i64 q.span.b,lv]:=by
 obtain ⟨d,hd⟩:=Sl.upto (E:=ZcL) (fun _=>rfl) (fun d d' x cs hle hr=>ZtN hr hle) (fun x cs hr=>hr) h17
 exact ⟨d + 1,ZdF.2 ⟨cv,nv,clv,lv,rfl,h2,h3,h4,h5,h6,h7,h8,h9,h10,h11,h12,h13,h14,h15,h16,hd⟩⟩
def Xx (q : Query) (n : Nat) : Prop:=SizeOf.sizeOf q ≤ n
theorem XN {x : Query} {n : Nat} (hn : Xx q (n + 1)) (h : x ∈ q.l) : Xx x n:=by
 have:=List.sizeOf_lt_of_mem h
 unfold Xx at hn ⊢; cases q; simp at this hn; omega
theorem ZaH (hn : Xx q 0) : False:=by unfold Xx at hn; cases q; simp at hn
theorem Zaz {n : Nat} (hn : Xx q n) : Qd q.cond n:=by unfold Xx Qd at *; cases q; simp at hn ⊢; omega
end
abbrev noC : Cond:=⟨0,[],[],⟨0,0,[]⟩,[]⟩
abbrev noQ : Query:=⟨0,[],[],[],noC,0,0,⟨0,0⟩,[]⟩
def resvL : List Str:=[[115,99,97,110],[115,101,108,101,99,116],[111,102],[112,114,111,106,101,99,116],[114,101,110,97,109,101],[116,111],[106,111,105,110],[117,110,105,111,110],[101,120,99,101,112,116],[100,117,114,105,110,103],[103,114,111,117,112],[97,115],[99,111,117,110,116],[115,117,109],[109,105,110],[109,97,120],[114,101,108,97,116,101],[97,110,100],[111,114],[110,111,116],[97,108,119,97,121,115],[116,114,117,101],[102,97,108,115,101],[102,111,114,101,118,101,114]]
structure Glob (G : GH) : Prop where
 resv : ∃ v,Xh G ⟨2,0,none⟩ [v] ∧ Sl Enc.str 16 G v resvL
 all : Xh G ⟨0,0,none⟩ [.int .i64 (-62135596800), .int .i64 253402300800]
 maxl : ∃ m,Xh G ⟨3,0,none⟩ [.int .i64 m]
theorem Glob.mono {G G' : GH} (hle : G.le G') (h : Glob G) : Glob G':=by
 obtain ⟨⟨v,h1,h2⟩,h3,m,h4⟩:=h
 exact ⟨⟨v,h1.mono hle,h2.mono hle⟩,h3.mono hle,m,h4.mono hle⟩
end Go.Civ
namespace Go.Civ
open Go.RowKit
set_option linter.unusedVariables false
def qnC (c : UInt8) : Bool:=YQ (c.toNat : Int) || QE (c.toNat : Int) || decide ((c.toNat : Int) = 95)
def ZeP (s : Str) : Bool:=resvL.any fun x=>decide (x = s)
def YB (s : Str) : Bool:=decide (1 ≤ s.length) && (decide (s.length ≤ 30) && (YQ ((s.headD 0).toNat : Int) && (s.all qnC && !ZeP s)))
section
variable {s : Str} {c : UInt8} {k j : Nat} {l : List Str}
theorem ZrW (h : YQ (c.toNat : Int) = true) : qnC c = true:=by unfold qnC; rw [h]; rfl
theorem ZrX (h : QE (c.toNat : Int) = true) : qnC c = true:=by unfold qnC; rw [h]; simp
theorem ZrY (h : (c.toNat : Int) = 95) : qnC c = true:=by unfold qnC; rw [decide_eq_true h]; simp
theorem ZoR (h1 : YQ (c.toNat : Int) = false) (h2 : QE (c.toNat : Int) = false) (h3 : ¬ (c.toNat : Int) = 95) : qnC c = false:=by unfold qnC; rw [h1,h2,decide_eq_false h3]; rfl
theorem ZkM (h : (s.length : Int) < 1 ∨ 30 < (s.length : Int)) : YB s = false:=by
 unfold YB
 rcases h with h | h
 ·rw [decide_eq_false (show ¬ 1 ≤ s.length by omega)]; rfl
 ·rw [decide_eq_false (show ¬ s.length ≤ 30 by omega)]; simp
theorem Zvv (h : s = []) : YB s = false:=by rw [h]; rfl
theorem ZoS (h : s[0]? = some c) (hc : YQ (c.toNat : Int) = false) : YB s = false:=by unfold YB; rw [Zcb h,hc]; simp
theorem ZoT (h : s[k]? = some c) (hc : qnC c = false) : YB s = false:=by unfold YB; rw [Zew h hc]; simp
theorem Zvw (h : ZeP s = true) : YB s = false:=by unfold YB; rw [h]; simp
theorem Zvx (h1 : 1 ≤ (s.length : Int)) (h2 : (s.length : Int) ≤ 30) (h : s[0]? = some c) (hc : YQ (c.toNat : Int) = true) (ha : s.all qnC = true) (hr : ZeP s = false) : YB s = true:=by
 unfold YB; rw [Zcb h,hc,ha,hr,decide_eq_true (show 1 ≤ s.length by omega),decide_eq_true (show s.length ≤ 30 by omega)]; rfl
theorem Zvy (h1 : 1 ≤ (s.length : Int)) (h2 : (s.length : Int) ≤ 30) (h : s[0]? = some c) (hc : YQ (c.toNat : Int) = true) (ha : s.all qnC = true) : (!ZeP s) = YB s:=by
 unfold YB; rw [Zcb h,hc,ha,decide_eq_true (show 1 ≤ s.length by omega),decide_eq_true (show s.length ≤ 30 by omega)]; rfl
theorem ZoU (h : ¬ s = []) : 1 ≤ (s.length : Int):=by cases s with | nil=>exact (h rfl).elim | cons a b=>simp; omega
def qnA (l : List Str) (j : Nat) (s : Str) : Bool:=YB s && !(l.take j).any fun x=>decide (x = s)
def QF (l : List Str) : Bool:=l.zipIdx.all fun p=>qnA l p.2 p.1
theorem Zmx (h1 : YB s = true) (h2 : ((l.take j).any fun x=>decide (x = s)) = false) : qnA l j s = true:=by unfold qnA; rw [h1,h2]; rfl
theorem Zmy (h1 : YB s = false) : qnA l j s = false:=by unfold qnA; rw [h1]; rfl
theorem Zmz (h2 : ((l.take j).any fun x=>decide (x = s)) = true) : qnA l j s = false:=by unfold qnA; rw [h2]; simp
theorem ZhN (h : l[k]? = some s) (hs : qnA l k s = false) : QF l = false:=by
 unfold QF
 rw [Bool.eq_false_iff]
 intro e
 rw [List.all_eq_true] at e
 have:=e (s,k) (List.mem_zipIdx_iff_getElem?.2 h)
 rw [this] at hs; cases hs
theorem Zm0 (h : ∀ j,j < k → ∀ s,l[j]? = some s → qnA l j s = true) (hk : l.length ≤ k) : QF l = true:=by
 unfold QF
 rw [List.all_eq_true]
 rintro ⟨s,j⟩ hm
 have hj:=List.mem_zipIdx_iff_getElem?.1 hm
 have:=(List.getElem?_eq_some_iff.1 hj).1
 exact h j (by simp at this ⊢; omega) s hj
theorem Zvz (h : l[j]? = some s) (hj : j < k) {t : Str} (e : s = t) : ((l.take k).any fun x=>decide (x = t)) = true:=
 List.any_eq_true.2 ⟨s,List.mem_of_getElem? (i:=j) (by rw [List.getElem?_take,if_pos hj]; exact h),decide_eq_true e⟩
theorem ZtP {t : Str} (h : ∀ j,j < k → ∀ x,l[j]? = some x → ¬ x = t) : ((l.take k).any fun x=>decide (x = t)) = false:=
 List.any_eq_false.2 fun x hx=>by
  obtain ⟨i,hi⟩:=List.getElem?_of_mem hx
  rw [List.getElem?_take] at hi
  split at hi
  ·rename_i hlt; simpa using h i hlt x hi
  ·cases hi
theorem ZtQ {t : Str} (h : l[k]? = some s) (h2 : l[j]? = some t) (hj : j < k) (e : t = s) : QF l = false:=ZhN h (Zmz (Zvz h2 hj e))
theorem Zv0 (h : s ∈ resvL) : ZeP s = true:=List.any_eq_true.2 ⟨s,h,decide_eq_true rfl⟩
theorem ZtR (h : ∀ x ∈ resvL,¬ s = x) : ZeP s = false:=List.any_eq_false.2 fun x hx=>by have:=h x hx; simp; exact fun e=>this e.symm
theorem XO (x : Str) (e : s = x) (h : x ∈ resvL:=by decide) : true = ZeP s:=by subst e; exact (Zv0 h).symm
theorem Zv1 (h0 : ¬ s = [115,99,97,110]) (h1 : ¬ s = [115,101,108,101,99,116]) (h2 : ¬ s = [111,102]) (h3 : ¬ s = [112,114,111,106,101,99,116]) (h4 : ¬ s = [114,101,110,97,109,101]) (h5 : ¬ s = [116,111]) (h6 : ¬ s = [106,111,105,110]) (h7 : ¬ s = [117,110,105,111,110]) (h8 : ¬ s = [101,120,99,101,112,116]) (h9 : ¬ s = [100,117,114,105,110,103]) (h10 : ¬ s = [103,114,111,117,112]) (h11 : ¬ s = [97,115]) (h12 : ¬ s = [99,111,117,110,116]) (h13 : ¬ s = [115,117,109]) (h14 : ¬ s = [109,105,110]) (h15 : ¬ s = [109,97,120]) (h16 : ¬ s = [114,101,108,97,116,101]) (h17 : ¬ s = [97,110,100]) (h18 : ¬ s = [111,114]) (h19 : ¬ s = [110,111,116]) (h20 : ¬ s = [97,108,119,97,121,115]) (h21 : ¬ s = [116,114,117,101]) (h22 : ¬ s = [102,97,108,115,101]) (h23 : ¬ s = [102,111,114,101,118,101,114]) : false = ZeP s:=(ZtR (by
 intro x hx
 simp only [resvL,List.mem_cons,List.not_mem_nil,or_false] at hx
 rcases hx with rfl | rfl | rfl | rfl | rfl | rfl | rfl | rfl | rfl | rfl | rfl | rfl | rfl | rfl | rfl | rfl | rfl | rfl | rfl | rfl | rfl | rfl | rfl | rfl <;> assumption)).symm
end
abbrev QV (q : Query) (a b c d : Value) : List Value:=[.int .i64 q.kind,Za q.table,a,b, .int .i64 q.cond.kind,Za q.cond.col,Za q.cond.oth, .int .i64 q.cond.v.k, .int .i64 q.cond.v.n,Za q.cond.v.s,c, .int .i64 q.rel, .int .i64 q.fn, .int .i64 q.span.a, .int .i64 q.span.b,d]
abbrev CV (c : Cond) (a : Value) : List Value:=[.int .i64 c.kind,Za c.col,Za c.oth, .int .i64 c.v.k, .int .i64 c.v.n,Za c.v.s,a]
abbrev QW (k : Int) (q : Query) (a b c d : Value) : List Value:=[.int .i64 k,Za q.table,a,b, .int .i64 q.cond.kind,Za q.cond.col,Za q.cond.oth, .int .i64 q.cond.v.k, .int .i64 q.cond.v.n,Za q.cond.v.s,c, .int .i64 q.rel, .int .i64 q.fn, .int .i64 q.span.a, .int .i64 q.span.b,d]
abbrev SV (q : Query) (a b c d x y k s t : Value) : List Value:=[.int .i64 q.kind,Za q.table,a,b, .int .i64 q.cond.kind,Za q.cond.col,Za q.cond.oth, .int .i64 q.cond.v.k, .int .i64 q.cond.v.n,Za q.cond.v.s,c, .int .i64 q.rel, .int .i64 q.fn, .int .i64 q.span.a, .int .i64 q.span.b,d,x,y,k,s,t]
end Go.Civ
namespace Go.Civ
open Go.RowKit
set_option linter.unusedVariables false
theorem Sl.i64 {G : GH} {v : Value} {l : List Val} (h : Sl ValE 32 G v l) : ∀ x ∈ l,Zj x.n:=fun x hx=>by
 obtain ⟨i,hi⟩:=List.getElem?_of_mem hx
 obtain ⟨a,cap,_,_,_,_,h4⟩:=h
 obtain ⟨p,_,_,cs,_,hr⟩:=h4 i x hi
 exact (ZbO hr).2.2.1
structure HRel (e : TypeId) (G : GH) (gs : List HGrp) (L : List (List Val × Value)) (O : Own) : Prop where
 len : L.length = gs.length
 olen : O.length = gs.length
 at_ : ∀ (i : Nat) g,gs[i]? = some g → ∃ p o,L[i]? = some p ∧ O[i]? = some o ∧ p.1 = g.v ∧ YX ZrU 56 e G p.2 g.t o
section
variable {e : TypeId} {G G' : GH} {gs : List HGrp} {L : List (List Val × Value)} {O : Own}
theorem HRel.nil : HRel e G [] [] []:=⟨rfl,rfl,fun i g h=>by simp at h⟩
theorem HRel.mono (h : HRel e G gs L O) (k : G.le G') : HRel e G' gs L O:=⟨h.len,h.olen,fun i g hg=>by
 obtain ⟨p,o,h1,h2,h3,h4⟩:=h.at_ i g hg
 exact ⟨p,o,h1,h2,h3,h4.mono k⟩⟩
theorem HRel.push (h : HRel e G gs L O) (v : List Val) : HRel e G (gs ++ [⟨v,[]⟩]) (L ++ [(v, .slice none 0 0)]) (O ++ [none]):=by
 refine ⟨by simp [h.len],by simp [h.olen],fun i g hg=>?_⟩
 rw [List.getElem?_append] at hg
 split at hg
 ·rename_i hi
  obtain ⟨p,o,h1,h2,h3,h4⟩:=h.at_ i g hg
  exact ⟨p,o,by rw [List.getElem?_append_left (by rw [h.len]; exact hi)]; exact h1,by rw [List.getElem?_append_left (by rw [h.olen]; exact hi)]; exact h2,h3,h4⟩
 ·rename_i hi
  obtain rfl : i = gs.length:=by
   have:=(List.getElem?_eq_some_iff.1 hg).1
   simp only [List.length_singleton] at this; omega
  simp at hg
  subst hg
  exact ⟨(v, .slice none 0 0),none,by rw [← h.len]; simp,by rw [← h.olen]; simp,rfl,YX.nil _ _ _ _⟩
theorem HRel.set (h : HRel e G gs L O) {i : Nat} {g : HGrp} (hg : gs[i]? = some g) {r : HRow} {p1 : List Val} {v2 : Value} {o2 : OB} (hp : p1 = g.v) (hr : YX ZrU 56 e G v2 (g.t ++ [r]) o2) : HRel e G (ZqB gs i r) (L.set i (p1,v2)) (O.set i o2):=by
 subst hp
 have hi:=(List.getElem?_eq_some_iff.1 hg).1
 rw [ZtD r hg]
 refine ⟨by simp [h.len],by simp [h.olen],fun j q hq=>?_⟩
 rw [List.getElem?_set] at hq
 split at hq
 ·rename_i hj; subst hj
  obtain rfl : _ = q:=by first | (rw [if_pos hi] at hq; exact Option.some.inj hq) | exact Option.some.inj hq
  exact ⟨(g.v,v2),o2,by rw [List.getElem?_set_self (by rw [h.len]; exact hi)],by rw [List.getElem?_set_self (by rw [h.olen]; exact hi)],rfl,hr⟩
 ·rename_i hj
  obtain ⟨p,o,h1,h2,h3,h4⟩:=h.at_ j q hq
  exact ⟨p,o,by rw [List.getElem?_set_ne hj]; exact h1,by rw [List.getElem?_set_ne hj]; exact h2,h3,h4⟩
variable {w0 w : World} {X : List Nat} {G0 : GH}
end
theorem Zvu.mono {P : Program} {Kt E : TypeId} {w : World} {b n n' : Nat} {f : List UInt8 → Option Int} (h : Zvu P Kt E w b n f) (hn : n ≤ n') : Zvu P Kt E w b n' f:=by
 obtain ⟨D,h1,h2,h3⟩:=h
 exact ⟨D,h1,h2.mono hn,h3⟩
end Go.Civ
namespace Go.Civ
end Go.Civ
namespace Go.Civ
end Go.Civ
namespace Go.Civ
open Go.RowKit
set_option linter.unusedVariables false
def YM {α : Type} (f : α → Int → Bool × Int) : List α → Int → Bool × Int
 | [],m=>(true,m)
 | x :: r,m=>if (f x m).1 then YM f r (f x m).2 else (false,(f x m).2)
def ZcP {α : Type} (f : α → Int → Bool × Int) : List α → Int → Int → Int
 | [],_,_=>-1
 | x :: r,m,i=>if (f x m).1 then ZcP f r (f x m).2 (i + 1) else i
theorem Zba {α : Type} {f : α → Int → Bool × Int} {x : α} {r : List α} {m : Int} : YM f (x :: r) m = if (f x m).1 then YM f r (f x m).2 else (false,(f x m).2):=rfl
theorem ZfU {α : Type} {f : α → Int → Bool × Int} {x : α} {r : List α} {m i : Int} : ZcP f (x :: r) m i = if (f x m).1 then ZcP f r (f x m).2 (i + 1) else i:=rfl
section
variable {α : Type} {f : α → Int → Bool × Int} {l : List α} {x : α} {k : Nat} {n m : Int}
theorem Zhk : ∀ {a b : List α} {n : Int},(YM f a n).1 = true → YM f (a ++ b) n = YM f b (YM f a n).2
 | [],b,n,_=>rfl
 | y :: a,b,n,h=>by
  rw [List.cons_append]
  rw [Zba] at h
  rw [Zba,Zba]
  split at h
  ·rename_i q; rw [if_pos q,if_pos q]; exact Zhk h
  ·cases h
theorem Zhl : ∀ {a b : List α} {n i : Int},(YM f a n).1 = true → ZcP f (a ++ b) n i = ZcP f b (YM f a n).2 (i + a.length)
 | [],b,n,i,_=>by simp [YM]
 | y :: a,b,n,i,h=>by
  rw [List.cons_append]
  rw [Zba] at h
  rw [Zba,ZfU]
  split at h
  ·rename_i q
   rw [if_pos q,if_pos q,Zhl h]
   congr 1
   simp only [List.length_cons]; omega
  ·cases h
theorem ZiC : ∀ {l : List α} {n i : Int},0 ≤ i → decide (0 ≤ ZcP f l n i) = !(YM f l n).1
 | [],n,i,_=>rfl
 | y :: l,n,i,h=>by
  rw [ZfU,Zba]
  by_cases q : (f y n).1 = true
  ·rw [if_pos q,if_pos q]; exact ZiC (by omega)
  ·rw [if_neg q,if_neg q]; exact decide_eq_true h
theorem Zp4 (h : (YM f (l.take k) n).1 = true) (hm : m = (YM f (l.take k) n).2) (hx : l[k]? = some x) (h2 : (!(f x m).1) = false) : (YM f (l.take (k + 1)) n).1 = true ∧ (f x m).2 = (YM f (l.take (k + 1)) n).2:=by
 subst hm
 have e : l.take (k + 1) = l.take k ++ [x]:=by rw [List.take_add_one,hx]; rfl
 rw [e,Zhk h]
 have h3 : (f x (YM f (l.take k) n).2).1 = true:=by simpa using h2
 simp only [YM]
 rw [if_pos h3]; exact ⟨rfl,rfl⟩
theorem ZeZ (h : (YM f (l.take k) n).1 = true) (hm : m = (YM f (l.take k) n).2) (hx : l[k]? = some x) (h2 : (!(f x m).1) = true) : (k : Int) = ZcP f l n 0 ∧ (f x m).2 = (YM f l n).2:=by
 subst hm
 obtain ⟨hk,hk2⟩:=List.getElem?_eq_some_iff.1 hx
 have e : l = l.take k ++ x :: l.drop (k + 1):=by rw [← hk2,← List.drop_eq_getElem_cons hk,List.take_append_drop]
 have h3 : ¬ (f x (YM f (l.take k) n).2).1 = true:=by simpa using h2
 have e1:=Zhl (b:=x :: l.drop (k + 1)) (i:=0) h
 have e2:=Zhk (b:=x :: l.drop (k + 1)) h
 rw [← e] at e1 e2
 rw [e1,e2]
 rw [ZfU,Zba,if_neg h3,if_neg h3]
 refine ⟨?_,rfl⟩
 rw [List.length_take]; omega
theorem Zgz (h : (YM f (l.take k) n).1 = true) (hm : m = (YM f (l.take k) n).2) (hk : l.length ≤ k) : (-1 : Int) = ZcP f l n 0 ∧ m = (YM f l n).2:=by
 rw [List.take_of_length_le hk] at h hm
 have e1:=Zhl (b:=[]) (i:=0) h
 rw [List.append_nil] at e1
 rw [e1]; exact ⟨rfl,hm⟩
end
end Go.Civ
