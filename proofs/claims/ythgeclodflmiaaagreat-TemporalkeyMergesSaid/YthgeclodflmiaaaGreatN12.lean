/- Lemmas. -/
import Derived.Test.YthgeclodflmiaaaGreatN07
import Derived.Test.YthgeclodflmiaaaGreatN08
import Derived.Test.YthgeclodflmiaaaGreatN10
import Derived.Test.YthgeclodflmiaaaGreatN11
import Derived.Maps.Own
import Derived.Laws.StructEq
import Derived.Shelf.Slices.CompactI
import Derived.Ground.Names2Prog
import Derived.Test.YthgeclodflmiaaaGreatProg
namespace Go.Civ
open Go.RowKit Go.ChangeShapes Go.Deep
set_option linter.unusedVariables false
structure Cond where
 kind : Int
 col : List UInt8
 oth : List UInt8
 v : Val
 l : List Cond
def ZrK (R : Enc Cond) (G : GH) (c : Cond) (cs : List Value) : Prop:=
 ∃ lv,cs = [.int .i64 c.kind,Zb c.col,Zb c.oth, .int .i64 c.v.k, .int .i64 c.v.n,Zb c.v.s,lv] ∧ Zv c.kind ∧ c.col.length ≤ reach ∧ c.oth.length ≤ reach ∧ Zv c.v.k ∧ Zv c.v.n ∧ c.v.s.length ≤ reach ∧ Sl R 96 G lv c.l
abbrev CondP:={ R : GH → Cond → List Value → Prop // (∀ {G x cs},R G x cs → cs.length = 7) ∧ (∀ {G G' x cs},G.le G' → R G x cs → R G' x cs) ∧ (∀ {G x cs},R G x cs → ∀ c ∈ cs,c.oneCell' = true) }
def CondP.enc (R : CondP) : Enc Cond:=⟨7,R.1,R.2.1,R.2.2.1,R.2.2.2⟩
def CondP.up (R : CondP) : CondP:=
 ⟨ZrK R.enc,fun ⟨_,h,_⟩=>by rw [h]; rfl,fun hle ⟨lv,h1,h2,h3,h4,h5,h6,h7,h8⟩=>⟨lv,h1,h2,h3,h4,h5,h6,h7,h8.mono hle⟩,fun ⟨lv,h1,_,_,_,_,_,_,h8⟩ c hc=>by
  rw [h1] at hc
  simp at hc
  rcases hc with rfl | rfl | rfl | rfl | rfl | rfl | rfl
  ·rfl
  ·rfl
  ·rfl
  ·rfl
  ·rfl
  ·rfl
  ·exact Sl.oneC h8⟩
def ZgU : Nat → CondP
 | 0=>⟨fun _ _ _=>False,fun h=>h.elim,fun _ h=>h.elim,fun h=>h.elim⟩
 | d + 1=>(ZgU d).up
def YT (d : Nat) : Enc Cond:=⟨7,(ZgU d).1,(ZgU d).2.1,(ZgU d).2.2.1,(ZgU d).2.2.2⟩
section
variable {G : GH} {c : Cond} {cs : List Value} {d : Nat}
theorem ZaF (h : (YT 0).rep G c cs) : False:=h
theorem Zen : (YT (d + 1)).rep G c cs ↔ ZrK (YT d) G c cs:=Iff.rfl
theorem ZaG (h : (YT (d + 1)).rep G c cs) : ∃ lv,cs = [.int .i64 c.kind,Zb c.col,Zb c.oth, .int .i64 c.v.k, .int .i64 c.v.n,Zb c.v.s,lv] ∧ Zv c.kind ∧ c.col.length ≤ reach ∧ c.oth.length ≤ reach ∧ Zv c.v.k ∧ Zv c.v.n ∧ c.v.s.length ≤ reach ∧ Sl (YT d) 96 G lv c.l:=h
theorem Xs (h : (YT d).rep G c cs) : ∃ lv,cs = [.int .i64 c.kind,Zb c.col,Zb c.oth, .int .i64 c.v.k, .int .i64 c.v.n,Zb c.v.s,lv] ∧ Zv c.kind ∧ c.col.length ≤ reach ∧ c.oth.length ≤ reach ∧ Zv c.v.k ∧ Zv c.v.n ∧ c.v.s.length ≤ reach ∧ lv.oneCell' = true:=by
 cases d with
 | zero=>exact (ZaF h).elim
 | succ d=>obtain ⟨lv,h1,h2,h3,h4,h5,h6,h7,h8⟩:=ZaG h; exact ⟨lv,h1,h2,h3,h4,h5,h6,h7,Sl.oneC h8⟩
theorem ZpY (h : (YT d).rep G c cs) : (YT (d + 1)).rep G c cs:=by
 induction d generalizing c cs with
 | zero=>exact (ZaF h).elim
 | succ d ih=>
  obtain ⟨lv,h1,h2,h3,h4,h5,h6,h7,a,cap,h8,h9,h10,h11,h12⟩:=ZaG h
  refine ⟨lv,h1,h2,h3,h4,h5,h6,h7,a,cap,h8,h9,h10,h11,fun i x hx=>?_⟩
  obtain ⟨a0,e1,e2,cs0,hc0,hr0⟩:=h12 i x hx
  exact ⟨a0,e1,e2,cs0,hc0,ih hr0⟩
theorem ZpZ {d' : Nat} (h : (YT d).rep G c cs) (hd : d ≤ d') : (YT d').rep G c cs:=by
 induction d' with
 | zero=>
  obtain rfl : d = 0:=by omega
  exact h
 | succ n ih=>
  by_cases q : d = n + 1
  ·subst q; exact h
  ·exact ZpY (ih (by omega))
end
section
variable {P : Program} {N : Nat} {Q : Exit → Env → World → Prop} {ρ : Env} {w : World} {ops : Array Oper} {rest : List Oper} {K : Env → World → Prop} {d : Nat} {ty : TypeId} {pos : String} {af : Array Edge} {g : Option (Nat × Bool)}
end
section
variable {H : Type} {enc : TypeId × Value → H} {P : Program} {w : World}
end
end Go.Civ
namespace Go.Civ
open Go.RowKit
set_option linter.unusedVariables false
abbrev Zm3 : Val:=⟨0,0,[]⟩
def Ye (k : Int) : Nat:=if k = 4 then 1 else if k = 5 then 2 else if k = 6 then 2 else 0
def ZR (c : Cond) : Bool:=decide (c.kind = 1) || decide (c.kind = 2)
def Y4 (c : Cond) : Bool:=decide (c.kind = 3) || decide (c.kind = 4) || decide (c.kind = 5) || decide (c.kind = 6)
def ZD (c : Cond) : Bool:=
 bif ZR c then !decide (c.col = []) && decide (c.l.length = 0) && (bif decide (c.oth = []) then Zy c.v else decide (c.v = Zm3))
 else bif Y4 c then decide (c.col = []) && decide (c.oth = []) && decide (c.v = Zm3) && decide (c.l.length = Ye c.kind)
 else false
def Yb (l : List Col) (nm : List UInt8) : Int:=ZaP (fun x=>decide (x.name = nm)) l
theorem Zaz {l : List Col} {nm : List UInt8} : Yb l nm < (l.length : Int):=by
 unfold Yb ZaP
 cases h : l.findIdx? fun x=>decide (x.name = nm) with
 | none=>show (-1 : Int) < _; omega
 | some i=>have:=(List.findIdx?_eq_some_iff_getElem.1 h).1; show (i : Int) < _; omega
theorem Ziy {l : List Col} {nm : List UInt8} {k : Nat} {x : Col} (hx : l[k]? = some x) (hn : x.name = nm) (h : ∀ j,j < k → ∀ x,l[j]? = some x → decide (x.name = nm) = false) : Yb l nm = (k : Int):=
 Zci k hx (decide_eq_true hn) h
theorem Zqa {l : List Col} {nm : List UInt8} {k : Nat} (hk : l.length ≤ k) (h : ∀ j,j < k → ∀ x,l[j]? = some x → decide (x.name = nm) = false) : Yb l nm = -1:=by
 unfold Yb; exact Zb1 h hk
def ZgV (l : List Col) (i : Int) : Int:=match l[i.toNat]? with | some x=>x.kind | none=>0
def Qy (c : Cond) (l : List Col) : Int:=
 bif !ZR c then 0 else if Yb l c.col < 0 then 7 else bif !decide (c.oth = []) && decide (Yb l c.oth < 0) then 7
 else if (bif decide (c.oth = []) then c.v.k else ZgV l (Yb l c.oth)) ≠ ZgV l (Yb l c.col) then 13 else 0
def Za0 (f : Cond → Int) : List Cond → Int
 | []=>0
 | x :: r=>if f x ≠ 0 then f x else Za0 f r
def YI : Nat → Cond → List Col → Int
 | 0,_,_=>0
 | d + 1,c,l=>if Qy c l ≠ 0 then Qy c l else Za0 (fun x=>YI d x l) c.l
theorem Zga {f : Cond → Int} : ∀ {l : List Cond} {k : Nat} {x : Cond},(∀ j,j < k → ∀ y,l[j]? = some y → f y = 0) → l[k]? = some x → f x ≠ 0 → Za0 f l = f x
 | [],k,x,_,h,_=>by simp at h
 | y :: l,0,x,_,h,hx=>by
  simp at h; subst h
  rw [Za0,if_pos hx]
 | y :: l,k + 1,x,hp,h,hx=>by
  rw [Za0,if_neg (by rw [hp 0 (by omega) y (by simp)]; simp)]
  exact Zga (k:=k) (fun j hj z hz=>hp (j + 1) (by omega) z (by simpa using hz)) (by simpa using h) hx
theorem ZgW {f : Cond → Int} : ∀ {l : List Cond} {k : Nat},(∀ j,j < k → ∀ y,l[j]? = some y → f y = 0) → l.length ≤ k → Za0 f l = 0
 | [],_,_,_=>rfl
 | y :: l,k,hp,hk=>by
  simp at hk
  rw [Za0,if_neg (by rw [hp 0 (by omega) y (by simp)]; simp)]
  exact ZgW (k:=k - 1) (fun j hj z hz=>hp (j + 1) (by omega) z (by simpa using hz)) (by omega)
section
variable {d : Nat} {c : Cond} {l : List Col} {k : Nat}
theorem ZjV (h1 : c.kind ≠ 1) (h2 : c.kind ≠ 2) : Qy c l = 0:=by unfold Qy ZR; rw [decide_eq_false h1,decide_eq_false h2]; rfl
theorem Zck (h : c.kind = 1 ∨ c.kind = 2) : ZR c = true:=by unfold ZR; rcases h with h | h <;> rw [h] <;> rfl
theorem Zm4 (h : c.kind = 1 ∨ c.kind = 2) (hf : Yb l c.col < 0) : Qy c l = 7:=by unfold Qy; rw [Zck h,if_pos hf]; rfl
theorem ZjW (h : c.kind = 1 ∨ c.kind = 2) (hf : 0 ≤ Yb l c.col) (ho : c.oth ≠ []) (hg : Yb l c.oth < 0) : Qy c l = 7:=by unfold Qy; rw [Zck h,if_neg (by omega),decide_eq_false ho,decide_eq_true hg]; rfl
theorem ZgX (h : c.kind = 1 ∨ c.kind = 2) (hf : 0 ≤ Yb l c.col) (ho : c.oth = []) {x : Col} (hx : l[(Yb l c.col).toNat]? = some x) : Qy c l = if c.v.k ≠ x.kind then 13 else 0:=by
 unfold Qy ZgV; rw [Zck h,if_neg (by omega),decide_eq_true ho,hx]; rfl
theorem Zjr (h : c.kind = 1 ∨ c.kind = 2) (hf : 0 ≤ Yb l c.col) (ho : c.oth ≠ []) (hg : 0 ≤ Yb l c.oth) {x y : Col} (hx : l[(Yb l c.col).toNat]? = some x) (hy : l[(Yb l c.oth).toNat]? = some y) : Qy c l = if y.kind ≠ x.kind then 13 else 0:=by
 unfold Qy ZgV; rw [Zck h,if_neg (by omega),decide_eq_false ho,decide_eq_false (by omega : ¬ Yb l c.oth < 0),hx,hy]; rfl
theorem Zbr {e : Int} (h : Qy c l = e) (he : e ≠ 0) : YI (d + 1) c l = e:=by rw [YI,h,if_pos he]
theorem Zs0 {x : Cond} (h : Qy c l = 0) (hp : ∀ j,j < k → ∀ y,c.l[j]? = some y → YI d y l = 0) (hx : c.l[k]? = some x) (hn : YI d x l ≠ 0) : YI (d + 1) c l = YI d x l:=by
 rw [YI,h,if_neg (by simp)]; exact Zga (f:=fun x=>YI d x l) hp hx hn
theorem Zs1 (h : Qy c l = 0) (hp : ∀ j,j < k → ∀ y,c.l[j]? = some y → YI d y l = 0) (hk : c.l.length ≤ k) : YI (d + 1) c l = 0:=by
 rw [YI,h,if_neg (by simp)]; exact ZgW (f:=fun x=>YI d x l) hp hk
end
end Go.Civ
namespace Go.Civ
open Go.RowKit
set_option linter.unusedVariables false
def YM (f : Cond → Int) : List Cond → Int → Int
 | [],n=>n
 | x :: r,n=>if n ≤ 60 then YM f r (n + f x) else n
def Y2 : Nat → Cond → Int → Int
 | 0,_,_=>61
 | d + 1,c,dep=>if 12 < dep then 61 else if ZD c = false then 61 else YM (fun x=>Y2 d x (dep + 1)) c.l 1
theorem Zgb {f : Cond → Int} {x : Cond} : ∀ {l : List Cond} {n : Int},YM f (l ++ [x]) n = if YM f l n ≤ 60 then YM f l n + f x else YM f l n
 | [],n=>rfl
 | y :: l,n=>by
  rw [List.cons_append,YM,YM]
  by_cases h : n ≤ 60
  ·rw [if_pos h,if_pos h,Zgb]
  ·rw [if_neg h,if_neg h,if_neg h]
theorem Zlr {f : Cond → Int} {l : List Cond} {k : Nat} {x : Cond} {n m : Int} (hx : l[k]? = some x) (h : m = YM f (l.take k) n) (hm : m ≤ 60) : m + f x = YM f (l.take (k + 1)) n:=by
 rw [List.take_add_one,hx,Option.toList_some,Zgb,← h,if_pos hm]
theorem ZgY {f : Cond → Int} : ∀ {r : List Cond} {n : Int},60 < n → YM f r n = n
 | [],_,_=>rfl
 | _ :: _,n,h=>by rw [YM,if_neg (by omega)]
theorem ZeS {f : Cond → Int} : ∀ {l r : List Cond} {n : Int},YM f (l ++ r) n = YM f r (YM f l n)
 | [],r,n=>rfl
 | y :: l,r,n=>by
  rw [List.cons_append,YM,YM]
  by_cases h : n ≤ 60
  ·rw [if_pos h,if_pos h,ZeS]
  ·rw [if_neg h,if_neg h,ZgY (by omega)]
theorem Zls {f : Cond → Int} {l : List Cond} {k : Nat} {n m : Int} (h : m = YM f (l.take k) n) (hm : 60 < m) : YM f l n = m:=by
 conv=>lhs; rw [← List.take_append_drop k l,ZeS,← h,ZgY hm]
theorem Ziz {f : Cond → Int} {M : Int} (h0 : ∀ x,1 ≤ f x ∧ f x ≤ M) : ∀ {l : List Cond} {n : Int},1 ≤ n → n ≤ 60 + M → 1 ≤ YM f l n ∧ YM f l n ≤ 60 + M
 | [],n,h1,h2=>⟨h1,h2⟩
 | x :: r,n,h1,h2=>by
  rw [YM]
  have:=h0 x
  by_cases h : n ≤ 60
  ·rw [if_pos h]; exact Ziz h0 (by omega) (by omega)
  ·rw [if_neg h]; exact ⟨h1,h2⟩
theorem ZcJ : ∀ (d : Nat) (c : Cond) (dep : Int),(0 ≤ dep ∧ dep ≤ 13) → 1 ≤ Y2 d c dep ∧ Y2 d c dep ≤ 61 + 60 * (13 - dep)
 | 0,c,dep,h=>by rw [Y2]; omega
 | d + 1,c,dep,h=>by
  rw [Y2]
  by_cases h1 : 12 < dep
  ·rw [if_pos h1]; omega
  ·rw [if_neg h1]
   by_cases h2 : ZD c = false
   ·rw [if_pos h2]; omega
   ·rw [if_neg h2]
    have:=Ziz (f:=fun x=>Y2 d x (dep + 1)) (M:=61 + 60 * (13 - (dep + 1))) (fun x=>ZcJ d x (dep + 1) (by omega)) (l:=c.l) (n:=1) (by omega) (by omega)
    omega
section
variable {d : Nat} {c : Cond} {dep : Int} {k : Nat}
theorem Zs2 (h : 12 < dep) : Y2 (d + 1) c dep = 61:=by rw [Y2,if_pos h]
theorem Zs3 (h1 : dep ≤ 12) (h2 : ZD c = false) : Y2 (d + 1) c dep = 61:=by rw [Y2,if_neg (by omega),if_pos h2]
theorem ZlJ {m : Int} (h1 : dep ≤ 12) (h2 : ZD c = true) (h : m = YM (fun x=>Y2 d x (dep + 1)) (c.l.take k) 1) (hk : c.l.length ≤ k ∨ 60 < m) : Y2 (d + 1) c dep = m:=by
 rw [Y2,if_neg (by omega),if_neg (by rw [h2]; simp)]
 rcases hk with hk | hk
 ·rw [h,List.take_of_length_le hk]
 ·exact Zls h hk
end
theorem Zi0 {f : Cond → Int} (h0 : ∀ x,0 ≤ f x) : ∀ {l : List Cond} {n : Int},n ≤ YM f l n
 | [],n=>Int.le_refl _
 | x :: r,n=>by
  rw [YM]; have:=h0 x
  by_cases h : n ≤ 60
  ·rw [if_pos h]; have:=Zi0 h0 (l:=r) (n:=n + f x); omega
  ·rw [if_neg h]; exact Int.le_refl _
section
variable {d : Nat} {c : Cond} {dep n : Int} {k : Nat}
end
def XW (d : Nat) (c : Cond) (l : List Col) : Int:=if Y2 d c 1 ≤ 60 then YI d c l else 1
def Zeo : Nat → Cond → Prop
 | 0,_=>False
 | d + 1,c=>ZD c = true ∧ ∀ x ∈ c.l,Zeo d x
theorem ZlK : ∀ {d : Nat} {c : Cond} {dep : Int},0 ≤ dep → dep ≤ 13 → Y2 d c dep ≤ 60 → Zeo d c
 | 0,c,dep,_,_,h=>by rw [Y2] at h; omega
 | d + 1,c,dep,h0,h1,h=>by
  rw [Y2] at h
  by_cases g1 : 12 < dep
  ·rw [if_pos g1] at h; omega
  ·rw [if_neg g1] at h
   cases g2 : ZD c with
   | false=>rw [if_pos g2] at h; omega
   | true=>
    rw [if_neg (by rw [g2]; simp)] at h
    refine ⟨g2,?_⟩
    have pos : ∀ x,1 ≤ Y2 d x (dep + 1):=fun x=>(ZcJ d x (dep + 1) (by omega)).1
    have key : ∀ (l : List Cond) (m : Int),1 ≤ m → YM (fun x=>Y2 d x (dep + 1)) l m ≤ 60 → ∀ x ∈ l,Y2 d x (dep + 1) ≤ 60:=by
     intro l
     induction l with
     | nil=>intro m _ _ x hx; simp at hx
     | cons y r ih=>
      intro m hm hh x hx
      rw [YM] at hh
      have hy:=pos y
      by_cases g3 : m ≤ 60
      ·rw [if_pos g3] at hh
       have ge:=Zi0 (f:=fun x=>Y2 d x (dep + 1)) (fun x=>by have:=pos x; omega) (l:=r) (n:=m + Y2 d y (dep + 1))
       rcases List.mem_cons.1 hx with rfl | hx
       ·omega
       ·exact ih _ (by omega) hh x hx
      ·rw [if_neg g3] at hh; omega
    exact fun x hx=>ZlK (dep:=dep + 1) (by omega) (by omega) (key c.l 1 (by omega) h x hx)
theorem ZgZ {f : Cond → Int} : ∀ {l : List Cond},Za0 f l = 0 → ∀ x ∈ l,f x = 0
 | [],_,x,hx=>by simp at hx
 | y :: l,h,x,hx=>by
  rw [Za0] at h
  by_cases g : f y = 0
  ·rw [if_neg (by simp [g])] at h
   rcases List.mem_cons.1 hx with rfl | hx
   ·exact g
   ·exact ZgZ h x hx
  ·rw [if_pos g] at h; exact absurd h g
theorem Zfd {d : Nat} {c : Cond} {l : List Col} (h : YI (d + 1) c l = 0) : Qy c l = 0:=by
 rw [YI] at h
 by_cases g : Qy c l = 0
 ·exact g
 ·rw [if_pos g] at h; exact h
theorem ZaV {d : Nat} {c x : Cond} {l : List Col} (h : YI (d + 1) c l = 0) (hx : x ∈ c.l) : YI d x l = 0:=by
 have g:=Zfd h
 rw [YI,if_neg (by simp [g])] at h
 exact ZgZ (f:=fun x=>YI d x l) h x hx
def Zjs (v : List Val) (i : Int) : Val:=match v[i.toNat]? with | some x=>x | none=>Zm3
def Zep (c : Cond) (l : List Col) (v : List Val) : Int:=cmpV (Zjs v (Yb l c.col)) (bif decide (c.oth = []) then c.v else Zjs v (Yb l c.oth))
def YP : Nat → Cond → List Col → List Val → Bool
 | 0,_,_,_=>true
 | d + 1,c,l,v=>
  bif ZR c then (decide (Zep c l v = 0) && decide (c.kind = 1)) || (decide (Zep c l v < 0) && decide (c.kind = 2))
  else if c.kind = 4 then (match c.l[0]? with | some x=>!YP d x l v | none=>true)
  else if c.kind = 5 then (match c.l[0]?,c.l[1]? with | some x,some y=>YP d x l v && YP d y l v | _,_=>true)
  else if c.kind = 6 then (match c.l[0]?,c.l[1]? with | some x,some y=>YP d x l v || YP d y l v | _,_=>true)
  else true
theorem Zfe {c : Cond} (h : ZD c = true) (hk : c.kind = 3 ∨ c.kind = 4 ∨ c.kind = 5 ∨ c.kind = 6) : c.l.length = Ye c.kind:=by
 unfold ZD at h
 have h1 : ZR c = false:=by unfold ZR; rw [decide_eq_false (by omega),decide_eq_false (by omega)]; rfl
 rw [h1] at h
 simp only [cond_false] at h
 cases h2 : Y4 c with
 | false=>rw [h2] at h; cases h
 | true=>rw [h2] at h; simp only [cond_true,Bool.and_eq_true,decide_eq_true_eq] at h; exact h.2
section
variable {d : Nat} {c x y : Cond} {l : List Col} {v : List Val}
theorem ZtK (h : Zeo (d + 1) c) (hk : c.kind = 4) : c.l.length = 1:=by rw [Zfe h.1 (by omega),hk]; rfl
theorem ZtL (h : Zeo (d + 1) c) (hk : c.kind = 5) : c.l.length = 2:=by rw [Zfe h.1 (by omega),hk]; rfl
theorem ZtM (h : Zeo (d + 1) c) (hk : c.kind = 6) : c.l.length = 2:=by rw [Zfe h.1 (by omega),hk]; rfl
theorem ZjX (h : Qy c l = 0) (hk : c.kind = 1 ∨ c.kind = 2) : 0 ≤ Yb l c.col ∧ (c.oth ≠ [] → 0 ≤ Yb l c.oth):=by
 by_cases g : Yb l c.col < 0
 ·rw [Zm4 hk g] at h; omega
 ·refine ⟨by omega,fun ho=>?_⟩
  by_cases g2 : Yb l c.oth < 0
  ·rw [ZjW hk (by omega) ho g2] at h; omega
  ·omega
theorem Zha (h1 : c.kind ≠ 1) (h2 : c.kind ≠ 2) : ZR c = false:=by unfold ZR; rw [decide_eq_false h1,decide_eq_false h2]; rfl
theorem YR (hk : c.kind = 1 ∨ c.kind = 2) : YP (d + 1) c l v = ((decide (Zep c l v = 0) && decide (c.kind = 1)) || (decide (Zep c l v < 0) && decide (c.kind = 2))):=by rw [YP,Zck hk]; rfl
theorem ZtN (hk : c.kind = 4) (hx : c.l[0]? = some x) : YP (d + 1) c l v = !YP d x l v:=by rw [YP,Zha (by omega) (by omega),hx]; simp [hk]
theorem ZjY (hk : c.kind = 5) (hx : c.l[0]? = some x) (hy : c.l[1]? = some y) : YP (d + 1) c l v = (YP d x l v && YP d y l v):=by rw [YP,Zha (by omega) (by omega),hx,hy]; simp [hk]
theorem Zob (hk : c.kind = 6) (hx : c.l[0]? = some x) (hy : c.l[1]? = some y) : YP (d + 1) c l v = (YP d x l v || YP d y l v):=by rw [YP,Zha (by omega) (by omega),hx,hy]; simp [hk]
theorem Zs4 (hk : c.kind = 5) (hx : c.l[0]? = some x) (hal : c.l.length = 2) (h : YP d x l v = false) : YP (d + 1) c l v = false:=by
 rw [ZjY hk hx (List.getElem?_eq_getElem (by omega : 1 < c.l.length)),h]; rfl
theorem Zs5 (hk : c.kind = 6) (hx : c.l[0]? = some x) (hal : c.l.length = 2) (h : YP d x l v = true) : YP (d + 1) c l v = true:=by
 rw [Zob hk hx (List.getElem?_eq_getElem (by omega : 1 < c.l.length)),h]; rfl
theorem Zoc (h1 : c.kind ≠ 1) (h2 : c.kind ≠ 2) (h4 : c.kind ≠ 4) (h5 : c.kind ≠ 5) (h6 : c.kind ≠ 6) : YP (d + 1) c l v = true:=by rw [YP,Zha h1 h2,if_neg h4,if_neg h5,if_neg h6]; rfl
theorem Za1 {x : Val} (hx : v[(Yb l c.col).toNat]? = some x) (ho : c.oth = []) : Zep c l v = cmpV x c.v:=by unfold Zep Zjs; rw [hx,decide_eq_true ho]; rfl
theorem ZaW {x y : Val} (hx : v[(Yb l c.col).toNat]? = some x) (ho : c.oth ≠ []) (hy : v[(Yb l c.oth).toNat]? = some y) : Zep c l v = cmpV x y:=by unfold Zep Zjs; rw [hx,decide_eq_false ho,hy]; rfl
end
end Go.Civ
namespace Go.Civ
open Go.RowKit
set_option linter.unusedVariables false
structure Rect where
 d : Span
 x : Span
deriving DecidableEq
structure HRow where
 v : List Val
 r : Rect
deriving DecidableEq
structure Foreign where
 cols : List (List UInt8)
 table : List UInt8
deriving DecidableEq
structure Schema where
 name : List UInt8
 cols : List Col
 key : Int
 fks : List Foreign
deriving DecidableEq
structure Table where
 s : Schema
 rows : List HRow
 last : Int
deriving DecidableEq
def RectE : Enc Rect:=(Enc.pair SpanE SpanE).via fun x=>(x.d,x.x)
def HRowE : Enc HRow:=(Enc.pair (ValE.slice 32) RectE).via fun x=>(x.v,x.r)
def ForeignE : Enc Foreign:=(Enc.pair (Enc.str.slice 16) .str).via fun x=>(x.cols,x.table)
def SchemaE : Enc Schema:=(Enc.pair .str (Enc.pair (ColE.slice 24) (Enc.pair .int (ForeignE.slice 40)))).via fun x=>(x.name,x.cols,x.key,x.fks)
def TableE : Enc Table:=(Enc.pair SchemaE (Enc.pair (HRowE.slice 56) .int)).via fun x=>(x.s,x.rows,x.last)
section
variable {G : GH} {cs : List Value}
theorem ZmA {x : Rect} (h : RectE.rep G x cs) : cs = [.int .i64 x.d.a, .int .i64 x.d.b, .int .i64 x.x.a, .int .i64 x.x.b] ∧ Zv x.d.a ∧ Zv x.d.b ∧ Zv x.x.a ∧ Zv x.x.b:=by
 obtain ⟨c1,c2,rfl,h1,h2⟩:=h
 obtain ⟨rfl,h3,h4⟩:=Z2 h1
 obtain ⟨rfl,h5,h6⟩:=Z2 h2
 exact ⟨rfl,h3,h4,h5,h6⟩
theorem Zqd (x : Rect) (h1 : Zv x.d.a) (h2 : Zv x.d.b) (h3 : Zv x.x.a) (h4 : Zv x.x.b) : RectE.rep G x [.int .i64 x.d.a, .int .i64 x.d.b, .int .i64 x.x.a, .int .i64 x.x.b]:=
 ⟨_,_,rfl,Zq x.d h1 h2,Zq x.x h3 h4⟩
theorem Z8 {x : HRow} (h : HRowE.rep G x cs) : ∃ v,cs = [v, .int .i64 x.r.d.a, .int .i64 x.r.d.b, .int .i64 x.r.x.a, .int .i64 x.r.x.b] ∧ Sl ValE 32 G v x.v ∧ Zv x.r.d.a ∧ Zv x.r.d.b ∧ Zv x.r.x.a ∧ Zv x.r.x.b:=by
 obtain ⟨c1,c2,rfl,⟨v,rfl,h1⟩,h2⟩:=h
 obtain ⟨rfl,h3,h4,h5,h6⟩:=ZmA h2
 exact ⟨v,rfl,h1,h3,h4,h5,h6⟩
theorem ZJ (x : HRow) {v : Value} (h1 : Sl ValE 32 G v x.v) (h2 : Zv x.r.d.a) (h3 : Zv x.r.d.b) (h4 : Zv x.r.x.a) (h5 : Zv x.r.x.b) :
  HRowE.rep G x [v, .int .i64 x.r.d.a, .int .i64 x.r.d.b, .int .i64 x.r.x.a, .int .i64 x.r.x.b]:=⟨[v],_,rfl,⟨v,rfl,h1⟩,Zqd x.r h2 h3 h4 h5⟩
theorem Zjk {x : Foreign} (h : ForeignE.rep G x cs) : ∃ v,cs = [v,Zb x.table] ∧ Sl Enc.str 16 G v x.cols ∧ x.table.length ≤ reach:=by
 obtain ⟨c1,c2,rfl,⟨v,rfl,h1⟩,rfl,h2⟩:=h
 exact ⟨v,rfl,h1,h2⟩
theorem XJ {x : Schema} (h : SchemaE.rep G x cs) : ∃ v u,cs = [Zb x.name,v, .int .i64 x.key,u] ∧ x.name.length ≤ reach ∧ Sl ColE 24 G v x.cols ∧ Zv x.key ∧ Sl ForeignE 40 G u x.fks:=by
 obtain ⟨c1,c2,rfl,⟨rfl,h1⟩,c3,c4,rfl,⟨v,rfl,h2⟩,c5,c6,rfl,⟨rfl,h3⟩,u,rfl,h4⟩:=h
 exact ⟨v,u,rfl,h1,h2,h3,h4⟩
theorem Xt (x : Schema) {v u : Value} (h1 : x.name.length ≤ reach) (h2 : Sl ColE 24 G v x.cols) (h3 : Zv x.key) (h4 : Sl ForeignE 40 G u x.fks) : SchemaE.rep G x [Zb x.name,v, .int .i64 x.key,u]:=
 ⟨_,_,rfl,⟨rfl,h1⟩,_,_,rfl,⟨v,rfl,h2⟩,_,_,rfl,⟨rfl,h3⟩,u,rfl,h4⟩
theorem ZF {x : Table} (h : TableE.rep G x cs) : ∃ v u r,cs = [Zb x.s.name,v, .int .i64 x.s.key,u,r, .int .i64 x.last] ∧ x.s.name.length ≤ reach ∧ Sl ColE 24 G v x.s.cols ∧ Zv x.s.key ∧ Sl ForeignE 40 G u x.s.fks ∧ Sl HRowE 56 G r x.rows ∧ Zv x.last:=by
 obtain ⟨c1,c2,rfl,h0,c3,c4,rfl,⟨r,rfl,h2⟩,rfl,h3⟩:=h
 obtain ⟨v,u,rfl,h4,h5,h6,h7⟩:=XJ h0
 exact ⟨v,u,r,rfl,h4,h5,h6,h7,h2,h3⟩
theorem Zu (x : Table) {v u r : Value} (h1 : x.s.name.length ≤ reach) (h2 : Sl ColE 24 G v x.s.cols) (h3 : Zv x.s.key) (h4 : Sl ForeignE 40 G u x.s.fks) (h5 : Sl HRowE 56 G r x.rows) (h6 : Zv x.last) :
  TableE.rep G x [Zb x.s.name,v, .int .i64 x.s.key,u,r, .int .i64 x.last]:=⟨_,_,rfl,Xt x.s h1 h2 h3 h4,_,_,rfl,⟨r,rfl,h5⟩,rfl,h6⟩
end
def u63 (n : Int) : Nat:=(n + 9223372036854775808).toNat
def Zhg (n k : Nat) : UInt8:=UInt8.ofNat (n / 2 ^ k)
def ZdF (n : Int) : List UInt8:=[56,48,40,32,24,16,8,0].map (Zhg (u63 n))
def ZaQ (x : Val) : List UInt8:=UInt8.ofNat x.k.toNat :: (if x.k = 2 then x.s ++ [0] else if x.k = 3 then [UInt8.ofNat x.n.toNat] else ZdF x.n)
def Zak (l : List Val) : List UInt8:=l.flatMap ZaQ
def Ql (l : List Val) : List UInt8:=if l.length ≤ 1000 ∧ l.all Zy = true then Zak l else []
theorem Zi2 (n k : Nat) : (Zhg n k).toNat = n / 2 ^ k % 256:=by unfold Zhg; simp
theorem dig {a b k : Nat} (h : a / 2 ^ k % 256 = b / 2 ^ k % 256) (hk : a / 2 ^ (k + 8) = b / 2 ^ (k + 8)) : a / 2 ^ k = b / 2 ^ k:=by
 rw [Nat.pow_add,← Nat.div_div_eq_div_mul,← Nat.div_div_eq_div_mul] at hk
 generalize a / 2 ^ k = x at *
 generalize b / 2 ^ k = y at *
 have e : (2 : Nat) ^ 8 = 256:=rfl
 rw [e] at hk
 omega
theorem Zqe {m n : Int} (hm : Zv m) (hn : Zv n) (h : ZdF m = ZdF n) : m = n:=by
 have e : ∀ k,k ∈ [56,48,40,32,24,16,8,0] → u63 m / 2 ^ k % 256 = u63 n / 2 ^ k % 256:=fun k hk=>by
  have:=List.map_inj_left.1 h k hk
  rw [← Zi2,← Zi2,this]
 have bm : u63 m < 2 ^ 64:=by unfold u63; have:=hm.1; have:=hm.2; omega
 have bn : u63 n < 2 ^ 64:=by unfold u63; have:=hn.1; have:=hn.2; omega
 have h64 : u63 m / 2 ^ (56 + 8) = u63 n / 2 ^ (56 + 8):=by rw [Nat.div_eq_of_lt bm,Nat.div_eq_of_lt bn]
 have h56:=dig (e 56 (by simp)) h64
 have h48:=dig (e 48 (by simp)) h56
 have h40:=dig (e 40 (by simp)) h48
 have h32:=dig (e 32 (by simp)) h40
 have h24:=dig (e 24 (by simp)) h32
 have h16:=dig (e 16 (by simp)) h24
 have h8:=dig (e 8 (by simp)) h16
 have h0:=dig (e 0 (by simp)) h8
 rw [Nat.pow_zero,Nat.div_one,Nat.div_one] at h0
 unfold u63 at h0
 have:=hm.1; have:=hn.1
 omega
theorem Zkc : ∀ {s t r r' : List UInt8},s.all okC = true → t.all okC = true → s ++ 0 :: r = t ++ 0 :: r' → s = t ∧ r = r'
 | [],[],r,r',_,_,h=>⟨rfl,(List.cons.inj h).2⟩
 | [],c :: t,r,r',_,h2,h=>by
  have e:=(List.cons.inj h).1
  subst e
  simp [okC] at h2
 | c :: s,[],r,r',h1,_,h=>by
  have e:=(List.cons.inj h).1
  subst e
  simp [okC] at h1
 | c :: s,c' :: t,r,r',h1,h2,h=>by
  have e:=List.cons.inj h
  simp only [List.all_cons,Bool.and_eq_true] at h1 h2
  obtain ⟨rfl,rfl⟩:=Zkc h1.2 h2.2 e.2
  exact ⟨by rw [e.1],rfl⟩
theorem ZdS {x : Val} (h : Zy x = true) : (x.k = 1 ∧ x.s = []) ∨ (x.k = 2 ∧ x.n = 0 ∧ x.s.all okC = true) ∨ (x.k = 3 ∧ x.s = [] ∧ (x.n = 0 ∨ x.n = 1)) ∨ (x.k = 4 ∧ x.s = []):=by
 unfold Zy at h
 by_cases h1 : x.k = 1
 ·simp [h1] at h; exact .inl ⟨h1,h⟩
 ·by_cases h2 : x.k = 2
  ·simp [h2] at h; exact .inr (.inl ⟨h2,h.1.1,by simpa using h.2⟩)
  ·by_cases h3 : x.k = 3
   ·simp [h3] at h; exact .inr (.inr (.inl ⟨h3,h.1,h.2⟩))
   ·by_cases h4 : x.k = 4
    ·simp [h4] at h; exact .inr (.inr (.inr ⟨h4,h.1.1⟩))
    ·simp [h1,h2,h3,h4] at h
theorem ZfF {x y : Val} (h1 : x.k = y.k) (h2 : x.n = y.n) (h3 : x.s = y.s) : x = y:=by cases x; cases y; simp_all
theorem Zqf {x y : Val} {r r' : List UInt8} (hx : Zy x = true) (hy : Zy y = true) (nx : Zv x.n) (ny : Zv y.n) (h : ZaQ x ++ r = ZaQ y ++ r') : x = y ∧ r = r':=by
 unfold ZaQ at h
 rw [List.cons_append,List.cons_append] at h
 obtain ⟨hk,ht⟩:=List.cons.inj h
 have key : x.k = y.k:=by
  rcases ZdS hx with ⟨h1,_⟩ | ⟨h1,_⟩ | ⟨h1,_⟩ | ⟨h1,_⟩ <;> rcases ZdS hy with ⟨h2,_⟩ | ⟨h2,_⟩ | ⟨h2,_⟩ | ⟨h2,_⟩ <;> rw [h1,h2] at hk <;> first | exact h1.trans h2.symm | exact absurd hk (by decide)
 have eight : ∀ n m : Int,Zv n → Zv m → ZdF n ++ r = ZdF m ++ r' → n = m ∧ r = r':=fun n m hn hm e=>by
  obtain ⟨e1,e2⟩:=List.append_inj e (by simp [ZdF])
  exact ⟨Zqe hn hm e1,e2⟩
 rcases ZdS hx with ⟨h1,h3⟩ | ⟨h1,h3,h5⟩ | ⟨h1,h3,h5⟩ | ⟨h1,h3⟩ <;> rcases ZdS hy with ⟨h2,h4⟩ | ⟨h2,h4,h6⟩ | ⟨h2,h4,h6⟩ | ⟨h2,h4⟩ <;> first | (exfalso; omega) | skip
 ·rw [h1,h2] at ht
  obtain ⟨e1,e2⟩:=eight _ _ nx ny (by simpa using ht)
  exact ⟨ZfF key e1 (h3.trans h4.symm),e2⟩
 ·rw [h1,h2] at ht
  obtain ⟨e1,e2⟩:=Zkc h5 h6 (by simpa using ht)
  exact ⟨ZfF key (h3.trans h4.symm) e1,e2⟩
 ·rw [h1,h2] at ht
  simp at ht
  refine ⟨ZfF key ?_ (h3.trans h4.symm),ht.2⟩
  rcases h5 with h5 | h5 <;> rcases h6 with h6 | h6 <;> rw [h5,h6] at ht <;> first | exact h5.trans h6.symm | exact absurd ht.1 (by decide)
 ·rw [h1,h2] at ht
  obtain ⟨e1,e2⟩:=eight _ _ nx ny (by simpa using ht)
  exact ⟨ZfF key e1 (h3.trans h4.symm),e2⟩
theorem Zkd : ∀ {l m : List Val},l.all Zy = true → m.all Zy = true → (∀ x ∈ l,Zv x.n) → (∀ x ∈ m,Zv x.n) → Zak l = Zak m → l = m
 | [],[],_,_,_,_,_=>rfl
 | [],y :: m,_,_,_,_,h=>by simp [Zak,ZaQ] at h
 | x :: l,[],_,_,_,_,h=>by simp [Zak,ZaQ] at h
 | x :: l,y :: m,h1,h2,h3,h4,h=>by
  simp only [List.all_cons,Bool.and_eq_true] at h1 h2
  simp only [Zak,List.flatMap_cons] at h
  obtain ⟨rfl,e⟩:=Zqf h1.1 h2.1 (h3 x (by simp)) (h4 y (by simp)) h
  rw [Zkd h1.2 h2.2 (fun z hz=>h3 z (by simp [hz])) (fun z hz=>h4 z (by simp [hz])) e]
theorem Zqg {l m : List Val} (hl : l.length ≤ 1000) (hm : m.length ≤ 1000) (h1 : l.all Zy = true) (h2 : m.all Zy = true) (h3 : ∀ x ∈ l,Zv x.n) (h4 : ∀ x ∈ m,Zv x.n) (h : Ql l = Ql m) : l = m:=by
 unfold Ql at h
 rw [if_pos ⟨hl,h1⟩,if_pos ⟨hm,h2⟩] at h
 exact Zkd h1 h2 h3 h4 h
end Go.Civ
namespace Go.Civ
open Go.RowKit
set_option linter.unusedVariables false
section
variable {P : Program} {Q : Exit → Env → World → Prop} {ρ : Env} {w : World} {ops : Array Oper} {rest : List Oper} {K : Env → World → Prop}
variable {d : Nat} {ty : TypeId} {pos : String} {af : Array Edge} {g : Option (Nat × Bool)} {G : GH}
end
theorem QW.cast {w : World} {G : GH} {b e : Nat} {cs cs' : List Value} (h : QW w G (some (b,e,cs))) (k : cs = cs') : QW w G (some (b,e,cs')):=k ▸ h
end Go.Civ
namespace Go.Civ
open Go.RowKit
set_option linter.unusedVariables false
def Zab (ns : List (List UInt8)) (l : List Val) (k : Nat) : List Col:=((ns.zip l).take k).map fun p=>⟨p.1,p.2.k⟩
def Qh (ns : List (List UInt8)) (l : List Val) : List Col:=(ns.zip l).map fun p=>⟨p.1,p.2.k⟩
theorem Znf {ns : List (List UInt8)} {l : List Val} {k : Nat} {n : List UInt8} {v : Val} (h1 : ns[k]? = some n) (h2 : l[k]? = some v) : Zab ns l (k + 1) = Zab ns l k ++ [⟨n,v.k⟩]:=by
 unfold Zab
 have e : (ns.zip l)[k]? = some (n,v):=List.getElem?_zip_eq_some.2 ⟨h1,h2⟩
 rw [List.take_add_one,e]; simp
theorem Zox (ns : List (List UInt8)) (l : List Val) (k : Nat) : (Zab ns l k).length ≤ k:=by unfold Zab; rw [List.length_map]; exact List.length_take_le _ _
theorem Zoy {ns : List (List UInt8)} {l : List Val} {k : Nat} (h : ns.length ≤ k) : Zab ns l k = Qh ns l:=by
 unfold Zab Qh; rw [List.take_of_length_le (by rw [List.length_zip]; omega)]
theorem Zng {ns : List (List UInt8)} {l : List Val} (h : ns.length = l.length) : (Qh ns l).length = l.length:=by unfold Qh; rw [List.length_map,List.length_zip]; omega
def ZdK (ns : List (List UInt8)) (l : List Val) : Bool:=decide (ns.length = l.length) && decide (ns.length ≤ 100) && l.all Zy
def Ze4 (d : Nat) (c : Cond) (ns : List (List UInt8)) (l : List Val) : Int:=bif ZdK ns l then XW d c (Qh ns l) else 1
def X7 (d : Nat) (c : Cond) (ns : List (List UInt8)) (l : List Val) : Bool:=bif ZdK ns l then (bif decide (XW d c (Qh ns l) = 0) then YP d c (Qh ns l) l else false) else false
section
variable {d : Nat} {c : Cond} {ns : List (List UInt8)} {l : List Val}
theorem ZdX (h : ns.length ≠ l.length ∨ 100 < ns.length ∨ l.all Zy = false) : X7 d c ns l = false ∧ Ze4 d c ns l = 1:=by
 have : ZdK ns l = false:=by
  unfold ZdK
  rcases h with h | h | h
  ·rw [decide_eq_false h]; rfl
  ·rw [decide_eq_false (by omega : ¬ ns.length ≤ 100)]; simp
  ·rw [h]; simp
 unfold X7 Ze4; rw [this]; exact ⟨rfl,rfl⟩
theorem Zhp (h1 : ns.length = l.length) (h2 : ns.length ≤ 100) (h3 : l.all Zy = true) : ZdK ns l = true:=by unfold ZdK; rw [decide_eq_true h1,decide_eq_true h2,h3]; rfl
theorem ZsG (hg : ZdK ns l = true) (h : XW d c (Qh ns l) ≠ 0) : X7 d c ns l = false ∧ Ze4 d c ns l = XW d c (Qh ns l):=by
 unfold X7 Ze4; rw [hg,decide_eq_false h]; exact ⟨rfl,rfl⟩
theorem Zus (hg : ZdK ns l = true) (h : XW d c (Qh ns l) = 0) : X7 d c ns l = YP d c (Qh ns l) l ∧ Ze4 d c ns l = 0:=by
 unfold X7 Ze4; rw [hg,decide_eq_true h,h]; exact ⟨rfl,rfl⟩
theorem Zk1 {cols : List Col} (hc : cols = Qh ns l) (hg : ZdK ns l = true) (h : XW d c cols ≠ 0) : X7 d c ns l = false ∧ Ze4 d c ns l = XW d c cols:=by subst hc; exact ZsG hg h
theorem ZhW {cols : List Col} (hc : cols = Qh ns l) (hg : ZdK ns l = true) (h : XW d c cols = 0) : X7 d c ns l = YP d c cols l ∧ Ze4 d c ns l = 0:=by subst hc; exact Zus hg h
theorem Znh {cs : List Col} (h : XW d c cs = 0) : Zeo d c ∧ YI d c cs = 0:=by
 unfold XW at h
 by_cases g : Y2 d c 1 ≤ 60
 ·rw [if_pos g] at h; exact ⟨ZlK (by omega) (by omega) g,h⟩
 ·rw [if_neg g] at h; omega
end
theorem ZlS : ∀ {v : List Val} {cs : List Col},v.map Val.k = cs.map Col.kind → Qh (cs.map Col.name) v = cs
 | [],[],_=>rfl
 | [],_ :: _,h=>by simp at h
 | _ :: _,[],h=>by simp at h
 | x :: a,y :: b,h=>by
  simp at h
  have:=ZlS h.2
  unfold Qh at this ⊢
  simp [this,h.1]
section
variable {d : Nat} {c : Cond} {cs : List Col} {l : List Fact} {k : Nat} {f : Fact}
end
section
variable {d : Nat} {c : Cond} {cs : List Col} {l : List Fact}
end
end Go.Civ
namespace Go.Civ
set_option linter.unusedVariables false
end Go.Civ
namespace Go.Civ
set_option linter.unusedVariables false
section
variable {l : List Fact} {ps : List Int} {k j : Nat} {f : Fact} {i : Int}
end
end Go.Civ
namespace Go.Civ
open Go.RowKit Go.Maps
set_option linter.unusedVariables false
structure Apart (w0 : World) (G : GH) (L : Own) (b : Nat) : Prop where
 new : w0.heap.size ≤ b
 gh : G b = none
 own : ∀ (i : Nat) p,L[i]? = some (some p) → p.1 ≠ b
section
variable {P : Program} {N : Nat} {Q : Exit → Env → World → Prop} {ρ : Env} {w w0 : World} {ops : Array Oper} {rest : List Oper} {K KK : Env → World → Prop} {d : Nat} {ty : TypeId} {pos : String} {af : Array Edge} {g : Option (Nat × Bool)}
variable {X : List Nat} {G0 G : GH} {L : Own} {b : Nat}
theorem ZhY {H : Type} {R : Value → Option (DataW H × List MemPlace)} {kt t e : TypeId} {n : Nat} {D : DataW H} (h : w.ownsMap P kt R b n D) (K : Keyed P kt) (ht : P.underlying t = some (.map kt e)) (hn : n < maxLen) {key val : Value} {kl : Lit} {dd : DataW H} {ps : List MemPlace}
  (hkey : keyOf P kt key = some kl) (hv : R val = some (dd,ps)) : ∃ w',(Instr.mapUpdate t (.map (some b)) key val).run P w = .ok () w' ∧ w'.ownsMap P kt R b (n + 1) (D.put kl dd) ∧ w.grownBy w' (some b) ∧ w.drawn ≤ w'.drawn:=by
 obtain ⟨w',h1,h2,h3⟩:=World.ownsMap.update h K ht hn hkey hv
 obtain ⟨es,clock,hb,F,hs,rfl⟩:=h
 obtain ⟨es',clock',hrun,_⟩:=Maps.fit_store (R':=R) K ht hb F (Nat.lt_of_le_of_lt hs hn) (fun _ _ _ _ hz=>hz) hkey hv
 refine ⟨w',h1,h2,h3,?_⟩
 rw [hrun] at h1
 injection h1 with _ e
 subst e
 exact Nat.le_refl _
theorem St.grown (h : St w0 X G0 G L w) (ha : Apart w0 G L b) {w' : World} (hg : w.grownBy w' (some b)) (hd : w.drawn ≤ w'.drawn) : St w0 X G0 G L w':=by
 have QL : ∀ k,k < w.heap.size → k ≠ b → w'.heap[k]? = w.heap[k]? :=fun k hk hne=>hg.block k hk (fun e=>hne (Option.some.inj e))
 refine ⟨⟨hg.os.trans h.kept.os,hg.tape.trans h.kept.tape,hg.output.trans h.kept.output,Nat.le_trans h.kept.drawn hd,Nat.le_trans h.kept.size hg.size,fun k hk hX=>?_⟩,h.le,h.new,fun k o hk=>?_,fun i p hp=>?_,h.sep,h.nd⟩
 ·rw [QL k (Nat.lt_of_lt_of_le hk h.kept.size) (by have:=ha.new; omega)]; exact h.kept.block k hk hX
 ·have hne : k ≠ b:=fun e=>by subst e; rw [ha.gh] at hk; cases hk
  rw [QL k (h.imm.lt hk) hne]; exact h.imm k o hk
 ·rw [QL p.1 (h.ownLt hp) (ha.own i p hp)]; exact h.own i p hp
abbrev Zw8 (P : Program) (K E : TypeId) (w : World) (b n : Nat) (D : DataW Unit) : Prop:=w.ownsMap P K (plainElem P E) b n D
theorem Zlz {t : TypeId} (K E : TypeId) (hS : St w0 X G0 G L w) (hw : Region.wanted ⟨some d, .makeMap t none,ty,pos,af,g⟩ (Zp ops ρ) = true)
  (k : ∀ b w',Zw8 P K E w' b 0 (.map []) → Apart w0 G L b → St w0 X G0 G L w' → KK (ZE ρ d (.map (some b))) w') : OW P ops ⟨some d, .makeMap t none,ty,pos,af,g⟩ ρ w KK:=by
 refine WL.val (v:= .map (some w.heap.size)) (w':=w.alloc (.map #[] 0)) hw ?_ rfl (k _ _ (World.ownsMap_made w P K _) ⟨h1,hS.imm.fresh (Nat.le_refl _),fun i p hp e=>?_⟩ ?_)
 ·simp [execOp,run_makeMap,Result.andThen]
 ·have:=hS.ownLt hp; omega
 ·exact hS.call (Res.alloc hS.imm _)
where h1:=hS.kept.size
end
end Go.Civ
namespace Go.Proofs
open Go.Shelf
def Tryz.laysCompact_ren : Go.Shelf.Ren:=⟨fun | 20=>146 | n=>n,fun | 22=>113 | 3=>3 | 4=>4 | 0=>0 | n=>n,fun | n=>n⟩
theorem Tryz.laysCompact : Go.Proofs.Lays2.n20 Tryz.prog Tryz.laysCompact_ren:={
 mixed:=by kernel_rfl
 f20:=Tryz.func146.trans (congrArg some (by kernel_rfl))
 t0:=Tryz.underlying0
 a0:=Tryz.isAgg0
 z0:=Tryz.sizeOf0
 v0:=Tryz.zeroValue0
 t3:=Tryz.underlying3
 a3:=Tryz.isAgg3
 z3:=Tryz.sizeOf3
 v3:=Tryz.zeroValue3
 t4:=Tryz.underlying4
 a4:=Tryz.isAgg4
 z4:=Tryz.sizeOf4
 v4:=Tryz.zeroValue4
 t22:=Tryz.underlying113
 a22:=Tryz.isAgg113
 z22:=Tryz.sizeOf113
 v22:=Tryz.zeroValue113
 i3:=by kernel_rfl }
end Go.Proofs
