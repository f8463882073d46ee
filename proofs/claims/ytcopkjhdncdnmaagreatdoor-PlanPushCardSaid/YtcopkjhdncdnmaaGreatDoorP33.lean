/- Lemmas. -/
import Derived.Test.YtcopkjhdncdnmaaGreatDoorP32
set_option linter.unusedSimpArgs false
namespace Go.Civ
open Go.RowKit
set_option linter.unusedVariables false
theorem ZiA {f g : Cond → Int} : ∀ {l : List Cond} {n : Int},(∀ x ∈ l,f x = g x) → Y6 f l n = Y6 g l n
 | [],_,_=>rfl
 | x :: l,n,h=>by rw [Y6,Y6,h x List.mem_cons_self,ZiA fun y hy=>h y (List.mem_cons_of_mem _ hy)]
theorem Zfx : ∀ {n m : Nat} {c : Cond} {dep : Int},Xn c n → Xn c m → Ya n c dep = Ya m c dep
 | 0,_,c,_,h,_=>(XC h).elim
 | _ + 1,0,c,_,_,h=>(XC h).elim
 | n + 1,m + 1,c,dep,h,k=>by
  rw [Ya,Ya,ZiA fun x hx=>Zfx (dep:=dep + 1) (YR h hx) (YR k hx)]
theorem ZiB {f g : Cond → Int} : ∀ {l : List Cond},(∀ x ∈ l,f x = g x) → Qb f l = Qb g l
 | [],_=>rfl
 | x :: l,h=>by rw [Qb,Qb,h x List.mem_cons_self,ZiB fun y hy=>h y (List.mem_cons_of_mem _ hy)]
theorem ZhI : ∀ {n m : Nat} {c : Cond} {l : List Col},Xn c n → Xn c m → Xa n c l = Xa m c l
 | 0,_,c,_,h,_=>(XC h).elim
 | _ + 1,0,c,_,_,h=>(XC h).elim
 | n + 1,m + 1,c,l,h,k=>by rw [Xa,Xa,ZiB fun x hx=>ZhI (YR h hx) (YR k hx)]
theorem ZoP {n m : Nat} {c : Cond} {l : List Col} (h : Xn c n) (k : Xn c m) : Xq n c l = Xq m c l:=by unfold Xq; rw [Zfx h k,ZhI h k]
theorem Zlw : ∀ {n m : Nat} {c : Cond},Xn c n → Xn c m → Qc n c = Qc m c
 | 0,_,c,h,_=>(XC h).elim
 | _ + 1,0,c,_,h=>(XC h).elim
 | n + 1,m + 1,c,h,k=>by rw [Qc,Qc,ZjT fun x hx=>Zlw (YR h hx) (YR k hx)]
theorem ZoQ {n m : Nat} {c : Cond} (h : Xn c n) (k : Xn c m) : ZaW n c = ZaW m c:=by unfold ZaW; rw [Zfx h k,Zlw h k]
theorem ZoR {n m : Nat} {q : Query} (h : Xn q.cond n) (k : Xn q.cond m) : Xc n q = Xc m q:=by unfold Xc; rw [ZoQ h k]
theorem Zlx {f g : Query → Int} : ∀ {l : List Query} {n : Int},(∀ x ∈ l,f x = g x) → Xg f l n = Xg g l n
 | [],_,_=>rfl
 | x :: l,n,h=>by rw [Xg,Xg,h x List.mem_cons_self,Zlx fun y hy=>h y (List.mem_cons_of_mem _ hy)]
theorem Zky : ∀ {n m : Nat} {q : Query} {dep : Int},Xx q n → Xx q m → Y8 n q dep = Y8 m q dep
 | 0,_,q,_,h,_=>(Q9 h).elim
 | _ + 1,0,q,_,_,h=>(Q9 h).elim
 | n + 1,m + 1,q,dep,h,k=>by
  rw [Y8,Y8,ZoR (Zbs h) (Zbs k),Zlx fun x hx=>Zky (dep:=dep + 1) (Yp h hx) (Yp k hx)]
theorem Zkz {n m : Nat} {q : Query} (h : Xx q n) (k : Xx q m) : Qp n q = Qp m q:=by unfold Qp; rw [Zky h k]
theorem ZiC {n m : Nat} {q : Query} {S : List Schema} {ins : List (List Col)} (h : Xn q.cond n) (k : Xn q.cond m) : YM n q S ins = YM m q S ins:=by unfold YM; rw [ZoP h k]
theorem Zfy : ∀ {n m : Nat} {q : Query} {S : List Schema},Xx q n → Xx q m → Y5 n q S = Y5 m q S
 | 0,_,q,_,h,_=>(Q9 h).elim
 | _ + 1,0,q,_,_,h=>(Q9 h).elim
 | n + 1,m + 1,q,S,h,k=>by
  have e : ∀ x ∈ q.l,Y5 n x S = Y5 m x S:=fun x hx=>Zfy (Yp h hx) (Yp k hx)
  have e1 : (q.l.all fun x=>decide ((Y5 n x S).2 = 0)) = q.l.all fun x=>decide ((Y5 m x S).2 = 0):=by
   rw [Bool.eq_iff_iff,List.all_eq_true,List.all_eq_true]
   exact ⟨fun h x hx=>by rw [← e x hx]; exact h x hx,fun h x hx=>by rw [e x hx]; exact h x hx⟩
  have e2 : (q.l.map fun x=>(Y5 n x S).1) = q.l.map fun x=>(Y5 m x S).1:=List.map_congr_left fun x hx=>by rw [e x hx]
  have e3 : ∀ l : List Query,(∀ x ∈ l,Y5 n x S = Y5 m x S) → ((l.find? fun x=>!decide ((Y5 n x S).2 = 0)).map fun x=>(Y5 n x S).2) = ((l.find? fun x=>!decide ((Y5 m x S).2 = 0)).map fun x=>(Y5 m x S).2):=by
   intro l
   induction l with
   | nil=>intro _; rfl
   | cons x l ih=>
    intro hl
    have hx:=hl x List.mem_cons_self
    have:=ih fun y hy=>hl y (List.mem_cons_of_mem _ hy)
    rw [List.find?_cons,List.find?_cons,hx]
    split
    ·simp [hx]
    ·exact this
  rw [Y5,Y5,e1,e2,e3 _ e,ZiC (Zbs h) (Zbs k)]
theorem ZoS {n m : Nat} {q : Query} {S : List Schema} (h : Xx q n) (k : Xx q m) : ZP n q S = ZP m q S:=by unfold ZP; rw [Zkz h k,Zfy h k]
noncomputable abbrev ZdO (c : Cond) (l : List Col) : Int:=Xq (Yu c) c l
noncomputable def cT (S : List Schema) (q : Query) : List Col × Int:=Y5 (Yc q) q S
noncomputable def kT (S : List Schema) (q : Query) (ins : List (List Col)) : List Col × Int:=YM (Yu q.cond) q S ins
section
variable {q x y z nd x' y' z' : Query} {S : List Schema} {ins ins' : List (List Col)}
theorem Zp7 (q : Query) : ∃ n,Yc q = n + 1:=by
 cases e : Yc q with
 | zero=>exact (Q9 (q:=q) (Nat.le_of_eq e)).elim
 | succ n=>exact ⟨n,rfl⟩
theorem ZdA (h : ∀ x ∈ q.l,(cT S x).2 = 0) : cT S q = kT S q (q.l.map fun x=>(cT S x).1):=by
 obtain ⟨n,hn⟩:=Zp7 q
 have hq : Xx q (n + 1):=Nat.le_of_eq hn
 have e : ∀ x ∈ q.l,Y5 n x S = cT S x:=fun x hx=>Zfy (Yp hq hx) (YU x)
 unfold cT kT
 rw [hn,ZhX (k:=q.l.length) (fun j _ x hx=>by rw [e x (List.mem_of_getElem? hx)]; exact h x (List.mem_of_getElem? hx)) (Nat.le_refl _),ZiC (Zbs hq) (Qn _)]
 congr 1
 exact List.map_congr_left fun x hx=>by rw [e x hx]; rfl
theorem XA (h : (cT S q).2 = 0) (hx : x ∈ q.l) : (cT S x).2 = 0:=by
 obtain ⟨n,hn⟩:=Zp7 q
 have hq : Xx q (n + 1):=Nat.le_of_eq hn
 have e : ∀ x ∈ q.l,Y5 n x S = cT S x:=fun x hx=>Zfy (Yp hq hx) (YU x)
 unfold cT at h
 rw [hn,Y5] at h
 by_cases c : (q.l.all fun x=>decide ((Y5 n x S).2 = 0)) = true
 ·rw [← e x hx]; exact of_decide_eq_true (List.all_eq_true.1 c x hx)
 ·rw [if_neg c] at h
  cases f : q.l.find? fun x=>!decide ((Y5 n x S).2 = 0) with
  | none=>
   rw [List.find?_eq_none] at f
   have:=f x hx
   rw [← e x hx]; simpa using this
  | some w=>
   rw [f] at h
   have:=List.find?_some f
   simp at this h
   exact absurd h this
theorem Zt1 (hk : ¬ q.kind = 5 ∧ ¬ q.kind = 6 ∧ ¬ q.kind = 7 ∧ ¬ q.kind = 10) (h : ins[0]? = ins'[0]?) : kT S q ins = kT S q ins':=by
 unfold kT YM
 rw [if_neg hk.1,if_neg hk.1,if_neg (show ¬ (q.kind = 6 ∨ q.kind = 7) by omega),if_neg (show ¬ (q.kind = 6 ∨ q.kind = 7) by omega),if_neg hk.2.2.2,if_neg hk.2.2.2,h]
theorem Zt2 (h : ins[0]? = ins'[0]?) (h1 : ins[1]? = ins'[1]?) : kT S q ins = kT S q ins':=by
 unfold kT YM
 rw [h,h1]
theorem Zmt (h : (cT S y).2 = 0) : cT S (Zk q [y]) = kT S q [(cT S y).1]:=
 ZdA (q:=Zk q [y]) fun x hx=>by rw [List.mem_singleton.1 hx]; exact h
theorem Zt3 (h : (cT S y).2 = 0) (h2 : (cT S z).2 = 0) : cT S (Zk q [y,z]) = kT S q [(cT S y).1,(cT S z).1]:=
 ZdA (q:=Zk q [y,z]) fun x hx=>by
  rcases List.mem_cons.1 hx with rfl | hx
  ·exact h
  ·rw [List.mem_singleton.1 hx]; exact h2
theorem Qy {k : Nat} (h : x.l[k]? = some y) : (x.l.map fun x=>(cT S x).1)[k]? = some (cT S y).1:=by simp [h]
theorem Zjf (hk : ¬ x.kind = 5 ∧ ¬ x.kind = 6 ∧ ¬ x.kind = 7 ∧ ¬ x.kind = 10) (h0 : (cT S x).2 = 0) (hy : x.l[0]? = some y) (e : cT S y' = cT S y) : cT S (Zk x [y']) = cT S x:=by
 have hm:=fun z hz=>XA (x:=z) h0 hz
 rw [ZdA (q:=x) hm,Zmt (by rw [e]; exact hm y (List.mem_of_getElem? hy)),e]
 exact Zt1 hk (Qy hy).symm
theorem Zjg (h0 : (cT S x).2 = 0) (hy : x.l[0]? = some y) (hz : x.l[1]? = some z) (e : cT S y' = cT S y) (e2 : cT S z' = cT S z) : cT S (Zk x [y',z']) = cT S x:=by
 have hm:=fun z hz=>XA (x:=z) h0 hz
 rw [ZdA (q:=x) hm,Zt3 (by rw [e]; exact hm y (List.mem_of_getElem? hy)) (by rw [e2]; exact hm z (List.mem_of_getElem? hz)),e,e2]
 exact Zt2 (Qy hy).symm (Qy hz).symm
theorem ZhJ {p : List Col × Int} (h : p.2 = 0) : (p.1,(0 : Int)) = p:=by cases p; simp at h; rw [h]
theorem Zmu (hk : q.kind = 8) {a : List Col} (h : ins[0]? = some a) : kT S q ins = (a,0):=by
 have:=Zkj (n:=Yu q.cond) (l:=S) (q:=q) (by omega) (by omega) (by omega) (by omega) (by omega) (by omega) (by omega) (by omega) (by omega) h
 exact Prod.ext this.1.symm this.2.symm
theorem ZrH (hk : q.kind = 2) {a : List Col} (h : ins[0]? = some a) (h2 : ZdO q.cond a = 0) : kT S q ins = (a,0):=by
 have:=Zh5 (l:=S) hk h h2
 exact Prod.ext this.1.symm this.2.symm
theorem Zgr (hnd : nd.kind = 8) : ∀ {x : Query},GdQ x → (cT S x).2 = 0 → cT S (Zt nd x) = cT S x
 | _, .mk x h1 h2 h3,h0=>by
  have top : cT S (Zk nd [x]) = cT S x:=by rw [Zmt h0,Zmu hnd rfl,ZhJ h0]
  by_cases c1 : x.kind = 2 ∨ x.kind = 3 ∨ x.kind = 4 ∨ x.kind = 9
  ·obtain ⟨y,hy⟩:=Xw (l:=x.l) (k:=0) (h2.1 (by omega))
   rw [← ZdN c1 hy]
   exact Zjf (by omega) h0 hy (Zgr hnd (h3 y (List.mem_of_getElem? hy)) (XA h0 (List.mem_of_getElem? hy)))
  by_cases c2 : x.kind = 5 ∨ x.kind = 6 ∨ x.kind = 7
  ·have hl:=h2.2 (by omega)
   obtain ⟨y,hy⟩:=Xw (l:=x.l) (k:=0) (by omega)
   obtain ⟨z,hz⟩:=Xw (l:=x.l) (k:=1) (by omega)
   rw [← ZfP c2 hy hz]
   exact Zjg h0 hy hz (Zgr hnd (h3 y (List.mem_of_getElem? hy)) (XA h0 (List.mem_of_getElem? hy))) (Zgr hnd (h3 z (List.mem_of_getElem? hz)) (XA h0 (List.mem_of_getElem? hz)))
  by_cases c3 : x.kind = 8
  ·cases c4 : (ZR nd.span x.span).2 with
   | false=>rw [← Zmk c3 c4]; exact top
   | true=>
    obtain ⟨y,hy⟩:=Xw (l:=x.l) (k:=0) (h2.1 (by omega))
    have hy0:=XA h0 (List.mem_of_getElem? hy)
    rw [← Zmj c3 c4 hy,Zmt hy0,Zmu (q:=⟨nd.kind,nd.table,nd.cols,nd.names,nd.cond,nd.rel,nd.fn,(ZR nd.span x.span).1,nd.l⟩) hnd rfl,ZdA (q:=x) fun z hz=>XA h0 hz,Zmu c3 (Qy hy)]
  rw [← Zkn (by omega) (by omega) (by omega) (by omega) (by omega) (by omega) (by omega) c3]
  exact top
end
end Go.Civ
namespace Go.Civ
open Go.RowKit
set_option linter.unusedVariables false
def Qz (f : Str → Str) : Nat → Cond → Cond
 | 0,c=>c
 | n + 1,c=>⟨c.kind,f c.col,f c.oth,c.v,c.l.map (Qz f n)⟩
theorem Zk4 {q : Query} : ∀ {n : Nat} {c : Cond},Zz n c q = Qz (bkS q) n c
 | 0,c=>rfl
 | n + 1,c=>by rw [Zz,Qz]; congr 1; exact List.map_congr_left fun x _=>Zk4
theorem map_id : ∀ {n : Nat} {c : Cond},Xn c n → Qz (fun s=>s) n c = c
 | 0,c,h=>(XC h).elim
 | n + 1,c,h=>by
  rw [Qz,show c.l.map (Qz (fun s=>s) n) = c.l from (List.map_congr_left fun x hx=>map_id (YR h hx)).trans (List.map_id _)]
  exact Zlq c
section
variable {f : Str → Str} {a b : List Col} {c : Cond} {n m k : Nat}
theorem ZiD (hf0 : f [] = []) (hf : ∀ s,s ≠ [] → f s ≠ []) : ∀ {n m k : Nat} {c : Cond} {dep : Int},Xn c n → Xn (Qz f n c) m → Xn c k → Ya m (Qz f n c) dep = Ya k c dep
 | 0,_,_,c,_,h,_,_=>(XC h).elim
 | _ + 1,0,_,c,_,_,h,_=>(XC h).elim
 | _ + 1,_ + 1,0,c,_,_,_,h=>(XC h).elim
 | n + 1,m + 1,k + 1,c,dep,h1,h2,h3=>by
  have e : ∀ s,decide (f s = []) = decide (s = []):=fun s=>by
   by_cases h : s = []
   ·rw [h,hf0]
   ·rw [decide_eq_false h,decide_eq_false (hf s h)]
  have hp : Z2 (Qz f (n + 1) c) = Z2 c:=by
   unfold Z2 ZQ Yn
   rw [Qz]
   simp only [e,List.length_map]
  have hk : ∀ x ∈ c.l,Ya m (Qz f n x) (dep + 1) = Ya k x (dep + 1):=fun x hx=>
   ZiD hf0 hf (YR h1 hx) (YR h2 (by rw [Qz]; exact List.mem_map_of_mem hx)) (YR h3 hx)
  have hl : ∀ (l : List Cond) (i : Int),(∀ x ∈ l,x ∈ c.l) → Y6 (fun x=>Ya m x (dep + 1)) (l.map (Qz f n)) i = Y6 (fun x=>Ya k x (dep + 1)) l i:=by
   intro l
   induction l with
   | nil=>intro i _; rfl
   | cons x l ih=>
    intro i hs
    rw [List.map_cons,Y6,Y6,hk x (hs x List.mem_cons_self),ih _ fun y hy=>hs y (List.mem_cons_of_mem _ hy)]
  rw [Ya,Ya,hp,show (Qz f (n + 1) c).l = c.l.map (Qz f n) by rw [Qz],hl c.l 1 fun x hx=>hx]
def ZdP (f : Str → Str) (a b : List Col) (l : List Str) : Prop:=∀ s ∈ l,s ≠ [] → 0 ≤ Zx a s → 0 ≤ Zx b (f s) ∧ ZcR b (Zx b (f s)) = ZcR a (Zx a s)
theorem ZsF {x : Cond} {s : Str} (hx : x ∈ c.l) (hs : s ∈ Yy n x) : s ∈ Yy (n + 1) c:=by
 rw [Yy]; exact List.mem_append_right _ (List.mem_flatten.2 ⟨_,List.mem_map_of_mem hx,hs⟩)
theorem ZsG (h : c.col ≠ []) : c.col ∈ Yy (n + 1) c:=by rw [Yy,X8,if_neg h]; simp
theorem ZsH (h : c.oth ≠ []) : c.oth ∈ Yy (n + 1) c:=by rw [Yy,X8,if_neg h]; simp
theorem ZoY {l : List Cond} (hf0 : f [] = []) (hf : ∀ s,s ≠ [] → f s ≠ []) (hp : Z2 c = true) (hs : ZdP f a b (Yy (n + 1) c)) (h : Qr c a = 0) : Qr ⟨c.kind,f c.col,f c.oth,c.v,l⟩ b = 0:=by
 unfold Qr ZQ at h ⊢
 cases hc : (decide (c.kind = 1) || decide (c.kind = 2)) with
 | false=>simp only [hc]; rfl
 | true=>
  have hcol : c.col ≠ []:=by
   unfold Z2 ZQ at hp
   rw [hc] at hp
   simp only [cond_true,Bool.and_eq_true,Bool.not_eq_true',decide_eq_false_iff_not] at hp
   exact hp.1.1
  simp only [hc,Bool.not_true,cond_false] at h ⊢
  by_cases g1 : Zx a c.col < 0
  ·rw [if_pos g1] at h; omega
  rw [if_neg g1] at h
  have s1:=hs _ (ZsG hcol) hcol (by omega)
  rw [if_neg (by omega),s1.2]
  by_cases g2 : c.oth = []
  ·rw [g2] at h
   rw [g2,hf0]
   simp only [decide_true,Bool.not_true,Bool.false_and,cond_false,cond_true] at h ⊢
   exact h
  ·have g3:=hf _ g2
   rw [decide_eq_false g2] at h
   rw [decide_eq_false g3]
   simp only [Bool.not_false,Bool.true_and,cond_false] at h ⊢
   cases g4 : decide (Zx a c.oth < 0) with
   | true=>rw [g4] at h; simp only [cond_true] at h; omega
   | false=>
    have s2:=hs _ (ZsH g2) g2 (by have:=of_decide_eq_false g4; omega)
    rw [g4] at h
    rw [decide_eq_false (show ¬ Zx b (f c.oth) < 0 by omega),s2.2]
    exact h
theorem Zl1 {g : Cond → Int} : ∀ {l : List Cond},(∀ x ∈ l,g x = 0) → Qb g l = 0
 | [],_=>rfl
 | x :: l,h=>by rw [Qb,if_neg (by rw [h x List.mem_cons_self]; simp)]; exact Zl1 fun y hy=>h y (List.mem_cons_of_mem _ hy)
theorem Zl2 {g : Cond → Int} : ∀ {l : List Cond},Qb g l = 0 → ∀ x ∈ l,g x = 0
 | [],_,_,h=>by cases h
 | x :: l,h,y,hy=>by
  rw [Qb] at h
  by_cases e : g x = 0
  ·rw [if_neg (fun h=>h e)] at h
   rcases List.mem_cons.1 hy with rfl | hy
   ·exact e
   ·exact Zl2 h y hy
  ·rw [if_pos e] at h; exact absurd h e
theorem ZiE (hf0 : f [] = []) (hf : ∀ s,s ≠ [] → f s ≠ []) : ∀ {n m k : Nat} {c : Cond},Xn c n → Xn (Qz f n c) m → Xn c k → ZiO k c → ZdP f a b (Yy k c) → Xa k c a = 0 → Xa m (Qz f n c) b = 0
 | 0,_,_,c,h,_,_,_,_,_=>(XC h).elim
 | _ + 1,0,_,c,_,h,_,_,_,_=>(XC h).elim
 | _ + 1,_ + 1,0,c,_,_,h,_,_,_=>(XC h).elim
 | n + 1,m + 1,k + 1,c,h1,h2,h3,hw,hs,h=>by
  rw [Xa] at h
  by_cases g1 : Qr c a = 0
  ·rw [if_neg (fun e=>e g1)] at h
   have t1:=ZoY (l:=c.l.map (Qz f n)) hf0 hf hw.1 hs g1
   rw [Xa,show Qz f (n + 1) c = ⟨c.kind,f c.col,f c.oth,c.v,c.l.map (Qz f n)⟩ by rw [Qz],if_neg (fun e=>e t1)]
   refine Zl1 fun x hx=>?_
   obtain ⟨y,hy,rfl⟩:=List.mem_map.1 hx
   exact ZiE hf0 hf (YR h1 hy) (YR h2 (by rw [Qz]; exact hx)) (YR h3 hy) (hw.2 y hy) (fun s h=>hs s (ZsF hy h)) (Zl2 h y hy)
  ·rw [if_pos g1] at h; exact absurd h g1
theorem Zl3 (hf0 : f [] = []) (hf : ∀ s,s ≠ [] → f s ≠ []) (hs : ZdP f a b (Zfv c)) (h : ZdO c a = 0) : ZdO (Qz f (Yu c) c) b = 0:=by
 unfold ZdO Xq at h ⊢
 rw [ZiD hf0 hf (Qn c) (Qn _) (Qn c)]
 by_cases g : Ya (Yu c) c 1 ≤ 60
 ·rw [if_pos g] at h ⊢
  exact ZiE hf0 hf (Qn c) (Qn _) (Qn c) (ZhP (by decide) (by decide) g) hs h
 ·rw [if_neg g] at h; omega
theorem ZdQ (hs : ZdP (fun s=>s) a b (Zfv c)) (h : ZdO c a = 0) : ZdO c b = 0:=by
 have:=Zl3 (f:=fun s=>s) rfl (fun s h=>h) hs h
 rwa [map_id (Qn c)] at this
end
section
variable {ins : List (List Col)} {a b l : List Col} {s t : Str} {ns ss : List Str} {x : Col} {i j : Nat} {q nd y z : Query} {c : Cond} {S : List Schema}
theorem ZeE : ZcR l (Zx l s) = (Xv l s).kind:=by unfold ZcR Xv; cases l[(Zx l s).toNat]? <;> rfl
theorem Zqz (h : ND l) {x y : Col} (hx : x ∈ l) (hy : y ∈ l) (e : x.name = y.name) : x = y:=by
 unfold ND at h
 obtain ⟨i,hi⟩:=List.getElem?_of_mem hx
 obtain ⟨j,hj⟩:=List.getElem?_of_mem hy
 obtain ⟨hi1,rfl⟩:=List.getElem?_eq_some_iff.1 hi
 obtain ⟨hj1,rfl⟩:=List.getElem?_eq_some_iff.1 hj
 rw [List.pairwise_iff_getElem] at h
 rcases Nat.lt_trichotomy i j with g | g | g
 ·exact absurd e (h i j hi1 hj1 g)
 ·subst g; rfl
 ·exact absurd e.symm (h j i hj1 hi1 g)
theorem Zbm (h : ND l) (hx : x ∈ l) (e : x.name = s) : Xv l s = x:=by
 have h1:=ZaM hx e
 have h2:=XE h1
 exact Zqz h h2.2 hx (h2.1.trans e.symm)
theorem ZeT (h : ∀ s ∈ ns,s ≠ [] → 0 ≤ Zx a s → 0 ≤ Zx b s ∧ (Xv b s).kind = (Xv a s).kind) : ZdP (fun s=>s) a b ns:=fun s hs h0 hp=>by
 rw [ZeE,ZeE]; exact h s hs h0 hp
theorem Zl4 (h : 0 ≤ YT ns s) : s ∈ ns ∧ ns[(YT ns s).toNat]? = some s:=by
 have : YT ns s ≠ -1:=by omega
 obtain ⟨m,hm,y,hy,hp,_⟩:=Zia (show YP (fun x=>decide (x = s)) ns ≠ -1 from this)
 have hm2 : YT ns s = (m : Int):=hm
 have:=of_decide_eq_true hp
 subst this
 rw [hm2]; exact ⟨List.mem_of_getElem? hy,hy⟩
theorem Zgt (h : Za0 c ns = true) : ∀ s ∈ Zfv c,s ∈ ns:=fun s hs=>(Zl4 (of_decide_eq_true (List.all_eq_true.1 h s hs))).1
theorem Zij (h : s ∈ ZbP S y) : ∃ x ∈ (cT S y).1,x.name = s:=by
 unfold ZbP ZP at h
 split at h
 ·split at h
  ·obtain ⟨x,hx,e⟩:=List.mem_map.1 h; exact ⟨x,hx,e⟩
  ·simp at h
 ·simp at h
theorem ZoZ (hs : Xk a ss = true) : ZdP (fun s=>s) (ss.map (Xv a)) a ns:=ZeT fun s _ _ hp=>by
 have h:=XE hp
 obtain ⟨t,ht,e⟩:=List.mem_map.1 h.2
 have h2:=XE (of_decide_eq_true (List.all_eq_true.1 hs t ht))
 have : t = s:=by rw [← h2.1,e]; exact h.1
 subst this
 exact ⟨of_decide_eq_true (List.all_eq_true.1 hs t ht),by rw [← e]⟩
theorem Zpa (hs : Xk a ss = true) (hd : ND (ss.map (Xv a) ++ [x])) (hn : ∀ s ∈ ns,s ∈ ss) : ZdP (fun s=>s) (ss.map (Xv a) ++ [x]) a ns:=ZeT fun s h1 _ hp=>by
 have h0:=of_decide_eq_true (List.all_eq_true.1 hs s (hn s h1))
 have h2:=XE h0
 refine ⟨h0,?_⟩
 rw [Zbm hd (List.mem_append_left _ (List.mem_map_of_mem (hn s h1))) h2.1]
theorem ZrO (hd : ND (a ++ b)) (hn : ∀ s ∈ ns,∃ x ∈ a,x.name = s) : ZdP (fun s=>s) (a ++ b) a ns:=ZeT fun s h1 _ hp=>by
 obtain ⟨x,hx,e⟩:=hn s h1
 refine ⟨ZaM hx e,?_⟩
 have hf:=XE (ZaM hx e)
 rw [Zbm hd (List.mem_append_left _ hf.2) hf.1]
theorem ZrP (hd : ND (a ++ b)) (hn : ∀ s ∈ ns,∃ x ∈ b,x.name = s) : ZdP (fun s=>s) (a ++ b) b ns:=ZeT fun s h1 _ hp=>by
 obtain ⟨x,hx,e⟩:=hn s h1
 refine ⟨ZaM hx e,?_⟩
 have hf:=XE (ZaM hx e)
 rw [Zbm hd (List.mem_append_right _ hf.2) hf.1]
theorem ZrQ (hd : ND (a ++ ZaY a b)) (hj : b.all (jnB a) = true) (hn : ∀ s ∈ ns,∃ x ∈ b,x.name = s) : ZdP (fun s=>s) (a ++ ZaY a b) b ns:=ZeT fun s h1 _ hp=>by
 obtain ⟨x,hx,e⟩:=hn s h1
 refine ⟨ZaM hx e,?_⟩
 have hf:=XE (ZaM hx e)
 have h3:=List.all_eq_true.1 hj _ hf.2
 by_cases g : Zx a s < 0
 ·rw [Zbm hd (List.mem_append_right _ (List.mem_filter.2 ⟨hf.2,by rw [hf.1]; exact decide_eq_true g⟩)) hf.1]
 ·have ha:=XE (show 0 ≤ Zx a s by omega)
  rw [Zbm hd (List.mem_append_left _ ha.2) ha.1]
  unfold jnB at h3
  rw [hf.1,decide_eq_false g,Bool.false_or] at h3
  exact (of_decide_eq_true h3).symm ▸ rfl
theorem Zk5 {o : List Col} {nm : Str} {c : Col} (h : o[i]? = some c) (hne : i ≠ j) : (ZdK o j nm)[i]? = some c:=by
 unfold ZdK
 split
 ·rw [List.getElem?_set_ne (Ne.symm hne)]; exact h
 ·exact h
theorem ZnU {o : List Col} {nm : Str} {c : Col} (h : o[i]? = some c) : (ZdK o i nm)[i]? = some ⟨nm,c.kind⟩:=by
 unfold ZdK; rw [h]
 simp only
 rw [List.getElem?_set_self (List.getElem?_eq_some_iff.1 h).1]
theorem ZfU : ∀ {ss ns : List Str} {o : List Col} {c : Col},o[i]? = some c → (∀ t ∈ ss,i ≠ (Zx a t).toNat) → (Xt a ss ns o)[i]? = some c
 | s :: ss,n :: ns,o,c,h,hm=>by rw [Xt]; exact ZfU (Zk5 h (hm s List.mem_cons_self)) fun t ht=>hm t (List.mem_cons_of_mem _ ht)
 | [],_,_,_,h,_=>h
 | _ :: _,[],_,_,h,_=>h
theorem Zk6 (h1 : 0 ≤ Zx a s) (h2 : 0 ≤ Zx a t) (e : (Zx a s).toNat = (Zx a t).toNat) : s = t:=by
 have e1:=(XE h1).1
 have e2:=(XE h2).1
 unfold Xv at e1 e2
 rw [e] at e1
 exact e1.symm.trans e2
theorem ZgV : ∀ {ss ns : List Str} {o : List Col} {c : Col} {j : Nat} {t n : Str},(ss.Pairwise fun x y=>¬ x = y) → (∀ t ∈ ss,0 ≤ Zx a t) → ss[j]? = some t → ns[j]? = some n → o[(Zx a t).toNat]? = some c → (Xt a ss ns o)[(Zx a t).toNat]? = some ⟨n,c.kind⟩
 | s :: ss,m :: ns,o,c,0,t,n,hp,hf,h1,h2,h=>by
  obtain rfl:=Option.some.inj h1
  obtain rfl:=Option.some.inj h2
  rw [Xt]
  refine ZfU (ZnU h) fun u hu e=>?_
  exact (List.pairwise_cons.1 hp).1 u hu (Zk6 (hf s List.mem_cons_self) (hf u (List.mem_cons_of_mem _ hu)) e)
 | s :: ss,m :: ns,o,c,j + 1,t,n,hp,hf,h1,h2,h=>by
  rw [Xt]
  have ht : t ∈ ss:=List.mem_of_getElem? h1
  refine ZgV (j:=j) (List.pairwise_cons.1 hp).2 (fun u hu=>hf u (List.mem_cons_of_mem _ hu)) h1 h2 (Zk5 h fun e=>?_)
  exact (List.pairwise_cons.1 hp).1 t ht (Zk6 (hf s List.mem_cons_self) (hf t (List.mem_cons_of_mem _ ht)) e.symm)
 | [],_,_,_,_,_,_,_,_,h1,_,_=>by simp at h1
 | _ :: _,[],_,_,_,_,_,_,_,_,h2,_=>by simp at h2
theorem Zpb (ha : ND a) (hs : Xk a q.cols = true) (hp : q.cols.Pairwise fun x y=>¬ x = y) (hn : q.names.length = q.cols.length) (hl : l = Xt a q.cols q.names a) (hd : ND l) : ZdP (bkS q) l a ns:=fun s _ h0 hfs=>by
 have hall : ∀ t ∈ q.cols,0 ≤ Zx a t:=fun t ht=>of_decide_eq_true (List.all_eq_true.1 hs t ht)
 rw [ZeE,ZeE]
 by_cases g : 0 ≤ YT q.names s
 ·obtain ⟨_,hm⟩:=Zl4 g
  have hj:=Zcy g
  obtain ⟨t,ht⟩:=Xw (l:=q.cols) (k:=(YT q.names s).toNat) (by omega)
  rw [← ZfQ h0 g ht]
  have hf:=hall t (List.mem_of_getElem? ht)
  refine ⟨hf,?_⟩
  obtain ⟨c,hc⟩:=Xw (l:=a) (k:=(Zx a t).toNat) (Zaz hf)
  have h2:=ZgV hp hall ht hm hc
  rw [← hl] at h2
  rw [Zbm hd (List.mem_of_getElem? h2) rfl,ZB hf hc]
 ·rw [← ZeD (show YT q.names s < 0 by omega)]
  have hf:=XE hfs
  obtain ⟨i,hi⟩:=List.getElem?_of_mem hf.2
  have hlen : i < a.length:=by
   have:=(List.getElem?_eq_some_iff.1 hi).1
   rw [hl,ZbO] at this; exact this
  have hmiss : ∀ t ∈ q.cols,i ≠ (Zx a t).toNat:=fun t ht e=>by
   obtain ⟨j,hj⟩:=List.getElem?_of_mem ht
   obtain ⟨n,hn⟩:=Xw (l:=q.names) (k:=j) (by have:=(List.getElem?_eq_some_iff.1 hj).1; omega)
   obtain ⟨c,hc⟩:=Xw (l:=a) (k:=(Zx a t).toNat) (by omega)
   have h2:=ZgV hp hall hj hn hc
   rw [← hl,← e,hi] at h2
   have h3:=congrArg Col.name (Option.some.inj h2)
   rw [hf.1] at h3
   simp only at h3
   have : YT q.names s ≠ -1:=fun e2=>by
    have hx : YP (fun x=>decide (x = s)) q.names = -1:=e2
    have:=ZbM (fun x : Str=>decide (x = s)) q.names
    rw [hx] at this
    have h4 : q.names.any (fun x=>decide (x = s)) = true:=List.any_eq_true.2 ⟨n,List.mem_of_getElem? hn,decide_eq_true h3.symm⟩
    rw [h4] at this
    exact absurd this (by decide)
   have hge : -1 ≤ YT q.names s:=by
    unfold YT YP; split
    ·omega
    ·omega
   omega
  have h1:=ZfU (ns:=q.names) (List.getElem?_eq_getElem hlen) hmiss
  rw [← hl,hi] at h1
  have hm : Xv l s ∈ a:=by rw [Option.some.inj h1]; exact List.getElem_mem hlen
  exact ⟨ZaM hm hf.1,by rw [Zbm ha hm hf.1]⟩
theorem ZsI (h : ∀ a ∈ ins,ND a) (hg : QG S = true) (hq : GdN q) : ND (kT S q ins).1:=by
 unfold kT YM
 split
 ·split
  ·cases e : YQ S q.table with
   | none=>exact XP
   | some s=>exact Zn8 (ZgM hg s (List.mem_of_find?_eq_some e))
  ·exact XP
 ·split
  ·split
   ·exact Zbc h
   ·exact XP
  ·split
   ·exact Zkl (hq.2.2.2.1 (.inl ‹_›))
   ·split
    ·exact Zn9
    ·split
     ·exact Zpz (Zbc h) (Zbc h)
     ·split
      ·split
       ·exact Zbc h
       ·exact XP
      ·split
       ·exact ZnA (hq.2.2.2.1 (.inr (.inr ‹_›)))
       ·split
        ·split
         ·exact XP
         ·rename_i hn
          refine Zh8 (ZfN (Zbc h) (Zbc h) fun y hy=>?_)
          have:=List.any_eq_false.1 (Bool.eq_false_iff.2 hn) y hy
          simp at this; omega
        ·exact Zbc h
theorem Zm1 (hg : QG S = true) : ∀ {q : Query},GdQ q → (cT S q).2 = 0 → ND (cT S q).1
 | _, .mk q h1 h2 h3,h0=>by
  rw [ZdA (q:=q) fun x hx=>XA h0 hx]
  refine ZsI (fun a ha=>?_) hg h1
  obtain ⟨x,hx,rfl⟩:=List.mem_map.1 ha
  exact Zm1 hg (h3 x hx) (XA h0 hx)
theorem Zk7 (h : (Qa a).2 = 0) : (Qa a).1 = a:=by
 by_cases g : 8 < a.length
 ·simp [Qa,g] at h
 ·simp [Qa,g]
theorem ZrR (h : X7 ss = true) : ∀ t ∈ ss,t ≠ []:=fun t ht e=>by
 obtain ⟨i,hi⟩:=List.getElem?_of_mem ht
 unfold X7 at h
 have:=List.all_eq_true.1 h (t,i) (List.mem_zipIdx_iff_getElem?.2 hi)
 unfold qnA YB at this
 rw [e] at this
 simp at this
theorem ZrS (h : X7 q.cols = true) (hn : q.names.length = q.cols.length) : ∀ s,s ≠ [] → bkS q s ≠ []:=fun s hs=>by
 by_cases g : 0 ≤ YT q.names s
 ·obtain ⟨t,ht⟩:=Xw (l:=q.cols) (k:=(YT q.names s).toNat) (by have:=Zcy g; omega)
  rw [← ZfQ hs g ht]; exact ZrR h t (List.mem_of_getElem? ht)
 ·rw [← ZeD (show YT q.names s < 0 by omega)]; exact hs
theorem ZbS (hg : QG S = true) : ∀ {x nd : Query},GdQ x → nd.kind = 2 → (cT S x).2 = 0 → ZdO nd.cond (cT S x).1 = 0 → cT S (Zp S nd x) = cT S x
 | _,nd, .mk x h1 h2 h3,hk,h0,hc=>by
  have hx : GdQ x:= .mk x h1 h2 h3
  have top : cT S (Zk nd [x]) = cT S x:=by rw [Zmt h0,ZrH hk rfl hc,ZhJ h0]
  have he:=ZdA (q:=x) fun x hx=>XA h0 hx
  have hnd:=Zm1 hg hx h0
  have h0':=h0
  rw [he] at h0' hc hnd
  by_cases c3 : x.kind = 3
  ·obtain ⟨y,hy⟩:=Xw (l:=x.l) (k:=0) (h2.1 (by omega))
   rw [← Zmm c3 hy]
   refine Zjf (by omega) h0 hy (ZbS hg (h3 _ (List.mem_of_getElem? hy)) hk (XA h0 (List.mem_of_getElem? hy)) ?_)
   have e : kT S x (x.l.map fun x=>(cT S x).1) = Yl (cT S y).1 x.cols:=(ZgJ c3 (Qy hy)).symm
   rw [e] at h0' hc
   unfold Yl at h0' hc
   by_cases g : Xk (cT S y).1 x.cols = true
   ·rw [if_pos g] at hc; exact ZdQ (ZoZ g) hc
   ·rw [if_neg g] at h0'; simp at h0'
  by_cases c9 : x.kind = 9
  ·cases c : Za0 nd.cond x.cols with
   | false=>rw [← Zmp c9 c]; exact top
   | true=>
    obtain ⟨y,hy⟩:=Xw (l:=x.l) (k:=0) (h2.1 (by omega))
    rw [← Zmn c9 c hy]
    refine Zjf (by omega) h0 hy (ZbS hg (h3 _ (List.mem_of_getElem? hy)) hk (XA h0 (List.mem_of_getElem? hy)) ?_)
    have e : kT S x (x.l.map fun x=>(cT S x).1) = XF x (cT S y).1:=(Zki c9 (Qy hy)).symm
    rw [e] at h0' hc hnd
    have hB : Xk (cT S y).1 x.cols = true:=by
     cases hB : Xk (cT S y).1 x.cols with
     | true=>rfl
     | false=>have:=(Zme hB).2; rw [h0'] at this; omega
    unfold XF at h0' hc hnd
    rw [if_neg (show ¬ (Yl (cT S y).1 x.cols).2 ≠ 0 from fun e=>e (ZG hB))] at h0' hc hnd
    split at h0'
    ·simp at h0'
    ·rw [if_neg ‹_›] at hc hnd
     split at h0'
     ·simp at h0'
     ·rw [if_neg ‹_›] at hc hnd
      split at h0'
      ·simp at h0'
      ·rw [if_neg ‹_›] at hc hnd
       rw [Zk7 h0',Zs2 hB] at hc hnd
       exact ZdQ (Zpa hB hnd (Zgt c)) hc
  by_cases c4 : x.kind = 4
  ·obtain ⟨y,hy⟩:=Xw (l:=x.l) (k:=0) (h2.1 (by omega))
   rw [← Zmo c4 hy]
   refine Zjf (by omega) h0 hy (ZbS hg (nd:=Zic nd (Zd9 nd.cond x)) (h3 _ (List.mem_of_getElem? hy)) hk (XA h0 (List.mem_of_getElem? hy)) ?_)
   have e : kT S x (x.l.map fun x=>(cT S x).1) = QM x (cT S y).1:=(Zfr c4 (Qy hy)).symm
   rw [e] at h0' hc hnd
   unfold QM at h0' hc hnd
   split at h0'
   ·rename_i hB
    rw [if_pos hB] at hc hnd
    split at h0'
    ·rename_i hD
     rw [if_pos hD] at hc hnd
     show ZdO (Zd9 nd.cond x) _ = 0
     unfold Zd9
     rw [Zk4]
     exact Zl3 (Zlt x) (ZrS (h1.2.2.2.1 (.inr (.inl c4))) (h1.2.2.1 c4)) (Zpb (Zm1 hg (h3 _ (List.mem_of_getElem? hy)) (XA h0 (List.mem_of_getElem? hy))) hB (Zn7 (h1.2.2.2.1 (.inr (.inl c4)))) (h1.2.2.1 c4) rfl hnd) hc
    ·simp at h0'
   ·simp at h0'
  by_cases c6 : x.kind = 6 ∨ x.kind = 7
  ·have hl:=h2.2 (by omega)
   obtain ⟨y,hy⟩:=Xw (l:=x.l) (k:=0) (by omega)
   obtain ⟨z,hz⟩:=Xw (l:=x.l) (k:=1) (by omega)
   rw [← Zid c6 hy hz]
   by_cases g : (cT S y).1 = (cT S z).1
   ·have e:=Zd7 (n:=Yu x.cond) (l:=S) c6 (Qy hy) (Qy hz) g
    have e1 : (kT S x (x.l.map fun x=>(cT S x).1)).1 = (cT S y).1:=e.1.symm
    rw [e1] at hc
    exact Zjg h0 hy hz (ZbS hg (h3 _ (List.mem_of_getElem? hy)) hk (XA h0 (List.mem_of_getElem? hy)) hc) (ZbS hg (h3 _ (List.mem_of_getElem? hz)) hk (XA h0 (List.mem_of_getElem? hz)) (by rw [← g]; exact hc))
   ·have e:=(Zd6 (n:=Yu x.cond) (l:=S) c6 (Qy hy) (Qy hz) g).2
    have e2 : (kT S x (x.l.map fun x=>(cT S x).1)).2 = 13:=e.symm
    rw [e2] at h0'; omega
  by_cases c5 : x.kind = 5 ∨ x.kind = 10
  ·have hl:=h2.2 (by omega)
   obtain ⟨y,hy⟩:=Xw (l:=x.l) (k:=0) (by omega)
   obtain ⟨z,hz⟩:=Xw (l:=x.l) (k:=1) (by omega)
   have key : (∃ b,(kT S x (x.l.map fun x=>(cT S x).1)).1 = (cT S y).1 ++ b) ∧ ((∃ a,(kT S x (x.l.map fun x=>(cT S x).1)).1 = a ++ (cT S z).1) ∨ ((kT S x (x.l.map fun x=>(cT S x).1)).1 = (cT S y).1 ++ ZaY (cT S y).1 (cT S z).1 ∧ (cT S z).1.all (jnB (cT S y).1) = true)):=by
    rcases c5 with c5 | c5
    ·have e : kT S x (x.l.map fun x=>(cT S x).1) = jnT (cT S y).1 (cT S z).1:=(ZgK c5 (Qy hy) (Qy hz)).symm
     rw [e] at h0' ⊢
     unfold jnT at h0' ⊢
     split at h0'
     ·rename_i hB; rw [if_pos hB,Zk7 h0']; exact ⟨⟨_,rfl⟩, .inr ⟨rfl,hB⟩⟩
     ·simp at h0'
    ·cases hA : ((cT S z).1.any fun c=>decide (0 ≤ Zx (((x.l.map fun x=>(cT S x).1)[0]?).getD []) c.name)) with
     | true=>
      have e:=(Zh6 (n:=Yu x.cond) (l:=S) c5 (Qy hz) hA).2
      have e2 : (kT S x (x.l.map fun x=>(cT S x).1)).2 = 8:=e.symm
      rw [e2] at h0'; omega
     | false=>
      have e : kT S x (x.l.map fun x=>(cT S x).1) = Qa [(cT S y).1,(cT S z).1].flatten:=(Zh7 (n:=Yu x.cond) (l:=S) c5 (Qy hy) (Qy hz) hA).symm
      rw [e] at h0' ⊢
      rw [Zk7 h0']
      simp only [List.flatten_cons,List.flatten_nil,List.append_nil]
      exact ⟨⟨_,rfl⟩, .inl ⟨_,rfl⟩⟩
   cases c : Za0 nd.cond (ZbP S y) with
   | true=>
    rw [← Zie c5 hy hz c]
    obtain ⟨⟨b,e⟩,_⟩:=key
    rw [e] at hc hnd
    exact Zjg h0 hy hz (ZbS hg (h3 _ (List.mem_of_getElem? hy)) hk (XA h0 (List.mem_of_getElem? hy)) (ZdQ (ZrO hnd fun s hs=>Zij (Zgt c s hs)) hc)) rfl
   | false=>
    cases c' : Za0 nd.cond (ZbP S z) with
    | true=>
     rw [← Zif c5 hy hz c c']
     refine Zjg h0 hy hz rfl (ZbS hg (h3 _ (List.mem_of_getElem? hz)) hk (XA h0 (List.mem_of_getElem? hz)) ?_)
     rcases key.2 with ⟨a,e⟩ | ⟨e,hB⟩
     ·rw [e] at hc hnd
      exact ZdQ (ZrP hnd fun s hs=>Zij (Zgt c' s hs)) hc
     ·rw [e] at hc hnd
      exact ZdQ (ZrQ hnd hB fun s hs=>Zij (Zgt c' s hs)) hc
    | false=>rw [← Zig c5 hy hz c c']; exact top
  rw [← Zkr c3 c4 (by omega) (by omega) c9 (by omega) (by omega)]
  exact top
theorem Zk8 (hg : QG S = true) : ∀ {q : Query},GdQ q → (cT S q).2 = 0 → cT S (ZD S q) = cT S q
 | _, .mk q h1 h2 h3,h0=>by
  have he:=ZdA (q:=q) fun x hx=>XA h0 hx
  have kid : ∀ {y : Query},y ∈ q.l → cT S (ZD S y) = cT S y:=fun h=>Zk8 hg (h3 _ h) (XA h0 h)
  have k0 : ∀ {y : Query},y ∈ q.l → (cT S (ZD S y)).2 = 0:=fun h=>by rw [kid h]; exact XA h0 h
  by_cases c8 : q.kind = 8
  ·obtain ⟨y,hy⟩:=Xw (l:=q.l) (k:=0) (h2.1 (by omega))
   have hm:=List.mem_of_getElem? hy
   rw [← Zks c8 (y:=ZD S y) (by simp [hy]),Zgr (nd:=ZA q) c8 (Zcz (h3 y hm)) (k0 hm),kid hm,he,Zmu c8 (Qy hy),ZhJ (XA h0 hm)]
  by_cases c2 : q.kind = 2
  ·obtain ⟨y,hy⟩:=Xw (l:=q.l) (k:=0) (h2.1 (by omega))
   have hm:=List.mem_of_getElem? hy
   have hc : ZdO q.cond (cT S y).1 = 0:=by
    by_cases g : ZdO q.cond (cT S y).1 = 0
    ·exact g
    ·have e : ZdO q.cond (cT S y).1 = (kT S q (q.l.map fun x=>(cT S x).1)).2:=(Zh4 c2 (Qy hy) g).2
     rw [he] at h0; rw [h0] at e; exact e
   rw [← Zkt c2 (y:=ZD S y) (by simp [hy]),ZbS hg (nd:=ZA q) (Zcz (h3 y hm)) c2 (k0 hm) (by rw [kid hm]; exact hc),kid hm,he,ZrH c2 (Qy hy) hc,ZhJ (XA h0 hm)]
  rw [← Zku c8 c2,he,ZdA (q:=Zk q (q.l.map (ZD S))) fun x hx=>by
   obtain ⟨y,hy,rfl⟩:=List.mem_map.1 hx
   exact k0 hy]
  show kT S q ((q.l.map (ZD S)).map fun x=>(cT S x).1) = _
  congr 1
  rw [List.map_map]
  exact List.map_congr_left fun y hy=>by show (cT S (ZD S y)).1 = _; rw [kid hy]
end
end Go.Civ
namespace Go.Civ
open Go.RowKit
set_option linter.unusedVariables false
def YI : Nat → Cond → Int → Int → Bool × Int
 | 0,_,_,m=>(false,m)
 | n + 1,c,dep,m=>if 1 ≤ m ∧ dep ≤ 20 ∧ c.col.length ≤ 60 ∧ c.oth.length ≤ 60 ∧ c.v.s.length ≤ 60 then YJ (fun x i=>YI n x (dep + 1) i) c.l (m - 1) else (false,m - 1)
def Zm2 (q : Query) : Bool:=(q.cols ++ q.names).any fun s=>decide (60 < (s.length : Int))
def YN : Nat → Query → Int → Int → Bool × Int
 | 0,_,_,m=>(false,m)
 | n + 1,q,dep,m=>if 1 ≤ m ∧ dep ≤ 20 ∧ q.table.length ≤ 60 ∧ q.cols.length ≤ 20 ∧ q.names.length ≤ 20 then
   (if (YI (n + 1) q.cond 0 (m - 1)).1 = true then (if Zm2 q = true then (false,(YI (n + 1) q.cond 0 (m - 1)).2) else YJ (fun x i=>YN n x (dep + 1) i) q.l (YI (n + 1) q.cond 0 (m - 1)).2) else (false,(YI (n + 1) q.cond 0 (m - 1)).2))
   else (false,m - 1)
section
variable {n : Nat} {c : Cond} {q : Query} {dep m : Int}
theorem Zb7 (h : ¬ (1 ≤ m ∧ dep ≤ 20 ∧ c.col.length ≤ 60 ∧ c.oth.length ≤ 60 ∧ c.v.s.length ≤ 60)) : false = (YI (n + 1) c dep m).1 ∧ m - 1 = (YI (n + 1) c dep m).2:=by unfold YI; rw [if_neg h]; exact ⟨rfl,rfl⟩
theorem Zl5 (h : 1 ≤ m ∧ dep ≤ 20 ∧ c.col.length ≤ 60 ∧ c.oth.length ≤ 60 ∧ c.v.s.length ≤ 60) : YJ (fun x i=>YI n x (dep + 1) i) c.l (m - 1) = YI (n + 1) c dep m:=by
 conv=>rhs; unfold YI
 rw [if_pos h]
theorem Zb8 (h : ¬ (1 ≤ m ∧ dep ≤ 20 ∧ q.table.length ≤ 60 ∧ q.cols.length ≤ 20 ∧ q.names.length ≤ 20)) : false = (YN (n + 1) q dep m).1 ∧ m - 1 = (YN (n + 1) q dep m).2:=by unfold YN; rw [if_neg h]; exact ⟨rfl,rfl⟩
theorem ZpB (h : 1 ≤ m ∧ dep ≤ 20 ∧ q.table.length ≤ 60 ∧ q.cols.length ≤ 20 ∧ q.names.length ≤ 20) (h2 : (YI (n + 1) q.cond 0 (m - 1)).1 = false) : false = (YN (n + 1) q dep m).1 ∧ (YI (n + 1) q.cond 0 (m - 1)).2 = (YN (n + 1) q dep m).2:=by
 unfold YN; rw [if_pos h,if_neg (by rw [h2]; simp)]; exact ⟨rfl,rfl⟩
theorem Zgv (h : 1 ≤ m ∧ dep ≤ 20 ∧ q.table.length ≤ 60 ∧ q.cols.length ≤ 20 ∧ q.names.length ≤ 20) (h2 : (YI (n + 1) q.cond 0 (m - 1)).1 = true) (h3 : Zm2 q = true) : false = (YN (n + 1) q dep m).1 ∧ (YI (n + 1) q.cond 0 (m - 1)).2 = (YN (n + 1) q dep m).2:=by
 unfold YN; rw [if_pos h,if_pos h2,if_pos h3]; exact ⟨rfl,rfl⟩
theorem Zl6 (h : 1 ≤ m ∧ dep ≤ 20 ∧ q.table.length ≤ 60 ∧ q.cols.length ≤ 20 ∧ q.names.length ≤ 20) (h2 : (YI (n + 1) q.cond 0 (m - 1)).1 = true) (h3 : Zm2 q = false) : YJ (fun x i=>YN n x (dep + 1) i) q.l (YI (n + 1) q.cond 0 (m - 1)).2 = YN (n + 1) q dep m:=by
 conv=>rhs; unfold YN
 rw [if_pos h,if_pos h2,if_neg (by rw [h3]; simp)]
end
def NB (p : Bool × Int) : Prop:=-1 ≤ p.2 ∧ p.2 ≤ 120 ∧ (p.1 = true → 0 ≤ p.2)
theorem Zil {α : Type} {f : α → Int → Bool × Int} (hf : ∀ x m,0 ≤ m → m ≤ 120 → NB (f x m)) : ∀ {l : List α} {n : Int},0 ≤ n → n ≤ 120 → NB (YJ f l n)
 | [],n,h1,h2=>⟨by show -1 ≤ n; omega,h2,fun _=>h1⟩
 | x :: r,n,h1,h2=>by
  obtain ⟨a,b,c⟩:=hf x n h1 h2
  unfold YJ
  split
  ·rename_i q; exact Zil hf (c q) b
  ·exact ⟨a,b,fun h=>by cases h⟩
theorem ZfW : ∀ (n : Nat) (c : Cond) (dep m : Int),0 ≤ m → m ≤ 120 → NB (YI n c dep m)
 | 0,c,dep,m,h1,h2=>⟨by show -1 ≤ m; omega,h2,fun h=>by cases h⟩
 | n + 1,c,dep,m,h1,h2=>by
  unfold YI
  split
  ·rename_i q
   exact Zil (fun x i a b=>ZfW n x (dep + 1) i a b) (by omega) (by omega)
  ·exact ⟨by show -1 ≤ m - 1; omega,by show m - 1 ≤ 120; omega,fun h=>by cases h⟩
theorem Zk9 : ∀ (n : Nat) (q : Query) (dep m : Int),0 ≤ m → m ≤ 120 → NB (YN n q dep m)
 | 0,c,dep,m,h1,h2=>⟨by show -1 ≤ m; omega,h2,fun h=>by cases h⟩
 | n + 1,q,dep,m,h1,h2=>by
  unfold YN
  split
  ·rename_i g
   have hb:=ZfW (n + 1) q.cond 0 (m - 1) (by omega) (by omega)
   split
   ·rename_i g2
    split
    ·exact ⟨hb.1,hb.2.1,fun h=>by cases h⟩
    ·exact Zil (fun x i a b=>Zk9 n x (dep + 1) i a b) (hb.2.2 g2) hb.2.1
   ·exact ⟨hb.1,hb.2.1,fun h=>by cases h⟩
  ·exact ⟨by show -1 ≤ m - 1; omega,by show m - 1 ≤ 120; omega,fun h=>by cases h⟩
theorem ZkA {α : Type} {f : α → Int → Bool × Int} : ∀ {l : List α} {n : Int},(YJ f l n).1 = true → ∀ x ∈ l,∃ m,(f x m).1 = true
 | x :: r,n,h,y,hy=>by
  unfold YJ at h
  split at h
  ·rename_i q
   rcases List.mem_cons.1 hy with rfl | hy
   ·exact ⟨n,q⟩
   ·exact ZkA h y hy
  ·cases h
theorem ZnW : ∀ {n : Nat} {q : Query} {dep m : Int},(YN n q dep m).1 = true → smQ n q
 | 0,_,_,_,_=>trivial
 | n + 1,q,dep,m,h=>by
  unfold YN at h
  split at h
  ·rename_i g
   split at h
   ·split at h
    ·cases h
    ·refine ⟨g.2.2.2.1,g.2.2.2.2,fun x hx=>?_⟩
     obtain ⟨i,hi⟩:=ZkA h x hx
     exact ZnW hi
   ·cases h
  ·cases h
end Go.Civ
namespace Go.Civ
open Go.RowKit
theorem ZrT {m i : Int} {p : Bool × Int} (h : NB p) (hm : p.1 = true) : 0 ≤ p.2 ∧ p.2 ≤ 120:=⟨h.2.2 hm,h.2.1⟩
theorem ZrU {p : Bool × Int} (h : NB p) : ZM p.2:=by obtain ⟨a,b,_⟩:=h; constructor <;> omega
theorem Zq0 {n : Nat} {x : Cond} {dep m : Int} (h1 : (!(YI n x dep m).1) = false) (h2 : 0 ≤ m ∧ m ≤ 120) : 0 ≤ (YI n x dep m).2 ∧ (YI n x dep m).2 ≤ 120:=
 ⟨(ZfW n x dep m h2.1 h2.2).2.2 (by simpa using h1),(ZfW n x dep m h2.1 h2.2).2.1⟩
theorem Zq1 {n : Nat} {x : Query} {dep m : Int} (h1 : (!(YN n x dep m).1) = false) (h2 : 0 ≤ m ∧ m ≤ 120) : 0 ≤ (YN n x dep m).2 ∧ (YN n x dep m).2 ≤ 120:=
 ⟨(Zk9 n x dep m h2.1 h2.2).2.2 (by simpa using h1),(Zk9 n x dep m h2.1 h2.2).2.1⟩
def Zdc (s : Schema) : Bool:=decide (10 < (s.cols.length : Int)) || (decide (10 < (s.fks.length : Int)) || (decide (60 < (s.name.length : Int)) || s.cols.any fun c=>decide (60 < (c.name.length : Int))))
noncomputable def Zdd (q : Query) (l : List Schema) : Bool:=(YN (SizeOf.sizeOf q) q 0 120).1 && (decide ((l.length : Int) ≤ 10) && !l.any Zdc)
theorem Zl7 {l : List Schema} {nm : Str} : (YQ l nm).isSome = l.any fun t=>decide (t.name = nm):=by
 unfold YQ
 rw [Bool.eq_iff_iff,List.find?_isSome,List.any_eq_true]
section
variable {l : List Schema} {s : Schema} {k : Nat} {q : Query}
theorem ZrV (h : X3 s = false) : gdA l k s = false:=by unfold gdA; rw [h]; rfl
theorem ZrW (h : ((l.take k).any fun t=>decide (t.name = s.name)) = true) : gdA l k s = false:=by unfold gdA; rw [Zl7,h]; simp
theorem ZrX (h1 : X3 s = true) (h : ((l.take k).any fun t=>decide (t.name = s.name)) = false) : gdA l k s = true:=by unfold gdA; rw [Zl7,h,h1]; rfl
theorem ZsJ (h : (YN (SizeOf.sizeOf q) q 0 120).1 = false) : false = Zdd q l:=by unfold Zdd; rw [h]; rfl
theorem ZsK (h : ¬ (l.length : Int) ≤ 10) : false = Zdd q l:=by unfold Zdd; rw [decide_eq_false h]; simp
theorem ZsL (h : (YN (SizeOf.sizeOf q) q 0 120).1 = true) (h2 : (l.length : Int) ≤ 10) : (!l.any Zdc) = Zdd q l:=by unfold Zdd; rw [h,decide_eq_true h2]; simp
theorem ZrY (h : Zdd q l = true) : smQ (SizeOf.sizeOf q) q:=by
 unfold Zdd at h
 simp only [Bool.and_eq_true] at h
 exact ZnW h.1
end
theorem YH.freezeL {α : Type} {E : Enc α} {by_ : Nat} {e : TypeId} {v : Value} {l : List α} {o : Option (Nat × TypeId × List Value)} {w0 w : World} {G0 G : GH} {L : Own} {pb : Nat} {e2 : TypeId} {cs2 : List Value} (h : YH E by_ e G v l o) (hS : St w0 [pb] G0 G L w) (i j : Nat) (hi : L[i]? = some o) (hj : L[j]? = some (some (pb,e2,cs2))) (hne : i ≠ j:=by decide) :
  ∃ G',G.le G' ∧ Sl E by_ G' v l ∧ St w0 [pb] G0 G' (L.set i none) w:=by
 rcases h with ⟨rfl,rfl,rfl⟩ | ⟨b,cs,cap,xs,rfl,rfl,h3,h4,h5,h6,h7,h8,h9⟩
 ·exact ⟨G,G.le_refl,Sl.nil _ _ _,hS.drop i⟩
 ·have hb : w0.heap.size ≤ b:=by
   rcases (hS.sep i _ hi).1 with h | h
   ·exact h
   ·exact absurd (hS.nd i j _ _ hi hj (List.mem_singleton.1 h)) hne
  have f:=hS.freeze i hi hb
  have hG : G b = none:=(hS.sep i _ hi).2
  have hle:=G.add_le (.cells cs.toArray e) hG
  refine ⟨_,hle,⟨some ⟨b,0,none⟩,cap,rfl,h3,h8,h9,fun j x hx=>⟨_,rfl,rfl,?_⟩⟩,f⟩
  refine (h6.mono hle).rows (p:=⟨b,0,none⟩) ⟨rfl,_,_,_,GH.add_at _ _ _,fun q u hu=>?_⟩ j x hx
  rw [← h7,List.getElem?_take] at hu
  split at hu
  ·simpa using hu
  ·cases hu
section
variable {s : Schema}
theorem ZsM (h : 10 < (s.cols.length : Int)) : true = Zdc s:=by unfold Zdc; rw [decide_eq_true h]; rfl
theorem ZsN (h : 10 < (s.fks.length : Int)) : true = Zdc s:=by unfold Zdc; rw [decide_eq_true h]; simp
theorem ZsO (h : 60 < (s.name.length : Int)) : true = Zdc s:=by unfold Zdc; rw [decide_eq_true h]; simp
theorem ZsP (h : ¬ 10 < (s.cols.length : Int)) (h2 : ¬ 10 < (s.fks.length : Int)) (h3 : ¬ 60 < (s.name.length : Int)) : (s.cols.any fun c=>decide (60 < (c.name.length : Int))) = Zdc s:=by
 unfold Zdc; rw [decide_eq_false h,decide_eq_false h2,decide_eq_false h3]; simp
end
end Go.Civ
