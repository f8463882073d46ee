/- Lemmas. -/
import Derived.Test.YthgeclodflmiaaaGreatD07
import Derived.Test.YthgeclodflmiaaaGreatD12
import Derived.Test.YthgeclodflmiaaaGreatD15
import Derived.Test.YthgeclodflmiaaaGreatD16
import Derived.Test.YthgeclodflmiaaaGreatD17
namespace Go.Civ
open Go.RowKit
set_option linter.unusedVariables false
structure KeyOk (v : List Val) : Prop where
 len : v.length ≤ 1000
 ok : v.all Z4 = true
 i64 : ∀ x ∈ v,Z0 x.n
def Zal (out : List HGrp) (s : List UInt8) : Option Int:=((out.map HGrp.v).findIdx? fun v=>decide (QJ v = s)).map Int.ofNat
theorem ZfO {α : Type} {p q : α → Bool} : ∀ {l : List α},(∀ x ∈ l,p x = q x) → l.findIdx? p = l.findIdx? q
 | [],_=>rfl
 | x :: l,h=>by rw [List.findIdx?_cons,List.findIdx?_cons,h x (by simp),ZfO fun y hy=>h y (by simp [hy])]
theorem Zte {out : List HGrp} {v : List Val} : Ze7 out v = (out.map HGrp.v).findIdx? fun u=>decide (u = v):=by
 unfold Ze7; rw [List.findIdx?_map]; rfl
theorem Zkg {out : List HGrp} {v : List Val} (ho : ∀ g ∈ out,KeyOk g.v) (hv : KeyOk v) : Zal out (QJ v) = (Ze7 out v).map Int.ofNat:=by
 unfold Zal
 rw [Zte]
 congr 1
 refine ZfO fun u hu=>?_
 obtain ⟨g,hg,rfl⟩:=List.mem_map.1 hu
 have k:=ho g hg
 exact decide_eq_decide.2 ⟨fun e=>Zsv k.len hv.len k.ok hv.ok k.i64 hv.i64 e,fun e=>by rw [e]⟩
theorem Zi8 {out : List HGrp} {i : Nat} {r : HRow} : Zal (ZcN out i r) = Zal out:=by
 funext s; unfold Zal; rw [Zgk]
theorem Zpf {out : List HGrp} {v : List Val} {t : List HRow} (h : Zal out (QJ v) = none) : Zal (out ++ [⟨v,t⟩]) = fun s=>if s = QJ v then some (out.length : Int) else Zal out s:=by
 funext s
 unfold Zal at *
 rw [List.map_append,List.findIdx?_append]
 split
 ·rename_i e
  subst e
  rw [Option.map_eq_none_iff] at h
  rw [h]
  simp
 ·rename_i e
  cases hf : (out.map HGrp.v).findIdx? fun u=>decide (QJ u = s) with
  | some i=>simp
  | none=>simp [Ne.symm e]
theorem Zmp {l : List HRow} (h : ∀ r ∈ l,KeyOk r.v) : ∀ g ∈ hgroups l,KeyOk g.v:=fun g hg=>by
 obtain ⟨r,hr,e⟩:=((Zd3 l).mem g.v).1 (List.mem_map.2 ⟨g,hg,rfl⟩)
 rw [← e]; exact h r hr
theorem Zi9 {l : List HRow} (h : ∀ r ∈ l,KeyOk r.v) (k : Nat) : ∀ g ∈ hgroups (l.take k),KeyOk g.v:=Zmp fun r hr=>h r (List.mem_of_mem_take hr)
theorem Sl.i64 {G : GH} {v : Value} {l : List Val} (h : Sl ValE 32 G v l) : ∀ x ∈ l,Z0 x.n:=fun x hx=>by
 obtain ⟨i,hi⟩:=List.getElem?_of_mem hx
 obtain ⟨a,cap,_,_,_,_,h4⟩:=h
 obtain ⟨p,_,_,cs,_,hr⟩:=h4 i x hi
 exact (Yj hr).2.2.1
theorem Ztf {G : GH} {v : Value} {r : HRow} (h : Sl ValE 32 G v r.v) (hg : YA r = true) (hl : r.v.length ≤ 1000) : KeyOk r.v:=⟨hl,(Yk hg).1,h.i64⟩
theorem Zpg {G : GH} {vl : Value} {l : List HRow} (h : Sl HRowE 56 G vl l) (hg : Z8 l) (hl : ∀ r ∈ l,r.v.length ≤ 1000) : ∀ r ∈ l,KeyOk r.v:=fun r hr=>by
 obtain ⟨i,hi⟩:=List.getElem?_of_mem hr
 obtain ⟨a,cap,_,_,_,_,h4⟩:=h
 obtain ⟨p,_,_,cs,_,hrep⟩:=h4 i r hi
 obtain ⟨v,_,hs,_⟩:=Z7 hrep
 exact Ztf hs (hg r hr) (hl r hr)
theorem Ztg {l : List HRow} {k : Nat} {r : HRow} {c : Int} (h : ∀ r ∈ l,KeyOk r.v) (hk : l[k]? = some r) (hc : Zal (hgroups (l.take k)) (QJ r.v) = some c) :
  ∃ i : Nat,c = (i : Int) ∧ i < (hgroups (l.take k)).length ∧ hgroups (l.take (k + 1)) = ZcN (hgroups (l.take k)) i r:=by
 rw [Zkg (Zi9 h k) (h r (List.mem_of_getElem? hk)),Option.map_eq_some_iff] at hc
 obtain ⟨i,hi,rfl⟩:=hc
 obtain ⟨g,hg,_⟩:=ZjZ hi
 refine ⟨i,rfl,(List.getElem?_eq_some_iff.1 hg).1,?_⟩
 rw [ZdR hk]; unfold Zek; rw [hi]
theorem Zth (out : List HGrp) (v : List Val) (r : HRow) : ZcN (out ++ [⟨v,[]⟩]) out.length r = out ++ [⟨v,[r]⟩]:=by
 rw [Zjt (g:=⟨v,[]⟩) r (by simp)]
 rw [List.set_append_right _ _ (Nat.le_refl _)]; simp
theorem Zx8 {l : List HRow} {k : Nat} {r : HRow} (h : ∀ r ∈ l,KeyOk r.v) (hk : l[k]? = some r) (hc : Zal (hgroups (l.take k)) (QJ r.v) = none) :
  hgroups (l.take (k + 1)) = ZcN (hgroups (l.take k) ++ [⟨r.v,[]⟩]) (hgroups (l.take k)).length r:=by
 rw [Zkg (Zi9 h k) (h r (List.mem_of_getElem? hk)),Option.map_eq_none_iff] at hc
 rw [ZdR hk,Zth]; unfold Zek; rw [hc]
theorem Zq6 {l : List HRow} {k i : Nat} {r : HRow} (h : hgroups (l.take (k + 1)) = ZcN (hgroups (l.take k)) i r) : Zal (hgroups (l.take (k + 1))) = Zal (hgroups (l.take k)):=by rw [h,Zi8]
theorem ZvI {l : List HRow} {k : Nat} {r : HRow} (h : hgroups (l.take (k + 1)) = ZcN (hgroups (l.take k) ++ [⟨r.v,[]⟩]) (hgroups (l.take k)).length r) (hc : Zal (hgroups (l.take k)) (QJ r.v) = none) :
  Zal (hgroups (l.take (k + 1))) = fun s=>if s = QJ r.v then some (((hgroups (l.take k)).length : Nat) : Int) else Zal (hgroups (l.take k)) s:=by
 rw [h,Zi8,Zpf hc]
structure HRel (e : TypeId) (G : GH) (gs : List HGrp) (L : List (List Val × Value)) (O : Own) : Prop where
 len : L.length = gs.length
 olen : O.length = gs.length
 at_ : ∀ (i : Nat) g,gs[i]? = some g → ∃ p o,L[i]? = some p ∧ O[i]? = some o ∧ p.1 = g.v ∧ ZS HRowE 56 e G p.2 g.t o
section
variable {e : TypeId} {G G' : GH} {gs : List HGrp} {L : List (List Val × Value)} {O : Own}
theorem HRel.nil : HRel e G [] [] []:=⟨rfl,rfl,fun i g h=>by simp at h⟩
theorem HRel.mono (h : HRel e G gs L O) (k : G.le G') : HRel e G' gs L O:=⟨h.len,h.olen,fun i g hg=>by
 obtain ⟨p,o,h1,h2,h3,h4⟩:=h.at_ i g hg
 exact ⟨p,o,h1,h2,h3,h4.mono k⟩⟩
theorem HRel.atL (h : HRel e G gs L O) {i : Nat} {p : List Val × Value} (hp : L[i]? = some p) : ∃ g o,gs[i]? = some g ∧ O[i]? = some o ∧ p.1 = g.v ∧ ZS HRowE 56 e G p.2 g.t o:=by
 have hl:=(List.getElem?_eq_some_iff.1 hp).1
 rw [h.len] at hl
 obtain ⟨q,o,h1,h2,h3,h4⟩:=h.at_ i gs[i] (List.getElem?_eq_getElem hl)
 rw [hp] at h1
 obtain rfl:=Option.some.inj h1
 exact ⟨_,o,List.getElem?_eq_getElem hl,h2,h3,h4⟩
theorem HRel.push (h : HRel e G gs L O) (v : List Val) : HRel e G (gs ++ [⟨v,[]⟩]) (L ++ [(v, .slice none 0 0)]) (O ++ [none]):=by
 refine ⟨by simp [h.len],by simp [h.olen],fun i g hg=>?_⟩
 rw [List.getElem?_append] at hg
 split at hg
 ·rename_i hi
  obtain ⟨p,o,h1,h2,h3,h4⟩:=h.at_ i g hg
  exact ⟨p,o,by rw [List.getElem?_append_left (by rw [h.len]; exact hi)]; exact h1,by rw [List.getElem?_append_left (by rw [h.olen]; exact hi)]; exact h2,h3,h4⟩
 ·rename_i hi
  obtain rfl : i = gs.length:=by
   have:=(List.getElem?_eq_some_iff.1 hg).1
   simp only [List.length_singleton] at this; omega
  simp at hg
  subst hg
  exact ⟨(v, .slice none 0 0),none,by rw [← h.len]; simp,by rw [← h.olen]; simp,rfl,ZS.nil _ _ _ _⟩
theorem HRel.set (h : HRel e G gs L O) {i : Nat} {g : HGrp} (hg : gs[i]? = some g) {r : HRow} {p1 : List Val} {v2 : Value} {o2 : OB} (hp : p1 = g.v) (hr : ZS HRowE 56 e G v2 (g.t ++ [r]) o2) : HRel e G (ZcN gs i r) (L.set i (p1,v2)) (O.set i o2):=by
 subst hp
 have hi:=(List.getElem?_eq_some_iff.1 hg).1
 rw [Zjt r hg]
 refine ⟨by simp [h.len],by simp [h.olen],fun j q hq=>?_⟩
 rw [List.getElem?_set] at hq
 split at hq
 ·rename_i hj; subst hj
  obtain rfl : _ = q:=by first | (rw [if_pos hi] at hq; exact Option.some.inj hq) | exact Option.some.inj hq
  exact ⟨(g.v,v2),o2,by rw [List.getElem?_set_self (by rw [h.len]; exact hi)],by rw [List.getElem?_set_self (by rw [h.olen]; exact hi)],rfl,hr⟩
 ·rename_i hj
  obtain ⟨p,o,h1,h2,h3,h4⟩:=h.at_ j q hq
  exact ⟨p,o,by rw [List.getElem?_set_ne hj]; exact h1,by rw [List.getElem?_set_ne hj]; exact h2,h3,h4⟩
variable {w0 w : World} {X : List Nat} {G0 : GH}
theorem St.padEnd {L : Own} (h : St w0 X G0 G L w) : St w0 X G0 G (L ++ [none]) w:=by
 have look : ∀ (j : Nat) p,(L ++ [none])[j]? = some (some p) → L[j]? = some (some p):=fun j p hp=>by
  rw [List.getElem?_append] at hp
  split at hp
  ·exact hp
  ·rw [List.getElem?_singleton] at hp; split at hp <;> cases hp
 exact ⟨h.kept,h.le,h.new,h.imm,fun j p hp=>h.own j p (look j p hp),fun j p hp=>h.sep j p (look j p hp),fun j k p q hp hq he=>h.nd j k p q (look j p hp) (look k q hq) he⟩
theorem St.dropAt1 {L : Own} {a b : OB} (h : St w0 X G0 G (a :: b :: L) w) : St w0 X G0 G (a :: L) w:=by
 refine h.reindex _ (fun j=>if j = 0 then 0 else j + 1) (fun j p hp=>?_) (fun j k _ _ he=>?_)
 ·cases j with
  | zero=>simpa using hp
  | succ j=>simpa using hp
 ·split at he <;> split at he <;> omega
def HSl (G : GH) (gs : List HGrp) (L : List (List Val × Value)) : Prop:=L.length = gs.length ∧ ∀ (i : Nat) g,gs[i]? = some g → ∃ p,L[i]? = some p ∧ p.1 = g.v ∧ Sl HRowE 56 G p.2 g.t
theorem Zkh : ∀ {O : Own} {G : GH} {gs : List HGrp} {L : List (List Val × Value)} {ro : OB},St w0 [] G0 G (ro :: O) w → HRel e G gs L O → ∃ G',G.le G' ∧ St w0 [] G0 G' [ro] w ∧ HSl G' gs L
 | [],G,gs,L,ro,hS,h=>by
  have e1 : gs = []:=List.eq_nil_of_length_eq_zero h.olen.symm
  subst e1
  exact ⟨G,G.le_refl,hS,h.len,fun i g hg=>by simp at hg⟩
 | o :: O,G,[],L,ro,hS,h=>by have:=h.olen; simp at this
 | o :: O,G,g :: gs,[],ro,hS,h=>by have:=h.len; simp at this
 | o :: O,G,g :: gs,p :: L,ro,hS,h=>by
  obtain ⟨p',o',h1,h2,h3,h4⟩:=h.at_ 0 g rfl
  obtain rfl : p = p':=by simpa using h1
  obtain rfl : o = o':=by simpa using h2
  obtain ⟨G1,k1,k2,k3⟩:=ZS.freeze h4 hS 1 rfl
  have hrest : HRel e G1 gs L O:=⟨by simpa using h.len,by simpa using h.olen,fun i q hq=>by
   obtain ⟨p2,o2,j1,j2,j3,j4⟩:=h.at_ (i + 1) q (by simpa using hq)
   exact ⟨p2,o2,by simpa using j1,by simpa using j2,j3,j4.mono k1⟩⟩
  obtain ⟨G2,m1,m2,m3,m4⟩:=Zkh (St.dropAt1 k3) hrest
  refine ⟨G2,k1.trans m1,m2,by simp [m3],fun i q hq=>?_⟩
  cases i with
  | zero=>simp at hq; subst hq; exact ⟨p,rfl,h3,k2.mono m1⟩
  | succ i=>simpa using m4 i q (by simpa using hq)
theorem Zgr {G : GH} : ∀ {L : List (List Val × Value)} {gs : List HGrp} {xs : List Value},L.length = gs.length → (∀ (i : Nat) g,gs[i]? = some g → ∃ p,L[i]? = some p ∧ p.1 = g.v ∧ Sl HRowE 56 G p.2 g.t) → XA ZeL G L xs → XA Zcy G gs xs
 | [],[],xs,_,_,h=>h
 | [],g :: gs,xs,hl,_,_=>by simp at hl
 | p :: L,[],xs,hl,_,_=>by simp at hl
 | p :: L,g :: gs,xs,hl,h,⟨c,r,h1,h2,h3⟩=>by
  obtain ⟨p',k1,k2,k3⟩:=h 0 g rfl
  obtain rfl : p = p':=by simpa using k1
  obtain ⟨v,rfl,hv,_⟩:=ZbO h2
  refine ⟨_,r,h1,Zfr g (k2 ▸ hv) k3,Zgr (by simpa using hl) (fun i q hq=>?_) h3⟩
  simpa using h (i + 1) q (by simpa using hq)
theorem ZS.hgroups {e : TypeId} {v : Value} {o : OB} {G : GH} {gs : List HGrp} {L : List (List Val × Value)} (hr : ZS ZeL 48 e G v L o) (h : HSl G gs L) : ZS Zcy 48 e G v gs o:=by
 obtain ⟨hl,h⟩:=h
 rcases hr with ⟨rfl,rfl,rfl⟩ | ⟨b,cs,cap,xs,rfl,rfl,h3,h4,h5,h6,h7,h8,h9⟩
 ·have : gs = []:=List.eq_nil_of_length_eq_zero hl.symm
  subst this
  exact .inl ⟨rfl,rfl,rfl⟩
 ·refine .inr ⟨b,cs,cap,xs,rfl,by rw [hl],by rw [← hl]; exact h3,h4,h5,Zgr hl h h6,?_,by rw [← hl]; exact h8,by rw [← hl]; exact h9⟩
  rw [← hl]; exact h7
end
theorem Zfz.mono {P : Program} {Kt E : TypeId} {w : World} {b n n' : Nat} {f : List UInt8 → Option Int} (h : Zfz P Kt E w b n f) (hn : n ≤ n') : Zfz P Kt E w b n' f:=by
 obtain ⟨D,h1,h2,h3⟩:=h
 exact ⟨D,h1,h2.mono hn,h3⟩
theorem Zti (l : List HRow) (k : Nat) : (hgroups (l.take k)).length ≤ l.length:=by
 have h1:=Ze8 l k
 rcases Nat.lt_or_ge k l.length with h | h
 ·omega
 ·have h2:=Ze8 l l.length
  rw [List.take_of_length_le h]; rwa [List.take_length] at h2
end Go.Civ
namespace Go.Civ
theorem Zph {l : List HRow} (h : Z8 l) : ∀ g ∈ hgroups l,g.v.all Z4 = true:=fun g hg=>by
 obtain ⟨r,hr,e⟩:=((Zd3 l).mem g.v).1 (List.mem_map.2 ⟨g,hg,rfl⟩)
 rw [← e]; exact (Yk (h r hr)).1
end Go.Civ
namespace Go.Civ
theorem ZnL {l : List HRow} {k i : Nat} {g : HGrp} (h : (hgroups (l.take k))[i]? = some g) : g.t.length ≤ l.length:=by
 rw [(Zd3 (l.take k)).rows g (List.mem_of_getElem? h)]
 unfold XS
 exact Nat.le_trans (List.length_filter_le _ _) (List.length_take_le' _ _)
theorem Ztj {l : List HRow} {k i : Nat} {g : HGrp} {v : List Val} (h : (hgroups (l.take k) ++ [⟨v,[]⟩])[i]? = some g) : g.t.length ≤ l.length:=by
 rw [List.getElem?_append] at h
 split at h
 ·exact ZnL h
 ·rw [List.getElem?_singleton] at h
  split at h
  ·obtain rfl:=Option.some.inj h; exact Nat.zero_le _
  ·cases h
end Go.Civ
namespace Go.Civ
open Go.RowKit
open Go.Lib (compact)
set_option linter.unusedVariables false
theorem St.pick {w0 w : World} {X : List Nat} {G0 G : GH} {L : Own} (h : St w0 X G0 G L w) (is : List Nat) (hnd : is.Nodup:=by decide) : St w0 X G0 G (is.map fun i=>(L[i]?).getD none) w:=by
 refine h.reindex _ (fun j=>is.getD j 0) (fun j p hp=>?_) (fun j k hj hk he=>?_)
 ·rw [List.getElem?_map] at hp
  cases hi : is[j]? with
  | none=>rw [hi] at hp; cases hp
  | some i=>
   rw [hi] at hp
   simp only [Option.map_some,Option.some.injEq] at hp
   rw [List.getD_eq_getElem?_getD,hi]
   simp only [Option.getD_some]
   cases hl : L[i]? with
   | none=>rw [hl] at hp; cases hp
   | some q=>rw [hl] at hp; simp only [Option.getD_some] at hp; rw [hp]
 ·rw [List.length_map] at hj hk
  rw [List.getD_eq_getElem?_getD,List.getD_eq_getElem?_getD,List.getElem?_eq_getElem hj,List.getElem?_eq_getElem hk] at he
  simp only [Option.getD_some] at he
  exact (List.getElem?_inj hj hnd).1 (by rw [List.getElem?_eq_getElem hj,List.getElem?_eq_getElem hk,he])
def Zc2 (l : List HRow) : List Int:=l.flatMap fun r=>[r.r.x.a,r.r.x.b]
theorem Zpi {l : List HRow} {k : Nat} {x : HRow} (h : l[k]? = some x) : Zc2 (l.take (k + 1)) = Zc2 (l.take k) ++ [x.r.x.a,x.r.x.b]:=by
 rw [List.take_add_one,h]; simp [Zc2]
theorem Zkj : ∀ (l : List HRow),(Zc2 l).length = 2 * l.length
 | []=>rfl
 | r :: l=>by have:=Zkj l; simp only [Zc2,List.flatMap_cons,List.length_append,List.length_cons,List.length_nil] at *; omega
theorem ZkQ (l : List HRow) (k : Nat) : (Zc2 (l.take k)).length ≤ 2 * l.length:=by rw [Zkj]; have:=List.length_take_le' k l; omega
theorem Zq7 {l : List HRow} {y : Int} : y ∈ Zc2 l ↔ ∃ r ∈ l,y = r.r.x.a ∨ y = r.r.x.b:=by simp [Zc2]
theorem ZvM {l : List HRow} {k : Nat} (hk : l.length ≤ k) : compact (Q4 (Zc2 (l.take k))) = Y0 l:=by
 rw [List.take_of_length_le hk]
 refine ZoW (Ze5 (Zeh _)).inc (ZaC l) fun x=>?_
 rw [Zho (Zeh _),(Zfo _).mem_iff,Zq7,Qc]
theorem Zq8 {l : List HRow} (h : Z8 l) : ∀ c ∈ Y0 l,Z0 c:=fun c hc=>by
 obtain ⟨r,hr,h1⟩:=Qc.1 hc
 have:=(Yk (h r hr)).2.2
 unfold ZN at this
 simp at this
 rcases h1 with rfl | rfl <;> constructor <;> omega
theorem Zeq {v : List Val} {now : List Span} {a b : Int} {k : Nat} {s : Span} (h : now[k]? = some s) : X1 v (now.take (k + 1)) a b = X1 v (now.take k) a b ++ [⟨v,⟨s,⟨a,b⟩⟩⟩]:=by
 unfold X1; rw [List.take_add_one,h]; simp
theorem ZcP (v : List Val) (now : List Span) (a b : Int) : (X1 v now a b).length = now.length:=by unfold X1; rw [List.length_map]
theorem ZhH {v : List Val} {now : List Span} {a b : Int} {k : Nat} (h : now.length ≤ k) : X1 v (now.take k) a b = X1 v now a b:=by rw [List.take_of_length_le h]
theorem Zmr {v : List Val} {f : Int → List Span} {m : Nat} (hf : ∀ c,(f c).length ≤ m) : ∀ (n : Nat) (cs : List Int),cs.length = n → (X2 v f cs).out.length ≤ n * m ∧ (X2 v f cs).now.length ≤ m
 | 0,cs,h=>by obtain rfl:=List.length_eq_zero_iff.1 h; exact ⟨by simp [X2],by simp [X2]⟩
 | n + 1,cs,h=>by
  obtain ⟨ds,c,rfl⟩ : ∃ ds c,cs = ds ++ [c]:=⟨cs.dropLast,cs.getLast (by intro e; simp [e] at h),(List.dropLast_concat_getLast _).symm⟩
  obtain ⟨h1,h2⟩:=Zmr hf n ds (by simpa using h)
  have e : X2 v f (ds ++ [c]) = Zb4 v f (X2 v f ds) c:=by simp [X2,List.foldl_append]
  rw [e]
  unfold Zb4
  split
  ·exact ⟨Nat.le_trans h1 (Nat.mul_le_mul_right _ (Nat.le_succ n)),h2⟩
  ·refine ⟨?_,hf c⟩
   simp only [List.length_append,ZcP]
   rw [Nat.add_mul,Nat.one_mul]; omega
theorem Zpj {v : List Val} {f : Int → List Span} {m : Nat} (hf : ∀ c,(f c).length ≤ m) (cs : List Int) (k : Nat) : (X2 v f (cs.take k)).out.length ≤ cs.length * m ∧ (X2 v f (cs.take k)).now.length ≤ m:=by
 have h:=Zmr (v:=v) hf _ (cs.take k) rfl
 exact ⟨Nat.le_trans h.1 (Nat.mul_le_mul_right _ (List.length_take_le' _ _)),h.2⟩
theorem ZiB {g : HGrp} (hl : g.t.length ≤ 2000) (k : Nat) : (X2 g.v (ZH g.t) ((Y0 g.t).take k)).out.length ≤ 8000000 ∧ (X2 g.v (ZH g.t) ((Y0 g.t).take k)).now.length ≤ 2000:=by
 have h:=Zpj (v:=g.v) (f:=ZH g.t) (m:=2000) (fun c=>Nat.le_trans (Zd2 _ _) hl) (Y0 g.t) k
 have h2:=Zkb g.t
 exact ⟨Nat.le_trans h.1 (Nat.le_trans (Nat.mul_le_mul_right 2000 (show (Y0 g.t).length ≤ 4000 by omega)) (by decide)),h.2⟩
theorem Zgs {g : HGrp} (hl : g.t.length ≤ 2000) : (Zfu g).length ≤ 8000000:=by
 have:=(ZiB hl (Y0 g.t).length).1
 rwa [List.take_length] at this
theorem Zq9 {g : HGrp} {k : Nat} (h : (Y0 g.t).length ≤ k) : (X2 g.v (ZH g.t) ((Y0 g.t).take k)).out = Zfu g:=by rw [List.take_of_length_le h]; rfl
theorem ZhI {v : List Val} {f : Int → List Span} {cs : List Int} {k : Nat} {c : Int} (h : cs[k]? = some c) (hn : (X2 v f (cs.take k)).now = f c) : X2 v f (cs.take (k + 1)) = X2 v f (cs.take k):=by rw [Zka h,Zd4 hn]
theorem Zjx {v : List Val} {f : Int → List Span} {cs : List Int} {k : Nat} {c : Int} (h : cs[k]? = some c) (hn : (X2 v f (cs.take k)).now ≠ f c) : X2 v f (cs.take (k + 1)) = ⟨(X2 v f (cs.take k)).out ++ X1 v (X2 v f (cs.take k)).now (X2 v f (cs.take k)).fr c,f c,c⟩:=by rw [Zka h,Zgl hn]
def Zd7 (gs : List HGrp) : List HRow:=gs.flatMap Zfu
theorem ZiC {gs : List HGrp} {k : Nat} {g : HGrp} (h : gs[k]? = some g) : Zd7 (gs.take (k + 1)) = Zd7 (gs.take k) ++ Zfu g:=by rw [List.take_add_one,h]; simp [Zd7]
theorem ZqA {gs : List HGrp} (h : ∀ g ∈ gs,g.t.length ≤ 2000) : (Zd7 gs).length ≤ gs.length * 8000000:=by
 induction gs with
 | nil=>simp [Zd7]
 | cons g gs ih=>
  have h1:=Zgs (h g (by simp))
  have h2:=ih fun x hx=>h x (by simp [hx])
  simp only [Zd7,List.flatMap_cons,List.length_append,List.length_cons] at *
  rw [Nat.add_mul]; omega
theorem ZfP {gs : List HGrp} {k : Nat} (h : ∀ g ∈ gs,g.t.length ≤ 2000) (hg : gs.length ≤ 2000) : (Zd7 (gs.take k)).length ≤ 16000000000:=by
 have h1:=ZqA (gs:=gs.take k) fun g hg=>h g (List.mem_of_mem_take hg)
 have h2:=List.length_take_le' k gs
 exact Nat.le_trans h1 (Nat.le_trans (Nat.mul_le_mul_right 8000000 (show (gs.take k).length ≤ 2000 by omega)) (by decide))
theorem ZiD {l : List HRow} : ∀ g ∈ Yx l,g.t.length ≤ l.length:=fun g hg=>by
 unfold Yx at hg
 obtain ⟨v,_,rfl⟩:=List.mem_map.1 hg
 exact List.length_filter_le _ _
theorem ZdU {l : List HRow} : (Yx l).length ≤ l.length:=by unfold Yx; rw [List.length_map]; exact ZjY l
theorem ZqB {l : List HRow} (h : Z8 l) : ∀ g ∈ Yx l,Z8 g.t:=fun g hg=>by
 unfold Yx at hg
 obtain ⟨v,_,rfl⟩:=List.mem_map.1 hg
 exact h.of v
theorem ZgR {l : List HRow} (h : Z8 l) (hl : l.length ≤ 2000) {k : Nat} {g : HGrp} (hg : (Yx l)[k]? = some g) : Z8 g.t ∧ g.t.length ≤ 2000:=
 ⟨ZqB h g (List.mem_of_getElem? hg),Nat.le_trans (ZiD g (List.mem_of_getElem? hg)) hl⟩
theorem Zc3 {l : List HRow} (h : Z8 l) (tx : Int) : Can (ZH l tx):=(Q7 fun s hs=>YG (ZbP h.d tx s hs)).can
theorem Zht {l : List HRow} (h : Z8 l) (tx : Int) : ∀ s ∈ ZH l tx,ZN s = true:=ZiA (ZbP h.d tx)
theorem Ztk {l : List HRow} (h : Z8 l) (tx : Int) : ∀ s ∈ ZH l tx,XD s = true:=fun s hs=>Zcg (Zht h tx s hs)
theorem Zkk {l : List Span} (h : ∀ s ∈ l,ZN s = true) : (l.any fun x=>!XD x) = false:=by
 rw [List.any_eq_false]; intro s hs; rw [Zcg (h s hs)]; simp
theorem ZvN {b x : Int} (h : (if b ≤ x then (-1 : Int) else 1) < 0) : b ≤ x:=by split at h <;> omega
theorem Ztl {b x : Int} (h : 0 ≤ (if b ≤ x then (-1 : Int) else 1)) : x < b:=by split at h <;> omega
theorem Ztm {b x : Int} (h : (if b ≤ x then (-1 : Int) else 1) = 0) : False:=by split at h <;> omega
theorem ZqC {b x : Int} : Cmp.b .eql (if b ≤ x then (-1 : Int) else 1) 0 = false:=decide_eq_false fun h=>Ztm h
def Zc4 (l : List Span) (x : Int) : Nat:=(l.takeWhile fun s=>decide (s.b ≤ x)).length
def Zms (l : List Span) (x : Int) (i : Nat) : Prop:=∀ j,j < i → ∀ s,l[j]? = some s → s.b ≤ x
def ZiE (l : List Span) (x : Int) (j : Nat) : Prop:=∀ m,j ≤ m → ∀ s,l[m]? = some s → x < s.b
theorem Zmt {l : List Span} (h : Can l) {i j : Nat} {s t : Span} (hi : l[i]? = some s) (hj : l[j]? = some t) (hij : i < j) : s.b < t.a ∧ t.a < t.b:=by
 have hp:=h.apart
 rw [List.pairwise_iff_getElem] at hp
 obtain ⟨hi1,rfl⟩:=List.getElem?_eq_some_iff.1 hi
 obtain ⟨hj1,rfl⟩:=List.getElem?_eq_some_iff.1 hj
 exact ⟨hp i j hi1 hj1 hij,h.pos _ (List.getElem_mem hj1)⟩
theorem Zms.zero {l : List Span} {x : Int} : Zms l x 0:=fun j hj=>by omega
theorem ZiE.all {l : List Span} {x : Int} : ZiE l x l.length:=fun m hm s hs=>by have:=(List.getElem?_eq_some_iff.1 hs).1; omega
theorem Zms.step {l : List Span} {x : Int} {h : Nat} {s : Span} (hc : Can l) (hs : l[h]? = some s) (hx : s.b ≤ x) : Zms l x (h + 1):=fun j hj t ht=>by
 rcases Nat.lt_or_ge j h with k | k
 ·have:=Zmt hc ht hs k; omega
 ·obtain rfl : j = h:=by omega
  rw [ht] at hs; obtain rfl:=Option.some.inj hs; exact hx
theorem ZiE.step {l : List Span} {x : Int} {h : Nat} {s : Span} (hc : Can l) (hs : l[h]? = some s) (hx : x < s.b) : ZiE l x h:=fun m hm t ht=>by
 rcases Nat.lt_or_ge h m with k | k
 ·have:=Zmt hc hs ht k; omega
 ·obtain rfl : h = m:=by omega
  rw [ht] at hs; obtain rfl:=Option.some.inj hs; exact hx
theorem ZfQ {α : Type} {p : α → Bool} : ∀ {l : List α} {i : Nat},i ≤ l.length → (∀ j,j < i → ∀ s,l[j]? = some s → p s = true) → (∀ s,l[i]? = some s → p s = false) → (l.takeWhile p).length = i
 | [],i,hi,_,_=>by simp at hi; simp [hi]
 | x :: l,0,_,_,h=>by rw [List.takeWhile_cons,h x rfl]; rfl
 | x :: l,i + 1,hi,h1,h2=>by
  rw [List.takeWhile_cons,h1 0 (by omega) x rfl]
  simp only [if_true,List.length_cons]
  rw [ZfQ (i:=i) (by simpa using hi) (fun j hj s hs=>h1 (j + 1) (by omega) s (by simpa using hs)) (fun s hs=>h2 s (by simpa using hs))]
theorem ZvO {l : List Span} {x : Int} {i j : Nat} (h1 : Zms l x i) (h2 : ZiE l x j) (hij : i = j) (hi : i ≤ l.length) : Zc4 l x = i:=by
 subst hij
 exact ZfQ hi (fun j hj s hs=>decide_eq_true (h1 j hj s hs)) (fun s hs=>decide_eq_false (by have:=h2 i (Nat.le_refl _) s hs; omega))
theorem Zf1 {l : List Span} {x : Int} : Zc4 l x ≤ l.length ∧ (∀ j,j < Zc4 l x → ∀ s,l[j]? = some s → s.b ≤ x) ∧ ∀ s,l[Zc4 l x]? = some s → x < s.b:=by
 unfold Zc4
 induction l with
 | nil=>simp
 | cons y l ih=>
  rw [List.takeWhile_cons]
  cases hy : decide (y.b ≤ x) with
  | false=>simp only [Bool.false_eq_true,if_false,List.length_nil]; exact ⟨Nat.zero_le _,fun j hj=>by omega,fun s hs=>by simp at hs; subst hs; simpa using hy⟩
  | true=>
   simp only [if_true,List.length_cons]
   refine ⟨by omega,fun j hj s hs=>?_,fun s hs=>ih.2.2 s (by simpa using hs)⟩
   cases j with
   | zero=>simp at hs; subst hs; simpa using hy
   | succ j=>exact ih.2.1 j (by omega) s (by simpa using hs)
theorem ZvP {l : List Span} {x : Int} {s : Span} (h : Can l) (hs : l[Zc4 l x]? = some s) (hx : s.a ≤ x) : Xx l x = true:=by
 unfold Xx
 rw [List.any_eq_true]
 exact ⟨s,List.mem_of_getElem? hs,by simp; exact ⟨hx,Zf1.2.2 s hs⟩⟩
theorem ZqD {l : List Span} {x : Int} (h : Can l) (hs : ∀ s,l[Zc4 l x]? = some s → x < s.a) : Xx l x = false:=by
 rw [Bool.eq_false_iff]
 intro e
 unfold Xx at e
 rw [List.any_eq_true] at e
 obtain ⟨s,hm,h1⟩:=e
 simp at h1
 obtain ⟨j,hj⟩:=List.getElem?_of_mem hm
 rcases Nat.lt_trichotomy j (Zc4 l x) with k | k | k
 ·have:=Zf1.2.1 j k s hj; omega
 ·subst k; have:=hs s hj; omega
 ·have hlt:=(List.getElem?_eq_some_iff.1 hj).1
  obtain ⟨t,ht⟩ : ∃ t,l[Zc4 l x]? = some t:=⟨_,List.getElem?_eq_getElem (by omega)⟩
  have h2:=Zmt h ht hj k
  have h3:=Zf1.2.2 t ht
  omega
theorem ZxA {l : List Span} {x : Int} {s : Span} (h : Can l) (hs : l[Zc4 l x]? = some s) : Cmp.b .leq s.a x = Xx l x:=by
 by_cases k : s.a ≤ x
 ·rw [ZvP h hs k]; exact decide_eq_true k
 ·rw [ZqD h fun t ht=>by rw [hs] at ht; obtain rfl:=Option.some.inj ht; omega]; exact decide_eq_false k
end Go.Civ
