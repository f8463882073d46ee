/- Lemmas. -/
import Derived.Test.YthgeclodflmiaaaGreatC06
import Derived.Test.YthgeclodflmiaaaGreatC08
import Derived.Test.YthgeclodflmiaaaGreatC12
import Derived.Test.YthgeclodflmiaaaGreatC13
import Derived.Test.YthgeclodflmiaaaGreatC14
namespace Go.Civ
open Go.RowKit
set_option linter.unusedVariables false
structure KeyOk (v : List Val) : Prop where
 len : v.length ≤ 1000
 ok : v.all ZK = true
 i64 : ∀ x ∈ v,Z1 x.n
def Q3 (out : List HGrp) (s : List UInt8) : Option Int:=((out.map HGrp.v).findIdx? fun v=>decide (XY v = s)).map Int.ofNat
theorem Zez {α : Type} {p q : α → Bool} : ∀ {l : List α},(∀ x ∈ l,p x = q x) → l.findIdx? p = l.findIdx? q
 | [],_=>rfl
 | x :: l,h=>by rw [List.findIdx?_cons,List.findIdx?_cons,h x (by simp),Zez fun y hy=>h y (by simp [hy])]
theorem Zp8 {out : List HGrp} {v : List Val} : Zdx out v = (out.map HGrp.v).findIdx? fun u=>decide (u = v):=by
 unfold Zdx; rw [List.findIdx?_map]; rfl
theorem ZhY {out : List HGrp} {v : List Val} (ho : ∀ g ∈ out,KeyOk g.v) (hv : KeyOk v) : Q3 out (XY v) = (Zdx out v).map Int.ofNat:=by
 unfold Q3
 rw [Zp8]
 congr 1
 refine Zez fun u hu=>?_
 obtain ⟨g,hg,rfl⟩:=List.mem_map.1 hu
 have k:=ho g hg
 exact decide_eq_decide.2 ⟨fun e=>ZoW k.len hv.len k.ok hv.ok k.i64 hv.i64 e,fun e=>by rw [e]⟩
theorem ZgC {out : List HGrp} {i : Nat} {r : HRow} : Q3 (ZbF out i r) = Q3 out:=by
 funext s; unfold Q3; rw [ZeH]
theorem Zmo {out : List HGrp} {v : List Val} {t : List HRow} (h : Q3 out (XY v) = none) : Q3 (out ++ [⟨v,t⟩]) = fun s=>if s = XY v then some (out.length : Int) else Q3 out s:=by
 funext s
 unfold Q3 at *
 rw [List.map_append,List.findIdx?_append]
 split
 ·rename_i e
  subst e
  rw [Option.map_eq_none_iff] at h
  rw [h]
  simp
 ·rename_i e
  cases hf : (out.map HGrp.v).findIdx? fun u=>decide (XY u = s) with
  | some i=>simp
  | none=>simp [Ne.symm e]
theorem ZjG {l : List HRow} (h : ∀ r ∈ l,KeyOk r.v) : ∀ g ∈ hgroups l,KeyOk g.v:=fun g hg=>by
 obtain ⟨r,hr,e⟩:=((Zcr l).mem g.v).1 (List.mem_map.2 ⟨g,hg,rfl⟩)
 rw [← e]; exact h r hr
theorem ZgD {l : List HRow} (h : ∀ r ∈ l,KeyOk r.v) (k : Nat) : ∀ g ∈ hgroups (l.take k),KeyOk g.v:=ZjG fun r hr=>h r (List.mem_of_mem_take hr)
theorem Sl.i64 {G : GH} {v : Value} {l : List Val} (h : Sl ValE 32 G v l) : ∀ x ∈ l,Z1 x.n:=fun x hx=>by
 obtain ⟨i,hi⟩:=List.getElem?_of_mem hx
 obtain ⟨a,cap,_,_,_,_,h4⟩:=h
 obtain ⟨p,_,_,cs,_,hr⟩:=h4 i x hi
 exact (Y4 hr).2.2.1
theorem Zp9 {G : GH} {v : Value} {r : HRow} (h : Sl ValE 32 G v r.v) (hg : Y1 r = true) (hl : r.v.length ≤ 1000) : KeyOk r.v:=⟨hl,(Yd hg).1,h.i64⟩
theorem Zmp {G : GH} {vl : Value} {l : List HRow} (h : Sl HRowE 56 G vl l) (hg : Z5 l) (hl : ∀ r ∈ l,r.v.length ≤ 1000) : ∀ r ∈ l,KeyOk r.v:=fun r hr=>by
 obtain ⟨i,hi⟩:=List.getElem?_of_mem hr
 obtain ⟨a,cap,_,_,_,_,h4⟩:=h
 obtain ⟨p,_,_,cs,_,hrep⟩:=h4 i r hi
 obtain ⟨v,_,hs,_⟩:=Z7 hrep
 exact Zp9 hs (hg r hr) (hl r hr)
theorem ZpA {l : List HRow} {k : Nat} {r : HRow} {c : Int} (h : ∀ r ∈ l,KeyOk r.v) (hk : l[k]? = some r) (hc : Q3 (hgroups (l.take k)) (XY r.v) = some c) :
  ∃ i : Nat,c = (i : Int) ∧ i < (hgroups (l.take k)).length ∧ hgroups (l.take (k + 1)) = ZbF (hgroups (l.take k)) i r:=by
 rw [ZhY (ZgD h k) (h r (List.mem_of_getElem? hk)),Option.map_eq_some_iff] at hc
 obtain ⟨i,hi,rfl⟩:=hc
 obtain ⟨g,hg,_⟩:=ZhT hi
 refine ⟨i,rfl,(List.getElem?_eq_some_iff.1 hg).1,?_⟩
 rw [ZcH hk]; unfold Zdd; rw [hi]
theorem ZpB (out : List HGrp) (v : List Val) (r : HRow) : ZbF (out ++ [⟨v,[]⟩]) out.length r = out ++ [⟨v,[r]⟩]:=by
 rw [Zht (g:=⟨v,[]⟩) r (by simp)]
 rw [List.set_append_right _ _ (Nat.le_refl _)]; simp
theorem Ztm {l : List HRow} {k : Nat} {r : HRow} (h : ∀ r ∈ l,KeyOk r.v) (hk : l[k]? = some r) (hc : Q3 (hgroups (l.take k)) (XY r.v) = none) :
  hgroups (l.take (k + 1)) = ZbF (hgroups (l.take k) ++ [⟨r.v,[]⟩]) (hgroups (l.take k)).length r:=by
 rw [ZhY (ZgD h k) (h r (List.mem_of_getElem? hk)),Option.map_eq_none_iff] at hc
 rw [ZcH hk,ZpB]; unfold Zdd; rw [hc]
theorem Zn1 {l : List HRow} {k i : Nat} {r : HRow} (h : hgroups (l.take (k + 1)) = ZbF (hgroups (l.take k)) i r) : Q3 (hgroups (l.take (k + 1))) = Q3 (hgroups (l.take k)):=by rw [h,ZgC]
theorem ZrE {l : List HRow} {k : Nat} {r : HRow} (h : hgroups (l.take (k + 1)) = ZbF (hgroups (l.take k) ++ [⟨r.v,[]⟩]) (hgroups (l.take k)).length r) (hc : Q3 (hgroups (l.take k)) (XY r.v) = none) :
  Q3 (hgroups (l.take (k + 1))) = fun s=>if s = XY r.v then some (((hgroups (l.take k)).length : Nat) : Int) else Q3 (hgroups (l.take k)) s:=by
 rw [h,ZgC,Zmo hc]
structure HRel (e : TypeId) (G : GH) (gs : List HGrp) (L : List (List Val × Value)) (O : Own) : Prop where
 len : L.length = gs.length
 olen : O.length = gs.length
 at_ : ∀ (i : Nat) g,gs[i]? = some g → ∃ p o,L[i]? = some p ∧ O[i]? = some o ∧ p.1 = g.v ∧ Yb HRowE 56 e G p.2 g.t o
section
variable {e : TypeId} {G G' : GH} {gs : List HGrp} {L : List (List Val × Value)} {O : Own}
theorem HRel.nil : HRel e G [] [] []:=⟨rfl,rfl,fun i g h=>by simp at h⟩
theorem HRel.mono (h : HRel e G gs L O) (k : G.le G') : HRel e G' gs L O:=⟨h.len,h.olen,fun i g hg=>by
 obtain ⟨p,o,h1,h2,h3,h4⟩:=h.at_ i g hg
 exact ⟨p,o,h1,h2,h3,h4.mono k⟩⟩
theorem HRel.atL (h : HRel e G gs L O) {i : Nat} {p : List Val × Value} (hp : L[i]? = some p) : ∃ g o,gs[i]? = some g ∧ O[i]? = some o ∧ p.1 = g.v ∧ Yb HRowE 56 e G p.2 g.t o:=by
 have hl:=(List.getElem?_eq_some_iff.1 hp).1
 rw [h.len] at hl
 obtain ⟨q,o,h1,h2,h3,h4⟩:=h.at_ i gs[i] (List.getElem?_eq_getElem hl)
 rw [hp] at h1
 obtain rfl:=Option.some.inj h1
 exact ⟨_,o,List.getElem?_eq_getElem hl,h2,h3,h4⟩
theorem HRel.push (h : HRel e G gs L O) (v : List Val) : HRel e G (gs ++ [⟨v,[]⟩]) (L ++ [(v, .slice none 0 0)]) (O ++ [none]):=by
 refine ⟨by simp [h.len],by simp [h.olen],fun i g hg=>?_⟩
 rw [List.getElem?_append] at hg
 split at hg
 ·rename_i hi
  obtain ⟨p,o,h1,h2,h3,h4⟩:=h.at_ i g hg
  exact ⟨p,o,by rw [List.getElem?_append_left (by rw [h.len]; exact hi)]; exact h1,by rw [List.getElem?_append_left (by rw [h.olen]; exact hi)]; exact h2,h3,h4⟩
 ·rename_i hi
  obtain rfl : i = gs.length:=by
   have:=(List.getElem?_eq_some_iff.1 hg).1
   simp only [List.length_singleton] at this; omega
  simp at hg
  subst hg
  exact ⟨(v, .slice none 0 0),none,by rw [← h.len]; simp,by rw [← h.olen]; simp,rfl,Yb.nil _ _ _ _⟩
theorem HRel.set (h : HRel e G gs L O) {i : Nat} {g : HGrp} (hg : gs[i]? = some g) {r : HRow} {p1 : List Val} {v2 : Value} {o2 : OB} (hp : p1 = g.v) (hr : Yb HRowE 56 e G v2 (g.t ++ [r]) o2) : HRel e G (ZbF gs i r) (L.set i (p1,v2)) (O.set i o2):=by
 subst hp
 have hi:=(List.getElem?_eq_some_iff.1 hg).1
 rw [Zht r hg]
 refine ⟨by simp [h.len],by simp [h.olen],fun j q hq=>?_⟩
 rw [List.getElem?_set] at hq
 split at hq
 ·rename_i hj; subst hj
  obtain rfl : _ = q:=by first | (rw [if_pos hi] at hq; exact Option.some.inj hq) | exact Option.some.inj hq
  exact ⟨(g.v,v2),o2,by rw [List.getElem?_set_self (by rw [h.len]; exact hi)],by rw [List.getElem?_set_self (by rw [h.olen]; exact hi)],rfl,hr⟩
 ·rename_i hj
  obtain ⟨p,o,h1,h2,h3,h4⟩:=h.at_ j q hq
  exact ⟨p,o,by rw [List.getElem?_set_ne hj]; exact h1,by rw [List.getElem?_set_ne hj]; exact h2,h3,h4⟩
variable {w0 w : World} {X : List Nat} {G0 : GH}
theorem St.padEnd {L : Own} (h : St w0 X G0 G L w) : St w0 X G0 G (L ++ [none]) w:=by
 have look : ∀ (j : Nat) p,(L ++ [none])[j]? = some (some p) → L[j]? = some (some p):=fun j p hp=>by
  rw [List.getElem?_append] at hp
  split at hp
  ·exact hp
  ·rw [List.getElem?_singleton] at hp; split at hp <;> cases hp
 exact ⟨h.kept,h.le,h.new,h.imm,fun j p hp=>h.own j p (look j p hp),fun j p hp=>h.sep j p (look j p hp),fun j k p q hp hq he=>h.nd j k p q (look j p hp) (look k q hq) he⟩
theorem St.dropAt1 {L : Own} {a b : OB} (h : St w0 X G0 G (a :: b :: L) w) : St w0 X G0 G (a :: L) w:=by
 refine h.reindex _ (fun j=>if j = 0 then 0 else j + 1) (fun j p hp=>?_) (fun j k _ _ he=>?_)
 ·cases j with
  | zero=>simpa using hp
  | succ j=>simpa using hp
 ·split at he <;> split at he <;> omega
def HSl (G : GH) (gs : List HGrp) (L : List (List Val × Value)) : Prop:=L.length = gs.length ∧ ∀ (i : Nat) g,gs[i]? = some g → ∃ p,L[i]? = some p ∧ p.1 = g.v ∧ Sl HRowE 56 G p.2 g.t
theorem ZhZ : ∀ {O : Own} {G : GH} {gs : List HGrp} {L : List (List Val × Value)} {ro : OB},St w0 [] G0 G (ro :: O) w → HRel e G gs L O → ∃ G',G.le G' ∧ St w0 [] G0 G' [ro] w ∧ HSl G' gs L
 | [],G,gs,L,ro,hS,h=>by
  have e1 : gs = []:=List.eq_nil_of_length_eq_zero h.olen.symm
  subst e1
  exact ⟨G,G.le_refl,hS,h.len,fun i g hg=>by simp at hg⟩
 | o :: O,G,[],L,ro,hS,h=>by have:=h.olen; simp at this
 | o :: O,G,g :: gs,[],ro,hS,h=>by have:=h.len; simp at this
 | o :: O,G,g :: gs,p :: L,ro,hS,h=>by
  obtain ⟨p',o',h1,h2,h3,h4⟩:=h.at_ 0 g rfl
  obtain rfl : p = p':=by simpa using h1
  obtain rfl : o = o':=by simpa using h2
  obtain ⟨G1,k1,k2,k3⟩:=Yb.freeze h4 hS 1 rfl
  have hrest : HRel e G1 gs L O:=⟨by simpa using h.len,by simpa using h.olen,fun i q hq=>by
   obtain ⟨p2,o2,j1,j2,j3,j4⟩:=h.at_ (i + 1) q (by simpa using hq)
   exact ⟨p2,o2,by simpa using j1,by simpa using j2,j3,j4.mono k1⟩⟩
  obtain ⟨G2,m1,m2,m3,m4⟩:=ZhZ (St.dropAt1 k3) hrest
  refine ⟨G2,k1.trans m1,m2,by simp [m3],fun i q hq=>?_⟩
  cases i with
  | zero=>simp at hq; subst hq; exact ⟨p,rfl,h3,k2.mono m1⟩
  | succ i=>simpa using m4 i q (by simpa using hq)
theorem ZeO {G : GH} : ∀ {L : List (List Val × Value)} {gs : List HGrp} {xs : List Value},L.length = gs.length → (∀ (i : Nat) g,gs[i]? = some g → ∃ p,L[i]? = some p ∧ p.1 = g.v ∧ Sl HRowE 56 G p.2 g.t) → Xp ZdA G L xs → Xp Zbr G gs xs
 | [],[],xs,_,_,h=>h
 | [],g :: gs,xs,hl,_,_=>by simp at hl
 | p :: L,[],xs,hl,_,_=>by simp at hl
 | p :: L,g :: gs,xs,hl,h,⟨c,r,h1,h2,h3⟩=>by
  obtain ⟨p',k1,k2,k3⟩:=h 0 g rfl
  obtain rfl : p = p':=by simpa using k1
  obtain ⟨v,rfl,hv,_⟩:=ZaT h2
  refine ⟨_,r,h1,ZdW g (k2 ▸ hv) k3,ZeO (by simpa using hl) (fun i q hq=>?_) h3⟩
  simpa using h (i + 1) q (by simpa using hq)
theorem Yb.hgroups {e : TypeId} {v : Value} {o : OB} {G : GH} {gs : List HGrp} {L : List (List Val × Value)} (hr : Yb ZdA 48 e G v L o) (h : HSl G gs L) : Yb Zbr 48 e G v gs o:=by
 obtain ⟨hl,h⟩:=h
 rcases hr with ⟨rfl,rfl,rfl⟩ | ⟨b,cs,cap,xs,rfl,rfl,h3,h4,h5,h6,h7,h8,h9⟩
 ·have : gs = []:=List.eq_nil_of_length_eq_zero hl.symm
  subst this
  exact .inl ⟨rfl,rfl,rfl⟩
 ·refine .inr ⟨b,cs,cap,xs,rfl,by rw [hl],by rw [← hl]; exact h3,h4,h5,ZeO hl h h6,?_,by rw [← hl]; exact h8,by rw [← hl]; exact h9⟩
  rw [← hl]; exact h7
end
theorem Zeb.mono {P : Program} {Kt E : TypeId} {w : World} {b n n' : Nat} {f : List UInt8 → Option Int} (h : Zeb P Kt E w b n f) (hn : n ≤ n') : Zeb P Kt E w b n' f:=by
 obtain ⟨D,h1,h2,h3⟩:=h
 exact ⟨D,h1,h2.mono hn,h3⟩
theorem ZpC (l : List HRow) (k : Nat) : (hgroups (l.take k)).length ≤ l.length:=by
 have h1:=Zdy l k
 rcases Nat.lt_or_ge k l.length with h | h
 ·omega
 ·have h2:=Zdy l l.length
  rw [List.take_of_length_le h]; rwa [List.take_length] at h2
end Go.Civ
namespace Go.Civ
theorem Zmq {l : List HRow} (h : Z5 l) : ∀ g ∈ hgroups l,g.v.all ZK = true:=fun g hg=>by
 obtain ⟨r,hr,e⟩:=((Zcr l).mem g.v).1 (List.mem_map.2 ⟨g,hg,rfl⟩)
 rw [← e]; exact (Yd (h r hr)).1
end Go.Civ
namespace Go.Civ
theorem Zlf {l : List HRow} {k i : Nat} {g : HGrp} (h : (hgroups (l.take k))[i]? = some g) : g.t.length ≤ l.length:=by
 rw [(Zcr (l.take k)).rows g (List.mem_of_getElem? h)]
 unfold Xy
 exact Nat.le_trans (List.length_filter_le _ _) (List.length_take_le' _ _)
theorem ZpD {l : List HRow} {k i : Nat} {g : HGrp} {v : List Val} (h : (hgroups (l.take k) ++ [⟨v,[]⟩])[i]? = some g) : g.t.length ≤ l.length:=by
 rw [List.getElem?_append] at h
 split at h
 ·exact Zlf h
 ·rw [List.getElem?_singleton] at h
  split at h
  ·obtain rfl:=Option.some.inj h; exact Nat.zero_le _
  ·cases h
end Go.Civ
namespace Go.Civ
open Go.RowKit
set_option linter.unusedVariables false
section
variable {P : Program} {Q : Exit → Env → World → Prop} {ρ : Env} {w : World} {ops : Array Oper} {rest : List Oper} {K : Env → World → Prop}
variable {d : Nat} {ty : TypeId} {pos : String} {af : Array Edge} {g : Option (Nat × Bool)} {G : GH}
theorem Zlg {t ty' : TypeId} {x y : Operand} (a b : Nat) (hb : 0 < b) (ha : a ≤ 4 * reach)
  (hw : Region.wanted ⟨some d, .binOp .quo t x y ty',ty,pos,af,g⟩ (Zo ops ρ) = true) (hx : ev ρ x = .int .i64 (a : Int)) (hy : ev ρ y = .int .i64 (b : Int))
  (kk : K (ZC ρ d (.int .i64 ((a / b : Nat) : Int))) w) : OW P ops ⟨some d, .binOp .quo t x y ty',ty,pos,af,g⟩ ρ w K:=by
 have h1 : a / b ≤ a:=Nat.div_le_self a b
 have e1 : Int.tdiv (a : Int) (b : Int) = ((a / b : Nat) : Int):=by rw [Int.tdiv_eq_ediv_of_nonneg (by omega)]; simp
 generalize a / b = q at h1 e1 kk
 refine WL.val hw ?_ rfl kk
 have hI : Z1 (q : Int):=by clear e1; exact ⟨by omega,by unfold reach at ha; omega⟩
 simp [execOp,hx,hy,binOp,ZaY,Op.intDiv,show b ≠ 0 by omega,e1,Zd5 hI,Result.andThen]
theorem X5 {t ty' : TypeId} {x y : Operand} (a b : Nat) (hb : 0 < b) (ha : a ≤ 4 * reach)
  (hw : Region.wanted ⟨some d, .binOp .rem t x y ty',ty,pos,af,g⟩ (Zo ops ρ) = true) (hx : ev ρ x = .int .i64 (a : Int)) (hy : ev ρ y = .int .i64 (b : Int))
  (kk : K (ZC ρ d (.int .i64 ((a % b : Nat) : Int))) w) : OW P ops ⟨some d, .binOp .rem t x y ty',ty,pos,af,g⟩ ρ w K:=by
 have e1 : Int.tmod (a : Int) (b : Int) = ((a % b : Nat) : Int):=by rw [Int.tmod_eq_emod_of_nonneg (by omega)]; simp
 generalize a % b = q at e1 kk
 refine WL.val hw ?_ rfl kk
 simp [execOp,hx,hy,binOp,ZaY,Op.intDiv,show b ≠ 0 by omega,e1,Result.andThen]
end
theorem ZrF {l : List Span} (h : Can l) {k : Nat} {x y : Span} (hx : l[k - 1]? = some x) (hy : l[k]? = some y) (hk : 0 < k) (hge : x.b ≥ y.a) : False:=by
 obtain ⟨h1,rfl⟩:=List.getElem?_eq_some_iff.1 hx
 obtain ⟨h2,rfl⟩:=List.getElem?_eq_some_iff.1 hy
 have:=List.pairwise_iff_getElem.1 h.apart (k - 1) k h1 h2 (by omega)
 omega
def Zb (l : List Span) (n : Nat) : Int:=if n = 2 * l.length then 8796093022208 else match l[n / 2]? with | some s=>if n % 2 = 0 then s.a else s.b | none=>0
theorem Zdg {l : List Span} {n : Nat} (h : n = 2 * l.length) : Zb l n = 8796093022208:=by unfold Zb; rw [if_pos h]
theorem ZrG {l : List Span} {n : Nat} {s : Span} (h : n ≠ 2 * l.length) (hs : l[n / 2]? = some s) (h0 : n % 2 = 0) : Zb l n = s.a:=by unfold Zb; rw [if_neg h,hs]; simp [h0]
theorem ZrH {l : List Span} {n : Nat} {s : Span} (h : n ≠ 2 * l.length) (hs : l[n / 2]? = some s) (h0 : n % 2 ≠ 0) : Zb l n = s.b:=by unfold Zb; rw [if_neg h,hs]; simp [h0]
structure Behind (l : List Span) (n : Nat) (T : Int) : Prop where
 le : n ≤ 2 * l.length
 lo : ∀ (j : Nat) s,l[j]? = some s → (2 * j < n → s.a ≤ T) ∧ (2 * j + 1 < n → s.b ≤ T)
 hi : ∀ (j : Nat) s,l[j]? = some s → (n ≤ 2 * j → T < s.a) ∧ (n ≤ 2 * j + 1 → T < s.b)
theorem Behind.start {l : List Span} {T : Int} (h : ∀ s ∈ l,T < s.a ∧ T < s.b) : Behind l 0 T:=
 ⟨by omega,fun j s hs=>⟨fun h=>by omega,fun h=>by omega⟩,fun j s hs=>⟨fun _=>(h s (List.mem_of_getElem? hs)).1,fun _=>(h s (List.mem_of_getElem? hs)).2⟩⟩
theorem Behind.cover {l : List Span} {n : Nat} {T : Int} (h : Behind l n T) : cover l T ↔ n % 2 = 1:=by
 constructor
 ·rintro ⟨s,hs,h1,h2⟩
  obtain ⟨j,hj,rfl⟩:=List.mem_iff_getElem.1 hs
  have e:=List.getElem?_eq_getElem hj
  have a1:=(h.hi j _ e).1
  have a2:=(h.lo j _ e).2
  have b1 : ¬ n ≤ 2 * j:=fun q=>by have:=a1 q; omega
  have b2 : ¬ 2 * j + 1 < n:=fun q=>by have:=a2 q; omega
  omega
 ·intro hn
  have hl:=h.le
  have hj : n / 2 < l.length:=by omega
  have e:=List.getElem?_eq_getElem hj
  exact ⟨_,List.getElem_mem hj,(h.lo _ _ e).1 (by omega),(h.hi _ _ e).2 (by omega)⟩
theorem Zct {l : List Span} {n : Nat} (h : n < 2 * l.length) : ∃ s,l[n / 2]? = some s ∧ Zb l n = if n % 2 = 0 then s.a else s.b:=by
 have hj : n / 2 < l.length:=by omega
 refine ⟨_,List.getElem?_eq_getElem hj,?_⟩
 unfold Zb; rw [if_neg (by omega),List.getElem?_eq_getElem hj]
theorem ZjH {l : List Span} {n : Nat} (h : n < 2 * l.length) (hv : ∀ s ∈ l,s.a < 8796093022208 ∧ s.b < 8796093022208) : Zb l n < 8796093022208:=by
 obtain ⟨s,hs,e⟩:=Zct h
 have:=hv s (List.mem_of_getElem? hs)
 rw [e]; split <;> omega
theorem Behind.gt {l : List Span} {n : Nat} {T : Int} (h : Behind l n T) (hT : T < 8796093022208) : T < Zb l n:=by
 by_cases hn : n = 2 * l.length
 ·rw [Zdg hn]; exact hT
 ·have hl:=h.le
  obtain ⟨s,hs,e⟩:=Zct (l:=l) (n:=n) (by omega)
  rw [e]
  have:=h.hi _ _ hs
  split
  ·exact this.1 (by omega)
  ·exact this.2 (by omega)
theorem Zia {l : List Span} {n : Nat} (hC : Can l) (hn : n < 2 * l.length) (j : Nat) (s : Span) (hs : l[j]? = some s) : (n ≤ 2 * j → Zb l n ≤ s.a) ∧ (n ≤ 2 * j + 1 → Zb l n ≤ s.b) ∧ (n < 2 * j → Zb l n < s.a) ∧ (n < 2 * j + 1 → Zb l n < s.b):=by
 obtain ⟨s0,h0,e⟩:=Zct hn
 have p0:=hC.pos s0 (List.mem_of_getElem? h0)
 have p1:=hC.pos s (List.mem_of_getElem? hs)
 have ap : n / 2 < j → s0.b < s.a:=fun hlt=>by
  obtain ⟨q1,rfl⟩:=List.getElem?_eq_some_iff.1 h0
  obtain ⟨q2,rfl⟩:=List.getElem?_eq_some_iff.1 hs
  exact List.pairwise_iff_getElem.1 hC.apart _ _ q1 q2 hlt
 have eq : n / 2 = j → s0 = s:=fun he=>by rw [he] at h0; exact Option.some.inj (h0.symm.trans hs)
 rw [e]
 by_cases hj : n / 2 = j
 ·have:=eq hj; subst this
  refine ⟨fun q=>?_,fun q=>?_,fun q=>?_,fun q=>?_⟩ <;> split <;> omega
 ·refine ⟨fun q=>?_,fun q=>?_,fun q=>?_,fun q=>?_⟩ <;> (have:=ap (by omega); split <;> omega)
theorem Behind.up {l : List Span} {n : Nat} {T T' : Int} (h : Behind l n T) (hC : Can l) (hT : T ≤ T') (hlt : T' < Zb l n ∨ n = 2 * l.length) : Behind l n T':=by
 refine ⟨h.le,fun j s hs=>⟨fun q=>Int.le_trans ((h.lo j s hs).1 q) hT,fun q=>Int.le_trans ((h.lo j s hs).2 q) hT⟩,fun j s hs=>?_⟩
 have hj:=(List.getElem?_eq_some_iff.1 hs).1
 by_cases hn : n = 2 * l.length
 ·exact ⟨fun q=>by omega,fun q=>by omega⟩
 ·have hl:=h.le
  have hm:=Zia hC (n:=n) (by omega) j s hs
  have hlt' : T' < Zb l n:=by rcases hlt with h1 | h1 <;> omega
  exact ⟨fun q=>by have:=hm.1 q; omega,fun q=>by have:=hm.2.1 q; omega⟩
theorem Behind.step {l : List Span} {n : Nat} {T T' : Int} (h : Behind l n T) (hC : Can l) (hT : T ≤ T') (hn : n < 2 * l.length) (he : Zb l n = T') : Behind l (n + 1) T':=by
 refine ⟨by omega,fun j s hs=>?_,fun j s hs=>?_⟩
 ·obtain ⟨s0,h0,e⟩:=Zct hn
  have eq : n / 2 = j → s0 = s:=fun he=>by rw [he] at h0; exact Option.some.inj (h0.symm.trans hs)
  constructor
  ·intro q
   by_cases hq : 2 * j < n
   ·exact Int.le_trans ((h.lo j s hs).1 hq) hT
   ·have:=eq (by omega); subst this
    rw [if_pos (by omega)] at e; omega
  ·intro q
   by_cases hq : 2 * j + 1 < n
   ·exact Int.le_trans ((h.lo j s hs).2 hq) hT
   ·have:=eq (by omega); subst this
    rw [if_neg (by omega)] at e; omega
 ·have hm:=Zia hC hn j s hs
  exact ⟨fun q=>by have:=hm.2.2.1 (by omega); omega,fun q=>by have:=hm.2.2.2 (by omega); omega⟩
def Zbu (i k : Nat) : Bool:=decide (((i % 2 : Nat) : Int) = 1) && !decide (((k % 2 : Nat) : Int) = 1)
structure Sweep (a b : List Span) (i k : Nat) (ins : Bool) (fr : Int) (out : List Span) (T : Int) : Prop where
 ba : Behind a i T
 bb : Behind b k T
 st : ins = Zbu i k
 can : Can out
 top : ∀ s ∈ out,s.b ≤ fr ∧ (ins = true → s.b < fr)
 frT : fr ≤ T ∨ (ins = false ∧ out = [])
 cov : ∀ x,x < T → ((cover out x ∨ (ins = true ∧ fr ≤ x)) ↔ (cover a x ∧ ¬ cover b x))
 len : 2 * out.length + (if ins then 1 else 0) ≤ i + k
 tb : T < 8796093022208
 bds : -8796093022208 ≤ T ∧ -8796093022208 ≤ fr ∧ fr ≤ 8796093022208
theorem Sweep.start {a b : List Span} (ha : ∀ s ∈ a,Xk s = true) (hb : ∀ s ∈ b,Xk s = true) : Sweep a b 0 0 false 0 [] (-8796093022208):=by
 have sv : ∀ s : Span,Xk s = true → -8796093022208 < s.a ∧ -8796093022208 < s.b:=fun s hs=>by
  unfold Xk ZaZ at hs; simp at hs; omega
 refine ⟨Behind.start fun s hs=>sv s (ha s hs),Behind.start fun s hs=>sv s (hb s hs),rfl,⟨List.Pairwise.nil,by simp⟩,by simp, .inr ⟨rfl,rfl⟩,fun x hx=>?_,by simp,by decide,by decide⟩
 constructor
 ·rintro (⟨_,h,_⟩ | h)
  ·simp at h
  ·simp at h
 ·rintro ⟨⟨s,hs,h1,h2⟩,_⟩
  have:=sv s (ha s hs); omega
structure Adv (l : List Span) (i i' : Nat) (t : Int) : Prop where
 ok : (Zb l i = t ∧ i' = i + 1) ∨ (Zb l i ≠ t ∧ i' = i)
theorem Adv.yes {l : List Span} {i : Nat} {t : Int} (h : Zb l i = t) : Adv l i (i + 1) t:=⟨.inl ⟨h,rfl⟩⟩
theorem Adv.no {l : List Span} {i : Nat} {t : Int} (h : Zb l i ≠ t) : Adv l i i t:=⟨.inr ⟨h,rfl⟩⟩
structure Next (a b : List Span) (i k i' k' : Nat) (ins : Bool) (fr : Int) (out : List Span) (T t : Int) : Prop where
 ba : Behind a i' t
 bb : Behind b k' t
 lt : T < t
 tb : t < 8796093022208
 adv : i + k < i' + k'
 cov : ∀ x,x < t → ((cover out x ∨ (ins = true ∧ fr ≤ x)) ↔ (cover a x ∧ ¬ cover b x))
theorem Sweep.next {a b : List Span} {i k i' k' : Nat} {ins : Bool} {fr : Int} {out : List Span} {T t : Int} (h : Sweep a b i k ins fr out T)
  (hCa : Can a) (hCb : Can b) (ha : ∀ s ∈ a,Xk s = true) (hb : ∀ s ∈ b,Xk s = true)
  (ht : t = min (Zb a i) (Zb b k)) (hg : i < 2 * a.length ∨ k < 2 * b.length) (hi : Adv a i i' t) (hk : Adv b k k' t) : Next a b i k i' k' ins fr out T t:=by
 have sv : ∀ s : Span,Xk s = true → s.a < 8796093022208 ∧ s.b < 8796093022208:=fun s hs=>by
  unfold Xk ZaZ at hs; simp at hs; omega
 have la:=h.ba.le; have lb:=h.bb.le
 have ga:=h.ba.gt h.tb; have gb:=h.bb.gt h.tb
 have hla : ∀ n,n < 2 * a.length → Zb a n < 8796093022208:=fun n hn=>ZjH hn fun s hs=>sv s (ha s hs)
 have hlb : ∀ n,n < 2 * b.length → Zb b n < 8796093022208:=fun n hn=>ZjH hn fun s hs=>sv s (hb s hs)
 have tb : t < 8796093022208:=by
  rcases hg with q | q
  ·have:=hla i q; omega
  ·have:=hlb k q; omega
 have hlt : T < t:=by omega
 have na : Zb a i = t → i < 2 * a.length:=fun q=>by
  rcases Nat.lt_or_ge i (2 * a.length) with c | c
  ·exact c
  ·have:=Zdg (l:=a) (n:=i) (by omega); omega
 have nb : Zb b k = t → k < 2 * b.length:=fun q=>by
  rcases Nat.lt_or_ge k (2 * b.length) with c | c
  ·exact c
  ·have:=Zdg (l:=b) (n:=k) (by omega); omega
 refine ⟨?_,?_,hlt,tb,?_,fun x hx=>?_⟩
 ·rcases hi.ok with ⟨q,rfl⟩ | ⟨q,rfl⟩
  ·exact h.ba.step hCa (by omega) (na q) q
  ·exact h.ba.up hCa (by omega) (.inl (by omega))
 ·rcases hk.ok with ⟨q,rfl⟩ | ⟨q,rfl⟩
  ·exact h.bb.step hCb (by omega) (nb q) q
  ·exact h.bb.up hCb (by omega) (.inl (by omega))
 ·rcases hi.ok with ⟨q,rfl⟩ | ⟨q,rfl⟩ <;> rcases hk.ok with ⟨q',rfl⟩ | ⟨q',rfl⟩ <;> omega
 ·rcases Int.lt_or_le x T with hxT | hxT
  ·exact h.cov x hxT
  ·have c1:=(h.ba.up hCa hxT (.inl (by omega))).cover
   have c2:=(h.bb.up hCb hxT (.inl (by omega))).cover
   have hst:=h.st
   rw [c1,c2]
   constructor
   ·rintro (⟨s,hs,h1,h2⟩ | ⟨q,_⟩)
    ·have:=(h.top s hs).1
     rcases h.frT with q | ⟨_,q⟩
     ·omega
     ·rw [q] at hs; simp at hs
    ·rw [q] at hst; unfold Zbu at hst; simp at hst; omega
   ·intro q
    right
    have e : ins = true:=by rw [hst]; unfold Zbu; simp; omega
    refine ⟨e,?_⟩
    rcases h.frT with q' | ⟨q',_⟩
    ·omega
    ·rw [e] at q'; cases q'
theorem Sweep.keep {a b : List Span} {i k i' k' : Nat} {ins : Bool} {fr : Int} {out : List Span} {T t : Int} (h : Sweep a b i k ins fr out T) (hn : Next a b i k i' k' ins fr out T t) {v : Bool} (hv : Zbu i' k' = v) (he : (v == ins) = true) : Sweep a b i' k' ins fr out t:=
 ⟨hn.ba,hn.bb,(hv.trans (eq_of_beq he)).symm,h.can,h.top,by rcases h.frT with q | q; exact .inl (by have:=hn.lt; omega); exact .inr q,hn.cov,by have:=h.len; have:=hn.adv; omega,hn.tb,by have:=h.bds; have:=hn.lt; omega⟩
theorem Sweep.open {a b : List Span} {i k i' k' : Nat} {fr : Int} {out : List Span} {T t : Int} (h : Sweep a b i k false fr out T) (hn : Next a b i k i' k' false fr out T t) (he : Zbu i' k' = true) : Sweep a b i' k' true t out t:=by
 have tp : ∀ s ∈ out,s.b < t:=fun s hs=>by
  have:=(h.top s hs).1
  rcases h.frT with q | ⟨_,q⟩
  ·have:=hn.lt; omega
  ·rw [q] at hs; simp at hs
 refine ⟨hn.ba,hn.bb,he.symm,h.can,fun s hs=>⟨by have:=tp s hs; omega,fun _=>tp s hs⟩, .inl (by omega),fun x hx=>?_,by have:=h.len; have:=hn.adv; simp at this ⊢; simp at *; omega,hn.tb,by have:=h.bds; have:=hn.lt; have:=hn.tb; omega⟩
 rw [← hn.cov x hx]
 constructor
 ·rintro (q | ⟨_,q⟩)
  ·exact .inl q
  ·omega
 ·rintro (q | ⟨q,_⟩)
  ·exact .inl q
  ·cases q
theorem Sweep.push {a b : List Span} {i k i' k' : Nat} {fr : Int} {out : List Span} {T t : Int} (h : Sweep a b i k true fr out T) (hn : Next a b i k i' k' true fr out T t) (he : Zbu i' k' = false) : Sweep a b i' k' false t (out ++ [⟨fr,t⟩]) t:=by
 have hfr : fr ≤ T:=by
  rcases h.frT with q | ⟨q,_⟩
  ·exact q
  ·cases q
 have hlt:=hn.lt
 refine ⟨hn.ba,hn.bb,he.symm,⟨List.pairwise_append.2 ⟨h.can.apart,List.pairwise_singleton _ _,fun s hs q hq=>?_⟩,fun s hs=>?_⟩,fun s hs=>⟨?_,fun q=>by cases q⟩, .inl (by omega),fun x hx=>?_,?_,hn.tb,by have:=h.bds; have:=hn.tb; omega⟩
 ·simp at hq; subst hq; exact (h.top s hs).2 rfl
 ·rcases List.mem_append.1 hs with q | q
  ·exact h.can.pos s q
  ·simp at q; subst q; show fr < t; omega
 ·rcases List.mem_append.1 hs with q | q
  ·have:=(h.top s q).1; omega
  ·simp at q; subst q; show t ≤ t; omega
 ·rw [← hn.cov x hx]
  constructor
  ·rintro (⟨s,hs,h1,h2⟩ | ⟨q,_⟩)
   ·rcases List.mem_append.1 hs with q | q
    ·exact .inl ⟨s,q,h1,h2⟩
    ·simp at q; subst q; exact .inr ⟨rfl,h1⟩
   ·cases q
  ·rintro (⟨s,hs,h1,h2⟩ | ⟨_,q⟩)
   ·exact .inl ⟨s,List.mem_append_left _ hs,h1,h2⟩
   ·exact .inl ⟨⟨fr,t⟩,by simp,q,hx⟩
 ·have:=h.len; have:=hn.adv; simp at *; omega
theorem Sweep.flip {a b : List Span} {i k i' k' : Nat} {fr : Int} {out : List Span} {T t : Int} {ins v : Bool} (h : Sweep a b i k ins fr out T) (hn : Next a b i k i' k' ins fr out T t) (hv : Zbu i' k' = v) (he : (v == ins) = false) (hi : ins = true) : Sweep a b i' k' v t (out ++ [⟨fr,t⟩]) t:=by
 subst hi
 have e : v = false:=by cases q : v with | false=>rfl | true=>rw [q] at he; cases he
 rw [e] at hv ⊢; exact h.push hn hv
theorem Sweep.flop {a b : List Span} {i k i' k' : Nat} {fr : Int} {out : List Span} {T t : Int} {ins v : Bool} (h : Sweep a b i k ins fr out T) (hn : Next a b i k i' k' ins fr out T t) (hv : Zbu i' k' = v) (he : (v == ins) = false) (hi : ins = false) : Sweep a b i' k' v t out t:=by
 subst hi
 have e : v = true:=by cases q : v with | true=>rfl | false=>rw [q] at he; cases he
 rw [e] at hv ⊢; exact h.open hn hv
theorem Sweep.done {a b : List Span} {i k : Nat} {ins : Bool} {fr : Int} {out : List Span} {T : Int} (h : Sweep a b i k ins fr out T) (hCa : Can a) (hCb : Can b)
  (hi : ¬ (i < 2 * a.length)) (hk : ¬ (k < 2 * b.length)) : out = Yr 3 a b ∧ out.length ≤ a.length + b.length:=by
 have la:=h.ba.le; have lb:=h.bb.le
 have ei : i = 2 * a.length:=by omega
 have ek : k = 2 * b.length:=by omega
 have hst : ins = false:=by rw [h.st]; unfold Zbu; simp; omega
 obtain ⟨h1,h2⟩:=Zbg (kind:=3) (a:=a) (b:=b) rfl hCa.pos hCb.pos
 refine ⟨Can.unique h.can h1 fun x=>?_,by have:=h.len; omega⟩
 rw [h2 x]
 have key : (cover a x ∧ ¬ cover b x) ↔ Qo 3 (YY a x) (YY b x) = true:=by
  rw [← Qu,← Qu]
  simp [Qo]
 rw [← key]
 rcases Int.lt_or_le x T with q | q
 ·rw [← h.cov x q,hst]; simp
 ·have c1:=(h.ba.up hCa q (.inr ei)).cover
  constructor
  ·rintro ⟨s,hs,u1,u2⟩
   have:=(h.top s hs).1
   rcases h.frT with q' | ⟨_,q'⟩
   ·omega
   ·rw [q'] at hs; simp at hs
  ·rintro ⟨u1,_⟩
   have:=c1.1 u1; omega
def ZqZ (gs : List Group) (v : List Val) : Prop:=∀ (p q : Nat) (x y : Group),p < q → gs[p]? = some x → gs[q]? = some y → Xr y.v v < 0 → Xr x.v v < 0
def Ztn (gs : List Group) (v : List Val) (i : Nat) : Prop:=∀ (j : Nat),j < i → ∀ (u : Group),gs[j]? = some u → Xr u.v v < 0
def Zra (gs : List Group) (v : List Val) (i : Nat) : Prop:=∀ (j : Nat),i ≤ j → ∀ (u : Group),gs[j]? = some u → ¬ Xr u.v v < 0
theorem Ztn.zero {gs : List Group} {v : List Val} : Ztn gs v 0:=fun j hj=>by omega
theorem Zra.all {gs : List Group} {v : List Val} : Zra gs v gs.length:=fun j hj u hu=>by have:=(List.getElem?_eq_some_iff.1 hu).1; omega
theorem Ztn.step {gs : List Group} {v : List Val} {h : Nat} {x : Group} (hs : ZqZ gs v) (hx : gs[h]? = some x) (hc : Xr x.v v < 0) : Ztn gs v (h + 1):=fun j hj u hu=>by
 by_cases e : j = h
 ·subst e; rw [hx] at hu; cases hu; exact hc
 ·exact hs j h u x (by omega) hu hx hc
theorem Zra.step {gs : List Group} {v : List Val} {h : Nat} {x : Group} (hs : ZqZ gs v) (hx : gs[h]? = some x) (hc : 0 ≤ Xr x.v v) : Zra gs v h:=fun j hj u hu k=>by
 by_cases e : j = h
 ·subst e; rw [hx] at hu; cases hu; omega
 ·have:=hs h j x u (by omega) hx hu k; omega
theorem ZgE {l : List Span} (h : ∀ s ∈ l,ZM s = true) : ∀ s ∈ Q1 l,ZM s = true:=fun s hs=>by
 have hc:=XP fun x hx=>YB (h x hx)
 have hp:=hc.can.pos s hs
 obtain ⟨p,hp1,p1,p2⟩:=(hc.cov s.a).1 ⟨s,hs,by omega,hp⟩
 obtain ⟨q,hq1,q1,q2⟩:=(hc.cov (s.b - 1)).1 ⟨s,hs,by omega,by omega⟩
 have b1:=h p hp1
 have b2:=h q hq1
 unfold ZM at b1 b2 ⊢
 simp at b1 b2 ⊢
 omega
end Go.Civ
namespace Go.Civ
open Go.RowKit
open Go.Lib (compact)
set_option linter.unusedVariables false
theorem St.pick {w0 w : World} {X : List Nat} {G0 G : GH} {L : Own} (h : St w0 X G0 G L w) (is : List Nat) (hnd : is.Nodup:=by decide) : St w0 X G0 G (is.map fun i=>(L[i]?).getD none) w:=by
 refine h.reindex _ (fun j=>is.getD j 0) (fun j p hp=>?_) (fun j k hj hk he=>?_)
 ·rw [List.getElem?_map] at hp
  cases hi : is[j]? with
  | none=>rw [hi] at hp; cases hp
  | some i=>
   rw [hi] at hp
   simp only [Option.map_some,Option.some.injEq] at hp
   rw [List.getD_eq_getElem?_getD,hi]
   simp only [Option.getD_some]
   cases hl : L[i]? with
   | none=>rw [hl] at hp; cases hp
   | some q=>rw [hl] at hp; simp only [Option.getD_some] at hp; rw [hp]
 ·rw [List.length_map] at hj hk
  rw [List.getD_eq_getElem?_getD,List.getD_eq_getElem?_getD,List.getElem?_eq_getElem hj,List.getElem?_eq_getElem hk] at he
  simp only [Option.getD_some] at he
  exact (List.getElem?_inj hj hnd).1 (by rw [List.getElem?_eq_getElem hj,List.getElem?_eq_getElem hk,he])
def Zbv (l : List HRow) : List Int:=l.flatMap fun r=>[r.r.x.a,r.r.x.b]
theorem Zmr {l : List HRow} {k : Nat} {x : HRow} (h : l[k]? = some x) : Zbv (l.take (k + 1)) = Zbv (l.take k) ++ [x.r.x.a,x.r.x.b]:=by
 rw [List.take_add_one,h]; simp [Zbv]
theorem Zib : ∀ (l : List HRow),(Zbv l).length = 2 * l.length
 | []=>rfl
 | r :: l=>by have:=Zib l; simp only [Zbv,List.flatMap_cons,List.length_append,List.length_cons,List.length_nil] at *; omega
theorem ZiD (l : List HRow) (k : Nat) : (Zbv (l.take k)).length ≤ 2 * l.length:=by rw [Zib]; have:=List.length_take_le' k l; omega
theorem Zn2 {l : List HRow} {y : Int} : y ∈ Zbv l ↔ ∃ r ∈ l,y = r.r.x.a ∨ y = r.r.x.b:=by simp [Zbv]
theorem ZrI {l : List HRow} {k : Nat} (hk : l.length ≤ k) : compact (XO (Zbv (l.take k))) = Ys l:=by
 rw [List.take_of_length_le hk]
 refine Zmi (Zdv (Zda _)).inc (QO l) fun x=>?_
 rw [Zf6 (Zda _),(ZdT _).mem_iff,Zn2,X4]
theorem Zn3 {l : List HRow} (h : Z5 l) : ∀ c ∈ Ys l,Z1 c:=fun c hc=>by
 obtain ⟨r,hr,h1⟩:=X4.1 hc
 have:=(Yd (h r hr)).2.2
 unfold ZM at this
 simp at this
 rcases h1 with rfl | rfl <;> constructor <;> omega
theorem ZeP {v : List Val} {now : List Span} {a b : Int} {k : Nat} {s : Span} (h : now[k]? = some s) : Xz v (now.take (k + 1)) a b = Xz v (now.take k) a b ++ [⟨v,⟨s,⟨a,b⟩⟩⟩]:=by
 unfold Xz; rw [List.take_add_one,h]; simp
theorem ZcK (v : List Val) (now : List Span) (a b : Int) : (Xz v now a b).length = now.length:=by unfold Xz; rw [List.length_map]
theorem ZfT {v : List Val} {now : List Span} {a b : Int} {k : Nat} (h : now.length ≤ k) : Xz v (now.take k) a b = Xz v now a b:=by rw [List.take_of_length_le h]
theorem ZjI {v : List Val} {f : Int → List Span} {m : Nat} (hf : ∀ c,(f c).length ≤ m) : ∀ (n : Nat) (cs : List Int),cs.length = n → (Xc v f cs).out.length ≤ n * m ∧ (Xc v f cs).now.length ≤ m
 | 0,cs,h=>by obtain rfl:=List.length_eq_zero_iff.1 h; exact ⟨by simp [Xc],by simp [Xc]⟩
 | n + 1,cs,h=>by
  obtain ⟨ds,c,rfl⟩ : ∃ ds c,cs = ds ++ [c]:=⟨cs.dropLast,cs.getLast (by intro e; simp [e] at h),(List.dropLast_concat_getLast _).symm⟩
  obtain ⟨h1,h2⟩:=ZjI hf n ds (by simpa using h)
  have e : Xc v f (ds ++ [c]) = ZaC v f (Xc v f ds) c:=by simp [Xc,List.foldl_append]
  rw [e]
  unfold ZaC
  split
  ·exact ⟨Nat.le_trans h1 (Nat.mul_le_mul_right _ (Nat.le_succ n)),h2⟩
  ·refine ⟨?_,hf c⟩
   simp only [List.length_append,ZcK]
   rw [Nat.add_mul,Nat.one_mul]; omega
theorem Zms {v : List Val} {f : Int → List Span} {m : Nat} (hf : ∀ c,(f c).length ≤ m) (cs : List Int) (k : Nat) : (Xc v f (cs.take k)).out.length ≤ cs.length * m ∧ (Xc v f (cs.take k)).now.length ≤ m:=by
 have h:=ZjI (v:=v) hf _ (cs.take k) rfl
 exact ⟨Nat.le_trans h.1 (Nat.mul_le_mul_right _ (List.length_take_le' _ _)),h.2⟩
theorem ZgF {g : HGrp} (hl : g.t.length ≤ 2000) (k : Nat) : (Xc g.v (ZI g.t) ((Ys g.t).take k)).out.length ≤ 8000000 ∧ (Xc g.v (ZI g.t) ((Ys g.t).take k)).now.length ≤ 2000:=by
 have h:=Zms (v:=g.v) (f:=ZI g.t) (m:=2000) (fun c=>Nat.le_trans (Zcq _ _) hl) (Ys g.t) k
 have h2:=ZhV g.t
 exact ⟨Nat.le_trans h.1 (Nat.le_trans (Nat.mul_le_mul_right 2000 (show (Ys g.t).length ≤ 4000 by omega)) (by decide)),h.2⟩
theorem ZeQ {g : HGrp} (hl : g.t.length ≤ 2000) : (ZdZ g).length ≤ 8000000:=by
 have:=(ZgF hl (Ys g.t).length).1
 rwa [List.take_length] at this
theorem Zn4 {g : HGrp} {k : Nat} (h : (Ys g.t).length ≤ k) : (Xc g.v (ZI g.t) ((Ys g.t).take k)).out = ZdZ g:=by rw [List.take_of_length_le h]; rfl
theorem ZfU {v : List Val} {f : Int → List Span} {cs : List Int} {k : Nat} {c : Int} (h : cs[k]? = some c) (hn : (Xc v f (cs.take k)).now = f c) : Xc v f (cs.take (k + 1)) = Xc v f (cs.take k):=by rw [ZhU h,Zcs hn]
theorem Zhz {v : List Val} {f : Int → List Span} {cs : List Int} {k : Nat} {c : Int} (h : cs[k]? = some c) (hn : (Xc v f (cs.take k)).now ≠ f c) : Xc v f (cs.take (k + 1)) = ⟨(Xc v f (cs.take k)).out ++ Xz v (Xc v f (cs.take k)).now (Xc v f (cs.take k)).fr c,f c,c⟩:=by rw [ZhU h,ZeI hn]
def Zcu (gs : List HGrp) : List HRow:=gs.flatMap ZdZ
theorem ZgG {gs : List HGrp} {k : Nat} {g : HGrp} (h : gs[k]? = some g) : Zcu (gs.take (k + 1)) = Zcu (gs.take k) ++ ZdZ g:=by rw [List.take_add_one,h]; simp [Zcu]
theorem Zn5 {gs : List HGrp} (h : ∀ g ∈ gs,g.t.length ≤ 2000) : (Zcu gs).length ≤ gs.length * 8000000:=by
 induction gs with
 | nil=>simp [Zcu]
 | cons g gs ih=>
  have h1:=ZeQ (h g (by simp))
  have h2:=ih fun x hx=>h x (by simp [hx])
  simp only [Zcu,List.flatMap_cons,List.length_append,List.length_cons] at *
  rw [Nat.add_mul]; omega
theorem Ze0 {gs : List HGrp} {k : Nat} (h : ∀ g ∈ gs,g.t.length ≤ 2000) (hg : gs.length ≤ 2000) : (Zcu (gs.take k)).length ≤ 16000000000:=by
 have h1:=Zn5 (gs:=gs.take k) fun g hg=>h g (List.mem_of_mem_take hg)
 have h2:=List.length_take_le' k gs
 exact Nat.le_trans h1 (Nat.le_trans (Nat.mul_le_mul_right 8000000 (show (gs.take k).length ≤ 2000 by omega)) (by decide))
theorem ZgH {l : List HRow} : ∀ g ∈ Yo l,g.t.length ≤ l.length:=fun g hg=>by
 unfold Yo at hg
 obtain ⟨v,_,rfl⟩:=List.mem_map.1 hg
 exact List.length_filter_le _ _
theorem ZcL {l : List HRow} : (Yo l).length ≤ l.length:=by unfold Yo; rw [List.length_map]; exact ZhS l
theorem Zn6 {l : List HRow} (h : Z5 l) : ∀ g ∈ Yo l,Z5 g.t:=fun g hg=>by
 unfold Yo at hg
 obtain ⟨v,_,rfl⟩:=List.mem_map.1 hg
 exact h.of v
theorem Zfu {l : List HRow} (h : Z5 l) (hl : l.length ≤ 2000) {k : Nat} {g : HGrp} (hg : (Yo l)[k]? = some g) : Z5 g.t ∧ g.t.length ≤ 2000:=
 ⟨Zn6 h g (List.mem_of_getElem? hg),Nat.le_trans (ZgH g (List.mem_of_getElem? hg)) hl⟩
theorem Zbw {l : List HRow} (h : Z5 l) (tx : Int) : Can (ZI l tx):=(XP fun s hs=>YB (ZaV h.d tx s hs)).can
theorem ZfB {l : List HRow} (h : Z5 l) (tx : Int) : ∀ s ∈ ZI l tx,ZM s = true:=ZgE (ZaV h.d tx)
theorem ZpE {l : List HRow} (h : Z5 l) (tx : Int) : ∀ s ∈ ZI l tx,Xk s = true:=fun s hs=>Zc0 (ZfB h tx s hs)
theorem Zic {l : List Span} (h : ∀ s ∈ l,ZM s = true) : (l.any fun x=>!Xk x) = false:=by
 rw [List.any_eq_false]; intro s hs; rw [Zc0 (h s hs)]; simp
theorem ZrJ {b x : Int} (h : (if b ≤ x then (-1 : Int) else 1) < 0) : b ≤ x:=by split at h <;> omega
theorem ZpF {b x : Int} (h : 0 ≤ (if b ≤ x then (-1 : Int) else 1)) : x < b:=by split at h <;> omega
theorem ZpG {b x : Int} (h : (if b ≤ x then (-1 : Int) else 1) = 0) : False:=by split at h <;> omega
theorem Zn7 {b x : Int} : Cmp.b .eql (if b ≤ x then (-1 : Int) else 1) 0 = false:=decide_eq_false fun h=>ZpG h
def Zbx (l : List Span) (x : Int) : Nat:=(l.takeWhile fun s=>decide (s.b ≤ x)).length
def ZjJ (l : List Span) (x : Int) (i : Nat) : Prop:=∀ j,j < i → ∀ s,l[j]? = some s → s.b ≤ x
def ZgI (l : List Span) (x : Int) (j : Nat) : Prop:=∀ m,j ≤ m → ∀ s,l[m]? = some s → x < s.b
theorem ZjK {l : List Span} (h : Can l) {i j : Nat} {s t : Span} (hi : l[i]? = some s) (hj : l[j]? = some t) (hij : i < j) : s.b < t.a ∧ t.a < t.b:=by
 have hp:=h.apart
 rw [List.pairwise_iff_getElem] at hp
 obtain ⟨hi1,rfl⟩:=List.getElem?_eq_some_iff.1 hi
 obtain ⟨hj1,rfl⟩:=List.getElem?_eq_some_iff.1 hj
 exact ⟨hp i j hi1 hj1 hij,h.pos _ (List.getElem_mem hj1)⟩
theorem ZjJ.zero {l : List Span} {x : Int} : ZjJ l x 0:=fun j hj=>by omega
theorem ZgI.all {l : List Span} {x : Int} : ZgI l x l.length:=fun m hm s hs=>by have:=(List.getElem?_eq_some_iff.1 hs).1; omega
theorem ZjJ.step {l : List Span} {x : Int} {h : Nat} {s : Span} (hc : Can l) (hs : l[h]? = some s) (hx : s.b ≤ x) : ZjJ l x (h + 1):=fun j hj t ht=>by
 rcases Nat.lt_or_ge j h with k | k
 ·have:=ZjK hc ht hs k; omega
 ·obtain rfl : j = h:=by omega
  rw [ht] at hs; obtain rfl:=Option.some.inj hs; exact hx
theorem ZgI.step {l : List Span} {x : Int} {h : Nat} {s : Span} (hc : Can l) (hs : l[h]? = some s) (hx : x < s.b) : ZgI l x h:=fun m hm t ht=>by
 rcases Nat.lt_or_ge h m with k | k
 ·have:=ZjK hc hs ht k; omega
 ·obtain rfl : h = m:=by omega
  rw [ht] at hs; obtain rfl:=Option.some.inj hs; exact hx
theorem Ze1 {α : Type} {p : α → Bool} : ∀ {l : List α} {i : Nat},i ≤ l.length → (∀ j,j < i → ∀ s,l[j]? = some s → p s = true) → (∀ s,l[i]? = some s → p s = false) → (l.takeWhile p).length = i
 | [],i,hi,_,_=>by simp at hi; simp [hi]
 | x :: l,0,_,_,h=>by rw [List.takeWhile_cons,h x rfl]; rfl
 | x :: l,i + 1,hi,h1,h2=>by
  rw [List.takeWhile_cons,h1 0 (by omega) x rfl]
  simp only [if_true,List.length_cons]
  rw [Ze1 (i:=i) (by simpa using hi) (fun j hj s hs=>h1 (j + 1) (by omega) s (by simpa using hs)) (fun s hs=>h2 s (by simpa using hs))]
theorem ZrK {l : List Span} {x : Int} {i j : Nat} (h1 : ZjJ l x i) (h2 : ZgI l x j) (hij : i = j) (hi : i ≤ l.length) : Zbx l x = i:=by
 subst hij
 exact Ze1 hi (fun j hj s hs=>decide_eq_true (h1 j hj s hs)) (fun s hs=>decide_eq_false (by have:=h2 i (Nat.le_refl _) s hs; omega))
theorem Zed {l : List Span} {x : Int} : Zbx l x ≤ l.length ∧ (∀ j,j < Zbx l x → ∀ s,l[j]? = some s → s.b ≤ x) ∧ ∀ s,l[Zbx l x]? = some s → x < s.b:=by
 unfold Zbx
 induction l with
 | nil=>simp
 | cons y l ih=>
  rw [List.takeWhile_cons]
  cases hy : decide (y.b ≤ x) with
  | false=>simp only [Bool.false_eq_true,if_false,List.length_nil]; exact ⟨Nat.zero_le _,fun j hj=>by omega,fun s hs=>by simp at hs; subst hs; simpa using hy⟩
  | true=>
   simp only [if_true,List.length_cons]
   refine ⟨by omega,fun j hj s hs=>?_,fun s hs=>ih.2.2 s (by simpa using hs)⟩
   cases j with
   | zero=>simp at hs; subst hs; simpa using hy
   | succ j=>exact ih.2.1 j (by omega) s (by simpa using hs)
theorem ZrL {l : List Span} {x : Int} {s : Span} (h : Can l) (hs : l[Zbx l x]? = some s) (hx : s.a ≤ x) : YY l x = true:=by
 unfold YY
 rw [List.any_eq_true]
 exact ⟨s,List.mem_of_getElem? hs,by simp; exact ⟨hx,Zed.2.2 s hs⟩⟩
theorem Zn8 {l : List Span} {x : Int} (h : Can l) (hs : ∀ s,l[Zbx l x]? = some s → x < s.a) : YY l x = false:=by
 rw [Bool.eq_false_iff]
 intro e
 unfold YY at e
 rw [List.any_eq_true] at e
 obtain ⟨s,hm,h1⟩:=e
 simp at h1
 obtain ⟨j,hj⟩:=List.getElem?_of_mem hm
 rcases Nat.lt_trichotomy j (Zbx l x) with k | k | k
 ·have:=Zed.2.1 j k s hj; omega
 ·subst k; have:=hs s hj; omega
 ·have hlt:=(List.getElem?_eq_some_iff.1 hj).1
  obtain ⟨t,ht⟩ : ∃ t,l[Zbx l x]? = some t:=⟨_,List.getElem?_eq_getElem (by omega)⟩
  have h2:=ZjK h ht hj k
  have h3:=Zed.2.2 t ht
  omega
theorem Zto {l : List Span} {x : Int} {s : Span} (h : Can l) (hs : l[Zbx l x]? = some s) : Cmp.b .leq s.a x = YY l x:=by
 by_cases k : s.a ≤ x
 ·rw [ZrL h hs k]; exact decide_eq_true k
 ·rw [Zn8 h fun t ht=>by rw [hs] at ht; obtain rfl:=Option.some.inj ht; omega]; exact decide_eq_false k
end Go.Civ
