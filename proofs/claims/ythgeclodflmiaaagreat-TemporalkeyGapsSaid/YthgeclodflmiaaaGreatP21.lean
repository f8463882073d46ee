/- Lemmas. -/
import Derived.Test.YthgeclodflmiaaaGreatP07
import Derived.Test.YthgeclodflmiaaaGreatP20
import Derived.Test.YthgeclodflmiaaaGreatProg
import Derived.WalkKit
import Derived.Below
import Derived.Shelf.GgClosure.StringsRunes
set_option linter.unusedVariables false
namespace Go.Civ
open Go.Proofs Go.Shelf Go.RowKit Go.Lib
theorem Zcn (w : World) : ∀ n,Below w.heap.size w (w.drewN n)
 | 0=>Below.refl _ _
 | n + 1=>(Zcn w n).drew
def pR (r : Nat) : Bool:=decide (r < 32) || decide (126 < r)
set_option maxHeartbeats 1000000 in
theorem Zqs (r : Nat) (W : World) : Calls Tryz.prog 177 #[.int .i32 (r : Int)] W fun e w'=>e = .returned (.bool (pR r)) ∧ ∃ q,w' = W.drewN q:=by
 by_cases h1 : r < 32 <;> by_cases h2 : 126 < r
 all_goals
  have z1 : (r : Int) < 32 ↔ r < 32:=by omega
  have z2 : (126 : Int) < (r : Int) ↔ 126 < r:=by omega
  go_enter Tryz.func177,Tryz.ntmps177
  go_wp2
  all_goals first | (exfalso; omega) | (go_ret; exact ⟨by simp [pR,h1,h2],0,rfl⟩)
set_option maxHeartbeats 2000000 in
set_option maxRecDepth 1000000 in
theorem ZiX (s : ByteArray) (w : World) :
  Calls Tryz.prog 246 #[.string s, .func (.func 177) #[] #[], .bool true] w fun e w'=>e = .returned (.int .i64 (Lib.idxFunc pR true s)) ∧ Below w.heap.size w w' ∧ w.drawn ≤ w'.drawn:=by
 have e177 : ∀ args w,(callFunc 177 args).run Tryz.prog w = .ok (.enter 177 args) w:=enters_of Tryz.func177 (by kernel_rfl) rfl
 go_enter Tryz.func246,Tryz.ntmps246
 go_wp2
 go_loopg [] s.size (fun gf wx=>∃ pos : Nat,wx.heap[w.heap.size]? = some (.stringIter s pos) ∧ Below w.heap.size w wx ∧ Lib.idxFuncFrom pR true s gf pos = Lib.idxFunc pR true s ∧ s.size ≤ pos + gf ∧ w.drawn ≤ wx.drawn)
 case atStart=>exact ⟨0,World.iter_heap w s 0,(Below.refl _ w).alloc (Nat.le_refl _) _,rfl,by omega,Nat.le_refl _⟩
 case round=>
  obtain ⟨pos,hit,hbw,hleft,hfu,hdr⟩:=hrel
  by_cases hps : pos < s.size
  ·obtain ⟨g',rfl⟩ : ∃ g',gk = g' + 1:=⟨gk - 1,by omega⟩
   have hnx : ∀ ty,(Instr.next (.pointer (some ⟨w.heap.size,0,none⟩)) true ty).run Tryz.prog wr = _:=fun ty=>Lib.run_next_any_at wr w.heap.size s pos ty hit hps
   have hwd:=Lib.width_pos s pos
   obtain ⟨R,hR⟩ : ∃ R,(Utf8.decode s pos).1 = R:=⟨_,rfl⟩
   obtain ⟨K,hK⟩ : ∃ K,(Utf8.decode s pos).2 = K:=⟨_,rfl⟩
   simp only [Lib.idxFuncFrom,hps,if_true,hR,hK] at hleft
   rw [hR,hK] at hnx
   rw [hK] at hwd
   have hit2:=Lib.iterAt_heap wr w.heap.size s pos (pos + K) hit
   have hbw2:=Lib.below_iterAt hbw (k:=w.heap.size) (Nat.le_refl _) s (pos + K)
   have hdW : w.drawn ≤ (wr.iterAt w.heap.size s (pos + K)).drawn:=hdr
   obtain ⟨W,hWd⟩ : ∃ W,wr.iterAt w.heap.size s (pos + K) = W:=⟨_,rfl⟩
   rw [hWd] at hnx hit2 hbw2 hdW
   have hltW : w.heap.size < W.heap.size:=(Array.getElem?_eq_some_iff.1 hit2).1
   have cS : Calls Tryz.prog 177 (#[.int .i32 (R : Int)] ++ #[]) W _:=Zqs R W
   cases hsp : pR R <;> rw [hsp] at cS <;> simp only [hsp,if_true,Bool.false_eq_true,if_false] at hleft
   ·go_wp2_with (go_at_fn 177; refine cS.mono ?_; rintro e W' ⟨rfl,q,rfl⟩)
    have hbc:=Zcn W q
    go_roundg g'
    case measure=>omega
    case rel=>exact ⟨pos + K,(hbc.block _ hltW).trans hit2,(hbw2.trans (hbc.mono hbw2.size)),hleft,by omega,Nat.le_trans hdW (Nat.le_add_right _ _)⟩
   ·go_wp2_with (go_at_fn 177; refine cS.mono ?_; rintro e W' ⟨rfl,q,rfl⟩)
    have hbc:=Zcn W q
    go_ret
    exact ⟨by rw [← hleft] <;> rfl,(hbw2.trans (hbc.mono hbw2.size)),Nat.le_trans hdW (Nat.le_add_right _ _)⟩
  ·have hnx : ∀ ty,(Instr.next (.pointer (some ⟨w.heap.size,0,none⟩)) true ty).run Tryz.prog wr = _:=fun ty=>Lib.run_next_end_at wr w.heap.size s pos ty hit hps
   rw [Lib.idxFuncFrom_end pR true s gk pos hps] at hleft
   go_wp2
   go_ret
   exact ⟨by rw [← hleft] <;> rfl,hbw,hdr⟩
theorem Zqt (n b0 b1 b2 b3 : Nat) (h : 128 ≤ b0) : 128 ≤ (Lib.decodeN n b0 b1 b2 b3).1:=by
 unfold Lib.decodeN
 repeat' split
 all_goals simp_all
 all_goals omega
theorem ZrG (s : List UInt8) (i : Nat) (c : UInt8) (h : s[i]? = some c) : (⟨s.toArray⟩ : ByteArray).get! i = c:=by
 obtain ⟨hl,he⟩:=List.getElem?_eq_some_iff.1 h
 show (s.toArray)[i]! = c
 simp [hl,he]
theorem Zks (s : List UInt8) : ∀ (f pos : Nat),s.length ≤ pos + f → (0 ≤ Lib.idxFuncFrom pR true ⟨s.toArray⟩ f pos ↔ ¬ ∀ c ∈ s.drop pos,okC c = true)
 | 0,pos,h=>by
  have : s.drop pos = []:=List.drop_eq_nil_of_le (by omega)
  simp [Lib.idxFuncFrom,this]
 | f + 1,pos,h=>by
  have hsz : (⟨s.toArray⟩ : ByteArray).size = s.length:=by simp [ByteArray.size]
  unfold Lib.idxFuncFrom
  by_cases hp : pos < s.length
  ·obtain ⟨c,hc⟩ : ∃ c,s[pos]? = some c:=⟨_,List.getElem?_eq_getElem hp⟩
   have hd : s.drop pos = c :: s.drop (pos + 1):=by
    rw [List.drop_eq_getElem_cons hp]; rw [List.getElem?_eq_getElem hp] at hc; rw [Option.some.inj hc]
   rw [if_pos (by rw [hsz]; exact hp),hd,Lib.decode_at,ZrG s pos c hc]
   by_cases hb : c.toNat < 128
   ·rw [show Lib.decodeN ((⟨s.toArray⟩ : ByteArray).size - pos) c.toNat ((⟨s.toArray⟩ : ByteArray).get! (pos + 1)).toNat ((⟨s.toArray⟩ : ByteArray).get! (pos + 2)).toNat ((⟨s.toArray⟩ : ByteArray).get! (pos + 3)).toNat = (c.toNat,1) from by simp [Lib.decodeN,hb]]
    have ih:=Zks s f (pos + 1) (by omega)
    by_cases ho : okC c = true
    ·have : pR c.toNat = false:=by simp [okC,pR] at *; omega
     simp only [this]
     rw [if_neg (by simp),ih]; simp [ho]
    ·have : pR c.toNat = true:=by simp [okC,pR] at *; omega
     simp only [this,if_true]
     simp [ho]
   ·have h2:=Zqt ((⟨s.toArray⟩ : ByteArray).size - pos) c.toNat ((⟨s.toArray⟩ : ByteArray).get! (pos + 1)).toNat ((⟨s.toArray⟩ : ByteArray).get! (pos + 2)).toNat ((⟨s.toArray⟩ : ByteArray).get! (pos + 3)).toNat (by omega)
    have h3 : pR (Lib.decodeN ((⟨s.toArray⟩ : ByteArray).size - pos) c.toNat ((⟨s.toArray⟩ : ByteArray).get! (pos + 1)).toNat ((⟨s.toArray⟩ : ByteArray).get! (pos + 2)).toNat ((⟨s.toArray⟩ : ByteArray).get! (pos + 3)).toNat).1 = true:=by simp [pR]; omega
    have ho : okC c = false:=by simp [okC]; omega
    rw [if_pos h3]; simp [ho]
  ·have : s.drop pos = []:=List.drop_eq_nil_of_le (by omega)
   rw [if_neg (by rw [hsz]; exact hp)]
   simp [this]
theorem ZrH (s : List UInt8) : decide (0 ≤ Lib.idxFunc pR true ⟨s.toArray⟩) = !s.all okC:=by
 have h:=Zks s s.length 0 (by omega)
 unfold Lib.idxFunc
 have hsz : (⟨s.toArray⟩ : ByteArray).size = s.length:=by simp [ByteArray.size]
 rw [hsz,Bool.eq_iff_iff]
 simp only [decide_eq_true_eq,h,List.drop_zero,Bool.not_eq_true',← Bool.not_eq_true,List.all_eq_true]
set_option maxHeartbeats 2000000 in
theorem Zgj (s : ByteArray) (w : World) :
  Calls Tryz.prog 212 #[.string s, .func (.func 177) #[] #[]] w fun e w'=>e = .returned (.int .i64 (Lib.idxFunc pR true s)) ∧ Below w.heap.size w w' ∧ w.drawn ≤ w'.drawn:=by
 have cI:=ZiX s w
 have e246 : ∀ args w,(callFunc 246 args).run Tryz.prog w = .ok (.enter 246 args) w:=enters_of Tryz.func246 (by kernel_rfl) rfl
 go_enter Tryz.func212,Tryz.ntmps212
 go_wp2_with (go_at_fn 246; refine cI.mono ?_; rintro e w' ⟨rfl,hb⟩)
 go_ret
 exact ⟨rfl,hb⟩
set_option maxHeartbeats 2000000 in
theorem Zgk (s : ByteArray) (w : World) :
  Calls Tryz.prog 176 #[.string s, .func (.func 177) #[] #[]] w fun e w'=>e = .returned (.bool (decide (0 ≤ Lib.idxFunc pR true s))) ∧ Below w.heap.size w w' ∧ w.drawn ≤ w'.drawn:=by
 have cI:=Zgj s w
 have e212 : ∀ args w,(callFunc 212 args).run Tryz.prog w = .ok (.enter 212 args) w:=enters_of Tryz.func212 (by kernel_rfl) rfl
 obtain ⟨I,hI⟩ : ∃ I,Lib.idxFunc pR true s = I:=⟨_,rfl⟩
 rw [hI] at cI ⊢
 go_enter Tryz.func176,Tryz.ntmps176
 go_wp2_with (go_at_fn 212; refine cI.mono ?_; rintro e w' ⟨rfl,hb⟩)
 go_ret
 exact ⟨rfl,hb⟩
theorem ZiY {w w' : World} {G : GH} (hG : G.In w) (h : Below w.heap.size w w') (hd : w.drawn ≤ w'.drawn) : Res [] w G w' G:=
 ⟨⟨h.os,h.tape,h.output,hd,h.size,fun k hk _=>h.block k hk⟩,G.le_refl,fun _ _=>rfl,fun b o hb=>(h.block b (hG.lt hb)).trans (hG b o hb)⟩
theorem ZjU {G : GH} {w : World} (hG : G.In w) (s : List UInt8) : Calls Tryz.prog (nat_lit 176) #[Zd s, .func (.func 177) #[] #[]] w fun e w'=>∃ r G',e = .returned r ∧ Res [] w G w' G' ∧ r = .bool (!s.all okC):=
 (Zgk ⟨s.toArray⟩ w).mono fun e w' ⟨he,hb,hd⟩=>⟨_,G,he,ZiY hG hb hd,by rw [ZrH]⟩
end Go.Civ
namespace Go.Civ
open Go.RowKit
set_option linter.unusedVariables false
structure FnO (P : Program) {α : Type} (A : GH → Value → α → Prop) (fid : Nat) (cap : Array Value) (G : GH) (on : α → Prop) (nx : α → Option (List Val)) : Prop where
 body : Zh P fid
 call : ∀ (G' : GH) (w' : World) (v : Value) (x : α),G.le G' → G'.In w' → on x → A G' v x →
  Calls P fid ([v] ++ cap.toList).toArray w' fun e w''=>∃ r G'',e = .returned r ∧ Res [] w' G' w'' G'' ∧ ∃ r0 r1,r = .tuple #[r0,r1] ∧ Sl ValE 32 G'' r0 ((nx x).getD []) ∧ r1 = .bool (nx x).isSome
theorem FnO.up {P : Program} {α : Type} {A : GH → Value → α → Prop} {fid : Nat} {cap : Array Value} {G G' : GH} {on : α → Prop} {nx : α → Option (List Val)} (h : FnO P A fid cap G on nx) (k : G.le G') : FnO P A fid cap G' on nx:=
 ⟨h.body,fun G2 w' v x hle=>h.call G2 w' v x (k.trans hle)⟩
theorem Zdf {s : Span} (h : s.a < s.b) : Can [s]:=⟨by simp,by simpa using h⟩
def Zal (r d : Span) : List Span:=(if r.a < d.a then [⟨r.a,d.a⟩] else []) ++ (if d.b < r.b then [⟨d.b,r.b⟩] else [])
theorem ZlE {r d : Span} (hr : r.a < r.b) (hd : d.a < d.b) (h1 : r.a < d.b) (h2 : d.a < r.b) : Can (Zal r d):=by
 unfold Zal
 by_cases c1 : r.a < d.a <;> by_cases c2 : d.b < r.b <;> simp only [c1,c2,if_true,if_false,List.nil_append,List.append_nil]
 ·exact ⟨by simp; omega,fun s hs=>by simp at hs; rcases hs with rfl | rfl <;> simp <;> omega⟩
 ·exact Zdf c1
 ·exact Zdf c2
 ·exact ⟨List.Pairwise.nil,by simp⟩
theorem ZoM {r d : Span} (hr : r.a < r.b) (hd : d.a < d.b) (h1 : r.a < d.b) (h2 : d.a < r.b) : Yb 3 [r] [d] = Zal r d:=by
 have h:=Za7 (kind:=3) (a:=[r]) (b:=[d]) rfl (by simpa using hr) (by simpa using hd)
 refine Can.unique h.1 (ZlE hr hd h1 h2) fun x=>?_
 rw [h.2]
 have e : XW 3 (Y0 [r] x) (Y0 [d] x) = true ↔ ((r.a ≤ x ∧ x < r.b) ∧ ¬ (d.a ≤ x ∧ x < d.b)):=by
  unfold XW Y0; simp; omega
 rw [e]
 unfold Zal
 by_cases c1 : r.a < d.a <;> by_cases c2 : d.b < r.b <;> simp only [c1,c2,if_true,if_false,List.nil_append,List.append_nil,List.cons_append,Y5] <;> simp [cover] <;> omega
theorem Zkd {r d : Span} (hr : ZC r = true) (hd : ZC d = true) (h1 : r.a < d.b) (h2 : d.a < r.b) : ∀ s ∈ Zal r d,ZC s = true:=fun s hs=>by
 unfold ZC at hr hd ⊢
 simp at hr hd ⊢
 unfold Zal at hs
 rcases List.mem_append.1 hs with hs | hs
 ·split at hs
  ·obtain rfl:=List.mem_singleton.1 hs; simp only; omega
  ·cases hs
 ·split at hs
  ·obtain rfl:=List.mem_singleton.1 hs; simp only; omega
  ·cases hs
theorem Zg2 (r d : Span) : (Zal r d).length ≤ 2:=by unfold Zal; rw [List.length_append]; split <;> split <;> simp
theorem ZdA {r d : Span} (hr : ZC r = true) (hd : ZC d = true) (h1 : r.a < d.b) (h2 : d.a < r.b) : Yb 3 [r] [d] = Zal r d:=ZoM (Yp hr) (Yp hd) h1 h2
theorem ZmS {r d : Span} (hr : ZC r = true) (hd : ZC d = true) (h1 : r.a < d.b) (h2 : d.a < r.b) : ZC (Zl0 r d) = true:=by
 unfold ZC at hr hd ⊢
 unfold Zl0
 simp at hr hd ⊢
 omega
def Zsi (nx : List Val → Option (List Val)) (l : List HRow) : Prop:=∀ r ∈ l,∀ u,nx r.v = some u → u.all Z9 = true ∧ u.length ≤ 8
structure ChgOk (t : Table) (tx : Int) (d : Span) (nx : List Val → Option (List Val)) : Prop where
 valid : Zm t = true
 span : ZC d = true
 inst : ZB tx = true
 late : t.last < tx
 next : Zsi nx t.rows
section
variable {t : Table} {tx : Int} {d : Span} {nx : List Val → Option (List Val)} {hl : List Val → Bool}
theorem QK (h : Zm t = true) {r : HRow} (hr : r ∈ t.rows) : Yh r = true ∧ r.v.length ≤ 8 ∧ r.r.x.a ≤ t.last ∧ r.v.length = t.s.cols.length ∧ r.v.all Z9 = true ∧ t.s.cols.length ≤ 8:=by
 rw [Za8] at h
 simp only [Bool.and_eq_true] at h
 have h1:=List.all_eq_true.1 h.1.2 r hr
 unfold Yu at h1
 simp only [Bool.and_eq_true,decide_eq_true_eq] at h1
 obtain ⟨a,b,c,_⟩:=QA h1.1.1.1
 exact ⟨h1.1.1.2,a,h1.1.2,c,b,by omega⟩
theorem ZmT (hc : ChgOk t tx d nx) {r : HRow} (hr : r ∈ t.rows) : (ZaP hl nx tx d r).length ≤ 4:=by
 unfold ZaP
 split
 ·rename_i h
  simp only [Bool.and_eq_true] at h
  unfold Zcs at h
  simp only [Bool.and_eq_true,decide_eq_true_eq] at h
  have hg:=ZU (QK hc.valid hr).1
  rw [ZdA hg.2.1 hc.span h.1.1.2 h.1.2]
  have:=Zg2 r.r.d d
  have h2 : (Zgn (nx r.v) r.r.d d tx).length ≤ 1:=by unfold Zgn; split <;> simp
  simp only [List.length_append,Zcu,List.length_cons,List.length_nil]
  omega
 ·simp
theorem Zfq (hc : ChgOk t tx d nx) : ∀ k,(Zak hl nx tx d (t.rows.take k)).length ≤ 4 * k
 | 0=>by simp [Zak]
 | k + 1=>by
  have ih:=Zfq hc k
  cases e : t.rows[k]? with
  | none=>rw [List.take_add_one,e]; simp only [Option.toList,List.append_nil]; omega
  | some r=>
   rw [Zji e,List.length_append]
   have:=ZmT (hl:=hl) hc (List.mem_of_getElem? e)
   omega
theorem Zg3 (hc : ChgOk t tx d nx) {r : HRow} (hr : r ∈ t.rows) : ∀ q ∈ ZaP hl nx tx d r,Yh q = true ∧ q.v.length ≤ 1000:=by
 obtain ⟨g1,g2,g3,_⟩:=QK hc.valid hr
 have hg:=ZU g1
 have ht:=X3 hc.inst
 have hl:=hc.late
 have mk : ∀ (v : List Val) (a b : Span),v.all Z9 = true → ZC a = true → ZC b = true → Yh ⟨v,⟨a,b⟩⟩ = true:=fun v a b h1 h2 h3=>by unfold Yh; simp only; rw [h1,h2,h3]; rfl
 have hx:=hg.2.2
 unfold ZC at hx
 simp at hx
 have hT : ZC ⟨tx,253402300800⟩ = true:=by unfold ZC; simp; omega
 unfold ZaP
 split
 ·rename_i h
  simp only [Bool.and_eq_true] at h
  unfold Zcs at h
  simp only [Bool.and_eq_true,decide_eq_true_eq] at h
  rw [ZdA hg.2.1 hc.span h.1.1.2 h.1.2]
  intro q hq
  rcases List.mem_append.1 hq with hq | hq
  ·rcases List.mem_append.1 hq with hq | hq
   ·rw [List.mem_singleton.1 hq]
    exact ⟨mk _ _ _ hg.1 hg.2.1 (by unfold ZC; simp; omega),Nat.le_trans g2 (by decide)⟩
   ·unfold Xd at hq
    obtain ⟨s,hs,rfl⟩:=List.mem_map.1 hq
    exact ⟨mk _ _ _ hg.1 (Zkd hg.2.1 hc.span h.1.1.2 h.1.2 s hs) hT,Nat.le_trans g2 (by decide)⟩
  ·unfold Zgn at hq
   split at hq
   ·rename_i u hu
    rw [List.mem_singleton.1 hq]
    obtain ⟨u1,u2⟩:=hc.next r hr u hu
    exact ⟨mk _ _ _ u1 (ZmS hg.2.1 hc.span h.1.1.2 h.1.2) hT,Nat.le_trans u2 (by decide)⟩
   ·cases hq
 ·intro q hq
  rw [List.mem_singleton.1 hq]; exact ⟨g1,Nat.le_trans g2 (by decide)⟩
theorem Zjx (hc : ChgOk t tx d nx) : ZA (Zak hl nx tx d t.rows) ∧ (∀ r ∈ Zak hl nx tx d t.rows,r.v.length ≤ 1000) ∧ (Zak hl nx tx d t.rows).length ≤ 2000:=by
 refine ⟨fun q hq=>?_,fun q hq=>?_,?_⟩
 ·obtain ⟨r,hr,h⟩:=List.mem_flatMap.1 hq; exact (Zg3 hc hr q h).1
 ·obtain ⟨r,hr,h⟩:=List.mem_flatMap.1 hq; exact (Zg3 hc hr q h).2
 ·have h1:=Zfq (hl:=hl) hc t.rows.length
  rw [List.take_length] at h1
  have:=(ZE hc.valid).2.1
  omega
end
end Go.Civ
namespace Go.Civ
end Go.Civ
namespace Go.Civ
end Go.Civ
