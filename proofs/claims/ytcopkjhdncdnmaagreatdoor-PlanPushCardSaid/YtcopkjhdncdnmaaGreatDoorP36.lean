/- Lemmas. -/
import Derived.Test.YtcopkjhdncdnmaaGreatDoorP35
import Derived.Test.YtcopkjhdncdnmaaGreatDoorRows
import Derived.MakeChecks
set_option linter.unusedSimpArgs false
set_option linter.unusedVariables false
namespace Go.Civ
open Go.RowKit Go.ChangeShapes Go.Deep Go.Proofs Go.Proofs.YtcopkjhdncdnmaaGreatDoor
section
variable {H : Type} {enc : TypeId × Value → H} {w : World}
theorem ZqR : Xs enc Tryz.prog w 29 SpanE:=Zfc (g:=fun p=>⟨p.1,p.2⟩) (fun _=>rfl) Tryz.underlying29 rfl (by kernel_rfl) rfl (by kernel_rfl) (by kernel_rfl) (Q0 Tryz.underlying3) (Q0 Tryz.underlying3)
theorem Zsq : Xs enc Tryz.prog w 24 ValE:=ZkC (g:=fun p=>⟨p.1,p.2.1,p.2.2⟩) (fun _=>rfl) Tryz.underlying24 rfl (by kernel_rfl) rfl (by kernel_rfl) rfl (by kernel_rfl) (by kernel_rfl) (Q0 Tryz.underlying3) (Q0 Tryz.underlying3) (Za3 Tryz.underlying9)
theorem Zsr : Xs enc Tryz.prog w 48 ColE:=Zfc (g:=fun p=>⟨p.1,p.2⟩) (fun _=>rfl) Tryz.underlying48 rfl (by kernel_rfl) rfl (by kernel_rfl) (by kernel_rfl) (Za3 Tryz.underlying9) (Q0 Tryz.underlying3)
theorem ZqS : Xs enc Tryz.prog w 43 (ColE.slice 24):=Zc3 Tryz.underlying43 (by kernel_rfl) (by decide) (by kernel_rfl) (by decide) Zsr
theorem ZjD : Xs enc Tryz.prog w 22 (Enc.str.slice 16):=Zc3 Tryz.underlying22 (by kernel_rfl) (by decide) (by kernel_rfl) (by decide) (Za3 Tryz.underlying9)
theorem Zni : Xs enc Tryz.prog w 167 ForeignE:=Zfc (g:=fun p=>⟨p.1,p.2⟩) (fun _=>rfl) Tryz.underlying167 rfl (by kernel_rfl) rfl (by kernel_rfl) (by kernel_rfl) ZjD (Za3 Tryz.underlying9)
theorem ZlN : Xs enc Tryz.prog w 75 (ForeignE.slice 40):=Zc3 Tryz.underlying75 (by kernel_rfl) (by decide) (by kernel_rfl) (by decide) Zni
theorem Zo2 : Xs enc Tryz.prog w 77 SchemaE:=ZlJ (g:=fun p=>⟨p.1,p.2.1,p.2.2.1,p.2.2.2⟩) (fun _=>rfl) Tryz.underlying77 rfl (by kernel_rfl) rfl (by kernel_rfl) rfl (by kernel_rfl) rfl (by kernel_rfl) (by kernel_rfl) (Za3 Tryz.underlying9) ZqS (Q0 Tryz.underlying3) ZlN
theorem Znj : Xs enc Tryz.prog w 33 (SchemaE.slice 72):=Zc3 Tryz.underlying33 (by kernel_rfl) (by decide) (by kernel_rfl) (by decide) Zo2
theorem ZqT : ∀ N,ZcQ (fun d=>SizeOf.sizeOf d ≤ N) enc Tryz.prog w 27 (Xd N):=
 Zhj Tryz.underlying27 ⟨rfl,rfl,rfl,rfl,rfl⟩ Tryz.underlying3 Tryz.underlying9 Tryz.underlying9 Zsq Tryz.underlying25 ⟨by kernel_rfl,by kernel_rfl,by kernel_rfl,by kernel_rfl,by kernel_rfl⟩ (by kernel_rfl) (by kernel_rfl)
theorem ZpR : ∀ N,ZcQ (fun d=>SizeOf.sizeOf d ≤ N) enc Tryz.prog w 32 QryE:=
 Zg2 Tryz.underlying32 ⟨rfl,rfl,rfl,rfl,rfl,rfl,rfl,rfl,rfl⟩ Tryz.underlying3 Tryz.underlying9 ZjD ZjD (Znb ZqT) Tryz.underlying3 Tryz.underlying3 ZqR Tryz.underlying30
  ⟨by kernel_rfl,by kernel_rfl,by kernel_rfl,by kernel_rfl,by kernel_rfl,by kernel_rfl,by kernel_rfl,by kernel_rfl,by kernel_rfl⟩ (by kernel_rfl) (by kernel_rfl)
end
theorem Ztf : ownKnob Tryz.prog.godebug = none:=by kernel_rfl
theorem ZjE : laidOutB Tryz.prog = true:=by kernel_rfl
theorem Zss : Tryz.prog.globalNamed "civiltime/querytext.reserved" = some 1:=by kernel_rfl
theorem Ztg : Tryz.prog.globalNamed "civiltime/plan.all" = some 0:=by kernel_rfl
theorem Zst : (Tryz.prog.globals[1]?).map (·.type) = some 22:=by kernel_rfl
theorem Zth : (Tryz.prog.globals[0]?).map (·.type) = some 29:=by kernel_rfl
abbrev Zhw : List (String × DataW Unit):=[("civiltime/querytext.reserved",Rows.laid_civiltime_querytext_reserved),("civiltime/plan.all",Rows.laid_civiltime_plan_all)]
theorem ZpS {W : World} (h : laidMetH Tryz.prog Zhw W) : Glob (GW W):=by
 rw [MakeChecks.laidMetH_plain _ _ _ (by kernel_rfl)] at h
 obtain ⟨ps,⟨g0,t0,cs0,f0,p0,q0,hg0,ht0,hv0,hd0,⟨g1,t1,cs1,f1,p1,q1,hg1,ht1,hv1,hd1,_,_⟩,_⟩,_,_⟩:=h
 obtain rfl:=Option.some.inj (Zss.symm.trans hg0)
 obtain rfl:=Option.some.inj (Ztg.symm.trans hg1)
 obtain rfl:=Option.some.inj (Zst.symm.trans ht0)
 obtain rfl:=Option.some.inj (Zth.symm.trans ht1)
 refine ⟨?_,?_⟩
 ·obtain ⟨v,e,hs⟩:=Znd (L:=Xp) Tryz.underlying22 Tryz.underlying9 (by kernel_rfl) (by decide) (by decide) hd0
  have hc:=Zhv hg0 hv0 (by rw [← Array.length_toList,e]; exact Nat.zero_lt_one)
  rw [e] at hc
  exact ⟨v,hc,hs⟩
 ·obtain ⟨y0,y1,n,hx,hlen,h0,h1⟩:=trod_struct2 Tryz.underlying29 hd1
  have c3 : Tryz.prog.cellsOf 3 = 1:=by kernel_rfl
  have c29 : Tryz.prog.cellsOf 29 = 2:=by kernel_rfl
  obtain ⟨n0,r0,e0,_⟩:=DataW.trod_int Tryz.underlying3 h0
  obtain ⟨n1,r1,e1,_⟩:=DataW.trod_int Tryz.underlying3 h1
  rw [e0,e1] at hx
  simp only [Rows.laid_civiltime_plan_all,Prod.mk.injEq,DataW.agg.injEq,List.cons.injEq,DataW.lit.injEq,Lit.int.injEq,true_and,and_true] at hx
  obtain ⟨⟨x0,x1⟩,_⟩:=hx
  subst x0 x1
  have hc:=Zhv hg1 hv1 (by rw [← Array.length_toList,hlen,c29]; decide)
  have hl : cs1.toList = [.int .i64 (-62135596800), .int .i64 253402300800]:=by
   have h2 : cs1.toList.length = 2:=hlen.trans c29
   match hm : cs1.toList,h2 with
   | [a,b],_=>
    rw [hm] at r0 r1
    simp [c3] at r0 r1
    rw [r0,r1]
  rw [hl] at hc
  exact hc
end Go.Civ
