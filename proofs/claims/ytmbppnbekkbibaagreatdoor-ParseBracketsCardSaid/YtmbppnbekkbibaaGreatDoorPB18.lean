/- UN5, US, HK, RE, YX, YD, YG, YE, YV, YH, YF, GO, YJ, YQ, YZ -/
import Derived.Test.YtmbppnbekkbibaaGreatDoorPB05
import Derived.Test.YtmbppnbekkbibaaGreatDoorPB17
import Derived.Test.YtmbppnbekkbibaaGreatDoorPB14
import Derived.Test.YtmbppnbekkbibaaGreatDoorPB15
import Derived.Test.YtmbppnbekkbibaaGreatDoorPB16
import Derived.Test.YtmbppnbekkbibaaGreatDoorPB02
import Derived.Test.YtmbppnbekkbibaaGreatDoorPB13
import Derived.Test.YtmbppnbekkbibaaGreatDoorPB01
import Derived.IntWalk
import Derived.Deep.MidRow
import Derived.Lib.AppendStr
import Derived.Shelf.Strings.Builder1
import Derived.Shelf.Strings.Builder2
import Derived.Shelf.Strings.OnBuilder
import Derived.Shelf.Small.Strs
import Derived.Shelf.Strings.BuilderF
import Derived.Shelf.Strings.BuilderK
import Derived.Shelf.Strconv.Atoi
import Derived.Shelf.Strconv.Itoa0
import Derived.Shelf.Strconv.Itoa1
import Derived.Shelf.LaysM
import Derived.Shelf.Strconv.Itoa2
import Derived.Shelf.Strconv.Itoa3
import Derived.Shelf.Strconv.AtoiErrFast
import Derived.Shelf.Strconv.ParseIntEmpty
import Derived.Shelf.Strconv.AtoiFail
import Derived.Shelf.Strconv.Clone
import Derived.Shelf.Strconv.SyntaxError
import Derived.Shelf.LaysC
import Derived.Shelf.Strconv.ToError
import Derived.Shelf.Strconv.Lower
import Derived.Shelf.Strconv.ParseUint10
import Derived.Shelf.Strconv.ParseUint10Empty
import Derived.Shelf.Strconv.ParseUint10Any
import Derived.Shelf.Strconv.ParseInt10
import Derived.Shelf.Strconv.AtoiLong
import Derived.Shelf.Strconv.AtoiInnerAll
import Derived.Shelf.Strconv.RangeError
import Derived.Shelf.Strconv.ToErrorRange
import Derived.Shelf.Strconv.AtoiAll
import Derived.Shelf.Strconv.ErrVarAll
import Derived.Shelf.Strings.Search1
import Derived.Shelf.Strings.Search2
import Derived.Shelf.Strings.Search3
import Derived.Shelf.Strings.Count
import Derived.Shelf.Strings.Shaped
import Derived.Shelf.GgClosure.StringsIndexFunc
import Derived.Shelf.Strings.Split
import Derived.Shelf.Strings.Fields
import Derived.Shelf.Strings.SplitShaped
import Derived.Shelf.Unicode.Latin
import Derived.Shelf.Unicode.Is16White
import Derived.Shelf.Unicode.IsSpaceAny
import Derived.Shelf.Unicode.Is16WhiteD
import Derived.Shelf.Unicode.IsSpaceAnyD
import Derived.Shelf.Strings.FieldsAny
import Derived.Shelf.Strings.FieldsFuncAny
import Derived.Shelf.Unicode.Is16Any
import Derived.Shelf.Unicode.Is32Any
import Derived.Shelf.Unicode.ExclAny
import Derived.Shelf.Slices.Turned
import Derived.Test.YtmbppnbekkbibaaGreatDoorProg
import Derived.Deep.Cut
import Derived.Deep.CutBlock
import Derived.Deep.CutRange
set_option linter.unusedSimpArgs false
set_option linter.unusedVariables false
section
set_option linter.unusedVariables false
namespace Go.Proofs.YtmbppnbekkbibaaGreatDoor
open Go.RowKit
set_option maxRecDepth 100000 in
set_option maxHeartbeats 8000000 in
theorem LB (text:Bt) (n li co:Int) (ts:List bO) (ns:List Bt) (ks:List bD) (ih:∀y∈ks,TM y):TM (.mk 14 text n li co ts ns ks):=by
 intro w z m hr hok hnd hc hX
 have hlen:=yJ _ m hnd
 obtain⟨q,rfl,Qw,hown,hns,hts,hkk⟩:=z8 hnd
 rw [yM,Bool.and_eq_true,Bool.and_eq_true,Bool.and_eq_true,Bool.and_eq_true,decide_eq_true_eq,decide_eq_true_eq,decide_eq_true_eq,decide_eq_true_eq]at hown
 obtain⟨⟨⟨⟨hn0,hn1⟩,htx⟩,hlo,hhi⟩,hkn,hkd⟩:=hown
 have htl:=yI htx
 rw [Mj]at hok
 obtain⟨ok1,MX,Lb,Ob,TJ,Rk,Rl,Og⟩:=hok
 obtain⟨A1,c1,A2,c2,A3,c3,xt,xk,rfl,s1,r1,s2,s3,r3⟩:=hr.parts
 have l1:=(bL s1).2
 have l2:=(bL s2).2
 have l3:=(bL s3).2
 rw [mI]at hlen ⊢
 rw [dZ]at hc hlen
 have XI:dR ts≤100000:=by omega
 have hcK:fT ks≤100000:=by omega
 have hdc:ks.length≤100000:=Nat.le_trans (qc ks) hcK
 obtain⟨S,hS⟩:∃S,jZ ks=S:=⟨_,rfl⟩
 have LC:S.length=ks.length:=by rw [←hS,mF]
 have XJ:Hid (∀(i:Nat) (h:i<ks.length) (h2:i<S.length),S[i]=mI ks[i]):=hid (by
  intro i h h2
  subst hS
  simp [nG])
 rw [hS]at hlen ⊢
 have HKK:=hid (And.intro s3 r3)
 have F4:=hid (And.intro s1 r1)
 have Cg:=hid s2
 have MW:=hid ih
 have FY:=hid (rT.1 Og)
 have XK:=hid hkk
 have XL:=hid hcK
 have HCT:=hid XI
 have YJ:=hid hts
 have zW:=hid hns
 have HX:=hid hX
 have Du:=Lb
 clear hr s1 r1 s2 s3 r3 ih ok1 MX Lb Ob TJ Rk Rl Og hkk hts hns hX hS hnd Qw
 obtain⟨a,hA⟩:∃a,ts.length=a:=⟨_,rfl⟩
 obtain⟨b,hB⟩:∃b,ns.length=b:=⟨_,rfl⟩
 obtain⟨d,hD⟩:∃d,ks.length=d:=⟨_,rfl⟩
 rw [hA]at l1 F4 hlo hhi
 rw [hB]at l2 Cg hkn hkd
 rw [hD]at l3 HKK hkd hdc LC
 rw [hA,hB,hD]
 have HA:=hid hA
 have nO:=hid hB
 have HD:=hid hD
 have HSL:=hid LC
 clear hA hB hD
 have hd0:d=2:=by
  have h:(dD 14).kids=2:=rfl
  rw [h]at hkd
  unfold pF at hkd
  rw [if_neg (by decide)]at hkd
  omega
 have HD0:=hid hd0
 clear hd0 hkd hkn
 obtain⟨OB,Qx⟩:∃OB,Obj.cells #[.int .i64 14,sv text, .int .i64 n, .int .i64 li, .int .i64 co, .slice A1 a c1, .slice A2 b c2, .slice A3 d c3] 49 (0,0)=OB:=⟨_,rfl⟩
 obtain⟨W,hW⟩:∃W,(w.alloc (.cells #[.int .i64 14,sv text, .int .i64 n, .int .i64 li, .int .i64 co, .slice A1 a c1, .slice A2 b c2, .slice A3 d c3] 49)).alloc (.cells #[.slice none 0 0] 25)=W:=⟨_,rfl⟩
 have Qy:Hid (yK w W OB (.slice none 0 0) (S.take 0)):=hid (by
  rw [←hW, ←Qx]
  exact⟨(iY w _ _).2,gD.nil _ _ _,(iY w _ _).1,((Below.refl _ _).alloc (Nat.le_refl _) _).alloc (by simp) _⟩)
 have oq:=hid Qx
 have BF:=hid hW
 clear hW Qx
 go_enter Tryz.func61,Tryz.ntmps61
 go_wp2_with fail
 have hW:=BF.out
 rw [hW]
 clear hW
 go_loopw [10] (fun v10 wr=>∃(i:Nat) (v:Value),v10= .int .i64 i∧i≤d∧yK w wr OB v (S.take i)) (fun v10 _=>d - (intOf v10).toNat)
 case atStart=>exact⟨0, _,rfl,by omega,Qy.out⟩
 case round=>
  obtain⟨i,v,rfl,hi_,hat⟩:=hrel
  have yN:=hid hat
  clear hat
  by_cases hlt:i<d
  ·have hil:i<ks.length:=by rw [HD.out];exact hlt
   have YV:i<S.length:=by rw [HSL.out];exact hlt
   have hbr:=yN.out.below
   obtain⟨b2,o2,kk,ss,y2,y3,y4,A5,n5,c5,A6,n6,c6,A7,n7,c7,hA3,hr1,e0,e1,e2,e3,e4,e5,e6,e7⟩:=wS (Sl.more (Sl.below HKK.out.1 hbr) hbr.size) ((HKK.out.2.keep hbr).more hbr.size) hil HD.out.symm
   obtain⟨wA,Dv⟩:∃wA,wr.alloc (.cells #[.int .i64 kk, .string ss, .int .i64 y2, .int .i64 y3, .int .i64 y4, .slice A5 n5 c5, .slice A6 n6 c6, .slice A7 n7 c7] 49)=wA:=⟨_,rfl⟩
   have Dw:Below wr.heap.size wr wA:=by rw [←Dv];exact(Below.refl _ _).alloc (Nat.le_refl _) _
   have hsA:wA.heap[wr.heap.size]? =some (.cells #[.int .i64 kk, .string ss, .int .i64 y2, .int .i64 y3, .int .i64 y4, .slice A5 n5 c5, .slice A6 n6 c6, .slice A7 n7 c7] 49 (0,0)):=by rw [←Dv];exact heap_alloc_new wr _
   have HE:=hid (fun w1 (h:Below wA.heap.size wA w1)=>MW.out ks[i] (List.getElem_mem hil) w1 _ q (hr1.far (Nat.le_refl _) (Dw.trans (h.mono Dw.size))) (FY.out _ (List.getElem_mem hil)) (XK.out _ (List.getElem_mem hil)) (Nat.le_trans (yH (List.getElem_mem hil)) XL.out) ((HX.out.below hbr).below (Dw.trans (h.mono Dw.size))))
   rw [←XJ.out i hil YV]at HE
   have HST:=hid (yE YV)
   have Ri:Hid (∀g,v.ownBlock=some g→g<wr.heap.size):=hid (fun g hg=>(yN.out.own.lt g hg).2)
   have Rm:Hid (Below wA.heap.size wA wA.drew):=hid (aM wA 1)
   have jP:Hid (Below wr.heap.size wr wA.drew):=hid (Dw.trans (Rm.out.mono Dw.size))
   have ED:Hid (wA.drew.heap[wr.heap.size]? =some (.cells #[.int .i64 kk, .string ss, .int .i64 y2, .int .i64 y3, .int .i64 y4, .slice A5 n5 c5, .slice A6 n6 c6, .slice A7 n7 c7] 49 (0,0))):=hid hsA
   have gk:=(yN.out.far jP.out).cell
   have hA:=hid Dv
   obtain⟨Av,nv,cv,rfl⟩:=fU yN.out.own.ss
   generalize S[i]=X at*
   generalize ks[i]=kx at*
   clear hbr hr1 Dw hsA hil Dv
   subst hA3
   go_wp2_with fail
   have Dv:=hA.out
   rw [Dv]
   clear Dv e0 e1 e2 e3 e4 e5 e6 e7
   refine wp_region_held_drew (S:=fun w'=>w'.heap[wr.heap.size]? =some (.cells #[.int .i64 kk, .string ss, .int .i64 y2, .int .i64 y3, .int .i64 y4, .slice A5 n5 c5, .slice A6 n6 c6, .slice A7 n7 c7] 49 (0,0))) (by kernel_rfl) ED.out (fun _=> ?_)
   try simp only [Act.put,List.getElem_toArray,List.getElem_cons_zero,List.getElem_cons_succ,List.setIfInBounds_toArray,List.set_cons_zero,List.set_cons_succ]
   refine wpAnyH_take (i:=1) (v:=(.agg #[.int .i64 kk, .string ss, .int .i64 y2, .int .i64 y3, .int .i64 y4, .slice A5 n5 c5, .slice A6 n6 c6, .slice A7 n7 c7])) rfl (by kernel_rfl) (by kernel_rfl) (by kernel_rfl) (fun _ _ _ h=>h) (Or.inl ⟨by kernel_rfl,by intro w' hSw;obtain⟨u0,u1,u2,u3,u4,u5,u6,u7⟩:=gq hSw;go_simp⟩) ED.out ?_
   try simp only [Act.put,List.getElem_toArray,List.getElem_cons_zero,List.getElem_cons_succ,List.setIfInBounds_toArray,List.set_cons_zero,List.set_cons_succ]
   refine wpAnyH_ready (rs:=[0,2]) (by kernel_rfl) (by simp) ?_
   refine AllReadyH.cons rfl (fun K hK=> ?_) (AllReadyH.cons rfl (fun K hK=> ?_) AllReadyH.nil)
   ·go_simp
    refine hK.out _ _ ED.out (fun _=> ?_)
    clear hK K
    try simp only [Act.put,List.getElem_toArray,List.getElem_cons_zero,List.getElem_cons_succ,List.setIfInBounds_toArray,List.set_cons_zero,List.set_cons_succ]
    refine wpAnyH_ready (rs:=[2]) (by kernel_rfl) (by simp) ?_
    refine AllReadyH.cons rfl (fun K hK=> ?_) AllReadyH.nil
    go_simp
    refine(HE.out _ Rm.out).mono ?_
    rintro e w2 ⟨rfl,hb⟩
    have tJ:=jP.out.trans (hb.mono jP.out.size)
    have wz:=hid (yN.out.far tJ)
    have HS2:=hid ((hb.block _ (block_lt ED.out)).trans ED.out)
    clear hb tJ
    refine hK.out _ _ HS2.out (fun _=> ?_)
    clear hK K
    try simp only [Act.put,List.getElem_toArray,List.getElem_cons_zero,List.getElem_cons_succ,List.setIfInBounds_toArray,List.set_cons_zero,List.set_cons_succ]
    refine wpAnyH_ready (rs:=[3]) (by kernel_rfl) (by simp) ?_
    refine AllReadyH.cons rfl (fun K hK=> ?_) AllReadyH.nil
    go_simp
    have zu:=hid ((((Below.refl w2.heap.size w2).alloc (Nat.le_refl _) (.cells #[sv X] 9)).block _ (block_lt HS2.out)).trans HS2.out)
    refine hK.out _ _ zu.out (fun _=> ?_)
    clear hK K
    try simp only [Act.put,List.getElem_toArray,List.getElem_cons_zero,List.getElem_cons_succ,List.setIfInBounds_toArray,List.set_cons_zero,List.set_cons_succ]
    refine wpAnyH_ready (rs:=[4]) (by kernel_rfl) (by simp) ?_
    refine AllReadyH.cons rfl (fun K hK=> ?_) AllReadyH.nil
    refine uK rfl (.tmp 14) (.tmp 17) _ rfl (w.heap.size+2) tT _ _ rfl rfl (wz.out.own.alloc _) (qE w2 X _) (by simp;omega) (by have:=block_lt wz.out.box;rw [World.size_alloc];omega) (fun v4 w4 mh hg4 LD=> ?_)
    obtain⟨g4,c4,n4,rfl⟩:=uI mh (by simp)
    rw [←HST.out]at mh
    obtain⟨x1,x2,x3⟩:=(wz.out.far ((Below.refl _ _).alloc (Nat.le_refl _) _)).grown mh hg4
    have vZ:=hid ((hg4.block _ (block_lt zu.out) (by intro e;have:=Ri.out _ e.symm;omega)).trans zu.out)
    have X3:=hid x3
    have BA:=hid (ah vZ.out (ak w4 (w.heap.size+1) 0 (.slice (some ⟨g4,0,none⟩) n4 c4)) (by have:=block_lt yN.out.box;omega))
    clear x3 mh hg4 LD
    refine hK.out _ _ vZ.out (fun _=> ?_)
    clear hK K
    try simp only [Act.put,List.getElem_toArray,List.getElem_cons_zero,List.getElem_cons_succ,List.setIfInBounds_toArray,List.set_cons_zero,List.set_cons_succ]
    refine wpAnyH_ready (rs:=[5]) (by kernel_rfl) (by simp) ?_
    refine AllReadyH.cons rfl (fun K hK=> ?_) AllReadyH.nil
    go_simp
    refine hK.out _ _ BA.out (fun _=> ?_)
    clear hK K
    try simp only [Act.put,List.getElem_toArray,List.getElem_cons_zero,List.getElem_cons_succ,List.setIfInBounds_toArray,List.set_cons_zero,List.set_cons_succ]
    refine wpAnyH_done (by kernel_rfl) ?_ _
    go_wp2_with fail
    go_roundw
    case rel=>exact⟨i+1, _,rfl,by omega,X3.out⟩
    case measure=>simp [intOf];omega
   ·go_simp
    refine(HE.out _ Rm.out).mono ?_
    rintro e w2 ⟨rfl,hb⟩
    have tJ:=jP.out.trans (hb.mono jP.out.size)
    have wz:=hid (yN.out.far tJ)
    have HS2:=hid ((hb.block _ (block_lt ED.out)).trans ED.out)
    clear hb tJ
    have gk2:=wz.out.cell
    refine hK.out _ _ HS2.out (fun _=> ?_)
    clear hK K
    try simp only [Act.put,List.getElem_toArray,List.getElem_cons_zero,List.getElem_cons_succ,List.setIfInBounds_toArray,List.set_cons_zero,List.set_cons_succ]
    refine wpAnyH_ready (rs:=[0,3]) (by kernel_rfl) (by simp) ?_
    refine AllReadyH.cons rfl (fun K hK=> ?_) (AllReadyH.cons rfl (fun K hK=> ?_) AllReadyH.nil)
    ·go_simp
     refine hK.out _ _ HS2.out (fun _=> ?_)
     clear hK K
     try simp only [Act.put,List.getElem_toArray,List.getElem_cons_zero,List.getElem_cons_succ,List.setIfInBounds_toArray,List.set_cons_zero,List.set_cons_succ]
     refine wpAnyH_ready (rs:=[3]) (by kernel_rfl) (by simp) ?_
     refine AllReadyH.cons rfl (fun K hK=> ?_) AllReadyH.nil
     go_simp
     have zu:=hid ((((Below.refl w2.heap.size w2).alloc (Nat.le_refl _) (.cells #[sv X] 9)).block _ (block_lt HS2.out)).trans HS2.out)
     refine hK.out _ _ zu.out (fun _=> ?_)
     clear hK K
     try simp only [Act.put,List.getElem_toArray,List.getElem_cons_zero,List.getElem_cons_succ,List.setIfInBounds_toArray,List.set_cons_zero,List.set_cons_succ]
     refine wpAnyH_ready (rs:=[4]) (by kernel_rfl) (by simp) ?_
     refine AllReadyH.cons rfl (fun K hK=> ?_) AllReadyH.nil
     refine uK rfl (.tmp 14) (.tmp 17) _ rfl (w.heap.size+2) tT _ _ rfl rfl (wz.out.own.alloc _) (qE w2 X _) (by simp;omega) (by have:=block_lt wz.out.box;rw [World.size_alloc];omega) (fun v4 w4 mh hg4 LD=> ?_)
     obtain⟨g4,c4,n4,rfl⟩:=uI mh (by simp)
     rw [←HST.out]at mh
     obtain⟨x1,x2,x3⟩:=(wz.out.far ((Below.refl _ _).alloc (Nat.le_refl _) _)).grown mh hg4
     have vZ:=hid ((hg4.block _ (block_lt zu.out) (by intro e;have:=Ri.out _ e.symm;omega)).trans zu.out)
     have X3:=hid x3
     have BA:=hid (ah vZ.out (ak w4 (w.heap.size+1) 0 (.slice (some ⟨g4,0,none⟩) n4 c4)) (by have:=block_lt yN.out.box;omega))
     clear x3 mh hg4 LD
     refine hK.out _ _ vZ.out (fun _=> ?_)
     clear hK K
     try simp only [Act.put,List.getElem_toArray,List.getElem_cons_zero,List.getElem_cons_succ,List.setIfInBounds_toArray,List.set_cons_zero,List.set_cons_succ]
     refine wpAnyH_ready (rs:=[5]) (by kernel_rfl) (by simp) ?_
     refine AllReadyH.cons rfl (fun K hK=> ?_) AllReadyH.nil
     go_simp
     refine hK.out _ _ BA.out (fun _=> ?_)
     clear hK K
     try simp only [Act.put,List.getElem_toArray,List.getElem_cons_zero,List.getElem_cons_succ,List.setIfInBounds_toArray,List.set_cons_zero,List.set_cons_succ]
     refine wpAnyH_done (by kernel_rfl) ?_ _
     go_wp2_with fail
     go_roundw
     case rel=>exact⟨i+1, _,rfl,by omega,X3.out⟩
     case measure=>simp [intOf];omega
    ·go_simp
     have zu:=hid ((((Below.refl w2.heap.size w2).alloc (Nat.le_refl _) (.cells #[sv X] 9)).block _ (block_lt HS2.out)).trans HS2.out)
     have gk3:=(wz.out.far ((Below.refl w2.heap.size w2).alloc (Nat.le_refl _) (.cells #[sv X] 9))).cell
     refine hK.out _ _ zu.out (fun _=> ?_)
     clear hK K
     try simp only [Act.put,List.getElem_toArray,List.getElem_cons_zero,List.getElem_cons_succ,List.setIfInBounds_toArray,List.set_cons_zero,List.set_cons_succ]
     refine wpAnyH_ready (rs:=[0]) (by kernel_rfl) (by simp) ?_
     refine AllReadyH.cons rfl (fun K hK=> ?_) AllReadyH.nil
     go_simp
     refine hK.out _ _ zu.out (fun _=> ?_)
     clear hK K
     try simp only [Act.put,List.getElem_toArray,List.getElem_cons_zero,List.getElem_cons_succ,List.setIfInBounds_toArray,List.set_cons_zero,List.set_cons_succ]
     refine wpAnyH_ready (rs:=[4]) (by kernel_rfl) (by simp) ?_
     refine AllReadyH.cons rfl (fun K hK=> ?_) AllReadyH.nil
     refine uK rfl (.tmp 14) (.tmp 17) _ rfl (w.heap.size+2) tT _ _ rfl rfl (wz.out.own.alloc _) (qE w2 X _) (by simp;omega) (by have:=block_lt wz.out.box;rw [World.size_alloc];omega) (fun v4 w4 mh hg4 LD=> ?_)
     obtain⟨g4,c4,n4,rfl⟩:=uI mh (by simp)
     rw [←HST.out]at mh
     obtain⟨x1,x2,x3⟩:=(wz.out.far ((Below.refl _ _).alloc (Nat.le_refl _) _)).grown mh hg4
     have vZ:=hid ((hg4.block _ (block_lt zu.out) (by intro e;have:=Ri.out _ e.symm;omega)).trans zu.out)
     have X3:=hid x3
     have BA:=hid (ah vZ.out (ak w4 (w.heap.size+1) 0 (.slice (some ⟨g4,0,none⟩) n4 c4)) (by have:=block_lt yN.out.box;omega))
     clear x3 mh hg4 LD
     refine hK.out _ _ vZ.out (fun _=> ?_)
     clear hK K
     try simp only [Act.put,List.getElem_toArray,List.getElem_cons_zero,List.getElem_cons_succ,List.setIfInBounds_toArray,List.set_cons_zero,List.set_cons_succ]
     refine wpAnyH_ready (rs:=[5]) (by kernel_rfl) (by simp) ?_
     refine AllReadyH.cons rfl (fun K hK=> ?_) AllReadyH.nil
     go_simp
     refine hK.out _ _ BA.out (fun _=> ?_)
     clear hK K
     try simp only [Act.put,List.getElem_toArray,List.getElem_cons_zero,List.getElem_cons_succ,List.setIfInBounds_toArray,List.set_cons_zero,List.set_cons_succ]
     refine wpAnyH_done (by kernel_rfl) ?_ _
     go_wp2_with fail
     go_roundw
     case rel=>exact⟨i+1, _,rfl,by omega,X3.out⟩
     case measure=>simp [intOf];omega
  ·obtain rfl:i=d:=by omega
   have hex:=yN.out
   rw [List.take_of_length_le (by rw [HSL.out];omega)]at hex
   have hbr:=hex.below
   obtain⟨g0,g1,g2,g3,g4,g5,g6,g7⟩:=gq (hex.node.trans (congrArg some oq.out.symm))
   have gb:=hex.cell
   have hown:=hex.own
   have ou:=hid hbr
   clear hlt yN hex
   have hd0:=HD0.out
   have hsl:=HSL.out
   subst hd0
   obtain⟨s0,s1,rfl⟩:=M6 hsl
   obtain⟨g,c,rfl,hgb,hgl,hgc,hgm⟩:=gB hown.row (by simp)
   simp only [List.length_cons,List.length_nil,Nat.zero_add]at gb hown hgc
   have d0:=hown.cell 0 (by simp)
   have d1:=hown.cell 1 (by simp)
   simp only [List.getElem_cons_zero,List.getElem_cons_succ]at d0 d1
   have HT:Hid (zB 14 text n ts ns [s0,s1]=([40]:Bt)++(s0++([32]:Bt)++text++([32]:Bt)++s1)++([41]:Bt)):=hid (by simp [zB,cat])
   rw [HT.out]at hlen
   simp only [List.length_append,List.length_cons,List.length_nil]at hlen
   have hz0:=cu s0
   have hz1:=cu text
   have hz2:=cu s1
   have q0:¬(9223372036854775807<s0.length+1):=by omega
   have q1:¬(9223372036854775807<s0.length+1+text.length):=by omega
   have q2:¬(9223372036854775807<s0.length+1+text.length+1):=by omega
   have q3:¬(9223372036854775807<s0.length+1+text.length+1+s1.length):=by omega
   have q4:¬(9223372036854775807<1+(s0.length+1+text.length+1+s1.length)):=by omega
   have q5:¬(9223372036854775807<1+(s0.length+1+text.length+1+s1.length)+1):=by omega
   have G1:=hid g1
   have G2:=hid g2
   have G5:=hid g5
   have GB:=hid gb
   have D0:=hid d0
   have D1:=hid d1
   have HB0:Hid (Below wr.heap.size wr wr.drew):=hid (aM wr 1)
   clear g1 g2 g3 g4 g5 g6 g7 gb hown hbr hlen d0 d1
   go_wp2_with fail
   refine wp_region_held_drew (S:=fun w'=>Below wr.heap.size wr w') (by kernel_rfl) HB0.out (fun _=> ?_)
   try simp only [Act.put,List.getElem_toArray,List.getElem_cons_zero,List.getElem_cons_succ,List.setIfInBounds_toArray,List.set_cons_zero,List.set_cons_succ]
   refine qP 0 (.slice (some ⟨g,0,none⟩) 2 c) (za GB.out) HB0.out ?_
   refine tk 1 (.pointer (some ⟨g,0,none⟩)) HB0.out ?_
   refine qP 2 (sv s0) (za D0.out) HB0.out ?_
   refine tk 3 (.string ((⟨s0.toArray⟩:ByteArray)++⟨#[32]⟩)) HB0.out ?_
   refine tk 4 (.pointer (some ⟨w.heap.size,1,none⟩)) HB0.out ?_
   refine qP 5 (sv text) (za G1.out) HB0.out ?_
   refine tk 6 (.string ((⟨s0.toArray⟩:ByteArray)++⟨#[32]⟩++⟨text.toArray⟩)) HB0.out ?_
   refine tk 7 (.string ((⟨s0.toArray⟩:ByteArray)++⟨#[32]⟩++⟨text.toArray⟩++⟨#[32]⟩)) HB0.out ?_
   refine qP 8 (.slice (some ⟨g,0,none⟩) 2 c) (za GB.out) HB0.out ?_
   refine tk 9 (.pointer (some ⟨g,1,none⟩)) HB0.out ?_
   refine qP 10 (sv s1) (za D1.out) HB0.out ?_
   refine tk 11 (.string ((⟨s0.toArray⟩:ByteArray)++⟨#[32]⟩++⟨text.toArray⟩++⟨#[32]⟩++⟨s1.toArray⟩)) HB0.out ?_
   refine tk 12 (.string ((⟨s0.toArray⟩:ByteArray)++⟨#[32]⟩++⟨text.toArray⟩++⟨#[32]⟩++⟨s1.toArray⟩)) HB0.out ?_
   refine wpAnyH_done (by kernel_rfl) ?_ _
   go_wp2_with fail
   go_ret
   refine⟨?_,ou.out.trans (HB0.out.mono ou.out.size)⟩
   rw [HT.out]
   have e:(⟨([40]:Bt).toArray⟩:ByteArray)++((⟨s0.toArray⟩:ByteArray)++⟨([32]:Bt).toArray⟩++⟨text.toArray⟩++⟨([32]:Bt).toArray⟩++⟨s1.toArray⟩)++⟨([41]:Bt).toArray⟩=⟨(([40]:Bt)++(s0++([32]:Bt)++text++([32]:Bt)++s1)++([41]:Bt)).toArray⟩:=by
    rw [iF,iF,iF,iF,iF,iF]
   exact congrArg (fun b=>Ending.returned (Value.string b)) e
end Go.Proofs.YtmbppnbekkbibaaGreatDoor
end
section
set_option linter.unusedVariables false
namespace Go.Proofs.YtmbppnbekkbibaaGreatDoor
open Go.RowKit
theorem Dy (w:World) (z:List Value) (k:Int) (text:Bt) (n li co:Int) (ts:List bO) (ns:List Bt) (ks:List bD) (hr:qH w w.heap.size z (.mk k text n li co ts ns ks)) (hk:k=4):
  Calls Tryz.prog 118 #[.agg z.toArray] w fun e w'=>e= .returned (sv (rQ k text n ts))∧Below w.heap.size w w':=by
 subst hk
 obtain⟨A1,c1,A2,c2,A3,c3,xt,xk,rfl,s1,r1,s2,s3,r3⟩:=hr.parts
 clear hr s1 r1 s2 s3 r3
 rw [show rQ 4 text n ts=text from rfl]
 go_enter Tryz.func118,Tryz.ntmps118
 go_wp2_with fail
 go_ret
 exact⟨rfl,(Below.refl _ _).alloc (Nat.le_refl _) _⟩
set_option maxRecDepth 100000 in
set_option maxHeartbeats 8000000 in
theorem IX (k:Int) (hk:k=4) (text:Bt) (n li co:Int) (ts:List bO) (ns:List Bt) (ks:List bD) (ih:∀y∈ks,TM y):TM (.mk k text n li co ts ns ks):=by
 intro w z m hr hok hnd hc hX
 have hlen:=yJ _ m hnd
 obtain⟨q,rfl,Qw,hown,hns,hts,hkk⟩:=z8 hnd
 rw [yM,Bool.and_eq_true,Bool.and_eq_true,Bool.and_eq_true,Bool.and_eq_true,decide_eq_true_eq,decide_eq_true_eq,decide_eq_true_eq,decide_eq_true_eq]at hown
 obtain⟨⟨⟨⟨hn0,hn1⟩,htx⟩,hlo,hhi⟩,hkn,hkd⟩:=hown
 have htl:=yI htx
 rw [Mj]at hok
 obtain⟨ok1,MX,Lb,Ob,TJ,Rk,Rl,Og⟩:=hok
 obtain⟨A1,c1,A2,c2,A3,c3,xt,xk,rfl,s1,r1,s2,s3,r3⟩:=hr.parts
 have l1:=(bL s1).2
 have l2:=(bL s2).2
 have l3:=(bL s3).2
 rw [mI]at hlen ⊢
 rw [dZ]at hc hlen
 have XI:dR ts≤100000:=by omega
 have hcK:fT ks≤100000:=by omega
 have hdc:ks.length≤100000:=Nat.le_trans (qc ks) hcK
 obtain⟨S,hS⟩:∃S,jZ ks=S:=⟨_,rfl⟩
 have LC:S.length=ks.length:=by rw [←hS,mF]
 have XJ:Hid (∀(i:Nat) (h:i<ks.length) (h2:i<S.length),S[i]=mI ks[i]):=hid (by
  intro i h h2
  subst hS
  simp [nG])
 rw [hS]at hlen ⊢
 have HKK:=hid (And.intro s3 r3)
 have HR:=hid hr
 have F4:=hid (And.intro s1 r1)
 have Cg:=hid s2
 have MW:=hid ih
 have FY:=hid (rT.1 Og)
 have XK:=hid hkk
 have XL:=hid hcK
 have HCT:=hid XI
 have YJ:=hid hts
 have zW:=hid hns
 have HX:=hid hX
 have Du:=Lb
 clear hr s1 r1 s2 s3 r3 ih ok1 MX Lb Ob TJ Rk Rl Og hkk hts hns hX hS hnd Qw
 obtain⟨a,hA⟩:∃a,ts.length=a:=⟨_,rfl⟩
 obtain⟨b,hB⟩:∃b,ns.length=b:=⟨_,rfl⟩
 obtain⟨d,hD⟩:∃d,ks.length=d:=⟨_,rfl⟩
 rw [hA]at l1 F4 hlo hhi
 rw [hB]at l2 Cg hkn hkd
 rw [hD]at l3 HKK hkd hdc LC
 rw [hA,hB,hD]at HR
 rw [hA,hB,hD]
 have HA:=hid hA
 have nO:=hid hB
 have HD:=hid hD
 have HSL:=hid LC
 clear hA hB hD
 have hk0:(dD k).kids=0:=by subst hk;rfl
 have hd0:d=0:=by
  rw [hk0]at hkd
  unfold pF at hkd
  rw [if_neg (by decide)]at hkd
  omega
 have HT:Hid (zB k text n ts ns S=rQ k text n ts):=hid (by subst hk;rfl)
 have XM:=hid hk
 have HTL:=hid htl
 have XB:=hid Du
 have q7:(k==7)=false:=by rw [beq_eq_false_iff_ne];subst hk;decide
 have q9:(k==9)=false:=by rw [beq_eq_false_iff_ne];subst hk;decide
 have q10:(k==10)=false:=by rw [beq_eq_false_iff_ne];subst hk;decide
 have q8:(k==8)=false:=by rw [beq_eq_false_iff_ne];subst hk;decide
 have q17:(k==17)=false:=by rw [beq_eq_false_iff_ne];subst hk;decide
 have q5:(k==5)=false:=by rw [beq_eq_false_iff_ne];subst hk;decide
 have q6:(k==6)=false:=by rw [beq_eq_false_iff_ne];subst hk;decide
 have q11:(k==11)=false:=by rw [beq_eq_false_iff_ne];subst hk;decide
 have q12:(k==12)=false:=by rw [beq_eq_false_iff_ne];subst hk;decide
 have q13:(k==13)=false:=by rw [beq_eq_false_iff_ne];subst hk;decide
 have q14:(k==14)=false:=by rw [beq_eq_false_iff_ne];subst hk;decide
 have q15:(k==15)=false:=by rw [beq_eq_false_iff_ne];subst hk;decide
 have q16:(k==16)=false:=by rw [beq_eq_false_iff_ne];subst hk;decide
 subst hd0
 clear hk hk0 hkd hkn htx hlo hhi hn0 hn1 Du HKK MW FY XK XL XJ
 obtain⟨OB,Qx⟩:∃OB,Obj.cells #[.int .i64 k,sv text, .int .i64 n, .int .i64 li, .int .i64 co, .slice A1 a c1, .slice A2 b c2, .slice A3 0 c3] 49 (0,0)=OB:=⟨_,rfl⟩
 obtain⟨W,hW⟩:∃W,(w.alloc (.cells #[.int .i64 k,sv text, .int .i64 n, .int .i64 li, .int .i64 co, .slice A1 a c1, .slice A2 b c2, .slice A3 0 c3] 49)).alloc (.cells #[.slice none 0 0] 25)=W:=⟨_,rfl⟩
 have Qy:Hid (yK w W OB (.slice none 0 0) (S.take 0)):=hid (by
  rw [←hW, ←Qx]
  exact⟨(iY w _ _).2,gD.nil _ _ _,(iY w _ _).1,((Below.refl _ _).alloc (Nat.le_refl _) _).alloc (by simp) _⟩)
 have oq:=hid Qx
 have BF:=hid hW
 clear hW Qx
 go_enter Tryz.func61,Tryz.ntmps61
 go_wp2_with fail
 have hW:=BF.out
 rw [hW]
 clear hW
 go_loopw [10] (fun v10 wr=>v10= .int .i64 0∧wr=W) (fun _ _=>0)
 case atStart=>exact⟨rfl,rfl⟩
 case round=>
  obtain⟨rfl,rfl⟩:=hrel
  have hat:=Qy.out
  have hbr:=hat.below
  obtain⟨g0,g1,g2,g3,g4,g5,g6,g7⟩:=gq (hat.node.trans (congrArg some oq.out.symm))
  have HC:=hid (Dy wr _ k text n li co ts ns ks ((HR.out.keep hbr).more hbr.size) XM.out)
  have HB:=hid hbr
  clear hat hbr
  go_wp2_with fail
  refine HC.out.mono ?_
  rintro e w2 ⟨rfl,hb⟩
  go_wp2_with fail
  go_ret
  exact⟨by rw [HT.out];rfl,HB.out.trans (hb.mono HB.out.size)⟩
inductive Qz:bD→Prop
 | name {t:Bt} {n l c:Int} {ts:List bO} {ns:List Bt} {ks:List bD} (h:ks=[]):Qz (.mk 4 t n l c ts ns ks)
 | op {t:Bt} {n l c:Int} {ts:List bO} {ns:List Bt} {a b:bD}:Qz a→Qz b→Qz (.mk 14 t n l c ts ns [a,b])
theorem FD {x:bD} (h:Qz x):TM x:=by
 induction h with
 | @name t n l c ts ns ks h=>subst h;exact IX 4 rfl t n l c ts ns [] (fun y hy=>by cases hy)
 | @op t n l c ts ns a b _ _ ha hb=>exact LB t n l c ts ns [a,b] (fun y hy=>by
   rcases List.mem_cons.1 hy with rfl | hy
   ·exact ha
   ·rcases List.mem_cons.1 hy with rfl | hy
    ·exact hb
    ·cases hy)
set_option maxRecDepth 100000 in
theorem FE (w:World) (z:List Value) (x:bD) (hsm:Qz x) (hr:qH w w.heap.size z x) (hok:Mj x) (hc:dZ x≤100000) (hX:jk w):
  Calls Tryz.prog 31 #[.agg z.toArray] w fun e w'=>e= .returned (sv (zC x))∧Below w.heap.size w w':=by
 obtain⟨k,s,v2,v3,v4,A1,n1,c1,A2,n2,c2,A3,n3,c3,rfl⟩:=hr.shape
 obtain⟨W1,hW1⟩:∃W1,W1=w.alloc (.cells #[.int .i64 k, .string s, .int .i64 v2, .int .i64 v3, .int .i64 v4, .slice A1 n1 c1, .slice A2 n2 c2, .slice A3 n3 c3] 49):=⟨_,rfl⟩
 have hb1:Below w.heap.size w W1:=by rw [hW1];exact(Below.refl _ _).alloc (Nat.le_refl _) _
 have hbx:W1.heap[w.heap.size]? =some (.cells #[.int .i64 k, .string s, .int .i64 v2, .int .i64 v3, .int .i64 v4, .slice A1 n1 c1, .slice A2 n2 c2, .slice A3 n3 c3] 49 (0,0)):=by rw [hW1];exact heap_alloc_new w _
 have HW:=Dx 25 (by omega) W1 _ x (hr.far (Nat.le_refl _) hb1) hok (hX.below hb1)
 rw [hW1]at HW
 have HW:=hid HW
 have HB:=hid hb1
 have BF:=hid hW1
 have ug:=hid hbx
 have HR:=hid hr
 have HX:=hid hX
 have FY:=hid hok
 clear hb1 hbx hr hX hW1 hok
 cases hq:gX 25 x with
 | false=>
  have HT:Hid (zC x=[]):=hid (by unfold zC;rw [hq];rfl)
  rw [hq]at HW
  rw [HT.out]
  clear hq HT
  go_enter Tryz.func31,Tryz.ntmps31
  go_wp2_with fail
  refine HW.out.mono ?_
  rintro e w2 ⟨rfl,hb⟩
  rw [←BF.out]at hb
  go_wp2_with fail
  go_ret
  exact⟨rfl,HB.out.trans (hb.mono HB.out.size)⟩
 | true=>
  have HT:Hid (zC x=mI x):=hid (by unfold zC;rw [hq];rfl)
  rw [hq]at HW
  rw [HT.out]
  have HS:Hid (∀w2,Below w.heap.size w w2→Calls Tryz.prog 61 #[.agg [.int .i64 k, .string s, .int .i64 v2, .int .i64 v3, .int .i64 v4, .slice A1 n1 c1, .slice A2 n2 c2, .slice A3 n3 c3].toArray] w2 fun e w'=>e= .returned (sv (mI x))∧Below w2.heap.size w2 w'):=hid (fun w2 hb2=>FD hsm w2 _ 25 (HR.out.far (Nat.le_refl _) hb2) FY.out hq hc (HX.out.below hb2))
  clear hq HT HR
  generalize mI x=u at*
  go_enter Tryz.func31,Tryz.ntmps31
  go_wp2_with fail
  refine HW.out.mono ?_
  rintro e w2 ⟨rfl,hb⟩
  rw [←BF.out]at hb
  have HB2:=hid (HB.out.trans (hb.mono HB.out.size))
  obtain⟨g0,g1,g2,g3,g4,g5,g6,g7⟩:=gq ((hb.block _ (block_lt ug.out)).trans ug.out)
  clear hb
  go_wp2_with fail
  refine(HS.out _ HB2.out).mono ?_
  rintro e w3 ⟨rfl,hb3⟩
  go_wp2_with fail
  go_ret
  exact⟨rfl,HB2.out.trans (hb3.mono HB2.out.size)⟩
end Go.Proofs.YtmbppnbekkbibaaGreatDoor
end
section
set_option linter.unusedVariables false
namespace Go.Proofs.YtmbppnbekkbibaaGreatDoor
open Go.RowKit
def QA:bD:= .mk 14 [45] 0 1 7 [] [] [(.mk 14 [45] 0 1 3 [] [] [(.mk 4 [97] 0 1 1 [] [] []),(.mk 4 [98] 0 1 5 [] [] [])]),(.mk 14 [42] 0 1 11 [] [] [(.mk 4 [99] 0 1 9 [] [] []),(.mk 4 [100] 0 1 13 [] [] [])])]
def XO:bO:= .mk 6 [] [] [(.mk 7 [] [] [(.mk 3 [] [] []),(.mk 1 [] [] [])]),(.mk 5 [] [[97]] [(.mk 4 [] [] [])])]
def XP:tO:=⟨[],[⟨[102],false,[],[120],[(.mk 0 [] [] []),(.mk 0 [] [] [])],(.mk 4 [120] 0 1 11 [] [] []),1,1⟩]⟩
theorem Oj:aZ (bg 100).expr [97,32,45,32,98,32,45,32,99,32,42,32,100]=(some QA,(0,0,0)):=by kernel_rfl
theorem Ol:aZ (bg 100).typ [105,110,116,32,124,32,110,117,108,108,32,45,62,32,123,97,58,32,115,116,114,125]=(some XO,(0,0,0)):=by kernel_rfl
theorem Om:aZ dG [102,110,32,102,40,120,41,32,61,32,120,59]=(some XP,(0,0,0)):=by kernel_rfl
theorem TN:aZ dG [102,110,32,102,40,120,41,32,61,32,59]=(none,(1,11,7)):=by kernel_rfl
theorem XQ:Qz QA:= .op (.op (.name rfl) (.name rfl)) (.op (.name rfl) (.name rfl))
theorem QB:zC QA=[40,40,97,32,45,32,98,41,32,45,32,40,99,32,42,32,100,41,41]:=by kernel_rfl
theorem LG {w:World} {F:Nat→Prop} {z:List Value} (h:Gj w F z XP):∃A1 n1 c1 b o c2 A2 c3,z=[.slice A1 n1 c1, .slice (some ⟨b,o,none⟩) 1 c2]∧w.cell? ⟨b,o+4,none⟩=some (.slice A2 2 c3)∧b<w.heap.size∧1≤c2:=by
 obtain⟨A1,c1,A2,c2,xi,xd,rfl,h1,h2,h3,h4⟩:=h.all.parts
 obtain⟨A,n,c,hv,hl,hn,hc,hx⟩:=h3
 injection hv with hv1 hv2 hv3
 have hv2:(1:Nat)=n:=hv2
 subst hv1 hv3
 subst hv2
 obtain⟨b,o,rfl,hb,hcell⟩:=hx (by omega)
 have h4:bU (wG w w.heap.size) 15 xd [⟨[102],false,[],[120],[.mk 0 [] [] [], .mk 0 [] [] []], .mk 4 [120] 0 1 11 [] [] [],1,1⟩]:=h4
 cases h4 with
 | cons hz hd ht=>
  cases ht
  obtain⟨B1,d1,B2,d2,k,s,n,l,c,A3,n3,c3,A4,n4,c4,A5,n5,c5,xv,xt,rfl, _⟩:=hd.parts
  exact⟨A1, _,c1,b,o,c2,B2,d2,rfl,hcell 4 _ rfl,hb,hn⟩
theorem IY {w:World} {F:Nat→Prop} {z:List Value} (h:jG w F z QA):∃A1 n1 c1 A2 n2 c2 A3 n3 c3,z=[.int .i64 14,sv [45], .int .i64 0, .int .i64 1, .int .i64 7, .slice A1 n1 c1, .slice A2 n2 c2, .slice A3 n3 c3]:=by
 cases h with
 | mk h1 h2 h3 h4 h5=>
  obtain⟨A1,n1,c1,rfl, _⟩:=h1
  obtain⟨A2,n2,c2,rfl, _⟩:=h3
  obtain⟨A3,n3,c3,rfl, _⟩:=h4
  exact⟨_, _, _, _, _, _, _, _, _,rfl⟩
theorem IZ {w:World} {F:Nat→Prop} {z:List Value} (h:kD w F z XO):∃A1 n1 c1 A2 n2 c2,z=[.int .i64 6,sv [], .slice A1 n1 c1, .slice A2 n2 c2]:=by
 cases h with
 | mk h1 h2 h3=>
  obtain⟨A1,n1,c1,rfl, _⟩:=h1
  obtain⟨A2,n2,c2,rfl, _⟩:=h2
  exact⟨_, _, _, _, _, _,rfl⟩
set_option maxRecDepth 100000 in
set_option maxHeartbeats 8000000 in
theorem FH (w:World) (hX:jH w):Calls Tryz.prog 20 #[] w fun e w'=>e= .returned (.bool true)∧Below w.heap.size w w':=by
 have HX:=hid hX
 have HA:=hid (yB w [97,32,45,32,98,32,45,32,99,32,42,32,100] hX)
 clear hX
 go_enter Tryz.func20,Tryz.ntmps20
 go_wp2_with fail
 refine(HA.out).mono ?_
 rintro e w1 ⟨hb1,z1,rfl,hz1⟩
 rw [show pq (bg 100).expr [97,32,45,32,98,32,45,32,99,32,42,32,100] pE=QA by unfold pq;rw [Oj];rfl]at hz1
 rw [show(aZ (bg 100).expr [97,32,45,32,98,32,45,32,99,32,42,32,100]).2=(0,0,0) by rw [Oj]]
 obtain⟨A1,n1,c1,A2,n2,c2,A3,n3,c3,rfl⟩:=IY hz1
 have hs1:=hb1.size
 have HB1:=hid hb1
 have HZ1:=hid hz1
 have qh:=hid (HX.out.below hb1)
 obtain⟨W1,hW1⟩:∃W1,(w1.alloc (.cells #[.int .i64 14, .string ⟨#[45]⟩, .int .i64 0, .int .i64 1, .int .i64 7, .slice A1 n1 c1, .slice A2 n2 c2, .slice A3 n3 c3] 49)).alloc (.cells #[.int .i64 0, .int .i64 0, .int .i64 0, .int .i64 0] 55)=W1:=⟨_,rfl⟩
 have M8:Below w1.heap.size w1 W1:=by rw [←hW1];exact new2 _ _ _
 obtain⟨_, _,hn1,hd1⟩:=fZ (G:=fun _=>False) (Turn.refl _ ((w1.alloc (.cells #[.int .i64 14, .string ⟨#[45]⟩, .int .i64 0, .int .i64 1, .int .i64 7, .slice A1 n1 c1, .slice A2 n2 c2, .slice A3 n3 c3] 49)).alloc (.cells #[.int .i64 0, .int .i64 0, .int .i64 0, .int .i64 0] 55)))
 rw [hW1]at hn1 hd1
 have aaV:W1.heap.size=w1.heap.size+2:=by rw [←hW1];simp
 have YW:=hid (hn1 id)
 have HD1:=hid (hd1 id)
 have XR:=hid (hb1.trans (M8.mono hs1))
 have TP:=hid (qh.out.below M8)
 have XT:=hid (hz1.turn (Turn.of_below (F:=fun _=>False) M8) (fun _ _ _=>id))
 have HW1:=hid hW1
 have HT:=hid (K8 W1 [105,110,116,32,124,32,110,117,108,108,32,45,62,32,123,97,58,32,115,116,114,125] TP.out)
 clear hb1 hz1 M8 hn1 hd1 hW1
 go_wp2_with fail
 rw [HW1.out]
 refine(HT.out).mono ?_
 rintro e w2 ⟨hb2,z2,rfl,hz2⟩
 rw [show pq (bg 100).typ [105,110,116,32,124,32,110,117,108,108,32,45,62,32,123,97,58,32,115,116,114,125] vH=XO by unfold pq;rw [Ol];rfl]at hz2
 rw [show(aZ (bg 100).typ [105,110,116,32,124,32,110,117,108,108,32,45,62,32,123,97,58,32,115,116,114,125]).2=(0,0,0) by rw [Ol]]
 obtain⟨B1,m1,e1,B2,m2,e2,rfl⟩:=IZ hz2
 have hs2:=hb2.size
 obtain⟨W2,hW2⟩:∃W2,(w2.alloc (.cells #[.int .i64 6, .string ⟨#[]⟩, .slice B1 m1 e1, .slice B2 m2 e2] 63)).alloc (.cells #[.int .i64 0, .int .i64 0, .int .i64 0, .int .i64 0] 55)=W2:=⟨_,rfl⟩
 have hbw2:Below w2.heap.size w2 W2:=by rw [←hW2];exact new2 _ _ _
 obtain⟨_, _,hn2,hd2⟩:=fZ (G:=fun _=>False) (Turn.refl _ ((w2.alloc (.cells #[.int .i64 6, .string ⟨#[]⟩, .slice B1 m1 e1, .slice B2 m2 e2] 63)).alloc (.cells #[.int .i64 0, .int .i64 0, .int .i64 0, .int .i64 0] 55)))
 rw [hW2]at hn2 hd2
 have XU:W2.heap.size=w2.heap.size+2:=by rw [←hW2];simp
 have Dm:=hb2.trans (hbw2.mono hs2)
 have OO:=hid (hn2 id)
 have HD2:=hid (hd2 id)
 have TQ:=hid (XR.out.trans (Dm.mono (by omega)))
 have I4:=hid Dm
 have TR:=hid (TP.out.below Dm)
 have HW2:=hid hW2
 have HP:=hid (Di W2 [102,110,32,102,40,120,41,32,61,32,120,59] TR.out)
 clear hb2 hz2 hbw2 hn2 hd2 hW2 Dm
 go_wp2_with fail
 rw [HW2.out]
 refine(HP.out).mono ?_
 rintro e w3 ⟨hb3,z3,rfl,hz3⟩
 rw [show pq dG [102,110,32,102,40,120,41,32,61,32,120,59] vG=XP by unfold pq;rw [Om];rfl]at hz3
 rw [show(aZ dG [102,110,32,102,40,120,41,32,61,32,120,59]).2=(0,0,0) by rw [Om]]
 obtain⟨G1,p1,q1,bd,od,q2,G2,q3,rfl,hty,hbl,hq2⟩:=LG hz3
 have hs3:=hb3.size
 obtain⟨W3,hW3⟩:∃W3,(w3.alloc (.cells #[.slice G1 p1 q1, .slice (some ⟨bd,od,none⟩) 1 q2] 40)).alloc (.cells #[.int .i64 0, .int .i64 0, .int .i64 0, .int .i64 0] 55)=W3:=⟨_,rfl⟩
 have nU:Below w3.heap.size w3 W3:=by rw [←hW3];exact new2 _ _ _
 obtain⟨_, _,Uw,hd3⟩:=fZ (G:=fun _=>False) (Turn.refl _ ((w3.alloc (.cells #[.slice G1 p1 q1, .slice (some ⟨bd,od,none⟩) 1 q2] 40)).alloc (.cells #[.int .i64 0, .int .i64 0, .int .i64 0, .int .i64 0] 55)))
 rw [hW3]at Uw hd3
 have XV:W3.heap.size=w3.heap.size+2:=by rw [←hW3];simp
 have Bp:=hb3.trans (nU.mono hs3)
 have AQ:=hid (Uw id)
 have HD3:=hid (hd3 id)
 have qR:=hid ((nU.cell (p:=⟨bd,od+4,none⟩) hbl).trans hty)
 have TS:=hid (TQ.out.trans (Bp.mono (by have:=TQ.out.size;omega)))
 have I5:=hid Bp
 have TT:=hid (TR.out.below Bp)
 have HW3:=hid hW3
 have HQ:=hid (Di W3 [102,110,32,102,40,120,41,32,61,32,59] TT.out)
 clear hb3 hz3 nU Uw hd3 hW3 Bp hty
 go_wp2_with fail
 rw [HW3.out]
 refine(HQ.out).mono ?_
 rintro e w4 ⟨hb4,z4,rfl,YX⟩
 rw [show(aZ dG [102,110,32,102,40,120,41,32,61,32,59]).2=(1,11,7) by rw [TN]]
 have hzc:=YX
 obtain⟨vi,xi,vd,xd,rfl,⟨K1,r1,r2,rfl, _⟩, _,⟨K2,r3,r4,rfl, _⟩, _⟩:=hzc
 have hs4:=hb4.size
 obtain⟨W4,DW⟩:∃W4,(w4.alloc (.cells #[.slice K1 r1 r2, .slice K2 r3 r4] 40)).alloc (.cells #[.int .i64 0, .int .i64 1, .int .i64 11, .int .i64 7] 55)=W4:=⟨_,rfl⟩
 have IW:Below w4.heap.size w4 W4:=by rw [←DW];exact new2 _ _ _
 obtain⟨_, _, _,hd4⟩:=fZ (G:=fun _=>False) (Turn.refl _ ((w4.alloc (.cells #[.slice K1 r1 r2, .slice K2 r3 r4] 40)).alloc (.cells #[.int .i64 0, .int .i64 1, .int .i64 11, .int .i64 7] 55)))
 rw [DW]at hd4
 have XW:W4.heap.size=w4.heap.size+2:=by rw [←DW];simp
 have Dz:=hb4.trans (IW.mono hs4)
 have TW:=hid (TS.out.trans (Dz.mono (by have:=TS.out.size;omega)))
 have M9:Below W1.heap.size W1 W4:=(I4.out.trans (I5.out.mono I4.out.size)).trans (Dz.mono (by have:=I4.out.size;have:=I5.out.size;omega))
 have QC:Below W2.heap.size W2 W4:=I5.out.trans (Dz.mono I5.out.size)
 have HD4:=hid (hd4 id)
 have QD:=hid ((M9.block w1.heap.size (by omega)).trans YW.out)
 have aaW:=hid ((M9.block (w1.heap.size+1) (by omega)).trans HD1.out)
 have QE:=hid ((QC.block w2.heap.size (by omega)).trans OO.out)
 have QF:=hid ((QC.block (w2.heap.size+1) (by omega)).trans HD2.out)
 have QG:=hid ((Dz.block w3.heap.size (by omega)).trans AQ.out)
 have QH:=hid ((Dz.block (w3.heap.size+1) (by omega)).trans HD3.out)
 have XY:=hid ((Dz.cell (p:=⟨bd,od+4,none⟩) (by show bd< _;omega)).trans qR.out)
 have TY:=XT.out.turn (Turn.of_below (F:=fun _=>False) M9) (fun _ _ _=>id)
 have HE:=hid (FE W4 _ QA XQ TY.all (by unfold QA;simp [Mj,GZ,GY,In64,maxLen]) (by decide) (TT.out.below Dz).t)
 rw [QB]at HE
 have Rn:=hid DW
 have HE:=hid (by have h:=HE;rw [←DW]at h;exact h)
 have DC:Below W1.heap.size W1 w4:=(I4.out.trans (I5.out.mono I4.out.size)).trans (hb4.mono (by have:=I4.out.size;have:=I5.out.size;omega))
 obtain⟨x0,x1,x2,x3,x4,x5,x6,x7,xz⟩:=aN ((DC.block w1.heap.size (by omega)).trans YW.out)
 obtain⟨a0,a1,a2,a3,az⟩:=bK ((DC.block (w1.heap.size+1) (by omega)).trans HD1.out)
 have aaX:w1.heap.size<w4.heap.size:=by have:=DC.size;omega
 have SB:w1.heap.size+1<w4.heap.size:=by have:=DC.size;omega
 clear DC
 have vZ:=hid XW
 clear hb4 YX IW hd4 DW Dz M9 QC TY
 go_wp2_with fail
 refine(HE.out).mono ?_
 rintro e w5 ⟨rfl,hb5⟩
 rw [Rn.out]at hb5
 have nk:=hid (TW.out.trans (hb5.mono (by have:=TW.out.size;omega)))
 have hs5:=hb5.size
 clear x0 x1 x2 x3 x4 x5 x6 x7 xz a0 a1 a2 a3 az
 have QD:=hid ((hb5.block w1.heap.size (by omega)).trans QD.out)
 have QF:=hid ((hb5.block (w2.heap.size+1) (by omega)).trans QF.out)
 have QE:=hid ((hb5.block w2.heap.size (by omega)).trans QE.out)
 have QG:=hid ((hb5.block w3.heap.size (by omega)).trans QG.out)
 have QH:=hid ((hb5.block (w3.heap.size+1) (by omega)).trans QH.out)
 have XZ:=hid ((hb5.block (w4.heap.size+1) (by omega)).trans HD4.out)
 have hty:=(hb5.cell (p:=⟨bd,od+4,none⟩) (by show bd< _;omega)).trans XY.out
 obtain⟨x0,x1,x2,x3,x4,x5,x6,x7,xz⟩:=aN QD.out
 obtain⟨b0,b1,b2,b3,bz⟩:=bK QF.out
 obtain⟨y0,y1,y2,y3,yz⟩:=bK QE.out
 obtain⟨m0,m1',mz⟩:=yj QG.out
 obtain⟨d0,d1,d2,d3,dz⟩:=bK QH.out
 obtain⟨f0,f1,f2,f3,fz⟩:=bK XZ.out
 clear hb5
 go_wp2_with fail
 go_ret
 exact⟨rfl,nk.out⟩
end Go.Proofs.YtmbppnbekkbibaaGreatDoor
end
section
set_option linter.unusedVariables false
namespace Go.Proofs.YtmbppnbekkbibaaGreatDoor
def Cn {α:Type} (c:Nat) (p:Ps α) (m:α→Nat):Prop:=∀ts,Wf ts→∀a r,p ts= .good a r→Wf r∧m a+r.length≤ts.length+c
section
variable {α β:Type} {c:Nat}
theorem Cn.sf {p:Ps α} (h:Sf p) (c:Nat):Cn c p (fun _=>c):=fun ts hw a r hp=>by
 obtain⟨h1,h2⟩:=h.good hw hp
 have:=h2.length_le
 exact⟨h1,by(try dsimp only);omega⟩
theorem Cn.mono {p:Ps α} {m m':α→Nat} {c':Nat} (h:Cn c p m) (hm:∀a,m' a+c≤m a+c'):Cn c' p m':=fun ts hw a r hp=>by
 obtain⟨h1,h2⟩:=h ts hw a r hp
 have:=hm a
 exact⟨h1,by(try dsimp only);omega⟩
theorem Cn.ret {m:α→Nat} (a:α) (h:m a≤c):Cn c (aG a) m:=fun ts hw b r hp=>by
 injection hp with h1 h2
 subst h1 h2
 exact⟨hw,by(try dsimp only);omega⟩
theorem Cn.fail {m:α→Nat} (e:Int):Cn c (ji e) m:=fun ts hw b r hp=>by cases hp
theorem Cn.then_ {p:Ps α} {f:α→Ps β} {m1:α→Nat} {m:β→Nat} (h:Cn c p m1) (hf:∀a,Cn (m1 a) (f a) m):Cn c (au p f) m:=fun ts hw b r hp=>by
 rcases hq:p ts with d | ⟨a,r1⟩
 ·rw [aB hq]at hp;cases hp
 ·rw [aj hq]at hp
  obtain⟨h1,h2⟩:=h ts hw a r1 hq
  obtain⟨h3,h4⟩:=hf a r1 h1 b r hp
  exact⟨h3,by(try dsimp only);omega⟩
theorem Cn.dO (l:List Bt):Cn c (bS l) (fun o=>match o with | some _=>c+1 | none=>c):=fun ts hw a r hp=>by
 have h1:=(Sf.dO l).good hw hp
 refine⟨h1.1, ?_⟩
 have hpos:=hw.pos
 unfold bS at hp
 split at hp
 ·injection hp with h2 h3
  subst h2 h3
  show c+ts.length≤ _
  (try dsimp only);omega
 ·injection hp with h2 h3
  subst h2 h3
  show c+1+(ts.drop 1).length≤ _
  rw [List.length_drop];(try dsimp only);omega
theorem Cn.has (s:Bt):Cn c (dN s) (fun b=>if b then c+1 else c):=fun ts hw a r hp=>by
 have h1:=(Sf.has s).good hw hp
 refine⟨h1.1, ?_⟩
 have hpos:=hw.pos
 unfold dN at hp
 split at hp
 ·injection hp with h2 h3
  subst h2 h3
  show c+1+(ts.drop 1).length≤ _
  rw [List.length_drop];(try dsimp only);omega
 ·injection hp with h2 h3
  subst h2 h3
  show c+ts.length≤ _
  (try dsimp only);omega
theorem Cn.want (s:Bt):Cn c (aH s) (fun _=>c+1):=Cn.then_ (Cn.has s) fun b=>by
 cases b
 ·exact Cn.fail _
 ·exact Cn.ret _ (Nat.le_refl _)
theorem Cn.kind {k:Int} (hk:k≠0):Cn c (dH k) (fun _=>c+1):=fun ts hw a r hp=>by
 have h1:=(Sf.kind k).good hw hp
 refine⟨h1.1, ?_⟩
 have hpos:=hw.pos
 unfold dH at hp
 split at hp
 ·injection hp with h2 h3
  subst h2 h3
  show c+1+(ts.drop 1).length≤ _
  rw [List.length_drop];(try dsimp only);omega
 ·cases hp
theorem Cn.name:Cn c nameP (fun _=>c+1):=Cn.kind (by decide)
theorem Cn.yO (s:Bt):Cn c (aH s) (fun _=>c):=Cn.sf (Sf.want s) c
theorem Cn.Oo:Cn c nameP (fun _=>c):=Cn.sf Sf.name c
theorem Cn.here:Cn c gF (fun _=>c):=Cn.sf Sf.here c
theorem Cn.seen (f:aF→List aF→Bool):Cn c (jF f) (fun _=>c):=Cn.sf (Sf.seen f) c
theorem Cn.fuel {p:List aF→Ps α} {m:α→Nat} (h:∀ts,Cn c (p ts) m):Cn c (fun ts=>p ts ts) m:=fun ts hw=>h ts ts hw
theorem Cn.Ej {one:Ps α} {k:α→Nat} (h:∀c,Cn c one (fun a=>c+k a)):∀(f:Nat) (l:List α) (c:Nat),(l.map k).sum≤c→Cn c (qI one f l) (fun l'=>(l'.map k).sum)
 | 0,l,c,hc=>Cn.ret l hc
 | f+1,l,c,hc=>Cn.then_ (Cn.has _) fun b=>by
  cases b
  ·exact Cn.ret l hc
  ·refine Cn.then_ (h _) fun a=>Cn.Ej h f _ _ ?_
   simp only [List.map_append,List.map_cons,List.map_nil,List.sum_append,List.sum_cons,List.sum_nil]
   show _≤c+1+k a
   (try dsimp only);omega
theorem Cn.sep {one:Ps α} {k:α→Nat} (h:∀c,Cn c one (fun a=>c+k a)) (c:Nat):Cn c (iG one) (fun l=>(l.map k).sum):=Cn.then_ (h c) fun a=>Cn.fuel (p:=fun ts=>qI one ts.length [a]) fun ts=>Cn.Ej h _ _ _ (by simp)
end
theorem qd:∀l:List bO,dR l=(l.map jR).sum
 | []=>by simp [dR]
 | t :: l=>by simp [dR,qd l]
theorem uL:∀l:List bD,fT l=(l.map dZ).sum
 | []=>by simp [fT]
 | t :: l=>by simp [fT,uL l]
theorem uM (a b:List bO):dR (a++b)=dR a+dR b:=by simp [qd]
theorem I6 (a b:List bD):fT (a++b)=fT a+fT b:=by simp [uL]
theorem nV (k:Int) (s:Bt) (ns:List Bt) (ks:List bO):jR (.mk k s ns ks)=1+dR ks:=by rw [jR]
theorem bV (k:Int) (s:Bt) (n:Int) (h:aF) (ts:List bO) (ns:List Bt) (ks:List bD):dZ (aJ k s n h ts ns ks)=1+dR ts+fT ks:=by unfold aJ;rw [dZ]
theorem gy:dR []=0∧fT []=0:=⟨by rw [dR],by rw [fT]⟩
theorem yP (t:bO):dR [t]=jR t:=by rw [dR,gy.1];rfl
theorem vL (t:bD):fT [t]=dZ t:=by rw [fT,gy.2];rfl
theorem Oq (a b:bD):fT [a,b]=dZ a+dZ b:=by rw [fT,vL]
theorem T9 (a b:bO):dR [a,b]=jR a+jR b:=by rw [dR,yP]
section
variable {typ:Ps bO} (ht:∀c,Cn c typ (fun t=>c+jR t)) {expr unary:Ps bD} (he:∀c,Cn c expr (fun x=>c+dZ x)) (hu:∀c,Cn c unary (fun x=>c+dZ x))
include ht
theorem Cn.yY (c:Nat):Cn c (lW typ) (fun t=>c+jR t):=by
 refine Cn.then_ (Cn.dO _) fun b=> ?_
 rcases b with _ | k
 ·refine Cn.then_ (Cn.dO _) fun d=> ?_
  rcases d with _ | _ | k
  ·exact Cn.then_ Cn.name fun s=>Cn.ret _ (by rw [nV,gy.1];(try dsimp only);omega)
  ·exact Cn.then_ (ht _) fun t=>Cn.then_ (Cn.want _) fun _=>Cn.ret _ (by show c+jR t≤ _;simp only;(try dsimp only);omega)
  ·refine Cn.then_ (Cn.has _) fun e=> ?_
   cases e
   ·refine Cn.then_ (m1:=fun l=>c+1+(l.map fun x=>jR x.2).sum) ?_ fun l=>Cn.then_ (Cn.want _) fun _=>Cn.ret _ ?_
    ·have:=Cn.sep (one:=kV typ) (k:=fun x=>jR x.2) (fun c=>Cn.then_ Cn.name fun s=>Cn.then_ (Cn.want _) fun _=>Cn.then_ (ht _) fun t=>Cn.ret _ (by show c+jR t≤ _;(try dsimp only);omega)) 0
     exact this.mono fun a=>(by simp only [if_neg Bool.false_ne_true];(try dsimp only);omega)
    ·rw [nV,qd,List.map_map]
     show c+(1+(l.map fun x=>jR x.2).sum)≤ _
     (try dsimp only);omega
   ·exact Cn.ret _ (by rw [nV,gy.1];simp only [if_true];(try dsimp only);omega)
 ·exact Cn.ret _ (by rw [nV,gy.1];(try dsimp only);omega)
theorem Cn.alt:∀(f:Nat) (l:List bO) (c c0:Nat),c0+dR l+(l.length - 1)≤c→1≤l.length→Cn c (mq typ f l) (fun l'=>c0+dR l'+(l'.length - 1))
 | 0,l,c,c0,hc, _=>Cn.ret l hc
 | f+1,l,c,c0,hc,hl=>Cn.then_ (Cn.has _) fun b=>by
  cases b
  ·exact Cn.ret l hc
  ·refine Cn.then_ (Cn.yY ht _) fun a=>Cn.alt f _ _ c0 ?_ (by simp)
   rw [uM,yP]
   simp only [List.length_append,List.length_singleton,if_true]
   (try dsimp only);omega
omit ht in
theorem I7 (l:List bO) (hl:1≤l.length):jR (fK l)≤dR l+(l.length - 1):=by
 rcases l with _ | ⟨a, _ | ⟨b,l⟩⟩
 ·simp at hl
 ·show jR a≤ _
  rw [yP];(try dsimp only);omega
 ·show jR (.mk 7 [] [] (a :: b :: l))≤ _
  rw [nV]
  simp only [List.length_cons];(try dsimp only);omega
omit ht in
theorem Gw (typ:Ps bO):∀(f:Nat) (l:List bO),1≤l.length→∀ts a r,mq typ f l ts= .good a r→1≤a.length
 | 0,l,h,ts,a,r,hp=>by injection hp with h1 _;subst h1;exact h
 | f+1,l,h,ts,a,r,hp=>by
  unfold mq at hp
  rcases hq:dN [124] ts with d | ⟨b,r1⟩
  ·rw [aB hq]at hp;cases hp
  ·rw [aj hq]at hp
   cases b
   ·injection hp with h1 _;subst h1;exact h
   ·simp only [if_true]at hp
    rcases hq2:lW typ r1 with d | ⟨x,r2⟩
    ·rw [aB hq2]at hp;cases hp
    ·rw [aj hq2]at hp
     exact Gw typ f _ (by simp) _ _ _ hp
theorem Cn.Jw (c:Nat):Cn c (Eh typ) (fun t=>c+jR t):=Cn.then_ (Cn.yY ht c) fun a=>by
 intro ts hw t r hp
 rcases hq:mq typ ts.length [a] ts with d | ⟨l,r1⟩
 ·rw [aB (p:=fun ts=>mq typ ts.length [a] ts) hq]at hp;cases hp
 ·rw [aj (p:=fun ts=>mq typ ts.length [a] ts) hq]at hp
  have hl:=Gw typ _ _ (by simp) _ _ _ hq
  obtain⟨h1,h2⟩:=Cn.alt ht ts.length [a] (c+jR a) c (by rw [yP];simp) (by simp) ts hw l r1 hq
  have hun:=I7 l hl
  have h3:Cn (c+jR (fK l)) (au (dN [45,62]) fun b=>if b then au typ fun r=>aG (.mk 6 [] [] [fK l,r])else aG (fK l)) (fun t=>c+jR t):=Cn.then_ (Cn.has _) fun b=>by
   cases b
   ·exact Cn.ret _ (Nat.le_refl _)
   ·exact Cn.then_ (ht _) fun r=>Cn.ret _ (by rw [nV,T9];simp only [if_true];(try dsimp only);omega)
  obtain⟨h4,h5⟩:=h3 r1 h1 t r hp
  dsimp only at h2 h5 ⊢
  exact⟨h4,by omega⟩
theorem Cn.note (l n:List bO) (c:Nat):Cn (c+dR l+dR n) (gY typ l n) (fun m=>c+dR m):=Cn.then_ (Cn.has _) fun b=>by
 cases b
 ·exact Cn.ret _ (by rw [uM];simp only [if_neg Bool.false_ne_true];(try dsimp only);omega)
 ·exact Cn.then_ (ht _) fun r=>Cn.ret _ (by rw [uM,yP];simp only [if_true];(try dsimp only);omega)
theorem Cn.head (c:Nat):Cn c (jE typ []) (fun s=>c+dR s.2):=Cn.then_ (Cn.want _) fun _=>Cn.then_ Cn.name fun s=>Cn.then_ (m1:=fun l=>c+dR l) ((Cn.note ht [] [lK] c).mono fun a=>by
  have e:dR [lK]=1:=by rw [yP];unfold lK;rw [nV,gy.1]
  rw [e,gy.1];(try dsimp only);omega) fun l=>Cn.then_ (Cn.want _) fun _=>Cn.then_ ((Cn.note ht l [] c).mono (m':=fun m=>c+dR m) fun a=>by rw [gy.1];(try dsimp only);omega) fun m=>Cn.ret _ (Nat.le_refl _)
omit ht
include he
theorem Cn.kids:∀(a:List Bt) (l:List bD) (c c0:Nat),c0+fT l≤c→Cn c (bJ expr a l) (fun l'=>c0+fT l')
 | [],l,c,c0,hc=>Cn.ret l hc
 | s :: r,l,c,c0,hc=>Cn.then_ (m1:=fun _=>c) (by
   split
   ·exact Cn.ret () (Nat.le_refl _)
   ·exact Cn.yO s) fun _=>Cn.then_ (he _) fun x=>Cn.kids r _ _ c0 (by rw [I6,vL];(try dsimp only);omega)
omit he
theorem Cn.left {sub:Ps bD} (hs:∀c,Cn c sub (fun x=>c+dZ x)) (ops:List Bt):∀(f:Nat) (a:bD) (c:Nat),Cn (c+dZ a) (iT ops sub f a) (fun x=>c+dZ x)
 | 0,a,c=>Cn.ret a (Nat.le_refl _)
 | f+1,a,c=>Cn.then_ Cn.here fun h=>Cn.then_ (Cn.dO _) fun i=>by
  rcases i with _ | i
  ·exact Cn.ret a (Nat.le_refl _)
  ·refine Cn.then_ (hs _) fun b=>(Cn.left hs ops f (aJ 14 (ops.getD i []) 0 h [] [] [a,b]) c).mono fun x=> ?_
   rw [bV,Oq,gy.1]
   show c+dZ x+ _≤c+dZ x+(c+dZ a+1+dZ b)
   (try dsimp only);omega
theorem Cn.BO {sub:Ps bD} (hs:∀c,Cn c sub (fun x=>c+dZ x)) (ops:List Bt) (c:Nat):Cn c (rW ops sub) (fun x=>c+dZ x):=Cn.then_ (hs c) fun a=>Cn.fuel (p:=fun ts=>iT ops sub ts.length a) fun ts=>Cn.left hs _ _ _ c
include ht
theorem Cn.cmp {sub:Ps bD} (hs:∀c,Cn c sub (fun x=>c+dZ x)) (c:Nat):Cn c (Ag typ sub) (fun x=>c+dZ x):=Cn.then_ (hs c) fun a=>Cn.then_ Cn.here fun h=>Cn.then_ (Cn.dO _) fun i=>by
 rcases i with _ | i
 ·exact Cn.ret a (Nat.le_refl _)
 ·simp only
  split
  ·refine Cn.then_ (Cn.sf (Sf.dO _) _) fun t=> ?_
   rcases t with _ | t
   ·exact Cn.fail _
   ·exact Cn.ret _ (by rw [bV,vL,gy.1];(try dsimp only);omega)
  ·split
   ·exact Cn.then_ (ht _) fun t=>Cn.ret _ (by rw [bV,vL,yP];(try dsimp only);omega)
   ·exact Cn.then_ (hs _) fun b=>Cn.ret _ (by rw [bV,Oq,gy.1];(try dsimp only);omega)
include hu
theorem Cn.rank:∀(f c:Nat),Cn c (gG typ unary f) (fun x=>c+dZ x)
 | 0,c=>hu c
 | f+1,c=>by
  unfold gG
  split
  ·exact Cn.cmp ht (Cn.rank f) c
  ·exact Cn.BO (Cn.rank f) _ c
include he
theorem Cn.xw (c:Nat):Cn c (nX typ expr unary) (fun x=>c+dZ x):=Cn.then_ Cn.here fun h=>Cn.then_ (Cn.dO _) fun i=>by
 rcases i with _ | _ | _ | i
 ·exact Cn.rank ht hu 6 c
 ·refine Cn.then_ Cn.name fun s=>Cn.then_ (m1:=fun l=>c+1+dR l) ((Cn.note ht [] [] (c+1)).mono fun a=>by rw [gy.1];simp only;(try dsimp only);omega) fun t=>Cn.then_ (Cn.kids he _ [] _ (c+1+dR t) (by rw [gy.2];(try dsimp only);omega)) fun k=>Cn.ret _ (by rw [bV];(try dsimp only);omega)
 ·refine Cn.then_ (Cn.kids he _ [] _ (c+1) (by rw [gy.2];simp only;(try dsimp only);omega)) fun k=>Cn.ret _ (by rw [bV,gy.1];(try dsimp only);omega)
 ·refine Cn.then_ (Cn.head ht _) fun s=>Cn.then_ (Cn.kids he _ [] _ (c+1+dR s.2) (by rw [gy.2];simp only;(try dsimp only);omega)) fun k=>Cn.ret _ (by rw [bV];(try dsimp only);omega)
omit hu ht
theorem Cn.qK (c:Nat):Cn c (iJ expr) (fun a=>c+dZ a.2):=Cn.then_ Cn.name fun s=>Cn.then_ (Cn.want _) fun _=>Cn.then_ (he _) fun x=>Cn.ret _ (by show c+dZ x≤ _;(try dsimp only);omega)
theorem Cn.G7 (h:aF) (c:Nat):Cn (c+1) (rX expr h) (fun x=>c+dZ x):=Cn.then_ (Cn.seen _) fun e=>by
 cases e
 ·rw [if_neg Bool.false_ne_true]
  refine Cn.then_ (Cn.seen _) fun d=> ?_
  cases d
  ·exact Cn.then_ (Cn.kids he _ [] _ (c+1) (by rw [gy.2];(try dsimp only);omega)) fun k=>Cn.then_ (m1:=fun _=>c+1+fT k) (Cn.yO _) fun _=>Cn.then_ (m1:=fun _=>c+1+fT k) Cn.Oo fun s=>Cn.then_ (Cn.kids he _ k _ (c+1) (by(try dsimp only);omega)) fun m=>Cn.ret _ (by rw [bV,gy.1];(try dsimp only);omega)
  ·refine Cn.then_ (m1:=fun l=>c+1+(l.map fun x=>dZ x.2).sum) ?_ fun l=>Cn.ret _ ?_
   ·exact(Cn.sep (Cn.qK he) 0).mono fun a=>by(try dsimp only);omega
   ·rw [bV,gy.1,uL,List.map_map]
    show c+(1+0+(l.map fun x=>dZ x.2).sum)≤ _
    (try dsimp only);omega
 ·exact Cn.ret _ (by rw [bV,gy.1,gy.2];(try dsimp only);omega)
include ht
omit he
theorem Cn.named (h:aF) (c:Nat):Cn c (j4 typ h) (fun x=>c+dZ x):=Cn.then_ Cn.name fun s=>Cn.then_ (Cn.has _) fun b=>by
 cases b
 ·exact Cn.ret _ (by rw [bV,gy.1,gy.2];simp only [if_neg Bool.false_ne_true];(try dsimp only);omega)
 ·refine Cn.then_ (m1:=fun l=>c+1+dR l) ?_ fun l=>Cn.then_ (m1:=fun _=>c+1+dR l) (Cn.yO _) fun _=>Cn.ret _ (by rw [bV,gy.2];(try dsimp only);omega)
  exact(Cn.sep ht 0).mono fun l=>by rw [qd];simp only [if_true];(try dsimp only);omega
include he
theorem Cn.atom (c:Nat):Cn c (kW typ expr) (fun x=>c+dZ x):=Cn.then_ Cn.here fun h=>by
 split
 ·exact Cn.then_ (Cn.kind (by decide)) fun s=>Cn.ret _ (by rw [bV,gy.1,gy.2];(try dsimp only);omega)
 ·split
  ·exact Cn.then_ (Cn.kind (by decide)) fun s=>Cn.ret _ (by rw [bV,gy.1,gy.2];(try dsimp only);omega)
  ·refine Cn.then_ (Cn.dO _) fun i=> ?_
   rcases i with _ | _ | _ | _ | _ | _ | _ | i
   ·exact Cn.named ht h c
   ·exact Cn.ret _ (by rw [bV,gy.1,gy.2];simp only;(try dsimp only);omega)
   ·exact Cn.ret _ (by rw [bV,gy.1,gy.2];simp only;(try dsimp only);omega)
   ·exact Cn.ret _ (by rw [bV,gy.1,gy.2];simp only;(try dsimp only);omega)
   ·exact Cn.then_ (Cn.sf (Sf.wants _) _) fun _=>Cn.ret _ (by rw [bV,gy.1,gy.2];simp only;(try dsimp only);omega)
   ·exact Cn.then_ (Cn.kids he _ [] _ (c+1) (by rw [gy.2];simp only;(try dsimp only);omega)) fun k=>Cn.then_ (m1:=fun _=>c+1+fT k) (Cn.yO _) fun _=>Cn.ret _ (by rw [bV,gy.1];(try dsimp only);omega)
   ·exact Cn.then_ (he _) fun k=>Cn.then_ (m1:=fun _=>c+1+dZ k) (Cn.yO _) fun _=>Cn.ret _ (by show c+dZ k≤c+1+dZ k;omega)
   ·exact Cn.then_ (Cn.G7 he h c) fun k=>Cn.then_ (m1:=fun _=>c+dZ k) (Cn.yO _) fun _=>Cn.ret _ (Nat.le_refl _)
omit ht
theorem Cn.mJ:∀(f:Nat) (a:bD) (c:Nat),Cn (c+dZ a) (gH expr f a) (fun x=>c+dZ x)
 | 0,a,c=>Cn.ret a (Nat.le_refl _)
 | f+1,a,c=>Cn.then_ Cn.here fun h=>Cn.then_ (Cn.dO _) fun i=>by
  rcases i with _ | _ | i
  ·exact Cn.ret a (Nat.le_refl _)
  ·refine Cn.then_ (Cn.kids he _ [a] _ (c+1) (by rw [vL];simp only;(try dsimp only);omega)) fun k=>Cn.then_ (m1:=fun _=>c+1+fT k) (Cn.yO _) fun _=>(Cn.mJ f (aJ 7 [] 0 h [] [] k) c).mono fun x=> ?_
   rw [bV,gy.1];(try dsimp only);omega
  ·refine Cn.then_ (m1:=fun _=>c+dZ a+1) Cn.Oo fun k=>(Cn.mJ f (aJ 9 k 0 h [] [] [a]) c).mono fun x=> ?_
   rw [bV,gy.1,vL];(try dsimp only);omega
include ht
theorem Cn.post (c:Nat):Cn c (kX typ expr) (fun x=>c+dZ x):=Cn.then_ (Cn.atom ht he c) fun a=>Cn.fuel (p:=fun ts=>gH expr ts.length a) fun ts=>Cn.mJ he _ _ c
include hu
theorem Cn.qL (c:Nat):Cn c (j5 typ expr unary) (fun x=>c+dZ x):=Cn.then_ Cn.here fun h=>Cn.then_ (Cn.dO _) fun i=>by
 rcases i with _ | _ | i
 ·exact Cn.post ht he c
 ·exact Cn.then_ (hu _) fun x=>Cn.ret _ (by rw [bV,gy.1,vL];simp only;(try dsimp only);omega)
 ·exact Cn.then_ (hu _) fun x=>Cn.ret _ (by rw [bV,gy.1,vL];simp only;(try dsimp only);omega)
end
theorem Cn.xA:∀n:Nat,(∀c,Cn c (bg n).typ (fun t=>c+jR t))∧(∀c,Cn c (bg n).expr (fun x=>c+dZ x))∧∀c,Cn c (bg n).unary (fun x=>c+dZ x)
 | 0=>⟨fun c=>Cn.fail 6,fun c=>Cn.fail 6,fun c=>Cn.fail 6⟩
 | n+1=>by
  obtain⟨h1,h2,h3⟩:=Cn.xA n
  exact⟨Cn.Jw h1,Cn.xw h1 h2 h3,Cn.qL h1 h2 h3⟩
def Gx:bD→Int | .mk _ _ _ l _ _ _ _=>l
def Ln {α:Type} (M:Nat) (G:α→Prop) (p:Ps α):Prop:=∀ts,Wf ts→(∀t∈ts,t.line≤M)→∀a r,p ts= .good a r→G a
def Gy (M:Nat) (x:bD):Prop:=0≤Gx x∧Gx x≤M
section
variable {α β:Type} {M:Nat}
theorem Ln.any (p:Ps α):Ln M (fun _=>True) p:=fun _ _ _ _ _ _=>trivial
theorem Ln.ret {G:α→Prop} {a:α} (h:G a):Ln M G (aG a):=fun ts _ _ b r hp=>by
 injection hp with h1 _
 subst h1
 exact h
theorem Ln.fail {G:α→Prop} (e:Int):Ln M G (ji e):=fun ts _ _ b r hp=>by cases hp
theorem Ln.then_ {p:Ps α} {f:α→Ps β} {G1:α→Prop} {G:β→Prop} (hs:Sf p) (h:Ln M G1 p) (hf:∀a,G1 a→Ln M G (f a)):Ln M G (au p f):=fun ts hw hl b r hp=>by
 rcases hq:p ts with d | ⟨a,r1⟩
 ·rw [aB hq]at hp;cases hp
 ·rw [aj hq]at hp
  obtain⟨h1,h2⟩:=hs.good hw hq
  exact hf a (h ts hw hl a r1 hq) r1 h1 (fun t ht=>hl t (h2.subset ht)) b r hp
theorem Ln.skip {p:Ps α} {f:α→Ps β} {G:β→Prop} (hs:Sf p) (hf:∀a,Ln M G (f a)):Ln M G (au p f):=Ln.then_ hs (Ln.any p) fun a _=>hf a
theorem Ln.here {f:aF→Ps β} {G:β→Prop} (hf:∀h:aF,h.line≤M→Ln M G (f h)):Ln M G (au gF f):=Ln.then_ (G1:=fun h=>h.line≤M) Sf.here (fun ts hw hl a r hp=>by
 injection hp with h1 _
 subst h1
 exact hl _ hw.rY) hf
theorem Ln.fuel {p:List aF→Ps α} {G:α→Prop} (h:∀ts,Ln M G (p ts)):Ln M G (fun ts=>p ts ts):=fun ts=>h ts ts
theorem dU {k:Int} {s:Bt} {n:Int} {h:aF} {ts:List bO} {ns:List Bt} {ks:List bD} (hl:h.line≤M):Gy M (aJ k s n h ts ns ks):=⟨by show(0:Int)≤(h.line:Int);omega,by show(h.line:Int)≤(M:Int);omega⟩
end
section
variable {M:Nat} {typ:Ps bO} (ht:Sf typ) {expr unary:Ps bD} (se:Sf expr) (su:Sf unary) (he:Ln M (Gy M) expr) (hu:Ln M (Gy M) unary)
theorem Ln.left {sub:Ps bD} (hs:Sf sub) (ops:List Bt):∀(f:Nat) (a:bD),Gy M a→Ln M (Gy M) (iT ops sub f a)
 | 0,a,h=>Ln.ret h
 | f+1,a,h=>Ln.here fun t hl=>Ln.skip (Sf.dO _) fun i=>by
  rcases i with _ | i
  ·exact Ln.ret h
  ·exact Ln.skip hs fun b=>Ln.left hs ops f _ (dU hl)
include ht su hu
theorem Ln.rank:∀f:Nat,Ln M (Gy M) (gG typ unary f)
 | 0=>hu
 | f+1=>by
  unfold gG
  split
  ·refine Ln.then_ (Sf.rank ht su f) (Ln.rank f) fun a ha=>Ln.here fun h hl=>Ln.skip (Sf.dO _) fun i=> ?_
   rcases i with _ | i
   ·exact Ln.ret ha
   ·simp only
    split
    ·refine Ln.skip (Sf.dO _) fun t=> ?_
     rcases t with _ | t
     ·exact Ln.fail _
     ·exact Ln.ret (dU hl)
    ·split
     ·exact Ln.skip ht fun t=>Ln.ret (dU hl)
     ·exact Ln.skip (Sf.rank ht su f) fun b=>Ln.ret (dU hl)
  ·exact Ln.then_ (Sf.rank ht su f) (Ln.rank f) fun a ha=>Ln.fuel (p:=fun ts=>iT _ _ ts.length a) fun ts=>Ln.left (Sf.rank ht su f) _ _ _ ha
include se
theorem Ln.xw:Ln M (Gy M) (nX typ expr unary):=Ln.here fun h hl=>Ln.skip (Sf.dO _) fun i=>by
 rcases i with _ | _ | _ | i
 ·exact Ln.rank ht su hu 6
 ·exact Ln.skip Sf.name fun s=>Ln.skip (Sf.note ht _ _) fun t=>Ln.skip (Sf.kids se _ _) fun k=>Ln.ret (dU hl)
 ·exact Ln.skip (Sf.kids se _ _) fun k=>Ln.ret (dU hl)
 ·exact Ln.skip (Sf.head ht _) fun s=>Ln.skip (Sf.kids se _ _) fun k=>Ln.ret (dU hl)
omit su hu
include he
theorem Ln.atom:Ln M (Gy M) (kW typ expr):=Ln.here fun h hl=>by
 split
 ·exact Ln.skip (Sf.kind 3) fun s=>Ln.ret (dU hl)
 ·split
  ·exact Ln.skip (Sf.kind 4) fun s=>Ln.ret (dU hl)
  ·refine Ln.skip (Sf.dO _) fun i=> ?_
   rcases i with _ | _ | _ | _ | _ | _ | _ | i
   ·refine Ln.skip Sf.name fun s=>Ln.skip (Sf.has _) fun b=> ?_
    cases b
    ·exact Ln.ret (dU hl)
    ·exact Ln.skip (Sf.sep ht) fun l=>Ln.skip (Sf.want _) fun _=>Ln.ret (dU hl)
   ·exact Ln.ret (dU hl)
   ·exact Ln.ret (dU hl)
   ·exact Ln.ret (dU hl)
   ·exact Ln.skip (Sf.wants _) fun _=>Ln.ret (dU hl)
   ·exact Ln.skip (Sf.kids se _ _) fun k=>Ln.skip (Sf.want _) fun _=>Ln.ret (dU hl)
   ·exact Ln.then_ se he fun k hk=>Ln.skip (Sf.want _) fun _=>Ln.ret hk
   ·refine Ln.then_ (G1:=Gy M) (Sf.G7 se h) ?_ fun k hk=>Ln.skip (Sf.want _) fun _=>Ln.ret hk
    refine Ln.skip (Sf.seen _) fun e=> ?_
    cases e
    ·rw [if_neg Bool.false_ne_true]
     refine Ln.skip (Sf.seen _) fun c=> ?_
     cases c
     ·exact Ln.skip (Sf.kids se _ _) fun k=>Ln.skip (Sf.want _) fun _=>Ln.skip Sf.name fun s=>Ln.skip (Sf.kids se _ _) fun m=>Ln.ret (dU hl)
     ·exact Ln.skip (Sf.sep (Sf.qK se)) fun l=>Ln.ret (dU hl)
    ·exact Ln.ret (dU hl)
omit ht he in
theorem Ln.mJ:∀(f:Nat) (a:bD),Gy M a→Ln M (Gy M) (gH expr f a)
 | 0,a,h=>Ln.ret h
 | f+1,a,h=>Ln.here fun t hl=>Ln.skip (Sf.dO _) fun i=>by
  rcases i with _ | _ | i
  ·exact Ln.ret h
  ·exact Ln.skip (Sf.kids se _ _) fun k=>Ln.skip (Sf.want _) fun _=>Ln.mJ f _ (dU hl)
  ·exact Ln.skip Sf.name fun k=>Ln.mJ f _ (dU hl)
include su
theorem Ln.qL:Ln M (Gy M) (j5 typ expr unary):=Ln.here fun h hl=>Ln.skip (Sf.dO _) fun i=>by
 rcases i with _ | _ | i
 ·exact Ln.then_ (Sf.atom ht se) (Ln.atom ht se he) fun a ha=>Ln.fuel (p:=fun ts=>gH expr ts.length a) fun ts=>Ln.mJ se _ _ ha
 ·exact Ln.skip su fun x=>Ln.ret (dU hl)
 ·exact Ln.skip su fun x=>Ln.ret (dU hl)
end
theorem Ln.xA (M:Nat):∀n:Nat,Ln M (Gy M) (bg n).expr∧Ln M (Gy M) (bg n).unary
 | 0=>⟨Ln.fail 6,Ln.fail 6⟩
 | n+1=>by
  obtain⟨h2,h3⟩:=Ln.xA M n
  obtain⟨s1,s2,s3⟩:=Sf.xA n
  exact⟨Ln.xw s1 s2 s3 h3,Ln.qL s1 s2 s3 h2⟩
theorem DF:∀(s:Bt) (p:Nat ×Nat),(cO p s).1≤p.1+s.length
 | [],p=>by simp [cO]
 | c :: s,p=>by
  rw [show cO p (c :: s)=cO (cO p [c]) s from jD p [c] s]
  have h1:=DF s (cO p [c])
  have h2:(cO p [c]).1≤p.1+1:=by
   show(if c.toNat=10 then(p.1+1,1)else(p.1,p.2+1)).1≤p.1+1
   split <;> simp
  rw [List.length_cons];omega
theorem Aa (text:Bt) (a:Nat):(qD text a).1≤1+text.length:=by
 have:=DF (text.take a) (1,1)
 rw [List.length_take]at this
 unfold qD
 omega
theorem vM {text:Bt}:∀ {l:List aF} {a:Nat},Placed text a l→∀t∈l,t.line≤1+text.length
 | _, _, .done a h,t,ht=>by
  obtain rfl:t= _:=List.mem_singleton.1 ht
  exact Aa _ _
 | _, _, .next a b n t0 l h1 h2 h3 h4 h5 h6 h7,t,ht=>by
  rcases List.mem_cons.1 ht with rfl | ht
  ·have:=Aa text b
   rw [h2]at this
   exact this
  ·exact vM h7 t ht
theorem vN {s:Bt} (hs:s.length≤60000) {a:bD} (h:(aZ (bg 100).expr s).1=some a):dZ a≤s.length+1∧0≤Gx a∧Gx a≤s.length+1:=by
 obtain⟨_,m,e,h1,h2,h3,h4,h5⟩:=vF (Sf.xA 100).2.1 h
 obtain⟨m',e',e1, _, _, _,hwf⟩:=wR h1
 have h6:=(Cn.xA 100).2.1 0 (m++[e]) hwf a [e] h5
 have hl:∀t∈m++[e],t.line≤1+s.length:=by
  rw [wY s (by omega)]at h1
  rcases zy s (s.length+1) 0 [] (by omega) (by omega)with⟨_,h7⟩ | ⟨l,h7,h8⟩
  ·rw [List.drop_zero]at h7
   have QI:(fC (s.length+1) s (1,1) []).2.2.2≠0:=h7
   rw [h1]at QI
   exact absurd rfl QI
  ·rw [List.drop_zero]at h7
   have QI:fC (s.length+1) s (1,1) []=([]++l,(0,0,0)):=h7
   rw [h1]at QI
   injection QI with QI _
   rw [QI,List.nil_append]
   exact vM h8
 have h9:=(Ln.xA (1+s.length) 100).1 (m++[e]) hwf hl a [e] h5
 have h10:=h6.2
 dsimp only at h10
 rw [List.length_append,Nat.zero_add,List.length_singleton]at h10
 obtain⟨h11,h12⟩:=h9
 exact⟨by omega,h11,by omega⟩
end Go.Proofs.YtmbppnbekkbibaaGreatDoor
end
section
set_option linter.unusedVariables false
namespace Go.Proofs.YtmbppnbekkbibaaGreatDoor
open Go.RowKit
theorem jw {w:World} {base:Nat} {e:TypeId} {k:Nat} {v:Value} {n:Nat} {xs:List Value} (h:w.ownsRow base e k v n xs):∃ao n' cap,v= .slice ao n' cap:=by
 rcases h.2 with⟨hv, _⟩ | ⟨g,cap,cur,hv, _⟩
 ·exact⟨_, _, _,hv⟩
 ·exact⟨_, _, _,hv⟩
theorem Na:iP Tryz.prog 47 49 (.agg #[.int .i64 0, .string ByteArray.empty, .int .i64 0, .int .i64 0, .int .i64 0, .slice none 0 0, .slice none 0 0, .slice none 0 0]) 8 120:=⟨Tryz.underlying47,by kernel_rfl,rfl,by omega⟩
theorem Nb:iP Tryz.prog 38 51 (.agg #[.string ByteArray.empty, .bool false, .slice none 0 0, .string ByteArray.empty, .slice none 0 0, .int .i64 0, .string ByteArray.empty, .int .i64 0, .int .i64 0, .int .i64 0, .slice none 0 0, .slice none 0 0, .slice none 0 0, .int .i64 0, .int .i64 0]) 15 224:=⟨Tryz.underlying38,by kernel_rfl,rfl,by omega⟩
theorem I8:iP Tryz.prog 37 88 (.agg #[.string ByteArray.empty, .slice none 0 0, .int .i64 0, .int .i64 0]) 4 56:=⟨Tryz.underlying37,by kernel_rfl,rfl,by omega⟩
end Go.Proofs.YtmbppnbekkbibaaGreatDoor
end
section
set_option linter.unusedVariables false
namespace Go.Proofs.YtmbppnbekkbibaaGreatDoor
open Go.RowKit
theorem Gz {w:World} {B:Nat} {A:Option Addr} {n c:Nat} {xs:List Value} {l:List kg} (hs:Sl w B 15 (.slice A n c) xs) (hr:bU (wG w B) 15 xs l) {i:Nat} (hi:i<l.length) (hn:n=l.length):
  ∃b o A1 c1 A2 c2 kk s n1 l1 cc A3 n3 c3 A4 n4 c4 A5 n5 c5 nd md,A=some ⟨b,o,none⟩∧wG w B [sv nd, .bool l[i].exp, .slice A1 l[i].vars.length c1,sv md, .slice A2 l[i].types.length c2, .int .i64 kk, .string s, .int .i64 n1, .int .i64 l1, .int .i64 cc, .slice A3 n3 c3, .slice A4 n4 c4, .slice A5 n5 c5, .int .i64 l[i].line, .int .i64 l[i].col] l[i]∧w.cell? ⟨b,o+i*15,none⟩=some (sv nd)∧w.cell? ⟨b,o+i*15+1,none⟩=some (.bool l[i].exp)∧w.cell? ⟨b,o+i*15+2,none⟩=some (.slice A1 l[i].vars.length c1)∧w.cell? ⟨b,o+i*15+3,none⟩=some (sv md)∧w.cell? ⟨b,o+i*15+4,none⟩=some (.slice A2 l[i].types.length c2)∧w.cell? ⟨b,o+i*15+5,none⟩=some (.int .i64 kk)∧w.cell? ⟨b,o+i*15+6,none⟩=some (.string s)∧w.cell? ⟨b,o+i*15+7,none⟩=some (.int .i64 n1)∧w.cell? ⟨b,o+i*15+8,none⟩=some (.int .i64 l1)∧w.cell? ⟨b,o+i*15+9,none⟩=some (.int .i64 cc)∧w.cell? ⟨b,o+i*15+10,none⟩=some (.slice A3 n3 c3)∧w.cell? ⟨b,o+i*15+11,none⟩=some (.slice A4 n4 c4)∧w.cell? ⟨b,o+i*15+12,none⟩=some (.slice A5 n5 c5)∧w.cell? ⟨b,o+i*15+13,none⟩=some (.int .i64 l[i].line)∧w.cell? ⟨b,o+i*15+14,none⟩=some (.int .i64 l[i].col):=by
 obtain⟨b,o,z,hA,hb,hz,hc⟩:=Aj hs hr (by omega) hi hn
 obtain⟨A1,c1,A2,c2,k,s,n,l1,c,A3,n3,c3,A4,n4,c4,A5,n5,c5,xv,xt,rfl, _⟩:=hz.parts
 refine⟨b,o,A1,c1,A2,c2,k,s,n,l1,c,A3,n3,c3,A4,n4,c4,A5,n5,c5,l[i].name,l[i].param,hA,hz,by simpa using hc 0 _ rfl,hc 1 _ rfl,hc 2 _ rfl,hc 3 _ rfl,hc 4 _ rfl,hc 5 _ rfl,hc 6 _ rfl,hc 7 _ rfl,hc 8 _ rfl,hc 9 _ rfl,hc 10 _ rfl,hc 11 _ rfl,hc 12 _ rfl,hc 13 _ rfl,hc 14 _ rfl⟩
end Go.Proofs.YtmbppnbekkbibaaGreatDoor
end
section
set_option linter.unusedVariables false
namespace Go.Proofs.YtmbppnbekkbibaaGreatDoor
open Go.RowKit
theorem Nc {w:World} {B:Nat} {k:Int} {l:List Value} {t:bO} (h:rR w B (.int .i64 k :: l) t):t.kind=k:=by
 cases h;rfl
theorem LH {w:World} {B:Nat} {A:Option Addr} {n c:Nat} {xs:List Value} {l:List wF} (hs:Sl w B 5 (.slice A n c) xs) (hr:bU (DN w B) 5 xs l) {i:Nat} (hi:i<l.length) (hn:n=l.length):
  ∃b o k s A1 n1 c1 A2 n2 c2,A=some ⟨b,o,none⟩∧rR w B [.int .i64 k, .string s, .slice A1 n1 c1, .slice A2 n2 c2] l[i].bound∧l[i].bound.kind=k∧w.cell? ⟨b,o+i*5,none⟩=some (sv l[i].name)∧w.cell? ⟨b,o+i*5+1,none⟩=some (.int .i64 k)∧w.cell? ⟨b,o+i*5+2,none⟩=some (.string s)∧w.cell? ⟨b,o+i*5+3,none⟩=some (.slice A1 n1 c1)∧w.cell? ⟨b,o+i*5+4,none⟩=some (.slice A2 n2 c2):=by
 obtain⟨b,o,z,hA,hb,⟨y,rfl,hy⟩,hc⟩:=Aj hs hr (by omega) hi hn
 obtain⟨k,s,A1,n1,c1,A2,n2,c2,rfl⟩:=hy.shape
 exact⟨b,o,k,s,A1,n1,c1,A2,n2,c2,hA,hy,Nc hy,by simpa using hc 0 _ rfl,hc 1 _ rfl,hc 2 _ rfl,hc 3 _ rfl,hc 4 _ rfl⟩
end Go.Proofs.YtmbppnbekkbibaaGreatDoor
end
section
set_option linter.unusedVariables false
namespace Go.Proofs.YtmbppnbekkbibaaGreatDoor
open Go.RowKit
theorem qg {w:World} {b:Nat} {x0 x1 x2 x3 x4 x5 x6 x7 x8 x9 x10 Ot Ou Ro Rp:Value} {T:TypeId} (h:w.heap[b]? =some (.cells #[x0,x1,x2,x3,x4,x5,x6,x7,x8,x9,x10,Ot,Ou,Ro,Rp] T (0,0))):
  w.cell? ⟨b,0,none⟩=some x0∧w.cell? ⟨b,1,none⟩=some x1∧w.cell? ⟨b,2,none⟩=some x2∧w.cell? ⟨b,3,none⟩=some x3∧w.cell? ⟨b,4,none⟩=some x4∧w.cell? ⟨b,5,none⟩=some x5∧w.cell? ⟨b,6,none⟩=some x6∧w.cell? ⟨b,7,none⟩=some x7∧w.cell? ⟨b,8,none⟩=some x8∧w.cell? ⟨b,9,none⟩=some x9∧w.cell? ⟨b,10,none⟩=some x10∧w.cell? ⟨b,11,none⟩=some Ot∧w.cell? ⟨b,12,none⟩=some Ou∧w.cell? ⟨b,13,none⟩=some Ro∧w.cell? ⟨b,14,none⟩=some Rp:=
 ⟨(cell_of_row _ _ _ _ _ _ h).trans rfl,(cell_of_row _ _ _ _ _ _ h).trans rfl,(cell_of_row _ _ _ _ _ _ h).trans rfl,(cell_of_row _ _ _ _ _ _ h).trans rfl,(cell_of_row _ _ _ _ _ _ h).trans rfl,(cell_of_row _ _ _ _ _ _ h).trans rfl,(cell_of_row _ _ _ _ _ _ h).trans rfl,(cell_of_row _ _ _ _ _ _ h).trans rfl,(cell_of_row _ _ _ _ _ _ h).trans rfl,(cell_of_row _ _ _ _ _ _ h).trans rfl,(cell_of_row _ _ _ _ _ _ h).trans rfl,(cell_of_row _ _ _ _ _ _ h).trans rfl,(cell_of_row _ _ _ _ _ _ h).trans rfl,(cell_of_row _ _ _ _ _ _ h).trans rfl,(cell_of_row _ _ _ _ _ _ h).trans rfl⟩
end Go.Proofs.YtmbppnbekkbibaaGreatDoor
end
section
set_option linter.unusedVariables false
namespace Go.Proofs.YtmbppnbekkbibaaGreatDoor
open Go.RowKit
theorem QJ {w:World} {F:Nat→Prop} {x:List Value} {t:bD} (h:jG w F x t):∀u∈x,u.oneCell'=true:=by
 cases h with
 | mk h1 h2 h3 h4 h5=>
  obtain⟨A1,n1,c1,rfl, _⟩:=h1
  obtain⟨A2,n2,c2,rfl, _⟩:=h3
  obtain⟨A3,n3,c3,rfl, _⟩:=h4
  intro u hu
  simp only [List.mem_cons,List.not_mem_nil,or_false]at hu
  rcases hu with rfl | rfl | rfl | rfl | rfl | rfl | rfl | rfl <;> rfl
theorem I9 {w:World} {g:Nat} {cs:Array Value} {t:TypeId} (hg:w.heap[g]? =some (.cells cs t (0,0))) {n:Nat} (hn:n≤cs.size):w.there g 0 n:=fun j hj=>by
 refine⟨?_,frozen_of_row _ _ _ _ _ hg⟩
 rw [cell_of_row _ _ _ _ _ (0,0) hg]
 simp;omega
theorem FI {w w':World} {G:Nat→Prop} {g o:Nat} {cs:List Value} (h:w.rangeAt g o cs) (t:Turn G w w') (hd:¬G g):w'.rangeAt g o cs:=fun j v hv=>by
 have h1:=h j v hv
 have hb:=t.block (World.block_lt_of_cell? w _ h1) hd
 simp only [World.cell?,hb]at h1 ⊢;exact h1
theorem Ja {w:World} {base:Nat} {e:TypeId} {k:Nat} {v:Value} {n:Nat} {xs:List Value} (h:w.ownsRow base e k v n xs) (hbase:base≤w.heap.size):
  ∃A c g,v= .slice A n c∧n≤c∧c≤maxLen∧base≤g∧(0<n→A=some ⟨g,0,none⟩∧g<w.heap.size)∧w.rangeAt g 0 xs∧w.there g 0 xs.length:=by
 obtain⟨hl,⟨hv,h0⟩ | ⟨g,cap,cur,hv,hb,hg,hc,hm,hs,ht⟩⟩:=h
 ·subst h0
  obtain rfl:xs=[]:=List.eq_nil_of_length_eq_zero (by omega)
  exact⟨none,0,base,hv,Nat.le_refl _,Nat.zero_le _,Nat.le_refl _,fun h=>absurd h (by omega),fun j u hu=>by simp at hu,fun j hj=>absurd hj (by simp)⟩
 ·have hlen:xs.length≤cur.size:=by rw [hl,hs];exact Nat.mul_le_mul_right _ hc
  refine⟨_,cap,g,hv,hc,hm,hb,fun _=>⟨rfl,block_lt hg⟩,fun j u hu=> ?_,I9 hg hlen⟩
  rw [cell_of_row _ _ _ _ _ (0,0) hg,Nat.zero_add, ←Array.getElem?_toList]
  have hj:j<xs.length:=(List.getElem?_eq_some_iff.1 hu).1
  rw [←ht,List.getElem?_take,if_pos (by omega)]at hu
  exact hu
theorem jG.parts {w:World} {F:Nat→Prop} {x:List Value} {k n line col:Int} {text:Bt} {ts:List bO} {ns:List Bt} {ks:List bD} (h:jG w F x (.mk k text n line col ts ns ks)):
  ∃A1 c1 A2 c2 A3 c3 xt xk,x=[.int .i64 k,sv text, .int .i64 n, .int .i64 line, .int .i64 col, .slice A1 ts.length c1, .slice A2 ns.length c2, .slice A3 ks.length c3]∧dh w F 4 (.slice A1 ts.length c1) xt∧jc w F xt ts∧dh w F 1 (.slice A2 ns.length c2) (nC ns)∧dh w F 8 (.slice A3 ks.length c3) xk∧gQ w F xk ks:=by
 cases h with
 | mk h1 Rv h2 h3 Rw=>
  obtain⟨A1,c1,rfl⟩:=bZ h1.all (by omega) (m:=ts.length) Rv.all.length
  obtain⟨A2,c2,rfl⟩:=bZ h2.all (by omega) (m:=ns.length) (by rw [dS];omega)
  obtain⟨A3,c3,rfl⟩:=bZ h3.all (by omega) (m:=ks.length) Rw.all.length
  exact⟨A1,c1,A2,c2,A3,c3, _, _,rfl,h1,Rv,h2,h3,Rw⟩
end Go.Proofs.YtmbppnbekkbibaaGreatDoor
end
section
set_option linter.unusedVariables false
namespace Go.Proofs.YtmbppnbekkbibaaGreatDoor
open Go.RowKit
structure SmM (m:tO):Prop where
 imps:m.imps.length≤100
 decls:m.decls.length≤100
 names:∀i∈m.imps,i.names.length≤100
 vars:∀d∈m.decls,d.vars.length≤100
 types:∀d∈m.decls,d.types.length≤100
 bounds:∀d∈m.decls,∀v∈d.vars,jR v.bound≤100000
 sorts:∀d∈m.decls,dR d.types≤100000
 body:∀d∈m.decls,dZ d.body≤100000
theorem FJ {w:World} {B:Nat} {A:Option Addr} {n c:Nat} {xs:List Value} {l:List pO} (hs:Sl w B 4 (.slice A n c) xs) (hr:bU (G8 w B) 4 xs l) {i:Nat} (hi:i<l.length) (hn:n=l.length):
  ∃b o A1 c1,A=some ⟨b,o,none⟩∧Ss w B (.slice A1 l[i].names.length c1) l[i].names∧w.cell? ⟨b,o+i*4,none⟩=some (sv l[i].from_)∧w.cell? ⟨b,o+i*4+1,none⟩=some (.slice A1 l[i].names.length c1)∧w.cell? ⟨b,o+i*4+2,none⟩=some (.int .i64 l[i].line)∧w.cell? ⟨b,o+i*4+3,none⟩=some (.int .i64 l[i].col):=by
 obtain⟨b,o,z,hA,hb,⟨vn,rfl,hv⟩,hc⟩:=Aj hs hr (by omega) hi hn
 obtain⟨A1,c1,rfl⟩:=bZ hv (by omega) (m:=l[i].names.length) (by rw [dS];omega)
 exact⟨b,o,A1,c1,hA,hv,by simpa using hc 0 _ rfl,hc 1 _ rfl,hc 2 _ rfl,hc 3 _ rfl⟩
theorem jf {w:World} {b:Nat} {x0 x1:Value} {T:TypeId} (h:w.heap[b]? =some (.cells #[x0,x1] T (0,0))):w.cell? ⟨b,0,none⟩=some x0∧w.cell? ⟨b,1,none⟩=some x1:=
 ⟨(cell_of_row _ _ _ _ _ _ h).trans rfl,(cell_of_row _ _ _ _ _ _ h).trans rfl⟩
end Go.Proofs.YtmbppnbekkbibaaGreatDoor
end
section
set_option linter.unusedVariables false
namespace Go.Proofs.YtmbppnbekkbibaaGreatDoor
open Go.RowKit
def mG (w w':World):Prop:=∀(k:Nat) (cs:Array Value) (T:TypeId) (fz:Nat ×Nat),w.heap[k]? =some (.cells cs T fz)→T≠5→T≠213→w'.heap[k]? =some (.cells cs T fz)
theorem mG.refl (w:World):mG w w:=fun _ _ _ _ h _ _=>h
theorem mG.trans {a b c:World} (h1:mG a b) (h2:mG b c):mG a c:=fun k cs T fz h ha hb=>h2 k cs T fz (h1 k cs T fz h ha hb) ha hb
theorem mG.set {w:World} {b i:Nat} {v:Value} {cs:Array Value} {fz:Nat ×Nat} (h:w.heap[b]? =some (.cells cs 213 fz)):mG w (w.setCell ⟨b,i,none⟩ v):=by
 intro k cs2 T fz2 hk h1 h2
 rw [heap_setCell_other w _ k v (by
  intro e
  have e:k=b:=e
  subst e
  rw [h]at hk
  injection hk with hk
  injection hk with _ hk _
  exact h2 hk.symm)]
 exact hk
theorem mG.grown {w w':World} {base:Nat} {v:Value} {n:Nat} {xs:List Value} (hown:w.ownsRow base 5 1 v n xs) (hg:w.grownBy w' v.ownBlock):mG w w':=by
 intro k cs T fz hk h1 h2
 rw [hg.block k (block_lt hk) (fun e=>by
  rcases hown.2 with⟨rfl, _⟩ | ⟨g,cap,cur,rfl, _,hg2, _⟩
  ·cases e
  ·injection e with e
   subst e
   rw [hg2]at hk
   injection hk with hk
   injection hk with _ hk _
   exact h1 hk.symm)]
 exact hk
def Rq (B b:Nat) (t:Bt) (w:World):Prop:=Lib.IsBuilder 213 5 B b (bv t) w
theorem Rq.below {B b:Nat} {t:Bt} {w w':World} (h:Rq B b t w) (hb:Below w.heap.size w w'):Rq B b t w':=by
 unfold Rq at h ⊢
 rcases h with⟨h1,v,h2,h3,h4⟩ | ⟨h1,v,h2,h3,h4⟩
 ·exact .inl ⟨h1,v,(hb.block _ (block_lt h2)).trans h2,own_below h3 hb,h4⟩
 ·exact .inr ⟨h1,v,(hb.block _ (block_lt h2)).trans h2,own_below h3 hb,h4⟩
theorem Rq.new (w:World) (B:Nat) (hB:B≤w.heap.size):Rq B w.heap.size [] (w.alloc (.cells #[.pointer none, .slice none 0 0] 213)):=
 .inl ⟨hB, _,heap_alloc_new w _,World.ownsRow_nil _ _ _ _,by simp [Value.ownBlock]⟩
end Go.Proofs.YtmbppnbekkbibaaGreatDoor
end
section
set_option linter.unusedVariables false
namespace Go.Proofs.YtmbppnbekkbibaaGreatDoor
open Go.RowKit
end Go.Proofs.YtmbppnbekkbibaaGreatDoor
set_option linter.unusedVariables false
namespace Go.Proofs.YtmbppnbekkbibaaGreatDoor
open Go.RowKit
def bD.kids:bD→List bD | .mk _ _ _ _ _ _ _ k=>k
end Go.Proofs.YtmbppnbekkbibaaGreatDoor
end
section
set_option linter.unusedVariables false
namespace Go.Proofs.YtmbppnbekkbibaaGreatDoor
open Go.RowKit
structure SmD (d:kg):Prop where
 vars:d.vars.length≤100
 types:d.types.length≤100
 bounds:∀v∈d.vars,jR v.bound≤100000
 sorts:dR d.types≤100000
 body:dZ d.body≤100000
end Go.Proofs.YtmbppnbekkbibaaGreatDoor
end
section
set_option linter.unusedVariables false
namespace Go.Proofs.YtmbppnbekkbibaaGreatDoor
open Go.RowKit
theorem DI {α:Type} {R:List Value→α→Prop} {k:Nat} {z:List Value} {c:α} (hz:z.length=k) (h:R z c):bU R k z [c]:=by
 have:=bU.cons (R:=R) hz h .nil
 rwa [List.append_nil]at this
end Go.Proofs.YtmbppnbekkbibaaGreatDoor
end
section
set_option linter.unusedVariables false
namespace Go.Proofs.YtmbppnbekkbibaaGreatDoor
open Go.RowKit
structure U0 (w wc:World) (ni nd:Nat) (xi xd:List Value) (A1:Option Addr) (k1 g1:Nat) (A2:Option Addr) (k2 g2:Nat):Prop where
 low:Below w.heap.size w wc
 box:wc.heap[w.heap.size]? =some (.cells #[.slice A1 ni k1, .slice A2 nd k2] 40 (0,0))
 res:wc.heap[w.heap.size+1]? =some (.cells #[.slice none 0 0, .slice none 0 0] 40 (0,0))
 c1:ni≤k1∧k1≤maxLen
 c2:nd≤k2∧k2≤maxLen
 a1:0<ni→A1=some ⟨g1,0,none⟩∧g1<wc.heap.size
 a2:0<nd→A2=some ⟨g2,0,none⟩∧g2<wc.heap.size
 r1:wc.rangeAt g1 0 xi
 r2:wc.rangeAt g2 0 xd
 t1:wc.there g1 0 xi.length
 t2:wc.there g2 0 xd.length
 b1:w.heap.size+2≤g1
 b2:w.heap.size+2≤g2
 ne:0<ni→g1<g2
def Ua (w:World) (g:Nat):Nat→Prop:=fun j=>j≠g∧(j<w.heap.size∨w.heap.size+2≤j)
def Ub (w wr:World) (g:Nat) (z:List Value) (d:kg):Prop:=
 ∃vv xv vt xt y,z=[sv d.name, .bool d.exp,vv,sv d.param,vt]++(y++[.int .i64 d.line, .int .i64 d.col])∧Sl w w.heap.size 5 vv xv∧bU (DN w w.heap.size) 5 xv d.vars∧Sl w w.heap.size 4 vt xt∧iq w w.heap.size xt d.types∧jG wr (Ua w g) y d.body
theorem Ub.turn {w wr wr':World} {g:Nat} {z:List Value} {d:kg} {G:Nat→Prop} (h:Ub w wr g z d) (t:Turn G wr wr') (hd:∀j,j<wr.heap.size→Ua w g j→¬G j):Ub w wr' g z d:=by
 obtain⟨vv,xv,vt,xt,y,e,h1,h2,h3,h4,h5⟩:=h
 exact⟨vv,xv,vt,xt,y,e,h1,h2,h3,h4,h5.turn t hd⟩
theorem Ub.de {w wr:World} {g:Nat} {z:List Value} {d:kg} (h:Ub w wr g z d) (hb:Below w.heap.size w wr):wG wr wr.heap.size z d:=by
 obtain⟨vv,xv,vt,xt,y,e,h1,h2,h3,h4,h5⟩:=h
 exact⟨vv,xv,vt,xt,y,e,Sl.more (Sl.below h1 hb) hb.size,h2.imp fun _ _ h=>(h.keep hb).more hb.size,Sl.more (Sl.below h3 hb) hb.size,h4.far (Nat.le_refl _) hb,h5.all⟩
end Go.Proofs.YtmbppnbekkbibaaGreatDoor
end
