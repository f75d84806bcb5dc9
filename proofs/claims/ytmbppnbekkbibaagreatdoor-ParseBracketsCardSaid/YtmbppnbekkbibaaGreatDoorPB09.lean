/- FT, FU, FV -/
import Derived.Test.YtmbppnbekkbibaaGreatDoorPB08
set_option linter.unusedSimpArgs false
set_option linter.unusedVariables false
section
set_option linter.unusedVariables false
namespace Go.Proofs.YtmbppnbekkbibaaGreatDoor
open Go.RowKit
def NQ (d:Int) (p:Ps bD):Prop:=∀(w:World) (bp B:Nat) (ts:List aF),bE w bp B ts d→
 Calls Tryz.prog 170 #[.pointer (some ⟨bp,0,none⟩)] w (aD (JX w.heap.size) bp B d w (p ts))
set_option maxRecDepth 100000 in
set_option maxHeartbeats 8000000 in
theorem EJ (d:Int) (h0:0≤d) (h1:d<100) (typ:Ps bO) (expr unary:Ps bD) (HU:uD (d+1) unary) (Vs:NQ (d+1) (kX typ expr)):uD d (j5 typ expr unary):=by
 intro w bp B ts h
 have hlt:=h.lt
 have hB:=h.1
 obtain⟨Q,hQ⟩:∃Q,j5 typ expr unary ts=Q:=⟨_,rfl⟩
 rw [hQ]
 obtain⟨t0,ht0⟩:∃t0,aU ts=t0:=⟨_,rfl⟩
 have HQ:Hid (au (bS [[45],[110,111,116]]) (fun i=>match i with | none=>kX typ expr | some 0=>au unary fun x=>aG (aJ 16 [] 0 t0 [] [] [x]) | some _=>au unary fun x=>aG (aJ 15 [] 0 t0 [] [] [x])) ts=Q):=hid (by subst ht0;exact hQ)
 have HE:=hid (tZ (w.alloc (.cells #[.int .i64 0, .string ⟨#[]⟩, .int .i64 0, .int .i64 0, .int .i64 0, .slice none 0 0, .slice none 0 0, .slice none 0 0] 49)) bp B ts d (h.below (new1 _ _)) h0 h1)
 clear h hQ
 go_enter_defers Tryz.func142,Tryz.ntmps142
 go_wp2_with fail
 refine(HE.out).mono ?_
 rintro e w1 ⟨rfl,tn,hbx,hk⟩
 obtain⟨tm,hsz,hrs⟩:=bq tn
 simp at hbx
 have hxb:=World.block_lt_of_cell? _ _ hbx
 simp at hxb
 have lS:=hid (hrs (by omega))
 have HT1:=hid tm
 have lN:=hid hk
 have nN:=hid hbx
 have HH:=hid (mX (d+1) w1 bp B ts hk 0)
 rw [ht0]at HH
 clear tn tm hrs hk hbx ht0
 go_wp2_with fail
 refine(HH.out).mono ?_
 rintro e w2 ⟨rfl,hb2⟩
 have hs2:=hb2.size
 have t2:=Turn.of_below (F:=fun k=>k=bp) hb2
 have HT2:=hid (aA HT1.out t2)
 have jV:=hid (lN.out.below hb2)
 have EF:=hid (aI nN.out t2 (by omega))
 have sQ:=hid (ah lS.out t2 (by omega))
 have HC:=hid (kY (w2.alloc (.cells (mW 0 t0) 49)) bp B ts (d+1) (jV.out.below (new1 _ _)) [[45],[110,111,116]] #[.string ⟨#[45]⟩, .string ⟨#[110,111,116]⟩] 9 2 (w2.heap.size+1))
 clear hb2 t2
 go_wp2_with fail
 refine(HC.out).mono ?_
 rintro e w3 h3
 rcases hq:bS [[45],[110,111,116]] ts with g | ⟨o,r3⟩
 ·exact(fG hq).elim
 ·obtain⟨v3,rfl,tn,rfl,kn⟩:=h3.aL hq
  obtain⟨tm,hs3,hnb⟩:=bq tn
  have HT3:=hid (aA HT2.out tm)
  have jm:=hid kn
  have oW:=hid (aI EF.out tm (by omega))
  have iR:=hid (ah sQ.out tm (by omega))
  have kG:=hid (hnb (by omega))
  have gU:=hid hq
  have Ph:¬w2.heap.size=w.heap.size:=by omega
  have Pj:¬w.heap.size=w2.heap.size:=by omega
  clear h3 tn tm kn hnb hq
  rcases o with _ | i
  ·have fu:Hid (kX typ expr r3=Q):=hid ((aj gU.out).symm.trans HQ.out)
   have HP:=hid (Vs w3 bp B r3 jm.out)
   go_wp2_with fail
   refine(HP.out).mono ?_
   rintro e w4 h4
   rcases hq:kX typ expr r3 with g | ⟨x,r4⟩
   ·obtain⟨rfl,tn,bn⟩:=h4.bF hq
    have oq:=hid (aA HT3.out tn)
    have bY:=hid (fu.out.symm.trans hq)
    have hxo:=aI oW.out tn (by omega)
    have nO:=hid bn
    clear h4 tn bn hq
    go_wp2_with fail
    exact iB nO.out hxo oq.out bY.out
   ·obtain⟨v4,rfl,tn,⟨z4,rfl,hz⟩,kn⟩:=h4.aL hq
    obtain⟨k4,s4,n4,l4,o4,lI,n14,c14,lJ,n24,c24,nQ,n34,c34,rfl⟩:=hz.shape'
    have hs4:=tn.size
    have fM:=hid (aA HT3.out tn)
    have jB:=hid kn
    have ru:=hid (aI oW.out tn (by omega))
    have ig:=hid (ah iR.out tn (by omega))
    have vU:=hid hz.iv
    have gK:=hid (fu.out.symm.trans hq)
    obtain⟨c0,c1,c2,c3,c4,c5,c6,c7,cz⟩:=aN ig.out
    clear h4 tn hz kn hq
    go_wp2_with fail
    have tF:=aY w4 w.heap.size (.int .i64 k4) (sv s4) (.int .i64 n4) (.int .i64 l4) (.int .i64 o4) (.slice lI n14 c14) (.slice lJ n24 c24) (.slice nQ n34 c34)
    exact gJ (fun w9 t9=>aW rfl rfl (ah (aP ig.out _ _ _ _ _ _ _ _) t9 (by omega)) Tryz.underlying49 rfl (by kernel_rfl)) (jB.out.eY (by omega)) h0 h1 (aI ru.out tF (by omega)) (bC fM.out (by omega)) gK.out
     (fun w9 t9=>⟨[.int .i64 k4,sv s4, .int .i64 n4, .int .i64 l4, .int .i64 o4, .slice lI n14 c14, .slice lJ n24 c24, .slice nQ n34 c34],rfl,((vU.out.turn tF (fun g _ h e=>by have:=h.1;omega)).turn t9 (fun g _ h e=>by have:=h.1;omega)).mono (fun g _ h=>by have:=h.1;omega)⟩)
  ·have hi:=jN gU.out
   simp only [List.length_cons,List.length_nil]at hi
   obtain rfl | rfl:i=0∨i=1:=by omega
   ·skip
    have fu:Hid (au unary (fun x=>aG (aJ 16 [] 0 t0 [] [] [x])) r3=Q):=hid ((aj gU.out).symm.trans HQ.out)
    have VT:=hid (HU w3.drew bp B r3 jm.out)
    have hix:∀w:World,(Instr.index 203 (.agg #[.int .i64 16, .int .i64 15]) (.int .i64 0)).run Tryz.prog w= .ok (.int .i64 16) w:=fun _=>by kernel_rfl
    have Ki:Hid (Turn (fun j=>j=bp) w3 w3.drew):=hid ⟨rfl,rfl,rfl,Nat.le_refl _,fun _ _ _=>rfl⟩
    go_wp2_with fail
    refine bM (S:=fun _=>True) (x:=9) (by kernel_rfl) ?_
    try simp only [Act.put,List.getElem_toArray,List.getElem_cons_zero,List.getElem_cons_succ,List.setIfInBounds_toArray,List.set_cons_zero,List.set_cons_succ]
    refine tx 0 (.agg #[.int .i64 16, .int .i64 15]) trivial (hQ:=eO rfl (by decide)) ?_
    refine tx 1 (.int .i64 0) trivial (hQ:=eO rfl (by decide)) ?_
    refine tx 2 (.int .i64 16) trivial (hQ:=eO rfl (by decide)) ?_
    refine tx 3 (.pointer (some ⟨bp,0,none⟩)) trivial (hQ:=eO rfl (by decide)) ?_
    refine tx 6 (.pointer (some ⟨w2.heap.size,0,none⟩)) trivial (hQ:=eO rfl (by decide)) ?_
    refine ay (rs:=[4]) (by kernel_rfl) (by simp) ?_
    refine av.cons rfl (fun K hK=> ?_) (av.nil)
    go_simp
    refine(VT.out).mono ?_
    rintro e w4 h4
    rcases hq:unary r3 with g | ⟨x,r4⟩
    ·obtain⟨rfl,tn,bn⟩:=h4.bF hq
     have tn:=aA Ki.out tn
     exact iB bn (aI oW.out tn (by omega)) (aA HT3.out tn) (fu.out.symm.trans (aB hq))
    ·obtain⟨v4,rfl,tn,⟨z4,rfl,hz⟩,kn⟩:=h4.aL hq
     obtain⟨k4,s4,n4,l4,o4,lI,n14,c14,lJ,n24,c24,nQ,n34,c34,rfl⟩:=hz.shape'
     have wM:=hid (aA Ki.out tn)
     have hs4:=wM.out.size
     have fM:=hid (aA HT3.out wM.out)
     have jB:=hid kn
     have ru:=hid (aI oW.out wM.out (by omega))
     have ig:=hid (ah iR.out wM.out (by omega))
     have oZ:=ah kG.out wM.out (by omega)
     have lT:=hid oZ
     have vU:=hid (hz.iv.mono (G:=Iv w3.heap.size w4.heap.size) (fun g _ h=>h))
     have gK:Hid (Pr.good (aJ 16 [] 0 t0 [] [] [x]) r4=Q):=hid ((aj hq).symm.trans fu.out)
     have VU:=block_lt oZ
     obtain⟨m0,m1,m2,m3,m4,m5,m6,m7,mz⟩:=aN oZ
     clear h4 tn hz kn hq oZ
     refine hK.out _ _ trivial ?_
     clear hK K
     try simp only [Act.put,List.getElem_toArray,List.getElem_cons_zero,List.getElem_cons_succ,List.setIfInBounds_toArray,List.set_cons_zero,List.set_cons_succ]
     refine ay (rs:=[5,7]) (by kernel_rfl) (by simp) ?_
     refine av.cons rfl (fun K hK=> ?_) (av.cons rfl (fun K hK=> ?_) av.nil)
     ·go_simp
      refine hK.out _ _ trivial ?_
      clear hK K
      try simp only [Act.put,List.getElem_toArray,List.getElem_cons_zero,List.getElem_cons_succ,List.setIfInBounds_toArray,List.set_cons_zero,List.set_cons_succ]
      refine ay (rs:=[7]) (by kernel_rfl) (by simp) ?_
      refine av.cons rfl (fun K hK=> ?_) (av.nil)
      go_simp
      refine hK.out _ _ trivial ?_
      clear hK K
      try simp only [Act.put,List.getElem_toArray,List.getElem_cons_zero,List.getElem_cons_succ,List.setIfInBounds_toArray,List.set_cons_zero,List.set_cons_succ]
      refine tx 8 (.pointer (some ⟨w2.heap.size,7,none⟩)) trivial (hQ:=eO rfl (by decide)) ?_
      refine ay (rs:=[9]) (by kernel_rfl) (by simp) ?_
      refine av.past rfl (by kernel_rfl) (fun K hK=> ?_) (av.nil)
      go_simp
      refine hK.out _ _ ?_
      clear hK K
      try simp only [Act.put,List.getElem_toArray,List.getElem_cons_zero,List.getElem_cons_succ,List.setIfInBounds_toArray,List.set_cons_zero,List.set_cons_succ]
      refine aO (by kernel_rfl) ?_ _
      obtain⟨t8,CF,CG⟩:=mY (nb:=w2.heap.size) (c1:=0) (c2:=7) (v1:= .int .i64 16) (v2:=(.slice (some ⟨w4.heap.size,0,none⟩) 1 1)) (P:= #[.int .i64 k4,sv s4, .int .i64 n4, .int .i64 l4, .int .i64 o4, .slice lI n14 c14, .slice lJ n24 c24, .slice nQ n34 c34]) (T:=49) lT.out _ rfl
      have qw:=hid (jB.out.turn t8 (by omega) (fun k hk e=>by have:=jB.out.1;omega))
      have lH:=hid (fM.out.trans t8 (fun i hi e=>by omega))
      have xS:=hid (gV CF 8 1 rfl (by omega))
      have CJ:=hid (vU.out.turn t8 (fun g _ h e=>by have:=h.1;omega))
      have o8:=hid (aI ru.out t8 (by omega))
      have iV:=hid (ah ig.out t8 (by omega))
      have lV:=hid CG
      have uh:=t8.size
      obtain⟨W8,qY⟩:∃W8,(((w4.setCell ⟨w2.heap.size,0,none⟩ (.int .i64 16)).setCell ⟨w2.heap.size,7,none⟩ (.slice (some ⟨w4.heap.size,0,none⟩) 1 1)).alloc (.cells #[.int .i64 k4,sv s4, .int .i64 n4, .int .i64 l4, .int .i64 o4, .slice lI n14 c14, .slice lJ n24 c24, .slice nQ n34 c34] 49))=W8:=⟨_,rfl⟩
      rw [qY]at qw lH xS CJ o8 iV lV uh
      have EH:=hid qY
      obtain⟨f0,f1,f2,f3,f4,f5,f6,f7,fz⟩:=aN (show W8.heap[w2.heap.size]? =some (.cells #[.int .i64 16, .string ⟨#[]⟩, .int .i64 0, .int .i64 (t0.line:Nat), .int .i64 (t0.col:Nat), .slice none 0 0, .slice none 0 0,(.slice (some ⟨w4.heap.size,0,none⟩) 1 1)] 49 (0,0))from lV.out)
      obtain⟨c0,c1,c2,c3,c4,c5,c6,c7,cz⟩:=aN iV.out
      clear t8 CF CG qY m0 m1 m2 m3 m4 m5 m6 m7 mz
      rw [EH.out]
      go_wp2_with fail
      have tF:=aY W8 w.heap.size (.int .i64 16) (.string ⟨#[]⟩) (.int .i64 0) (.int .i64 (t0.line:Nat)) (.int .i64 (t0.col:Nat)) (.slice none 0 0) (.slice none 0 0) (.slice (some ⟨w4.heap.size,0,none⟩) 1 1)
      exact gJ (fun w9 t9=>aW rfl rfl (ah (aP iV.out _ _ _ _ _ _ _ _) t9 (by omega)) Tryz.underlying49 rfl (by kernel_rfl)) (qw.out.eY (by omega)) h0 h1 (aI o8.out tF (by omega)) (bC lH.out (by omega)) gK.out.symm
       (fun w9 t9=>⟨_,rfl, .mk (dh.nil _ _ _) .nil (dh.nil _ _ _) (((xS.out.turn tF (fun g _ h e=>by omega)).turn t9 (fun g _ h e=>by omega)).mono (fun g _ h=>by omega)) (.cons (((CJ.out.turn tF (fun g _ h e=>by have:=h.1;omega)).turn t9 (fun g _ h e=>by have:=h.1;omega)).mono (fun g _ h=>by have:=h.1;omega)) .nil)⟩)
     ·go_simp
      refine hK.out _ _ trivial ?_
      clear hK K
      try simp only [Act.put,List.getElem_toArray,List.getElem_cons_zero,List.getElem_cons_succ,List.setIfInBounds_toArray,List.set_cons_zero,List.set_cons_succ]
      refine ay (rs:=[5]) (by kernel_rfl) (by simp) ?_
      refine av.cons rfl (fun K hK=> ?_) (av.nil)
      go_simp
      refine hK.out _ _ trivial ?_
      clear hK K
      try simp only [Act.put,List.getElem_toArray,List.getElem_cons_zero,List.getElem_cons_succ,List.setIfInBounds_toArray,List.set_cons_zero,List.set_cons_succ]
      refine tx 8 (.pointer (some ⟨w2.heap.size,7,none⟩)) trivial (hQ:=eO rfl (by decide)) ?_
      refine ay (rs:=[9]) (by kernel_rfl) (by simp) ?_
      refine av.past rfl (by kernel_rfl) (fun K hK=> ?_) (av.nil)
      go_simp
      refine hK.out _ _ ?_
      clear hK K
      try simp only [Act.put,List.getElem_toArray,List.getElem_cons_zero,List.getElem_cons_succ,List.setIfInBounds_toArray,List.set_cons_zero,List.set_cons_succ]
      refine aO (by kernel_rfl) ?_ _
      obtain⟨t8,CF,CG⟩:=mY (nb:=w2.heap.size) (c1:=0) (c2:=7) (v1:= .int .i64 16) (v2:=(.slice (some ⟨w4.heap.size,0,none⟩) 1 1)) (P:= #[.int .i64 k4,sv s4, .int .i64 n4, .int .i64 l4, .int .i64 o4, .slice lI n14 c14, .slice lJ n24 c24, .slice nQ n34 c34]) (T:=49) lT.out _ rfl
      have qw:=hid (jB.out.turn t8 (by omega) (fun k hk e=>by have:=jB.out.1;omega))
      have lH:=hid (fM.out.trans t8 (fun i hi e=>by omega))
      have xS:=hid (gV CF 8 1 rfl (by omega))
      have CJ:=hid (vU.out.turn t8 (fun g _ h e=>by have:=h.1;omega))
      have o8:=hid (aI ru.out t8 (by omega))
      have iV:=hid (ah ig.out t8 (by omega))
      have lV:=hid CG
      have uh:=t8.size
      obtain⟨W8,qY⟩:∃W8,(((w4.setCell ⟨w2.heap.size,0,none⟩ (.int .i64 16)).setCell ⟨w2.heap.size,7,none⟩ (.slice (some ⟨w4.heap.size,0,none⟩) 1 1)).alloc (.cells #[.int .i64 k4,sv s4, .int .i64 n4, .int .i64 l4, .int .i64 o4, .slice lI n14 c14, .slice lJ n24 c24, .slice nQ n34 c34] 49))=W8:=⟨_,rfl⟩
      rw [qY]at qw lH xS CJ o8 iV lV uh
      have EH:=hid qY
      obtain⟨f0,f1,f2,f3,f4,f5,f6,f7,fz⟩:=aN (show W8.heap[w2.heap.size]? =some (.cells #[.int .i64 16, .string ⟨#[]⟩, .int .i64 0, .int .i64 (t0.line:Nat), .int .i64 (t0.col:Nat), .slice none 0 0, .slice none 0 0,(.slice (some ⟨w4.heap.size,0,none⟩) 1 1)] 49 (0,0))from lV.out)
      obtain⟨c0,c1,c2,c3,c4,c5,c6,c7,cz⟩:=aN iV.out
      clear t8 CF CG qY m0 m1 m2 m3 m4 m5 m6 m7 mz
      rw [EH.out]
      go_wp2_with fail
      have tF:=aY W8 w.heap.size (.int .i64 16) (.string ⟨#[]⟩) (.int .i64 0) (.int .i64 (t0.line:Nat)) (.int .i64 (t0.col:Nat)) (.slice none 0 0) (.slice none 0 0) (.slice (some ⟨w4.heap.size,0,none⟩) 1 1)
      exact gJ (fun w9 t9=>aW rfl rfl (ah (aP iV.out _ _ _ _ _ _ _ _) t9 (by omega)) Tryz.underlying49 rfl (by kernel_rfl)) (qw.out.eY (by omega)) h0 h1 (aI o8.out tF (by omega)) (bC lH.out (by omega)) gK.out.symm
       (fun w9 t9=>⟨_,rfl, .mk (dh.nil _ _ _) .nil (dh.nil _ _ _) (((xS.out.turn tF (fun g _ h e=>by omega)).turn t9 (fun g _ h e=>by omega)).mono (fun g _ h=>by omega)) (.cons (((CJ.out.turn tF (fun g _ h e=>by have:=h.1;omega)).turn t9 (fun g _ h e=>by have:=h.1;omega)).mono (fun g _ h=>by have:=h.1;omega)) .nil)⟩)
   ·skip
    have fu:Hid (au unary (fun x=>aG (aJ 15 [] 0 t0 [] [] [x])) r3=Q):=hid ((aj gU.out).symm.trans HQ.out)
    have VT:=hid (HU w3.drew bp B r3 jm.out)
    have hix:∀w:World,(Instr.index 203 (.agg #[.int .i64 16, .int .i64 15]) (.int .i64 1)).run Tryz.prog w= .ok (.int .i64 15) w:=fun _=>by kernel_rfl
    have Ki:Hid (Turn (fun j=>j=bp) w3 w3.drew):=hid ⟨rfl,rfl,rfl,Nat.le_refl _,fun _ _ _=>rfl⟩
    go_wp2_with fail
    refine bM (S:=fun _=>True) (x:=9) (by kernel_rfl) ?_
    try simp only [Act.put,List.getElem_toArray,List.getElem_cons_zero,List.getElem_cons_succ,List.setIfInBounds_toArray,List.set_cons_zero,List.set_cons_succ]
    refine tx 0 (.agg #[.int .i64 16, .int .i64 15]) trivial (hQ:=eO rfl (by decide)) ?_
    refine tx 1 (.int .i64 1) trivial (hQ:=eO rfl (by decide)) ?_
    refine tx 2 (.int .i64 15) trivial (hQ:=eO rfl (by decide)) ?_
    refine tx 3 (.pointer (some ⟨bp,0,none⟩)) trivial (hQ:=eO rfl (by decide)) ?_
    refine tx 6 (.pointer (some ⟨w2.heap.size,0,none⟩)) trivial (hQ:=eO rfl (by decide)) ?_
    refine ay (rs:=[4]) (by kernel_rfl) (by simp) ?_
    refine av.cons rfl (fun K hK=> ?_) (av.nil)
    go_simp
    refine(VT.out).mono ?_
    rintro e w4 h4
    rcases hq:unary r3 with g | ⟨x,r4⟩
    ·obtain⟨rfl,tn,bn⟩:=h4.bF hq
     have tn:=aA Ki.out tn
     exact iB bn (aI oW.out tn (by omega)) (aA HT3.out tn) (fu.out.symm.trans (aB hq))
    ·obtain⟨v4,rfl,tn,⟨z4,rfl,hz⟩,kn⟩:=h4.aL hq
     obtain⟨k4,s4,n4,l4,o4,lI,n14,c14,lJ,n24,c24,nQ,n34,c34,rfl⟩:=hz.shape'
     have wM:=hid (aA Ki.out tn)
     have hs4:=wM.out.size
     have fM:=hid (aA HT3.out wM.out)
     have jB:=hid kn
     have ru:=hid (aI oW.out wM.out (by omega))
     have ig:=hid (ah iR.out wM.out (by omega))
     have oZ:=ah kG.out wM.out (by omega)
     have lT:=hid oZ
     have vU:=hid (hz.iv.mono (G:=Iv w3.heap.size w4.heap.size) (fun g _ h=>h))
     have gK:Hid (Pr.good (aJ 15 [] 0 t0 [] [] [x]) r4=Q):=hid ((aj hq).symm.trans fu.out)
     have VU:=block_lt oZ
     obtain⟨m0,m1,m2,m3,m4,m5,m6,m7,mz⟩:=aN oZ
     clear h4 tn hz kn hq oZ
     refine hK.out _ _ trivial ?_
     clear hK K
     try simp only [Act.put,List.getElem_toArray,List.getElem_cons_zero,List.getElem_cons_succ,List.setIfInBounds_toArray,List.set_cons_zero,List.set_cons_succ]
     refine ay (rs:=[5,7]) (by kernel_rfl) (by simp) ?_
     refine av.cons rfl (fun K hK=> ?_) (av.cons rfl (fun K hK=> ?_) av.nil)
     ·go_simp
      refine hK.out _ _ trivial ?_
      clear hK K
      try simp only [Act.put,List.getElem_toArray,List.getElem_cons_zero,List.getElem_cons_succ,List.setIfInBounds_toArray,List.set_cons_zero,List.set_cons_succ]
      refine ay (rs:=[7]) (by kernel_rfl) (by simp) ?_
      refine av.cons rfl (fun K hK=> ?_) (av.nil)
      go_simp
      refine hK.out _ _ trivial ?_
      clear hK K
      try simp only [Act.put,List.getElem_toArray,List.getElem_cons_zero,List.getElem_cons_succ,List.setIfInBounds_toArray,List.set_cons_zero,List.set_cons_succ]
      refine tx 8 (.pointer (some ⟨w2.heap.size,7,none⟩)) trivial (hQ:=eO rfl (by decide)) ?_
      refine ay (rs:=[9]) (by kernel_rfl) (by simp) ?_
      refine av.past rfl (by kernel_rfl) (fun K hK=> ?_) (av.nil)
      go_simp
      refine hK.out _ _ ?_
      clear hK K
      try simp only [Act.put,List.getElem_toArray,List.getElem_cons_zero,List.getElem_cons_succ,List.setIfInBounds_toArray,List.set_cons_zero,List.set_cons_succ]
      refine aO (by kernel_rfl) ?_ _
      obtain⟨t8,CF,CG⟩:=mY (nb:=w2.heap.size) (c1:=0) (c2:=7) (v1:= .int .i64 15) (v2:=(.slice (some ⟨w4.heap.size,0,none⟩) 1 1)) (P:= #[.int .i64 k4,sv s4, .int .i64 n4, .int .i64 l4, .int .i64 o4, .slice lI n14 c14, .slice lJ n24 c24, .slice nQ n34 c34]) (T:=49) lT.out _ rfl
      have qw:=hid (jB.out.turn t8 (by omega) (fun k hk e=>by have:=jB.out.1;omega))
      have lH:=hid (fM.out.trans t8 (fun i hi e=>by omega))
      have xS:=hid (gV CF 8 1 rfl (by omega))
      have CJ:=hid (vU.out.turn t8 (fun g _ h e=>by have:=h.1;omega))
      have o8:=hid (aI ru.out t8 (by omega))
      have iV:=hid (ah ig.out t8 (by omega))
      have lV:=hid CG
      have uh:=t8.size
      obtain⟨W8,qY⟩:∃W8,(((w4.setCell ⟨w2.heap.size,0,none⟩ (.int .i64 15)).setCell ⟨w2.heap.size,7,none⟩ (.slice (some ⟨w4.heap.size,0,none⟩) 1 1)).alloc (.cells #[.int .i64 k4,sv s4, .int .i64 n4, .int .i64 l4, .int .i64 o4, .slice lI n14 c14, .slice lJ n24 c24, .slice nQ n34 c34] 49))=W8:=⟨_,rfl⟩
      rw [qY]at qw lH xS CJ o8 iV lV uh
      have EH:=hid qY
      obtain⟨f0,f1,f2,f3,f4,f5,f6,f7,fz⟩:=aN (show W8.heap[w2.heap.size]? =some (.cells #[.int .i64 15, .string ⟨#[]⟩, .int .i64 0, .int .i64 (t0.line:Nat), .int .i64 (t0.col:Nat), .slice none 0 0, .slice none 0 0,(.slice (some ⟨w4.heap.size,0,none⟩) 1 1)] 49 (0,0))from lV.out)
      obtain⟨c0,c1,c2,c3,c4,c5,c6,c7,cz⟩:=aN iV.out
      clear t8 CF CG qY m0 m1 m2 m3 m4 m5 m6 m7 mz
      rw [EH.out]
      go_wp2_with fail
      have tF:=aY W8 w.heap.size (.int .i64 15) (.string ⟨#[]⟩) (.int .i64 0) (.int .i64 (t0.line:Nat)) (.int .i64 (t0.col:Nat)) (.slice none 0 0) (.slice none 0 0) (.slice (some ⟨w4.heap.size,0,none⟩) 1 1)
      exact gJ (fun w9 t9=>aW rfl rfl (ah (aP iV.out _ _ _ _ _ _ _ _) t9 (by omega)) Tryz.underlying49 rfl (by kernel_rfl)) (qw.out.eY (by omega)) h0 h1 (aI o8.out tF (by omega)) (bC lH.out (by omega)) gK.out.symm
       (fun w9 t9=>⟨_,rfl, .mk (dh.nil _ _ _) .nil (dh.nil _ _ _) (((xS.out.turn tF (fun g _ h e=>by omega)).turn t9 (fun g _ h e=>by omega)).mono (fun g _ h=>by omega)) (.cons (((CJ.out.turn tF (fun g _ h e=>by have:=h.1;omega)).turn t9 (fun g _ h e=>by have:=h.1;omega)).mono (fun g _ h=>by have:=h.1;omega)) .nil)⟩)
     ·go_simp
      refine hK.out _ _ trivial ?_
      clear hK K
      try simp only [Act.put,List.getElem_toArray,List.getElem_cons_zero,List.getElem_cons_succ,List.setIfInBounds_toArray,List.set_cons_zero,List.set_cons_succ]
      refine ay (rs:=[5]) (by kernel_rfl) (by simp) ?_
      refine av.cons rfl (fun K hK=> ?_) (av.nil)
      go_simp
      refine hK.out _ _ trivial ?_
      clear hK K
      try simp only [Act.put,List.getElem_toArray,List.getElem_cons_zero,List.getElem_cons_succ,List.setIfInBounds_toArray,List.set_cons_zero,List.set_cons_succ]
      refine tx 8 (.pointer (some ⟨w2.heap.size,7,none⟩)) trivial (hQ:=eO rfl (by decide)) ?_
      refine ay (rs:=[9]) (by kernel_rfl) (by simp) ?_
      refine av.past rfl (by kernel_rfl) (fun K hK=> ?_) (av.nil)
      go_simp
      refine hK.out _ _ ?_
      clear hK K
      try simp only [Act.put,List.getElem_toArray,List.getElem_cons_zero,List.getElem_cons_succ,List.setIfInBounds_toArray,List.set_cons_zero,List.set_cons_succ]
      refine aO (by kernel_rfl) ?_ _
      obtain⟨t8,CF,CG⟩:=mY (nb:=w2.heap.size) (c1:=0) (c2:=7) (v1:= .int .i64 15) (v2:=(.slice (some ⟨w4.heap.size,0,none⟩) 1 1)) (P:= #[.int .i64 k4,sv s4, .int .i64 n4, .int .i64 l4, .int .i64 o4, .slice lI n14 c14, .slice lJ n24 c24, .slice nQ n34 c34]) (T:=49) lT.out _ rfl
      have qw:=hid (jB.out.turn t8 (by omega) (fun k hk e=>by have:=jB.out.1;omega))
      have lH:=hid (fM.out.trans t8 (fun i hi e=>by omega))
      have xS:=hid (gV CF 8 1 rfl (by omega))
      have CJ:=hid (vU.out.turn t8 (fun g _ h e=>by have:=h.1;omega))
      have o8:=hid (aI ru.out t8 (by omega))
      have iV:=hid (ah ig.out t8 (by omega))
      have lV:=hid CG
      have uh:=t8.size
      obtain⟨W8,qY⟩:∃W8,(((w4.setCell ⟨w2.heap.size,0,none⟩ (.int .i64 15)).setCell ⟨w2.heap.size,7,none⟩ (.slice (some ⟨w4.heap.size,0,none⟩) 1 1)).alloc (.cells #[.int .i64 k4,sv s4, .int .i64 n4, .int .i64 l4, .int .i64 o4, .slice lI n14 c14, .slice lJ n24 c24, .slice nQ n34 c34] 49))=W8:=⟨_,rfl⟩
      rw [qY]at qw lH xS CJ o8 iV lV uh
      have EH:=hid qY
      obtain⟨f0,f1,f2,f3,f4,f5,f6,f7,fz⟩:=aN (show W8.heap[w2.heap.size]? =some (.cells #[.int .i64 15, .string ⟨#[]⟩, .int .i64 0, .int .i64 (t0.line:Nat), .int .i64 (t0.col:Nat), .slice none 0 0, .slice none 0 0,(.slice (some ⟨w4.heap.size,0,none⟩) 1 1)] 49 (0,0))from lV.out)
      obtain⟨c0,c1,c2,c3,c4,c5,c6,c7,cz⟩:=aN iV.out
      clear t8 CF CG qY m0 m1 m2 m3 m4 m5 m6 m7 mz
      rw [EH.out]
      go_wp2_with fail
      have tF:=aY W8 w.heap.size (.int .i64 15) (.string ⟨#[]⟩) (.int .i64 0) (.int .i64 (t0.line:Nat)) (.int .i64 (t0.col:Nat)) (.slice none 0 0) (.slice none 0 0) (.slice (some ⟨w4.heap.size,0,none⟩) 1 1)
      exact gJ (fun w9 t9=>aW rfl rfl (ah (aP iV.out _ _ _ _ _ _ _ _) t9 (by omega)) Tryz.underlying49 rfl (by kernel_rfl)) (qw.out.eY (by omega)) h0 h1 (aI o8.out tF (by omega)) (bC lH.out (by omega)) gK.out.symm
       (fun w9 t9=>⟨_,rfl, .mk (dh.nil _ _ _) .nil (dh.nil _ _ _) (((xS.out.turn tF (fun g _ h e=>by omega)).turn t9 (fun g _ h e=>by omega)).mono (fun g _ h=>by omega)) (.cons (((CJ.out.turn tF (fun g _ h e=>by have:=h.1;omega)).turn t9 (fun g _ h e=>by have:=h.1;omega)).mono (fun g _ h=>by have:=h.1;omega)) .nil)⟩)
theorem EK:uD 100 (ji 6):=by
 intro w bp B ts h
 have HE:=hid (qQ (w.alloc (.cells #[.int .i64 0, .string ⟨#[]⟩, .int .i64 0, .int .i64 0, .int .i64 0, .slice none 0 0, .slice none 0 0, .slice none 0 0] 49)) bp B ts (h.below (new1 _ _)))
 clear h
 go_enter_defers Tryz.func142,Tryz.ntmps142
 go_wp2_with fail
 refine(HE.out).mono ?_
 rintro e w1 ⟨rfl,hb⟩
 go_wp2_with fail
 exact aD.fail (P:=JX w.heap.size) (B:=B) (d:=100) (q:=ji 6 ts) rfl ⟨(bq hb.1).1,hb.2⟩
end Go.Proofs.YtmbppnbekkbibaaGreatDoor
end
section
set_option linter.unusedVariables false
namespace Go.Proofs.YtmbppnbekkbibaaGreatDoor
open Go.RowKit
def NR (d:Int) (p:Ps bD):Prop:=∀(w:World) (bp B:Nat) (ts:List aF),bE w bp B ts d→
 Calls Tryz.prog 188 #[.pointer (some ⟨bp,0,none⟩)] w (aD (JX w.heap.size) bp B d w (p ts))
structure Gc (w:World) (bp B ab:Nat) (d:Int) (wr:World) (a:bD) (r:List aF):Prop where
 turn:Turn (fun k=>k=bp) w wr
 tk:bE wr bp B r d
 res:wr.heap[w.heap.size]? =some (.cells #[.int .i64 0, .string ⟨#[]⟩, .int .i64 0, .int .i64 0, .int .i64 0, .slice none 0 0, .slice none 0 0, .slice none 0 0] 49 (0,0))
 no:∃z:List Value,wr.heap[ab]? =some (.cells z.toArray 49 (0,0))∧jG wr (fun j=>w.heap.size≤j∧j≠w.heap.size∧j≠ab) z a
set_option maxRecDepth 100000 in
set_option maxHeartbeats 8000000 in
theorem Kn (d:Int) (typ:Ps bO) (expr:Ps bD) (hsf:Sf expr) (yU:sN d expr) (HA:NR d (kW typ expr)):NQ d (kX typ expr):=by
 intro w bp B ts h
 have hlt:=h.lt
 have hB:=h.1
 obtain⟨Q,hQ⟩:∃Q,kX typ expr ts=Q:=⟨_,rfl⟩
 rw [hQ]
 have HQ:Hid (au (kW typ expr) (fun a ts=>gH expr ts.length a ts) ts=Q):=hid hQ
 have HC:=hid (HA (w.alloc (.cells #[.int .i64 0, .string ⟨#[]⟩, .int .i64 0, .int .i64 0, .int .i64 0, .slice none 0 0, .slice none 0 0, .slice none 0 0] 49)) bp B ts (h.below (new1 _ _)))
 clear h hQ
 go_enter Tryz.func170,Tryz.ntmps170
 go_wp2_with fail
 refine(HC.out).mono ?_
 rintro e w1 h1
 rcases hq:kW typ expr ts with g | ⟨a,r1⟩
 ·obtain⟨rfl,tn,bn⟩:=h1.bF hq
  have tn:=(bq tn).1
  have HB:=hid (dI.mk2 tn bn)
  have bY:=hid (HQ.out.symm.trans (aB hq))
  clear h1 tn bn hq
  go_wp2_with fail
  exact⟨rfl,aD.fail bY.out HB.out⟩
 ·obtain⟨v1,rfl,tn,⟨z1,rfl,hz⟩,kn⟩:=h1.aL hq
  obtain⟨k1,s1,n1,l1,o1,O9,n11,c11,Pb,n21,c21,Pf,n31,c31,rfl⟩:=hz.shape'
  obtain⟨tm,hs1,hrs⟩:=bq tn
  have HZ1:=hid (hz.iv.mono (G:=Iv (w.heap.size+1) w1.heap.size) (fun g _ h=>⟨by have h:=h.1;simp at h;exact h,h.2⟩))
  have kF:Hid (gH expr r1.length a r1=Q):=hid ((aj (f:=fun a ts=>gH expr ts.length a ts) hq).symm.trans HQ.out)
  have hab:w.heap.size<w1.heap.size:=by omega
  have ZY:Hid (Gc w bp B w1.heap.size d (w1.alloc (.cells #[.int .i64 k1,sv s1, .int .i64 n1, .int .i64 l1, .int .i64 o1, .slice O9 n11 c11, .slice Pb n21 c21, .slice Pf n31 c31] 49)) a r1):=hid ⟨aA tm (Turn.alloc _ _ _),kn.below (new1 _ _),bB (hrs (by omega)),[.int .i64 k1,sv s1, .int .i64 n1, .int .i64 l1, .int .i64 o1, .slice O9 n11 c11, .slice Pb n21 c21, .slice Pf n31 c31],yT _ _,(HZ1.out.turn (Turn.alloc (fun _=>False) w1 (.cells #[.int .i64 k1,sv s1, .int .i64 n1, .int .i64 l1, .int .i64 o1, .slice O9 n11 c11, .slice Pb n21 c21, .slice Pf n31 c31] 49)) (fun _ _ _=>id)).mono (fun g hg h=>⟨by have:=h.1;omega,by have:=h.1;omega,by have:=h.2;omega⟩)⟩
  clear h1 tn tm hz kn hrs hq
  go_wp2_with fail
  go_loopw [5] (fun _ wr=>∃(f:Nat) (a:bD) (r:List aF),gH expr f a r=Q∧r.length≤f∧Gc w bp B w1.heap.size d wr a r) (fun _ wr=>leftOf wr bp)
  case atStart=>exact⟨_,a,r1,kF.out,Nat.le_refl _,ZY.out⟩
  case round=>
   obtain⟨f,a,r,hinv,hf,ow⟩:=hrel
   have hwf:=ow.tk.wf
   have hpos:=hwf.pos
   obtain⟨f,rfl⟩:∃f',f=f'+1:=⟨f - 1,by omega⟩
   obtain⟨t,ht⟩:∃t,aU r=t:=⟨_,rfl⟩
   have HL:Hid (au (bS [[40],[46]]) (fun i=>match i with | none=>aG a | some 0=>au (bJ expr [[]] [a]) fun k=>au (aH [41]) fun _=>gH expr f (aJ 7 [] 0 t [] [] k) | some _=>au nameP fun s=>gH expr f (aJ 9 s 0 t [] [] [a])) r=Q):=hid (by subst ht;exact hinv)
   have HLEN:=hid ow.tk.left
   have HF:=hid hf
   have vV:=hid ow
   have ze:=hid hwf
   have hsr:=ow.turn.size
   obtain⟨z4,hz0,hn0⟩:=ow.no
   obtain⟨k4,s4,n4,l4,o4,lI,n14,c14,lJ,n24,c24,nQ,n34,c34,rfl⟩:=hn0.shape'
   have O6:=hid hz0
   have VD:=hid (hn0.mono (G:=fun j=>(w.heap.size≤j∧j≠w.heap.size∧j≠w1.heap.size)∧j<wr.heap.size) (fun g hg h=>⟨h,hg⟩))
   have VE:=block_lt hz0
   have VW:=block_lt ow.res
   have HH:=hid (mX d wr bp B r ow.tk 7)
   rw [ht]at HH
   clear hinv hf ow hwf ht hz0 hn0
   go_wp2_with fail
   refine(HH.out).mono ?_
   rintro e w2 ⟨rfl,hb2⟩
   have hs2:=hb2.size
   have t2:=Turn.of_below (F:=fun k=>k=bp) hb2
   have jV:=hid (vV.out.tk.below hb2)
   have hz2:=ah O6.out t2 (by omega)
   have VX:=hid hz2
   have sQ:=hid (ah vV.out.res t2 (by omega))
   have OO:=hid (VD.out.turn t2 (fun g _ h e=>by have:=h.1.1;omega))
   have HT2:=hid (aA vV.out.turn t2)
   have hl12:=block_lt hz2
   obtain⟨e0,e1,e2,e3,e4,e5,e6,e7,ez⟩:=aN hz2
   have Kh:=hid (kY ((w2.alloc (.cells #[.int .i64 7, .string ⟨#[]⟩, .int .i64 0, .int .i64 (t.line:Nat), .int .i64 (t.col:Nat), .slice none 0 0, .slice none 0 0,(.slice (some ⟨w2.heap.size+1,0,none⟩) 1 1)] 49)).alloc (.cells #[.int .i64 k4,sv s4, .int .i64 n4, .int .i64 l4, .int .i64 o4, .slice lI n14 c14, .slice lJ n24 c24, .slice nQ n34 c34] 49)) bp B r d (jV.out.below (new2 _ _ _)) [[40],[46]] #[.string ⟨#[40]⟩, .string ⟨#[46]⟩] 9 2 (w2.heap.size+1+1))
   clear hb2 t2 hz2
   go_wp2_with fail
   refine(Kh.out).mono ?_
   rintro e w3 h3
   rcases hq:bS [[40],[46]] r with g | ⟨o,r3⟩
   ·exact(fG hq).elim
   ·obtain⟨v3,rfl,tn,rfl,kn⟩:=h3.aL hq
    obtain⟨tm,hs3,hnb,hpb⟩:=fZ tn
    have HT3:=hid (aA HT2.out tm)
    have jm:=hid kn
    have kG:=hid (hnb (by omega))
    have Ij:=hid (hpb (by omega))
    have Ii:=hid (ah VX.out tm (by omega))
    have iR:=hid (ah sQ.out tm (by omega))
    have AQ:=hid (OO.out.turn tm (fun g _ h e=>by have:=h.1.1;omega))
    have gU:=hid hq
    clear h3 tn tm kn hnb hpb hq e0 e1 e2 e3 e4 e5 e6 e7 ez
    rcases o with _ | i
    ·have fu:Hid (Pr.good a r3=Q):=hid ((aj gU.out).symm.trans HL.out)
     obtain⟨e0,e1,e2,e3,e4,e5,e6,e7,ez⟩:=aN Ii.out
     obtain⟨c0,c1,c2,c3,c4,c5,c6,c7,cz⟩:=aN iR.out
     go_wp2_with fail
     refine bodyPost_ret (aW rfl rfl (aP iR.out _ _ _ _ _ _ _ _) Tryz.underlying49 rfl (by kernel_rfl)) rfl ?_
     exact aD.done fu.out.symm (bC HT3.out (by omega)) ⟨_,rfl,(AQ.out.turn (aY _ _ _ _ _ _ _ _ _ _) (fun g _ h e=>by have:=h.1.2.1;omega)).mono (fun g _ h=>h.1.1)⟩ (jm.out.eY (by omega))
    ·have hi:=jN gU.out
     simp only [List.length_cons,List.length_nil]at hi
     have sP:=hid (xZ gU.out ze.out.pos)
     obtain rfl | rfl:i=0∨i=1:=by omega
     ·have fu:Hid (au (bJ expr [[]] [a]) (fun k=>au (aH [41]) fun _=>gH expr f (aJ 7 [] 0 t [] [] k)) r3=Q):=hid ((aj gU.out).symm.trans HL.out)
      have mV:=hid (show O5 (w2.heap.size+1) (fun j=>w.heap.size<j∧j≠w1.heap.size∧j≠w2.heap.size) w3 (.slice (some ⟨w2.heap.size+1,0,none⟩) 1 1) [a]from⟨_,Gb Ij.out (k:=8) rfl,uV rfl (AQ.out.mono (fun g _ h=>⟨fun e=>by injection e with e;have:=h.2;simp at e;omega,by have:=h.1;omega,by have:=h.1.2.2;omega,by have:=h.2;omega⟩))⟩)
      have sV:=hid (iU d expr yU (w3.alloc (.cells #[.string ⟨#[]⟩] 9)) bp B w2.heap.size (w2.heap.size+1) (fun j=>w.heap.size<j∧j≠w1.heap.size∧j≠w2.heap.size) r3 (jm.out.below (new1 _ _)) (.int .i64 7) (.string ⟨#[]⟩) (.int .i64 0) (.int .i64 (t.line:Nat)) (.int .i64 (t.col:Nat)) (.slice none 0 0) (.slice none 0 0) (.slice (some ⟨w2.heap.size+1,0,none⟩) 1 1) [a] (bB kG.out) (mV.out.turn aT (Turn.alloc (fun _=>False) w3 (.cells #[.string ⟨#[]⟩] 9)) (fun _ _=>id) (fun _ _ _=>id)) (.slice (some ⟨w3.heap.size,0,none⟩) 1 1) [[]] ((iA w3 #[.string ⟨#[]⟩] 9 1 1 rfl (by decide)).mono (fun g _ h=>⟨by omega,by omega,fun e=>by injection e with e;simp at e;omega⟩)) (by simp) (by simp) (by omega) (by omega) (by simp;omega) (by omega) (by omega) (fun j hj=>by simp at hj;omega))
      go_wp2_with fail
      refine(sV.out).mono ?_
      rintro e w5 h5
      rcases hq:bJ expr [[]] [a] r3 with g | ⟨ks,r5⟩
      ·obtain⟨rfl,tn,bn⟩:=h5.bF hq
       have hpo:∀j,Value.ownBlock (.slice (some ⟨w2.heap.size+1,0,none⟩) 1 1)=some j→j=w2.heap.size+1:=fun j e=>by injection e with e;exact e.symm
       have tn:=(bq tn).1
       have HB:=hid (dI.mk2 (HT3.out.trans tn (fun i hi e=>by rcases e with e | e | e;exact e;omega;(have:=hpo _ e;omega))) bn)
       have bY:=hid (fu.out.symm.trans (aB hq))
       clear h5 tn bn hq
       go_wp2_with fail
       exact⟨rfl,aD.fail bY.out HB.out⟩
      ·obtain⟨rfl,tn,⟨v5,hb5,F8⟩,kn⟩:=h5.aL hq
       have hpo:∀j,Value.ownBlock (.slice (some ⟨w2.heap.size+1,0,none⟩) 1 1)=some j→j=w2.heap.size+1:=fun j e=>by injection e with e;exact e.symm
       have tm:=(bq tn).1
       have hs5:=tm.size
       have fI:=hid (HT3.out.trans tm (fun i hi e=>by rcases e with e | e | e;exact e;omega;(have:=hpo _ e;omega)))
       have lQ:=hid kn
       have lU:=hid hb5
       have UF:=hid F8
       have MG:=hid (ah Ii.out tm (fun e=>by rcases e with e | e | e;omega;omega;(have:=hpo _ e;omega)))
       have iw:=hid (ah iR.out tm (fun e=>by rcases e with e | e | e;omega;omega;(have:=hpo _ e;omega)))
       have Ko:=hid ((Sf.kids hsf [[]] [a]).good jm.out.wf hq).2.length_le
       have gK:Hid (au (aH [41]) (fun _=>gH expr f (aJ 7 [] 0 t [] [] ks)) r5=Q):=hid ((aj hq).symm.trans fu.out)
       have HN:=hid (dM w5 bp B r5 d kn [41] 9 w5.heap.size)
       obtain⟨A5,c5,hv5, _, _⟩:=F8.shape
       subst hv5
       clear h5 tn tm kn hq hb5 F8 hpo
       go_wp2_with fail
       refine(HN.out).mono ?_
       rintro e w6 h6
       rcases hq:aH [41] r5 with g | ⟨u,r6⟩
       ·obtain⟨rfl,tn,bn⟩:=h6.bF hq
        have HB:=hid (dI.mk2 (aA fI.out tn) bn)
        have bY:=hid (gK.out.symm.trans (aB hq))
        clear h6 tn bn hq
        go_wp2_with fail
        exact⟨rfl,aD.fail bY.out HB.out⟩
       ·obtain⟨v6,rfl,tn, -,kn⟩:=h6.aL hq
        have lF:=hid (aA fI.out tn)
        have uX:=hid kn
        have zk:=ah lU.out tn (by omega)
        have Kk:=hid zk
        have AO:=hid (UF.out.turn aT tn (fun g hg e=>by have:=(UF.out.lt g hg).1;omega) (fun g _ hg e=>by have:=hg.1;omega))
        have Po:=ah MG.out tn (by omega)
        have Pp:=hid Po
        have mE:=hid (ah iw.out tn (by omega))
        have Si:=hid ((Sf.want [41]).good lQ.out.wf hq).2.length_le
        have VY:Hid (gH expr f (aJ 7 [] 0 t [] [] ks) r6=Q):=hid ((aj hq).symm.trans gK.out)
        obtain⟨f0,f1,f2,f3,f4,f5,f6,f7,fz⟩:=aN zk
        obtain⟨e0,e1,e2,e3,e4,e5,e6,e7,ez⟩:=aN Po
        clear h6 tn kn hq zk Po
        go_wp2_with fail
        obtain⟨xs,q1,q2⟩:=AO.out.sl aT
        have tF:=aY w6 w1.heap.size (.int .i64 7) (.string ⟨#[]⟩) (.int .i64 0) (.int .i64 (t.line:Nat)) (.int .i64 (t.col:Nat)) (.slice none 0 0) (.slice none 0 0) (.slice A5 ks.length c5)
        have hwx:=lF.out.size
        have CK:Gc w bp B w1.heap.size d (vS w6 w1.heap.size (.int .i64 7) (.string ⟨#[]⟩) (.int .i64 0) (.int .i64 (t.line:Nat)) (.int .i64 (t.col:Nat)) (.slice none 0 0) (.slice none 0 0) (.slice A5 ks.length c5)) (aJ 7 [] 0 t [] [] ks) r6:=
         ⟨bC lF.out (by omega),uX.out.eY (by omega),ah mE.out tF (by omega), _,aP Pp.out _ _ _ _ _ _ _ _, .mk (dh.nil _ _ _) .nil (dh.nil _ _ _) ((q1.turn tF (fun g _ h e=>by rcases h with h | h;omega;(have:=h.2.1;omega))).mono (fun g _ h=>by rcases h with h | h;omega;(have:=h.1;have:=h.2.1;omega))) (jA (dB aT (fun g _ h=>by rcases h with h | h;omega;(have:=h.1;have:=h.2.1;omega)) (bA aT tF (fun g _ h e=>by rcases h with h | h;omega;(have:=h.2.1;omega)) q2)))⟩
        go_roundw
        case rel=>exact⟨f, _,r6,VY.out,by have:=Ko.out;have:=Si.out;have:=sP.out;have:=HF.out;omega,CK⟩
        case measure=>rw [CK.tk.left,HLEN.out];have:=Ko.out;have:=Si.out;have:=sP.out;omega
     ·have fu:Hid (au nameP (fun s=>gH expr f (aJ 9 s 0 t [] [] [a])) r3=Q):=hid ((aj gU.out).symm.trans HL.out)
      have HN:=hid (eH w3 bp B r3 d jm.out)
      go_wp2_with fail
      refine(HN.out).mono ?_
      rintro e w5 h5
      rcases hq:nameP r3 with g | ⟨s,r5⟩
      ·obtain⟨rfl,tn,bn⟩:=h5.bF hq
       have HB:=hid (dI.mk2 (aA HT3.out tn) bn)
       have bY:=hid (fu.out.symm.trans (aB hq))
       clear h5 tn bn hq
       go_wp2_with fail
       exact⟨rfl,aD.fail bY.out HB.out⟩
      ·obtain⟨v5,rfl,tn,rfl,kn⟩:=h5.aL hq
       have hs5:=tn.size
       have fI:=hid (aA HT3.out tn)
       have kH:=ah kG.out tn (by omega)
       have Pq:=ah Ii.out tn (by omega)
       have Sj:=ah Ij.out tn (by omega)
       have Ko:=hid (Sf.name.good jm.out.wf hq).2.length_le
       have VY:Hid (gH expr f (aJ 9 s 0 t [] [] [a]) r5=Q):=hid ((aj hq).symm.trans fu.out)
       have Ji:=hid (AQ.out.turn tn (fun g _ h e=>by have:=h.1.1;omega))
       obtain⟨f0,f1,f2,f3,f4,f5,f6,f7,fz⟩:=aN kH
       obtain⟨e0,e1,e2,e3,e4,e5,e6,e7,ez⟩:=aN Pq
       have t6:=(ak w5 w2.heap.size 0 (.int .i64 9)).trans (ak _ w2.heap.size 1 (sv s)) (fun _ _ h=>h)
       have uX:=hid (kn.turn t6 (by omega) (fun k hk e=>by have:=jm.out.1;omega))
       have lF:=hid (fI.out.trans t6 (fun i hi e=>by omega))
       have Pp:=hid (ah Pq t6 (by omega))
       have Z0:=hid (gV (ah Sj t6 (by omega)) 8 1 rfl (by omega))
       have mE:=hid (ah (ah iR.out tn (by omega)) t6 (by omega))
       have MK:=hid (Ji.out.turn t6 (fun g _ h e=>by have:=h.2;omega))
       have Z4:¬w2.heap.size=w1.heap.size:=by omega
       have Z5:¬w1.heap.size=w2.heap.size:=by omega
       clear h5 tn kn hq kH Pq Sj t6
       go_wp2_with fail
       have tF:=aY ((w5.setCell ⟨w2.heap.size,0,none⟩ (.int .i64 9)).setCell ⟨w2.heap.size,1,none⟩ (sv s)) w1.heap.size (.int .i64 9) (sv s) (.int .i64 0) (.int .i64 (t.line:Nat)) (.int .i64 (t.col:Nat)) (.slice none 0 0) (.slice none 0 0) (.slice (some ⟨w2.heap.size+1,0,none⟩) 1 1)
       have hwx:=lF.out.size
       have CK:Gc w bp B w1.heap.size d (vS ((w5.setCell ⟨w2.heap.size,0,none⟩ (.int .i64 9)).setCell ⟨w2.heap.size,1,none⟩ (sv s)) w1.heap.size (.int .i64 9) (sv s) (.int .i64 0) (.int .i64 (t.line:Nat)) (.int .i64 (t.col:Nat)) (.slice none 0 0) (.slice none 0 0) (.slice (some ⟨w2.heap.size+1,0,none⟩) 1 1)) (aJ 9 s 0 t [] [] [a]) r5:=
        ⟨bC lF.out (by omega),uX.out.eY (by omega),ah mE.out tF (by omega), _,aP Pp.out _ _ _ _ _ _ _ _, .mk (dh.nil _ _ _) .nil (dh.nil _ _ _) ((Z0.out.turn tF (fun g _ h e=>by omega)).mono (fun g _ h=>by omega)) (.cons ((MK.out.turn tF (fun g _ h e=>by have:=h.1.2.2;omega)).mono (fun g _ h=>h.1)) .nil)⟩
       go_roundw
       case rel=>exact⟨f, _,r5,VY.out,by have:=Ko.out;have:=sP.out;have:=HF.out;omega,CK⟩
       case measure=>rw [CK.tk.left,HLEN.out];have:=Ko.out;have:=sP.out;omega
end Go.Proofs.YtmbppnbekkbibaaGreatDoor
end
section
set_option linter.unusedVariables false
namespace Go.Proofs.YtmbppnbekkbibaaGreatDoor
open Go.RowKit
def EL (pb nb base bp:Nat) (s:Bt) (t:aF) (w:World) (l:List bO):Prop:=
 w.heap[pb]? =some (.cells #[.pointer (some ⟨bp,0,none⟩)] 94 (0,0))∧∃v,w.heap[nb]? =some (.cells #[.int .i64 19,sv s, .int .i64 0, .int .i64 (t.line:Nat), .int .i64 (t.col:Nat),v, .slice none 0 0, .slice none 0 0] 49 (0,0))∧O4 base w v l
theorem EL.turn {pb nb base bp:Nat} {s:Bt} {t:aF} {w w':World} {l:List bO} (h:EL pb nb base bp s t w l) (tn:Turn (fun k=>k=bp) w w') (h1:bp<pb) (h2:bp<nb) (h3:bp<base):EL pb nb base bp s t w' l:=by
 obtain⟨hb,v,hn,hr⟩:=h
 exact⟨ah hb tn (by omega),v,ah hn tn (by omega),hr.turn aX tn (fun g hg e=>by have:=(hr.lt g hg).1;omega) (fun g _ hg e=>by omega)⟩
set_option maxRecDepth 100000 in
set_option maxHeartbeats 8000000 in
theorem EM (d:Int) (typ:Ps bO) (qR:sH d typ) (w:World) (bp B pb nb base:Nat) (s:Bt) (t:aF) (ts:List aF) (l:List bO) (hl:l.length≤8193) (h:bE w bp B ts d) (hI:EL pb nb base bp s t w l) (p1:bp<pb) (p2:bp<nb) (p3:pb<base) (p4:nb<base) (p5:pb≠nb) (p6:base≤w.heap.size):
  Calls Tryz.prog 218 #[.pointer (some ⟨nb,0,none⟩), .pointer (some ⟨pb,0,none⟩)] w (dw (EL pb nb base bp s t) (fun k=>k=bp∨k=nb∨base≤k) bp B d w (mQ typ l ts)):=by
 obtain⟨EN,vk,hblk,hrow⟩:=hI
 obtain⟨Ak,ck,hvk,hck,hmk⟩:=hrow.shape
 subst hvk
 have hbx:=bG EN
 obtain⟨Q,hQ⟩:∃Q,mQ typ l ts=Q:=⟨_,rfl⟩
 rw [hQ]
 have HQ:Hid (au typ (fun x=>aG (l++[x])) ts=Q):=hid hQ
 have HK:=hid h
 have dP:=hid hrow
 have uw:=hid hblk
 have Ik:=hid EN
 have e5:w.cell? ⟨nb,5,none⟩=some (.slice Ak l.length ck):=(cell_of_row _ _ _ _ _ _ hblk).trans rfl
 have PN:=hid (fun(w':World) (h:Turn (fun j=>j=bp∨base≤j) w w')=>aI e5 h (by omega))
 have PB:=hid (fun(w':World) (h:Turn (fun j=>j=bp∨base≤j) w w')=>aI hbx h (by omega))
 clear h hQ hrow hblk EN hbx e5
 go_enter Tryz.func218,Tryz.ntmps218
 have HD0:Hid (Turn (fun j=>j=bp∨base≤j) w w.drew):=hid ⟨rfl,rfl,rfl,Nat.le_refl _,fun _ _ _=>rfl⟩
 have jX:Hid (Turn (fun j=>j=bp) w w.drew):=hid ⟨rfl,rfl,rfl,Nat.le_refl _,fun _ _ _=>rfl⟩
 go_wp2_with fail
 refine bM (S:=fun w'=>Turn (fun j=>j=bp∨base≤j) w w') (x:=10) (by kernel_rfl) ?_
 try simp only [Act.put,List.getElem_toArray,List.getElem_cons_zero,List.getElem_cons_succ,List.setIfInBounds_toArray,List.set_cons_zero,List.set_cons_succ]
 refine tx 0 (.pointer (some ⟨nb,5,none⟩)) HD0.out ?_
 refine jW 1 (.slice Ak l.length ck) PN.out HD0.out ?_
 refine jW 2 (.pointer (some ⟨bp,0,none⟩)) PB.out HD0.out ?_
 refine tx 4 (.int .i64 (l.length:Int)) HD0.out ?_
 refine ay (rs:=[3,5]) (by kernel_rfl) (by simp) ?_
 refine av.cons rfl (fun K hK=> ?_) (av.cons rfl (fun K hK=> ?_) av.nil)
 ·have oP:=jX
  have zf:=hid (qR w.drew bp B ts HK.out)
  go_simp
  refine(zf.out).mono ?_
  rintro e oC h10
  rcases hq:typ ts with g | ⟨x,oh⟩
  ·obtain⟨rfl,tn,bn⟩:=h10.bF hq
   have tn:=oP.out.trans tn (fun _ _ h=>h)
   have bY:=hid (HQ.out.symm.trans (aB hq))
   exact⟨rfl,dw.fail bY.out (tn.mono fun _ _ h=> .inl h) bn⟩
  ·obtain⟨v10,rfl,tn,⟨z,rfl,hz⟩,kn⟩:=h10.aL hq
   obtain⟨kz,sz,kZ,lg,lq,lu,lC,lD,rfl⟩:=hz.shape'
   have jM:=hid (oP.out.trans tn (fun _ _ h=>h))
   have qU:=hid (jM.out.mono (G:=fun j=>j=bp∨base≤j) (fun _ _ h=> .inl h))
   have qV:=hid kn
   have Cy:=hid hq
   have HZ:=hid (aX.mono hz (G:=fun j=>w.heap.size≤j) (fun _ _ h=>Nat.le_trans oP.out.size h))
   clear h10 tn kn hq hz
   refine hK.out _ _ qU.out ?_
   clear hK K
   try simp only [Act.put,List.getElem_toArray,List.getElem_cons_zero,List.getElem_cons_succ,List.setIfInBounds_toArray,List.set_cons_zero,List.set_cons_succ]
   refine ay (rs:=[5]) (by kernel_rfl) (by simp) ?_
   refine av.cons rfl (fun K hK=> ?_) (av.nil)
   go_simp
   have je:=hid (jM.out.trans (Turn.alloc (fun j=>j=bp) oC (.cells #[.int .i64 0, .string ⟨#[]⟩, .slice none 0 0, .slice none 0 0] 63)) (fun _ _ h=>h))
   have OW:=hid (je.out.mono (G:=fun j=>j=bp∨base≤j) (fun _ _ h=> .inl h))
   have EC:=hid (aX.turn HZ.out (Turn.alloc (fun _=>False) oC (.cells #[.int .i64 0, .string ⟨#[]⟩, .slice none 0 0, .slice none 0 0] 63)) (fun _ _ _=>id))
   have nM:=hid (qV.out.below (new1 oC (.cells #[.int .i64 0, .string ⟨#[]⟩, .slice none 0 0, .slice none 0 0] 63)))
   have HSL:=hid (fD oC #[.int .i64 0, .string ⟨#[]⟩, .slice none 0 0, .slice none 0 0] 63 4 1 rfl (by decide))
   refine hK.out _ _ OW.out ?_
   clear hK K
   try simp only [Act.put,List.getElem_toArray,List.getElem_cons_zero,List.getElem_cons_succ,List.setIfInBounds_toArray,List.set_cons_zero,List.set_cons_succ]
   refine ay (rs:=[6]) (by kernel_rfl) (by simp) ?_
   refine av.cons rfl (fun K hK=> ?_) (av.nil)
   obtain⟨ys,hy,hr⟩:=dP.out
   have hyl:ys.length=l.length*4:=by have:=hy.1;simpa using this
   have oU:=hid (bT hy je.out (fun g hg e=>by have:=(hy.lt g hg).1;omega))
   refine dX rfl (.tmp 3) (.tmp 7) _ rfl base xP (.slice Ak l.length ck) _ rfl rfl oU.out HSL.out wK (by simp [maxLen];omega) (by simp;omega) (by have:=je.out.size;omega) (fun v7 w7 n7 aK fV dV=> ?_)
   have zN:n7=l.length+1:=by have:=aK.1;rw [List.length_append,hyl]at this;simp at this;omega
   subst zN
   obtain⟨g7,c7,rfl,hgb,hgs,OX,Ny⟩:=gB aK (by omega)
   have he:=fun w8=>pV aX (by omega) (cb:=nb) (ci:=5) hy hr je.out EC.out (by rfl) aK fV dV rfl (by omega) (F:=fun j=>base≤j) (by omega) (by omega) (fun j hj=>by omega) (by omega) w8
   simp only [List.length_map]at he
   have HE:=hid he
   have iM:=hid ((je.out.mono (G:=fun j=>j=bp∨base≤j) (fun _ _ h=> .inl h)).trans (Turn.bf fV (F:=fun j=>j=bp∨base≤j) (fun k e=> .inr (hy.lt k e).1)) (fun _ _ h=>h))
   have kP:=hid (nM.out.turn (Turn.bf fV (F:=fun j=>base≤j) (fun k e=>(hy.lt k e).1)) (by omega) (fun k hk e=>by have:=nM.out.1;omega))
   have gI:=ah uw.out iM.out (by omega)
   have ec:=(cell_of_row _ _ 5 _ _ _ gI).trans rfl
   have ez:=frozen_of_row _ _ 5 _ _ gI
   have o0:=aR aK rfl (i:=l.length*4) (u:= .int .i64 0) (by rw [List.getElem?_append_right (by omega),hyl,Nat.sub_self];rfl)
   have o1:=aR aK rfl (i:=l.length*4+1) (u:= .string ⟨#[]⟩) (by rw [List.getElem?_append_right (by omega),hyl,Nat.add_sub_cancel_left];rfl)
   have o2:=aR aK rfl (i:=l.length*4+2) (u:= .slice none 0 0) (by rw [List.getElem?_append_right (by omega),hyl,Nat.add_sub_cancel_left];rfl)
   have o3:=aR aK rfl (i:=l.length*4+3) (u:= .slice none 0 0) (by rw [List.getElem?_append_right (by omega),hyl,Nat.add_sub_cancel_left];rfl)
   obtain⟨o0,q0⟩:=o0
   obtain⟨o1,q1⟩:=o1
   obtain⟨o2,q2⟩:=o2
   obtain⟨o3,q3⟩:=o3
   have tK:=hid gI
   have hne1:¬g7=nb:=by omega
   have hne2:¬nb=g7:=by omega
   clear he aK fV dV gI hy hr
   refine hK.out _ _ iM.out ?_
   clear hK K
   try simp only [Act.put,List.getElem_toArray,List.getElem_cons_zero,List.getElem_cons_succ,List.setIfInBounds_toArray,List.set_cons_zero,List.set_cons_succ]
   refine tt 7 (.pointer (some ⟨g7,l.length*4,none⟩)) (fun _=>iM.out) (hy:=by intro w' hSw;go_simp <;> (intro h;omega)) ?_
   refine tt 9 (.pointer (some ⟨nb,5,none⟩)) (fun _=>iM.out) ?_
   refine ay (rs:=[8,10]) (by kernel_rfl) (by simp) ?_
   refine av.cons rfl (fun K hK=> ?_) (av.past rfl (by kernel_rfl) (fun K hK=> ?_) av.nil)
   ·go_simp
    have om:=hid (iM.out.trans (dY g7 [.int .i64 kz,sv sz, .slice kZ lg lq, .slice lu lC lD] w7 (l.length*4)) (fun _ _ h=> .inr (by omega)))
    refine hK.out _ _ om.out ?_
    clear hK K
    try simp only [Act.put,List.getElem_toArray,List.getElem_cons_zero,List.getElem_cons_succ,List.setIfInBounds_toArray,List.set_cons_zero,List.set_cons_succ]
    refine ay (rs:=[10]) (by kernel_rfl) (by simp) ?_
    refine av.past rfl (by kernel_rfl) (fun K hK=> ?_) (av.nil)
    go_simp
    refine hK.out _ _ ?_
    clear hK K
    try simp only [Act.put,List.getElem_toArray,List.getElem_cons_zero,List.getElem_cons_succ,List.setIfInBounds_toArray,List.set_cons_zero,List.set_cons_succ]
    refine aO (by kernel_rfl) ?_ _
    obtain⟨fA,t68,t78,mD,nP⟩:=HE.out ((jK w7 g7 (l.length*4) [.int .i64 kz,sv sz, .slice kZ lg lq, .slice lu lC lD]).setCell ⟨nb,5,none⟩ (.slice (some ⟨g7,0,none⟩) (l.length+1) c7)) (.inl rfl)
    have iH:=mD _ _ tK.out
    have oD:=kP.out.turn t78 (fun e=>by rcases e with e | e <;> omega) (fun k hk e=>by have:=nM.out.1;rcases e with e | e <;> omega)
    have hlo:=dP.out.lt
    have xY:Hid (Pr.good (l++[x]) oh=Q):=hid ((aj Cy.out).symm.trans HQ.out)
    go_wp2_with fail
    go_end0
    have nR:=(je.out.mono (G:=fun k=>k=bp∨k=nb∨base≤k) (fun _ _ h=> .inl h)).trans t68 (fun i hi e=>by rcases e with e | e;exact .inr (.inr (hlo i e).1);exact .inr (.inl e))
    exact dw.done xY.out.symm nR ⟨ah Ik.out nR (by omega), _,iH,fA⟩ oD
   ·go_simp
    refine hK.out _ _ ?_
    clear hK K
    try simp only [Act.put,List.getElem_toArray,List.getElem_cons_zero,List.getElem_cons_succ,List.setIfInBounds_toArray,List.set_cons_zero,List.set_cons_succ]
    refine ay (rs:=[8]) (by kernel_rfl) (by simp) ?_
    refine av.past rfl (by kernel_rfl) (fun K hK=> ?_) (av.nil)
    go_simp
    refine hK.out _ _ ?_
    clear hK K
    try simp only [Act.put,List.getElem_toArray,List.getElem_cons_zero,List.getElem_cons_succ,List.setIfInBounds_toArray,List.set_cons_zero,List.set_cons_succ]
    refine aO (by kernel_rfl) ?_ _
    obtain⟨fA,t68,t78,mD,nP⟩:=HE.out (jK (w7.setCell ⟨nb,5,none⟩ (.slice (some ⟨g7,0,none⟩) (l.length+1) c7)) g7 (l.length*4) [.int .i64 kz,sv sz, .slice kZ lg lq, .slice lu lC lD]) (.inr rfl)
    have iH:=mD _ _ tK.out
    have oD:=kP.out.turn t78 (fun e=>by rcases e with e | e <;> omega) (fun k hk e=>by have:=nM.out.1;rcases e with e | e <;> omega)
    have hlo:=dP.out.lt
    have xY:Hid (Pr.good (l++[x]) oh=Q):=hid ((aj Cy.out).symm.trans HQ.out)
    go_wp2_with fail
    go_end0
    have nR:=(je.out.mono (G:=fun k=>k=bp∨k=nb∨base≤k) (fun _ _ h=> .inl h)).trans t68 (fun i hi e=>by rcases e with e | e;exact .inr (.inr (hlo i e).1);exact .inr (.inl e))
    exact dw.done xY.out.symm nR ⟨ah Ik.out nR (by omega), _,iH,fA⟩ oD
 ·skip
  go_simp
  have ED:=hid (HD0.out.trans (Turn.alloc (fun j=>j=bp∨base≤j) w.drew (.cells #[.int .i64 0, .string ⟨#[]⟩, .slice none 0 0, .slice none 0 0] 63)) (fun _ _ h=>h))
  have zf:=hid (qR _ bp B ts (bE.below (w:=w.drew) HK.out (new1 w.drew (.cells #[.int .i64 0, .string ⟨#[]⟩, .slice none 0 0, .slice none 0 0] 63))))
  have oP:=hid (jX.out.trans (Turn.alloc (fun j=>j=bp) w.drew (.cells #[.int .i64 0, .string ⟨#[]⟩, .slice none 0 0, .slice none 0 0] 63)) (fun _ _ h=>h))
  refine hK.out _ _ ED.out ?_
  clear hK K
  try simp only [Act.put,List.getElem_toArray,List.getElem_cons_zero,List.getElem_cons_succ,List.setIfInBounds_toArray,List.set_cons_zero,List.set_cons_succ]
  refine ay (rs:=[3]) (by kernel_rfl) (by simp) ?_
  refine av.cons rfl (fun K hK=> ?_) (av.nil)
  go_simp
  refine(zf.out).mono ?_
  rintro e oC h10
  rcases hq:typ ts with g | ⟨x,oh⟩
  ·obtain⟨rfl,tn,bn⟩:=h10.bF hq
   have tn:=oP.out.trans tn (fun _ _ h=>h)
   have bY:=hid (HQ.out.symm.trans (aB hq))
   exact⟨rfl,dw.fail bY.out (tn.mono fun _ _ h=> .inl h) bn⟩
  ·obtain⟨v10,rfl,tn,⟨z,rfl,hz⟩,kn⟩:=h10.aL hq
   obtain⟨kz,sz,kZ,lg,lq,lu,lC,lD,rfl⟩:=hz.shape'
   have jM:=hid (oP.out.trans tn (fun _ _ h=>h))
   have qU:=hid (jM.out.mono (G:=fun j=>j=bp∨base≤j) (fun _ _ h=> .inl h))
   have qV:=hid kn
   have Cy:=hid hq
   have HZ:=hid (aX.mono hz (G:=fun j=>w.heap.size≤j) (fun _ _ h=>Nat.le_trans oP.out.size h))
   have je:=jM
   have EC:=HZ
   have nM:=qV
   have HSL:=hid (lZ w.drew #[.int .i64 0, .string ⟨#[]⟩, .slice none 0 0, .slice none 0 0] 63 4 1 rfl (by decide) tn (by have hs:w.drew.heap.size=w.heap.size:=rfl;omega))
   clear h10 tn kn hq hz
   refine hK.out _ _ qU.out ?_
   clear hK K
   try simp only [Act.put,List.getElem_toArray,List.getElem_cons_zero,List.getElem_cons_succ,List.setIfInBounds_toArray,List.set_cons_zero,List.set_cons_succ]
   refine ay (rs:=[6]) (by kernel_rfl) (by simp) ?_
   refine av.cons rfl (fun K hK=> ?_) (av.nil)
   obtain⟨ys,hy,hr⟩:=dP.out
   have hyl:ys.length=l.length*4:=by have:=hy.1;simpa using this
   have oU:=hid (bT hy je.out (fun g hg e=>by have:=(hy.lt g hg).1;omega))
   refine dX rfl (.tmp 3) (.tmp 7) _ rfl base xP (.slice Ak l.length ck) _ rfl rfl oU.out HSL.out wK (by simp [maxLen];omega) (by simp;omega) (by have:=je.out.size;omega) (fun v7 w7 n7 aK fV dV=> ?_)
   have zN:n7=l.length+1:=by have:=aK.1;rw [List.length_append,hyl]at this;simp at this;omega
   subst zN
   obtain⟨g7,c7,rfl,hgb,hgs,OX,Ny⟩:=gB aK (by omega)
   have he:=fun w8=>pV aX (by omega) (cb:=nb) (ci:=5) hy hr je.out EC.out (by rfl) aK fV dV rfl (by omega) (F:=fun j=>base≤j) (by omega) (by omega) (fun j hj=>by omega) (by omega) w8
   simp only [List.length_map]at he
   have HE:=hid he
   have iM:=hid ((je.out.mono (G:=fun j=>j=bp∨base≤j) (fun _ _ h=> .inl h)).trans (Turn.bf fV (F:=fun j=>j=bp∨base≤j) (fun k e=> .inr (hy.lt k e).1)) (fun _ _ h=>h))
   have kP:=hid (nM.out.turn (Turn.bf fV (F:=fun j=>base≤j) (fun k e=>(hy.lt k e).1)) (by omega) (fun k hk e=>by have:=nM.out.1;omega))
   have gI:=ah uw.out iM.out (by omega)
   have ec:=(cell_of_row _ _ 5 _ _ _ gI).trans rfl
   have ez:=frozen_of_row _ _ 5 _ _ gI
   have o0:=aR aK rfl (i:=l.length*4) (u:= .int .i64 0) (by rw [List.getElem?_append_right (by omega),hyl,Nat.sub_self];rfl)
   have o1:=aR aK rfl (i:=l.length*4+1) (u:= .string ⟨#[]⟩) (by rw [List.getElem?_append_right (by omega),hyl,Nat.add_sub_cancel_left];rfl)
   have o2:=aR aK rfl (i:=l.length*4+2) (u:= .slice none 0 0) (by rw [List.getElem?_append_right (by omega),hyl,Nat.add_sub_cancel_left];rfl)
   have o3:=aR aK rfl (i:=l.length*4+3) (u:= .slice none 0 0) (by rw [List.getElem?_append_right (by omega),hyl,Nat.add_sub_cancel_left];rfl)
   obtain⟨o0,q0⟩:=o0
   obtain⟨o1,q1⟩:=o1
   obtain⟨o2,q2⟩:=o2
   obtain⟨o3,q3⟩:=o3
   have tK:=hid gI
   have hne1:¬g7=nb:=by omega
   have hne2:¬nb=g7:=by omega
   clear he aK fV dV gI hy hr
   refine hK.out _ _ iM.out ?_
   clear hK K
   try simp only [Act.put,List.getElem_toArray,List.getElem_cons_zero,List.getElem_cons_succ,List.setIfInBounds_toArray,List.set_cons_zero,List.set_cons_succ]
   refine tt 7 (.pointer (some ⟨g7,l.length*4,none⟩)) (fun _=>iM.out) (hy:=by intro w' hSw;go_simp <;> (intro h;omega)) ?_
   refine tt 9 (.pointer (some ⟨nb,5,none⟩)) (fun _=>iM.out) ?_
   refine ay (rs:=[8,10]) (by kernel_rfl) (by simp) ?_
   refine av.cons rfl (fun K hK=> ?_) (av.past rfl (by kernel_rfl) (fun K hK=> ?_) av.nil)
   ·go_simp
    have om:=hid (iM.out.trans (dY g7 [.int .i64 kz,sv sz, .slice kZ lg lq, .slice lu lC lD] w7 (l.length*4)) (fun _ _ h=> .inr (by omega)))
    refine hK.out _ _ om.out ?_
    clear hK K
    try simp only [Act.put,List.getElem_toArray,List.getElem_cons_zero,List.getElem_cons_succ,List.setIfInBounds_toArray,List.set_cons_zero,List.set_cons_succ]
    refine ay (rs:=[10]) (by kernel_rfl) (by simp) ?_
    refine av.past rfl (by kernel_rfl) (fun K hK=> ?_) (av.nil)
    go_simp
    refine hK.out _ _ ?_
    clear hK K
    try simp only [Act.put,List.getElem_toArray,List.getElem_cons_zero,List.getElem_cons_succ,List.setIfInBounds_toArray,List.set_cons_zero,List.set_cons_succ]
    refine aO (by kernel_rfl) ?_ _
    obtain⟨fA,t68,t78,mD,nP⟩:=HE.out ((jK w7 g7 (l.length*4) [.int .i64 kz,sv sz, .slice kZ lg lq, .slice lu lC lD]).setCell ⟨nb,5,none⟩ (.slice (some ⟨g7,0,none⟩) (l.length+1) c7)) (.inl rfl)
    have iH:=mD _ _ tK.out
    have oD:=kP.out.turn t78 (fun e=>by rcases e with e | e <;> omega) (fun k hk e=>by have:=nM.out.1;rcases e with e | e <;> omega)
    have hlo:=dP.out.lt
    have xY:Hid (Pr.good (l++[x]) oh=Q):=hid ((aj Cy.out).symm.trans HQ.out)
    go_wp2_with fail
    go_end0
    have nR:=(je.out.mono (G:=fun k=>k=bp∨k=nb∨base≤k) (fun _ _ h=> .inl h)).trans t68 (fun i hi e=>by rcases e with e | e;exact .inr (.inr (hlo i e).1);exact .inr (.inl e))
    exact dw.done xY.out.symm nR ⟨ah Ik.out nR (by omega), _,iH,fA⟩ oD
   ·go_simp
    refine hK.out _ _ ?_
    clear hK K
    try simp only [Act.put,List.getElem_toArray,List.getElem_cons_zero,List.getElem_cons_succ,List.setIfInBounds_toArray,List.set_cons_zero,List.set_cons_succ]
    refine ay (rs:=[8]) (by kernel_rfl) (by simp) ?_
    refine av.past rfl (by kernel_rfl) (fun K hK=> ?_) (av.nil)
    go_simp
    refine hK.out _ _ ?_
    clear hK K
    try simp only [Act.put,List.getElem_toArray,List.getElem_cons_zero,List.getElem_cons_succ,List.setIfInBounds_toArray,List.set_cons_zero,List.set_cons_succ]
    refine aO (by kernel_rfl) ?_ _
    obtain⟨fA,t68,t78,mD,nP⟩:=HE.out (jK (w7.setCell ⟨nb,5,none⟩ (.slice (some ⟨g7,0,none⟩) (l.length+1) c7)) g7 (l.length*4) [.int .i64 kz,sv sz, .slice kZ lg lq, .slice lu lC lD]) (.inr rfl)
    have iH:=mD _ _ tK.out
    have oD:=kP.out.turn t78 (fun e=>by rcases e with e | e <;> omega) (fun k hk e=>by have:=nM.out.1;rcases e with e | e <;> omega)
    have hlo:=dP.out.lt
    have xY:Hid (Pr.good (l++[x]) oh=Q):=hid ((aj Cy.out).symm.trans HQ.out)
    go_wp2_with fail
    go_end0
    have nR:=(je.out.mono (G:=fun k=>k=bp∨k=nb∨base≤k) (fun _ _ h=> .inl h)).trans t68 (fun i hi e=>by rcases e with e | e;exact .inr (.inr (hlo i e).1);exact .inr (.inl e))
    exact dw.done xY.out.symm nR ⟨ah Ik.out nR (by omega), _,iH,fA⟩ oD
set_option maxRecDepth 100000 in
set_option maxHeartbeats 8000000 in
theorem EO (d:Int) (typ:Ps bO) (hsf:Sf typ) (qR:sH d typ) (w:World) (bp B:Nat) (ts:List aF) (h:bE w bp B ts d) (t:aF):
  Calls Tryz.prog 201 #[.pointer (some ⟨bp,0,none⟩), .agg (mW 0 t)] w (aD (JX w.heap.size) bp B d w (j4 typ t ts)):=by
 have hlt:=h.lt
 have hB:=h.1
 obtain⟨Q,hQ⟩:∃Q,j4 typ t ts=Q:=⟨_,rfl⟩
 rw [hQ]
 have HQ:Hid (au nameP (fun s=>au (dN [91]) fun b=>if b then au (iG typ) fun l=>au (aH [93]) fun _=>aG (aJ 19 s 0 t l [] [])else aG (aJ 4 s 0 t [] [] [])) ts=Q):=hid hQ
 have HN:=hid (eH (((w.alloc (.cells #[.pointer (some ⟨bp,0,none⟩)] 94)).alloc (.cells (mW 0 t) 49)).alloc (.cells #[.int .i64 0, .string ⟨#[]⟩, .int .i64 0, .int .i64 0, .int .i64 0, .slice none 0 0, .slice none 0 0, .slice none 0 0] 49)) bp B ts d (h.below (RL _ _ _ _)))
 clear h hQ
 go_enter Tryz.func201,Tryz.ntmps201
 go_wp2_with fail
 refine(HN.out).mono ?_
 rintro e w1 h1
 rcases hq:nameP ts with g | ⟨s,r1⟩
 ·obtain⟨rfl,tn,bn⟩:=h1.bF hq
  have tn:=(uf tn).1
  have HB:=hid (dI.mk2 tn bn)
  have bY:=hid (HQ.out.symm.trans (aB hq))
  clear h1 tn bn hq
  go_wp2_with fail
  exact⟨rfl,aD.fail bY.out HB.out⟩
 ·obtain⟨v1,rfl,tn,rfl,kn⟩:=h1.aL hq
  obtain⟨tm,hs1,hbx,hnb,hrs⟩:=uf tn
  have HT1:=hid tm
  have nN:=hid (hbx (by omega))
  have Pt:=hnb (by omega)
  have lS:=hid (hrs (by omega))
  have kF:Hid (au (dN [91]) (fun b=>if b then au (iG typ) fun l=>au (aH [93]) fun _=>aG (aJ 19 s 0 t l [] [])else aG (aJ 4 s 0 t [] [] [])) r1=Q):=hid ((aj hq).symm.trans HQ.out)
  have t2:=(ak w1 (w.heap.size+1) 0 (.int .i64 4)).trans (ak _ (w.heap.size+1) 1 (sv s)) (fun _ _ h=>h)
  have Sk:=heap_setCell_same _ _ 1 _ _ (sv s) (heap_setCell_same _ _ 0 _ _ (.int .i64 4) Pt)
  have jV:=hid (kn.turn t2 (by omega) (fun k hk e=>by omega))
  have EF:=hid (ah nN.out t2 (by omega))
  have sQ:=hid (ah lS.out t2 (by omega))
  have VZ:=hid (show((w1.setCell ⟨w.heap.size+1,0,none⟩ (.int .i64 4)).setCell ⟨w.heap.size+1,1,none⟩ (sv s)).heap[w.heap.size+1]? =some (.cells #[.int .i64 4,sv s, .int .i64 0, .int .i64 (t.line:Nat), .int .i64 (t.col:Nat), .slice none 0 0, .slice none 0 0, .slice none 0 0] 49 (0,0))from Sk)
  have HT2:=hid (HT1.out.trans t2 (fun i hi e=>by omega))
  have hw2:=t2.size
  have HH:=hid (iX _ bp B r1 d jV.out [91])
  obtain⟨m0,m1,m2,m3,m4,m5,m6,m7,mz⟩:=aN Pt
  have hb1:=bG nN.out
  have Z6:¬w.heap.size+1=w.heap.size:=by omega
  have Z7:¬w.heap.size=w.heap.size+1:=by omega
  clear h1 tn tm kn hbx hnb hrs hq Pt t2 Sk
  go_wp2_with fail
  generalize(w1.setCell ⟨w.heap.size+1,0,none⟩ (.int .i64 4)).setCell ⟨w.heap.size+1,1,none⟩ (.string ⟨s.toArray⟩)=W2 at*
  refine(HH.out).mono ?_
  rintro e w3 h3
  rcases hq:dN [91] r1 with g | ⟨b,r3⟩
  ·exact(fP hq).elim
  ·obtain⟨v3,rfl,tn,rfl,kn⟩:=h3.aL hq
   have hs3:=tn.size
   have HT3:=hid (aA HT2.out tn)
   have jm:=hid kn
   have Pv:=ah EF.out tn (by omega)
   have oW:=hid Pv
   have iR:=hid (ah sQ.out tn (by omega))
   have sS:=ah VZ.out tn (by omega)
   have kG:=hid sS
   have gU:=hid hq
   obtain⟨m0,m1,m2,m3,m4,m5,m6,m7,mz⟩:=aN sS
   have hb3:=bG Pv
   clear h3 tn kn hq sS Pv
   cases b
   ·have fu:Hid (Pr.good (aJ 4 s 0 t [] [] []) r3=Q):=hid ((aj gU.out).symm.trans kF.out)
    obtain⟨c0,c1,c2,c3,c4,c5,c6,c7,cz⟩:=aN iR.out
    go_wp2_with fail
    refine bodyPost_ret (aW rfl rfl (aP iR.out _ _ _ _ _ _ _ _) Tryz.underlying49 rfl (by kernel_rfl)) rfl ?_
    exact aD.done fu.out.symm (bC HT3.out (by omega)) ⟨_,rfl, .mk (dh.nil _ _ _) .nil (dh.nil _ _ _) (dh.nil _ _ _) .nil⟩ (jm.out.eY (by omega))
   ·have fu:Hid (au (iG typ) (fun l=>au (aH [93]) fun _=>aG (aJ 19 s 0 t l [] [])) r3=Q):=hid ((aj gU.out).symm.trans kF.out)
    have LZ:∀(fn:Fn) (first cap:Array Value) (w:World),(Instr.makeFunc fn first cap).run Tryz.prog w= .ok (.func fn first cap) w:=fun _ _ _ _=>rfl
    have t4:=ak w3 (w.heap.size+1) 0 (.int .i64 19)
    have hk4:=jm.out.turn t4 (by omega) (fun k hk e=>by omega)
    have YD:EL w.heap.size (w.heap.size+1) (w.heap.size+3) bp s t (w3.setCell ⟨w.heap.size+1,0,none⟩ (.int .i64 19)) []:=⟨ah oW.out t4 (by omega), _,heap_setCell_same _ _ 0 _ _ _ kG.out,fF.nil _ _ _ _ _ _⟩
    have fM:=hid (HT3.out.trans t4 (fun i hi e=>by omega))
    have hs4:=t4.size
    have ig:=hid (ah iR.out t4 (by omega))
    have J4:=hid (jl typ hsf 218 #[.pointer (some ⟨w.heap.size+1,0,none⟩), .pointer (some ⟨w.heap.size,0,none⟩)] (EL w.heap.size (w.heap.size+1) (w.heap.size+3) bp s t) (fun k=>k=bp∨k=w.heap.size+1∨w.heap.size+3≤k) d _ bp B r3 (.inl rfl)
     (fun a b l tn h=>h.turn tn (by omega) (by omega) (by omega)) (fun g h=> .inr (.inr (by omega)))
     (fun w1 r l hl hw hi hk=>EM d typ qR w1 bp B _ _ _ s t r l hl hk hi (by omega) (by omega) (by omega) (by omega) (by omega) (by omega)) (fun _=>by kernel_rfl) hk4 YD)
    clear t4 hk4 YD
    go_wp2_with fail
    refine(J4.out).mono ?_
    rintro e w5 h5
    rcases hq:iG typ r3 with g | ⟨l,r5⟩
    ·obtain⟨rfl,tn,bn⟩:=h5.bF hq
     have HB:=hid (dI.mk2 (fM.out.trans tn (fun i hi e=>by rcases e with e | e | e <;> omega)) bn)
     have bY:=hid (fu.out.symm.trans (aB hq))
     clear h5 tn bn hq
     go_wp2_with fail
     exact⟨rfl,aD.fail bY.out HB.out⟩
    ·obtain⟨rfl,tn,Kq,kn⟩:=h5.aL hq
     have hs5:=tn.size
     have fI:=hid (fM.out.trans tn (fun i hi e=>by rcases e with e | e | e <;> omega))
     have iw:=hid (ah ig.out tn (by omega))
     have Jj:=hid Kq
     have lQ:=hid kn
     have hb5:=bG Kq.1
     have gK:Hid (au (aH [93]) (fun _=>aG (aJ 19 s 0 t l [] [])) r5=Q):=hid ((aj hq).symm.trans fu.out)
     have Ji:=hid (dM w5 bp B r5 d kn [93] 9 w5.heap.size)
     clear h5 tn Kq kn hq
     go_wp2_with fail
     refine(Ji.out).mono ?_
     rintro e w6 h6
     rcases hq:aH [93] r5 with g | ⟨u,r6⟩
     ·obtain⟨rfl,tn,bn⟩:=h6.bF hq
      have HB:=hid (dI.mk2 (aA fI.out tn) bn)
      have bY:=hid (gK.out.symm.trans (aB hq))
      clear h6 tn bn hq
      go_wp2_with fail
      exact⟨rfl,aD.fail bY.out HB.out⟩
     ·obtain⟨v6,rfl,tn, -,kn⟩:=h6.aL hq
      have lF:=hid (aA fI.out tn)
      have uX:=hid kn
      have mE:=hid (ah iw.out tn (by omega))
      have rD:Hid (Pr.good (aJ 19 s 0 t l [] []) r6=Q):=hid ((aj hq).symm.trans gK.out)
      obtain⟨_,v,Md,Gd⟩:=Jj.out.turn tn (by omega) (by omega) (by omega)
      obtain⟨A6,Z8,hv6, _, _⟩:=Gd.shape
      subst hv6
      have AO:=hid Gd
      obtain⟨f0,f1,f2,f3,f4,f5,f6,f7,fz⟩:=aN Md
      clear h6 tn kn hq Md Gd
      obtain⟨c0,c1,c2,c3,c4,c5,c6,c7,cz⟩:=aN mE.out
      go_wp2_with fail
      refine bodyPost_ret (aW rfl rfl (aP mE.out _ _ _ _ _ _ _ _) Tryz.underlying49 rfl (by kernel_rfl)) rfl ?_
      obtain⟨xs,q1,q2⟩:=AO.out.sl aX
      have tF:=aY w6 (w.heap.size+1+1) (.int .i64 19) (sv s) (.int .i64 0) (.int .i64 (t.line:Nat)) (.int .i64 (t.col:Nat)) (.slice A6 l.length Z8) (.slice none 0 0) (.slice none 0 0)
      exact aD.done rD.out.symm (bC lF.out (by omega)) ⟨_,rfl, .mk ((q1.turn tF (fun g _ h e=>by rcases h with h | h <;> omega)).mono (fun g _ h=>by rcases h with h | h <;> omega)) (nK (dB aX (fun g _ h=>by rcases h with h | h <;> omega) (bA aX tF (fun g _ h e=>by rcases h with h | h <;> omega) q2))) (dh.nil _ _ _) (dh.nil _ _ _) .nil⟩ (uX.out.eY (by omega))
end Go.Proofs.YtmbppnbekkbibaaGreatDoor
end
