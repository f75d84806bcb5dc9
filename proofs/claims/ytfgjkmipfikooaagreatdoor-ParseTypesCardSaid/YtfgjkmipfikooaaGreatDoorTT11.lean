/- FT, IG, WHP, FU, FV -/
import Derived.Test.YtfgjkmipfikooaaGreatDoorTTQ
import Derived.Test.YtfgjkmipfikooaaGreatDoorTT10
import Derived.Test.YtfgjkmipfikooaaGreatDoorTT05
import Derived.Test.YtfgjkmipfikooaaGreatDoorTT03
set_option linter.unusedSimpArgs false
set_option linter.unusedVariables false
set_option maxRecDepth 100000
set_option maxHeartbeats 8000000
namespace Go.Proofs.YtfgjkmipfikooaaGreatDoor
open Go.RowKit
def R9 (d:Int) (p:Ps bX):Prop:=∀(w:World) (bp B:Nat) (ts:List aD),bK w bp B ts d→
 Calls Tryz.prog 198 #[.pointer (some ⟨bp,0,none⟩)] w (aF (LW w.heap.size) bp B d w (p ts))
theorem Gt (d:Int) (h0:0≤d) (h1:d<100) (typ:Ps bT) (expr unary:Ps bX) (HU:vL (d+1) unary) (HPO:R9 (d+1) (qZ typ expr)):vL d (vg typ expr unary):=by
 intro w bp B ts h;have hlt:=h.lt;have hB:=h.1;obtain⟨Q,hQ⟩:∃Q,vg typ expr unary ts=Q:=⟨_,rfl⟩
 rw [hQ];obtain⟨t0,ht0⟩:∃t0,aQ ts=t0:=⟨_,rfl⟩
 have HQ:Hid (aj (cK [[45],[110,111,116]]) (fun i=>match i with | none=>qZ typ expr | some 0=>aj unary fun x=>aG (aK 16 [] 0 t0 [] [] [x]) | some _=>aj unary fun x=>aG (aK 15 [] 0 t0 [] [] [x])) ts=Q):=hid (by subst ht0;exact hQ);have HE:=hid (vB (w.alloc (.cells #[.int .i64 0, .string ⟨#[]⟩, .int .i64 0, .int .i64 0, .int .i64 0, .slice none 0 0, .slice none 0 0, .slice none 0 0] 52)) bp B ts d (h.below (new1 _ _)) h0 h1);clear h hQ
 go_enter_defers Tryz.func163,Tryz.ntmps163
 go_wp2_with fail;refine(HE.out).mono ?_;rintro e w1 ⟨rfl,tn,hbx,hk⟩;obtain⟨tm,hsz,hrs⟩:=bH tn;simp at hbx;have hxb:=World.block_lt_of_cell? _ _ hbx;simp at hxb;have mq:=hid (hrs (by omega));have HT1:=hid tm;have jP:=hid hk;have oJ:=hid hbx;have HH:=hid (nQ (d+1) w1 bp B ts hk 0);rw [ht0]at HH;clear tn tm hrs hk hbx ht0;go_wp2_with fail;refine(HH.out).mono ?_;rintro e w2 ⟨rfl,hb2⟩;have hs2:=hb2.size;have t2:=Turn.of_below (F:=fun k=>k=bp) hb2;have HT2:=hid (aA HT1.out t2);have iR:=hid (jP.out.below hb2);have Gj:=hid (aH oJ.out t2 (by omega));have uJ:=hid (ah mq.out t2 (by omega));have HC:=hid (lV (w2.alloc (.cells (nP 0 t0) 52)) bp B ts (d+1) (iR.out.below (new1 _ _)) [[45],[110,111,116]] #[.string ⟨#[45]⟩, .string ⟨#[110,111,116]⟩] 9 2 (w2.heap.size+1));clear hb2 t2;go_wp2_with fail;refine(HC.out).mono ?_;rintro e w3 h3;rcases hq:cK [[45],[110,111,116]] ts with g | ⟨o,r3⟩
 ·exact(gB hq).elim
 ·obtain⟨v3,rfl,tn,rfl,kn⟩:=h3.aL hq;obtain⟨tm,hs3,hnb⟩:=bH tn;have HT3:=hid (aA HT2.out tm);have iM:=hid kn;have qy:=hid (aH Gj.out tm (by omega));have jf:=hid (ah uJ.out tm (by omega));have lu:=hid (hnb (by omega));have gQ:=hid hq;have Uq:¬w2.heap.size=w.heap.size:=by omega
  have Ur:¬w.heap.size=w2.heap.size:=by omega
  clear h3 tn tm kn hnb hq;rcases o with _ | i
  ·have fV:Hid (qZ typ expr r3=Q):=hid ((au gQ.out).symm.trans HQ.out);have HP:=hid (HPO w3 bp B r3 iM.out);go_wp2_with fail;refine(HP.out).mono ?_;rintro e w4 h4;rcases hq:qZ typ expr r3 with g | ⟨x,r4⟩
   ·obtain⟨rfl,tn,bn⟩:=h4.bM hq;have oK:=hid (aA HT3.out tn);have dG:=hid (fV.out.symm.trans hq);have hxo:=aH qy.out tn (by omega);have nk:=hid bn;clear h4 tn bn hq;go_wp2_with fail;exact iI nk.out hxo oK.out dG.out
   ·obtain⟨v4,rfl,tn,⟨z4,rfl,hz⟩,kn⟩:=h4.aL hq;obtain⟨k4,s4,n4,l4,o4,mg,n14,c14,mh,n24,c24,oO,n34,c34,rfl⟩:=hz.shape';have hs4:=tn.size;have fP:=hid (aA HT3.out tn);have jH:=hid kn;have sM:=hid (aH qy.out tn (by omega));have iD:=hid (ah jf.out tn (by omega));have uV:=hid hz.iv;have gN:=hid (fV.out.symm.trans hq);obtain⟨c0,c1,c2,c3,c4,c5,c6,c7,cz⟩:=aT iD.out;clear h4 tn hz kn hq;go_wp2_with fail;have tF:=bB w4 w.heap.size (.int .i64 k4) (sv s4) (.int .i64 n4) (.int .i64 l4) (.int .i64 o4) (.slice mg n14 c14) (.slice mh n24 c24) (.slice oO n34 c34)
    exact gT (fun w9 t9=>aS rfl rfl (ah (aV iD.out _ _ _ _ _ _ _ _) t9 (by omega)) Tryz.underlying52 rfl (by kernel_rfl)) (jH.out.fQ (by omega)) h0 h1 (aH sM.out tF (by omega)) (bI fP.out (by omega)) gN.out
     (fun w9 t9=>⟨[.int .i64 k4,sv s4, .int .i64 n4, .int .i64 l4, .int .i64 o4, .slice mg n14 c14, .slice mh n24 c24, .slice oO n34 c34],rfl,((uV.out.turn tF (fun g _ h e=>by have:=h.1;omega)).turn t9 (fun g _ h e=>by have:=h.1;omega)).mono (fun g _ h=>by have:=h.1;omega)⟩)
  ·have hi:=kD gQ.out;simp only [List.length_cons,List.length_nil]at hi;obtain rfl | rfl:i=0∨i=1:=by omega
   ·skip
    have fV:Hid (aj unary (fun x=>aG (aK 16 [] 0 t0 [] [] [x])) r3=Q):=hid ((au gQ.out).symm.trans HQ.out);have HUC:=hid (HU w3.drew bp B r3 iM.out);have hix:∀w:World,(Instr.index 228 (.agg #[.int .i64 16, .int .i64 15]) (.int .i64 0)).run Tryz.prog w= .ok (.int .i64 16) w:=fun _=>by kernel_rfl
    have Mq:Hid (Turn (fun j=>j=bp) w3 w3.drew):=hid ⟨rfl,rfl,rfl,Nat.le_refl _,fun _ _ _=>rfl⟩;go_wp2_with fail;refine bO (S:=fun _=>True) (x:=9) (by kernel_rfl) ?_
    try simp only [Act.put,sq]
    refine tx 0 (.agg #[.int .i64 16, .int .i64 15]) trivial (hQ:=fG rfl (by decide)) ?_;refine tx 1 (.int .i64 0) trivial (hQ:=fG rfl (by decide)) ?_;refine tx 2 (.int .i64 16) trivial (hQ:=fG rfl (by decide)) ?_;refine tx 3 (.pointer (some ⟨bp,0,none⟩)) trivial (hQ:=fG rfl (by decide)) ?_;refine tx 6 (.pointer (some ⟨w2.heap.size,0,none⟩)) trivial (hQ:=fG rfl (by decide)) ?_;refine ay (rs:=[4]) (by kernel_rfl) (by simp) ?_;refine av.cons rfl (fun K hK=> ?_) (av.nil);go_simp;refine(HUC.out).mono ?_;rintro e w4 h4;rcases hq:unary r3 with g | ⟨x,r4⟩
    ·obtain⟨rfl,tn,bn⟩:=h4.bM hq;have tn:=aA Mq.out tn;exact iI bn (aH qy.out tn (by omega)) (aA HT3.out tn) (fV.out.symm.trans (aB hq))
    ·obtain⟨v4,rfl,tn,⟨z4,rfl,hz⟩,kn⟩:=h4.aL hq;obtain⟨k4,s4,n4,l4,o4,mg,n14,c14,mh,n24,c24,oO,n34,c34,rfl⟩:=hz.shape';have vH:=hid (aA Mq.out tn);have hs4:=vH.out.size;have fP:=hid (aA HT3.out vH.out);have jH:=hid kn;have sM:=hid (aH qy.out vH.out (by omega));have iD:=hid (ah jf.out vH.out (by omega));have qA:=ah lu.out vH.out (by omega);have mD:=hid qA;have uV:=hid (hz.iv.mono (G:=Iv w3.heap.size w4.heap.size) (fun g _ h=>h));have gN:Hid (Pr.good (aK 16 [] 0 t0 [] [] [x]) r4=Q):=hid ((au hq).symm.trans fV.out);have abA:=block_lt qA;obtain⟨m0,m1,m2,m3,m4,m5,m6,m7,mz⟩:=aT qA;clear h4 tn hz kn hq qA;refine hK.out _ _ trivial ?_;clear hK K
     try simp only [Act.put,sq]
     refine ay (rs:=[5,7]) (by kernel_rfl) (by simp) ?_;refine av.cons rfl (fun K hK=> ?_) (av.cons rfl (fun K hK=> ?_) av.nil)
     ·go_simp;refine hK.out _ _ trivial ?_;clear hK K
      try simp only [Act.put,sq]
      refine ay (rs:=[7]) (by kernel_rfl) (by simp) ?_;refine av.cons rfl (fun K hK=> ?_) (av.nil);go_simp;refine hK.out _ _ trivial ?_;clear hK K
      try simp only [Act.put,sq]
      refine tx 8 (.pointer (some ⟨w2.heap.size,7,none⟩)) trivial (hQ:=fG rfl (by decide)) ?_;refine ay (rs:=[9]) (by kernel_rfl) (by simp) ?_;refine av.past rfl (by kernel_rfl) (fun K hK=> ?_) (av.nil);go_simp;refine hK.out _ _ ?_;clear hK K
      try simp only [Act.put,sq]
      refine aM (by kernel_rfl) ?_ _;obtain⟨t8,Ed,Ee⟩:=nR (nb:=w2.heap.size) (c1:=0) (c2:=7) (v1:= .int .i64 16) (v2:=(.slice (some ⟨w4.heap.size,0,none⟩) 1 1)) (P:= #[.int .i64 k4,sv s4, .int .i64 n4, .int .i64 l4, .int .i64 o4, .slice mg n14 c14, .slice mh n24 c24, .slice oO n34 c34]) (T:=52) mD.out _ rfl;have pO:=hid (jH.out.turn t8 (by omega) (fun k hk e=>by have:=jH.out.1;omega));have kV:=hid (fP.out.trans t8 (fun i hi e=>by omega));have yV:=hid (gK Ed 8 1 rfl (by omega));have Ef:=hid (uV.out.turn t8 (fun g _ h e=>by have:=h.1;omega));have qB:=hid (aH sM.out t8 (by omega));have jk:=hid (ah iD.out t8 (by omega));have mF:=hid Ee;have uw:=t8.size;obtain⟨W8,qM⟩:∃W8,(((w4.setCell ⟨w2.heap.size,0,none⟩ (.int .i64 16)).setCell ⟨w2.heap.size,7,none⟩ (.slice (some ⟨w4.heap.size,0,none⟩) 1 1)).alloc (.cells #[.int .i64 k4,sv s4, .int .i64 n4, .int .i64 l4, .int .i64 o4, .slice mg n14 c14, .slice mh n24 c24, .slice oO n34 c34] 52))=W8:=⟨_,rfl⟩
      rw [qM]at pO kV yV Ef qB jk mF uw;have C8:=hid qM;obtain⟨f0,f1,f2,f3,f4,f5,f6,f7,fz⟩:=aT (show W8.heap[w2.heap.size]? =some (.cells #[.int .i64 16, .string ⟨#[]⟩, .int .i64 0, .int .i64 t0.line, .int .i64 t0.col, .slice none 0 0, .slice none 0 0,(.slice (some ⟨w4.heap.size,0,none⟩) 1 1)] 52 (0,0))from mF.out);obtain⟨c0,c1,c2,c3,c4,c5,c6,c7,cz⟩:=aT jk.out;clear t8 Ed Ee qM m0 m1 m2 m3 m4 m5 m6 m7 mz;rw [C8.out];go_wp2_with fail;have tF:=bB W8 w.heap.size (.int .i64 16) (.string ⟨#[]⟩) (.int .i64 0) (.int .i64 t0.line) (.int .i64 t0.col) (.slice none 0 0) (.slice none 0 0) (.slice (some ⟨w4.heap.size,0,none⟩) 1 1)
      exact gT (fun w9 t9=>aS rfl rfl (ah (aV jk.out _ _ _ _ _ _ _ _) t9 (by omega)) Tryz.underlying52 rfl (by kernel_rfl)) (pO.out.fQ (by omega)) h0 h1 (aH qB.out tF (by omega)) (bI kV.out (by omega)) gN.out.symm
       (fun w9 t9=>⟨_,rfl, .mk (dB.nil _ _ _) .nil (dB.nil _ _ _) (((yV.out.turn tF (fun g _ h e=>by omega)).turn t9 (fun g _ h e=>by omega)).mono (fun g _ h=>by omega)) (.cons (((Ef.out.turn tF (fun g _ h e=>by have:=h.1;omega)).turn t9 (fun g _ h e=>by have:=h.1;omega)).mono (fun g _ h=>by have:=h.1;omega)) .nil)⟩)
     ·go_simp;refine hK.out _ _ trivial ?_;clear hK K
      try simp only [Act.put,sq]
      refine ay (rs:=[5]) (by kernel_rfl) (by simp) ?_;refine av.cons rfl (fun K hK=> ?_) (av.nil);go_simp;refine hK.out _ _ trivial ?_;clear hK K
      try simp only [Act.put,sq]
      refine tx 8 (.pointer (some ⟨w2.heap.size,7,none⟩)) trivial (hQ:=fG rfl (by decide)) ?_;refine ay (rs:=[9]) (by kernel_rfl) (by simp) ?_;refine av.past rfl (by kernel_rfl) (fun K hK=> ?_) (av.nil);go_simp;refine hK.out _ _ ?_;clear hK K
      try simp only [Act.put,sq]
      refine aM (by kernel_rfl) ?_ _;obtain⟨t8,Ed,Ee⟩:=nR (nb:=w2.heap.size) (c1:=0) (c2:=7) (v1:= .int .i64 16) (v2:=(.slice (some ⟨w4.heap.size,0,none⟩) 1 1)) (P:= #[.int .i64 k4,sv s4, .int .i64 n4, .int .i64 l4, .int .i64 o4, .slice mg n14 c14, .slice mh n24 c24, .slice oO n34 c34]) (T:=52) mD.out _ rfl;have pO:=hid (jH.out.turn t8 (by omega) (fun k hk e=>by have:=jH.out.1;omega));have kV:=hid (fP.out.trans t8 (fun i hi e=>by omega));have yV:=hid (gK Ed 8 1 rfl (by omega));have Ef:=hid (uV.out.turn t8 (fun g _ h e=>by have:=h.1;omega));have qB:=hid (aH sM.out t8 (by omega));have jk:=hid (ah iD.out t8 (by omega));have mF:=hid Ee;have uw:=t8.size;obtain⟨W8,qM⟩:∃W8,(((w4.setCell ⟨w2.heap.size,0,none⟩ (.int .i64 16)).setCell ⟨w2.heap.size,7,none⟩ (.slice (some ⟨w4.heap.size,0,none⟩) 1 1)).alloc (.cells #[.int .i64 k4,sv s4, .int .i64 n4, .int .i64 l4, .int .i64 o4, .slice mg n14 c14, .slice mh n24 c24, .slice oO n34 c34] 52))=W8:=⟨_,rfl⟩
      rw [qM]at pO kV yV Ef qB jk mF uw;have C8:=hid qM;obtain⟨f0,f1,f2,f3,f4,f5,f6,f7,fz⟩:=aT (show W8.heap[w2.heap.size]? =some (.cells #[.int .i64 16, .string ⟨#[]⟩, .int .i64 0, .int .i64 t0.line, .int .i64 t0.col, .slice none 0 0, .slice none 0 0,(.slice (some ⟨w4.heap.size,0,none⟩) 1 1)] 52 (0,0))from mF.out);obtain⟨c0,c1,c2,c3,c4,c5,c6,c7,cz⟩:=aT jk.out;clear t8 Ed Ee qM m0 m1 m2 m3 m4 m5 m6 m7 mz;rw [C8.out];go_wp2_with fail;have tF:=bB W8 w.heap.size (.int .i64 16) (.string ⟨#[]⟩) (.int .i64 0) (.int .i64 t0.line) (.int .i64 t0.col) (.slice none 0 0) (.slice none 0 0) (.slice (some ⟨w4.heap.size,0,none⟩) 1 1)
      exact gT (fun w9 t9=>aS rfl rfl (ah (aV jk.out _ _ _ _ _ _ _ _) t9 (by omega)) Tryz.underlying52 rfl (by kernel_rfl)) (pO.out.fQ (by omega)) h0 h1 (aH qB.out tF (by omega)) (bI kV.out (by omega)) gN.out.symm
       (fun w9 t9=>⟨_,rfl, .mk (dB.nil _ _ _) .nil (dB.nil _ _ _) (((yV.out.turn tF (fun g _ h e=>by omega)).turn t9 (fun g _ h e=>by omega)).mono (fun g _ h=>by omega)) (.cons (((Ef.out.turn tF (fun g _ h e=>by have:=h.1;omega)).turn t9 (fun g _ h e=>by have:=h.1;omega)).mono (fun g _ h=>by have:=h.1;omega)) .nil)⟩)
   ·skip
    have fV:Hid (aj unary (fun x=>aG (aK 15 [] 0 t0 [] [] [x])) r3=Q):=hid ((au gQ.out).symm.trans HQ.out);have HUC:=hid (HU w3.drew bp B r3 iM.out);have hix:∀w:World,(Instr.index 228 (.agg #[.int .i64 16, .int .i64 15]) (.int .i64 1)).run Tryz.prog w= .ok (.int .i64 15) w:=fun _=>by kernel_rfl
    have Mq:Hid (Turn (fun j=>j=bp) w3 w3.drew):=hid ⟨rfl,rfl,rfl,Nat.le_refl _,fun _ _ _=>rfl⟩;go_wp2_with fail;refine bO (S:=fun _=>True) (x:=9) (by kernel_rfl) ?_
    try simp only [Act.put,sq]
    refine tx 0 (.agg #[.int .i64 16, .int .i64 15]) trivial (hQ:=fG rfl (by decide)) ?_;refine tx 1 (.int .i64 1) trivial (hQ:=fG rfl (by decide)) ?_;refine tx 2 (.int .i64 15) trivial (hQ:=fG rfl (by decide)) ?_;refine tx 3 (.pointer (some ⟨bp,0,none⟩)) trivial (hQ:=fG rfl (by decide)) ?_;refine tx 6 (.pointer (some ⟨w2.heap.size,0,none⟩)) trivial (hQ:=fG rfl (by decide)) ?_;refine ay (rs:=[4]) (by kernel_rfl) (by simp) ?_;refine av.cons rfl (fun K hK=> ?_) (av.nil);go_simp;refine(HUC.out).mono ?_;rintro e w4 h4;rcases hq:unary r3 with g | ⟨x,r4⟩
    ·obtain⟨rfl,tn,bn⟩:=h4.bM hq;have tn:=aA Mq.out tn;exact iI bn (aH qy.out tn (by omega)) (aA HT3.out tn) (fV.out.symm.trans (aB hq))
    ·obtain⟨v4,rfl,tn,⟨z4,rfl,hz⟩,kn⟩:=h4.aL hq;obtain⟨k4,s4,n4,l4,o4,mg,n14,c14,mh,n24,c24,oO,n34,c34,rfl⟩:=hz.shape';have vH:=hid (aA Mq.out tn);have hs4:=vH.out.size;have fP:=hid (aA HT3.out vH.out);have jH:=hid kn;have sM:=hid (aH qy.out vH.out (by omega));have iD:=hid (ah jf.out vH.out (by omega));have qA:=ah lu.out vH.out (by omega);have mD:=hid qA;have uV:=hid (hz.iv.mono (G:=Iv w3.heap.size w4.heap.size) (fun g _ h=>h));have gN:Hid (Pr.good (aK 15 [] 0 t0 [] [] [x]) r4=Q):=hid ((au hq).symm.trans fV.out);have abA:=block_lt qA;obtain⟨m0,m1,m2,m3,m4,m5,m6,m7,mz⟩:=aT qA;clear h4 tn hz kn hq qA;refine hK.out _ _ trivial ?_;clear hK K
     try simp only [Act.put,sq]
     refine ay (rs:=[5,7]) (by kernel_rfl) (by simp) ?_;refine av.cons rfl (fun K hK=> ?_) (av.cons rfl (fun K hK=> ?_) av.nil)
     ·go_simp;refine hK.out _ _ trivial ?_;clear hK K
      try simp only [Act.put,sq]
      refine ay (rs:=[7]) (by kernel_rfl) (by simp) ?_;refine av.cons rfl (fun K hK=> ?_) (av.nil);go_simp;refine hK.out _ _ trivial ?_;clear hK K
      try simp only [Act.put,sq]
      refine tx 8 (.pointer (some ⟨w2.heap.size,7,none⟩)) trivial (hQ:=fG rfl (by decide)) ?_;refine ay (rs:=[9]) (by kernel_rfl) (by simp) ?_;refine av.past rfl (by kernel_rfl) (fun K hK=> ?_) (av.nil);go_simp;refine hK.out _ _ ?_;clear hK K
      try simp only [Act.put,sq]
      refine aM (by kernel_rfl) ?_ _;obtain⟨t8,Ed,Ee⟩:=nR (nb:=w2.heap.size) (c1:=0) (c2:=7) (v1:= .int .i64 15) (v2:=(.slice (some ⟨w4.heap.size,0,none⟩) 1 1)) (P:= #[.int .i64 k4,sv s4, .int .i64 n4, .int .i64 l4, .int .i64 o4, .slice mg n14 c14, .slice mh n24 c24, .slice oO n34 c34]) (T:=52) mD.out _ rfl;have pO:=hid (jH.out.turn t8 (by omega) (fun k hk e=>by have:=jH.out.1;omega));have kV:=hid (fP.out.trans t8 (fun i hi e=>by omega));have yV:=hid (gK Ed 8 1 rfl (by omega));have Ef:=hid (uV.out.turn t8 (fun g _ h e=>by have:=h.1;omega));have qB:=hid (aH sM.out t8 (by omega));have jk:=hid (ah iD.out t8 (by omega));have mF:=hid Ee;have uw:=t8.size;obtain⟨W8,qM⟩:∃W8,(((w4.setCell ⟨w2.heap.size,0,none⟩ (.int .i64 15)).setCell ⟨w2.heap.size,7,none⟩ (.slice (some ⟨w4.heap.size,0,none⟩) 1 1)).alloc (.cells #[.int .i64 k4,sv s4, .int .i64 n4, .int .i64 l4, .int .i64 o4, .slice mg n14 c14, .slice mh n24 c24, .slice oO n34 c34] 52))=W8:=⟨_,rfl⟩
      rw [qM]at pO kV yV Ef qB jk mF uw;have C8:=hid qM;obtain⟨f0,f1,f2,f3,f4,f5,f6,f7,fz⟩:=aT (show W8.heap[w2.heap.size]? =some (.cells #[.int .i64 15, .string ⟨#[]⟩, .int .i64 0, .int .i64 t0.line, .int .i64 t0.col, .slice none 0 0, .slice none 0 0,(.slice (some ⟨w4.heap.size,0,none⟩) 1 1)] 52 (0,0))from mF.out);obtain⟨c0,c1,c2,c3,c4,c5,c6,c7,cz⟩:=aT jk.out;clear t8 Ed Ee qM m0 m1 m2 m3 m4 m5 m6 m7 mz;rw [C8.out];go_wp2_with fail;have tF:=bB W8 w.heap.size (.int .i64 15) (.string ⟨#[]⟩) (.int .i64 0) (.int .i64 t0.line) (.int .i64 t0.col) (.slice none 0 0) (.slice none 0 0) (.slice (some ⟨w4.heap.size,0,none⟩) 1 1)
      exact gT (fun w9 t9=>aS rfl rfl (ah (aV jk.out _ _ _ _ _ _ _ _) t9 (by omega)) Tryz.underlying52 rfl (by kernel_rfl)) (pO.out.fQ (by omega)) h0 h1 (aH qB.out tF (by omega)) (bI kV.out (by omega)) gN.out.symm
       (fun w9 t9=>⟨_,rfl, .mk (dB.nil _ _ _) .nil (dB.nil _ _ _) (((yV.out.turn tF (fun g _ h e=>by omega)).turn t9 (fun g _ h e=>by omega)).mono (fun g _ h=>by omega)) (.cons (((Ef.out.turn tF (fun g _ h e=>by have:=h.1;omega)).turn t9 (fun g _ h e=>by have:=h.1;omega)).mono (fun g _ h=>by have:=h.1;omega)) .nil)⟩)
     ·go_simp;refine hK.out _ _ trivial ?_;clear hK K
      try simp only [Act.put,sq]
      refine ay (rs:=[5]) (by kernel_rfl) (by simp) ?_;refine av.cons rfl (fun K hK=> ?_) (av.nil);go_simp;refine hK.out _ _ trivial ?_;clear hK K
      try simp only [Act.put,sq]
      refine tx 8 (.pointer (some ⟨w2.heap.size,7,none⟩)) trivial (hQ:=fG rfl (by decide)) ?_;refine ay (rs:=[9]) (by kernel_rfl) (by simp) ?_;refine av.past rfl (by kernel_rfl) (fun K hK=> ?_) (av.nil);go_simp;refine hK.out _ _ ?_;clear hK K
      try simp only [Act.put,sq]
      refine aM (by kernel_rfl) ?_ _;obtain⟨t8,Ed,Ee⟩:=nR (nb:=w2.heap.size) (c1:=0) (c2:=7) (v1:= .int .i64 15) (v2:=(.slice (some ⟨w4.heap.size,0,none⟩) 1 1)) (P:= #[.int .i64 k4,sv s4, .int .i64 n4, .int .i64 l4, .int .i64 o4, .slice mg n14 c14, .slice mh n24 c24, .slice oO n34 c34]) (T:=52) mD.out _ rfl;have pO:=hid (jH.out.turn t8 (by omega) (fun k hk e=>by have:=jH.out.1;omega));have kV:=hid (fP.out.trans t8 (fun i hi e=>by omega));have yV:=hid (gK Ed 8 1 rfl (by omega));have Ef:=hid (uV.out.turn t8 (fun g _ h e=>by have:=h.1;omega));have qB:=hid (aH sM.out t8 (by omega));have jk:=hid (ah iD.out t8 (by omega));have mF:=hid Ee;have uw:=t8.size;obtain⟨W8,qM⟩:∃W8,(((w4.setCell ⟨w2.heap.size,0,none⟩ (.int .i64 15)).setCell ⟨w2.heap.size,7,none⟩ (.slice (some ⟨w4.heap.size,0,none⟩) 1 1)).alloc (.cells #[.int .i64 k4,sv s4, .int .i64 n4, .int .i64 l4, .int .i64 o4, .slice mg n14 c14, .slice mh n24 c24, .slice oO n34 c34] 52))=W8:=⟨_,rfl⟩
      rw [qM]at pO kV yV Ef qB jk mF uw;have C8:=hid qM;obtain⟨f0,f1,f2,f3,f4,f5,f6,f7,fz⟩:=aT (show W8.heap[w2.heap.size]? =some (.cells #[.int .i64 15, .string ⟨#[]⟩, .int .i64 0, .int .i64 t0.line, .int .i64 t0.col, .slice none 0 0, .slice none 0 0,(.slice (some ⟨w4.heap.size,0,none⟩) 1 1)] 52 (0,0))from mF.out);obtain⟨c0,c1,c2,c3,c4,c5,c6,c7,cz⟩:=aT jk.out;clear t8 Ed Ee qM m0 m1 m2 m3 m4 m5 m6 m7 mz;rw [C8.out];go_wp2_with fail;have tF:=bB W8 w.heap.size (.int .i64 15) (.string ⟨#[]⟩) (.int .i64 0) (.int .i64 t0.line) (.int .i64 t0.col) (.slice none 0 0) (.slice none 0 0) (.slice (some ⟨w4.heap.size,0,none⟩) 1 1)
      exact gT (fun w9 t9=>aS rfl rfl (ah (aV jk.out _ _ _ _ _ _ _ _) t9 (by omega)) Tryz.underlying52 rfl (by kernel_rfl)) (pO.out.fQ (by omega)) h0 h1 (aH qB.out tF (by omega)) (bI kV.out (by omega)) gN.out.symm
       (fun w9 t9=>⟨_,rfl, .mk (dB.nil _ _ _) .nil (dB.nil _ _ _) (((yV.out.turn tF (fun g _ h e=>by omega)).turn t9 (fun g _ h e=>by omega)).mono (fun g _ h=>by omega)) (.cons (((Ef.out.turn tF (fun g _ h e=>by have:=h.1;omega)).turn t9 (fun g _ h e=>by have:=h.1;omega)).mono (fun g _ h=>by have:=h.1;omega)) .nil)⟩)
theorem Gu:vL 100 (jh 6):=by
 intro w bp B ts h;have HE:=hid (su (w.alloc (.cells #[.int .i64 0, .string ⟨#[]⟩, .int .i64 0, .int .i64 0, .int .i64 0, .slice none 0 0, .slice none 0 0, .slice none 0 0] 52)) bp B ts (h.below (new1 _ _)));clear h
 go_enter_defers Tryz.func163,Tryz.ntmps163
 go_wp2_with fail;refine(HE.out).mono ?_;rintro e w1 ⟨rfl,hb⟩;go_wp2_with fail;exact aF.fail (P:=LW w.heap.size) (B:=B) (d:=100) (q:=jh 6 ts) rfl ⟨(bH hb.1).1,hb.2⟩
section
variable {P:Program} {md:Region.Mode} {ops:Array Oper} {Q:Exit→Act→World→Prop} {S:World→Prop}
theorem K6 (i:Nat) {oi:Oper} {fuel:Nat} {listed listed':Array Bool} {a a':Act} {w:World} (hS:S w) (h:wpAnyH P md ops Q S fuel listed' a' w)
  (hi:ops[i]? =some oi:=by rfl) (hs:Region.noSelect ops=true:=by kernel_rfl) (hf:Region.free md ops listed i=true:=by kernel_rfl) (hr:(Region.ready md ops listed).contains i=true:=by kernel_rfl)
  (hQ:∀c a w,Q (.panic c) (a.put oi.dst undef) w→Q (.panic c) a w:=by exact fun _ _ _ h=>h) (hw:Region.wanted oi (yielded ops a.tmps)=false:=by kernel_rfl)
  (hl:listed.setIfInBounds i true=listed':=by(try simp only [List.setIfInBounds_toArray,List.set_cons_zero,List.set_cons_succ]);rfl)
  (ha:a.put oi.dst undef=a':=by(try simp only [Act.put,sq]);rfl):wpAnyH P md ops Q S (fuel+1) listed a w:=by
 subst hl ha;exact wpAnyH_take hi hs hf hr hQ (.inr ⟨hw,rfl⟩) hS h
end
theorem eX.tok {w:World} {bp B:Nat} {L:List aD} {d:Int} {q:Pr Unit} (h:eX w bp B L d q) {b o c:Nat} {c1 c2 c3 c4 c5:Value} {T:TypeId} (hb:w.heap[bp]? =some (.cells #[.slice (some ⟨b,o,none⟩) L.length c,c1,c2,c3,c4,c5] T (0,0))) (j:Nat) (hj:j<L.length):
  w.cell? ⟨b,o+j*4,none⟩=some (.int .i64 L[j].kind)∧w.cell? ⟨b,o+j*4+1,none⟩=some (sv L[j].text):=by
 obtain⟨h1,h2,h3,v,k,dd,e,ln,cn,h4,h5,h6,h7,h8⟩:=h;obtain⟨A,n,c',hv,hl,hn,hc,hx⟩:=h5;rw [h4]at hb;injection hb with hb;injection hb with hb _;have hb:=congrArg Array.toList hb;injection hb with hb _;rw [hv]at hb;injection hb with hA hn2 hc2;obtain⟨b',o',hA2,hb2,hcell⟩:=hx (by omega);rw [hA2]at hA;injection hA with hA;injection hA with e1 e2;subst e1 e2;obtain⟨g0,g1,g2,g3⟩:=uf L j hj;have c0:=hcell _ _ g0;have c1:=hcell _ _ g1;rw [←Nat.add_assoc]at c1;exact⟨c0,c1⟩
theorem Eo (s:ByteArray):s.data.toList.length=s.size:=Array.length_toList
theorem Sb (s:ByteArray) (h:0<s.size):s.data.toList.head? =some s[0]:=by
 rw [List.head?_eq_getElem?,List.getElem?_eq_getElem (by rw [Eo];exact h)];rfl
theorem isz (s:ByteArray) (h:s.size=0):s=ByteArray.empty:=ByteArray.size_eq_zero_iff.1 h
theorem Qs {c:UInt8} {n:Nat} (hn:n<256):c=UInt8.ofNat n↔c.toNat=n:=by
 constructor
 ·intro h;rw [h,UInt8.toNat_ofNat'];omega
 ·intro h;apply UInt8.toNat_inj.1;rw [UInt8.toNat_ofNat'];omega
theorem oP (s:ByteArray) (w:World) (hs:s.size≤281474976710656):
  Calls Tryz.prog 195 #[.string s] w fun e w'=>e= .returned (.tuple #[.int .i64 (dA s.data.toList).1, .bool (dA s.data.toList).2])∧w=w':=by
 by_cases h0:s.size=0
 ·obtain rfl:=isz s h0;have HP:=hid Js;go_enter Tryz.func195,Tryz.ntmps195;go_wp2_with fail
  go_ret2
  exact⟨mY (by rw [show ByteArray.empty.data.toList=([]:List UInt8)from by decide,HP.out]),rfl⟩
 have hb:((s.size:Int)==0)=false:=by rw [beq_eq_false_iff_ne];omega
 have he:¬s=ByteArray.empty:=by intro e;exact h0 (by rw [e];rfl)
 have h3:0<s.size:=by omega
 by_cases h1:19<s.size
 ·have HP:=hid (FP (l:=s.data.toList) (by rw [Eo];exact h1));go_enter Tryz.func195,Tryz.ntmps195;go_wp2_with fail
  go_ret2
  exact⟨mY (by rw [HP.out]),rfl⟩
 by_cases h2:s.data.toList.head? =some 48∧1<s.size
 ·have HP:=hid (FQ (l:=s.data.toList) (by rw [Eo];exact h2));obtain⟨h2,h4⟩:=h2;rw [Sb s h3]at h2;have hz:(((s[0]'h3).toNat:Int)==48)=true:=by
   rw [beq_iff_eq];injection h2 with h2;rw [h2];rfl
  clear h2;go_enter Tryz.func195,Tryz.ntmps195;go_wp2_with fail
  go_ret2
  exact⟨mY (by rw [HP.out]),rfl⟩
 have h4:s.size≤19:=by omega
 have H2:=hid h2;have hcase:(((s[0]'h3).toNat:Int)==48)=false∨(((s[0]'h3).toNat:Int)==48)=true∧s.size≤1:=by
  by_cases hz:(s[0]'h3).toNat=48
  ·refine .inr ⟨by rw [beq_iff_eq,hz];rfl, ?_⟩;have e:s.data.toList.head? =some 48:=by rw [Sb s h3,(Qs (by decide)).2 hz];rfl
   rcases Nat.lt_or_ge 1 s.size with h | h
   ·exact absurd ⟨e,h⟩ h2
   ·exact h
  ·exact .inl (by rw [beq_eq_false_iff_ne];omega)
 clear h0 h1 h2;rcases hcase with hz | ⟨hz,h5⟩
 all_goals
  go_enter Tryz.func195,Tryz.ntmps195;go_wp2_with fail
  go_loop [4,5] (fun v4 v5=>∃k n:Nat,v5= .int .i64 k∧v4= .int .u64 n∧k≤s.size∧n=dH 0 (s.data.toList.take k)∧(∀c∈s.data.toList.take k,qW c=true)) (fun _ v5=>(s.size - (intOf v5).toNat))
  case atStart=>exact⟨0,0,rfl,rfl,by omega,(gV 0).symm,by simp⟩
  case round=>
   obtain⟨k,n,rfl,rfl,hk,hn,hd⟩:=hrel;have HN:=hid hn;have HD:=hid hd;clear hn hd;by_cases hlt:k<s.size
   ·go_wp2_with fail
    all_goals first
    |(have hnd:¬qW (s[k]'hlt)=true:=by rw [gP];omega
      go_ret2
      exact⟨mY (by rw [Dn (l:=s.data.toList) (k:=k) (by rw [Eo];exact hlt) hnd]),rfl⟩)
    |(have hyd:48≤(s[k]'hlt).toNat∧(s[k]'hlt).toNat≤57:=by omega
      go_round
      case rel=>
       have hstep:s.data.toList.take (k+1)=s.data.toList.take k++[s[k]'hlt]:=by
        rw [List.take_succ_eq_append_getElem (by rw [Eo];exact hlt)];rfl
       have hv:=yC _ 0 HD.out;have hn:=HN.out;have hl:(s.data.toList.take k).length≤18:=by rw [List.length_take];omega
       have hp:10 ^ (s.data.toList.take k).length≤10 ^ 18:=Nat.pow_le_pow_right (by decide) hl;refine⟨k+1,10*n+((s[k]'hlt).toNat - 48),rfl, ?_,by omega, ?_, ?_⟩
       ·have e:IntKind.u64.wrap (IntKind.u64.wrap (10*(n:Int))+(((s[k]'hlt).toNat:Int) - 48))=((10*n+((s[k]'hlt).toNat - 48):Nat):Int):=by
         rw [Dl,Dl];omega
        rw [e]
       ·rw [hstep,og, ←hn]
       ·intro c hc;rw [hstep]at hc;rcases List.mem_append.1 hc with hc | hc
        ·exact HD.out c hc
        ·obtain rfl:c=s[k]'hlt:=by simpa using hc
         exact gP.2 hyd
      case measure=>simp [intOf];omega)
   ·have hk2:k=s.size:=by omega
    have ht:s.data.toList.take k=s.data.toList:=List.take_of_length_le (by rw [Eo];omega);have hpe:=Jt (l:=s.data.toList) (by rw [Eo];exact h3) (by rw [Eo];exact H2.out) (by have:=HD.out;rw [ht]at this;exact this);have hn:=HN.out;rw [ht]at hn;rw [←hn]at hpe;have HPE:=hid hpe;clear hpe hn ht hk2;by_cases hbig:n<9223372036854775808
    ·go_wp2_with fail
     go_ret2
     exact⟨mY (by rw [HPE.out,if_pos hbig]),rfl⟩
    ·go_wp2_with fail
     go_ret2
     exact⟨mY (by rw [HPE.out,if_neg hbig]),rfl⟩
def Sc (d:Int) (p:Ps bX):Prop:=∀(w:World) (bp B:Nat) (ts:List aD),bK w bp B ts d→
 Calls Tryz.prog 215 #[.pointer (some ⟨bp,0,none⟩)] w (aF (LW w.heap.size) bp B d w (p ts))
structure IZ (w:World) (bp B ab:Nat) (d:Int) (wr:World) (a:bX) (r:List aD):Prop where
 turn:Turn (fun k=>k=bp) w wr
 tk:bK wr bp B r d
 res:wr.heap[w.heap.size]? =some (.cells #[.int .i64 0, .string ⟨#[]⟩, .int .i64 0, .int .i64 0, .int .i64 0, .slice none 0 0, .slice none 0 0, .slice none 0 0] 52 (0,0))
 no:∃z:List Value,wr.heap[ab]? =some (.cells z.toArray 52 (0,0))∧ow wr (fun j=>w.heap.size≤j∧j≠w.heap.size∧j≠ab) z a
theorem MQ (d:Int) (typ:Ps bT) (expr:Ps bX) (hsf:Sf expr) (wW:uE d expr) (HA:Sc d (tN typ expr)):R9 d (qZ typ expr):=by
 intro w bp B ts h;have hlt:=h.lt;have hB:=h.1;obtain⟨Q,hQ⟩:∃Q,qZ typ expr ts=Q:=⟨_,rfl⟩
 rw [hQ];have HQ:Hid (aj (tN typ expr) (fun a ts=>jC expr ts.length a ts) ts=Q):=hid hQ;have HC:=hid (HA (w.alloc (.cells #[.int .i64 0, .string ⟨#[]⟩, .int .i64 0, .int .i64 0, .int .i64 0, .slice none 0 0, .slice none 0 0, .slice none 0 0] 52)) bp B ts (h.below (new1 _ _)));clear h hQ;go_enter Tryz.func198,Tryz.ntmps198;go_wp2_with fail;refine(HC.out).mono ?_;rintro e w1 h1;rcases hq:tN typ expr ts with g | ⟨a,r1⟩
 ·obtain⟨rfl,tn,bn⟩:=h1.bM hq;have tn:=(bH tn).1;have HB:=hid (dX.mk2 tn bn);have dG:=hid (HQ.out.symm.trans (aB hq));clear h1 tn bn hq;go_wp2_with fail;exact⟨rfl,aF.fail dG.out HB.out⟩
 ·obtain⟨v1,rfl,tn,⟨z1,rfl,hz⟩,kn⟩:=h1.aL hq;obtain⟨k1,s1,n1,l1,o1,Ul,n11,c11,Um,n21,c21,Un,n31,c31,rfl⟩:=hz.shape';obtain⟨tm,hs1,hrs⟩:=bH tn;have HZ1:=hid (hz.iv.mono (G:=Iv (w.heap.size+1) w1.heap.size) (fun g _ h=>⟨by have h:=h.1;simp at h;exact h,h.2⟩));have lq:Hid (jC expr r1.length a r1=Q):=hid ((au (f:=fun a ts=>jC expr ts.length a ts) hq).symm.trans HQ.out);have hab:w.heap.size<w1.heap.size:=by omega
  have HPI:Hid (IZ w bp B w1.heap.size d (w1.alloc (.cells #[.int .i64 k1,sv s1, .int .i64 n1, .int .i64 l1, .int .i64 o1, .slice Ul n11 c11, .slice Um n21 c21, .slice Un n31 c31] 52)) a r1):=hid ⟨aA tm (Turn.alloc _ _ _),kn.below (new1 _ _),bG (hrs (by omega)),[.int .i64 k1,sv s1, .int .i64 n1, .int .i64 l1, .int .i64 o1, .slice Ul n11 c11, .slice Um n21 c21, .slice Un n31 c31],qR _ _,(HZ1.out.turn (Turn.alloc (fun _=>False) w1 (.cells #[.int .i64 k1,sv s1, .int .i64 n1, .int .i64 l1, .int .i64 o1, .slice Ul n11 c11, .slice Um n21 c21, .slice Un n31 c31] 52)) (fun _ _ _=>id)).mono (fun g hg h=>⟨by have:=h.1;omega,by have:=h.1;omega,by have:=h.2;omega⟩)⟩;clear h1 tn tm hz kn hrs hq;go_wp2_with fail;go_loopw [5] (fun _ wr=>∃(f:Nat) (a:bX) (r:List aD),jC expr f a r=Q∧r.length≤f∧IZ w bp B w1.heap.size d wr a r) (fun _ wr=>leftOf wr bp)
  case atStart=>exact⟨_,a,r1,lq.out,Nat.le_refl _,HPI.out⟩
  case round=>
   obtain⟨f,a,r,hinv,hf,pG⟩:=hrel;have hwf:=pG.tk.wf;have hpos:=hwf.pos;obtain⟨f,rfl⟩:∃f',f=f'+1:=⟨f - 1,by omega⟩
   obtain⟨t,ht⟩:∃t,aQ r=t:=⟨_,rfl⟩
   have HL:Hid (aj (cK [[40],[46]]) (fun i=>match i with | none=>aG a | some 0=>aj (bV expr [[]] [a]) fun k=>aj (aI [41]) fun _=>jC expr f (aK 7 [] 0 t [] [] k) | some _=>aj nameP fun s=>jC expr f (aK 9 s 0 t [] [] [a])) r=Q):=hid (by subst ht;exact hinv);have HLEN:=hid pG.tk.left;have HF:=hid hf;have wX:=hid pG;have ru:=hid hwf;have hsr:=pG.turn.size;obtain⟨z4,hz0,hn0⟩:=pG.no;obtain⟨k4,s4,n4,l4,o4,mg,n14,c14,mh,n24,c24,oO,n34,c34,rfl⟩:=hn0.shape';have TJ:=hid hz0;have HN0:=hid (hn0.mono (G:=fun j=>(w.heap.size≤j∧j≠w.heap.size∧j≠w1.heap.size)∧j<wr.heap.size) (fun g hg h=>⟨h,hg⟩));have aaI:=block_lt hz0;have abB:=block_lt pG.res;have HH:=hid (nQ d wr bp B r pG.tk 7);rw [ht]at HH;clear hinv hf pG hwf ht hz0 hn0;go_wp2_with fail;refine(HH.out).mono ?_;rintro e w2 ⟨rfl,hb2⟩;have hs2:=hb2.size;have t2:=Turn.of_below (F:=fun k=>k=bp) hb2;have iR:=hid (wX.out.tk.below hb2);have hz2:=ah TJ.out t2 (by omega);have abC:=hid hz2;have uJ:=hid (ah wX.out.res t2 (by omega));have O7:=hid (HN0.out.turn t2 (fun g _ h e=>by have:=h.1.1;omega));have HT2:=hid (aA wX.out.turn t2);have hl12:=block_lt hz2;obtain⟨e0,e1,e2,e3,e4,e5,e6,e7,ez⟩:=aT hz2;have uD:=hid (lV ((w2.alloc (.cells #[.int .i64 7, .string ⟨#[]⟩, .int .i64 0, .int .i64 t.line, .int .i64 t.col, .slice none 0 0, .slice none 0 0,(.slice (some ⟨w2.heap.size+1,0,none⟩) 1 1)] 52)).alloc (.cells #[.int .i64 k4,sv s4, .int .i64 n4, .int .i64 l4, .int .i64 o4, .slice mg n14 c14, .slice mh n24 c24, .slice oO n34 c34] 52)) bp B r d (iR.out.below (new2 _ _ _)) [[40],[46]] #[.string ⟨#[40]⟩, .string ⟨#[46]⟩] 9 2 (w2.heap.size+1+1));clear hb2 t2 hz2;go_wp2_with fail;refine(uD.out).mono ?_;rintro e w3 h3;rcases hq:cK [[40],[46]] r with g | ⟨o,r3⟩
   ·exact(gB hq).elim
   ·obtain⟨v3,rfl,tn,rfl,kn⟩:=h3.aL hq;obtain⟨tm,hs3,hnb,hpb⟩:=gG tn;have HT3:=hid (aA HT2.out tm);have iM:=hid kn;have lu:=hid (hnb (by omega));have Kh:=hid (hpb (by omega));have J9:=hid (ah abC.out tm (by omega));have jf:=hid (ah uJ.out tm (by omega));have Cc:=hid (O7.out.turn tm (fun g _ h e=>by have:=h.1.1;omega));have gQ:=hid hq;clear h3 tn tm kn hnb hpb hq e0 e1 e2 e3 e4 e5 e6 e7 ez;rcases o with _ | i
    ·have fV:Hid (Pr.good a r3=Q):=hid ((au gQ.out).symm.trans HL.out);obtain⟨e0,e1,e2,e3,e4,e5,e6,e7,ez⟩:=aT J9.out;obtain⟨c0,c1,c2,c3,c4,c5,c6,c7,cz⟩:=aT jf.out;go_wp2_with fail;refine bodyPost_ret (aS rfl rfl (aV jf.out _ _ _ _ _ _ _ _) Tryz.underlying52 rfl (by kernel_rfl)) rfl ?_;exact aF.done fV.out.symm (bI HT3.out (by omega)) ⟨_,rfl,(Cc.out.turn (bB _ _ _ _ _ _ _ _ _ _) (fun g _ h e=>by have:=h.1.2.1;omega)).mono (fun g _ h=>h.1.1)⟩ (iM.out.fQ (by omega))
    ·have hi:=kD gQ.out;simp only [List.length_cons,List.length_nil]at hi;have uG:=hid (ze gQ.out ru.out.pos);obtain rfl | rfl:i=0∨i=1:=by omega
     ·have fV:Hid (aj (bV expr [[]] [a]) (fun k=>aj (aI [41]) fun _=>jC expr f (aK 7 [] 0 t [] [] k)) r3=Q):=hid ((au gQ.out).symm.trans HL.out);have nO:=hid (show TI (w2.heap.size+1) (fun j=>w.heap.size<j∧j≠w1.heap.size∧j≠w2.heap.size) w3 (.slice (some ⟨w2.heap.size+1,0,none⟩) 1 1) [a]from⟨_,IY Kh.out (k:=8) rfl,wh rfl (Cc.out.mono (fun g _ h=>⟨fun e=>by injection e with e;have:=h.2;simp at e;omega,by have:=h.1;omega,by have:=h.1.2.2;omega,by have:=h.2;omega⟩))⟩);have uL:=hid (ji d expr wW (w3.alloc (.cells #[.string ⟨#[]⟩] 9)) bp B w2.heap.size (w2.heap.size+1) (fun j=>w.heap.size<j∧j≠w1.heap.size∧j≠w2.heap.size) r3 (iM.out.below (new1 _ _)) (.int .i64 7) (.string ⟨#[]⟩) (.int .i64 0) (.int .i64 t.line) (.int .i64 t.col) (.slice none 0 0) (.slice none 0 0) (.slice (some ⟨w2.heap.size+1,0,none⟩) 1 1) [a] (bG lu.out) (nO.out.turn aZ (Turn.alloc (fun _=>False) w3 (.cells #[.string ⟨#[]⟩] 9)) (fun _ _=>id) (fun _ _ _=>id)) (.slice (some ⟨w3.heap.size,0,none⟩) 1 1) [[]] ((iH w3 #[.string ⟨#[]⟩] 9 1 1 rfl (by decide)).mono (fun g _ h=>⟨by omega,by omega,fun e=>by injection e with e;simp at e;omega⟩)) (by simp) (by simp) (by omega) (by omega) (by simp;omega) (by omega) (by omega) (fun j hj=>by simp at hj;omega));go_wp2_with fail;refine(uL.out).mono ?_;rintro e w5 h5;rcases hq:bV expr [[]] [a] r3 with g | ⟨ks,r5⟩
      ·obtain⟨rfl,tn,bn⟩:=h5.bM hq;have hpo:∀j,Value.ownBlock (.slice (some ⟨w2.heap.size+1,0,none⟩) 1 1)=some j→j=w2.heap.size+1:=fun j e=>by injection e with e;exact e.symm
       have tn:=(bH tn).1;have HB:=hid (dX.mk2 (HT3.out.trans tn (fun i hi e=>by rcases e with e | e | e;exact e;omega;(have:=hpo _ e;omega))) bn);have dG:=hid (fV.out.symm.trans (aB hq));clear h5 tn bn hq;go_wp2_with fail;exact⟨rfl,aF.fail dG.out HB.out⟩
      ·obtain⟨rfl,tn,⟨v5,hb5,Iz⟩,kn⟩:=h5.aL hq;have hpo:∀j,Value.ownBlock (.slice (some ⟨w2.heap.size+1,0,none⟩) 1 1)=some j→j=w2.heap.size+1:=fun j e=>by injection e with e;exact e.symm
       have tm:=(bH tn).1;have hs5:=tm.size;have fM:=hid (HT3.out.trans tm (fun i hi e=>by rcases e with e | e | e;exact e;omega;(have:=hpo _ e;omega)));have kW:=hid kn;have mE:=hid hb5;have Zw:=hid Iz;have Pt:=hid (ah J9.out tm (fun e=>by rcases e with e | e | e;omega;omega;(have:=hpo _ e;omega)));have iE:=hid (ah jf.out tm (fun e=>by rcases e with e | e | e;omega;omega;(have:=hpo _ e;omega)));have MR:=hid ((Sf.kids hsf [[]] [a]).good iM.out.wf hq).2.length_le;have gN:Hid (aj (aI [41]) (fun _=>jC expr f (aK 7 [] 0 t [] [] ks)) r5=Q):=hid ((au hq).symm.trans fV.out);have HN:=hid (eG w5 bp B r5 d kn [41] 9 w5.heap.size);obtain⟨A5,c5,hv5, _, _⟩:=Iz.shape;subst hv5;clear h5 tn tm kn hq hb5 Iz hpo;go_wp2_with fail;refine(HN.out).mono ?_;rintro e w6 h6;rcases hq:aI [41] r5 with g | ⟨u,r6⟩
       ·obtain⟨rfl,tn,bn⟩:=h6.bM hq;have HB:=hid (dX.mk2 (aA fM.out tn) bn);have dG:=hid (gN.out.symm.trans (aB hq));clear h6 tn bn hq;go_wp2_with fail;exact⟨rfl,aF.fail dG.out HB.out⟩
       ·obtain⟨v6,rfl,tn, -,kn⟩:=h6.aL hq;have kQ:=hid (aA fM.out tn);have sU:=hid kn;have Ae:=ah mE.out tn (by omega);have MN:=hid Ae;have Cb:=hid (Zw.out.turn aZ tn (fun g hg e=>by have:=(Zw.out.lt g hg).1;omega) (fun g _ hg e=>by have:=hg.1;omega));have Ut:=ah Pt.out tn (by omega);have Uu:=hid Ut;have ng:=hid (ah iE.out tn (by omega));have Yb:=hid ((Sf.want [41]).good kW.out.wf hq).2.length_le;have HQF:Hid (jC expr f (aK 7 [] 0 t [] [] ks) r6=Q):=hid ((au hq).symm.trans gN.out);obtain⟨f0,f1,f2,f3,f4,f5,f6,f7,fz⟩:=aT Ae;obtain⟨e0,e1,e2,e3,e4,e5,e6,e7,ez⟩:=aT Ut;clear h6 tn kn hq Ae Ut;go_wp2_with fail;obtain⟨xs,q1,q2⟩:=Cb.out.sl aZ;have tF:=bB w6 w1.heap.size (.int .i64 7) (.string ⟨#[]⟩) (.int .i64 0) (.int .i64 t.line) (.int .i64 t.col) (.slice none 0 0) (.slice none 0 0) (.slice A5 ks.length c5);have hwx:=kQ.out.size
        have Eh:IZ w bp B w1.heap.size d (sw w6 w1.heap.size (.int .i64 7) (.string ⟨#[]⟩) (.int .i64 0) (.int .i64 t.line) (.int .i64 t.col) (.slice none 0 0) (.slice none 0 0) (.slice A5 ks.length c5)) (aK 7 [] 0 t [] [] ks) r6:=
         ⟨bI kQ.out (by omega),sU.out.fQ (by omega),ah ng.out tF (by omega), _,aV Uu.out _ _ _ _ _ _ _ _, .mk (dB.nil _ _ _) .nil (dB.nil _ _ _) ((q1.turn tF (fun g _ h e=>by rcases h with h | h;omega;(have:=h.2.1;omega))).mono (fun g _ h=>by rcases h with h | h;omega;(have:=h.1;have:=h.2.1;omega))) (j4 (dD aZ (fun g _ h=>by rcases h with h | h;omega;(have:=h.1;have:=h.2.1;omega)) (bD aZ tF (fun g _ h e=>by rcases h with h | h;omega;(have:=h.2.1;omega)) q2)))⟩
        go_roundw
        case rel=>exact⟨f, _,r6,HQF.out,by have:=MR.out;have:=Yb.out;have:=uG.out;have:=HF.out;omega,Eh⟩
        case measure=>rw [Eh.tk.left,HLEN.out];have:=MR.out;have:=Yb.out;have:=uG.out;omega
     ·have fV:Hid (aj nameP (fun s=>jC expr f (aK 9 s 0 t [] [] [a])) r3=Q):=hid ((au gQ.out).symm.trans HL.out);have HN:=hid (fH w3 bp B r3 d iM.out);go_wp2_with fail;refine(HN.out).mono ?_;rintro e w5 h5;rcases hq:nameP r3 with g | ⟨s,r5⟩
      ·obtain⟨rfl,tn,bn⟩:=h5.bM hq;have HB:=hid (dX.mk2 (aA HT3.out tn) bn);have dG:=hid (fV.out.symm.trans (aB hq));clear h5 tn bn hq;go_wp2_with fail;exact⟨rfl,aF.fail dG.out HB.out⟩
      ·obtain⟨v5,rfl,tn,rfl,kn⟩:=h5.aL hq;have hs5:=tn.size;have fM:=hid (aA HT3.out tn);have lC:=ah lu.out tn (by omega);have Uv:=ah J9.out tn (by omega);have Yc:=ah Kh.out tn (by omega);have MR:=hid (Sf.name.good iM.out.wf hq).2.length_le;have HQF:Hid (jC expr f (aK 9 s 0 t [] [] [a]) r5=Q):=hid ((au hq).symm.trans fV.out);have K4:=hid (Cc.out.turn tn (fun g _ h e=>by have:=h.1.1;omega));obtain⟨f0,f1,f2,f3,f4,f5,f6,f7,fz⟩:=aT lC;obtain⟨e0,e1,e2,e3,e4,e5,e6,e7,ez⟩:=aT Uv;have t6:=(ak w5 w2.heap.size 0 (.int .i64 9)).trans (ak _ w2.heap.size 1 (sv s)) (fun _ _ h=>h);have sU:=hid (kn.turn t6 (by omega) (fun k hk e=>by have:=iM.out.1;omega));have kQ:=hid (fM.out.trans t6 (fun i hi e=>by omega));have Uu:=hid (ah Uv t6 (by omega));have HP6:=hid (gK (ah Yc t6 (by omega)) 8 1 rfl (by omega));have ng:=hid (ah (ah jf.out tn (by omega)) t6 (by omega));have Qt:=hid (K4.out.turn t6 (fun g _ h e=>by have:=h.2;omega));have afY:¬w2.heap.size=w1.heap.size:=by omega
       have afZ:¬w1.heap.size=w2.heap.size:=by omega
       clear h5 tn kn hq lC Uv Yc t6;go_wp2_with fail;have tF:=bB ((w5.setCell ⟨w2.heap.size,0,none⟩ (.int .i64 9)).setCell ⟨w2.heap.size,1,none⟩ (sv s)) w1.heap.size (.int .i64 9) (sv s) (.int .i64 0) (.int .i64 t.line) (.int .i64 t.col) (.slice none 0 0) (.slice none 0 0) (.slice (some ⟨w2.heap.size+1,0,none⟩) 1 1);have hwx:=kQ.out.size
       have Eh:IZ w bp B w1.heap.size d (sw ((w5.setCell ⟨w2.heap.size,0,none⟩ (.int .i64 9)).setCell ⟨w2.heap.size,1,none⟩ (sv s)) w1.heap.size (.int .i64 9) (sv s) (.int .i64 0) (.int .i64 t.line) (.int .i64 t.col) (.slice none 0 0) (.slice none 0 0) (.slice (some ⟨w2.heap.size+1,0,none⟩) 1 1)) (aK 9 s 0 t [] [] [a]) r5:=
        ⟨bI kQ.out (by omega),sU.out.fQ (by omega),ah ng.out tF (by omega), _,aV Uu.out _ _ _ _ _ _ _ _, .mk (dB.nil _ _ _) .nil (dB.nil _ _ _) ((HP6.out.turn tF (fun g _ h e=>by omega)).mono (fun g _ h=>by omega)) (.cons ((Qt.out.turn tF (fun g _ h e=>by have:=h.1.2.2;omega)).mono (fun g _ h=>h.1)) .nil)⟩
       go_roundw
       case rel=>exact⟨f, _,r5,HQF.out,by have:=MR.out;have:=uG.out;have:=HF.out;omega,Eh⟩
       case measure=>rw [Eh.tk.left,HLEN.out];have:=MR.out;have:=uG.out;omega
def Gv (pb nb base bp:Nat) (s:Bt) (t:aD) (w:World) (l:List bT):Prop:=
 w.heap[pb]? =some (.cells #[.pointer (some ⟨bp,0,none⟩)] 91 (0,0))∧∃v,w.heap[nb]? =some (.cells #[.int .i64 19,sv s, .int .i64 0, .int .i64 t.line, .int .i64 t.col,v, .slice none 0 0, .slice none 0 0] 52 (0,0))∧TG base w v l
theorem Gv.turn {pb nb base bp:Nat} {s:Bt} {t:aD} {w w':World} {l:List bT} (h:Gv pb nb base bp s t w l) (tn:Turn (fun k=>k=bp) w w') (h1:bp<pb) (h2:bp<nb) (h3:bp<base):Gv pb nb base bp s t w' l:=by
 obtain⟨hb,v,hn,hr⟩:=h;exact⟨ah hb tn (by omega),v,ah hn tn (by omega),hr.turn aO tn (fun g hg e=>by have:=(hr.lt g hg).1;omega) (fun g _ hg e=>by omega)⟩
theorem Gw (d:Int) (typ:Ps bT) (pK:uj d typ) (w:World) (bp B pb nb base:Nat) (s:Bt) (t:aD) (ts:List aD) (l:List bT) (hl:l.length≤8193) (h:bK w bp B ts d) (hI:Gv pb nb base bp s t w l) (p1:bp<pb) (p2:bp<nb) (p3:pb<base) (p4:nb<base) (p5:pb≠nb) (p6:base≤w.heap.size):
  Calls Tryz.prog 237 #[.pointer (some ⟨nb,0,none⟩), .pointer (some ⟨pb,0,none⟩)] w (dM (Gv pb nb base bp s t) (fun k=>k=bp∨k=nb∨base≤k) bp B d w (nJ typ l ts)):=by
 obtain⟨Gx,vk,hblk,hrow⟩:=hI;obtain⟨Ak,ck,hvk,hck,hmk⟩:=hrow.shape;subst hvk;have hbx:=bQ Gx;obtain⟨Q,hQ⟩:∃Q,nJ typ l ts=Q:=⟨_,rfl⟩
 rw [hQ];have HQ:Hid (aj typ (fun x=>aG (l++[x])) ts=Q):=hid hQ;have HK:=hid h;have dV:=hid hrow;have oM:=hid hblk;have Ki:=hid Gx;have e5:w.cell? ⟨nb,5,none⟩=some (.slice Ak l.length ck):=(cell_of_row _ _ _ _ _ _ hblk).trans rfl;have PN:=hid (fun(w':World) (h:Turn (fun j=>j=bp∨base≤j) w w')=>aH e5 h (by omega));have PB:=hid (fun(w':World) (h:Turn (fun j=>j=bp∨base≤j) w w')=>aH hbx h (by omega));clear h hQ hrow hblk Gx hbx e5;go_enter Tryz.func237,Tryz.ntmps237;have HD0:Hid (Turn (fun j=>j=bp∨base≤j) w w.drew):=hid ⟨rfl,rfl,rfl,Nat.le_refl _,fun _ _ _=>rfl⟩;have jW:Hid (Turn (fun j=>j=bp) w w.drew):=hid ⟨rfl,rfl,rfl,Nat.le_refl _,fun _ _ _=>rfl⟩;go_wp2_with fail;refine bO (S:=fun w'=>Turn (fun j=>j=bp∨base≤j) w w') (x:=10) (by kernel_rfl) ?_
 try simp only [Act.put,sq]
 refine tx 0 (.pointer (some ⟨nb,5,none⟩)) HD0.out ?_;refine jq 1 (.slice Ak l.length ck) PN.out HD0.out ?_;refine jq 2 (.pointer (some ⟨bp,0,none⟩)) PB.out HD0.out ?_;refine tx 4 (.int .i64 l.length) HD0.out ?_;refine ay (rs:=[3,5]) (by kernel_rfl) (by simp) ?_;refine av.cons rfl (fun K hK=> ?_) (av.cons rfl (fun K hK=> ?_) av.nil)
 ·have nM:=jW;have zW:=hid (pK w.drew bp B ts HK.out);go_simp;refine(zW.out).mono ?_;rintro e pJ h10;rcases hq:typ ts with g | ⟨x,pq⟩
  ·obtain⟨rfl,tn,bn⟩:=h10.bM hq;have tn:=nM.out.trans tn (fun _ _ h=>h);have dG:=hid (HQ.out.symm.trans (aB hq));exact⟨rfl,dM.fail dG.out (tn.mono fun _ _ h=> .inl h) bn⟩
  ·obtain⟨v10,rfl,tn,⟨z,rfl,hz⟩,kn⟩:=h10.aL hq;obtain⟨kz,sz,lW,lX,lY,lZ,l6,l7,rfl⟩:=hz.shape';have kC:=hid (nM.out.trans tn (fun _ _ h=>h));have sD:=hid (kC.out.mono (G:=fun j=>j=bp∨base≤j) (fun _ _ h=> .inl h));have sF:=hid kn;have zR:=hid hq;have HZ:=hid (aO.mono hz (G:=fun j=>w.heap.size≤j) (fun _ _ h=>Nat.le_trans nM.out.size h));clear h10 tn kn hq hz;refine hK.out _ _ sD.out ?_;clear hK K
   try simp only [Act.put,sq]
   refine ay (rs:=[5]) (by kernel_rfl) (by simp) ?_;refine av.cons rfl (fun K hK=> ?_) (av.nil);go_simp;have jA:=hid (kC.out.trans (Turn.alloc (fun j=>j=bp) pJ (.cells #[.int .i64 0, .string ⟨#[]⟩, .slice none 0 0, .slice none 0 0] 57)) (fun _ _ h=>h));have O9:=hid (jA.out.mono (G:=fun j=>j=bp∨base≤j) (fun _ _ h=> .inl h));have Gh:=hid (aO.turn HZ.out (Turn.alloc (fun _=>False) pJ (.cells #[.int .i64 0, .string ⟨#[]⟩, .slice none 0 0, .slice none 0 0] 57)) (fun _ _ _=>id));have oI:=hid (sF.out.below (new1 pJ (.cells #[.int .i64 0, .string ⟨#[]⟩, .slice none 0 0, .slice none 0 0] 57)));have HSL:=hid (fU pJ #[.int .i64 0, .string ⟨#[]⟩, .slice none 0 0, .slice none 0 0] 57 4 1 rfl (by decide));refine hK.out _ _ O9.out ?_;clear hK K
   try simp only [Act.put,sq]
   refine ay (rs:=[6]) (by kernel_rfl) (by simp) ?_;refine av.cons rfl (fun K hK=> ?_) (av.nil);obtain⟨ys,hy,hr⟩:=dV.out;have hyl:ys.length=l.length*4:=by have:=hy.1;simpa using this
   have qw:=hid (dK hy jA.out (fun g hg e=>by have:=(hy.lt g hg).1;omega));refine fq rfl (.tmp 3) (.tmp 7) _ rfl base uh (.slice Ak l.length ck) _ rfl rfl qw.out HSL.out xS (by simp [maxLen];omega) (by simp;omega) (by have:=jA.out.size;omega) (fun v7 w7 n7 aN iC fO=> ?_);have Bg:n7=l.length+1:=by have:=aN.1;rw [List.length_append,hyl]at this;simp at this;omega
   subst Bg;obtain⟨g7,c7,rfl,hgb,hgs,Tx,Rb⟩:=gH aN (by omega);have he:=fun w8=>qL aO (by omega) (cb:=nb) (ci:=5) hy hr jA.out Gh.out (by rfl) aN iC fO rfl (by omega) (F:=fun j=>base≤j) (by omega) (by omega) (fun j hj=>by omega) (by omega) w8;simp only [List.length_map]at he;have HE:=hid he;have iT:=hid ((jA.out.mono (G:=fun j=>j=bp∨base≤j) (fun _ _ h=> .inl h)).trans (Turn.bA iC (F:=fun j=>j=bp∨base≤j) (fun k e=> .inr (hy.lt k e).1)) (fun _ _ h=>h));have kP:=hid (oI.out.turn (Turn.bA iC (F:=fun j=>base≤j) (fun k e=>(hy.lt k e).1)) (by omega) (fun k hk e=>by have:=oI.out.1;omega));have iQ:=ah oM.out iT.out (by omega);have ec:=(cell_of_row _ _ 5 _ _ _ iQ).trans rfl;have ez:=frozen_of_row _ _ 5 _ _ iQ;have o0:=aR aN rfl (i:=l.length*4) (u:= .int .i64 0) (by rw [List.getElem?_append_right (by omega),hyl,Nat.sub_self];rfl);have o1:=aR aN rfl (i:=l.length*4+1) (u:= .string ⟨#[]⟩) (by rw [List.getElem?_append_right (by omega),hyl,Nat.add_sub_cancel_left];rfl);have o2:=aR aN rfl (i:=l.length*4+2) (u:= .slice none 0 0) (by rw [List.getElem?_append_right (by omega),hyl,Nat.add_sub_cancel_left];rfl);have o3:=aR aN rfl (i:=l.length*4+3) (u:= .slice none 0 0) (by rw [List.getElem?_append_right (by omega),hyl,Nat.add_sub_cancel_left];rfl);obtain⟨o0,q0⟩:=o0;obtain⟨o1,q1⟩:=o1;obtain⟨o2,q2⟩:=o2;obtain⟨o3,q3⟩:=o3;have zY:=hid iQ;have hne1:¬g7=nb:=by omega
   have hne2:¬nb=g7:=by omega
   clear he aN iC fO iQ hy hr;refine hK.out _ _ iT.out ?_;clear hK K
   try simp only [Act.put,sq]
   refine tt 7 (.pointer (some ⟨g7,l.length*4,none⟩)) (fun _=>iT.out) (hy:=by intro w' hSw;go_simp <;> (intro h;omega)) ?_;refine tt 9 (.pointer (some ⟨nb,5,none⟩)) (fun _=>iT.out) ?_;refine ay (rs:=[8,10]) (by kernel_rfl) (by simp) ?_;refine av.cons rfl (fun K hK=> ?_) (av.past rfl (by kernel_rfl) (fun K hK=> ?_) av.nil)
   ·go_simp;have pE:=hid (iT.out.trans (fA g7 [.int .i64 kz,sv sz, .slice lW lX lY, .slice lZ l6 l7] w7 (l.length*4)) (fun _ _ h=> .inr (by omega)));refine hK.out _ _ pE.out ?_;clear hK K
    try simp only [Act.put,sq]
    refine ay (rs:=[10]) (by kernel_rfl) (by simp) ?_;refine av.past rfl (by kernel_rfl) (fun K hK=> ?_) (av.nil);go_simp;refine hK.out _ _ ?_;clear hK K
    try simp only [Act.put,sq]
    refine aM (by kernel_rfl) ?_ _;obtain⟨eT,t68,t78,mZ,oN⟩:=HE.out ((kr w7 g7 (l.length*4) [.int .i64 kz,sv sz, .slice lW lX lY, .slice lZ l6 l7]).setCell ⟨nb,5,none⟩ (.slice (some ⟨g7,0,none⟩) (l.length+1) c7)) (.inl rfl);have iO:=mZ _ _ zY.out;have oZ:=kP.out.turn t78 (fun e=>by rcases e with e | e <;> omega) (fun k hk e=>by have:=oI.out.1;rcases e with e | e <;> omega);have hlo:=dV.out.lt;have za:Hid (Pr.good (l++[x]) pq=Q):=hid ((au zR.out).symm.trans HQ.out);go_wp2_with fail;go_end0;have pF:=(jA.out.mono (G:=fun k=>k=bp∨k=nb∨base≤k) (fun _ _ h=> .inl h)).trans t68 (fun i hi e=>by rcases e with e | e;exact .inr (.inr (hlo i e).1);exact .inr (.inl e));exact dM.done za.out.symm pF ⟨ah Ki.out pF (by omega), _,iO,eT⟩ oZ
   ·go_simp;refine hK.out _ _ ?_;clear hK K
    try simp only [Act.put,sq]
    refine ay (rs:=[8]) (by kernel_rfl) (by simp) ?_;refine av.past rfl (by kernel_rfl) (fun K hK=> ?_) (av.nil);go_simp;refine hK.out _ _ ?_;clear hK K
    try simp only [Act.put,sq]
    refine aM (by kernel_rfl) ?_ _;obtain⟨eT,t68,t78,mZ,oN⟩:=HE.out (kr (w7.setCell ⟨nb,5,none⟩ (.slice (some ⟨g7,0,none⟩) (l.length+1) c7)) g7 (l.length*4) [.int .i64 kz,sv sz, .slice lW lX lY, .slice lZ l6 l7]) (.inr rfl);have iO:=mZ _ _ zY.out;have oZ:=kP.out.turn t78 (fun e=>by rcases e with e | e <;> omega) (fun k hk e=>by have:=oI.out.1;rcases e with e | e <;> omega);have hlo:=dV.out.lt;have za:Hid (Pr.good (l++[x]) pq=Q):=hid ((au zR.out).symm.trans HQ.out);go_wp2_with fail;go_end0;have pF:=(jA.out.mono (G:=fun k=>k=bp∨k=nb∨base≤k) (fun _ _ h=> .inl h)).trans t68 (fun i hi e=>by rcases e with e | e;exact .inr (.inr (hlo i e).1);exact .inr (.inl e));exact dM.done za.out.symm pF ⟨ah Ki.out pF (by omega), _,iO,eT⟩ oZ
 ·skip
  go_simp;have Gi:=hid (HD0.out.trans (Turn.alloc (fun j=>j=bp∨base≤j) w.drew (.cells #[.int .i64 0, .string ⟨#[]⟩, .slice none 0 0, .slice none 0 0] 57)) (fun _ _ h=>h));have zW:=hid (pK _ bp B ts (bK.below (w:=w.drew) HK.out (new1 w.drew (.cells #[.int .i64 0, .string ⟨#[]⟩, .slice none 0 0, .slice none 0 0] 57))));have nM:=hid (jW.out.trans (Turn.alloc (fun j=>j=bp) w.drew (.cells #[.int .i64 0, .string ⟨#[]⟩, .slice none 0 0, .slice none 0 0] 57)) (fun _ _ h=>h));refine hK.out _ _ Gi.out ?_;clear hK K
  try simp only [Act.put,sq]
  refine ay (rs:=[3]) (by kernel_rfl) (by simp) ?_;refine av.cons rfl (fun K hK=> ?_) (av.nil);go_simp;refine(zW.out).mono ?_;rintro e pJ h10;rcases hq:typ ts with g | ⟨x,pq⟩
  ·obtain⟨rfl,tn,bn⟩:=h10.bM hq;have tn:=nM.out.trans tn (fun _ _ h=>h);have dG:=hid (HQ.out.symm.trans (aB hq));exact⟨rfl,dM.fail dG.out (tn.mono fun _ _ h=> .inl h) bn⟩
  ·obtain⟨v10,rfl,tn,⟨z,rfl,hz⟩,kn⟩:=h10.aL hq;obtain⟨kz,sz,lW,lX,lY,lZ,l6,l7,rfl⟩:=hz.shape';have kC:=hid (nM.out.trans tn (fun _ _ h=>h));have sD:=hid (kC.out.mono (G:=fun j=>j=bp∨base≤j) (fun _ _ h=> .inl h));have sF:=hid kn;have zR:=hid hq;have HZ:=hid (aO.mono hz (G:=fun j=>w.heap.size≤j) (fun _ _ h=>Nat.le_trans nM.out.size h));have jA:=kC;have Gh:=HZ;have oI:=sF;have HSL:=hid (mM w.drew #[.int .i64 0, .string ⟨#[]⟩, .slice none 0 0, .slice none 0 0] 57 4 1 rfl (by decide) tn (by have hs:w.drew.heap.size=w.heap.size:=rfl;omega));clear h10 tn kn hq hz;refine hK.out _ _ sD.out ?_;clear hK K
   try simp only [Act.put,sq]
   refine ay (rs:=[6]) (by kernel_rfl) (by simp) ?_;refine av.cons rfl (fun K hK=> ?_) (av.nil);obtain⟨ys,hy,hr⟩:=dV.out;have hyl:ys.length=l.length*4:=by have:=hy.1;simpa using this
   have qw:=hid (dK hy jA.out (fun g hg e=>by have:=(hy.lt g hg).1;omega));refine fq rfl (.tmp 3) (.tmp 7) _ rfl base uh (.slice Ak l.length ck) _ rfl rfl qw.out HSL.out xS (by simp [maxLen];omega) (by simp;omega) (by have:=jA.out.size;omega) (fun v7 w7 n7 aN iC fO=> ?_);have Bg:n7=l.length+1:=by have:=aN.1;rw [List.length_append,hyl]at this;simp at this;omega
   subst Bg;obtain⟨g7,c7,rfl,hgb,hgs,Tx,Rb⟩:=gH aN (by omega);have he:=fun w8=>qL aO (by omega) (cb:=nb) (ci:=5) hy hr jA.out Gh.out (by rfl) aN iC fO rfl (by omega) (F:=fun j=>base≤j) (by omega) (by omega) (fun j hj=>by omega) (by omega) w8;simp only [List.length_map]at he;have HE:=hid he;have iT:=hid ((jA.out.mono (G:=fun j=>j=bp∨base≤j) (fun _ _ h=> .inl h)).trans (Turn.bA iC (F:=fun j=>j=bp∨base≤j) (fun k e=> .inr (hy.lt k e).1)) (fun _ _ h=>h));have kP:=hid (oI.out.turn (Turn.bA iC (F:=fun j=>base≤j) (fun k e=>(hy.lt k e).1)) (by omega) (fun k hk e=>by have:=oI.out.1;omega));have iQ:=ah oM.out iT.out (by omega);have ec:=(cell_of_row _ _ 5 _ _ _ iQ).trans rfl;have ez:=frozen_of_row _ _ 5 _ _ iQ;have o0:=aR aN rfl (i:=l.length*4) (u:= .int .i64 0) (by rw [List.getElem?_append_right (by omega),hyl,Nat.sub_self];rfl);have o1:=aR aN rfl (i:=l.length*4+1) (u:= .string ⟨#[]⟩) (by rw [List.getElem?_append_right (by omega),hyl,Nat.add_sub_cancel_left];rfl);have o2:=aR aN rfl (i:=l.length*4+2) (u:= .slice none 0 0) (by rw [List.getElem?_append_right (by omega),hyl,Nat.add_sub_cancel_left];rfl);have o3:=aR aN rfl (i:=l.length*4+3) (u:= .slice none 0 0) (by rw [List.getElem?_append_right (by omega),hyl,Nat.add_sub_cancel_left];rfl);obtain⟨o0,q0⟩:=o0;obtain⟨o1,q1⟩:=o1;obtain⟨o2,q2⟩:=o2;obtain⟨o3,q3⟩:=o3;have zY:=hid iQ;have hne1:¬g7=nb:=by omega
   have hne2:¬nb=g7:=by omega
   clear he aN iC fO iQ hy hr;refine hK.out _ _ iT.out ?_;clear hK K
   try simp only [Act.put,sq]
   refine tt 7 (.pointer (some ⟨g7,l.length*4,none⟩)) (fun _=>iT.out) (hy:=by intro w' hSw;go_simp <;> (intro h;omega)) ?_;refine tt 9 (.pointer (some ⟨nb,5,none⟩)) (fun _=>iT.out) ?_;refine ay (rs:=[8,10]) (by kernel_rfl) (by simp) ?_;refine av.cons rfl (fun K hK=> ?_) (av.past rfl (by kernel_rfl) (fun K hK=> ?_) av.nil)
   ·go_simp;have pE:=hid (iT.out.trans (fA g7 [.int .i64 kz,sv sz, .slice lW lX lY, .slice lZ l6 l7] w7 (l.length*4)) (fun _ _ h=> .inr (by omega)));refine hK.out _ _ pE.out ?_;clear hK K
    try simp only [Act.put,sq]
    refine ay (rs:=[10]) (by kernel_rfl) (by simp) ?_;refine av.past rfl (by kernel_rfl) (fun K hK=> ?_) (av.nil);go_simp;refine hK.out _ _ ?_;clear hK K
    try simp only [Act.put,sq]
    refine aM (by kernel_rfl) ?_ _;obtain⟨eT,t68,t78,mZ,oN⟩:=HE.out ((kr w7 g7 (l.length*4) [.int .i64 kz,sv sz, .slice lW lX lY, .slice lZ l6 l7]).setCell ⟨nb,5,none⟩ (.slice (some ⟨g7,0,none⟩) (l.length+1) c7)) (.inl rfl);have iO:=mZ _ _ zY.out;have oZ:=kP.out.turn t78 (fun e=>by rcases e with e | e <;> omega) (fun k hk e=>by have:=oI.out.1;rcases e with e | e <;> omega);have hlo:=dV.out.lt;have za:Hid (Pr.good (l++[x]) pq=Q):=hid ((au zR.out).symm.trans HQ.out);go_wp2_with fail;go_end0;have pF:=(jA.out.mono (G:=fun k=>k=bp∨k=nb∨base≤k) (fun _ _ h=> .inl h)).trans t68 (fun i hi e=>by rcases e with e | e;exact .inr (.inr (hlo i e).1);exact .inr (.inl e));exact dM.done za.out.symm pF ⟨ah Ki.out pF (by omega), _,iO,eT⟩ oZ
   ·go_simp;refine hK.out _ _ ?_;clear hK K
    try simp only [Act.put,sq]
    refine ay (rs:=[8]) (by kernel_rfl) (by simp) ?_;refine av.past rfl (by kernel_rfl) (fun K hK=> ?_) (av.nil);go_simp;refine hK.out _ _ ?_;clear hK K
    try simp only [Act.put,sq]
    refine aM (by kernel_rfl) ?_ _;obtain⟨eT,t68,t78,mZ,oN⟩:=HE.out (kr (w7.setCell ⟨nb,5,none⟩ (.slice (some ⟨g7,0,none⟩) (l.length+1) c7)) g7 (l.length*4) [.int .i64 kz,sv sz, .slice lW lX lY, .slice lZ l6 l7]) (.inr rfl);have iO:=mZ _ _ zY.out;have oZ:=kP.out.turn t78 (fun e=>by rcases e with e | e <;> omega) (fun k hk e=>by have:=oI.out.1;rcases e with e | e <;> omega);have hlo:=dV.out.lt;have za:Hid (Pr.good (l++[x]) pq=Q):=hid ((au zR.out).symm.trans HQ.out);go_wp2_with fail;go_end0;have pF:=(jA.out.mono (G:=fun k=>k=bp∨k=nb∨base≤k) (fun _ _ h=> .inl h)).trans t68 (fun i hi e=>by rcases e with e | e;exact .inr (.inr (hlo i e).1);exact .inr (.inl e));exact dM.done za.out.symm pF ⟨ah Ki.out pF (by omega), _,iO,eT⟩ oZ
theorem Gy (d:Int) (typ:Ps bT) (hsf:Sf typ) (pK:uj d typ) (w:World) (bp B:Nat) (ts:List aD) (h:bK w bp B ts d) (t:aD):
  Calls Tryz.prog 224 #[.pointer (some ⟨bp,0,none⟩), .agg (nP 0 t)] w (aF (LW w.heap.size) bp B d w (lU typ t ts)):=by
 have hlt:=h.lt;have hB:=h.1;obtain⟨Q,hQ⟩:∃Q,lU typ t ts=Q:=⟨_,rfl⟩
 rw [hQ];have HQ:Hid (aj nameP (fun s=>aj (bY [91]) fun b=>if b then aj (iB typ) fun l=>aj (aI [93]) fun _=>aG (aK 19 s 0 t l [] [])else aG (aK 4 s 0 t [] [] [])) ts=Q):=hid hQ;have HN:=hid (fH (((w.alloc (.cells #[.pointer (some ⟨bp,0,none⟩)] 91)).alloc (.cells (nP 0 t) 52)).alloc (.cells #[.int .i64 0, .string ⟨#[]⟩, .int .i64 0, .int .i64 0, .int .i64 0, .slice none 0 0, .slice none 0 0, .slice none 0 0] 52)) bp B ts d (h.below (V9 _ _ _ _)));clear h hQ;go_enter Tryz.func224,Tryz.ntmps224;go_wp2_with fail;refine(HN.out).mono ?_;rintro e w1 h1;rcases hq:nameP ts with g | ⟨s,r1⟩
 ·obtain⟨rfl,tn,bn⟩:=h1.bM hq;have tn:=(vC tn).1;have HB:=hid (dX.mk2 tn bn);have dG:=hid (HQ.out.symm.trans (aB hq));clear h1 tn bn hq;go_wp2_with fail;exact⟨rfl,aF.fail dG.out HB.out⟩
 ·obtain⟨v1,rfl,tn,rfl,kn⟩:=h1.aL hq;obtain⟨tm,hs1,hbx,hnb,hrs⟩:=vC tn;have HT1:=hid tm;have oJ:=hid (hbx (by omega));have Uw:=hnb (by omega);have mq:=hid (hrs (by omega));have lq:Hid (aj (bY [91]) (fun b=>if b then aj (iB typ) fun l=>aj (aI [93]) fun _=>aG (aK 19 s 0 t l [] [])else aG (aK 4 s 0 t [] [] [])) r1=Q):=hid ((au hq).symm.trans HQ.out);have t2:=(ak w1 (w.heap.size+1) 0 (.int .i64 4)).trans (ak _ (w.heap.size+1) 1 (sv s)) (fun _ _ h=>h);have Yd:=heap_setCell_same _ _ 1 _ _ (sv s) (heap_setCell_same _ _ 0 _ _ (.int .i64 4) Uw);have iR:=hid (kn.turn t2 (by omega) (fun k hk e=>by omega));have Gj:=hid (ah oJ.out t2 (by omega));have uJ:=hid (ah mq.out t2 (by omega));have abE:=hid (show((w1.setCell ⟨w.heap.size+1,0,none⟩ (.int .i64 4)).setCell ⟨w.heap.size+1,1,none⟩ (sv s)).heap[w.heap.size+1]? =some (.cells #[.int .i64 4,sv s, .int .i64 0, .int .i64 t.line, .int .i64 t.col, .slice none 0 0, .slice none 0 0, .slice none 0 0] 52 (0,0))from Yd);have HT2:=hid (HT1.out.trans t2 (fun i hi e=>by omega));have hw2:=t2.size;have HH:=hid (jr _ bp B r1 d iR.out [91]);obtain⟨m0,m1,m2,m3,m4,m5,m6,m7,mz⟩:=aT Uw;have hb1:=bQ oJ.out;have af0:¬w.heap.size+1=w.heap.size:=by omega
  have af2:¬w.heap.size=w.heap.size+1:=by omega
  clear h1 tn tm kn hbx hnb hrs hq Uw t2 Yd;go_wp2_with fail;generalize(w1.setCell ⟨w.heap.size+1,0,none⟩ (.int .i64 4)).setCell ⟨w.heap.size+1,1,none⟩ (.string ⟨s.toArray⟩)=W2 at*
  refine(HH.out).mono ?_;rintro e w3 h3;rcases hq:bY [91] r1 with g | ⟨b,r3⟩
  ·exact(gJ hq).elim
  ·obtain⟨v3,rfl,tn,rfl,kn⟩:=h3.aL hq;have hs3:=tn.size;have HT3:=hid (aA HT2.out tn);have iM:=hid kn;have Ux:=ah Gj.out tn (by omega);have qy:=hid Ux;have jf:=hid (ah uJ.out tn (by omega));have uK:=ah abE.out tn (by omega);have lu:=hid uK;have gQ:=hid hq;obtain⟨m0,m1,m2,m3,m4,m5,m6,m7,mz⟩:=aT uK;have hb3:=bQ Ux;clear h3 tn kn hq uK Ux;cases b
   ·have fV:Hid (Pr.good (aK 4 s 0 t [] [] []) r3=Q):=hid ((au gQ.out).symm.trans lq.out);obtain⟨c0,c1,c2,c3,c4,c5,c6,c7,cz⟩:=aT jf.out;go_wp2_with fail;refine bodyPost_ret (aS rfl rfl (aV jf.out _ _ _ _ _ _ _ _) Tryz.underlying52 rfl (by kernel_rfl)) rfl ?_;exact aF.done fV.out.symm (bI HT3.out (by omega)) ⟨_,rfl, .mk (dB.nil _ _ _) .nil (dB.nil _ _ _) (dB.nil _ _ _) .nil⟩ (iM.out.fQ (by omega))
   ·have fV:Hid (aj (iB typ) (fun l=>aj (aI [93]) fun _=>aG (aK 19 s 0 t l [] [])) r3=Q):=hid ((au gQ.out).symm.trans lq.out);have OH:∀(fn:Fn) (first cap:Array Value) (w:World),(Instr.makeFunc fn first cap).run Tryz.prog w= .ok (.func fn first cap) w:=fun _ _ _ _=>rfl;have t4:=ak w3 (w.heap.size+1) 0 (.int .i64 19);have hk4:=iM.out.turn t4 (by omega) (fun k hk e=>by omega);have hI4:Gv w.heap.size (w.heap.size+1) (w.heap.size+3) bp s t (w3.setCell ⟨w.heap.size+1,0,none⟩ (.int .i64 19)) []:=⟨ah qy.out t4 (by omega), _,heap_setCell_same _ _ 0 _ _ _ lu.out,fu.nil _ _ _ _ _ _⟩
    have fP:=hid (HT3.out.trans t4 (fun i hi e=>by omega));have hs4:=t4.size;have iD:=hid (ah jf.out t4 (by omega))
    have L9:=hid (jE typ hsf 237 #[.pointer (some ⟨w.heap.size+1,0,none⟩), .pointer (some ⟨w.heap.size,0,none⟩)] (Gv w.heap.size (w.heap.size+1) (w.heap.size+3) bp s t) (fun k=>k=bp∨k=w.heap.size+1∨w.heap.size+3≤k) d _ bp B r3 (.inl rfl)
     (fun a b l tn h=>h.turn tn (by omega) (by omega) (by omega)) (fun g h=> .inr (.inr (by omega)))
     (fun w1 r l hl hw hi hk=>Gw d typ pK w1 bp B _ _ _ s t r l hl hk hi (by omega) (by omega) (by omega) (by omega) (by omega) (by omega)) (fun _=>by kernel_rfl) hk4 hI4)
    clear t4 hk4 hI4;go_wp2_with fail;refine(L9.out).mono ?_;rintro e w5 h5;rcases hq:iB typ r3 with g | ⟨l,r5⟩
    ·obtain⟨rfl,tn,bn⟩:=h5.bM hq;have HB:=hid (dX.mk2 (fP.out.trans tn (fun i hi e=>by rcases e with e | e | e <;> omega)) bn);have dG:=hid (fV.out.symm.trans (aB hq));clear h5 tn bn hq;go_wp2_with fail;exact⟨rfl,aF.fail dG.out HB.out⟩
    ·obtain⟨rfl,tn,MS,kn⟩:=h5.aL hq;have hs5:=tn.size;have fM:=hid (fP.out.trans tn (fun i hi e=>by rcases e with e | e | e <;> omega));have iE:=hid (ah iD.out tn (by omega));have K5:=hid MS;have kW:=hid kn;have hb5:=bQ MS.1;have gN:Hid (aj (aI [93]) (fun _=>aG (aK 19 s 0 t l [] [])) r5=Q):=hid ((au hq).symm.trans fV.out);have K4:=hid (eG w5 bp B r5 d kn [93] 9 w5.heap.size);clear h5 tn MS kn hq;go_wp2_with fail;refine(K4.out).mono ?_;rintro e w6 h6;rcases hq:aI [93] r5 with g | ⟨u,r6⟩
     ·obtain⟨rfl,tn,bn⟩:=h6.bM hq;have HB:=hid (dX.mk2 (aA fM.out tn) bn);have dG:=hid (gN.out.symm.trans (aB hq));clear h6 tn bn hq;go_wp2_with fail;exact⟨rfl,aF.fail dG.out HB.out⟩
     ·obtain⟨v6,rfl,tn, -,kn⟩:=h6.aL hq;have kQ:=hid (aA fM.out tn);have sU:=hid kn;have ng:=hid (ah iE.out tn (by omega));have rz:Hid (Pr.good (aK 19 s 0 t l [] []) r6=Q):=hid ((au hq).symm.trans gN.out);obtain⟨_,v,OM,I4⟩:=K5.out.turn tn (by omega) (by omega) (by omega);obtain⟨A6,c6',hv6, _, _⟩:=I4.shape;subst hv6;have Cb:=hid I4;obtain⟨f0,f1,f2,f3,f4,f5,f6,f7,fz⟩:=aT OM;clear h6 tn kn hq OM I4;obtain⟨c0,c1,c2,c3,c4,c5,c6,c7,cz⟩:=aT ng.out;go_wp2_with fail;refine bodyPost_ret (aS rfl rfl (aV ng.out _ _ _ _ _ _ _ _) Tryz.underlying52 rfl (by kernel_rfl)) rfl ?_;obtain⟨xs,q1,q2⟩:=Cb.out.sl aO;have tF:=bB w6 (w.heap.size+1+1) (.int .i64 19) (sv s) (.int .i64 0) (.int .i64 t.line) (.int .i64 t.col) (.slice A6 l.length c6') (.slice none 0 0) (.slice none 0 0);exact aF.done rz.out.symm (bI kQ.out (by omega)) ⟨_,rfl, .mk ((q1.turn tF (fun g _ h e=>by rcases h with h | h <;> omega)).mono (fun g _ h=>by rcases h with h | h <;> omega)) (kZ (dD aO (fun g _ h=>by rcases h with h | h <;> omega) (bD aO tF (fun g _ h e=>by rcases h with h | h <;> omega) q2))) (dB.nil _ _ _) (dB.nil _ _ _) .nil⟩ (sU.out.fQ (by omega))
end Go.Proofs.YtfgjkmipfikooaaGreatDoor
