/- HB, HE, HD, HF -/
import Derived.Test.YtfgjkmipfikooaaGreatDoorEB17
set_option linter.unusedSimpArgs false
set_option linter.unusedVariables false
set_option maxRecDepth 100000
set_option maxHeartbeats 8000000
namespace Go.Proofs.YtfgjkmipfikooaaGreatDoor
open Go.RowKit
theorem K7 {k:Int}{ts r:List aD}{s:Bt}(h:fK k ts=.good s r):s=(aW ts).text:=by
 unfold fK at h;split at h
 ·injection h with h _;exact h.symm
 ·cases h
theorem RV (d:Int)(typ:Ps bC)(expr:Ps bF)(hst:Sf typ)(hse:Sf expr)(wP:xX d typ)(DZ:yh d expr):VF d (iJ typ expr):=by
 intro w bp B ts h;have hlt:=h.lt;have hB:=h.1;have hlaid:=h.laid;have K8:=h.2.1;obtain⟨Q,hQ⟩:∃Q,iJ typ expr ts=Q:=⟨_,rfl⟩
 rw [hQ];obtain⟨t0,ht0⟩:∃t0,aW ts=t0:=⟨_,rfl⟩
 have HQ:bR ((if t0.kind=3 then au (fK 3) fun s=>aJ (aL 0 [] (fP s).1 t0 [] [] [])
  else if t0.kind=4 then au (fK 4) fun s=>aJ (aL 1 s 0 t0 [] [] [])
  else au (dJ wL) (fun i=>match i with
   |none=>lK typ t0
   |some 0=>aJ (aL 2 [] 0 t0 [] [] [])
   |some 1=>aJ (aL 2 [] 1 t0 [] [] [])
   |some 2=>aJ (aL 3 [] 0 t0 [] [] [])
   |some 3=>au (jX [[40],[41]]) fun _=>aJ (aL 18 [] 0 t0 [] [] [])
   |some 4=>au (bK expr [[40]] []) fun k=>au (aN [41]) fun _=>aJ (aL 17 [] 0 t0 [] [] k)
   |some 5=>au expr fun x=>au (aN [41]) fun _=>aJ x
   |some _=>au (rC expr t0) fun x=>au (aN [125]) fun _=>aJ x)) ts=Q):=aZ (by subst ht0;exact hQ)
 have XF:=aZ K8;have Ej:=aZ h.wf;have Vr:=aZ hlaid;have GZ:=aZ ht0;have HH:=aZ (rM d (w.alloc (.cells #[.int .i64 0,.string ⟨#[]⟩,.int .i64 0,.int .i64 0,.int .i64 0,.slice none 0 0,.slice none 0 0,.slice none 0 0] 52)) bp B ts (h.below (new1 _ _)) 0);rw [ht0]at HH;have Ih:=aZ (h.below (new1 w (.cells #[.int .i64 0,.string ⟨#[]⟩,.int .i64 0,.int .i64 0,.int .i64 0,.slice none 0 0,.slice none 0 0,.slice none 0 0] 52)));clear h hQ hlaid K8;go_enter Tryz.func215,Tryz.ntmps215;go_wp2_with fail;refine(HH.o).mono ?_;rintro e w2 ⟨rfl,hb2⟩;obtain⟨tm,hs2,hrs⟩:=bT (Turn.of_below (F:=fun k=>k=bp) hb2);have HT2:=aZ tm;have nL:=aZ (Ih.o.below hb2);have yw:=aZ (hrs (by omega));have HN:=aZ (l8 (w2.alloc (.cells (rJ 0 t0) 52)) bp B ts d (nL.o.below (new1 _ _)));rw [ht0]at HN;clear hb2 tm hrs ht0;go_wp2_with fail;refine(HN.o).mono ?_;rintro e w3 ⟨rfl,hb3⟩;obtain⟨tm,hs3,hnb⟩:=bT (Turn.of_below (F:=fun k=>k=bp) hb3);have HT3:=aZ (aA HT2.o tm);have lZ:=aZ ((nL.o.below (new1 _ _)).below hb3);have kV:=aZ (ah yw.o tm (by omega));have yx:=hnb (by omega);have oq:=aZ yx;have Xn:¬w2.heap.size=w.heap.size:=by omega
 have Xo:¬w.heap.size=w2.heap.size:=by omega
 have ahF:¬w2.heap.size=w3.heap.size:=by omega
 have ahG:¬w3.heap.size=w2.heap.size:=by omega
 have hlt2:w2.heap.size<w3.heap.size:=by omega
 obtain⟨m0,m1,m2,m3,m4,m5,m6,m7,mz⟩:=aX yx;clear hb3 tm hnb yx;unfold sJ;by_cases h3:t0.kind=3
 ·have hb3:(t0.kind==3)=true:=by simp [h3]
  have jO:bR (au (fK 3) (fun s=>aJ (aL 0 [] (fP s).1 t0 [] [] [])) ts=Q):=aZ (by have:=HQ.o;rwa [if_pos h3]at this);have H3:=aZ h3;have t6:=(ak w3 w2.heap.size 0 (.int .i64 0)).trans (Turn.alloc (fun k=>k=w2.heap.size) _ (.cells #[.int .i64 t0.kind,sv t0.text,.int .i64 t0.line,.int .i64 t0.col] 154)) (fun _ _ h=>h);obtain⟨W6,MO⟩:∃W6,(w3.setCell ⟨w2.heap.size,0,none⟩ (.int .i64 0)).alloc (.cells #[.int .i64 t0.kind,sv t0.text,.int .i64 t0.line,.int .i64 t0.col] 154)=W6:=⟨_,rfl⟩
  have Tf:=Dc (w3.setCell ⟨w2.heap.size,0,none⟩ (.int .i64 0)) (.cells #[.int .i64 t0.kind,sv t0.text,.int .i64 t0.line,.int .i64 t0.col] 154);rw [MO]at t6 Tf;rw [show(w3.setCell ⟨w2.heap.size,0,none⟩ (.int .i64 0)).heap.size=w3.heap.size by simp]at Tf;have Rx:=aZ (show W6.heap[w2.heap.size]? =some (.cells (rJ 0 t0) 52 (0,0)) by rw [<-MO];exact bV (heap_setCell_same _ _ 0 _ _ (.int .i64 0) oq.o));have z8:=aZ (lZ.o.turn t6 (by omega) (fun k hk e=>by have:=lZ.o.1;omega));have pK:=aZ (HT3.o.trans t6 (fun i hi e=>by omega));have qQ:=aZ (ah kV.o t6 (by omega));have hs6:=t6.size;have Tt:=(dA Tf).1;have PT:=aZ (fun(w':World) (h:Turn (fun j=>j=bp) W6 w')=>aO Tt h (by omega));have HD0:bR (Turn (fun j=>j=bp) W6 W6.drew):=aZ ⟨rfl,rfl,rfl,Nat.le_refl _,fun _ _ _=>rfl⟩;have yA:=aZ (rE W6.drew bp B ts d z8.o 3);have YJ:=aZ MO;clear h3 t6 Tf Tt MO;go_wp2_with fail;rw [YJ.o];refine dn (S:=fun w'=>Turn (fun j=>j=bp) W6 w') (x:=11) (by kernel_rfl) ?_
  try simp only [Act.put,sq]
  refine tx 0 (.pointer (some ⟨bp,0,none⟩)) HD0.o ?_;refine tx 1 (.pointer (some ⟨bp,0,none⟩)) HD0.o ?_;refine tx 2 (.pointer (some ⟨bp,0,none⟩)) HD0.o ?_;refine tx 3 (.pointer (some ⟨w3.heap.size,0,none⟩)) HD0.o ?_;refine nM 4 (.int .i64 t0.kind) PT.o HD0.o ?_;refine ay (rs:=[5]) (by kernel_rfl) (by simp) ?_;refine av.cons rfl (fun K hK=>?_) (av.nil);go_simp;rw [H3.o];refine(yA.o).mono ?_;rintro e w7 h7;rcases hq:fK 3 ts with g |⟨s,r7⟩
  ·obtain⟨rfl,tn,bn⟩:=h7.bY hq;have dU:=aZ (jO.o.symm.trans (aB hq));exact⟨rfl,aG.fail dU.o (fA.mk2 (aA pK.o (aA HD0.o tn)) bn)⟩
  ·obtain⟨v7,rfl,tn,rfl,kn⟩:=h7.aR hq;have kQ:=aZ (aA HD0.o tn);have hs7:=kQ.o.size;have oK:=aZ kn;have Bh:bR (Pr.good (aL 0 [] (fP s).1 t0 [] [] []) r7=Q):=aZ ((aj hq).symm.trans jO.o);have ahH:s.length<=100000:=by
    have e:=K7 hq;rw [e];exact XF.o.2 _ Ej.o.CY
   clear h7 tn kn hq;refine hK.out _ _ kQ.o ?_;clear hK K
   try simp only [Act.put,sq]
   refine ay (rs:=[6]) (by kernel_rfl) (by simp) ?_;refine av.cons rfl (fun K hK=>?_) (av.nil);go_simp;refine(EA ⟨s.toArray⟩ w7 (by show s.toArray.size<= _;simp;omega) oK.o.laid.here).mono ?_;rintro e w8 ⟨rfl,pO⟩;have qc:=aZ (aA kQ.o (Turn.of_below (F:=fun k=>k=bp) pO));have zm:=pO.size;have vV:=aZ (oK.o.below pO);clear pO;rw [show(ByteArray.mk s.toArray).data.toList=s from rfl];refine hK.out _ _ qc.o ?_;clear hK K
   try simp only [Act.put,sq]
   refine tx 7 (.tuple #[.int .i64 (fP s).1,.bool (fP s).2]) qc.o ?_;refine tx 8 (.int .i64 (fP s).1) qc.o ?_;refine tt 9 (.bool (fP s).2) (fun _=>qc.o) ?_;refine tt 10 (.pointer (some ⟨w2.heap.size,2,none⟩)) (fun _=>qc.o) ?_;have Rz:=ah Rx.o qc.o (by omega);have XG:=ah qQ.o qc.o (by omega);obtain⟨y0,y1,y2,y3,y4,y5,y6,y7,yz⟩:=aX Rz;obtain⟨c0,c1,c2,c3,c4,c5,c6,c7,cz⟩:=aX XG;have t9:=ak w8 w2.heap.size 2 (.int .i64 (fP s).1);have I5:=aZ (ah XG t9 (by omega));have Gz:=aZ (vV.o.turn t9 (by omega) (fun k hk e=>by have:=lZ.o.1;omega));have AZ:=aZ ((aA pK.o qc.o).trans t9 (fun i hi e=>by omega));clear m0 m1 m2 m3 m4 m5 m6 m7 mz Rz XG t9;refine ay (rs:=[11]) (by kernel_rfl) (by simp) ?_;refine av.past rfl (by kernel_rfl) (fun K hK=>?_) (av.nil);go_simp;refine hK.out _ _ ?_;clear hK K
   try simp only [Act.put,sq]
   refine aV (by kernel_rfl) ?_ _;go_wp2_with fail;have tF:=bM (w8.setCell ⟨w2.heap.size,2,none⟩ (.int .i64 (fP s).1)) w.heap.size (.int .i64 0) (.string ⟨#[]⟩) (.int .i64 (fP s).1) (.int .i64 t0.line) (.int .i64 t0.col) (.slice none 0 0) (.slice none 0 0) (.slice none 0 0);refine bodyPost_ret (bD rfl rfl (aY I5.o _ _ _ _ _ _ _ _) Tryz.underlying52 rfl (by kernel_rfl)) rfl ?_;exact aG.done Bh.o.symm (bW AZ.o (by omega)) ⟨_,rfl,.mk (eD.nil _ _ _) .nil (eD.nil _ _ _) (eD.nil _ _ _) .nil⟩ (Gz.o.iy (by omega))
 ·have hb3:(t0.kind==3)=false:=by simp [h3]
  have YS:bR ((if t0.kind=4 then au (fK 4) (fun s=>aJ (aL 1 s 0 t0 [] [] []))else au (dJ wL) (fun i=>match i with
    |none=>lK typ t0
    |some 0=>aJ (aL 2 [] 0 t0 [] [] [])
    |some 1=>aJ (aL 2 [] 1 t0 [] [] [])
    |some 2=>aJ (aL 3 [] 0 t0 [] [] [])
    |some 3=>au (jX [[40],[41]]) fun _=>aJ (aL 18 [] 0 t0 [] [] [])
    |some 4=>au (bK expr [[40]] []) fun k=>au (aN [41]) fun _=>aJ (aL 17 [] 0 t0 [] [] k)
    |some 5=>au expr fun x=>au (aN [41]) fun _=>aJ x
    |some _=>au (rC expr t0) fun x=>au (aN [125]) fun _=>aJ x)) ts=Q):=aZ (by have:=HQ.o;rwa [if_neg h3]at this)
  clear h3 HQ;by_cases h4:t0.kind=4
  ·have hb4:(t0.kind==4)=true:=by simp [h4]
   have jO:bR (au (fK 4) (fun s=>aJ (aL 1 s 0 t0 [] [] [])) ts=Q):=aZ (by have:=YS.o;rwa [if_pos h4]at this);have H4:=aZ h4;have t6:=Turn.alloc (fun _=>False) w3 (.cells #[.int .i64 t0.kind,sv t0.text,.int .i64 t0.line,.int .i64 t0.col] 154);obtain⟨W6,MO⟩:∃W6,w3.alloc (.cells #[.int .i64 t0.kind,sv t0.text,.int .i64 t0.line,.int .i64 t0.col] 154)=W6:=⟨_,rfl⟩
   have Tf:=Dc w3 (.cells #[.int .i64 t0.kind,sv t0.text,.int .i64 t0.line,.int .i64 t0.col] 154);rw [MO]at t6 Tf;have Rx:=aZ (ah oq.o t6 id);have z8:=aZ (lZ.o.turn t6 id (fun _ _=>id));have pK:=aZ (HT3.o.trans t6 (fun i hi e=>e.elim));have qQ:=aZ (ah kV.o t6 id);have hs6:=t6.size;have Tt:=(dA Tf).1;have PT:=aZ (fun(w':World) (h:Turn (fun j=>j=bp∨j=w2.heap.size) W6 w')=>aO Tt h (by omega));have mP:bR (Turn (fun j=>j=bp) W6 W6.drew):=aZ ⟨rfl,rfl,rfl,Nat.le_refl _,fun _ _ _=>rfl⟩;have HD0:=aZ (mP.o.mono (G:=fun j=>j=bp∨j=w2.heap.size) (fun _ _ h=>.inl h));have yA:=aZ (rE W6.drew bp B ts d z8.o 4);have YJ:=aZ MO;clear h4 t6 Tf Tt MO;go_wp2_with fail;rw [YJ.o];refine dn (S:=fun w'=>Turn (fun j=>j=bp∨j=w2.heap.size) W6 w') (x:=9) (by kernel_rfl) ?_
   try simp only [Act.put,sq]
   refine tx 0 (.pointer (some ⟨bp,0,none⟩)) HD0.o ?_;refine tx 1 (.pointer (some ⟨bp,0,none⟩)) HD0.o ?_;refine tx 2 (.pointer (some ⟨bp,0,none⟩)) HD0.o ?_;refine tx 3 (.pointer (some ⟨w3.heap.size,0,none⟩)) HD0.o ?_;refine nM 4 (.int .i64 t0.kind) PT.o HD0.o ?_;refine ay (rs:=[5]) (by kernel_rfl) (by simp) ?_;refine av.cons rfl (fun K hK=>?_) (av.nil);go_simp;rw [H4.o];refine(yA.o).mono ?_;rintro e w7 h7;rcases hq:fK 4 ts with g |⟨s,r7⟩
   ·obtain⟨rfl,tn,bn⟩:=h7.bY hq;have dU:=aZ (jO.o.symm.trans (aB hq));exact⟨rfl,aG.fail dU.o (fA.mk2 (aA pK.o (aA mP.o tn)) bn)⟩
   ·obtain⟨v7,rfl,tn,rfl,kn⟩:=h7.aR hq;have kQ:=aZ (aA mP.o tn);have hs7:=kQ.o.size;have oK:=aZ kn;have kR:=aZ (kQ.o.mono (G:=fun j=>j=bp∨j=w2.heap.size) (fun _ _ h=>.inl h));have HS8:=aZ (kR.o.trans (ak w7 w2.heap.size 0 (.int .i64 1)) (fun _ _ h=>.inr h));have Bh:bR (Pr.good (aL 1 s 0 t0 [] [] []) r7=Q):=aZ ((aj hq).symm.trans jO.o);have wU:=ah Rx.o kQ.o (by omega);have XH:=ah qQ.o kQ.o (by omega);obtain⟨y0,y1,y2,y3,y4,y5,y6,y7,yz⟩:=aX wU;obtain⟨c0,c1,c2,c3,c4,c5,c6,c7,cz⟩:=aX XH;have t9:=(ak w7 w2.heap.size 0 (.int .i64 1)).trans (ak _ w2.heap.size 1 (sv s)) (fun _ _ h=>h);have I5:=aZ (ah XH t9 (by omega));have Gz:=aZ (kn.turn t9 (by omega) (fun k hk e=>by have:=lZ.o.1;omega));have AZ:=aZ ((aA pK.o kQ.o).trans t9 (fun i hi e=>by omega));clear h7 tn kn hq m0 m1 m2 m3 m4 m5 m6 m7 mz wU XH t9;refine hK.out _ _ kR.o ?_;clear hK K
    try simp only [Act.put,sq]
    refine tt 6 (.pointer (some ⟨w2.heap.size,0,none⟩)) (fun _=>kR.o) ?_;refine ay (rs:=[7]) (by kernel_rfl) (by simp) ?_;refine av.cons rfl (fun K hK=>?_) (av.nil);go_simp;refine hK.out _ _ HS8.o ?_;clear hK K
    try simp only [Act.put,sq]
    refine tt 8 (.pointer (some ⟨w2.heap.size,1,none⟩)) (fun _=>HS8.o) ?_;refine ay (rs:=[9]) (by kernel_rfl) (by simp) ?_;refine av.past rfl (by kernel_rfl) (fun K hK=>?_) (av.nil);go_simp;refine hK.out _ _ ?_;clear hK K
    try simp only [Act.put,sq]
    refine aV (by kernel_rfl) ?_ _;go_wp2_with fail;have tF:=bM ((w7.setCell ⟨w2.heap.size,0,none⟩ (.int .i64 1)).setCell ⟨w2.heap.size,1,none⟩ (sv s)) w.heap.size (.int .i64 1) (sv s) (.int .i64 0) (.int .i64 t0.line) (.int .i64 t0.col) (.slice none 0 0) (.slice none 0 0) (.slice none 0 0);refine bodyPost_ret (bD rfl rfl (aY I5.o _ _ _ _ _ _ _ _) Tryz.underlying52 rfl (by kernel_rfl)) rfl ?_;exact aG.done Bh.o.symm (bW AZ.o (by omega)) ⟨_,rfl,.mk (eD.nil _ _ _) .nil (eD.nil _ _ _) (eD.nil _ _ _) .nil⟩ (Gz.o.iy (by omega))
  ·have hb4:(t0.kind==4)=false:=by simp [h4]
   have jO:bR (au (dJ wL) (fun i=>match i with
     |none=>lK typ t0
     |some 0=>aJ (aL 2 [] 0 t0 [] [] [])
     |some 1=>aJ (aL 2 [] 1 t0 [] [] [])
     |some 2=>aJ (aL 3 [] 0 t0 [] [] [])
     |some 3=>au (jX [[40],[41]]) fun _=>aJ (aL 18 [] 0 t0 [] [] [])
     |some 4=>au (bK expr [[40]] []) fun k=>au (aN [41]) fun _=>aJ (aL 17 [] 0 t0 [] [] k)
     |some 5=>au expr fun x=>au (aN [41]) fun _=>aJ x
     |some _=>au (rC expr t0) fun x=>au (aN [125]) fun _=>aJ x) ts=Q):=aZ (by have:=YS.o;rwa [if_neg h4]at this)
   have HC:=aZ (o8 (w3.alloc (.cells #[.int .i64 t0.kind,sv t0.text,.int .i64 t0.line,.int .i64 t0.col] 154)) bp B ts d (lZ.o.below (new1 _ _)) wL #[.string ⟨#[102,97,108,115,101]⟩,.string ⟨#[116,114,117,101]⟩,.string ⟨#[110,117,108,108]⟩,.string ⟨#[114,101,97,100]⟩,.string ⟨#[112,114,105,110,116]⟩,.string ⟨#[40]⟩,.string ⟨#[123]⟩] 9 7 (w3.heap.size+1));clear h4 YS;go_wp2_with fail;refine(HC.o).mono ?_;rintro e w4 h4;rcases hq:dJ wL ts with g |⟨o,r4⟩
   ·exact(iO hq).elim
   ·obtain⟨v4,rfl,tn,rfl,kn⟩:=h4.aR hq;have tm:=(bT tn).1;have hs4:=tm.size;have iX:=aZ (aA HT3.o tm);have mR:=aZ kn;have XI:=ah kV.o tm (by omega);have jU:=aZ XI;have uO:=ah oq.o tm (by omega);have qo:=aZ uO;have iF:=aZ hq;obtain⟨y0,y1,y2,y3,y4,y5,y6,y7,yz⟩:=aX uO;obtain⟨c0,c1,c2,c3,c4,c5,c6,c7,cz⟩:=aX XI;clear h4 tn tm kn hq uO XI m0 m1 m2 m3 m4 m5 m6 m7 mz;rcases o with _ |i
    ·have jF:bR (lK typ t0 r4=Q):=aZ ((aj iF.o).symm.trans jO.o);have HP:=aZ (KX d typ hst wP w4 bp B r4 mR.o t0);go_wp2_with fail;refine(HP.o).mono ?_;rintro e w5 h5;rcases hq:lK typ t0 r4 with g |⟨x,r5⟩
     ·obtain⟨rfl,tn,bn⟩:=h5.bY hq;have HB:=aZ (fA.mk2 (aA iX.o tn) bn);have dU:=aZ (jF.o.symm.trans hq);clear h5 tn bn hq;go_wp2_with fail;exact⟨rfl,aG.fail dU.o HB.o⟩
     ·obtain⟨v5,rfl,tn,⟨z5,rfl,hz⟩,kn⟩:=h5.aR hq;obtain⟨k4,s4,n4,l4,o4,qd,n14,c14,qg,n24,c24,sO,n34,c34,rfl⟩:=hz.shape';have hs5:=tn.size;have iQ:=aZ (aA iX.o tn);have ql:=aZ kn;have jY:=aZ (ah jU.o tn (by omega));have zZ:=aZ hz.iv;have xC:=aZ (hq.symm.trans jF.o);clear c0 c1 c2 c3 c4 c5 c6 c7 cz;obtain⟨c0,c1,c2,c3,c4,c5,c6,c7,cz⟩:=aX jY.o;clear h5 tn hz kn hq;go_wp2_with fail;have tF:=bM w5 w.heap.size (.int .i64 k4) (sv s4) (.int .i64 n4) (.int .i64 l4) (.int .i64 o4) (.slice qd n14 c14) (.slice qg n24 c24) (.slice sO n34 c34);refine bodyPost_ret (bD rfl rfl (aY jY.o _ _ _ _ _ _ _ _) Tryz.underlying52 rfl (by kernel_rfl)) rfl ?_;exact aG.done xC.o.symm (bW iQ.o (by omega)) ⟨_,rfl,(zZ.o.turn tF (fun g _ h e=>by have:=h.1;omega)).mono (fun g _ h=>by have:=h.1;omega)⟩ (ql.o.iy (by omega))
    ·have hi:=nD iF.o;simp only [wL,List.length_cons,List.length_nil]at hi;obtain rfl |rfl |rfl |rfl |rfl |rfl |rfl:i=0∨i=1∨i=2∨i=3∨i=4∨i=5∨i=6:=by omega
     ·have jF:bR (Pr.good (aL 2 [] 0 t0 [] [] []) r4=Q):=aZ ((aj iF.o).symm.trans jO.o);have tS:=((ak w4 w2.heap.size 0 (.int .i64 2)).trans (ak _ w2.heap.size 2 (.int .i64 0)) (fun _ _ h=>h))
      have qp:=aZ (show((w4.setCell ⟨w2.heap.size,0,none⟩ (.int .i64 2)).setCell ⟨w2.heap.size,2,none⟩ (.int .i64 0)).heap[w2.heap.size]? =some (.cells #[.int .i64 2,.string ⟨#[]⟩,.int .i64 0,.int .i64 t0.line,.int .i64 t0.col,.slice none 0 0,.slice none 0 0,.slice none 0 0] 52 (0,0))from(heap_setCell_same _ _ 2 _ _ (.int .i64 0) (heap_setCell_same _ _ 0 _ _ (.int .i64 2) qo.o)));have ql:=aZ (mR.o.turn tS (by omega) (fun k hk e=>by have:=lZ.o.1;omega));have iQ:=aZ (iX.o.trans tS (fun i hi e=>by omega));have jY:=aZ (ah jU.o tS (by omega));have UG:(((w4.setCell ⟨w2.heap.size,0,none⟩ (.int .i64 2)).setCell ⟨w2.heap.size,2,none⟩ (.int .i64 0))).heap.size=w4.heap.size:=by simp
      clear tS;go_wp2_with fail;have tF:=bM ((w4.setCell ⟨w2.heap.size,0,none⟩ (.int .i64 2)).setCell ⟨w2.heap.size,2,none⟩ (.int .i64 0)) w.heap.size (.int .i64 2) (.string ⟨#[]⟩) (.int .i64 0) (.int .i64 t0.line) (.int .i64 t0.col) (.slice none 0 0) (.slice none 0 0) (.slice none 0 0);refine bodyPost_ret (bD rfl rfl (aY jY.o _ _ _ _ _ _ _ _) Tryz.underlying52 rfl (by kernel_rfl)) rfl ?_;exact aG.done jF.o.symm (bW iQ.o (by omega)) ⟨_,rfl,.mk (eD.nil _ _ _) .nil (eD.nil _ _ _) (eD.nil _ _ _) .nil⟩ (ql.o.iy (by omega))
     ·have jF:bR (Pr.good (aL 2 [] 1 t0 [] [] []) r4=Q):=aZ ((aj iF.o).symm.trans jO.o);have tS:=((ak w4 w2.heap.size 0 (.int .i64 2)).trans (ak _ w2.heap.size 2 (.int .i64 1)) (fun _ _ h=>h))
      have qp:=aZ (show((w4.setCell ⟨w2.heap.size,0,none⟩ (.int .i64 2)).setCell ⟨w2.heap.size,2,none⟩ (.int .i64 1)).heap[w2.heap.size]? =some (.cells #[.int .i64 2,.string ⟨#[]⟩,.int .i64 1,.int .i64 t0.line,.int .i64 t0.col,.slice none 0 0,.slice none 0 0,.slice none 0 0] 52 (0,0))from(heap_setCell_same _ _ 2 _ _ (.int .i64 1) (heap_setCell_same _ _ 0 _ _ (.int .i64 2) qo.o)));have ql:=aZ (mR.o.turn tS (by omega) (fun k hk e=>by have:=lZ.o.1;omega));have iQ:=aZ (iX.o.trans tS (fun i hi e=>by omega));have jY:=aZ (ah jU.o tS (by omega));have UG:(((w4.setCell ⟨w2.heap.size,0,none⟩ (.int .i64 2)).setCell ⟨w2.heap.size,2,none⟩ (.int .i64 1))).heap.size=w4.heap.size:=by simp
      clear tS;go_wp2_with fail;have tF:=bM ((w4.setCell ⟨w2.heap.size,0,none⟩ (.int .i64 2)).setCell ⟨w2.heap.size,2,none⟩ (.int .i64 1)) w.heap.size (.int .i64 2) (.string ⟨#[]⟩) (.int .i64 1) (.int .i64 t0.line) (.int .i64 t0.col) (.slice none 0 0) (.slice none 0 0) (.slice none 0 0);refine bodyPost_ret (bD rfl rfl (aY jY.o _ _ _ _ _ _ _ _) Tryz.underlying52 rfl (by kernel_rfl)) rfl ?_;exact aG.done jF.o.symm (bW iQ.o (by omega)) ⟨_,rfl,.mk (eD.nil _ _ _) .nil (eD.nil _ _ _) (eD.nil _ _ _) .nil⟩ (ql.o.iy (by omega))
     ·have jF:bR (Pr.good (aL 3 [] 0 t0 [] [] []) r4=Q):=aZ ((aj iF.o).symm.trans jO.o);have tS:=(ak w4 w2.heap.size 0 (.int .i64 3))
      have qp:=aZ (show(w4.setCell ⟨w2.heap.size,0,none⟩ (.int .i64 3)).heap[w2.heap.size]? =some (.cells #[.int .i64 3,.string ⟨#[]⟩,.int .i64 0,.int .i64 t0.line,.int .i64 t0.col,.slice none 0 0,.slice none 0 0,.slice none 0 0] 52 (0,0))from(heap_setCell_same _ _ 0 _ _ (.int .i64 3) qo.o));have ql:=aZ (mR.o.turn tS (by omega) (fun k hk e=>by have:=lZ.o.1;omega));have iQ:=aZ (iX.o.trans tS (fun i hi e=>by omega));have jY:=aZ (ah jU.o tS (by omega));have UG:((w4.setCell ⟨w2.heap.size,0,none⟩ (.int .i64 3))).heap.size=w4.heap.size:=by simp
      clear tS;go_wp2_with fail;have tF:=bM (w4.setCell ⟨w2.heap.size,0,none⟩ (.int .i64 3)) w.heap.size (.int .i64 3) (.string ⟨#[]⟩) (.int .i64 0) (.int .i64 t0.line) (.int .i64 t0.col) (.slice none 0 0) (.slice none 0 0) (.slice none 0 0);refine bodyPost_ret (bD rfl rfl (aY jY.o _ _ _ _ _ _ _ _) Tryz.underlying52 rfl (by kernel_rfl)) rfl ?_;exact aG.done jF.o.symm (bW iQ.o (by omega)) ⟨_,rfl,.mk (eD.nil _ _ _) .nil (eD.nil _ _ _) (eD.nil _ _ _) .nil⟩ (ql.o.iy (by omega))
     ·have jF:bR (au (jX [[40],[41]]) (fun _=>aJ (aL 18 [] 0 t0 [] [] [])) r4=Q):=aZ ((aj iF.o).symm.trans jO.o);have tS:=(ak w4 w2.heap.size 0 (.int .i64 18))
      have qp:=aZ (show(w4.setCell ⟨w2.heap.size,0,none⟩ (.int .i64 18)).heap[w2.heap.size]? =some (.cells #[.int .i64 18,.string ⟨#[]⟩,.int .i64 0,.int .i64 t0.line,.int .i64 t0.col,.slice none 0 0,.slice none 0 0,.slice none 0 0] 52 (0,0))from(heap_setCell_same _ _ 0 _ _ (.int .i64 18) qo.o));have ql:=aZ (mR.o.turn tS (by omega) (fun k hk e=>by have:=lZ.o.1;omega));have iQ:=aZ (iX.o.trans tS (fun i hi e=>by omega));have jY:=aZ (ah jU.o tS (by omega));have UG:((w4.setCell ⟨w2.heap.size,0,none⟩ (.int .i64 18))).heap.size=w4.heap.size:=by simp
      clear tS;have HP:=aZ (Iu ((w4.setCell ⟨w2.heap.size,0,none⟩ (.int .i64 18)).alloc (.cells #[.string ⟨#[40]⟩,.string ⟨#[41]⟩] 9)) bp B r4 d (ql.o.below (new1 _ _)) (.slice (some ⟨w4.heap.size,0,none⟩) 2 2) [[40],[41]] (F4 _ _ UG.symm [[40],[41]] #[.string ⟨#[40]⟩,.string ⟨#[41]⟩] 9 2 rfl rfl (by decide)) (by simp));go_wp2_with fail;refine(HP.o).mono ?_;rintro e w5 h5;rcases hq:jX [[40],[41]] r4 with g |⟨u,r5⟩
      ·obtain⟨rfl,tn,bn⟩:=h5.bY hq;have tn:=(bT tn).1;have HB:=aZ (fA.mk2 (aA iQ.o tn) bn);have dU:=aZ (jF.o.symm.trans (aB hq));clear h5 tn bn hq;go_wp2_with fail;exact⟨rfl,aG.fail dU.o HB.o⟩
      ·obtain⟨v5,rfl,tn,-,kn⟩:=h5.aR hq;have tn:=(bT tn).1;have hsA:=tn.size;rw [UG]at hsA;have hs6:=tn.size;have pK:=aZ (aA iQ.o tn);have z8:=aZ kn;have qQ:=aZ (ah jY.o tn (by omega));have Eo:=ah qp.o tn (by omega);have xC:bR (Pr.good (aL 18 [] 0 t0 [] [] []) r5=Q):=aZ ((aj hq).symm.trans jF.o);clear y0 y1 y2 y3 y4 y5 y6 y7 yz c0 c1 c2 c3 c4 c5 c6 c7 cz;obtain⟨y0,y1,y2,y3,y4,y5,y6,y7,yz⟩:=aX Eo;obtain⟨c0,c1,c2,c3,c4,c5,c6,c7,cz⟩:=aX qQ.o;clear h5 tn kn hq Eo;go_wp2_with fail;have tF:=bM w5 w.heap.size (.int .i64 18) (.string ⟨#[]⟩) (.int .i64 0) (.int .i64 t0.line) (.int .i64 t0.col) (.slice none 0 0) (.slice none 0 0) (.slice none 0 0);refine bodyPost_ret (bD rfl rfl (aY qQ.o _ _ _ _ _ _ _ _) Tryz.underlying52 rfl (by kernel_rfl)) rfl ?_;exact aG.done xC.o.symm (bW pK.o (by omega)) ⟨_,rfl,.mk (eD.nil _ _ _) .nil (eD.nil _ _ _) (eD.nil _ _ _) .nil⟩ (z8.o.iy (by omega))
     ·have jF:bR (au (bK expr [[40]] []) (fun k=>au (aN [41]) fun _=>aJ (aL 17 [] 0 t0 [] [] k)) r4=Q):=aZ ((aj iF.o).symm.trans jO.o);have tS:=(ak w4 w2.heap.size 0 (.int .i64 17))
      have qp:=aZ (show(w4.setCell ⟨w2.heap.size,0,none⟩ (.int .i64 17)).heap[w2.heap.size]? =some (.cells #[.int .i64 17,.string ⟨#[]⟩,.int .i64 0,.int .i64 t0.line,.int .i64 t0.col,.slice none 0 0,.slice none 0 0,.slice none 0 0] 52 (0,0))from(heap_setCell_same _ _ 0 _ _ (.int .i64 17) qo.o));have ql:=aZ (mR.o.turn tS (by omega) (fun k hk e=>by have:=lZ.o.1;omega));have iQ:=aZ (iX.o.trans tS (fun i hi e=>by omega));have jY:=aZ (ah jU.o tS (by omega));have UG:((w4.setCell ⟨w2.heap.size,0,none⟩ (.int .i64 17))).heap.size=w4.heap.size:=by simp
      clear tS;have yA:=aZ (lq d expr DZ ((w4.setCell ⟨w2.heap.size,0,none⟩ (.int .i64 17)).alloc (.cells #[.string ⟨#[40]⟩] 9)) bp B w2.heap.size (w2.heap.size+1) (fun j=>w2.heap.size+1<=j) r4 (ql.o.below (new1 _ _)) (.int .i64 17) (.string ⟨#[]⟩) (.int .i64 0) (.int .i64 t0.line) (.int .i64 t0.col) (.slice none 0 0) (.slice none 0 0) (.slice none 0 0) [] (bV qp.o) (iN.nil _ _ _ _ _ _) (.slice (some ⟨((w4.setCell ⟨w2.heap.size,0,none⟩ (.int .i64 17))).heap.size,0,none⟩) 1 1) [[40]] ((j4 ((w4.setCell ⟨w2.heap.size,0,none⟩ (.int .i64 17))) #[.string ⟨#[40]⟩] 9 1 1 rfl (by decide)).mono (fun g _ h=>⟨by omega,by omega,fun e=>by cases e⟩)) (by decide) (by simp) (by omega) (by omega) (by simp;omega) (by omega) (by omega) (fun j hj=>by simp at hj;omega));rw [UG]at yA;go_wp2_with fail;refine(yA.o).mono ?_;rintro e w5 h5;rcases hq:bK expr [[40]] [] r4 with g |⟨ks,r5⟩
      ·obtain⟨rfl,tn,bn⟩:=h5.bY hq;have tn:=(bT tn).1;have HB:=aZ (fA.mk2 (iQ.o.trans tn (fun i hi e=>by rcases e with e |e |e;exact e;omega;cases e)) bn);have dU:=aZ (jF.o.symm.trans (aB hq));clear h5 tn bn hq;go_wp2_with fail;exact⟨rfl,aG.fail dU.o HB.o⟩
      ·obtain⟨rfl,tn,⟨vk,pO,yM⟩,kn⟩:=h5.aR hq;have tk:=(bT tn).1;have zm:=tk.size;rw [UG]at zm;obtain⟨A8,c8,XE,_,_⟩:=yM.shape;subst XE;have qc:=aZ (iQ.o.trans tk (fun i hi e=>by rcases e with e |e |e;exact e;omega;cases e));have lu:=aZ (ah jY.o tk (fun e=>by rcases e with e |e |e;omega;omega;cases e));have vV:=aZ kn;have VG:=aZ yM;have qw:=aZ pO;have Tp:bR (au (aN [41]) (fun _=>aJ (aL 17 [] 0 t0 [] [] ks)) r5=Q):=aZ ((aj hq).symm.trans jF.o);have HN:=aZ (fG w5 bp B r5 d kn [41] 9 w5.heap.size);clear h5 tn tk pO yM kn hq;go_wp2_with fail;refine(HN.o).mono ?_;rintro e w6 h5;rcases hq:aN [41] r5 with g |⟨u,r6⟩
       ·obtain⟨rfl,tn,bn⟩:=h5.bY hq;have HB:=aZ (fA.mk2 (aA qc.o tn) bn);have dU:=aZ (Tp.o.symm.trans (aB hq));clear h5 tn bn hq;go_wp2_with fail;exact⟨rfl,aG.fail dU.o HB.o⟩
       ·obtain⟨v6,rfl,tn,-,kn⟩:=h5.aR hq;have EG:=VG.o.turn bg tn (fun g hg e=>by have:=(VG.o.lt g hg).1;omega) (fun g _ hg e=>by omega);have RF:=aZ EG;clear EG;have hs9:=tn.size;have AZ:=aZ (aA qc.o tn);have Gz:=aZ kn;have I5:=aZ (ah lu.o tn (by omega));have aaf:=ah qw.o tn (by omega);have Pg:bR (Pr.good (aL 17 [] 0 t0 [] [] ks) r6=Q):=aZ ((aj hq).symm.trans Tp.o);clear y0 y1 y2 y3 y4 y5 y6 y7 yz c0 c1 c2 c3 c4 c5 c6 c7 cz;obtain⟨y0,y1,y2,y3,y4,y5,y6,y7,yz⟩:=aX aaf;obtain⟨c0,c1,c2,c3,c4,c5,c6,c7,cz⟩:=aX I5.o;clear h5 tn kn hq aaf;obtain⟨xs,q1,q2⟩:=RF.o.sl bg;have om:=aZ q1;have nK:=aZ q2;clear q1 q2;go_wp2_with fail;have tF:=bM w6 w.heap.size (.int .i64 17) (.string ⟨#[]⟩) (.int .i64 0) (.int .i64 t0.line) (.int .i64 t0.col) (.slice none 0 0) (.slice none 0 0) (.slice A8 ks.length c8);refine bodyPost_ret (bD rfl rfl (aY I5.o _ _ _ _ _ _ _ _) Tryz.underlying52 rfl (by kernel_rfl)) rfl ?_;exact aG.done Pg.o.symm (bW AZ.o (by omega)) ⟨_,rfl,.mk (eD.nil _ _ _) .nil (eD.nil _ _ _) ((om.o.turn tF (fun g _ h e=>by rcases h with h |h <;> omega)).mono (fun g _ h=>by rcases h with h |h <;> omega)) (mQ (eX bg (fun g _ h=>by rcases h with h |h <;> omega) (bU bg tF (fun g _ h e=>by rcases h with h |h <;> omega) nK.o)))⟩ (Gz.o.iy (by omega))
     ·have jF:bR (au expr (fun x=>au (aN [41]) fun _=>aJ x) r4=Q):=aZ ((aj iF.o).symm.trans jO.o);have HP:=aZ (DZ w4 bp B r4 mR.o);go_wp2_with fail;refine(HP.o).mono ?_;rintro e w5 h5;rcases hq:expr r4 with g |⟨x,r5⟩
      ·obtain⟨rfl,tn,bn⟩:=h5.bY hq;have HB:=aZ (fA.mk2 (aA iX.o tn) bn);have dU:=aZ (jF.o.symm.trans (aB hq));clear h5 tn bn hq;go_wp2_with fail;exact⟨rfl,aG.fail dU.o HB.o⟩
      ·obtain⟨v5,rfl,tn,⟨z5,rfl,hz⟩,kn⟩:=h5.aR hq;obtain⟨k4,s4,n4,l4,o4,qd,n14,c14,qg,n24,c24,sO,n34,c34,rfl⟩:=hz.shape';have hs5:=tn.size;have ou:=ah qo.o tn (by omega);clear y0 y1 y2 y3 y4 y5 y6 y7 yz;obtain⟨y0,y1,y2,y3,y4,y5,y6,y7,yz⟩:=aX ou;have tP:=bM w5 w2.heap.size (.int .i64 k4) (sv s4) (.int .i64 n4) (.int .i64 l4) (.int .i64 o4) (.slice qd n14 c14) (.slice qg n24 c24) (.slice sO n34 c34);have iQ:=aZ ((aA iX.o tn).trans tP (fun i hi e=>by omega));have ql:=aZ (kn.iy (a:=w2.heap.size) (v0:= .int .i64 k4) (v1:=sv s4) (v2:= .int .i64 n4) (v3:= .int .i64 l4) (v4:= .int .i64 o4) (v5:= .slice qd n14 c14) (v6:= .slice qg n24 c24) (v7:= .slice sO n34 c34) (by omega));have jY:=aZ (ah (ah jU.o tn (by omega)) tP (by omega));have qp:=aZ (aY ou (.int .i64 k4) (sv s4) (.int .i64 n4) (.int .i64 l4) (.int .i64 o4) (.slice qd n14 c14) (.slice qg n24 c24) (.slice sO n34 c34));have zZ:=aZ ((hz.iv.turn tP (fun g _ h e=>by have:=h.1;omega)).mono (G:=Iv w4.heap.size w5.heap.size) (fun g _ h=>h));have hsP:=tP.size;have xC:bR (au (aN [41]) (fun _=>aJ x) r5=Q):=aZ ((aj hq).symm.trans jF.o);have HN:=aZ (fG (Bg w5 w2.heap.size (.int .i64 k4) (sv s4) (.int .i64 n4) (.int .i64 l4) (.int .i64 o4) (.slice qd n14 c14) (.slice qg n24 c24) (.slice sO n34 c34)) bp B r5 d ql.o [41] 9 w5.heap.size);clear h5 tn tP hz kn hq ou;go_wp2_with fail;refine(HN.o).mono ?_;rintro e w6 h5;rcases hq:aN [41] r5 with g |⟨u,r6⟩
       ·obtain⟨rfl,tn,bn⟩:=h5.bY hq;have HB:=aZ (fA.mk2 (aA iQ.o tn) bn);have dU:=aZ (xC.o.symm.trans (aB hq));clear h5 tn bn hq;go_wp2_with fail;exact⟨rfl,aG.fail dU.o HB.o⟩
       ·obtain⟨v6,rfl,tn,-,kn⟩:=h5.aR hq;have ZX:=aZ (zZ.o.turn tn (fun g _ h e=>by have:=h.1;omega));have jF:=xC;have hs7:=tn.size;have kQ:=aZ (aA iQ.o tn);have oK:=aZ kn;have wS:=aZ (ah jY.o tn (by omega));have wU:=ah qp.o tn (by omega);have Bh:bR (Pr.good (x) r6=Q):=aZ ((aj hq).symm.trans jF.o);clear y0 y1 y2 y3 y4 y5 y6 y7 yz c0 c1 c2 c3 c4 c5 c6 c7 cz;obtain⟨y0,y1,y2,y3,y4,y5,y6,y7,yz⟩:=aX wU;obtain⟨c0,c1,c2,c3,c4,c5,c6,c7,cz⟩:=aX wS.o;clear h5 tn kn hq wU;go_wp2_with fail;have tF:=bM w6 w.heap.size (.int .i64 k4) (sv s4) (.int .i64 n4) (.int .i64 l4) (.int .i64 o4) (.slice qd n14 c14) (.slice qg n24 c24) (.slice sO n34 c34);refine bodyPost_ret (bD rfl rfl (aY wS.o _ _ _ _ _ _ _ _) Tryz.underlying52 rfl (by kernel_rfl)) rfl ?_;exact aG.done Bh.o.symm (bW kQ.o (by omega)) ⟨_,rfl,(ZX.o.turn tF (fun g _ h e=>by have:=h.1;omega)).mono (fun g _ h=>by have:=h.1;omega)⟩ (oK.o.iy (by omega))
     ·have jF:bR (au (rC expr t0) (fun x=>au (aN [125]) fun _=>aJ x) r4=Q):=aZ ((aj iF.o).symm.trans jO.o);have HP:=aZ (KZ d expr hse DZ w4 bp B w2.heap.size t0 r4 mR.o qo.o (by omega));go_wp2_with fail;refine(HP.o).mono ?_;rintro e w5 h5;rcases hq:rC expr t0 r4 with g |⟨x,r5⟩
      ·obtain⟨rfl,tn,bn⟩:=h5.bY hq;have HB:=aZ (fA.mk2 (iX.o.trans tn (fun i hi e=>by rcases e with e |e;exact e;omega)) bn);have dU:=aZ (jF.o.symm.trans (aB hq));clear h5 tn bn hq;go_wp2_with fail;exact⟨rfl,aG.fail dU.o HB.o⟩
      ·obtain⟨v5,rfl,tn,⟨rfl,z5,hb5,hz⟩,kn⟩:=h5.aR hq;obtain⟨k4,s4,n4,l4,o4,qd,n14,c14,qg,n24,c24,sO,n34,c34,rfl⟩:=hz.shape';have hs5:=tn.size;have iQ:=aZ (iX.o.trans tn (fun i hi e=>by rcases e with e |e;exact e;omega));have ql:=aZ kn;have jY:=aZ (ah jU.o tn (fun e=>by rcases e with e |e <;> omega));have qp:=aZ hb5;have zZ:=aZ hz.iv;have xC:bR (au (aN [125]) (fun _=>aJ x) r5=Q):=aZ ((aj hq).symm.trans jF.o);have HN:=aZ (fG w5 bp B r5 d kn [125] 9 w5.heap.size);clear h5 tn hz kn hq hb5;go_wp2_with fail;refine(HN.o).mono ?_;rintro e w6 h5;rcases hq:aN [125] r5 with g |⟨u,r6⟩
       ·obtain⟨rfl,tn,bn⟩:=h5.bY hq;have HB:=aZ (fA.mk2 (aA iQ.o tn) bn);have dU:=aZ (xC.o.symm.trans (aB hq));clear h5 tn bn hq;go_wp2_with fail;exact⟨rfl,aG.fail dU.o HB.o⟩
       ·obtain⟨v6,rfl,tn,-,kn⟩:=h5.aR hq;have ZX:=aZ (zZ.o.turn tn (fun g _ h e=>by have:=h.1;omega));have jF:=xC;have hs7:=tn.size;have kQ:=aZ (aA iQ.o tn);have oK:=aZ kn;have wS:=aZ (ah jY.o tn (by omega));have wU:=ah qp.o tn (by omega);have Bh:bR (Pr.good (x) r6=Q):=aZ ((aj hq).symm.trans jF.o);clear y0 y1 y2 y3 y4 y5 y6 y7 yz c0 c1 c2 c3 c4 c5 c6 c7 cz;obtain⟨y0,y1,y2,y3,y4,y5,y6,y7,yz⟩:=aX wU;obtain⟨c0,c1,c2,c3,c4,c5,c6,c7,cz⟩:=aX wS.o;clear h5 tn kn hq wU;go_wp2_with fail;have tF:=bM w6 w.heap.size (.int .i64 k4) (sv s4) (.int .i64 n4) (.int .i64 l4) (.int .i64 o4) (.slice qd n14 c14) (.slice qg n24 c24) (.slice sO n34 c34);refine bodyPost_ret (bD rfl rfl (aY wS.o _ _ _ _ _ _ _ _) Tryz.underlying52 rfl (by kernel_rfl)) rfl ?_;exact aG.done Bh.o.symm (bW kQ.o (by omega)) ⟨_,rfl,(ZX.o.turn tF (fun g _ h e=>by have:=h.1;omega)).mono (fun g _ h=>by have:=h.1;omega)⟩ (oK.o.iy (by omega))
theorem OJ:yh 100 (mh 6):=by
 intro w bp B ts h;have HE:=aZ (wO (w.alloc (.cells #[.int .i64 0,.string ⟨#[]⟩,.int .i64 0,.int .i64 0,.int .i64 0,.slice none 0 0,.slice none 0 0,.slice none 0 0] 52)) bp B ts (h.below (new1 _ _)));clear h
 go_enter_defers Tryz.func50,Tryz.ntmps50
 go_wp2_with fail;refine(HE.o).mono ?_;rintro e w1 ⟨rfl,hb⟩;go_wp2_with fail;exact aG.fail (P:=Rc w.heap.size) (B:=B) (d:=100) (q:=mh 6 ts) rfl ⟨(bT hb.1).1,hb.2⟩
theorem RX (d:Int)(typ:Ps bC)(unary:Ps bF)(hst:Sf typ)(hsu:Sf unary)(wP:xX d typ)(HU:zA d unary):rP d 0 (jl typ unary 6):=by
 have h6:rP d 6 (jl typ unary 0):=Rt d unary HU;have h5:rP d 5 (jl typ unary 1):=rQ d 5 (by omega) _ (Sf.rank hst hsu 0) h6;have h4:rP d 4 (jl typ unary 2):=rQ d 4 (by omega) _ (Sf.rank hst hsu 1) h5;have h3:rP d 3 (jl typ unary 3):=rQ d 3 (by omega) _ (Sf.rank hst hsu 2) h4;have h2:rP d 2 (jl typ unary 4):=Ru d _ (Uz d typ wP _ (Sf.rank hst hsu 3) h3);have h1:rP d 1 (jl typ unary 5):=rQ d 1 (by omega) _ (Sf.rank hst hsu 4) h2;exact rQ d 0 (by omega) _ (Sf.rank hst hsu 5) h1
theorem MP:∀n:Nat,n<=100->yh (100 - (n:Int)) (aU n).expr∧zA (100 - (n:Int)) (aU n).unary
 |0,_=>⟨OJ,KS⟩
 |n+1,h=>by
  obtain⟨ihe,ihu⟩:=MP n (by omega);have iht:=BK n (by omega);obtain⟨s1,s2,s3⟩:=Sf.O8 n;have e:(100:Int) - ((n+1:Nat):Int)+1=100 - (n:Int):=by omega
  refine⟨OI (100 - ((n+1:Nat):Int)) (by omega) (by omega) (aU n).typ (aU n).expr (aU n).unary s1 ?_ ?_ ?_,KR (100 - ((n+1:Nat):Int)) (by omega) (by omega) (aU n).typ (aU n).expr (aU n).unary ?_ ?_⟩
  ·rw [e];exact iht
  ·rw [e];exact ihe
  ·rw [e];exact RX _ _ _ s1 s3 iht ihu
  ·rw [e];exact ihu
  ·rw [e];exact RA _ _ _ s2 ihe (RV _ _ _ s1 s2 iht ihe)
theorem I6 (w:World)(bp B:Nat)(ts:List aD)(h:bX w bp B ts 0):Calls Tryz.prog 50 #[.pointer (some ⟨bp,0,none⟩)] w (aG (Rc w.heap.size) bp B 0 w ((aU 100).expr ts)):=
 (MP 100 (Nat.le_refl _)).1 w bp B ts h
theorem MQ (w:World)(bp B:Nat)(ts:List aD)(h:bX w bp B ts 0):Calls Tryz.prog 54 #[.pointer (some ⟨bp,0,none⟩)] w (aG (PTy w.heap.size) bp B 0 w ((aU 100).typ ts)):=
 BK 100 (Nat.le_refl _) w bp B ts h
def I7 (w:World)(F:Nat->Prop)(z:List Value)(i:uU):Prop:=∃vn,z=[sv i.from_,vn,.int .i64 i.line,.int .i64 i.col]∧eD w F 1 vn (mW i.names)
def I8 (w:World)(F:Nat->Prop)(z:List Value)(v:Bv):Prop:=∃y,z=sv v.name :: y∧nY w F y v.bound
def JW (w:World)(F:Nat->Prop)(z:List Value)(d:nV):Prop:=
 ∃vv xv vt xt y,z=[sv d.name,.bool d.exp,vv,sv d.param,vt]++(y++[.int .i64 d.line,.int .i64 d.col])∧eD w F 5 vv xv∧dH (I8 w F) 5 xv d.vars∧eD w F 4 vt xt∧lI w F xt d.types∧mX w F y d.body
def MR (w:World)(F:Nat->Prop)(z:List Value)(m:yS):Prop:=
 ∃vi xi vd xd,z=[vi,vd]∧eD w F 4 vi xi∧dH (I7 w F) 4 xi m.imps∧eD w F 15 vd xd∧dH (JW w F) 15 xd m.decls
section
variable {w w':World}{F G:Nat->Prop}{z:List Value}{B:Nat}
theorem I7.turn {i:uU}(h:I7 w F z i)(t:Turn G w w')(hd:∀g,g<w.heap.size->F g->¬G g):I7 w' F z i:=by
 obtain⟨vn,e,h1⟩:=h;exact⟨vn,e,h1.turn t hd⟩
theorem I7.mono {i:uU}(h:I7 w F z i)(hF:∀g,g<w.heap.size->F g->G g):I7 w G z i:=by
 obtain⟨vn,e,h1⟩:=h;exact⟨vn,e,h1.mono hF⟩
theorem I7.to {i:uU}(h:I7 w F z i)(hF:∀g,g<w.heap.size->F g->g<B):Nk w B z i:=by
 obtain⟨vn,e,h1⟩:=h;exact⟨vn,e,h1.to hF⟩
theorem I8.turn {i:Bv}(h:I8 w F z i)(t:Turn G w w')(hd:∀g,g<w.heap.size->F g->¬G g):I8 w' F z i:=by
 obtain⟨vn,e,h1⟩:=h;exact⟨vn,e,h1.turn t hd⟩
theorem I8.mono {i:Bv}(h:I8 w F z i)(hF:∀g,g<w.heap.size->F g->G g):I8 w G z i:=by
 obtain⟨vn,e,h1⟩:=h;exact⟨vn,e,h1.mono hF⟩
theorem I8.to {i:Bv}(h:I8 w F z i)(hF:∀g,g<w.heap.size->F g->g<B):JO w B z i:=by
 obtain⟨vn,e,h1⟩:=h;exact⟨vn,e,h1.to hF⟩
theorem JW.turn {i:nV}(h:JW w F z i)(t:Turn G w w')(hd:∀g,g<w.heap.size->F g->¬G g):JW w' F z i:=by
 obtain⟨vv,xv,vt,xt,y,e,h1,h2,h3,h4,h5⟩:=h;exact⟨vv,xv,vt,xt,y,e,h1.turn t hd,h2.imp fun _ _ h=>h.turn t hd,h3.turn t hd,h4.turn t hd,h5.turn t hd⟩
theorem JW.mono {i:nV}(h:JW w F z i)(hF:∀g,g<w.heap.size->F g->G g):JW w G z i:=by
 obtain⟨vv,xv,vt,xt,y,e,h1,h2,h3,h4,h5⟩:=h;exact⟨vv,xv,vt,xt,y,e,h1.mono hF,h2.imp fun _ _ h=>h.mono hF,h3.mono hF,h4.mono hF,h5.mono hF⟩
theorem JW.to {i:nV}(h:JW w F z i)(hF:∀g,g<w.heap.size->F g->g<B):Bw w B z i:=by
 obtain⟨vv,xv,vt,xt,y,e,h1,h2,h3,h4,h5⟩:=h;exact⟨vv,xv,vt,xt,y,e,h1.to hF,h2.imp fun _ _ h=>h.to hF,h3.to hF,h4.to hF,h5.to hF⟩
theorem MR.turn {i:yS}(h:MR w F z i)(t:Turn G w w')(hd:∀g,g<w.heap.size->F g->¬G g):MR w' F z i:=by
 obtain⟨vi,xi,vd,xd,e,h1,h2,h3,h4⟩:=h;exact⟨vi,xi,vd,xd,e,h1.turn t hd,h2.imp fun _ _ h=>h.turn t hd,h3.turn t hd,h4.imp fun _ _ h=>h.turn t hd⟩
theorem MR.mono {i:yS}(h:MR w F z i)(hF:∀g,g<w.heap.size->F g->G g):MR w G z i:=by
 obtain⟨vi,xi,vd,xd,e,h1,h2,h3,h4⟩:=h;exact⟨vi,xi,vd,xd,e,h1.mono hF,h2.imp fun _ _ h=>h.mono hF,h3.mono hF,h4.imp fun _ _ h=>h.mono hF⟩
theorem MR.to {i:yS}(h:MR w F z i)(hF:∀g,g<w.heap.size->F g->g<B):Gr w B z i:=by
 obtain⟨vi,xi,vd,xd,e,h1,h2,h3,h4⟩:=h;exact⟨vi,xi,vd,xd,e,h1.to hF,h2.imp fun _ _ h=>h.to hF,h3.to hF,h4.imp fun _ _ h=>h.to hF⟩
theorem I7.all {i:uU}(h:I7 w F z i):Nk w w.heap.size z i:=h.to fun _ hg _=>hg
theorem I8.all {i:Bv}(h:I8 w F z i):JO w w.heap.size z i:=h.to fun _ hg _=>hg
theorem JW.all {i:nV}(h:JW w F z i):Bw w w.heap.size z i:=h.to fun _ hg _=>hg
theorem MR.all {i:yS}(h:MR w F z i):Gr w w.heap.size z i:=h.to fun _ hg _=>hg
theorem I7.shape' {i:uU}(h:I7 w F z i):∃A n c,z=[sv i.from_,.slice A n c,.int .i64 i.line,.int .i64 i.col]:=by
 obtain⟨vn,rfl,A,n,c,rfl,_⟩:=h;exact⟨A,n,c,rfl⟩
theorem I8.shape' {i:Bv}(h:I8 w F z i):∃k s A1 n1 c1 A2 n2 c2,z=[sv i.name,.int .i64 k,sv s,.slice A1 n1 c1,.slice A2 n2 c2]:=by
 obtain⟨y,rfl,h⟩:=h;generalize i.bound=b at h;cases h with
 |mk h1 h2 h3=>
  obtain⟨A1,n1,c1,rfl,_⟩:=h1;obtain⟨A2,n2,c2,rfl,_⟩:=h2;exact⟨_,_,_,_,_,_,_,_,rfl⟩
theorem JW.shape' {i:nV}(h:JW w F z i):∃A1 n1 c1 A2 n2 c2 k s a b c A3 n3 c3 A4 n4 c4 A5 n5 c5,z=[sv i.name,.bool i.exp,.slice A1 n1 c1,sv i.param,.slice A2 n2 c2,.int .i64 k,sv s,.int .i64 a,.int .i64 b,.int .i64 c,.slice A3 n3 c3,.slice A4 n4 c4,.slice A5 n5 c5,.int .i64 i.line,.int .i64 i.col]:=by
 obtain⟨vv,xv,vt,xt,y,rfl,⟨A1,n1,c1,rfl,_⟩,_,⟨A2,n2,c2,rfl,_⟩,_,h⟩:=h;generalize i.body=x at h;cases h with
 |mk h1 h2 h3 h4 h5=>
  obtain⟨A3,n3,c3,rfl,_⟩:=h1;obtain⟨A4,n4,c4,rfl,_⟩:=h3;obtain⟨A5,n5,c5,rfl,_⟩:=h4;exact⟨_,_,_,_,_,_,_,_,_,_,_,_,_,_,_,_,_,_,_,_,rfl⟩
end
theorem j6:vU I7 4 where
 turn h t hd:=h.turn t hd
 mono h hF:=h.mono hF
 len h:=by obtain⟨A,n,c,rfl⟩:=h.shape';rfl
 one h:=by
  obtain⟨A,n,c,rfl⟩:=h.shape';intro u hu;simp only [List.mem_cons,List.not_mem_nil,or_false]at hu;rcases hu with rfl |rfl |rfl |rfl <;> rfl
theorem jf:vU I8 5 where
 turn h t hd:=h.turn t hd
 mono h hF:=h.mono hF
 len h:=by obtain⟨k,s,A1,n1,c1,A2,n2,c2,rfl⟩:=h.shape';rfl
 one h:=by
  obtain⟨k,s,A1,n1,c1,A2,n2,c2,rfl⟩:=h.shape';intro u hu;simp only [List.mem_cons,List.not_mem_nil,or_false]at hu;rcases hu with rfl |rfl |rfl |rfl |rfl <;> rfl
theorem qG:vU JW 15 where
 turn h t hd:=h.turn t hd
 mono h hF:=h.mono hF
 len h:=by obtain⟨A1,n1,c1,A2,n2,c2,k,s,a,b,c,A3,n3,c3,A4,n4,c4,A5,n5,c5,rfl⟩:=h.shape';rfl
 one h:=by
  obtain⟨A1,n1,c1,A2,n2,c2,k,s,a,b,c,A3,n3,c3,A4,n4,c4,A5,n5,c5,rfl⟩:=h.shape';intro u hu;simp only [List.mem_cons,List.not_mem_nil,or_false]at hu;rcases hu with rfl |rfl |rfl |rfl |rfl |rfl |rfl |rfl |rfl |rfl |rfl |rfl |rfl |rfl |rfl <;> rfl
theorem yB {α:Type}{R:World->(Nat->Prop)->List Value->α->Prop}{k:Nat}(hR:vU R k){e:TypeId}{w w9:World}{base:Nat}{F:Nat->Prop}{v v9:Value}{l:List α}{x:α}{z ys:List Value}{n9:Nat}{o:Obj}(h1:w.ownsRow base e k v l.length ys)(h2:dH (R w (uI F v)) k ys l)
  (hx:R w (uI F v) z x) (hg:(w.alloc o).grownBy w9 v.ownBlock) (hbk:v9.ownBlock=v.ownBlock∨v9.ownBlock=some (w.alloc o).heap.size) (h9:w9.ownsRow base e k v9 n9 (ys++z)) (hk:0<k):iN R k e w9 base F v9 (l++[x])∧n9=l.length+1∧Turn (fun j=>v.ownBlock=some j) w w9:=by
 have hn:n9=(l++[x]).length:=by
  have e1:=h9.1;have e2:=h1.1;have e3:=hR.len hx;rw [List.length_append,e2,e3]at e1;rw [List.length_append,List.length_singleton];have:n9*k=(l.length+1)*k:=by rw [<-e1,Nat.add_mul,Nat.one_mul]
  exact Nat.eq_of_mul_eq_mul_right hk this
 subst hn;have t9:Turn (fun j=>v.ownBlock=some j) w w9:=(Turn.alloc (fun j=>v.ownBlock=some j) w o).trans (Turn.bP hg (fun _ h=>h)) (fun _ _ h=>h);have go:∀{z:List Value}{x:α},R w (uI F v) z x->R w9 (uI F v9) z x:=fun h=>by
  have h3:R w (fun j=>j<w.heap.size∧uI F v j) _ _:=hR.mono h fun j hj h=>⟨hj,h⟩
  refine hR.mono (hR.turn h3 t9 (fun j _ h e=>h.2.1 e)) fun j _ h=>⟨fun e=>?_,h.2.2⟩
  rcases hbk with hb |hb
  ·rw [hb]at e;exact h.2.1 e
  ·rw [hb]at e;injection e with e;have:=h.1;simp at e;omega
 exact⟨⟨_,h9,dH.app (zX (hR.len hx) (go hx)) (h2.imp fun _ _ h=>go h)⟩,by simp,t9⟩
theorem cells5 {w:World}{b:Nat}{a0 a1 a2 a3 a4:Value}{t:TypeId}(h:w.heap[b]? =some (.cells #[a0,a1,a2,a3,a4] t (0,0))):w.cell? ⟨b,0,none⟩=some a0∧w.cell? ⟨b,1,none⟩=some a1∧w.cell? ⟨b,2,none⟩=some a2∧w.cell? ⟨b,3,none⟩=some a3∧w.cell? ⟨b,4,none⟩=some a4∧∀i,w.frozen? ⟨b,i,none⟩=false:=
 ⟨(cell_of_row _ _ _ _ _ _ h).trans rfl,(cell_of_row _ _ _ _ _ _ h).trans rfl,(cell_of_row _ _ _ _ _ _ h).trans rfl,(cell_of_row _ _ _ _ _ _ h).trans rfl,(cell_of_row _ _ _ _ _ _ h).trans rfl,fun i=>frozen_of_row _ _ _ _ _ h⟩
theorem VH:ku Tryz.prog 62 108 (.agg #[.string ⟨#[]⟩,.int .i64 0,.string ⟨#[]⟩,.slice none 0 0,.slice none 0 0]) 5 88:=⟨Tryz.underlying62,by kernel_rfl,rfl,by omega⟩
theorem RY (s0:Bt)(k:Int)(s:Bt)(A1 A2:Option Addr)(n1 c1 n2 c2:Nat):∀u∈ #[sv s0,Value.int .i64 k,sv s,.slice A1 n1 c1,.slice A2 n2 c2].toList,u.oneCell'=true:=by
 intro u hu;simp only [List.mem_cons,List.not_mem_nil,or_false]at hu;rcases hu with rfl |rfl |rfl |rfl |rfl <;> rfl
def K9 (pb lb base bp:Nat)(w:World)(l:List Bv):Prop:=
 w.heap[pb]? =some (.cells #[.pointer (some ⟨bp,0,none⟩)] 91 (0,0))∧∃v,w.heap[lb]? =some (.cells #[v] 62 (0,0))∧iN I8 5 108 w base (fun j=>base<=j) v l
theorem K9.turn {pb lb base bp:Nat}{w w':World}{l:List Bv}{G:Nat->Prop}(h:K9 pb lb base bp w l)(tn:Turn G w w')(h1:¬G pb)(h2:¬G lb)(h3:∀j,base<=j->j<w.heap.size->¬G j):K9 pb lb base bp w' l:=by
 obtain⟨hb,v,hn,hr⟩:=h;exact⟨ah hb tn h1,v,ah hn tn h2,hr.turn jf tn (fun g hg=>h3 g (hr.lt g hg).1 (hr.lt g hg).2) (fun g hg h=>h3 g h hg)⟩
theorem La (w:World)(bp B pb lb base:Nat)(ts:List aD)(l:List Bv)(hl:l.length<=8193)(h:bX w bp B ts 0)(hI:K9 pb lb base bp w l)(p1:bp<pb)(p2:bp<lb)(p3:pb<base)(p4:lb<base)(p5:pb≠lb)(p6:base<=w.heap.size):
  Calls Tryz.prog 194 #[.pointer (some ⟨pb,0,none⟩),.pointer (some ⟨lb,0,none⟩)] w (eH (K9 pb lb base bp) (fun k=>k=bp∨k=lb∨base<=k) bp B 0 w (rF CX l ts)):=by
 have hlt:=h.lt;obtain⟨Q,hQ⟩:∃Q,rF CX l ts=Q:=⟨_,rfl⟩
 rw [hQ];have HQ:bR (au CX (fun x=>aJ (l++[x])) ts=Q):=aZ hQ;have HN:=aZ (gV w bp B ts 0 h);have HI:=aZ hI;have hbx:=cu hI.1;obtain⟨hb0,vk,aag,I9⟩:=hI;obtain⟨Ak,ck,rfl,hck,hmk⟩:=I9.shape;have CQ:=aZ I9.lt;have HIT:bR (∀w',Turn (fun k=>k=bp) w w'->w'.heap[pb]? =some (.cells #[.pointer (some ⟨bp,0,none⟩)] 91 (0,0))∧w'.heap[lb]? =some (.cells #[.slice Ak l.length ck] 62 (0,0))∧iN I8 5 108 w' base (fun j=>base<=j) (.slice Ak l.length ck) l):=aZ fun w' t=>⟨ah hb0 t (by omega),ah aag t (by omega),I9.turn jf t (fun g hg e=>by have:=(I9.lt g hg).1;omega) (fun g _ h e=>by omega)⟩
 clear h hQ hb0 aag I9;go_enter Tryz.func194,Tryz.ntmps194;go_wp2_with fail;refine(HN.o).mono ?_;rintro e w1 h1;rcases hq:nameP ts with g |⟨s,r1⟩
 ·obtain⟨rfl,tn,bn⟩:=h1.bY hq;have HB:=aZ (show Turn (fun k=>k=bp∨k=lb∨base<=k) w _ from tn.mono fun _ _ h=>.inl h);have qA:=aZ bn;have dU:=aZ (HQ.o.symm.trans (vE hq));clear h1 tn bn hq;go_wp2_with fail;exact⟨rfl,eH.fail dU.o HB.o qA.o⟩
 ·obtain⟨v1,rfl,tn,rfl,kn⟩:=h1.aR hq;have hs1:=tn.size;have Tj:=aZ (Dc w1 (.cells #[sv s,.int .i64 0,.string ⟨#[]⟩,.slice none 0 0,.slice none 0 0] 108));have qj:=aZ (kn.below (new1 w1 (.cells #[sv s,.int .i64 0,.string ⟨#[]⟩,.slice none 0 0,.slice none 0 0] 108)));have adp:=aZ (aA tn (Turn.alloc (fun k=>k=bp) w1 (.cells #[sv s,.int .i64 0,.string ⟨#[]⟩,.slice none 0 0,.slice none 0 0] 108)));have HH:=aZ (lF (w1.alloc (.cells #[sv s,.int .i64 0,.string ⟨#[]⟩,.slice none 0 0,.slice none 0 0] 108)) bp B r1 0 qj.o [60,58]);have om:bR (au (au (fF [60,58]) (fun b=>if b then au (aU 100).typ fun t=>aJ (⟨s,t⟩:Bv)else aJ ⟨s,sH⟩)) (fun x=>aJ (l++[x])) r1=Q):=aZ ((iP hq).symm.trans HQ.o);have OL:=cu (HIT.o _ tn).1;have hpl:=block_lt (HIT.o _ tn).1;clear h1 tn kn hq hbx;go_wp2_with fail;refine(HH.o).mono ?_;rintro e w2 h2;rcases hq:fF [60,58] r1 with g |⟨b,r2⟩
  ·exact(je hq).elim
  ·obtain⟨v2,rfl,tn,rfl,kn⟩:=h2.aR hq;have hs2:=tn.size;simp at hs2;have HT2:=aZ (aA adp.o tn);have hv2:=ah Tj.o tn (by omega);have HV2:=aZ hv2;have nL:=aZ kn;have nK:=aZ hq;have Xd:=cu (HIT.o _ HT2.o).1;have adr:=cu (HIT.o _ HT2.o).2.1;have ads:=block_lt (HIT.o _ HT2.o).1;have aah:=block_lt (HIT.o _ HT2.o).2.1;obtain⟨m0,m1,m2,m3,m4,mz⟩:=cells5 hv2;clear h2 tn kn hq hv2 OL hpl;cases b
   ·have jO:bR (Pr.good (l++[(⟨s,sH⟩:Bv)]) r2=Q):=aZ ((iP nK.o).symm.trans om.o);obtain⟨hb6,RZ,R3⟩:=HIT.o _ HT2.o;obtain⟨ys,hy,hr⟩:=R3;have hyl:ys.length=l.length*5:=by have:=hy.1;simpa using this
    have HY:=aZ hy;have HR:=aZ hr;have MS:=aZ RZ;have XJ:=aZ hb6;have hsl:=iB w2 #[sv s,.int .i64 0,.string ⟨#[]⟩,.slice none 0 0,.slice none 0 0] 108 5 1 rfl (by decide);have HSL:=aZ hsl;clear hy hr RZ hb6 hsl;go_wp2_with (at_builtin;go_must (refine jh rfl (.tmp 15) (.tmp 17) _ rfl base VH _ _ rfl rfl (HY.o.alloc (.cells #[sv s,.int .i64 0,.string ⟨#[]⟩,.slice none 0 0,.slice none 0 0] 108)) HSL.o (RY s 0 [] none none 0 0 0 0) (by simp [maxLen];omega) (by simp;omega) (by simp;omega) (fun v9 w9 n9 iI wD nQ=>?_));obtain⟨A9,c9,rfl,_,_⟩:=lM iI;have yg:=aZ iI;have Tq:=aZ wD;have F5:=aZ nQ;have Lb:=ah MS.o ((Turn.alloc (fun j=>(Value.slice Ak l.length ck).ownBlock=some j) _ (.cells #[sv s,.int .i64 0,.string ⟨#[]⟩,.slice none 0 0,.slice none 0 0] 108)).trans (Turn.bP wD (F:=fun j=>(Value.slice Ak l.length ck).ownBlock=some j) (fun _ h=>h)) (fun _ _ h=>h)) (fun e=>by have:=(CQ.o _ e).1;omega);have hl9:=cu Lb;have UF:=bI Lb 0;clear iI wD nQ Lb);obtain⟨Dl,hn9,t9⟩:=yB jf HY.o HR.o (x:=(⟨s,sH⟩:Bv)) ⟨_,rfl,rG _ _ 0 []⟩ Tq.o F5.o yg.o (by omega);have hlo:=CQ.o;have tl:=ak w9 lb 0 (.slice A9 n9 c9);have sF:Turn (fun k=>k=bp∨k=lb∨base<=k) w (w9.setCell ⟨lb,0,none⟩ (.slice A9 n9 c9)):=((HT2.o.mono (G:=fun k=>k=bp∨k=lb∨base<=k) (fun _ _ h=>.inl h)).trans t9 (fun i hi e=>.inr (.inr (hlo i e).1))).trans tl (fun i hi e=>.inr (.inl e));go_end0
    exact eH.done jO.o.symm sF ⟨ah (ah XJ.o t9 (fun e=>by have:=(hlo _ e).1;omega)) tl (by omega),_,heap_setCell_same _ _ 0 _ _ _ (ah MS.o t9 (fun e=>by have:=(hlo _ e).1;omega)),Dl.turn jf tl (fun g hg e=>by have:=(Dl.lt g hg).1;omega) (fun g _ hg e=>by omega)⟩ ((nL.o.turn t9 (fun e=>by have:=(hlo _ e).1;omega) (fun k hk e=>by have:=(hlo _ e).1;have:=nL.o.1;omega)).turn tl (by omega) (fun k hk e=>by have:=nL.o.1;omega))
   ·have jO:bR (au (au (aU 100).typ (fun t=>aJ (⟨s,t⟩:Bv))) (fun x=>aJ (l++[x])) r2=Q):=aZ ((iP nK.o).symm.trans om.o);have HP:=aZ (MQ w2 bp B r2 nL.o);go_wp2_with fail;refine(HP.o).mono ?_;rintro e w3 h5;rcases hq:(aU 100).typ r2 with g |⟨x,r3⟩
    ·obtain⟨rfl,tn,bn⟩:=h5.bY hq;have HB:=aZ (show Turn (fun k=>k=bp∨k=lb∨base<=k) w _ from(aA HT2.o tn).mono fun _ _ h=>.inl h);have qA:=aZ bn;have dU:=aZ (jO.o.symm.trans (vE hq));clear h5 tn bn hq;go_wp2_with fail;exact⟨rfl,eH.fail dU.o HB.o qA.o⟩
    ·obtain⟨v3,rfl,tn,⟨z3,rfl,hz⟩,kn⟩:=h5.aR hq;obtain⟨k3,s3,XK,n13,c13,XL,n23,c23,rfl⟩:=hz.shape';have hs3:=tn.size;have hv3:=ah HV2.o tn (by omega);clear m0 m1 m2 m3 m4 mz Xd adr ads aah;obtain⟨m0,m1,m2,m3,m4,mz⟩:=cells5 hv3;have HT3:=aZ (aA HT2.o tn);have t4:=(((ak w3 w1.heap.size 1 (.int .i64 k3)).trans (ak _ w1.heap.size 2 (sv s3)) (fun _ _ h=>h)).trans (ak _ w1.heap.size 3 (.slice XK n13 c13)) (fun _ _ h=>h)).trans (ak _ w1.heap.size 4 (.slice XL n23 c23)) (fun _ _ h=>h);have HV4:=aZ (heap_setCell_same _ _ 4 _ _ (.slice XL n23 c23) (heap_setCell_same _ _ 3 _ _ (.slice XK n13 c13) (heap_setCell_same _ _ 2 _ _ (sv s3) (heap_setCell_same _ _ 1 _ _ (.int .i64 k3) hv3))));have CS:=aZ ((hz.iv.turn t4 (fun g _ h e=>by have:=h.1;omega)).mono (G:=fun j=>w2.heap.size<=j) (fun g _ h=>h.1));have ahI:=cu (HIT.o _ HT3.o).2.1;have ahJ:=block_lt (HIT.o _ HT3.o).2.1;have ahK:=bI (HIT.o _ HT3.o).2.1 0;have iX:=aZ (HT3.o.trans t4 (fun i hi e=>by omega));have mR:=aZ (kn.turn t4 (by omega) (fun k hk e=>by have:=nL.o.1;omega));have iF:bR (Pr.good (l++[(⟨s,x⟩:Bv)]) r3=Q):=aZ ((iP hq).symm.trans jO.o);have hne1:¬w1.heap.size=lb:=by omega
     have hne2:¬lb=w1.heap.size:=by omega
     clear h5 tn hz kn hq hv3 t4;obtain⟨hb6,RZ,R3⟩:=HIT.o _ iX.o;obtain⟨ys,hy,hr⟩:=R3;have hyl:ys.length=l.length*5:=by have:=hy.1;simpa using this
     have HY:=aZ hy;have HR:=aZ hr;have MS:=aZ RZ;have XJ:=aZ hb6;have hsl:=iB ((((w3.setCell ⟨w1.heap.size,1,none⟩ (.int .i64 k3)).setCell ⟨w1.heap.size,2,none⟩ (sv s3)).setCell ⟨w1.heap.size,3,none⟩ (.slice XK n13 c13)).setCell ⟨w1.heap.size,4,none⟩ (.slice XL n23 c23)) #[sv s,.int .i64 k3,sv s3,.slice XK n13 c13,.slice XL n23 c23] 108 5 1 rfl (by decide);rw [show(((((w3.setCell ⟨w1.heap.size,1,none⟩ (.int .i64 k3)).setCell ⟨w1.heap.size,2,none⟩ (sv s3)).setCell ⟨w1.heap.size,3,none⟩ (.slice XK n13 c13)).setCell ⟨w1.heap.size,4,none⟩ (.slice XL n23 c23))).heap.size=w3.heap.size by simp]at hsl;have HSL:=aZ hsl;clear hy hr RZ hb6 hsl;go_wp2_with (at_builtin;go_must (refine jh rfl (.tmp 15) (.tmp 17) _ rfl base VH _ _ rfl rfl (HY.o.alloc (.cells #[sv s,.int .i64 k3,sv s3,.slice XK n13 c13,.slice XL n23 c23] 108)) HSL.o (RY s k3 s3 _ _ _ _ _ _) (by simp [maxLen];omega) (by simp;omega) (by simp;omega) (fun v9 w9 n9 iI wD nQ=>?_));obtain⟨A9,c9,rfl,_,_⟩:=lM iI;have yg:=aZ iI;have Tq:=aZ wD;have F5:=aZ nQ;have Lb:=ah MS.o ((Turn.alloc (fun j=>(Value.slice Ak l.length ck).ownBlock=some j) _ (.cells #[sv s,.int .i64 k3,sv s3,.slice XK n13 c13,.slice XL n23 c23] 108)).trans (Turn.bP wD (F:=fun j=>(Value.slice Ak l.length ck).ownBlock=some j) (fun _ h=>h)) (fun _ _ h=>h)) (fun e=>by have:=(CQ.o _ e).1;omega);have hl9:=cu Lb;have UF:=bI Lb 0;clear iI wD nQ Lb);obtain⟨Dl,hn9,t9⟩:=yB jf HY.o HR.o (x:=(⟨s,x⟩:Bv)) ⟨_,rfl,CS.o.mono (fun g _ h=>⟨fun e=>by have:=(CQ.o _ e).2;omega,by omega⟩)⟩ Tq.o F5.o yg.o (by omega);have hlo:=CQ.o;have tl:=ak w9 lb 0 (.slice A9 n9 c9)
     have sF:Turn (fun k=>k=bp∨k=lb∨base<=k) w (w9.setCell ⟨lb,0,none⟩ (.slice A9 n9 c9)):=((iX.o.mono (G:=fun k=>k=bp∨k=lb∨base<=k) (fun _ _ h=>.inl h)).trans t9 (fun i hi e=>.inr (.inr (hlo i e).1))).trans tl (fun i hi e=>.inr (.inl e));go_end0;exact eH.done iF.o.symm sF ⟨ah (ah XJ.o t9 (fun e=>by have:=(hlo _ e).1;omega)) tl (by omega),_,heap_setCell_same _ _ 0 _ _ _ (ah MS.o t9 (fun e=>by have:=(hlo _ e).1;omega)),Dl.turn jf tl (fun g hg e=>by have:=(Dl.lt g hg).1;omega) (fun g _ hg e=>by omega)⟩ ((mR.o.turn t9 (fun e=>by have:=(hlo _ e).1;omega) (fun k hk e=>by have:=(hlo _ e).1;have:=mR.o.1;omega)).turn tl (by omega) (fun k hk e=>by have:=mR.o.1;omega))
def aai (base:Nat)(w:World)(v:Value)(l:List Bv):Prop:=∃xs,eD w (fun j=>base<=j) 5 v xs∧dH (I8 w (fun j=>base<=j)) 5 xs l
theorem OM (w:World)(bp B:Nat)(ts:List aD)(h:bX w bp B ts 0):Calls Tryz.prog 153 #[.pointer (some ⟨bp,0,none⟩)] w (aG (aai w.heap.size) bp B 0 w (uH ts)):=by
 have hlt:=h.lt;obtain⟨Q,hQ⟩:∃Q,uH ts=Q:=⟨_,rfl⟩
 rw [hQ];have HQ:bR (au (fF [91]) (fun b=>if b then au (jN CX) fun l=>au (aN [93]) fun _=>aJ l else aJ []) ts=Q):=aZ hQ;have HH:=aZ (lF ((w.alloc (.cells #[.pointer (some ⟨bp,0,none⟩)] 91)).alloc (.cells #[.slice none 0 0] 62)) bp B ts 0 (h.below (new2 _ _ _)) [91]);clear h hQ;go_enter Tryz.func153,Tryz.ntmps153;go_wp2_with fail;refine(HH.o).mono ?_;rintro e w1 h1;rcases hq:fF [91] ts with g |⟨b,r1⟩
 ·exact(je hq).elim
 ·obtain⟨v1,rfl,tn,rfl,kn⟩:=h1.aR hq;obtain⟨tm,hs1,OL,aaj⟩:=jC tn;have HT1:=aZ tm;have qj:=aZ kn;have hb1:=OL (by omega);have hc1:=cu hb1;have HI1:bR (K9 w.heap.size (w.heap.size+1) (w.heap.size+2) bp w1 []):=aZ ⟨hb1,_,aaj (by omega),iN.nil _ _ _ _ _ _⟩;have om:=aZ hq;clear h1 tn tm kn OL aaj hq;cases b
  ·have nK:bR (Pr.good [] r1=Q):=aZ ((aj om.o).symm.trans HQ.o);go_wp2_with fail;go_ret;exact aG.done nK.o.symm HT1.o ⟨[],eD.nil _ _ _,.nil⟩ qj.o
  ·have nK:bR (au (jN CX) (fun l=>au (aN [93]) fun _=>aJ l) r1=Q):=aZ ((aj om.o).symm.trans HQ.o);have Mh:∀(fn:Fn) (first cap:Array Value) (w:World),(Instr.makeFunc fn first cap).run Tryz.prog w=.ok (.func fn first cap) w:=fun _ _ _ _=>rfl
   have Rl:=aZ (lW CX Sf.var 194 #[.pointer (some ⟨w.heap.size,0,none⟩),.pointer (some ⟨w.heap.size+1,0,none⟩)] (K9 w.heap.size (w.heap.size+1) (w.heap.size+2) bp) (fun k=>k=bp∨k=w.heap.size+1∨w.heap.size+2<=k) 0 w1 bp B r1 (.inl rfl)
    (fun a b l tn h=>h.turn tn (by omega) (by omega) (fun j hj _ e=>by omega)) (fun g h=>.inr (.inr (by omega)))
    (fun w1 r l hl hw hi hk=>La w1 bp B _ _ _ r l hl hk hi (by omega) (by omega) (by omega) (by omega) (by omega) (by omega)) (fun _=>by kernel_rfl) qj.o HI1.o)
   go_wp2_with fail;refine(Rl.o).mono ?_;rintro e w2 h2;rcases hq:jN CX r1 with g |⟨l,r2⟩
   ·obtain⟨rfl,tn,bn⟩:=h2.bY hq;have HB:=aZ (fA.mk2 (HT1.o.trans tn (fun i hi e=>by rcases e with e |e |e <;> omega)) bn);have dU:=aZ (nK.o.symm.trans (aB hq));clear h2 tn bn hq;go_wp2_with fail;exact⟨rfl,aG.fail dU.o HB.o⟩
   ·obtain⟨rfl,tn,hI2,kn⟩:=h2.aR hq;have hs2:=tn.size;have HT2:=aZ (HT1.o.trans tn (fun i hi e=>by rcases e with e |e |e <;> omega));have HI2:=aZ hI2;have hc2:=cu hI2.1;have jO:bR (au (aN [93]) (fun _=>aJ l) r2=Q):=aZ ((aj hq).symm.trans nK.o);have HN:=aZ (fG w2 bp B r2 0 kn [93] 9 w2.heap.size);clear h2 tn hI2 kn hq hc1 hb1;go_wp2_with fail;refine(HN.o).mono ?_;rintro e w3 h3;rcases hq:aN [93] r2 with g |⟨u,r3⟩
    ·obtain⟨rfl,tn,bn⟩:=h3.bY hq;have HB:=aZ (fA.mk2 (aA HT2.o tn) bn);have dU:=aZ (jO.o.symm.trans (aB hq));clear h3 tn bn hq;go_wp2_with fail;exact⟨rfl,aG.fail dU.o HB.o⟩
    ·obtain⟨v3,rfl,tn,-,kn⟩:=h3.aR hq;have HT3:=aZ (aA HT2.o tn);have lZ:=aZ kn;have iF:bR (Pr.good l r3=Q):=aZ ((aj hq).symm.trans jO.o);obtain⟨_,v,hl3,hr3⟩:=HI2.o.turn tn (by omega) (by omega) (fun j hj _ e=>by omega);have HR3:=aZ hr3;have hc3:=cu hl3;clear h3 tn kn hq hr3 hl3;go_wp2_with fail;go_ret;obtain⟨xs,q1,q2⟩:=HR3.o.sl jf;exact aG.done iF.o.symm HT3.o ⟨xs,q1.mono (fun g _ h=>by rcases h with h |h <;> omega),eX jf (fun g _ h=>by rcases h with h |h <;> omega) q2⟩ lZ.o
end Go.Proofs.YtfgjkmipfikooaaGreatDoor
