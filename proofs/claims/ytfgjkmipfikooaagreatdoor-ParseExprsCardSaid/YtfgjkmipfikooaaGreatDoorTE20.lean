/- HB, HE, HD, HF, GH, PT -/
import Derived.Test.YtfgjkmipfikooaaGreatDoorTEQ
import Derived.Test.YtfgjkmipfikooaaGreatDoorTE19
import Derived.Test.YtfgjkmipfikooaaGreatDoorTE02
import Derived.Test.YtfgjkmipfikooaaGreatDoorTE05
import Derived.Test.YtfgjkmipfikooaaGreatDoorTE01
set_option linter.unusedSimpArgs false
set_option linter.unusedVariables false
set_option maxRecDepth 100000
set_option maxHeartbeats 8000000
namespace Go.Proofs.YtfgjkmipfikooaaGreatDoor
open Go.RowKit
theorem Qw {k:Int}{ts r:List aI}{s:Bt}(h:dB k ts=.good s r):s=(aS ts).text:=by
 unfold dB at h;split at h
 ·injection h with h _;exact h.symm
 ·cases h
theorem Z5 (d:Int)(typ:Ps bS)(expr:Ps bI)(hst:Sf typ)(hse:Sf expr)(qE:z8 d typ)(sJ:Aj d expr):afV d (qU typ expr):=by
 intro w bp B ts h;have hlt:=h.lt;have hB:=h.1;have hlaid:=h.laid;have Qx:=h.2.1;obtain⟨Q,hQ⟩:∃Q,qU typ expr ts=Q:=⟨_,rfl⟩
 rw [hQ];obtain⟨t0,ht0⟩:∃t0,aS ts=t0:=⟨_,rfl⟩
 have HQ:bN ((if t0.kind=3 then aj (dB 3) fun s=>aF (aK 0 [] (dx s).1 t0 [] [] [])
  else if t0.kind=4 then aj (dB 4) fun s=>aF (aK 1 s 0 t0 [] [] [])
  else aj (dA jq) (fun i=>match i with
   |none=>oJ typ t0
   |some 0=>aF (aK 2 [] 0 t0 [] [] [])
   |some 1=>aF (aK 2 [] 1 t0 [] [] [])
   |some 2=>aF (aK 3 [] 0 t0 [] [] [])
   |some 3=>aj (jo [[40],[41]]) fun _=>aF (aK 18 [] 0 t0 [] [] [])
   |some 4=>aj (bH expr [[40]] []) fun k=>aj (aH [41]) fun _=>aF (aK 17 [] 0 t0 [] [] k)
   |some 5=>aj expr fun x=>aj (aH [41]) fun _=>aF x
   |some _=>aj (mI expr t0) fun x=>aj (aH [125]) fun _=>aF x)) ts=Q):=aZ (by subst ht0;exact hQ)
 have YZ:=aZ Qx;have vO:=aZ h.wf;have adx:=aZ hlaid;have Hy:=aZ ht0;have HH:=aZ (tJ d (w.alloc (.cells #[.int .i64 0,.string ⟨#[]⟩,.int .i64 0,.int .i64 0,.int .i64 0,.slice none 0 0,.slice none 0 0,.slice none 0 0] 52)) bp B ts (h.below (new1 _ _)) 0);rw [ht0]at HH;have LQ:=aZ (h.below (new1 w (.cells #[.int .i64 0,.string ⟨#[]⟩,.int .i64 0,.int .i64 0,.int .i64 0,.slice none 0 0,.slice none 0 0,.slice none 0 0] 52)));clear h hQ hlaid Qx;go_enter Tryz.func215,Tryz.ntmps215;go_wp2_with fail;refine(HH.o).mono ?_;rintro e w2 ⟨rfl,hb2⟩;obtain⟨tm,hs2,hrs⟩:=bR (Turn.of_below (F:=fun k=>k=bp) hb2);have HT2:=aZ tm;have gW:=aZ (LQ.o.below hb2);have AV:=aZ (hrs (by omega));have HN:=aZ (mE (w2.alloc (.cells (qw 0 t0) 52)) bp B ts d (gW.o.below (new1 _ _)));rw [ht0]at HN;clear hb2 tm hrs ht0;go_wp2_with fail;refine(HN.o).mono ?_;rintro e w3 ⟨rfl,hb3⟩;obtain⟨tm,hs3,hnb⟩:=bR (Turn.of_below (F:=fun k=>k=bp) hb3);have HT3:=aZ (aB HT2.o tm);have gD:=aZ ((gW.o.below (new1 _ _)).below hb3);have kS:=aZ (ah AV.o tm (by omega));have AX:=hnb (by omega);have pq:=aZ AX;have ag6:¬w2.heap.size=w.heap.size:=by omega
 have ag7:¬w.heap.size=w2.heap.size:=by omega
 have axU:¬w2.heap.size=w3.heap.size:=by omega
 have axV:¬w3.heap.size=w2.heap.size:=by omega
 have hlt2:w2.heap.size<w3.heap.size:=by omega
 obtain⟨m0,m1,m2,m3,m4,m5,m6,m7,mz⟩:=aD AX;clear hb3 tm hnb AX;unfold uL;by_cases h3:t0.kind=3
 ·have hb3:(t0.kind==3)=true:=by simp [h3]
  have iq:bN (aj (dB 3) (fun s=>aF (aK 0 [] (dx s).1 t0 [] [] [])) ts=Q):=aZ (by have:=HQ.o;rwa [if_pos h3]at this);have H3:=aZ h3;have t6:=(ak w3 w2.heap.size 0 (.int .i64 0)).trans (Turn.alloc (fun k=>k=w2.heap.size) _ (.cells #[.int .i64 t0.kind,sv t0.text,.int .i64 t0.line,.int .i64 t0.col] 154)) (fun _ _ h=>h);obtain⟨W6,yE⟩:∃W6,(w3.setCell ⟨w2.heap.size,0,none⟩ (.int .i64 0)).alloc (.cells #[.int .i64 t0.kind,sv t0.text,.int .i64 t0.line,.int .i64 t0.col] 154)=W6:=⟨_,rfl⟩
  have ht6:=wJ (w3.setCell ⟨w2.heap.size,0,none⟩ (.int .i64 0)) (.cells #[.int .i64 t0.kind,sv t0.text,.int .i64 t0.line,.int .i64 t0.col] 154);rw [yE]at t6 ht6;rw [show(w3.setCell ⟨w2.heap.size,0,none⟩ (.int .i64 0)).heap.size=w3.heap.size by simp]at ht6;have XH:=aZ (show W6.heap[w2.heap.size]? =some (.cells (qw 0 t0) 52 (0,0)) by rw [<-yE];exact bQ (heap_setCell_same _ _ 0 _ _ (.int .i64 0) pq.o));have nT:=aZ (gD.o.turn t6 (by omega) (fun k hk e=>by have:=gD.o.1;omega));have jP:=aZ (HT3.o.trans t6 (fun i hi e=>by omega));have sF:=aZ (ah kS.o t6 (by omega));have hs6:=t6.size;have OG:=(aX ht6).1;have PT:=aZ (fun(w':World) (h:Turn (fun j=>j=bp) W6 w')=>aN OG h (by omega));have HD0:bN (Turn (fun j=>j=bp) W6 W6.drew):=aZ ⟨rfl,rfl,rfl,Nat.le_refl _,fun _ _ _=>rfl⟩;have zI:=aZ (sS W6.drew bp B ts d nT.o 3);have BD:=aZ yE;clear h3 t6 ht6 OG yE;go_wp2_with fail;rw [BD.o];refine bP (S:=fun w'=>Turn (fun j=>j=bp) W6 w') (x:=11) (by kernel_rfl) ?_
  try simp only [Act.put,sq]
  refine tx 0 (.pointer (some ⟨bp,0,none⟩)) HD0.o ?_;refine tx 1 (.pointer (some ⟨bp,0,none⟩)) HD0.o ?_;refine tx 2 (.pointer (some ⟨bp,0,none⟩)) HD0.o ?_;refine tx 3 (.pointer (some ⟨w3.heap.size,0,none⟩)) HD0.o ?_;refine jG 4 (.int .i64 t0.kind) PT.o HD0.o ?_;refine ay (rs:=[5]) (by kernel_rfl) (by simp) ?_;refine av.cons rfl (fun K hK=>?_) (av.nil);go_simp;rw [H3.o];refine(zI.o).mono ?_;rintro e w7 h7;rcases hq:dB 3 ts with g |⟨s,r7⟩
  ·obtain⟨rfl,tn,bn⟩:=h7.bY hq;have dP:=aZ (iq.o.symm.trans (aC hq));exact⟨rfl,aL.fail dP.o (eP.mk2 (aB jP.o (aB HD0.o tn)) bn)⟩
  ·obtain⟨v7,rfl,tn,rfl,kn⟩:=h7.aQ hq;have iX:=aZ (aB HD0.o tn);have hs7:=iX.o.size;have kr:=aZ kn;have zi:bN (Pr.good (aK 0 [] (dx s).1 t0 [] [] []) r7=Q):=aZ ((au hq).symm.trans iq.o);have axW:s.length<=100000:=by
    have e:=Qw hq;rw [e];exact YZ.o.2 _ vO.o.EO
   clear h7 tn kn hq;refine hK.out _ _ iX.o ?_;clear hK K
   try simp only [Act.put,sq]
   refine ay (rs:=[6]) (by kernel_rfl) (by simp) ?_;refine av.cons rfl (fun K hK=>?_) (av.nil);go_simp;refine(IY ⟨s.toArray⟩ w7 (by show s.toArray.size<= _;simp;omega) kr.o.laid.here).mono ?_;rintro e w8 ⟨rfl,nD⟩;have mh:=aZ (aB iX.o (Turn.of_below (F:=fun k=>k=bp) nD));have vF:=nD.size;have qF:=aZ (kr.o.below nD);clear nD;rw [show(ByteArray.mk s.toArray).data.toList=s from rfl];refine hK.out _ _ mh.o ?_;clear hK K
   try simp only [Act.put,sq]
   refine tx 7 (.tuple #[.int .i64 (dx s).1,.bool (dx s).2]) mh.o ?_;refine tx 8 (.int .i64 (dx s).1) mh.o ?_;refine tt 9 (.bool (dx s).2) (fun _=>mh.o) ?_;refine tt 10 (.pointer (some ⟨w2.heap.size,2,none⟩)) (fun _=>mh.o) ?_;have XJ:=ah XH.o mh.o (by omega);have aiv:=ah sF.o mh.o (by omega);obtain⟨y0,y1,y2,y3,y4,y5,y6,y7,yz⟩:=aD XJ;obtain⟨c0,c1,c2,c3,c4,c5,c6,c7,cz⟩:=aD aiv;have t9:=ak w8 w2.heap.size 2 (.int .i64 (dx s).1);have Nz:=aZ (ah aiv t9 (by omega));have mO:=aZ (qF.o.turn t9 (by omega) (fun k hk e=>by have:=gD.o.1;omega));have lV:=aZ ((aB jP.o mh.o).trans t9 (fun i hi e=>by omega));clear m0 m1 m2 m3 m4 m5 m6 m7 mz XJ aiv t9;refine ay (rs:=[11]) (by kernel_rfl) (by simp) ?_;refine av.past rfl (by kernel_rfl) (fun K hK=>?_) (av.nil);go_simp;refine hK.out _ _ ?_;clear hK K
   try simp only [Act.put,sq]
   refine aR (by kernel_rfl) ?_ _;go_wp2_with fail;have tF:=bD (w8.setCell ⟨w2.heap.size,2,none⟩ (.int .i64 (dx s).1)) w.heap.size (.int .i64 0) (.string ⟨#[]⟩) (.int .i64 (dx s).1) (.int .i64 t0.line) (.int .i64 t0.col) (.slice none 0 0) (.slice none 0 0) (.slice none 0 0);refine bodyPost_ret (aM rfl rfl (aV Nz.o _ _ _ _ _ _ _ _) Tryz.underlying52 rfl (by kernel_rfl)) rfl ?_;exact aL.done zi.o.symm (bU lV.o (by omega)) ⟨_,rfl,.mk (cO.nil _ _ _) .nil (cO.nil _ _ _) (cO.nil _ _ _) .nil⟩ (mO.o.gT (by omega))
 ·have hb3:(t0.kind==3)=false:=by simp [h3]
  have vw:bN ((if t0.kind=4 then aj (dB 4) (fun s=>aF (aK 1 s 0 t0 [] [] []))else aj (dA jq) (fun i=>match i with
    |none=>oJ typ t0
    |some 0=>aF (aK 2 [] 0 t0 [] [] [])
    |some 1=>aF (aK 2 [] 1 t0 [] [] [])
    |some 2=>aF (aK 3 [] 0 t0 [] [] [])
    |some 3=>aj (jo [[40],[41]]) fun _=>aF (aK 18 [] 0 t0 [] [] [])
    |some 4=>aj (bH expr [[40]] []) fun k=>aj (aH [41]) fun _=>aF (aK 17 [] 0 t0 [] [] k)
    |some 5=>aj expr fun x=>aj (aH [41]) fun _=>aF x
    |some _=>aj (mI expr t0) fun x=>aj (aH [125]) fun _=>aF x)) ts=Q):=aZ (by have:=HQ.o;rwa [if_neg h3]at this)
  clear h3 HQ;by_cases h4:t0.kind=4
  ·have hb4:(t0.kind==4)=true:=by simp [h4]
   have iq:bN (aj (dB 4) (fun s=>aF (aK 1 s 0 t0 [] [] [])) ts=Q):=aZ (by have:=vw.o;rwa [if_pos h4]at this);have H4:=aZ h4;have t6:=Turn.alloc (fun _=>False) w3 (.cells #[.int .i64 t0.kind,sv t0.text,.int .i64 t0.line,.int .i64 t0.col] 154);obtain⟨W6,yE⟩:∃W6,w3.alloc (.cells #[.int .i64 t0.kind,sv t0.text,.int .i64 t0.line,.int .i64 t0.col] 154)=W6:=⟨_,rfl⟩
   have ht6:=wJ w3 (.cells #[.int .i64 t0.kind,sv t0.text,.int .i64 t0.line,.int .i64 t0.col] 154);rw [yE]at t6 ht6;have XH:=aZ (ah pq.o t6 id);have nT:=aZ (gD.o.turn t6 id (fun _ _=>id));have jP:=aZ (HT3.o.trans t6 (fun i hi e=>e.elim));have sF:=aZ (ah kS.o t6 id);have hs6:=t6.size;have OG:=(aX ht6).1;have PT:=aZ (fun(w':World) (h:Turn (fun j=>j=bp∨j=w2.heap.size) W6 w')=>aN OG h (by omega));have nC:bN (Turn (fun j=>j=bp) W6 W6.drew):=aZ ⟨rfl,rfl,rfl,Nat.le_refl _,fun _ _ _=>rfl⟩;have HD0:=aZ (nC.o.mono (G:=fun j=>j=bp∨j=w2.heap.size) (fun _ _ h=>.inl h));have zI:=aZ (sS W6.drew bp B ts d nT.o 4);have BD:=aZ yE;clear h4 t6 ht6 OG yE;go_wp2_with fail;rw [BD.o];refine bP (S:=fun w'=>Turn (fun j=>j=bp∨j=w2.heap.size) W6 w') (x:=9) (by kernel_rfl) ?_
   try simp only [Act.put,sq]
   refine tx 0 (.pointer (some ⟨bp,0,none⟩)) HD0.o ?_;refine tx 1 (.pointer (some ⟨bp,0,none⟩)) HD0.o ?_;refine tx 2 (.pointer (some ⟨bp,0,none⟩)) HD0.o ?_;refine tx 3 (.pointer (some ⟨w3.heap.size,0,none⟩)) HD0.o ?_;refine jG 4 (.int .i64 t0.kind) PT.o HD0.o ?_;refine ay (rs:=[5]) (by kernel_rfl) (by simp) ?_;refine av.cons rfl (fun K hK=>?_) (av.nil);go_simp;rw [H4.o];refine(zI.o).mono ?_;rintro e w7 h7;rcases hq:dB 4 ts with g |⟨s,r7⟩
   ·obtain⟨rfl,tn,bn⟩:=h7.bY hq;have dP:=aZ (iq.o.symm.trans (aC hq));exact⟨rfl,aL.fail dP.o (eP.mk2 (aB jP.o (aB nC.o tn)) bn)⟩
   ·obtain⟨v7,rfl,tn,rfl,kn⟩:=h7.aQ hq;have iX:=aZ (aB nC.o tn);have hs7:=iX.o.size;have kr:=aZ kn;have ko:=aZ (iX.o.mono (G:=fun j=>j=bp∨j=w2.heap.size) (fun _ _ h=>.inl h));have HS8:=aZ (ko.o.trans (ak w7 w2.heap.size 0 (.int .i64 1)) (fun _ _ h=>.inr h));have zi:bN (Pr.good (aK 1 s 0 t0 [] [] []) r7=Q):=aZ ((au hq).symm.trans iq.o);have zw:=ah XH.o iX.o (by omega);have aiw:=ah sF.o iX.o (by omega);obtain⟨y0,y1,y2,y3,y4,y5,y6,y7,yz⟩:=aD zw;obtain⟨c0,c1,c2,c3,c4,c5,c6,c7,cz⟩:=aD aiw;have t9:=(ak w7 w2.heap.size 0 (.int .i64 1)).trans (ak _ w2.heap.size 1 (sv s)) (fun _ _ h=>h);have Nz:=aZ (ah aiw t9 (by omega));have mO:=aZ (kn.turn t9 (by omega) (fun k hk e=>by have:=gD.o.1;omega));have lV:=aZ ((aB jP.o iX.o).trans t9 (fun i hi e=>by omega));clear h7 tn kn hq m0 m1 m2 m3 m4 m5 m6 m7 mz zw aiw t9;refine hK.out _ _ ko.o ?_;clear hK K
    try simp only [Act.put,sq]
    refine tt 6 (.pointer (some ⟨w2.heap.size,0,none⟩)) (fun _=>ko.o) ?_;refine ay (rs:=[7]) (by kernel_rfl) (by simp) ?_;refine av.cons rfl (fun K hK=>?_) (av.nil);go_simp;refine hK.out _ _ HS8.o ?_;clear hK K
    try simp only [Act.put,sq]
    refine tt 8 (.pointer (some ⟨w2.heap.size,1,none⟩)) (fun _=>HS8.o) ?_;refine ay (rs:=[9]) (by kernel_rfl) (by simp) ?_;refine av.past rfl (by kernel_rfl) (fun K hK=>?_) (av.nil);go_simp;refine hK.out _ _ ?_;clear hK K
    try simp only [Act.put,sq]
    refine aR (by kernel_rfl) ?_ _;go_wp2_with fail;have tF:=bD ((w7.setCell ⟨w2.heap.size,0,none⟩ (.int .i64 1)).setCell ⟨w2.heap.size,1,none⟩ (sv s)) w.heap.size (.int .i64 1) (sv s) (.int .i64 0) (.int .i64 t0.line) (.int .i64 t0.col) (.slice none 0 0) (.slice none 0 0) (.slice none 0 0);refine bodyPost_ret (aM rfl rfl (aV Nz.o _ _ _ _ _ _ _ _) Tryz.underlying52 rfl (by kernel_rfl)) rfl ?_;exact aL.done zi.o.symm (bU lV.o (by omega)) ⟨_,rfl,.mk (cO.nil _ _ _) .nil (cO.nil _ _ _) (cO.nil _ _ _) .nil⟩ (mO.o.gT (by omega))
  ·have hb4:(t0.kind==4)=false:=by simp [h4]
   have iq:bN (aj (dA jq) (fun i=>match i with
     |none=>oJ typ t0
     |some 0=>aF (aK 2 [] 0 t0 [] [] [])
     |some 1=>aF (aK 2 [] 1 t0 [] [] [])
     |some 2=>aF (aK 3 [] 0 t0 [] [] [])
     |some 3=>aj (jo [[40],[41]]) fun _=>aF (aK 18 [] 0 t0 [] [] [])
     |some 4=>aj (bH expr [[40]] []) fun k=>aj (aH [41]) fun _=>aF (aK 17 [] 0 t0 [] [] k)
     |some 5=>aj expr fun x=>aj (aH [41]) fun _=>aF x
     |some _=>aj (mI expr t0) fun x=>aj (aH [125]) fun _=>aF x) ts=Q):=aZ (by have:=vw.o;rwa [if_neg h4]at this)
   have HC:=aZ (qg (w3.alloc (.cells #[.int .i64 t0.kind,sv t0.text,.int .i64 t0.line,.int .i64 t0.col] 154)) bp B ts d (gD.o.below (new1 _ _)) jq #[.string ⟨#[102,97,108,115,101]⟩,.string ⟨#[116,114,117,101]⟩,.string ⟨#[110,117,108,108]⟩,.string ⟨#[114,101,97,100]⟩,.string ⟨#[112,114,105,110,116]⟩,.string ⟨#[40]⟩,.string ⟨#[123]⟩] 9 7 (w3.heap.size+1));clear h4 vw;go_wp2_with fail;refine(HC.o).mono ?_;rintro e w4 h4;rcases hq:dA jq ts with g |⟨o,r4⟩
   ·exact(iB hq).elim
   ·obtain⟨v4,rfl,tn,rfl,kn⟩:=h4.aQ hq;have tm:=(bR tn).1;have hs4:=tm.size;have fD:=aZ (aB HT3.o tm);have iD:=aZ kn;have aix:=ah kS.o tm (by omega);have jF:=aZ aix;have wW:=ah pq.o tm (by omega);have qM:=aZ wW;have gq:=aZ hq;obtain⟨y0,y1,y2,y3,y4,y5,y6,y7,yz⟩:=aD wW;obtain⟨c0,c1,c2,c3,c4,c5,c6,c7,cz⟩:=aD aix;clear h4 tn tm kn hq wW aix m0 m1 m2 m3 m4 m5 m6 m7 mz;rcases o with _ |i
    ·have iL:bN (oJ typ t0 r4=Q):=aZ ((au gq.o).symm.trans iq.o);have HP:=aZ (Qq d typ hst qE w4 bp B r4 iD.o t0);go_wp2_with fail;refine(HP.o).mono ?_;rintro e w5 h5;rcases hq:oJ typ t0 r4 with g |⟨x,r5⟩
     ·obtain⟨rfl,tn,bn⟩:=h5.bY hq;have HB:=aZ (eP.mk2 (aB fD.o tn) bn);have dP:=aZ (iL.o.symm.trans hq);clear h5 tn bn hq;go_wp2_with fail;exact⟨rfl,aL.fail dP.o HB.o⟩
     ·obtain⟨v5,rfl,tn,⟨z5,rfl,hz⟩,kn⟩:=h5.aQ hq;obtain⟨k4,s4,n4,l4,o4,qG,n14,c14,qH,n24,c24,uQ,n34,c34,rfl⟩:=hz.shape';have hs5:=tn.size;have fG:=aZ (aB fD.o tn);have jw:=aZ kn;have jJ:=aZ (ah jF.o tn (by omega));have Bz:=aZ hz.iv;have xM:=aZ (hq.symm.trans iL.o);clear c0 c1 c2 c3 c4 c5 c6 c7 cz;obtain⟨c0,c1,c2,c3,c4,c5,c6,c7,cz⟩:=aD jJ.o;clear h5 tn hz kn hq;go_wp2_with fail;have tF:=bD w5 w.heap.size (.int .i64 k4) (sv s4) (.int .i64 n4) (.int .i64 l4) (.int .i64 o4) (.slice qG n14 c14) (.slice qH n24 c24) (.slice uQ n34 c34);refine bodyPost_ret (aM rfl rfl (aV jJ.o _ _ _ _ _ _ _ _) Tryz.underlying52 rfl (by kernel_rfl)) rfl ?_;exact aL.done xM.o.symm (bU fG.o (by omega)) ⟨_,rfl,(Bz.o.turn tF (fun g _ h e=>by have:=h.1;omega)).mono (fun g _ h=>by have:=h.1;omega)⟩ (jw.o.gT (by omega))
    ·have hi:=nS gq.o;simp only [jq,List.length_cons,List.length_nil]at hi;obtain rfl |rfl |rfl |rfl |rfl |rfl |rfl:i=0∨i=1∨i=2∨i=3∨i=4∨i=5∨i=6:=by omega
     ·have iL:bN (Pr.good (aK 2 [] 0 t0 [] [] []) r4=Q):=aZ ((au gq.o).symm.trans iq.o);have tS:=((ak w4 w2.heap.size 0 (.int .i64 2)).trans (ak _ w2.heap.size 2 (.int .i64 0)) (fun _ _ h=>h))
      have qN:=aZ (show((w4.setCell ⟨w2.heap.size,0,none⟩ (.int .i64 2)).setCell ⟨w2.heap.size,2,none⟩ (.int .i64 0)).heap[w2.heap.size]? =some (.cells #[.int .i64 2,.string ⟨#[]⟩,.int .i64 0,.int .i64 t0.line,.int .i64 t0.col,.slice none 0 0,.slice none 0 0,.slice none 0 0] 52 (0,0))from(heap_setCell_same _ _ 2 _ _ (.int .i64 0) (heap_setCell_same _ _ 0 _ _ (.int .i64 2) qM.o)));have jw:=aZ (iD.o.turn tS (by omega) (fun k hk e=>by have:=gD.o.1;omega));have fG:=aZ (fD.o.trans tS (fun i hi e=>by omega));have jJ:=aZ (ah jF.o tS (by omega));have hsS:(((w4.setCell ⟨w2.heap.size,0,none⟩ (.int .i64 2)).setCell ⟨w2.heap.size,2,none⟩ (.int .i64 0))).heap.size=w4.heap.size:=by simp
      clear tS;go_wp2_with fail;have tF:=bD ((w4.setCell ⟨w2.heap.size,0,none⟩ (.int .i64 2)).setCell ⟨w2.heap.size,2,none⟩ (.int .i64 0)) w.heap.size (.int .i64 2) (.string ⟨#[]⟩) (.int .i64 0) (.int .i64 t0.line) (.int .i64 t0.col) (.slice none 0 0) (.slice none 0 0) (.slice none 0 0);refine bodyPost_ret (aM rfl rfl (aV jJ.o _ _ _ _ _ _ _ _) Tryz.underlying52 rfl (by kernel_rfl)) rfl ?_;exact aL.done iL.o.symm (bU fG.o (by omega)) ⟨_,rfl,.mk (cO.nil _ _ _) .nil (cO.nil _ _ _) (cO.nil _ _ _) .nil⟩ (jw.o.gT (by omega))
     ·have iL:bN (Pr.good (aK 2 [] 1 t0 [] [] []) r4=Q):=aZ ((au gq.o).symm.trans iq.o);have tS:=((ak w4 w2.heap.size 0 (.int .i64 2)).trans (ak _ w2.heap.size 2 (.int .i64 1)) (fun _ _ h=>h))
      have qN:=aZ (show((w4.setCell ⟨w2.heap.size,0,none⟩ (.int .i64 2)).setCell ⟨w2.heap.size,2,none⟩ (.int .i64 1)).heap[w2.heap.size]? =some (.cells #[.int .i64 2,.string ⟨#[]⟩,.int .i64 1,.int .i64 t0.line,.int .i64 t0.col,.slice none 0 0,.slice none 0 0,.slice none 0 0] 52 (0,0))from(heap_setCell_same _ _ 2 _ _ (.int .i64 1) (heap_setCell_same _ _ 0 _ _ (.int .i64 2) qM.o)));have jw:=aZ (iD.o.turn tS (by omega) (fun k hk e=>by have:=gD.o.1;omega));have fG:=aZ (fD.o.trans tS (fun i hi e=>by omega));have jJ:=aZ (ah jF.o tS (by omega));have hsS:(((w4.setCell ⟨w2.heap.size,0,none⟩ (.int .i64 2)).setCell ⟨w2.heap.size,2,none⟩ (.int .i64 1))).heap.size=w4.heap.size:=by simp
      clear tS;go_wp2_with fail;have tF:=bD ((w4.setCell ⟨w2.heap.size,0,none⟩ (.int .i64 2)).setCell ⟨w2.heap.size,2,none⟩ (.int .i64 1)) w.heap.size (.int .i64 2) (.string ⟨#[]⟩) (.int .i64 1) (.int .i64 t0.line) (.int .i64 t0.col) (.slice none 0 0) (.slice none 0 0) (.slice none 0 0);refine bodyPost_ret (aM rfl rfl (aV jJ.o _ _ _ _ _ _ _ _) Tryz.underlying52 rfl (by kernel_rfl)) rfl ?_;exact aL.done iL.o.symm (bU fG.o (by omega)) ⟨_,rfl,.mk (cO.nil _ _ _) .nil (cO.nil _ _ _) (cO.nil _ _ _) .nil⟩ (jw.o.gT (by omega))
     ·have iL:bN (Pr.good (aK 3 [] 0 t0 [] [] []) r4=Q):=aZ ((au gq.o).symm.trans iq.o);have tS:=(ak w4 w2.heap.size 0 (.int .i64 3))
      have qN:=aZ (show(w4.setCell ⟨w2.heap.size,0,none⟩ (.int .i64 3)).heap[w2.heap.size]? =some (.cells #[.int .i64 3,.string ⟨#[]⟩,.int .i64 0,.int .i64 t0.line,.int .i64 t0.col,.slice none 0 0,.slice none 0 0,.slice none 0 0] 52 (0,0))from(heap_setCell_same _ _ 0 _ _ (.int .i64 3) qM.o));have jw:=aZ (iD.o.turn tS (by omega) (fun k hk e=>by have:=gD.o.1;omega));have fG:=aZ (fD.o.trans tS (fun i hi e=>by omega));have jJ:=aZ (ah jF.o tS (by omega));have hsS:((w4.setCell ⟨w2.heap.size,0,none⟩ (.int .i64 3))).heap.size=w4.heap.size:=by simp
      clear tS;go_wp2_with fail;have tF:=bD (w4.setCell ⟨w2.heap.size,0,none⟩ (.int .i64 3)) w.heap.size (.int .i64 3) (.string ⟨#[]⟩) (.int .i64 0) (.int .i64 t0.line) (.int .i64 t0.col) (.slice none 0 0) (.slice none 0 0) (.slice none 0 0);refine bodyPost_ret (aM rfl rfl (aV jJ.o _ _ _ _ _ _ _ _) Tryz.underlying52 rfl (by kernel_rfl)) rfl ?_;exact aL.done iL.o.symm (bU fG.o (by omega)) ⟨_,rfl,.mk (cO.nil _ _ _) .nil (cO.nil _ _ _) (cO.nil _ _ _) .nil⟩ (jw.o.gT (by omega))
     ·have iL:bN (aj (jo [[40],[41]]) (fun _=>aF (aK 18 [] 0 t0 [] [] [])) r4=Q):=aZ ((au gq.o).symm.trans iq.o);have tS:=(ak w4 w2.heap.size 0 (.int .i64 18))
      have qN:=aZ (show(w4.setCell ⟨w2.heap.size,0,none⟩ (.int .i64 18)).heap[w2.heap.size]? =some (.cells #[.int .i64 18,.string ⟨#[]⟩,.int .i64 0,.int .i64 t0.line,.int .i64 t0.col,.slice none 0 0,.slice none 0 0,.slice none 0 0] 52 (0,0))from(heap_setCell_same _ _ 0 _ _ (.int .i64 18) qM.o));have jw:=aZ (iD.o.turn tS (by omega) (fun k hk e=>by have:=gD.o.1;omega));have fG:=aZ (fD.o.trans tS (fun i hi e=>by omega));have jJ:=aZ (ah jF.o tS (by omega));have hsS:((w4.setCell ⟨w2.heap.size,0,none⟩ (.int .i64 18))).heap.size=w4.heap.size:=by simp
      clear tS;have HP:=aZ (Lx ((w4.setCell ⟨w2.heap.size,0,none⟩ (.int .i64 18)).alloc (.cells #[.string ⟨#[40]⟩,.string ⟨#[41]⟩] 9)) bp B r4 d (jw.o.below (new1 _ _)) (.slice (some ⟨w4.heap.size,0,none⟩) 2 2) [[40],[41]] (JY _ _ hsS.symm [[40],[41]] #[.string ⟨#[40]⟩,.string ⟨#[41]⟩] 9 2 rfl rfl (by decide)) (by simp));go_wp2_with fail;refine(HP.o).mono ?_;rintro e w5 h5;rcases hq:jo [[40],[41]] r4 with g |⟨u,r5⟩
      ·obtain⟨rfl,tn,bn⟩:=h5.bY hq;have tn:=(bR tn).1;have HB:=aZ (eP.mk2 (aB fG.o tn) bn);have dP:=aZ (iL.o.symm.trans (aC hq));clear h5 tn bn hq;go_wp2_with fail;exact⟨rfl,aL.fail dP.o HB.o⟩
      ·obtain⟨v5,rfl,tn,-,kn⟩:=h5.aQ hq;have tn:=(bR tn).1;have hsA:=tn.size;rw [hsS]at hsA;have hs6:=tn.size;have jP:=aZ (aB fG.o tn);have nT:=aZ kn;have sF:=aZ (ah jJ.o tn (by omega));have Iu:=ah qN.o tn (by omega);have xM:bN (Pr.good (aK 18 [] 0 t0 [] [] []) r5=Q):=aZ ((au hq).symm.trans iL.o);clear y0 y1 y2 y3 y4 y5 y6 y7 yz c0 c1 c2 c3 c4 c5 c6 c7 cz;obtain⟨y0,y1,y2,y3,y4,y5,y6,y7,yz⟩:=aD Iu;obtain⟨c0,c1,c2,c3,c4,c5,c6,c7,cz⟩:=aD sF.o;clear h5 tn kn hq Iu;go_wp2_with fail;have tF:=bD w5 w.heap.size (.int .i64 18) (.string ⟨#[]⟩) (.int .i64 0) (.int .i64 t0.line) (.int .i64 t0.col) (.slice none 0 0) (.slice none 0 0) (.slice none 0 0);refine bodyPost_ret (aM rfl rfl (aV sF.o _ _ _ _ _ _ _ _) Tryz.underlying52 rfl (by kernel_rfl)) rfl ?_;exact aL.done xM.o.symm (bU jP.o (by omega)) ⟨_,rfl,.mk (cO.nil _ _ _) .nil (cO.nil _ _ _) (cO.nil _ _ _) .nil⟩ (nT.o.gT (by omega))
     ·have iL:bN (aj (bH expr [[40]] []) (fun k=>aj (aH [41]) fun _=>aF (aK 17 [] 0 t0 [] [] k)) r4=Q):=aZ ((au gq.o).symm.trans iq.o);have tS:=(ak w4 w2.heap.size 0 (.int .i64 17))
      have qN:=aZ (show(w4.setCell ⟨w2.heap.size,0,none⟩ (.int .i64 17)).heap[w2.heap.size]? =some (.cells #[.int .i64 17,.string ⟨#[]⟩,.int .i64 0,.int .i64 t0.line,.int .i64 t0.col,.slice none 0 0,.slice none 0 0,.slice none 0 0] 52 (0,0))from(heap_setCell_same _ _ 0 _ _ (.int .i64 17) qM.o));have jw:=aZ (iD.o.turn tS (by omega) (fun k hk e=>by have:=gD.o.1;omega));have fG:=aZ (fD.o.trans tS (fun i hi e=>by omega));have jJ:=aZ (ah jF.o tS (by omega));have hsS:((w4.setCell ⟨w2.heap.size,0,none⟩ (.int .i64 17))).heap.size=w4.heap.size:=by simp
      clear tS;have zI:=aZ (kU d expr sJ ((w4.setCell ⟨w2.heap.size,0,none⟩ (.int .i64 17)).alloc (.cells #[.string ⟨#[40]⟩] 9)) bp B w2.heap.size (w2.heap.size+1) (fun j=>w2.heap.size+1<=j) r4 (jw.o.below (new1 _ _)) (.int .i64 17) (.string ⟨#[]⟩) (.int .i64 0) (.int .i64 t0.line) (.int .i64 t0.col) (.slice none 0 0) (.slice none 0 0) (.slice none 0 0) [] (bQ qN.o) (fH.nil _ _ _ _ _ _) (.slice (some ⟨((w4.setCell ⟨w2.heap.size,0,none⟩ (.int .i64 17))).heap.size,0,none⟩) 1 1) [[40]] ((jO ((w4.setCell ⟨w2.heap.size,0,none⟩ (.int .i64 17))) #[.string ⟨#[40]⟩] 9 1 1 rfl (by decide)).mono (fun g _ h=>⟨by omega,by omega,fun e=>by cases e⟩)) (by decide) (by simp) (by omega) (by omega) (by simp;omega) (by omega) (by omega) (fun j hj=>by simp at hj;omega));rw [hsS]at zI;go_wp2_with fail;refine(zI.o).mono ?_;rintro e w5 h5;rcases hq:bH expr [[40]] [] r4 with g |⟨ks,r5⟩
      ·obtain⟨rfl,tn,bn⟩:=h5.bY hq;have tn:=(bR tn).1;have HB:=aZ (eP.mk2 (fG.o.trans tn (fun i hi e=>by rcases e with e |e |e;exact e;omega;cases e)) bn);have dP:=aZ (iL.o.symm.trans (aC hq));clear h5 tn bn hq;go_wp2_with fail;exact⟨rfl,aL.fail dP.o HB.o⟩
      ·obtain⟨rfl,tn,⟨vk,nD,BF⟩,kn⟩:=h5.aQ hq;have tk:=(bR tn).1;have vF:=tk.size;rw [hsS]at vF;obtain⟨A8,c8,hv8,_,_⟩:=BF.shape;subst hv8;have mh:=aZ (fG.o.trans tk (fun i hi e=>by rcases e with e |e |e;exact e;omega;cases e));have kY:=aZ (ah jJ.o tk (fun e=>by rcases e with e |e |e;omega;omega;cases e));have qF:=aZ kn;have HR8:=aZ BF;have qO:=aZ nD;have zF:bN (aj (aH [41]) (fun _=>aF (aK 17 [] 0 t0 [] [] ks)) r5=Q):=aZ ((au hq).symm.trans iL.o);have HN:=aZ (fF w5 bp B r5 d kn [41] 9 w5.heap.size);clear h5 tn tk nD BF kn hq;go_wp2_with fail;refine(HN.o).mono ?_;rintro e w6 h5;rcases hq:aH [41] r5 with g |⟨u,r6⟩
       ·obtain⟨rfl,tn,bn⟩:=h5.bY hq;have HB:=aZ (eP.mk2 (aB mh.o tn) bn);have dP:=aZ (zF.o.symm.trans (aC hq));clear h5 tn bn hq;go_wp2_with fail;exact⟨rfl,aL.fail dP.o HB.o⟩
       ·obtain⟨v6,rfl,tn,-,kn⟩:=h5.aQ hq;have OA:=HR8.o.turn aU tn (fun g hg e=>by have:=(HR8.o.lt g hg).1;omega) (fun g _ hg e=>by omega);have Il:=aZ OA;clear OA;have Fx:=tn.size;have lV:=aZ (aB mh.o tn);have mO:=aZ kn;have Nz:=aZ (ah kY.o tn (by omega));have anB:=ah qO.o tn (by omega);have wQ:bN (Pr.good (aK 17 [] 0 t0 [] [] ks) r6=Q):=aZ ((au hq).symm.trans zF.o);clear y0 y1 y2 y3 y4 y5 y6 y7 yz c0 c1 c2 c3 c4 c5 c6 c7 cz;obtain⟨y0,y1,y2,y3,y4,y5,y6,y7,yz⟩:=aD anB;obtain⟨c0,c1,c2,c3,c4,c5,c6,c7,cz⟩:=aD Nz.o;clear h5 tn kn hq anB;obtain⟨xs,q1,q2⟩:=Il.o.sl aU;have mM:=aZ q1;have jI:=aZ q2;clear q1 q2;go_wp2_with fail;have tF:=bD w6 w.heap.size (.int .i64 17) (.string ⟨#[]⟩) (.int .i64 0) (.int .i64 t0.line) (.int .i64 t0.col) (.slice none 0 0) (.slice none 0 0) (.slice A8 ks.length c8);refine bodyPost_ret (aM rfl rfl (aV Nz.o _ _ _ _ _ _ _ _) Tryz.underlying52 rfl (by kernel_rfl)) rfl ?_;exact aL.done wQ.o.symm (bU lV.o (by omega)) ⟨_,rfl,.mk (cO.nil _ _ _) .nil (cO.nil _ _ _) ((mM.o.turn tF (fun g _ h e=>by rcases h with h |h <;> omega)).mono (fun g _ h=>by rcases h with h |h <;> omega)) (mD (cK aU (fun g _ h=>by rcases h with h |h <;> omega) (bq aU tF (fun g _ h e=>by rcases h with h |h <;> omega) jI.o)))⟩ (mO.o.gT (by omega))
     ·have iL:bN (aj expr (fun x=>aj (aH [41]) fun _=>aF x) r4=Q):=aZ ((au gq.o).symm.trans iq.o);have HP:=aZ (sJ w4 bp B r4 iD.o);go_wp2_with fail;refine(HP.o).mono ?_;rintro e w5 h5;rcases hq:expr r4 with g |⟨x,r5⟩
      ·obtain⟨rfl,tn,bn⟩:=h5.bY hq;have HB:=aZ (eP.mk2 (aB fD.o tn) bn);have dP:=aZ (iL.o.symm.trans (aC hq));clear h5 tn bn hq;go_wp2_with fail;exact⟨rfl,aL.fail dP.o HB.o⟩
      ·obtain⟨v5,rfl,tn,⟨z5,rfl,hz⟩,kn⟩:=h5.aQ hq;obtain⟨k4,s4,n4,l4,o4,qG,n14,c14,qH,n24,c24,uQ,n34,c34,rfl⟩:=hz.shape';have hs5:=tn.size;have pE:=ah qM.o tn (by omega);clear y0 y1 y2 y3 y4 y5 y6 y7 yz;obtain⟨y0,y1,y2,y3,y4,y5,y6,y7,yz⟩:=aD pE;have tP:=bD w5 w2.heap.size (.int .i64 k4) (sv s4) (.int .i64 n4) (.int .i64 l4) (.int .i64 o4) (.slice qG n14 c14) (.slice qH n24 c24) (.slice uQ n34 c34);have fG:=aZ ((aB fD.o tn).trans tP (fun i hi e=>by omega));have jw:=aZ (kn.gT (a:=w2.heap.size) (v0:= .int .i64 k4) (v1:=sv s4) (v2:= .int .i64 n4) (v3:= .int .i64 l4) (v4:= .int .i64 o4) (v5:= .slice qG n14 c14) (v6:= .slice qH n24 c24) (v7:= .slice uQ n34 c34) (by omega));have jJ:=aZ (ah (ah jF.o tn (by omega)) tP (by omega));have qN:=aZ (aV pE (.int .i64 k4) (sv s4) (.int .i64 n4) (.int .i64 l4) (.int .i64 o4) (.slice qG n14 c14) (.slice qH n24 c24) (.slice uQ n34 c34));have Bz:=aZ ((hz.iv.turn tP (fun g _ h e=>by have:=h.1;omega)).mono (G:=Iv w4.heap.size w5.heap.size) (fun g _ h=>h));have hsP:=tP.size;have xM:bN (aj (aH [41]) (fun _=>aF x) r5=Q):=aZ ((au hq).symm.trans iL.o);have HN:=aZ (fF (yg w5 w2.heap.size (.int .i64 k4) (sv s4) (.int .i64 n4) (.int .i64 l4) (.int .i64 o4) (.slice qG n14 c14) (.slice qH n24 c24) (.slice uQ n34 c34)) bp B r5 d jw.o [41] 9 w5.heap.size);clear h5 tn tP hz kn hq pE;go_wp2_with fail;refine(HN.o).mono ?_;rintro e w6 h5;rcases hq:aH [41] r5 with g |⟨u,r6⟩
       ·obtain⟨rfl,tn,bn⟩:=h5.bY hq;have HB:=aZ (eP.mk2 (aB fG.o tn) bn);have dP:=aZ (xM.o.symm.trans (aC hq));clear h5 tn bn hq;go_wp2_with fail;exact⟨rfl,aL.fail dP.o HB.o⟩
       ·obtain⟨v6,rfl,tn,-,kn⟩:=h5.aQ hq;have HZ6:=aZ (Bz.o.turn tn (fun g _ h e=>by have:=h.1;omega));have iL:=xM;have hs7:=tn.size;have iX:=aZ (aB fG.o tn);have kr:=aZ kn;have zk:=aZ (ah jJ.o tn (by omega));have zw:=ah qN.o tn (by omega);have zi:bN (Pr.good (x) r6=Q):=aZ ((au hq).symm.trans iL.o);clear y0 y1 y2 y3 y4 y5 y6 y7 yz c0 c1 c2 c3 c4 c5 c6 c7 cz;obtain⟨y0,y1,y2,y3,y4,y5,y6,y7,yz⟩:=aD zw;obtain⟨c0,c1,c2,c3,c4,c5,c6,c7,cz⟩:=aD zk.o;clear h5 tn kn hq zw;go_wp2_with fail;have tF:=bD w6 w.heap.size (.int .i64 k4) (sv s4) (.int .i64 n4) (.int .i64 l4) (.int .i64 o4) (.slice qG n14 c14) (.slice qH n24 c24) (.slice uQ n34 c34);refine bodyPost_ret (aM rfl rfl (aV zk.o _ _ _ _ _ _ _ _) Tryz.underlying52 rfl (by kernel_rfl)) rfl ?_;exact aL.done zi.o.symm (bU iX.o (by omega)) ⟨_,rfl,(HZ6.o.turn tF (fun g _ h e=>by have:=h.1;omega)).mono (fun g _ h=>by have:=h.1;omega)⟩ (kr.o.gT (by omega))
     ·have iL:bN (aj (mI expr t0) (fun x=>aj (aH [125]) fun _=>aF x) r4=Q):=aZ ((au gq.o).symm.trans iq.o);have HP:=aZ (Qs d expr hse sJ w4 bp B w2.heap.size t0 r4 iD.o qM.o (by omega));go_wp2_with fail;refine(HP.o).mono ?_;rintro e w5 h5;rcases hq:mI expr t0 r4 with g |⟨x,r5⟩
      ·obtain⟨rfl,tn,bn⟩:=h5.bY hq;have HB:=aZ (eP.mk2 (fD.o.trans tn (fun i hi e=>by rcases e with e |e;exact e;omega)) bn);have dP:=aZ (iL.o.symm.trans (aC hq));clear h5 tn bn hq;go_wp2_with fail;exact⟨rfl,aL.fail dP.o HB.o⟩
      ·obtain⟨v5,rfl,tn,⟨rfl,z5,hb5,hz⟩,kn⟩:=h5.aQ hq;obtain⟨k4,s4,n4,l4,o4,qG,n14,c14,qH,n24,c24,uQ,n34,c34,rfl⟩:=hz.shape';have hs5:=tn.size;have fG:=aZ (fD.o.trans tn (fun i hi e=>by rcases e with e |e;exact e;omega));have jw:=aZ kn;have jJ:=aZ (ah jF.o tn (fun e=>by rcases e with e |e <;> omega));have qN:=aZ hb5;have Bz:=aZ hz.iv;have xM:bN (aj (aH [125]) (fun _=>aF x) r5=Q):=aZ ((au hq).symm.trans iL.o);have HN:=aZ (fF w5 bp B r5 d kn [125] 9 w5.heap.size);clear h5 tn hz kn hq hb5;go_wp2_with fail;refine(HN.o).mono ?_;rintro e w6 h5;rcases hq:aH [125] r5 with g |⟨u,r6⟩
       ·obtain⟨rfl,tn,bn⟩:=h5.bY hq;have HB:=aZ (eP.mk2 (aB fG.o tn) bn);have dP:=aZ (xM.o.symm.trans (aC hq));clear h5 tn bn hq;go_wp2_with fail;exact⟨rfl,aL.fail dP.o HB.o⟩
       ·obtain⟨v6,rfl,tn,-,kn⟩:=h5.aQ hq;have HZ6:=aZ (Bz.o.turn tn (fun g _ h e=>by have:=h.1;omega));have iL:=xM;have hs7:=tn.size;have iX:=aZ (aB fG.o tn);have kr:=aZ kn;have zk:=aZ (ah jJ.o tn (by omega));have zw:=ah qN.o tn (by omega);have zi:bN (Pr.good (x) r6=Q):=aZ ((au hq).symm.trans iL.o);clear y0 y1 y2 y3 y4 y5 y6 y7 yz c0 c1 c2 c3 c4 c5 c6 c7 cz;obtain⟨y0,y1,y2,y3,y4,y5,y6,y7,yz⟩:=aD zw;obtain⟨c0,c1,c2,c3,c4,c5,c6,c7,cz⟩:=aD zk.o;clear h5 tn kn hq zw;go_wp2_with fail;have tF:=bD w6 w.heap.size (.int .i64 k4) (sv s4) (.int .i64 n4) (.int .i64 l4) (.int .i64 o4) (.slice qG n14 c14) (.slice qH n24 c24) (.slice uQ n34 c34);refine bodyPost_ret (aM rfl rfl (aV zk.o _ _ _ _ _ _ _ _) Tryz.underlying52 rfl (by kernel_rfl)) rfl ?_;exact aL.done zi.o.symm (bU iX.o (by omega)) ⟨_,rfl,(HZ6.o.turn tF (fun g _ h e=>by have:=h.1;omega)).mono (fun g _ h=>by have:=h.1;omega)⟩ (kr.o.gT (by omega))
theorem Vk:Aj 100 (jL 6):=by
 intro w bp B ts h;have HE:=aZ (zf (w.alloc (.cells #[.int .i64 0,.string ⟨#[]⟩,.int .i64 0,.int .i64 0,.int .i64 0,.slice none 0 0,.slice none 0 0,.slice none 0 0] 52)) bp B ts (h.below (new1 _ _)));clear h
 go_enter_defers Tryz.func50,Tryz.ntmps50
 go_wp2_with fail;refine(HE.o).mono ?_;rintro e w1 ⟨rfl,hb⟩;go_wp2_with fail;exact aL.fail (P:=En w.heap.size) (B:=B) (d:=100) (q:=jL 6 ts) rfl ⟨(bR hb.1).1,hb.2⟩
theorem Z6 (d:Int)(typ:Ps bS)(unary:Ps bI)(hst:Sf typ)(hsu:Sf unary)(qE:z8 d typ)(HU:Ca d unary):tN d 0 (iF typ unary 6):=by
 have h6:tN d 6 (iF typ unary 0):=Xi d unary HU;have h5:tN d 5 (iF typ unary 1):=tO d 5 (by omega) _ (Sf.rank hst hsu 0) h6;have h4:tN d 4 (iF typ unary 2):=tO d 4 (by omega) _ (Sf.rank hst hsu 1) h5;have h3:tN d 3 (iF typ unary 3):=tO d 3 (by omega) _ (Sf.rank hst hsu 2) h4;have h2:tN d 2 (iF typ unary 4):=Xj d _ (abY d typ qE _ (Sf.rank hst hsu 3) h3);have h1:tN d 1 (iF typ unary 5):=tO d 1 (by omega) _ (Sf.rank hst hsu 4) h2;exact tO d 0 (by omega) _ (Sf.rank hst hsu 5) h1
theorem Ti:∀n:Nat,n<=100->Aj (100 - (n:Int)) (cB n).expr∧Ca (100 - (n:Int)) (cB n).unary
 |0,_=>⟨Vk,Qa⟩
 |n+1,h=>by
  obtain⟨ihe,ihu⟩:=Ti n (by omega);have iht:=Et n (by omega);obtain⟨s1,s2,s3⟩:=Sf.O1 n;have e:(100:Int) - ((n+1:Nat):Int)+1=100 - (n:Int):=by omega
  refine⟨Vj (100 - ((n+1:Nat):Int)) (by omega) (by omega) (cB n).typ (cB n).expr (cB n).unary s1 ?_ ?_ ?_,P9 (100 - ((n+1:Nat):Int)) (by omega) (by omega) (cB n).typ (cB n).expr (cB n).unary ?_ ?_⟩
  ·rw [e];exact iht
  ·rw [e];exact ihe
  ·rw [e];exact Z6 _ _ _ s1 s3 iht ihu
  ·rw [e];exact ihu
  ·rw [e];exact ZM _ _ _ s2 ihe (Z5 _ _ _ s1 s2 iht ihe)
theorem NA (w:World)(bp B:Nat)(ts:List aI)(h:bX w bp B ts 0):Calls Tryz.prog 50 #[.pointer (some ⟨bp,0,none⟩)] w (aL (En w.heap.size) bp B 0 w ((cB 100).expr ts)):=
 (Ti 100 (Nat.le_refl _)).1 w bp B ts h
theorem Tj (w:World)(bp B:Nat)(ts:List aI)(h:bX w bp B ts 0):Calls Tryz.prog 54 #[.pointer (some ⟨bp,0,none⟩)] w (aL (PTy w.heap.size) bp B 0 w ((cB 100).typ ts)):=
 Et 100 (Nat.le_refl _) w bp B ts h
def NC (w:World)(F:Nat->Prop)(z:List Value)(i:yY):Prop:=∃vn,z=[sv i.from_,vn,.int .i64 i.line,.int .i64 i.col]∧cO w F 1 vn (pU i.names)
def ND (w:World)(F:Nat->Prop)(z:List Value)(v:EL):Prop:=∃y,z=sv v.name :: y∧mJ w F y v.bound
def OJ (w:World)(F:Nat->Prop)(z:List Value)(d:vW):Prop:=
 ∃vv xv vt xt y,z=[sv d.name,.bool d.exp,vv,sv d.param,vt]++(y++[.int .i64 d.line,.int .i64 d.col])∧cO w F 5 vv xv∧fC (ND w F) 5 xv d.vars∧cO w F 4 vt xt∧oK w F xt d.types∧qd w F y d.body
def Tk (w:World)(F:Nat->Prop)(z:List Value)(m:Hw):Prop:=
 ∃vi xi vd xd,z=[vi,vd]∧cO w F 4 vi xi∧fC (NC w F) 4 xi m.imps∧cO w F 15 vd xd∧fC (OJ w F) 15 xd m.decls
section
variable {w w':World}{F G:Nat->Prop}{z:List Value}{B:Nat}
theorem NC.turn {i:yY}(h:NC w F z i)(t:Turn G w w')(hd:∀g,g<w.heap.size->F g->¬G g):NC w' F z i:=by
 obtain⟨vn,e,h1⟩:=h;exact⟨vn,e,h1.turn t hd⟩
theorem NC.mono {i:yY}(h:NC w F z i)(hF:∀g,g<w.heap.size->F g->G g):NC w G z i:=by
 obtain⟨vn,e,h1⟩:=h;exact⟨vn,e,h1.mono hF⟩
theorem NC.to {i:yY}(h:NC w F z i)(hF:∀g,g<w.heap.size->F g->g<B):ImR w B z i:=by
 obtain⟨vn,e,h1⟩:=h;exact⟨vn,e,h1.to hF⟩
theorem ND.turn {i:EL}(h:ND w F z i)(t:Turn G w w')(hd:∀g,g<w.heap.size->F g->¬G g):ND w' F z i:=by
 obtain⟨vn,e,h1⟩:=h;exact⟨vn,e,h1.turn t hd⟩
theorem ND.mono {i:EL}(h:ND w F z i)(hF:∀g,g<w.heap.size->F g->G g):ND w G z i:=by
 obtain⟨vn,e,h1⟩:=h;exact⟨vn,e,h1.mono hF⟩
theorem ND.to {i:EL}(h:ND w F z i)(hF:∀g,g<w.heap.size->F g->g<B):VR w B z i:=by
 obtain⟨vn,e,h1⟩:=h;exact⟨vn,e,h1.to hF⟩
theorem OJ.turn {i:vW}(h:OJ w F z i)(t:Turn G w w')(hd:∀g,g<w.heap.size->F g->¬G g):OJ w' F z i:=by
 obtain⟨vv,xv,vt,xt,y,e,h1,h2,h3,h4,h5⟩:=h;exact⟨vv,xv,vt,xt,y,e,h1.turn t hd,h2.imp fun _ _ h=>h.turn t hd,h3.turn t hd,h4.turn t hd,h5.turn t hd⟩
theorem OJ.mono {i:vW}(h:OJ w F z i)(hF:∀g,g<w.heap.size->F g->G g):OJ w G z i:=by
 obtain⟨vv,xv,vt,xt,y,e,h1,h2,h3,h4,h5⟩:=h;exact⟨vv,xv,vt,xt,y,e,h1.mono hF,h2.imp fun _ _ h=>h.mono hF,h3.mono hF,h4.mono hF,h5.mono hF⟩
theorem OJ.to {i:vW}(h:OJ w F z i)(hF:∀g,g<w.heap.size->F g->g<B):KV w B z i:=by
 obtain⟨vv,xv,vt,xt,y,e,h1,h2,h3,h4,h5⟩:=h;exact⟨vv,xv,vt,xt,y,e,h1.to hF,h2.imp fun _ _ h=>h.to hF,h3.to hF,h4.to hF,h5.to hF⟩
theorem Tk.turn {i:Hw}(h:Tk w F z i)(t:Turn G w w')(hd:∀g,g<w.heap.size->F g->¬G g):Tk w' F z i:=by
 obtain⟨vi,xi,vd,xd,e,h1,h2,h3,h4⟩:=h;exact⟨vi,xi,vd,xd,e,h1.turn t hd,h2.imp fun _ _ h=>h.turn t hd,h3.turn t hd,h4.imp fun _ _ h=>h.turn t hd⟩
theorem Tk.mono {i:Hw}(h:Tk w F z i)(hF:∀g,g<w.heap.size->F g->G g):Tk w G z i:=by
 obtain⟨vi,xi,vd,xd,e,h1,h2,h3,h4⟩:=h;exact⟨vi,xi,vd,xd,e,h1.mono hF,h2.imp fun _ _ h=>h.mono hF,h3.mono hF,h4.imp fun _ _ h=>h.mono hF⟩
theorem Tk.to {i:Hw}(h:Tk w F z i)(hF:∀g,g<w.heap.size->F g->g<B):TV w B z i:=by
 obtain⟨vi,xi,vd,xd,e,h1,h2,h3,h4⟩:=h;exact⟨vi,xi,vd,xd,e,h1.to hF,h2.imp fun _ _ h=>h.to hF,h3.to hF,h4.imp fun _ _ h=>h.to hF⟩
theorem NC.all {i:yY}(h:NC w F z i):ImR w w.heap.size z i:=h.to fun _ hg _=>hg
theorem ND.all {i:EL}(h:ND w F z i):VR w w.heap.size z i:=h.to fun _ hg _=>hg
theorem OJ.all {i:vW}(h:OJ w F z i):KV w w.heap.size z i:=h.to fun _ hg _=>hg
theorem Tk.all {i:Hw}(h:Tk w F z i):TV w w.heap.size z i:=h.to fun _ hg _=>hg
theorem NC.shape' {i:yY}(h:NC w F z i):∃A n c,z=[sv i.from_,.slice A n c,.int .i64 i.line,.int .i64 i.col]:=by
 obtain⟨vn,rfl,A,n,c,rfl,_⟩:=h;exact⟨A,n,c,rfl⟩
theorem ND.shape' {i:EL}(h:ND w F z i):∃k s A1 n1 c1 A2 n2 c2,z=[sv i.name,.int .i64 k,sv s,.slice A1 n1 c1,.slice A2 n2 c2]:=by
 obtain⟨y,rfl,h⟩:=h;generalize i.bound=b at h;cases h with
 |mk h1 h2 h3=>
  obtain⟨A1,n1,c1,rfl,_⟩:=h1;obtain⟨A2,n2,c2,rfl,_⟩:=h2;exact⟨_,_,_,_,_,_,_,_,rfl⟩
theorem OJ.shape' {i:vW}(h:OJ w F z i):∃A1 n1 c1 A2 n2 c2 k s a b c A3 n3 c3 A4 n4 c4 A5 n5 c5,z=[sv i.name,.bool i.exp,.slice A1 n1 c1,sv i.param,.slice A2 n2 c2,.int .i64 k,sv s,.int .i64 a,.int .i64 b,.int .i64 c,.slice A3 n3 c3,.slice A4 n4 c4,.slice A5 n5 c5,.int .i64 i.line,.int .i64 i.col]:=by
 obtain⟨vv,xv,vt,xt,y,rfl,⟨A1,n1,c1,rfl,_⟩,_,⟨A2,n2,c2,rfl,_⟩,_,h⟩:=h;generalize i.body=x at h;cases h with
 |mk h1 h2 h3 h4 h5=>
  obtain⟨A3,n3,c3,rfl,_⟩:=h1;obtain⟨A4,n4,c4,rfl,_⟩:=h3;obtain⟨A5,n5,c5,rfl,_⟩:=h4;exact⟨_,_,_,_,_,_,_,_,_,_,_,_,_,_,_,_,_,_,_,_,rfl⟩
end
theorem jT:qW NC 4 where
 turn h t hd:=h.turn t hd
 mono h hF:=h.mono hF
 len h:=by obtain⟨A,n,c,rfl⟩:=h.shape';rfl
 one h:=by
  obtain⟨A,n,c,rfl⟩:=h.shape';intro u hu;simp only [List.mem_cons,List.not_mem_nil,or_false]at hu;rcases hu with rfl |rfl |rfl |rfl <;> rfl
theorem iR:qW ND 5 where
 turn h t hd:=h.turn t hd
 mono h hF:=h.mono hF
 len h:=by obtain⟨k,s,A1,n1,c1,A2,n2,c2,rfl⟩:=h.shape';rfl
 one h:=by
  obtain⟨k,s,A1,n1,c1,A2,n2,c2,rfl⟩:=h.shape';intro u hu;simp only [List.mem_cons,List.not_mem_nil,or_false]at hu;rcases hu with rfl |rfl |rfl |rfl |rfl <;> rfl
theorem rO:qW OJ 15 where
 turn h t hd:=h.turn t hd
 mono h hF:=h.mono hF
 len h:=by obtain⟨A1,n1,c1,A2,n2,c2,k,s,a,b,c,A3,n3,c3,A4,n4,c4,A5,n5,c5,rfl⟩:=h.shape';rfl
 one h:=by
  obtain⟨A1,n1,c1,A2,n2,c2,k,s,a,b,c,A3,n3,c3,A4,n4,c4,A5,n5,c5,rfl⟩:=h.shape';intro u hu;simp only [List.mem_cons,List.not_mem_nil,or_false]at hu;rcases hu with rfl |rfl |rfl |rfl |rfl |rfl |rfl |rfl |rfl |rfl |rfl |rfl |rfl |rfl |rfl <;> rfl
theorem Bn {α:Type}{R:World->(Nat->Prop)->List Value->α->Prop}{k:Nat}(hR:qW R k){e:TypeId}{w w9:World}{base:Nat}{F:Nat->Prop}{v v9:Value}{l:List α}{x:α}{z ys:List Value}{n9:Nat}{o:Obj}(h1:w.ownsRow base e k v l.length ys)(h2:fC (R w (qK F v)) k ys l)
  (hx:R w (qK F v) z x) (hg:(w.alloc o).grownBy w9 v.ownBlock) (hbk:v9.ownBlock=v.ownBlock∨v9.ownBlock=some (w.alloc o).heap.size) (h9:w9.ownsRow base e k v9 n9 (ys++z)) (hk:0<k):fH R k e w9 base F v9 (l++[x])∧n9=l.length+1∧Turn (fun j=>v.ownBlock=some j) w w9:=by
 have hn:n9=(l++[x]).length:=by
  have e1:=h9.1;have e2:=h1.1;have e3:=hR.len hx;rw [List.length_append,e2,e3]at e1;rw [List.length_append,List.length_singleton];have:n9*k=(l.length+1)*k:=by rw [<-e1,Nat.add_mul,Nat.one_mul]
  exact Nat.eq_of_mul_eq_mul_right hk this
 subst hn;have t9:Turn (fun j=>v.ownBlock=some j) w w9:=(Turn.alloc (fun j=>v.ownBlock=some j) w o).trans (Turn.bB hg (fun _ h=>h)) (fun _ _ h=>h);have go:∀{z:List Value}{x:α},R w (qK F v) z x->R w9 (qK F v9) z x:=fun h=>by
  have h3:R w (fun j=>j<w.heap.size∧qK F v j) _ _:=hR.mono h fun j hj h=>⟨hj,h⟩
  refine hR.mono (hR.turn h3 t9 (fun j _ h e=>h.2.1 e)) fun j _ h=>⟨fun e=>?_,h.2.2⟩
  rcases hbk with hb |hb
  ·rw [hb]at e;exact h.2.1 e
  ·rw [hb]at e;injection e with e;have:=h.1;simp at e;omega
 exact⟨⟨_,h9,fC.app (CW (hR.len hx) (go hx)) (h2.imp fun _ _ h=>go h)⟩,by simp,t9⟩
theorem cells5 {w:World}{b:Nat}{a0 a1 a2 a3 a4:Value}{t:TypeId}(h:w.heap[b]? =some (.cells #[a0,a1,a2,a3,a4] t (0,0))):w.cell? ⟨b,0,none⟩=some a0∧w.cell? ⟨b,1,none⟩=some a1∧w.cell? ⟨b,2,none⟩=some a2∧w.cell? ⟨b,3,none⟩=some a3∧w.cell? ⟨b,4,none⟩=some a4∧∀i,w.frozen? ⟨b,i,none⟩=false:=
 ⟨(cell_of_row _ _ _ _ _ _ h).trans rfl,(cell_of_row _ _ _ _ _ _ h).trans rfl,(cell_of_row _ _ _ _ _ _ h).trans rfl,(cell_of_row _ _ _ _ _ _ h).trans rfl,(cell_of_row _ _ _ _ _ _ h).trans rfl,fun i=>frozen_of_row _ _ _ _ _ h⟩
theorem afY:ng Tryz.prog 62 108 (.agg #[.string ⟨#[]⟩,.int .i64 0,.string ⟨#[]⟩,.slice none 0 0,.slice none 0 0]) 5 88:=⟨Tryz.underlying62,by kernel_rfl,rfl,by omega⟩
theorem Z7 (s0:Bt)(k:Int)(s:Bt)(A1 A2:Option Addr)(n1 c1 n2 c2:Nat):∀u∈ #[sv s0,Value.int .i64 k,sv s,.slice A1 n1 c1,.slice A2 n2 c2].toList,u.oneCell'=true:=by
 intro u hu;simp only [List.mem_cons,List.not_mem_nil,or_false]at hu;rcases hu with rfl |rfl |rfl |rfl |rfl <;> rfl
def Qy (pb lb base bp:Nat)(w:World)(l:List EL):Prop:=
 w.heap[pb]? =some (.cells #[.pointer (some ⟨bp,0,none⟩)] 91 (0,0))∧∃v,w.heap[lb]? =some (.cells #[v] 62 (0,0))∧fH ND 5 108 w base (fun j=>base<=j) v l
theorem Qy.turn {pb lb base bp:Nat}{w w':World}{l:List EL}{G:Nat->Prop}(h:Qy pb lb base bp w l)(tn:Turn G w w')(h1:¬G pb)(h2:¬G lb)(h3:∀j,base<=j->j<w.heap.size->¬G j):Qy pb lb base bp w' l:=by
 obtain⟨hb,v,hn,hr⟩:=h;exact⟨ah hb tn h1,v,ah hn tn h2,hr.turn iR tn (fun g hg=>h3 g (hr.lt g hg).1 (hr.lt g hg).2) (fun g hg h=>h3 g h hg)⟩
theorem Qz (w:World)(bp B pb lb base:Nat)(ts:List aI)(l:List EL)(hl:l.length<=8193)(h:bX w bp B ts 0)(hI:Qy pb lb base bp w l)(p1:bp<pb)(p2:bp<lb)(p3:pb<base)(p4:lb<base)(p5:pb≠lb)(p6:base<=w.heap.size):
  Calls Tryz.prog 194 #[.pointer (some ⟨pb,0,none⟩),.pointer (some ⟨lb,0,none⟩)] w (dX (Qy pb lb base bp) (fun k=>k=bp∨k=lb∨base<=k) bp B 0 w (sU EN l ts)):=by
 have hlt:=h.lt;obtain⟨Q,hQ⟩:∃Q,sU EN l ts=Q:=⟨_,rfl⟩
 rw [hQ];have HQ:bN (aj EN (fun x=>aF (l++[x])) ts=Q):=aZ hQ;have HN:=aZ (gL w bp B ts 0 h);have HI:=aZ hI;have hbx:=cZ hI.1;obtain⟨hb0,vk,anC,tT⟩:=hI;obtain⟨Ak,ck,rfl,hck,hmk⟩:=tT.shape;have vS:=aZ tT.lt;have HIT:bN (∀w',Turn (fun k=>k=bp) w w'->w'.heap[pb]? =some (.cells #[.pointer (some ⟨bp,0,none⟩)] 91 (0,0))∧w'.heap[lb]? =some (.cells #[.slice Ak l.length ck] 62 (0,0))∧fH ND 5 108 w' base (fun j=>base<=j) (.slice Ak l.length ck) l):=aZ fun w' t=>⟨ah hb0 t (by omega),ah anC t (by omega),tT.turn iR t (fun g hg e=>by have:=(tT.lt g hg).1;omega) (fun g _ h e=>by omega)⟩
 clear h hQ hb0 anC tT;go_enter Tryz.func194,Tryz.ntmps194;go_wp2_with fail;refine(HN.o).mono ?_;rintro e w1 h1;rcases hq:nameP ts with g |⟨s,r1⟩
 ·obtain⟨rfl,tn,bn⟩:=h1.bY hq;have HB:=aZ (show Turn (fun k=>k=bp∨k=lb∨base<=k) w _ from tn.mono fun _ _ h=>.inl h);have sI:=aZ bn;have dP:=aZ (HQ.o.symm.trans (xI hq));clear h1 tn bn hq;go_wp2_with fail;exact⟨rfl,dX.fail dP.o HB.o sI.o⟩
 ·obtain⟨v1,rfl,tn,rfl,kn⟩:=h1.aQ hq;have hs1:=tn.size;have HV1:=aZ (wJ w1 (.cells #[sv s,.int .i64 0,.string ⟨#[]⟩,.slice none 0 0,.slice none 0 0] 108));have iI:=aZ (kn.below (new1 w1 (.cells #[sv s,.int .i64 0,.string ⟨#[]⟩,.slice none 0 0,.slice none 0 0] 108)));have arI:=aZ (aB tn (Turn.alloc (fun k=>k=bp) w1 (.cells #[sv s,.int .i64 0,.string ⟨#[]⟩,.slice none 0 0,.slice none 0 0] 108)));have HH:=aZ (lD (w1.alloc (.cells #[sv s,.int .i64 0,.string ⟨#[]⟩,.slice none 0 0,.slice none 0 0] 108)) bp B r1 0 iI.o [60,58]);have mM:bN (aj (aj (bM [60,58]) (fun b=>if b then aj (cB 100).typ fun t=>aF (⟨s,t⟩:EL)else aF ⟨s,oI⟩)) (fun x=>aF (l++[x])) r1=Q):=aZ ((iC hq).symm.trans HQ.o);have Vl:=cZ (HIT.o _ tn).1;have hpl:=block_lt (HIT.o _ tn).1;clear h1 tn kn hq hbx;go_wp2_with fail;refine(HH.o).mono ?_;rintro e w2 h2;rcases hq:bM [60,58] r1 with g |⟨b,r2⟩
  ·exact(iN hq).elim
  ·obtain⟨v2,rfl,tn,rfl,kn⟩:=h2.aQ hq;have hs2:=tn.size;simp at hs2;have HT2:=aZ (aB arI.o tn);have hv2:=ah HV1.o tn (by omega);have HV2:=aZ hv2;have gW:=aZ kn;have jI:=aZ hq;have agK:=cZ (HIT.o _ HT2.o).1;have arK:=cZ (HIT.o _ HT2.o).2.1;have arL:=block_lt (HIT.o _ HT2.o).1;have anD:=block_lt (HIT.o _ HT2.o).2.1;obtain⟨m0,m1,m2,m3,m4,mz⟩:=cells5 hv2;clear h2 tn kn hq hv2 Vl hpl;cases b
   ·have iq:bN (Pr.good (l++[(⟨s,oI⟩:EL)]) r2=Q):=aZ ((iC jI.o).symm.trans mM.o);obtain⟨hb6,Z8,Z9⟩:=HIT.o _ HT2.o;obtain⟨ys,hy,hr⟩:=Z9;have hyl:ys.length=l.length*5:=by have:=hy.1;simpa using this
    have HY:=aZ hy;have HR:=aZ hr;have Tm:=aZ Z8;have HB6:=aZ hb6;have hsl:=gX w2 #[sv s,.int .i64 0,.string ⟨#[]⟩,.slice none 0 0,.slice none 0 0] 108 5 1 rfl (by decide);have HSL:=aZ hsl;clear hy hr Z8 hb6 hsl;go_wp2_with (at_builtin;go_must (refine eU rfl (.tmp 15) (.tmp 17) _ rfl base afY _ _ rfl rfl (HY.o.alloc (.cells #[sv s,.int .i64 0,.string ⟨#[]⟩,.slice none 0 0,.slice none 0 0] 108)) HSL.o (Z7 s 0 [] none none 0 0 0 0) (by simp [maxLen];omega) (by simp;omega) (by simp;omega) (fun v9 w9 n9 fI vB kT=>?_));obtain⟨A9,c9,rfl,_,_⟩:=iK fI;have tH:=aZ fI;have Rm:=aZ vB;have BR:=aZ kT;have QA:=ah Tm.o ((Turn.alloc (fun j=>(Value.slice Ak l.length ck).ownBlock=some j) _ (.cells #[sv s,.int .i64 0,.string ⟨#[]⟩,.slice none 0 0,.slice none 0 0] 108)).trans (Turn.bB vB (F:=fun j=>(Value.slice Ak l.length ck).ownBlock=some j) (fun _ h=>h)) (fun _ _ h=>h)) (fun e=>by have:=(vS.o _ e).1;omega);have hl9:=cZ QA;have UA:=bE QA 0;clear fI vB kT QA);obtain⟨Ag,hn9,t9⟩:=Bn iR HY.o HR.o (x:=(⟨s,oI⟩:EL)) ⟨_,rfl,sV _ _ 0 []⟩ Rm.o BR.o tH.o (by omega);have hlo:=vS.o;have tl:=ak w9 lb 0 (.slice A9 n9 c9);have vQ:Turn (fun k=>k=bp∨k=lb∨base<=k) w (w9.setCell ⟨lb,0,none⟩ (.slice A9 n9 c9)):=((HT2.o.mono (G:=fun k=>k=bp∨k=lb∨base<=k) (fun _ _ h=>.inl h)).trans t9 (fun i hi e=>.inr (.inr (hlo i e).1))).trans tl (fun i hi e=>.inr (.inl e));go_end0
    exact dX.done iq.o.symm vQ ⟨ah (ah HB6.o t9 (fun e=>by have:=(hlo _ e).1;omega)) tl (by omega),_,heap_setCell_same _ _ 0 _ _ _ (ah Tm.o t9 (fun e=>by have:=(hlo _ e).1;omega)),Ag.turn iR tl (fun g hg e=>by have:=(Ag.lt g hg).1;omega) (fun g _ hg e=>by omega)⟩ ((gW.o.turn t9 (fun e=>by have:=(hlo _ e).1;omega) (fun k hk e=>by have:=(hlo _ e).1;have:=gW.o.1;omega)).turn tl (by omega) (fun k hk e=>by have:=gW.o.1;omega))
   ·have iq:bN (aj (aj (cB 100).typ (fun t=>aF (⟨s,t⟩:EL))) (fun x=>aF (l++[x])) r2=Q):=aZ ((iC jI.o).symm.trans mM.o);have HP:=aZ (Tj w2 bp B r2 gW.o);go_wp2_with fail;refine(HP.o).mono ?_;rintro e w3 h5;rcases hq:(cB 100).typ r2 with g |⟨x,r3⟩
    ·obtain⟨rfl,tn,bn⟩:=h5.bY hq;have HB:=aZ (show Turn (fun k=>k=bp∨k=lb∨base<=k) w _ from(aB HT2.o tn).mono fun _ _ h=>.inl h);have sI:=aZ bn;have dP:=aZ (iq.o.symm.trans (xI hq));clear h5 tn bn hq;go_wp2_with fail;exact⟨rfl,dX.fail dP.o HB.o sI.o⟩
    ·obtain⟨v3,rfl,tn,⟨z3,rfl,hz⟩,kn⟩:=h5.aQ hq;obtain⟨k3,s3,A13,n13,c13,A23,n23,c23,rfl⟩:=hz.shape';have hs3:=tn.size;have hv3:=ah HV2.o tn (by omega);clear m0 m1 m2 m3 m4 mz agK arK arL anD;obtain⟨m0,m1,m2,m3,m4,mz⟩:=cells5 hv3;have HT3:=aZ (aB HT2.o tn);have t4:=(((ak w3 w1.heap.size 1 (.int .i64 k3)).trans (ak _ w1.heap.size 2 (sv s3)) (fun _ _ h=>h)).trans (ak _ w1.heap.size 3 (.slice A13 n13 c13)) (fun _ _ h=>h)).trans (ak _ w1.heap.size 4 (.slice A23 n23 c23)) (fun _ _ h=>h);have HV4:=aZ (heap_setCell_same _ _ 4 _ _ (.slice A23 n23 c23) (heap_setCell_same _ _ 3 _ _ (.slice A13 n13 c13) (heap_setCell_same _ _ 2 _ _ (sv s3) (heap_setCell_same _ _ 1 _ _ (.int .i64 k3) hv3))));have Fp:=aZ ((hz.iv.turn t4 (fun g _ h e=>by have:=h.1;omega)).mono (G:=fun j=>w2.heap.size<=j) (fun g _ h=>h.1));have axX:=cZ (HIT.o _ HT3.o).2.1;have axY:=block_lt (HIT.o _ HT3.o).2.1;have axZ:=bE (HIT.o _ HT3.o).2.1 0;have fD:=aZ (HT3.o.trans t4 (fun i hi e=>by omega));have iD:=aZ (kn.turn t4 (by omega) (fun k hk e=>by have:=gW.o.1;omega));have gq:bN (Pr.good (l++[(⟨s,x⟩:EL)]) r3=Q):=aZ ((iC hq).symm.trans iq.o);have hne1:¬w1.heap.size=lb:=by omega
     have hne2:¬lb=w1.heap.size:=by omega
     clear h5 tn hz kn hq hv3 t4;obtain⟨hb6,Z8,Z9⟩:=HIT.o _ fD.o;obtain⟨ys,hy,hr⟩:=Z9;have hyl:ys.length=l.length*5:=by have:=hy.1;simpa using this
     have HY:=aZ hy;have HR:=aZ hr;have Tm:=aZ Z8;have HB6:=aZ hb6;have hsl:=gX ((((w3.setCell ⟨w1.heap.size,1,none⟩ (.int .i64 k3)).setCell ⟨w1.heap.size,2,none⟩ (sv s3)).setCell ⟨w1.heap.size,3,none⟩ (.slice A13 n13 c13)).setCell ⟨w1.heap.size,4,none⟩ (.slice A23 n23 c23)) #[sv s,.int .i64 k3,sv s3,.slice A13 n13 c13,.slice A23 n23 c23] 108 5 1 rfl (by decide);rw [show(((((w3.setCell ⟨w1.heap.size,1,none⟩ (.int .i64 k3)).setCell ⟨w1.heap.size,2,none⟩ (sv s3)).setCell ⟨w1.heap.size,3,none⟩ (.slice A13 n13 c13)).setCell ⟨w1.heap.size,4,none⟩ (.slice A23 n23 c23))).heap.size=w3.heap.size by simp]at hsl;have HSL:=aZ hsl;clear hy hr Z8 hb6 hsl;go_wp2_with (at_builtin;go_must (refine eU rfl (.tmp 15) (.tmp 17) _ rfl base afY _ _ rfl rfl (HY.o.alloc (.cells #[sv s,.int .i64 k3,sv s3,.slice A13 n13 c13,.slice A23 n23 c23] 108)) HSL.o (Z7 s k3 s3 _ _ _ _ _ _) (by simp [maxLen];omega) (by simp;omega) (by simp;omega) (fun v9 w9 n9 fI vB kT=>?_));obtain⟨A9,c9,rfl,_,_⟩:=iK fI;have tH:=aZ fI;have Rm:=aZ vB;have BR:=aZ kT;have QA:=ah Tm.o ((Turn.alloc (fun j=>(Value.slice Ak l.length ck).ownBlock=some j) _ (.cells #[sv s,.int .i64 k3,sv s3,.slice A13 n13 c13,.slice A23 n23 c23] 108)).trans (Turn.bB vB (F:=fun j=>(Value.slice Ak l.length ck).ownBlock=some j) (fun _ h=>h)) (fun _ _ h=>h)) (fun e=>by have:=(vS.o _ e).1;omega);have hl9:=cZ QA;have UA:=bE QA 0;clear fI vB kT QA);obtain⟨Ag,hn9,t9⟩:=Bn iR HY.o HR.o (x:=(⟨s,x⟩:EL)) ⟨_,rfl,Fp.o.mono (fun g _ h=>⟨fun e=>by have:=(vS.o _ e).2;omega,by omega⟩)⟩ Rm.o BR.o tH.o (by omega);have hlo:=vS.o;have tl:=ak w9 lb 0 (.slice A9 n9 c9)
     have vQ:Turn (fun k=>k=bp∨k=lb∨base<=k) w (w9.setCell ⟨lb,0,none⟩ (.slice A9 n9 c9)):=((fD.o.mono (G:=fun k=>k=bp∨k=lb∨base<=k) (fun _ _ h=>.inl h)).trans t9 (fun i hi e=>.inr (.inr (hlo i e).1))).trans tl (fun i hi e=>.inr (.inl e));go_end0;exact dX.done gq.o.symm vQ ⟨ah (ah HB6.o t9 (fun e=>by have:=(hlo _ e).1;omega)) tl (by omega),_,heap_setCell_same _ _ 0 _ _ _ (ah Tm.o t9 (fun e=>by have:=(hlo _ e).1;omega)),Ag.turn iR tl (fun g hg e=>by have:=(Ag.lt g hg).1;omega) (fun g _ hg e=>by omega)⟩ ((iD.o.turn t9 (fun e=>by have:=(hlo _ e).1;omega) (fun k hk e=>by have:=(hlo _ e).1;have:=iD.o.1;omega)).turn tl (by omega) (fun k hk e=>by have:=iD.o.1;omega))
def anE (base:Nat)(w:World)(v:Value)(l:List EL):Prop:=∃xs,cO w (fun j=>base<=j) 5 v xs∧fC (ND w (fun j=>base<=j)) 5 xs l
theorem Vm (w:World)(bp B:Nat)(ts:List aI)(h:bX w bp B ts 0):Calls Tryz.prog 153 #[.pointer (some ⟨bp,0,none⟩)] w (aL (anE w.heap.size) bp B 0 w (wB ts)):=by
 have hlt:=h.lt;obtain⟨Q,hQ⟩:∃Q,wB ts=Q:=⟨_,rfl⟩
 rw [hQ];have HQ:bN (aj (bM [91]) (fun b=>if b then aj (iw EN) fun l=>aj (aH [93]) fun _=>aF l else aF []) ts=Q):=aZ hQ;have HH:=aZ (lD ((w.alloc (.cells #[.pointer (some ⟨bp,0,none⟩)] 91)).alloc (.cells #[.slice none 0 0] 62)) bp B ts 0 (h.below (new2 _ _ _)) [91]);clear h hQ;go_enter Tryz.func153,Tryz.ntmps153;go_wp2_with fail;refine(HH.o).mono ?_;rintro e w1 h1;rcases hq:bM [91] ts with g |⟨b,r1⟩
 ·exact(iN hq).elim
 ·obtain⟨v1,rfl,tn,rfl,kn⟩:=h1.aQ hq;obtain⟨tm,hs1,Vl,anF⟩:=iJ tn;have HT1:=aZ tm;have iI:=aZ kn;have hb1:=Vl (by omega);have hc1:=cZ hb1;have HI1:bN (Qy w.heap.size (w.heap.size+1) (w.heap.size+2) bp w1 []):=aZ ⟨hb1,_,anF (by omega),fH.nil _ _ _ _ _ _⟩;have mM:=aZ hq;clear h1 tn tm kn Vl anF hq;cases b
  ·have jI:bN (Pr.good [] r1=Q):=aZ ((au mM.o).symm.trans HQ.o);go_wp2_with fail;go_ret;exact aL.done jI.o.symm HT1.o ⟨[],cO.nil _ _ _,.nil⟩ iI.o
  ·have jI:bN (aj (iw EN) (fun l=>aj (aH [93]) fun _=>aF l) r1=Q):=aZ ((au mM.o).symm.trans HQ.o);have hmf:∀(fn:Fn) (first cap:Array Value) (w:World),(Instr.makeFunc fn first cap).run Tryz.prog w=.ok (.func fn first cap) w:=fun _ _ _ _=>rfl
   have WV:=aZ (lU EN Sf.var 194 #[.pointer (some ⟨w.heap.size,0,none⟩),.pointer (some ⟨w.heap.size+1,0,none⟩)] (Qy w.heap.size (w.heap.size+1) (w.heap.size+2) bp) (fun k=>k=bp∨k=w.heap.size+1∨w.heap.size+2<=k) 0 w1 bp B r1 (.inl rfl)
    (fun a b l tn h=>h.turn tn (by omega) (by omega) (fun j hj _ e=>by omega)) (fun g h=>.inr (.inr (by omega)))
    (fun w1 r l hl hw hi hk=>Qz w1 bp B _ _ _ r l hl hk hi (by omega) (by omega) (by omega) (by omega) (by omega) (by omega)) (fun _=>by kernel_rfl) iI.o HI1.o)
   go_wp2_with fail;refine(WV.o).mono ?_;rintro e w2 h2;rcases hq:iw EN r1 with g |⟨l,r2⟩
   ·obtain⟨rfl,tn,bn⟩:=h2.bY hq;have HB:=aZ (eP.mk2 (HT1.o.trans tn (fun i hi e=>by rcases e with e |e |e <;> omega)) bn);have dP:=aZ (jI.o.symm.trans (aC hq));clear h2 tn bn hq;go_wp2_with fail;exact⟨rfl,aL.fail dP.o HB.o⟩
   ·obtain⟨rfl,tn,hI2,kn⟩:=h2.aQ hq;have hs2:=tn.size;have HT2:=aZ (HT1.o.trans tn (fun i hi e=>by rcases e with e |e |e <;> omega));have HI2:=aZ hI2;have hc2:=cZ hI2.1;have iq:bN (aj (aH [93]) (fun _=>aF l) r2=Q):=aZ ((au hq).symm.trans jI.o);have HN:=aZ (fF w2 bp B r2 0 kn [93] 9 w2.heap.size);clear h2 tn hI2 kn hq hc1 hb1;go_wp2_with fail;refine(HN.o).mono ?_;rintro e w3 h3;rcases hq:aH [93] r2 with g |⟨u,r3⟩
    ·obtain⟨rfl,tn,bn⟩:=h3.bY hq;have HB:=aZ (eP.mk2 (aB HT2.o tn) bn);have dP:=aZ (iq.o.symm.trans (aC hq));clear h3 tn bn hq;go_wp2_with fail;exact⟨rfl,aL.fail dP.o HB.o⟩
    ·obtain⟨v3,rfl,tn,-,kn⟩:=h3.aQ hq;have HT3:=aZ (aB HT2.o tn);have gD:=aZ kn;have gq:bN (Pr.good l r3=Q):=aZ ((au hq).symm.trans iq.o);obtain⟨_,v,hl3,hr3⟩:=HI2.o.turn tn (by omega) (by omega) (fun j hj _ e=>by omega);have HR3:=aZ hr3;have hc3:=cZ hl3;clear h3 tn kn hq hr3 hl3;go_wp2_with fail;go_ret;obtain⟨xs,q1,q2⟩:=HR3.o.sl iR;exact aL.done gq.o.symm HT3.o ⟨xs,q1.mono (fun g _ h=>by rcases h with h |h <;> omega),cK iR (fun g _ h=>by rcases h with h |h <;> omega) q2⟩ gD.o
theorem aac (w:World)(s:Bt)(hX:lT w)(hs:s.length<=281474976710656):Calls Tryz.prog 77 #[sv s] w fun e w'=>e=.returned (.bool (eG s))∧Below w.heap.size w w':=by
 have hsz:=bZ s;cases s with
 |nil=>
  have ha:eG []=false:=rfl;rw [ha];go_enter Tryz.func77,Tryz.ntmps77;go_wp2_with fail;go_ret;exact⟨rfl,Below.refl _ _⟩
 |cons c r=>
  have hix:(ByteArray.mk (c :: r).toArray)[0]'(by rw [bZ];simp)=c:=dW (c :: r) 0 (by simp);have hl0:(0:Int)<(r.length:Int)+1:=by omega
  have hnz:((c :: r:Bt)==[])=false:=rfl;have ha:eG (c :: r)=(decide ((c :: r).length<=32) && dS c && decide (dG bf (c :: r)=(c :: r).length) && !decide ((c :: r)∈dY)):=rfl;have eu:=aZ (I5 (c :: r) w hs);generalize dG bf (c :: r)=n at*
  by_cases h32:(c :: r).length<=32
  ·have arN:(r.length:Int)+1<=32:=by simp only [List.length_cons]at h32;omega
   rw [decide_eq_true h32,Bool.true_and]at ha;clear h32;cases hl:dS c
   ·rw [hl]at ha;simp only [Bool.false_and]at ha;rw [ha];clear ha;go_enter Tryz.func77,Tryz.ntmps77;go_wp2_with fail;refine(jr c _).mono ?_;rintro e w1 ⟨rfl,rfl⟩;rw [hl];go_wp2_with fail;go_ret;exact⟨rfl,Below.refl _ _⟩
   ·rw [hl,Bool.true_and]at ha;by_cases hn:n=(c :: r).length
    ·rw [decide_eq_true hn,Bool.true_and]at ha;have hn':(n:Int)=(r.length:Int)+1:=by rw [hn];simp
     clear hn;rw [ha];clear ha;generalize hq:decide ((c :: r)∈dY)=q;go_enter Tryz.func77,Tryz.ntmps77;go_wp2_with fail;refine(jr c _).mono ?_;rintro e w1 ⟨rfl,rfl⟩;rw [hl];go_wp2_with fail;refine eu.o.mono ?_;rintro e w2 ⟨rfl,rfl⟩;go_wp2_with fail;refine(BK _ hX).mono ?_;rintro e w3 ⟨v3,rfl,arO,hb3⟩;go_wp2_with fail;refine(o9 v3 dY (c :: r) _ arO).mono ?_;rintro e w4 ⟨rfl,rfl⟩;rw [hq];go_wp2_with fail;go_ret;exact⟨rfl,hb3⟩
    ·rw [decide_eq_false hn,Bool.false_and]at ha;have hn':¬(n:Int)=(r.length:Int)+1:=by intro h;apply hn;simp;omega
     clear hn;rw [ha];clear ha;go_enter Tryz.func77,Tryz.ntmps77;go_wp2_with fail;refine(jr c _).mono ?_;rintro e w1 ⟨rfl,rfl⟩;rw [hl];go_wp2_with fail;refine eu.o.mono ?_;rintro e w2 ⟨rfl,rfl⟩;go_wp2_with fail;go_ret;exact⟨rfl,Below.refl _ _⟩
  ·have arN:¬(r.length:Int)+1<=32:=by simp only [List.length_cons]at h32;omega
   rw [decide_eq_false h32]at ha;simp only [Bool.false_and]at ha;clear h32;rw [ha];clear ha;go_enter Tryz.func77,Tryz.ntmps77;go_wp2_with fail;go_ret;exact⟨rfl,Below.refl _ _⟩
theorem lX (c:UInt8)(w:World):Calls Tryz.prog 127 #[.int .u8 (c.toNat:Int)] w fun e w'=>e=.returned (.bool (dS c))∧w'=w:=by
 unfold dS;generalize c.toNat=n;go_enter Tryz.func127,Tryz.ntmps127;go_wp2_with fail
 all_goals
  go_ret;refine⟨?_,rfl⟩;congr 2
  try simp
  try omega
  try (rw [Bool.eq_iff_iff];simp only [Bool.or_eq_true,Bool.and_eq_true,decide_eq_true_eq,beq_iff_eq];omega)
theorem nH (c:UInt8)(w:World):Calls Tryz.prog 126 #[.int .u8 (c.toNat:Int)] w fun e w'=>e=.returned (.bool (bK c))∧w'=w:=by
 unfold bK;generalize c.toNat=n;go_enter Tryz.func126,Tryz.ntmps126;go_wp2_with fail
 all_goals
  go_ret;refine⟨?_,rfl⟩;congr 2
  try simp
  try omega
  try (rw [Bool.eq_iff_iff];simp only [Bool.or_eq_true,Bool.and_eq_true,decide_eq_true_eq,beq_iff_eq];omega)
theorem QB (w:World):Calls Tryz.prog 178 #[] w fun e w'=>∃v,e=.returned v∧Ss w' w'.heap.size v dY∧Below w.heap.size w w':=by
 have hss:Ss (w.alloc (.cells (pU dY).toArray 9)) (w.alloc (.cells (pU dY).toArray 9)).heap.size (.slice (some ⟨w.heap.size,0,none⟩) 25 25) dY:=by
  have:=gX w (pU dY).toArray 9 1 25 (by simp [eX];rfl) (by decide);rw [World.size_alloc];simpa [Ss]using this
 have hb:Below w.heap.size w (w.alloc (.cells (pU dY).toArray 9)):=(Below.refl _ _).alloc (Nat.le_refl _) _;go_enter Tryz.func178,Tryz.ntmps178;go_wp2_with fail;go_ret;exact⟨_,rfl,hss,hb⟩
theorem Jv (w:World)(x:Bt):Calls Tryz.prog 125 #[sv x] w fun e w'=>e=.returned (.bool (decide (x∈dY)))∧Below w.heap.size w w':=by
 obtain⟨l,hl⟩:∃l,l=dY:=⟨_,rfl⟩
 rw [<-hl];go_enter Tryz.func125,Tryz.ntmps125;go_wp2_with fail;refine(QB _).mono ?_;rintro e w1 ⟨v,rfl,hss,hb⟩;rw [<-hl]at hss;clear hl;obtain⟨A,c,rfl,hn,hc,hx⟩:=hss.open_;unfold maxLen at hc;go_wp2_with fail
 go_loop [4] (fun v4=>∃k:Nat,v4=.int .i64 k∧k<=l.length∧x ∉ l.take k) (fun v4=>l.length - (intOf v4).toNat)
 case atStart=>exact⟨0,rfl,by omega,by simp⟩
 case round=>
  obtain⟨k,rfl,hk,hnot⟩:=hrel;by_cases hlt:k<l.length
  ·obtain⟨b,o,rfl,hb2,hcell⟩:=hx (by omega);have d1:=hcell k hlt;have e1:l[k]=x->x∈l:=fun h=>by rw [<-h];exact List.getElem_mem hlt
   have e2:¬l[k]=x->x ∉ l.take (k+1):=fun h hh=>by
    rw [List.take_succ_eq_append_getElem hlt,List.mem_append]at hh;rcases hh with hh |hh
    ·exact hnot hh
    ·simp at hh;exact h hh.symm
   clear hcell hx hss hnot;generalize l[k]=X at*
   by_cases hX:X=x
   ·have e3:=e1 hX;have hq:(X==x)=true:=by rw [beq_iff_eq];exact hX
    clear hX e1 e2;go_wp2_with fail;go_ret;exact⟨by simp [e3],hb⟩
   ·have e3:=e2 hX;have hq:(X==x)=false:=by rw [beq_eq_false_iff_ne];exact hX
    clear hX e1 e2;go_wp2_with fail
    go_round
    case rel=>exact⟨k+1,rfl,by omega,e3⟩
    case measure=>simp [intOf];omega
  ·obtain rfl:k=l.length:=by omega
   rw [List.take_length]at hnot;go_wp2_with fail;go_ret;exact⟨by simp [hnot],hb⟩
theorem Kw (c:UInt8):dS c=true->bK c=false:=by
 unfold dS bK;intro h;simp only [Bool.or_eq_true,Bool.and_eq_true,decide_eq_true_eq]at h;rw [Bool.and_eq_false_iff,decide_eq_false_iff_not,decide_eq_false_iff_not];omega
theorem GK (q:Bool)(s:Bt):dJ q (s.drop s.length)=0:=by
 rw [List.drop_length];cases q <;> rfl
theorem Jw {s:Bt}{i:Nat}(h:i<s.length):
  (bV s[i]=true->dJ false (s.drop i)=1+dJ false (s.drop (i+1)))∧
  (s[i].toNat=35->dJ false (s.drop i)=dJ true (s.drop i))∧
  (s[i].toNat=10->dJ true (s.drop i)=dJ false (s.drop i))∧
  (s[i].toNat≠10->dJ true (s.drop i)=1+dJ true (s.drop (i+1)))∧
  (bV s[i]=false->s[i].toNat≠35->dJ false (s.drop i)=0):=by
 rw [List.drop_eq_getElem_cons h];generalize s[i]=c;generalize s.drop (i+1)=r;refine⟨fun h=>?_,fun h=>?_,fun h=>?_,fun h=>?_,fun h1 h2=>?_⟩
 ·rw [dJ,if_pos h];omega
 ·have hb:¬bV c=true:=by unfold bV;simp;omega
  rw [dJ,dJ,if_neg hb,if_pos h,if_neg (by omega)]
 ·have hb:bV c=true:=by unfold bV;simp;omega
  rw [dJ,dJ,if_pos hb,if_pos h]
 ·rw [dJ,if_neg h];omega
 ·rw [dJ,if_neg (by simp [h1]),if_neg h2]
theorem GL {s:Bt}{i:Nat}(h:i<s.length)(out:Bt)(j:Nat):
  (s[i].toNat=34->dL false out j (s.drop i)=some (out,j+2))∧
  (s[i].toNat<32->dL false out j (s.drop i)=none)∧
  (32<=s[i].toNat->s[i].toNat≠34->s[i].toNat≠92->dL false out j (s.drop i)=dL false (out++[s[i]]) (j+1) (s.drop (i+1)))∧
  (s[i].toNat=92->dL false out j (s.drop i)=dL true out (j+1) (s.drop (i+1)))∧
  (∀e,wo s[i]=some e->dL true out j (s.drop i)=dL false (out++[e]) (j+1) (s.drop (i+1)))∧
  (wo s[i]=none->dL true out j (s.drop i)=none):=by
 rw [List.drop_eq_getElem_cons h];generalize s[i]=c;generalize s.drop (i+1)=r;refine⟨fun h=>?_,fun h=>?_,fun h1 h2 h3=>?_,fun h=>?_,fun e he=>?_,fun he=>?_⟩
 ·rw [dL,if_neg (by omega),if_neg (by simp),if_neg (by omega),if_pos h]
 ·rw [dL,if_pos h]
 ·rw [dL,if_neg (by omega),if_neg (by simp),if_neg h3,if_neg h2]
 ·rw [dL,if_neg (by omega),if_neg (by simp),if_pos h]
 ·have h32:¬c.toNat<32:=by
   unfold wo at he;intro hl;rw [if_neg (by omega),if_neg (by omega),if_neg (by omega),if_neg (by omega)]at he;cases he
  rw [dL,if_neg h32,if_pos rfl,he]
 ·rw [dL,if_pos rfl,he];split <;> rfl
theorem Jy (q:Bool)(out:Bt)(j:Nat)(s:Bt):dL q out j (s.drop s.length)=none:=by
 rw [List.drop_length];cases q <;> rfl
theorem QC (c:UInt8):(c.toNat=92∧wo c=some 92)∨(c.toNat=34∧wo c=some 34)∨(c.toNat=110∧wo c=some 10)∨(c.toNat=116∧wo c=some 9)∨
  ((c.toNat≠92∧c.toNat≠34∧c.toNat≠110∧c.toNat≠116)∧wo c=none):=by
 unfold wo;by_cases h1:c.toNat=92
 ·exact .inl ⟨h1,by rw [if_pos h1]⟩
 ·by_cases h2:c.toNat=34
  ·exact .inr (.inl ⟨h2,by rw [if_neg h1,if_pos h2]⟩)
  ·by_cases h3:c.toNat=110
   ·exact .inr (.inr (.inl ⟨h3,by rw [if_neg h1,if_neg h2,if_pos h3]⟩))
   ·by_cases h4:c.toNat=116
    ·exact .inr (.inr (.inr (.inl ⟨h4,by rw [if_neg h1,if_neg h2,if_neg h3,if_pos h4]⟩)))
    ·exact .inr (.inr (.inr (.inr ⟨⟨h1,h2,h3,h4⟩,by rw [if_neg h1,if_neg h2,if_neg h3,if_neg h4]⟩)))
theorem EC (p:UInt8->Bool)(s:Bt)(k:Nat)(hk:k<=s.length)(h:∀j (hj:j<s.length),j<k->p s[j]=true)(hn:k=s.length∨∃hk:k<s.length,p s[k]=false):dG p s=k:=by
 rcases hn with rfl |⟨hk,hf⟩
 ·exact wh (fun j hj=>h j hj hj)
 ·exact zK hk (fun j hj=>h j (by omega) hj) hf
theorem yK {α:Type}{l:List α}{x:α}{k:Nat}(hk:k<l.length)(h:x ∉ l.take k)(hx:x≠l[k]):x ∉ l.take (k+1):=by
 intro hm;rw [List.take_succ_eq_append_getElem hk,List.mem_append]at hm;rcases hm with hm |hm
 ·exact h hm
 ·exact hx (by simpa using hm)
def GN (s:Bt):Prop:=∀c∈s,c.toNat≠10
theorem GQ {p:UInt8->Bool}(hp:∀c,p c=true->c.toNat≠10)(s:Bt):GN (s.take (dG p s)):=by
 induction s with
 |nil=>intro c hc;simp at hc
 |cons a s ih=>
  rw [gF];by_cases h:p a=true
  ·rw [if_pos h,List.take_succ_cons];intro c hc;rcases List.mem_cons.1 hc with rfl |hc
   ·exact hp _ h
   ·exact ih c hc
  ·rw [if_neg h];intro c hc;simp at hc
theorem Iy {back:Bool}{out:Bt}{i:Nat}{s t:Bt}{n:Nat}(h:dL back out i s=some (t,n)):GN (s.take (n - i - 1)):=by
 induction s generalizing back out i with
 |nil=>cases back <;> simp [dL]at h
 |cons c s ih=>
  have hle:=sK h;simp only at hle;rw [dL]at h;obtain⟨k,hk⟩:∃k,n - i - 1=k+1:=⟨n - i - 2,by omega⟩
  have hk':n - (i+1) - 1=k:=by omega
  rw [hk,List.take_succ_cons];split at h
  ·cases h
  ·rename_i h32
   have more:(∀o b,dL b o (i+1) s=some (t,n)->GN (c :: s.take k)):=by
    intro o b hq x hx;rcases List.mem_cons.1 hx with rfl |hx
    ·omega
    ·have:=ih hq;rw [hk']at this;exact this x hx
   cases back with
   |true=>
    rw [if_pos rfl]at h;split at h
    ·exact more _ _ h
    ·cases h
   |false=>
    rw [if_neg (by simp)]at h;split at h
    ·exact more _ _ h
    ·split at h
     ·injection h with h;simp only [Prod.mk.injEq]at h;obtain⟨_,rfl⟩:=h;obtain rfl:k=0:=by omega
      intro x hx;simp at hx;subst hx;omega
     ·exact more _ _ h
theorem Iz (c:UInt8)(h:bf c=true):c.toNat≠10:=by
 unfold bf dS bK at h;simp only [Bool.or_eq_true,Bool.and_eq_true,decide_eq_true_eq]at h;omega
theorem Ky (c:UInt8)(h:bK c=true):c.toNat≠10:=by
 unfold bK at h;simp only [Bool.and_eq_true,decide_eq_true_eq]at h;omega
theorem Kz {s:Bt}{kd:Int}{t:Bt}{n:Nat}(h:dV s=.inr (kd,t,n)):GN (s.take n):=by
 cases s with
 |nil=>simp [dV]at h
 |cons c r=>
  have hi:=GQ Iz (c :: r);have hd:=GQ Ky (c :: r);rw [dV]at h;split at h
  ·repeat' split at h
   all_goals first |cases h;done |(injection h with h;simp only [Prod.mk.injEq]at h;rw [<-h.2.2];exact hi)
  ·split at h
   ·repeat' split at h
    all_goals first |cases h;done |(injection h with h;simp only [Prod.mk.injEq]at h;rw [<-h.2.2];exact hd)
   ·split at h
    ·rename_i CP
     split at h
     ·cases h
     ·rename_i t' n' hq
      split at h
      ·cases h
      ·injection h with h;simp only [Prod.mk.injEq]at h;obtain⟨_,_,rfl⟩:=h;unfold lI at hq;rw [List.drop_succ_cons,List.drop_zero]at hq;have hle:=sK hq;simp only at hle;have hn:=Iy hq;obtain⟨m,rfl⟩:∃m,n'=m+1:=⟨n' - 1,by omega⟩
       rw [List.take_succ_cons];intro x hx;rcases List.mem_cons.1 hx with rfl |hx
       ·omega
       ·exact hn x (by simpa using hx)
    ·split at h
     ·rename_i hp
      injection h with h;simp only [Prod.mk.injEq]at h;rw [<-h.2.2];have hall:(cu.all fun m=>m.all fun c=>decide (c.toNat≠10))=true:=by decide
      rw [List.all_eq_true]at hall;have:=hall _ hp;rw [List.all_eq_true]at this;intro x hx;exact of_decide_eq_true (this x hx)
     ·split at h
      ·rename_i hs
       injection h with h;simp only [Prod.mk.injEq]at h;rw [<-h.2.2];have hall:(dZ.all fun c=>decide (c.toNat≠10))=true:=by decide
       rw [List.all_eq_true]at hall;intro x hx;simp at hx;subst hx;exact of_decide_eq_true (hall _ hs)
      ·cases h
theorem NG (p:Nat ×Nat){s:Bt}(h:GN s):fK p s=(p.1,p.2+s.length):=by
 induction s generalizing p with
 |nil=>rfl
 |cons c s ih=>
  have h0:fK p (c :: s)=fK (rU p c) s:=rfl;rw [h0,ih _ (fun x hx=>h x (by simp [hx]))];unfold rU;rw [if_neg (h c (by simp))];simp only [List.length_cons,Prod.mk.injEq,true_and];omega
theorem NH:∀(f:Nat) (s:Bt) (p:Nat ×Nat) (out:List aI),out.length<=8192->(oF f s p out).1.length<=8193
 |0,s,p,out,h=>by simp [oF]
 |f+1,s,p,out,h=>by
  rw [oF];split
  ·simp;omega
  ·split
   ·simp
   ·split
    ·simp
    ·rename_i h8
     exact NH f _ _ _ (by simp;omega)
theorem aad (s:Bt):(fQ s).1.length<=8193:=by
 unfold fQ;split
 ·simp
 ·exact NH _ _ _ _ (by simp)
end Go.Proofs.YtfgjkmipfikooaaGreatDoor
