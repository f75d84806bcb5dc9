/- HB, HE, HD, HF, GH, PT -/
import Derived.Test.YtfgjkmipfikooaaGreatDoorTTQ
import Derived.Test.YtfgjkmipfikooaaGreatDoorTT12
import Derived.Test.YtfgjkmipfikooaaGreatDoorTT02
import Derived.Test.YtfgjkmipfikooaaGreatDoorTT04
import Derived.Test.YtfgjkmipfikooaaGreatDoorTT01
set_option linter.unusedSimpArgs false
set_option linter.unusedVariables false
set_option maxRecDepth 100000
set_option maxHeartbeats 8000000
namespace Go.Proofs.YtfgjkmipfikooaaGreatDoor
open Go.RowKit
theorem GJ {k:Int} {ts r:List aD} {s:Bt} (h:dw k ts= .good s r):s=(aQ ts).text:=by
 unfold dw at h;split at h
 ·injection h with h _;exact h.symm
 ·cases h
theorem M9 (d:Int) (typ:Ps bT) (expr:Ps bX) (hst:Sf typ) (hse:Sf expr) (pK:uj d typ) (wW:uE d expr):Sc d (tN typ expr):=by
 intro w bp B ts h;have hlt:=h.lt;have hB:=h.1;have hlaid:=h.laid;have GK:=h.2.1;obtain⟨Q,hQ⟩:∃Q,tN typ expr ts=Q:=⟨_,rfl⟩
 rw [hQ];obtain⟨t0,ht0⟩:∃t0,aQ ts=t0:=⟨_,rfl⟩
 have HQ:Hid ((if t0.kind=3 then aj (dw 3) fun s=>aG (aK 0 [] (dA s).1 t0 [] [] [])
  else if t0.kind=4 then aj (dw 4) fun s=>aG (aK 1 s 0 t0 [] [] [])
  else aj (cK rW) (fun i=>match i with
   | none=>lU typ t0
   | some 0=>aG (aK 2 [] 0 t0 [] [] [])
   | some 1=>aG (aK 2 [] 1 t0 [] [] [])
   | some 2=>aG (aK 3 [] 0 t0 [] [] [])
   | some 3=>aj (jy [[40],[41]]) fun _=>aG (aK 18 [] 0 t0 [] [] [])
   | some 4=>aj (bV expr [[40]] []) fun k=>aj (aI [41]) fun _=>aG (aK 17 [] 0 t0 [] [] k)
   | some 5=>aj expr fun x=>aj (aI [41]) fun _=>aG x
   | some _=>aj (uZ expr t0) fun x=>aj (aI [125]) fun _=>aG x)) ts=Q):=hid (by subst ht0;exact hQ)
 have UK:=hid GK;have ru:=hid h.wf;have Q8:=hid hlaid;have Dz:=hid ht0;have HH:=hid (nQ d (w.alloc (.cells #[.int .i64 0, .string ⟨#[]⟩, .int .i64 0, .int .i64 0, .int .i64 0, .slice none 0 0, .slice none 0 0, .slice none 0 0] 52)) bp B ts (h.below (new1 _ _)) 0);rw [ht0]at HH;have Ec:=hid (h.below (new1 w (.cells #[.int .i64 0, .string ⟨#[]⟩, .int .i64 0, .int .i64 0, .int .i64 0, .slice none 0 0, .slice none 0 0, .slice none 0 0] 52)));clear h hQ hlaid GK;go_enter Tryz.func215,Tryz.ntmps215;go_wp2_with fail;refine(HH.out).mono ?_;rintro e w2 ⟨rfl,hb2⟩;obtain⟨tm,hs2,hrs⟩:=bH (Turn.of_below (F:=fun k=>k=bp) hb2);have HT2:=hid tm;have iR:=hid (Ec.out.below hb2);have uJ:=hid (hrs (by omega));have HN:=hid (jN (w2.alloc (.cells (nP 0 t0) 52)) bp B ts d (iR.out.below (new1 _ _)));rw [ht0]at HN;clear hb2 tm hrs ht0;go_wp2_with fail;refine(HN.out).mono ?_;rintro e w3 ⟨rfl,hb3⟩;obtain⟨tm,hs3,hnb⟩:=bH (Turn.of_below (F:=fun k=>k=bp) hb3);have HT3:=hid (aA HT2.out tm);have iM:=hid ((iR.out.below (new1 _ _)).below hb3);have jf:=hid (ah uJ.out tm (by omega));have uK:=hnb (by omega);have lu:=hid uK;have Uq:¬w2.heap.size=w.heap.size:=by omega
 have Ur:¬w.heap.size=w2.heap.size:=by omega
 have agb:¬w2.heap.size=w3.heap.size:=by omega
 have agc:¬w3.heap.size=w2.heap.size:=by omega
 have hlt2:w2.heap.size<w3.heap.size:=by omega
 obtain⟨m0,m1,m2,m3,m4,m5,m6,m7,mz⟩:=aT uK;clear hb3 tm hnb uK;unfold oG;by_cases h3:t0.kind=3
 ·have hb3:(t0.kind==3)=true:=by simp [h3]
  have gQ:Hid (aj (dw 3) (fun s=>aG (aK 0 [] (dA s).1 t0 [] [] [])) ts=Q):=hid (by have:=HQ.out;rwa [if_pos h3]at this);have H3:=hid h3;have t6:=(ak w3 w2.heap.size 0 (.int .i64 0)).trans (Turn.alloc (fun k=>k=w2.heap.size) _ (.cells #[.int .i64 t0.kind,sv t0.text, .int .i64 t0.line, .int .i64 t0.col] 154)) (fun _ _ h=>h);obtain⟨W6,MG⟩:∃W6,(w3.setCell ⟨w2.heap.size,0,none⟩ (.int .i64 0)).alloc (.cells #[.int .i64 t0.kind,sv t0.text, .int .i64 t0.line, .int .i64 t0.col] 154)=W6:=⟨_,rfl⟩
  have OD:=qR (w3.setCell ⟨w2.heap.size,0,none⟩ (.int .i64 0)) (.cells #[.int .i64 t0.kind,sv t0.text, .int .i64 t0.line, .int .i64 t0.col] 154);rw [MG]at t6 OD;rw [show(w3.setCell ⟨w2.heap.size,0,none⟩ (.int .i64 0)).heap.size=w3.heap.size by simp]at OD;have MN:=hid (show W6.heap[w2.heap.size]? =some (.cells (nP 0 t0) 52 (0,0)) by rw [←MG];exact bG (heap_setCell_same _ _ 0 _ _ (.int .i64 0) lu.out));have sU:=hid (iM.out.turn t6 (by omega) (fun k hk e=>by have:=iM.out.1;omega));have kQ:=hid (HT3.out.trans t6 (fun i hi e=>by omega));have ng:=hid (ah jf.out t6 (by omega));have hs6:=t6.size;have OJ:=(aP OD).1;have PT:=hid (fun(w':World) (h:Turn (fun j=>j=bp) W6 w')=>aH OJ h (by omega));have HD0:Hid (Turn (fun j=>j=bp) W6 W6.drew):=hid ⟨rfl,rfl,rfl,Nat.le_refl _,fun _ _ _=>rfl⟩;have uL:=hid (nI W6.drew bp B ts d sU.out 3);have VH:=hid MG;clear h3 t6 OD OJ MG;go_wp2_with fail;rw [VH.out];refine bO (S:=fun w'=>Turn (fun j=>j=bp) W6 w') (x:=11) (by kernel_rfl) ?_
  try simp only [Act.put,sq]
  refine tx 0 (.pointer (some ⟨bp,0,none⟩)) HD0.out ?_;refine tx 1 (.pointer (some ⟨bp,0,none⟩)) HD0.out ?_;refine tx 2 (.pointer (some ⟨bp,0,none⟩)) HD0.out ?_;refine tx 3 (.pointer (some ⟨w3.heap.size,0,none⟩)) HD0.out ?_;refine jq 4 (.int .i64 t0.kind) PT.out HD0.out ?_;refine ay (rs:=[5]) (by kernel_rfl) (by simp) ?_;refine av.cons rfl (fun K hK=> ?_) (av.nil);go_simp;rw [H3.out];refine(uL.out).mono ?_;rintro e w7 h7;rcases hq:dw 3 ts with g | ⟨s,r7⟩
  ·obtain⟨rfl,tn,bn⟩:=h7.bM hq;have dG:=hid (gQ.out.symm.trans (aB hq));exact⟨rfl,aF.fail dG.out (dX.mk2 (aA kQ.out (aA HD0.out tn)) bn)⟩
  ·obtain⟨v7,rfl,tn,rfl,kn⟩:=h7.aL hq;have jg:=hid (aA HD0.out tn);have hs7:=jg.out.size;have kP:=hid kn;have vD:Hid (Pr.good (aK 0 [] (dA s).1 t0 [] [] []) r7=Q):=hid ((au hq).symm.trans gQ.out);have agd:s.length≤100000:=by
    have e:=GJ hq;rw [e];exact UK.out.2 _ ru.out.yH
   clear h7 tn kn hq;refine hK.out _ _ jg.out ?_;clear hK K
   try simp only [Act.put,sq]
   refine ay (rs:=[6]) (by kernel_rfl) (by simp) ?_;refine av.cons rfl (fun K hK=> ?_) (av.nil);go_simp;refine(AV ⟨s.toArray⟩ w7 (by show s.toArray.size≤ _;simp;omega) kP.out.laid.here).mono ?_;rintro e w8 ⟨rfl,mZ⟩;have kV:=hid (aA jg.out (Turn.of_below (F:=fun k=>k=bp) mZ));have uw:=mZ.size;have pO:=hid (kP.out.below mZ);clear mZ;rw [show(ByteArray.mk s.toArray).data.toList=s from rfl];refine hK.out _ _ kV.out ?_;clear hK K
   try simp only [Act.put,sq]
   refine tx 7 (.tuple #[.int .i64 (dA s).1, .bool (dA s).2]) kV.out ?_;refine tx 8 (.int .i64 (dA s).1) kV.out ?_;refine tt 9 (.bool (dA s).2) (fun _=>kV.out) ?_;refine tt 10 (.pointer (some ⟨w2.heap.size,2,none⟩)) (fun _=>kV.out) ?_;have MP:=ah MN.out kV.out (by omega);have UL:=ah ng.out kV.out (by omega);obtain⟨y0,y1,y2,y3,y4,y5,y6,y7,yz⟩:=aT MP;obtain⟨c0,c1,c2,c3,c4,c5,c6,c7,cz⟩:=aT UL;have t9:=ak w8 w2.heap.size 2 (.int .i64 (dA s).1);have Et:=hid (ah UL t9 (by omega));have sS:=hid (pO.out.turn t9 (by omega) (fun k hk e=>by have:=iM.out.1;omega));have pQ:=hid ((aA kQ.out kV.out).trans t9 (fun i hi e=>by omega));clear m0 m1 m2 m3 m4 m5 m6 m7 mz MP UL t9;refine ay (rs:=[11]) (by kernel_rfl) (by simp) ?_;refine av.past rfl (by kernel_rfl) (fun K hK=> ?_) (av.nil);go_simp;refine hK.out _ _ ?_;clear hK K
   try simp only [Act.put,sq]
   refine aM (by kernel_rfl) ?_ _;go_wp2_with fail;have tF:=bB (w8.setCell ⟨w2.heap.size,2,none⟩ (.int .i64 (dA s).1)) w.heap.size (.int .i64 0) (.string ⟨#[]⟩) (.int .i64 (dA s).1) (.int .i64 t0.line) (.int .i64 t0.col) (.slice none 0 0) (.slice none 0 0) (.slice none 0 0);refine bodyPost_ret (aS rfl rfl (aV Et.out _ _ _ _ _ _ _ _) Tryz.underlying52 rfl (by kernel_rfl)) rfl ?_;exact aF.done vD.out.symm (bI pQ.out (by omega)) ⟨_,rfl, .mk (dB.nil _ _ _) .nil (dB.nil _ _ _) (dB.nil _ _ _) .nil⟩ (sS.out.fQ (by omega))
 ·have hb3:(t0.kind==3)=false:=by simp [h3]
  have KY:Hid ((if t0.kind=4 then aj (dw 4) (fun s=>aG (aK 1 s 0 t0 [] [] []))else aj (cK rW) (fun i=>match i with
    | none=>lU typ t0
    | some 0=>aG (aK 2 [] 0 t0 [] [] [])
    | some 1=>aG (aK 2 [] 1 t0 [] [] [])
    | some 2=>aG (aK 3 [] 0 t0 [] [] [])
    | some 3=>aj (jy [[40],[41]]) fun _=>aG (aK 18 [] 0 t0 [] [] [])
    | some 4=>aj (bV expr [[40]] []) fun k=>aj (aI [41]) fun _=>aG (aK 17 [] 0 t0 [] [] k)
    | some 5=>aj expr fun x=>aj (aI [41]) fun _=>aG x
    | some _=>aj (uZ expr t0) fun x=>aj (aI [125]) fun _=>aG x)) ts=Q):=hid (by have:=HQ.out;rwa [if_neg h3]at this)
  clear h3 HQ;by_cases h4:t0.kind=4
  ·have hb4:(t0.kind==4)=true:=by simp [h4]
   have gQ:Hid (aj (dw 4) (fun s=>aG (aK 1 s 0 t0 [] [] [])) ts=Q):=hid (by have:=KY.out;rwa [if_pos h4]at this);have H4:=hid h4;have t6:=Turn.alloc (fun _=>False) w3 (.cells #[.int .i64 t0.kind,sv t0.text, .int .i64 t0.line, .int .i64 t0.col] 154);obtain⟨W6,MG⟩:∃W6,w3.alloc (.cells #[.int .i64 t0.kind,sv t0.text, .int .i64 t0.line, .int .i64 t0.col] 154)=W6:=⟨_,rfl⟩
   have OD:=qR w3 (.cells #[.int .i64 t0.kind,sv t0.text, .int .i64 t0.line, .int .i64 t0.col] 154);rw [MG]at t6 OD;have MN:=hid (ah lu.out t6 id);have sU:=hid (iM.out.turn t6 id (fun _ _=>id));have kQ:=hid (HT3.out.trans t6 (fun i hi e=>e.elim));have ng:=hid (ah jf.out t6 id);have hs6:=t6.size;have OJ:=(aP OD).1;have PT:=hid (fun(w':World) (h:Turn (fun j=>j=bp∨j=w2.heap.size) W6 w')=>aH OJ h (by omega));have jW:Hid (Turn (fun j=>j=bp) W6 W6.drew):=hid ⟨rfl,rfl,rfl,Nat.le_refl _,fun _ _ _=>rfl⟩;have HD0:=hid (jW.out.mono (G:=fun j=>j=bp∨j=w2.heap.size) (fun _ _ h=> .inl h));have uL:=hid (nI W6.drew bp B ts d sU.out 4);have VH:=hid MG;clear h4 t6 OD OJ MG;go_wp2_with fail;rw [VH.out];refine bO (S:=fun w'=>Turn (fun j=>j=bp∨j=w2.heap.size) W6 w') (x:=9) (by kernel_rfl) ?_
   try simp only [Act.put,sq]
   refine tx 0 (.pointer (some ⟨bp,0,none⟩)) HD0.out ?_;refine tx 1 (.pointer (some ⟨bp,0,none⟩)) HD0.out ?_;refine tx 2 (.pointer (some ⟨bp,0,none⟩)) HD0.out ?_;refine tx 3 (.pointer (some ⟨w3.heap.size,0,none⟩)) HD0.out ?_;refine jq 4 (.int .i64 t0.kind) PT.out HD0.out ?_;refine ay (rs:=[5]) (by kernel_rfl) (by simp) ?_;refine av.cons rfl (fun K hK=> ?_) (av.nil);go_simp;rw [H4.out];refine(uL.out).mono ?_;rintro e w7 h7;rcases hq:dw 4 ts with g | ⟨s,r7⟩
   ·obtain⟨rfl,tn,bn⟩:=h7.bM hq;have dG:=hid (gQ.out.symm.trans (aB hq));exact⟨rfl,aF.fail dG.out (dX.mk2 (aA kQ.out (aA jW.out tn)) bn)⟩
   ·obtain⟨v7,rfl,tn,rfl,kn⟩:=h7.aL hq;have jg:=hid (aA jW.out tn);have hs7:=jg.out.size;have kP:=hid kn;have iT:=hid (jg.out.mono (G:=fun j=>j=bp∨j=w2.heap.size) (fun _ _ h=> .inl h));have HS8:=hid (iT.out.trans (ak w7 w2.heap.size 0 (.int .i64 1)) (fun _ _ h=> .inr h));have vD:Hid (Pr.good (aK 1 s 0 t0 [] [] []) r7=Q):=hid ((au hq).symm.trans gQ.out);have sK:=ah MN.out jg.out (by omega);have UM:=ah ng.out jg.out (by omega);obtain⟨y0,y1,y2,y3,y4,y5,y6,y7,yz⟩:=aT sK;obtain⟨c0,c1,c2,c3,c4,c5,c6,c7,cz⟩:=aT UM;have t9:=(ak w7 w2.heap.size 0 (.int .i64 1)).trans (ak _ w2.heap.size 1 (sv s)) (fun _ _ h=>h);have Et:=hid (ah UM t9 (by omega));have sS:=hid (kn.turn t9 (by omega) (fun k hk e=>by have:=iM.out.1;omega));have pQ:=hid ((aA kQ.out jg.out).trans t9 (fun i hi e=>by omega));clear h7 tn kn hq m0 m1 m2 m3 m4 m5 m6 m7 mz sK UM t9;refine hK.out _ _ iT.out ?_;clear hK K
    try simp only [Act.put,sq]
    refine tt 6 (.pointer (some ⟨w2.heap.size,0,none⟩)) (fun _=>iT.out) ?_;refine ay (rs:=[7]) (by kernel_rfl) (by simp) ?_;refine av.cons rfl (fun K hK=> ?_) (av.nil);go_simp;refine hK.out _ _ HS8.out ?_;clear hK K
    try simp only [Act.put,sq]
    refine tt 8 (.pointer (some ⟨w2.heap.size,1,none⟩)) (fun _=>HS8.out) ?_;refine ay (rs:=[9]) (by kernel_rfl) (by simp) ?_;refine av.past rfl (by kernel_rfl) (fun K hK=> ?_) (av.nil);go_simp;refine hK.out _ _ ?_;clear hK K
    try simp only [Act.put,sq]
    refine aM (by kernel_rfl) ?_ _;go_wp2_with fail;have tF:=bB ((w7.setCell ⟨w2.heap.size,0,none⟩ (.int .i64 1)).setCell ⟨w2.heap.size,1,none⟩ (sv s)) w.heap.size (.int .i64 1) (sv s) (.int .i64 0) (.int .i64 t0.line) (.int .i64 t0.col) (.slice none 0 0) (.slice none 0 0) (.slice none 0 0);refine bodyPost_ret (aS rfl rfl (aV Et.out _ _ _ _ _ _ _ _) Tryz.underlying52 rfl (by kernel_rfl)) rfl ?_;exact aF.done vD.out.symm (bI pQ.out (by omega)) ⟨_,rfl, .mk (dB.nil _ _ _) .nil (dB.nil _ _ _) (dB.nil _ _ _) .nil⟩ (sS.out.fQ (by omega))
  ·have hb4:(t0.kind==4)=false:=by simp [h4]
   have gQ:Hid (aj (cK rW) (fun i=>match i with
     | none=>lU typ t0
     | some 0=>aG (aK 2 [] 0 t0 [] [] [])
     | some 1=>aG (aK 2 [] 1 t0 [] [] [])
     | some 2=>aG (aK 3 [] 0 t0 [] [] [])
     | some 3=>aj (jy [[40],[41]]) fun _=>aG (aK 18 [] 0 t0 [] [] [])
     | some 4=>aj (bV expr [[40]] []) fun k=>aj (aI [41]) fun _=>aG (aK 17 [] 0 t0 [] [] k)
     | some 5=>aj expr fun x=>aj (aI [41]) fun _=>aG x
     | some _=>aj (uZ expr t0) fun x=>aj (aI [125]) fun _=>aG x) ts=Q):=hid (by have:=KY.out;rwa [if_neg h4]at this)
   have HC:=hid (lV (w3.alloc (.cells #[.int .i64 t0.kind,sv t0.text, .int .i64 t0.line, .int .i64 t0.col] 154)) bp B ts d (iM.out.below (new1 _ _)) rW #[.string ⟨#[102,97,108,115,101]⟩, .string ⟨#[116,114,117,101]⟩, .string ⟨#[110,117,108,108]⟩, .string ⟨#[114,101,97,100]⟩, .string ⟨#[112,114,105,110,116]⟩, .string ⟨#[40]⟩, .string ⟨#[123]⟩] 9 7 (w3.heap.size+1));clear h4 KY;go_wp2_with fail;refine(HC.out).mono ?_;rintro e w4 h4;rcases hq:cK rW ts with g | ⟨o,r4⟩
   ·exact(gB hq).elim
   ·obtain⟨v4,rfl,tn,rfl,kn⟩:=h4.aL hq;have tm:=(bH tn).1;have hs4:=tm.size;have fP:=hid (aA HT3.out tm);have jH:=hid kn;have UN:=ah jf.out tm (by omega);have iD:=hid UN;have qA:=ah lu.out tm (by omega);have mD:=hid qA;have fV:=hid hq;obtain⟨y0,y1,y2,y3,y4,y5,y6,y7,yz⟩:=aT qA;obtain⟨c0,c1,c2,c3,c4,c5,c6,c7,cz⟩:=aT UN;clear h4 tn tm kn hq qA UN m0 m1 m2 m3 m4 m5 m6 m7 mz;rcases o with _ | i
    ·have gN:Hid (lU typ t0 r4=Q):=hid ((au fV.out).symm.trans gQ.out);have HP:=hid (Gy d typ hst pK w4 bp B r4 jH.out t0);go_wp2_with fail;refine(HP.out).mono ?_;rintro e w5 h5;rcases hq:lU typ t0 r4 with g | ⟨x,r5⟩
     ·obtain⟨rfl,tn,bn⟩:=h5.bM hq;have HB:=hid (dX.mk2 (aA fP.out tn) bn);have dG:=hid (gN.out.symm.trans hq);clear h5 tn bn hq;go_wp2_with fail;exact⟨rfl,aF.fail dG.out HB.out⟩
     ·obtain⟨v5,rfl,tn,⟨z5,rfl,hz⟩,kn⟩:=h5.aL hq;obtain⟨k4,s4,n4,l4,o4,mg,n14,c14,mh,n24,c24,oO,n34,c34,rfl⟩:=hz.shape';have hs5:=tn.size;have fM:=hid (aA fP.out tn);have kW:=hid kn;have iE:=hid (ah iD.out tn (by omega));have uU:=hid hz.iv;have rz:=hid (hq.symm.trans gN.out);clear c0 c1 c2 c3 c4 c5 c6 c7 cz;obtain⟨c0,c1,c2,c3,c4,c5,c6,c7,cz⟩:=aT iE.out;clear h5 tn hz kn hq;go_wp2_with fail;have tF:=bB w5 w.heap.size (.int .i64 k4) (sv s4) (.int .i64 n4) (.int .i64 l4) (.int .i64 o4) (.slice mg n14 c14) (.slice mh n24 c24) (.slice oO n34 c34);refine bodyPost_ret (aS rfl rfl (aV iE.out _ _ _ _ _ _ _ _) Tryz.underlying52 rfl (by kernel_rfl)) rfl ?_;exact aF.done rz.out.symm (bI fM.out (by omega)) ⟨_,rfl,(uU.out.turn tF (fun g _ h e=>by have:=h.1;omega)).mono (fun g _ h=>by have:=h.1;omega)⟩ (kW.out.fQ (by omega))
    ·have hi:=kD fV.out;simp only [rW,List.length_cons,List.length_nil]at hi;obtain rfl | rfl | rfl | rfl | rfl | rfl | rfl:i=0∨i=1∨i=2∨i=3∨i=4∨i=5∨i=6:=by omega
     ·have gN:Hid (Pr.good (aK 2 [] 0 t0 [] [] []) r4=Q):=hid ((au fV.out).symm.trans gQ.out);have tS:=((ak w4 w2.heap.size 0 (.int .i64 2)).trans (ak _ w2.heap.size 2 (.int .i64 0)) (fun _ _ h=>h))
      have mE:=hid (show((w4.setCell ⟨w2.heap.size,0,none⟩ (.int .i64 2)).setCell ⟨w2.heap.size,2,none⟩ (.int .i64 0)).heap[w2.heap.size]? =some (.cells #[.int .i64 2, .string ⟨#[]⟩, .int .i64 0, .int .i64 t0.line, .int .i64 t0.col, .slice none 0 0, .slice none 0 0, .slice none 0 0] 52 (0,0))from(heap_setCell_same _ _ 2 _ _ (.int .i64 0) (heap_setCell_same _ _ 0 _ _ (.int .i64 2) mD.out)));have kW:=hid (jH.out.turn tS (by omega) (fun k hk e=>by have:=iM.out.1;omega));have fM:=hid (fP.out.trans tS (fun i hi e=>by omega));have iE:=hid (ah iD.out tS (by omega));have Si:(((w4.setCell ⟨w2.heap.size,0,none⟩ (.int .i64 2)).setCell ⟨w2.heap.size,2,none⟩ (.int .i64 0))).heap.size=w4.heap.size:=by simp
      clear tS;go_wp2_with fail;have tF:=bB ((w4.setCell ⟨w2.heap.size,0,none⟩ (.int .i64 2)).setCell ⟨w2.heap.size,2,none⟩ (.int .i64 0)) w.heap.size (.int .i64 2) (.string ⟨#[]⟩) (.int .i64 0) (.int .i64 t0.line) (.int .i64 t0.col) (.slice none 0 0) (.slice none 0 0) (.slice none 0 0);refine bodyPost_ret (aS rfl rfl (aV iE.out _ _ _ _ _ _ _ _) Tryz.underlying52 rfl (by kernel_rfl)) rfl ?_;exact aF.done gN.out.symm (bI fM.out (by omega)) ⟨_,rfl, .mk (dB.nil _ _ _) .nil (dB.nil _ _ _) (dB.nil _ _ _) .nil⟩ (kW.out.fQ (by omega))
     ·have gN:Hid (Pr.good (aK 2 [] 1 t0 [] [] []) r4=Q):=hid ((au fV.out).symm.trans gQ.out);have tS:=((ak w4 w2.heap.size 0 (.int .i64 2)).trans (ak _ w2.heap.size 2 (.int .i64 1)) (fun _ _ h=>h))
      have mE:=hid (show((w4.setCell ⟨w2.heap.size,0,none⟩ (.int .i64 2)).setCell ⟨w2.heap.size,2,none⟩ (.int .i64 1)).heap[w2.heap.size]? =some (.cells #[.int .i64 2, .string ⟨#[]⟩, .int .i64 1, .int .i64 t0.line, .int .i64 t0.col, .slice none 0 0, .slice none 0 0, .slice none 0 0] 52 (0,0))from(heap_setCell_same _ _ 2 _ _ (.int .i64 1) (heap_setCell_same _ _ 0 _ _ (.int .i64 2) mD.out)));have kW:=hid (jH.out.turn tS (by omega) (fun k hk e=>by have:=iM.out.1;omega));have fM:=hid (fP.out.trans tS (fun i hi e=>by omega));have iE:=hid (ah iD.out tS (by omega));have Si:(((w4.setCell ⟨w2.heap.size,0,none⟩ (.int .i64 2)).setCell ⟨w2.heap.size,2,none⟩ (.int .i64 1))).heap.size=w4.heap.size:=by simp
      clear tS;go_wp2_with fail;have tF:=bB ((w4.setCell ⟨w2.heap.size,0,none⟩ (.int .i64 2)).setCell ⟨w2.heap.size,2,none⟩ (.int .i64 1)) w.heap.size (.int .i64 2) (.string ⟨#[]⟩) (.int .i64 1) (.int .i64 t0.line) (.int .i64 t0.col) (.slice none 0 0) (.slice none 0 0) (.slice none 0 0);refine bodyPost_ret (aS rfl rfl (aV iE.out _ _ _ _ _ _ _ _) Tryz.underlying52 rfl (by kernel_rfl)) rfl ?_;exact aF.done gN.out.symm (bI fM.out (by omega)) ⟨_,rfl, .mk (dB.nil _ _ _) .nil (dB.nil _ _ _) (dB.nil _ _ _) .nil⟩ (kW.out.fQ (by omega))
     ·have gN:Hid (Pr.good (aK 3 [] 0 t0 [] [] []) r4=Q):=hid ((au fV.out).symm.trans gQ.out);have tS:=(ak w4 w2.heap.size 0 (.int .i64 3))
      have mE:=hid (show(w4.setCell ⟨w2.heap.size,0,none⟩ (.int .i64 3)).heap[w2.heap.size]? =some (.cells #[.int .i64 3, .string ⟨#[]⟩, .int .i64 0, .int .i64 t0.line, .int .i64 t0.col, .slice none 0 0, .slice none 0 0, .slice none 0 0] 52 (0,0))from(heap_setCell_same _ _ 0 _ _ (.int .i64 3) mD.out));have kW:=hid (jH.out.turn tS (by omega) (fun k hk e=>by have:=iM.out.1;omega));have fM:=hid (fP.out.trans tS (fun i hi e=>by omega));have iE:=hid (ah iD.out tS (by omega));have Si:((w4.setCell ⟨w2.heap.size,0,none⟩ (.int .i64 3))).heap.size=w4.heap.size:=by simp
      clear tS;go_wp2_with fail;have tF:=bB (w4.setCell ⟨w2.heap.size,0,none⟩ (.int .i64 3)) w.heap.size (.int .i64 3) (.string ⟨#[]⟩) (.int .i64 0) (.int .i64 t0.line) (.int .i64 t0.col) (.slice none 0 0) (.slice none 0 0) (.slice none 0 0);refine bodyPost_ret (aS rfl rfl (aV iE.out _ _ _ _ _ _ _ _) Tryz.underlying52 rfl (by kernel_rfl)) rfl ?_;exact aF.done gN.out.symm (bI fM.out (by omega)) ⟨_,rfl, .mk (dB.nil _ _ _) .nil (dB.nil _ _ _) (dB.nil _ _ _) .nil⟩ (kW.out.fQ (by omega))
     ·have gN:Hid (aj (jy [[40],[41]]) (fun _=>aG (aK 18 [] 0 t0 [] [] [])) r4=Q):=hid ((au fV.out).symm.trans gQ.out);have tS:=(ak w4 w2.heap.size 0 (.int .i64 18))
      have mE:=hid (show(w4.setCell ⟨w2.heap.size,0,none⟩ (.int .i64 18)).heap[w2.heap.size]? =some (.cells #[.int .i64 18, .string ⟨#[]⟩, .int .i64 0, .int .i64 t0.line, .int .i64 t0.col, .slice none 0 0, .slice none 0 0, .slice none 0 0] 52 (0,0))from(heap_setCell_same _ _ 0 _ _ (.int .i64 18) mD.out));have kW:=hid (jH.out.turn tS (by omega) (fun k hk e=>by have:=iM.out.1;omega));have fM:=hid (fP.out.trans tS (fun i hi e=>by omega));have iE:=hid (ah iD.out tS (by omega));have Si:((w4.setCell ⟨w2.heap.size,0,none⟩ (.int .i64 18))).heap.size=w4.heap.size:=by simp
      clear tS;have HP:=hid (DV ((w4.setCell ⟨w2.heap.size,0,none⟩ (.int .i64 18)).alloc (.cells #[.string ⟨#[40]⟩, .string ⟨#[41]⟩] 9)) bp B r4 d (kW.out.below (new1 _ _)) (.slice (some ⟨w4.heap.size,0,none⟩) 2 2) [[40],[41]] (BZ _ _ Si.symm [[40],[41]] #[.string ⟨#[40]⟩, .string ⟨#[41]⟩] 9 2 rfl rfl (by decide)) (by simp));go_wp2_with fail;refine(HP.out).mono ?_;rintro e w5 h5;rcases hq:jy [[40],[41]] r4 with g | ⟨u,r5⟩
      ·obtain⟨rfl,tn,bn⟩:=h5.bM hq;have tn:=(bH tn).1;have HB:=hid (dX.mk2 (aA fM.out tn) bn);have dG:=hid (gN.out.symm.trans (aB hq));clear h5 tn bn hq;go_wp2_with fail;exact⟨rfl,aF.fail dG.out HB.out⟩
      ·obtain⟨v5,rfl,tn, -,kn⟩:=h5.aL hq;have tn:=(bH tn).1;have hsA:=tn.size;rw [Si]at hsA;have hs6:=tn.size;have kQ:=hid (aA fM.out tn);have sU:=hid kn;have ng:=hid (ah iE.out tn (by omega));have Ae:=ah mE.out tn (by omega);have rz:Hid (Pr.good (aK 18 [] 0 t0 [] [] []) r5=Q):=hid ((au hq).symm.trans gN.out);clear y0 y1 y2 y3 y4 y5 y6 y7 yz c0 c1 c2 c3 c4 c5 c6 c7 cz;obtain⟨y0,y1,y2,y3,y4,y5,y6,y7,yz⟩:=aT Ae;obtain⟨c0,c1,c2,c3,c4,c5,c6,c7,cz⟩:=aT ng.out;clear h5 tn kn hq Ae;go_wp2_with fail;have tF:=bB w5 w.heap.size (.int .i64 18) (.string ⟨#[]⟩) (.int .i64 0) (.int .i64 t0.line) (.int .i64 t0.col) (.slice none 0 0) (.slice none 0 0) (.slice none 0 0);refine bodyPost_ret (aS rfl rfl (aV ng.out _ _ _ _ _ _ _ _) Tryz.underlying52 rfl (by kernel_rfl)) rfl ?_;exact aF.done rz.out.symm (bI kQ.out (by omega)) ⟨_,rfl, .mk (dB.nil _ _ _) .nil (dB.nil _ _ _) (dB.nil _ _ _) .nil⟩ (sU.out.fQ (by omega))
     ·have gN:Hid (aj (bV expr [[40]] []) (fun k=>aj (aI [41]) fun _=>aG (aK 17 [] 0 t0 [] [] k)) r4=Q):=hid ((au fV.out).symm.trans gQ.out);have tS:=(ak w4 w2.heap.size 0 (.int .i64 17))
      have mE:=hid (show(w4.setCell ⟨w2.heap.size,0,none⟩ (.int .i64 17)).heap[w2.heap.size]? =some (.cells #[.int .i64 17, .string ⟨#[]⟩, .int .i64 0, .int .i64 t0.line, .int .i64 t0.col, .slice none 0 0, .slice none 0 0, .slice none 0 0] 52 (0,0))from(heap_setCell_same _ _ 0 _ _ (.int .i64 17) mD.out));have kW:=hid (jH.out.turn tS (by omega) (fun k hk e=>by have:=iM.out.1;omega));have fM:=hid (fP.out.trans tS (fun i hi e=>by omega));have iE:=hid (ah iD.out tS (by omega));have Si:((w4.setCell ⟨w2.heap.size,0,none⟩ (.int .i64 17))).heap.size=w4.heap.size:=by simp
      clear tS;have uL:=hid (ji d expr wW ((w4.setCell ⟨w2.heap.size,0,none⟩ (.int .i64 17)).alloc (.cells #[.string ⟨#[40]⟩] 9)) bp B w2.heap.size (w2.heap.size+1) (fun j=>w2.heap.size+1≤j) r4 (kW.out.below (new1 _ _)) (.int .i64 17) (.string ⟨#[]⟩) (.int .i64 0) (.int .i64 t0.line) (.int .i64 t0.col) (.slice none 0 0) (.slice none 0 0) (.slice none 0 0) [] (bG mE.out) (fu.nil _ _ _ _ _ _) (.slice (some ⟨((w4.setCell ⟨w2.heap.size,0,none⟩ (.int .i64 17))).heap.size,0,none⟩) 1 1) [[40]] ((iH ((w4.setCell ⟨w2.heap.size,0,none⟩ (.int .i64 17))) #[.string ⟨#[40]⟩] 9 1 1 rfl (by decide)).mono (fun g _ h=>⟨by omega,by omega,fun e=>by cases e⟩)) (by decide) (by simp) (by omega) (by omega) (by simp;omega) (by omega) (by omega) (fun j hj=>by simp at hj;omega));rw [Si]at uL;go_wp2_with fail;refine(uL.out).mono ?_;rintro e w5 h5;rcases hq:bV expr [[40]] [] r4 with g | ⟨ks,r5⟩
      ·obtain⟨rfl,tn,bn⟩:=h5.bM hq;have tn:=(bH tn).1;have HB:=hid (dX.mk2 (fM.out.trans tn (fun i hi e=>by rcases e with e | e | e;exact e;omega;cases e)) bn);have dG:=hid (gN.out.symm.trans (aB hq));clear h5 tn bn hq;go_wp2_with fail;exact⟨rfl,aF.fail dG.out HB.out⟩
      ·obtain⟨rfl,tn,⟨vk,mZ,uW⟩,kn⟩:=h5.aL hq;have tk:=(bH tn).1;have uw:=tk.size;rw [Si]at uw;obtain⟨A8,c8,UJ, _, _⟩:=uW.shape;subst UJ;have kV:=hid (fM.out.trans tk (fun i hi e=>by rcases e with e | e | e;exact e;omega;cases e));have jk:=hid (ah iE.out tk (fun e=>by rcases e with e | e | e;omega;omega;cases e));have pO:=hid kn;have Sd:=hid uW;have mF:=hid mZ;have Ca:Hid (aj (aI [41]) (fun _=>aG (aK 17 [] 0 t0 [] [] ks)) r5=Q):=hid ((au hq).symm.trans gN.out);have HN:=hid (eG w5 bp B r5 d kn [41] 9 w5.heap.size);clear h5 tn tk mZ uW kn hq;go_wp2_with fail;refine(HN.out).mono ?_;rintro e w6 h5;rcases hq:aI [41] r5 with g | ⟨u,r6⟩
       ·obtain⟨rfl,tn,bn⟩:=h5.bM hq;have HB:=hid (dX.mk2 (aA kV.out tn) bn);have dG:=hid (Ca.out.symm.trans (aB hq));clear h5 tn bn hq;go_wp2_with fail;exact⟨rfl,aF.fail dG.out HB.out⟩
       ·obtain⟨v6,rfl,tn, -,kn⟩:=h5.aL hq;have FB:=Sd.out.turn aZ tn (fun g hg e=>by have:=(Sd.out.lt g hg).1;omega) (fun g _ hg e=>by omega);have FI:=hid FB;clear FB;have RB:=tn.size;have pQ:=hid (aA kV.out tn);have sS:=hid kn;have Et:=hid (ah jk.out tn (by omega));have Yk:=ah mF.out tn (by omega);have Em:Hid (Pr.good (aK 17 [] 0 t0 [] [] ks) r6=Q):=hid ((au hq).symm.trans Ca.out);clear y0 y1 y2 y3 y4 y5 y6 y7 yz c0 c1 c2 c3 c4 c5 c6 c7 cz;obtain⟨y0,y1,y2,y3,y4,y5,y6,y7,yz⟩:=aT Yk;obtain⟨c0,c1,c2,c3,c4,c5,c6,c7,cz⟩:=aT Et.out;clear h5 tn kn hq Yk;obtain⟨xs,q1,q2⟩:=FI.out.sl aZ;have lq:=hid q1;have jO:=hid q2;clear q1 q2;go_wp2_with fail;have tF:=bB w6 w.heap.size (.int .i64 17) (.string ⟨#[]⟩) (.int .i64 0) (.int .i64 t0.line) (.int .i64 t0.col) (.slice none 0 0) (.slice none 0 0) (.slice A8 ks.length c8);refine bodyPost_ret (aS rfl rfl (aV Et.out _ _ _ _ _ _ _ _) Tryz.underlying52 rfl (by kernel_rfl)) rfl ?_;exact aF.done Em.out.symm (bI pQ.out (by omega)) ⟨_,rfl, .mk (dB.nil _ _ _) .nil (dB.nil _ _ _) ((lq.out.turn tF (fun g _ h e=>by rcases h with h | h <;> omega)).mono (fun g _ h=>by rcases h with h | h <;> omega)) (j4 (dD aZ (fun g _ h=>by rcases h with h | h <;> omega) (bD aZ tF (fun g _ h e=>by rcases h with h | h <;> omega) jO.out)))⟩ (sS.out.fQ (by omega))
     ·have gN:Hid (aj expr (fun x=>aj (aI [41]) fun _=>aG x) r4=Q):=hid ((au fV.out).symm.trans gQ.out);have HP:=hid (wW w4 bp B r4 jH.out);go_wp2_with fail;refine(HP.out).mono ?_;rintro e w5 h5;rcases hq:expr r4 with g | ⟨x,r5⟩
      ·obtain⟨rfl,tn,bn⟩:=h5.bM hq;have HB:=hid (dX.mk2 (aA fP.out tn) bn);have dG:=hid (gN.out.symm.trans (aB hq));clear h5 tn bn hq;go_wp2_with fail;exact⟨rfl,aF.fail dG.out HB.out⟩
      ·obtain⟨v5,rfl,tn,⟨z5,rfl,hz⟩,kn⟩:=h5.aL hq;obtain⟨k4,s4,n4,l4,o4,mg,n14,c14,mh,n24,c24,oO,n34,c34,rfl⟩:=hz.shape';have hs5:=tn.size;have lC:=ah mD.out tn (by omega);clear y0 y1 y2 y3 y4 y5 y6 y7 yz;obtain⟨y0,y1,y2,y3,y4,y5,y6,y7,yz⟩:=aT lC;have tP:=bB w5 w2.heap.size (.int .i64 k4) (sv s4) (.int .i64 n4) (.int .i64 l4) (.int .i64 o4) (.slice mg n14 c14) (.slice mh n24 c24) (.slice oO n34 c34);have fM:=hid ((aA fP.out tn).trans tP (fun i hi e=>by omega));have kW:=hid (kn.fQ (a:=w2.heap.size) (v0:= .int .i64 k4) (v1:=sv s4) (v2:= .int .i64 n4) (v3:= .int .i64 l4) (v4:= .int .i64 o4) (v5:= .slice mg n14 c14) (v6:= .slice mh n24 c24) (v7:= .slice oO n34 c34) (by omega));have iE:=hid (ah (ah iD.out tn (by omega)) tP (by omega));have mE:=hid (aV lC (.int .i64 k4) (sv s4) (.int .i64 n4) (.int .i64 l4) (.int .i64 o4) (.slice mg n14 c14) (.slice mh n24 c24) (.slice oO n34 c34));have uU:=hid ((hz.iv.turn tP (fun g _ h e=>by have:=h.1;omega)).mono (G:=Iv w4.heap.size w5.heap.size) (fun g _ h=>h));have hsP:=tP.size;have rz:Hid (aj (aI [41]) (fun _=>aG x) r5=Q):=hid ((au hq).symm.trans gN.out);have HN:=hid (eG (sw w5 w2.heap.size (.int .i64 k4) (sv s4) (.int .i64 n4) (.int .i64 l4) (.int .i64 o4) (.slice mg n14 c14) (.slice mh n24 c24) (.slice oO n34 c34)) bp B r5 d kW.out [41] 9 w5.heap.size);clear h5 tn tP hz kn hq lC;go_wp2_with fail;refine(HN.out).mono ?_;rintro e w6 h5;rcases hq:aI [41] r5 with g | ⟨u,r6⟩
       ·obtain⟨rfl,tn,bn⟩:=h5.bM hq;have HB:=hid (dX.mk2 (aA fM.out tn) bn);have dG:=hid (rz.out.symm.trans (aB hq));clear h5 tn bn hq;go_wp2_with fail;exact⟨rfl,aF.fail dG.out HB.out⟩
       ·obtain⟨v6,rfl,tn, -,kn⟩:=h5.aL hq;have Ya:=hid (uU.out.turn tn (fun g _ h e=>by have:=h.1;omega));have gN:=rz;have hs7:=tn.size;have jg:=hid (aA fM.out tn);have kP:=hid kn;have sG:=hid (ah iE.out tn (by omega));have sK:=ah mE.out tn (by omega);have vD:Hid (Pr.good (x) r6=Q):=hid ((au hq).symm.trans gN.out);clear y0 y1 y2 y3 y4 y5 y6 y7 yz c0 c1 c2 c3 c4 c5 c6 c7 cz;obtain⟨y0,y1,y2,y3,y4,y5,y6,y7,yz⟩:=aT sK;obtain⟨c0,c1,c2,c3,c4,c5,c6,c7,cz⟩:=aT sG.out;clear h5 tn kn hq sK;go_wp2_with fail;have tF:=bB w6 w.heap.size (.int .i64 k4) (sv s4) (.int .i64 n4) (.int .i64 l4) (.int .i64 o4) (.slice mg n14 c14) (.slice mh n24 c24) (.slice oO n34 c34);refine bodyPost_ret (aS rfl rfl (aV sG.out _ _ _ _ _ _ _ _) Tryz.underlying52 rfl (by kernel_rfl)) rfl ?_;exact aF.done vD.out.symm (bI jg.out (by omega)) ⟨_,rfl,(Ya.out.turn tF (fun g _ h e=>by have:=h.1;omega)).mono (fun g _ h=>by have:=h.1;omega)⟩ (kP.out.fQ (by omega))
     ·have gN:Hid (aj (uZ expr t0) (fun x=>aj (aI [125]) fun _=>aG x) r4=Q):=hid ((au fV.out).symm.trans gQ.out);have HP:=hid (GA d expr hse wW w4 bp B w2.heap.size t0 r4 jH.out mD.out (by omega));go_wp2_with fail;refine(HP.out).mono ?_;rintro e w5 h5;rcases hq:uZ expr t0 r4 with g | ⟨x,r5⟩
      ·obtain⟨rfl,tn,bn⟩:=h5.bM hq;have HB:=hid (dX.mk2 (fP.out.trans tn (fun i hi e=>by rcases e with e | e;exact e;omega)) bn);have dG:=hid (gN.out.symm.trans (aB hq));clear h5 tn bn hq;go_wp2_with fail;exact⟨rfl,aF.fail dG.out HB.out⟩
      ·obtain⟨v5,rfl,tn,⟨rfl,z5,hb5,hz⟩,kn⟩:=h5.aL hq;obtain⟨k4,s4,n4,l4,o4,mg,n14,c14,mh,n24,c24,oO,n34,c34,rfl⟩:=hz.shape';have hs5:=tn.size;have fM:=hid (fP.out.trans tn (fun i hi e=>by rcases e with e | e;exact e;omega));have kW:=hid kn;have iE:=hid (ah iD.out tn (fun e=>by rcases e with e | e <;> omega));have mE:=hid hb5;have uU:=hid hz.iv;have rz:Hid (aj (aI [125]) (fun _=>aG x) r5=Q):=hid ((au hq).symm.trans gN.out);have HN:=hid (eG w5 bp B r5 d kn [125] 9 w5.heap.size);clear h5 tn hz kn hq hb5;go_wp2_with fail;refine(HN.out).mono ?_;rintro e w6 h5;rcases hq:aI [125] r5 with g | ⟨u,r6⟩
       ·obtain⟨rfl,tn,bn⟩:=h5.bM hq;have HB:=hid (dX.mk2 (aA fM.out tn) bn);have dG:=hid (rz.out.symm.trans (aB hq));clear h5 tn bn hq;go_wp2_with fail;exact⟨rfl,aF.fail dG.out HB.out⟩
       ·obtain⟨v6,rfl,tn, -,kn⟩:=h5.aL hq;have Ya:=hid (uU.out.turn tn (fun g _ h e=>by have:=h.1;omega));have gN:=rz;have hs7:=tn.size;have jg:=hid (aA fM.out tn);have kP:=hid kn;have sG:=hid (ah iE.out tn (by omega));have sK:=ah mE.out tn (by omega);have vD:Hid (Pr.good (x) r6=Q):=hid ((au hq).symm.trans gN.out);clear y0 y1 y2 y3 y4 y5 y6 y7 yz c0 c1 c2 c3 c4 c5 c6 c7 cz;obtain⟨y0,y1,y2,y3,y4,y5,y6,y7,yz⟩:=aT sK;obtain⟨c0,c1,c2,c3,c4,c5,c6,c7,cz⟩:=aT sG.out;clear h5 tn kn hq sK;go_wp2_with fail;have tF:=bB w6 w.heap.size (.int .i64 k4) (sv s4) (.int .i64 n4) (.int .i64 l4) (.int .i64 o4) (.slice mg n14 c14) (.slice mh n24 c24) (.slice oO n34 c34);refine bodyPost_ret (aS rfl rfl (aV sG.out _ _ _ _ _ _ _ _) Tryz.underlying52 rfl (by kernel_rfl)) rfl ?_;exact aF.done vD.out.symm (bI jg.out (by omega)) ⟨_,rfl,(Ya.out.turn tF (fun g _ h e=>by have:=h.1;omega)).mono (fun g _ h=>by have:=h.1;omega)⟩ (kP.out.fQ (by omega))
theorem Kn:uE 100 (jh 6):=by
 intro w bp B ts h;have HE:=hid (su (w.alloc (.cells #[.int .i64 0, .string ⟨#[]⟩, .int .i64 0, .int .i64 0, .int .i64 0, .slice none 0 0, .slice none 0 0, .slice none 0 0] 52)) bp B ts (h.below (new1 _ _)));clear h
 go_enter_defers Tryz.func50,Tryz.ntmps50
 go_wp2_with fail;refine(HE.out).mono ?_;rintro e w1 ⟨rfl,hb⟩;go_wp2_with fail;exact aF.fail (P:=LW w.heap.size) (B:=B) (d:=100) (q:=jh 6 ts) rfl ⟨(bH hb.1).1,hb.2⟩
theorem Na (d:Int) (typ:Ps bT) (unary:Ps bX) (hst:Sf typ) (hsu:Sf unary) (pK:uj d typ) (HU:vL d unary):nS d 0 (jK typ unary 6):=by
 have h6:nS d 6 (jK typ unary 0):=Mk d unary HU;have h5:nS d 5 (jK typ unary 1):=nT d 5 (by omega) _ (Sf.rank hst hsu 0) h6;have h4:nS d 4 (jK typ unary 2):=nT d 4 (by omega) _ (Sf.rank hst hsu 1) h5;have h3:nS d 3 (jK typ unary 3):=nT d 3 (by omega) _ (Sf.rank hst hsu 2) h4;have h2:nS d 2 (jK typ unary 4):=Ml d _ (Qr d typ pK _ (Sf.rank hst hsu 3) h3);have h1:nS d 1 (jK typ unary 5):=nT d 1 (by omega) _ (Sf.rank hst hsu 4) h2;exact nT d 0 (by omega) _ (Sf.rank hst hsu 5) h1
theorem I5:∀n:Nat,n≤100→uE (100 - (n:Int)) (bR n).expr∧vL (100 - (n:Int)) (bR n).unary
 | 0, _=>⟨Kn,Gu⟩
 | n+1,h=>by
  obtain⟨ihe,ihu⟩:=I5 n (by omega);have iht:=xX n (by omega);obtain⟨s1,s2,s3⟩:=Sf.Ig n;have e:(100:Int) - ((n+1:Nat):Int)+1=100 - (n:Int):=by omega
  refine⟨Km (100 - ((n+1:Nat):Int)) (by omega) (by omega) (bR n).typ (bR n).expr (bR n).unary s1 ?_ ?_ ?_,Gt (100 - ((n+1:Nat):Int)) (by omega) (by omega) (bR n).typ (bR n).expr (bR n).unary ?_ ?_⟩
  ·rw [e];exact iht
  ·rw [e];exact ihe
  ·rw [e];exact Na _ _ _ s1 s3 iht ihu
  ·rw [e];exact ihu
  ·rw [e];exact MQ _ _ _ s2 ihe (M9 _ _ _ s1 s2 iht ihe)
theorem Eu (w:World) (bp B:Nat) (ts:List aD) (h:bK w bp B ts 0):Calls Tryz.prog 50 #[.pointer (some ⟨bp,0,none⟩)] w (aF (LW w.heap.size) bp B 0 w ((bR 100).expr ts)):=
 (I5 100 (Nat.le_refl _)).1 w bp B ts h
theorem I6 (w:World) (bp B:Nat) (ts:List aD) (h:bK w bp B ts 0):Calls Tryz.prog 54 #[.pointer (some ⟨bp,0,none⟩)] w (aF (OG w.heap.size) bp B 0 w ((bR 100).typ ts)):=
 xX 100 (Nat.le_refl _) w bp B ts h
def Ev (w:World) (F:Nat→Prop) (z:List Value) (i:rU):Prop:=∃vn,z=[sv i.from_,vn, .int .i64 i.line, .int .i64 i.col]∧dB w F 1 vn (lG i.names)
def Ew (w:World) (F:Nat→Prop) (z:List Value) (v:yE):Prop:=∃y,z=sv v.name :: y∧jR w F y v.bound
def FJ (w:World) (F:Nat→Prop) (z:List Value) (d:pI):Prop:=
 ∃vv xv vt xt y,z=[sv d.name, .bool d.exp,vv,sv d.param,vt]++(y++[.int .i64 d.line, .int .i64 d.col])∧dB w F 5 vv xv∧eD (Ew w F) 5 xv d.vars∧dB w F 4 vt xt∧kK w F xt d.types∧ow w F y d.body
def I7 (w:World) (F:Nat→Prop) (z:List Value) (m:zQ):Prop:=
 ∃vi xi vd xd,z=[vi,vd]∧dB w F 4 vi xi∧eD (Ev w F) 4 xi m.imps∧dB w F 15 vd xd∧eD (FJ w F) 15 xd m.decls
section
variable {w w':World} {F G:Nat→Prop} {z:List Value} {B:Nat}
theorem Ev.turn {i:rU} (h:Ev w F z i) (t:Turn G w w') (hd:∀g,g<w.heap.size→F g→¬G g):Ev w' F z i:=by
 obtain⟨vn,e,h1⟩:=h;exact⟨vn,e,h1.turn t hd⟩
theorem Ev.mono {i:rU} (h:Ev w F z i) (hF:∀g,g<w.heap.size→F g→G g):Ev w G z i:=by
 obtain⟨vn,e,h1⟩:=h;exact⟨vn,e,h1.mono hF⟩
theorem Ev.to {i:rU} (h:Ev w F z i) (hF:∀g,g<w.heap.size→F g→g<B):OC w B z i:=by
 obtain⟨vn,e,h1⟩:=h;exact⟨vn,e,h1.to hF⟩
theorem Ew.turn {i:yE} (h:Ew w F z i) (t:Turn G w w') (hd:∀g,g<w.heap.size→F g→¬G g):Ew w' F z i:=by
 obtain⟨vn,e,h1⟩:=h;exact⟨vn,e,h1.turn t hd⟩
theorem Ew.mono {i:yE} (h:Ew w F z i) (hF:∀g,g<w.heap.size→F g→G g):Ew w G z i:=by
 obtain⟨vn,e,h1⟩:=h;exact⟨vn,e,h1.mono hF⟩
theorem Ew.to {i:yE} (h:Ew w F z i) (hF:∀g,g<w.heap.size→F g→g<B):KX w B z i:=by
 obtain⟨vn,e,h1⟩:=h;exact⟨vn,e,h1.to hF⟩
theorem FJ.turn {i:pI} (h:FJ w F z i) (t:Turn G w w') (hd:∀g,g<w.heap.size→F g→¬G g):FJ w' F z i:=by
 obtain⟨vv,xv,vt,xt,y,e,h1,h2,h3,h4,h5⟩:=h;exact⟨vv,xv,vt,xt,y,e,h1.turn t hd,h2.imp fun _ _ h=>h.turn t hd,h3.turn t hd,h4.turn t hd,h5.turn t hd⟩
theorem FJ.mono {i:pI} (h:FJ w F z i) (hF:∀g,g<w.heap.size→F g→G g):FJ w G z i:=by
 obtain⟨vv,xv,vt,xt,y,e,h1,h2,h3,h4,h5⟩:=h;exact⟨vv,xv,vt,xt,y,e,h1.mono hF,h2.imp fun _ _ h=>h.mono hF,h3.mono hF,h4.mono hF,h5.mono hF⟩
theorem FJ.to {i:pI} (h:FJ w F z i) (hF:∀g,g<w.heap.size→F g→g<B):CV w B z i:=by
 obtain⟨vv,xv,vt,xt,y,e,h1,h2,h3,h4,h5⟩:=h;exact⟨vv,xv,vt,xt,y,e,h1.to hF,h2.imp fun _ _ h=>h.to hF,h3.to hF,h4.to hF,h5.to hF⟩
theorem I7.turn {i:zQ} (h:I7 w F z i) (t:Turn G w w') (hd:∀g,g<w.heap.size→F g→¬G g):I7 w' F z i:=by
 obtain⟨vi,xi,vd,xd,e,h1,h2,h3,h4⟩:=h;exact⟨vi,xi,vd,xd,e,h1.turn t hd,h2.imp fun _ _ h=>h.turn t hd,h3.turn t hd,h4.imp fun _ _ h=>h.turn t hd⟩
theorem I7.mono {i:zQ} (h:I7 w F z i) (hF:∀g,g<w.heap.size→F g→G g):I7 w G z i:=by
 obtain⟨vi,xi,vd,xd,e,h1,h2,h3,h4⟩:=h;exact⟨vi,xi,vd,xd,e,h1.mono hF,h2.imp fun _ _ h=>h.mono hF,h3.mono hF,h4.imp fun _ _ h=>h.mono hF⟩
theorem I7.to {i:zQ} (h:I7 w F z i) (hF:∀g,g<w.heap.size→F g→g<B):JC w B z i:=by
 obtain⟨vi,xi,vd,xd,e,h1,h2,h3,h4⟩:=h;exact⟨vi,xi,vd,xd,e,h1.to hF,h2.imp fun _ _ h=>h.to hF,h3.to hF,h4.imp fun _ _ h=>h.to hF⟩
theorem Ev.all {i:rU} (h:Ev w F z i):OC w w.heap.size z i:=h.to fun _ hg _=>hg
theorem Ew.all {i:yE} (h:Ew w F z i):KX w w.heap.size z i:=h.to fun _ hg _=>hg
theorem FJ.all {i:pI} (h:FJ w F z i):CV w w.heap.size z i:=h.to fun _ hg _=>hg
theorem I7.all {i:zQ} (h:I7 w F z i):JC w w.heap.size z i:=h.to fun _ hg _=>hg
theorem Ev.shape' {i:rU} (h:Ev w F z i):∃A n c,z=[sv i.from_, .slice A n c, .int .i64 i.line, .int .i64 i.col]:=by
 obtain⟨vn,rfl,A,n,c,rfl, _⟩:=h;exact⟨A,n,c,rfl⟩
theorem Ew.shape' {i:yE} (h:Ew w F z i):∃k s A1 n1 c1 A2 n2 c2,z=[sv i.name, .int .i64 k,sv s, .slice A1 n1 c1, .slice A2 n2 c2]:=by
 obtain⟨y,rfl,h⟩:=h;generalize i.bound=b at h;cases h with
 | mk h1 h2 h3=>
  obtain⟨A1,n1,c1,rfl, _⟩:=h1;obtain⟨A2,n2,c2,rfl, _⟩:=h2;exact⟨_, _, _, _, _, _, _, _,rfl⟩
theorem FJ.shape' {i:pI} (h:FJ w F z i):∃A1 n1 c1 A2 n2 c2 k s a b c A3 n3 c3 A4 n4 c4 A5 n5 c5,z=[sv i.name, .bool i.exp, .slice A1 n1 c1,sv i.param, .slice A2 n2 c2, .int .i64 k,sv s, .int .i64 a, .int .i64 b, .int .i64 c, .slice A3 n3 c3, .slice A4 n4 c4, .slice A5 n5 c5, .int .i64 i.line, .int .i64 i.col]:=by
 obtain⟨vv,xv,vt,xt,y,rfl,⟨A1,n1,c1,rfl, _⟩, _,⟨A2,n2,c2,rfl, _⟩, _,h⟩:=h;generalize i.body=x at h;cases h with
 | mk h1 h2 h3 h4 h5=>
  obtain⟨A3,n3,c3,rfl, _⟩:=h1;obtain⟨A4,n4,c4,rfl, _⟩:=h3;obtain⟨A5,n5,c5,rfl, _⟩:=h4;exact⟨_, _, _, _, _, _, _, _, _, _, _, _, _, _, _, _, _, _, _, _,rfl⟩
end
theorem iJ:mH Ev 4 where
 turn h t hd:=h.turn t hd
 mono h hF:=h.mono hF
 len h:=by obtain⟨A,n,c,rfl⟩:=h.shape';rfl
 one h:=by
  obtain⟨A,n,c,rfl⟩:=h.shape';intro u hu;simp only [List.mem_cons,List.not_mem_nil,or_false]at hu;rcases hu with rfl | rfl | rfl | rfl <;> rfl
theorem gL:mH Ew 5 where
 turn h t hd:=h.turn t hd
 mono h hF:=h.mono hF
 len h:=by obtain⟨k,s,A1,n1,c1,A2,n2,c2,rfl⟩:=h.shape';rfl
 one h:=by
  obtain⟨k,s,A1,n1,c1,A2,n2,c2,rfl⟩:=h.shape';intro u hu;simp only [List.mem_cons,List.not_mem_nil,or_false]at hu;rcases hu with rfl | rfl | rfl | rfl | rfl <;> rfl
theorem mO:mH FJ 15 where
 turn h t hd:=h.turn t hd
 mono h hF:=h.mono hF
 len h:=by obtain⟨A1,n1,c1,A2,n2,c2,k,s,a,b,c,A3,n3,c3,A4,n4,c4,A5,n5,c5,rfl⟩:=h.shape';rfl
 one h:=by
  obtain⟨A1,n1,c1,A2,n2,c2,k,s,a,b,c,A3,n3,c3,A4,n4,c4,A5,n5,c5,rfl⟩:=h.shape';intro u hu;simp only [List.mem_cons,List.not_mem_nil,or_false]at hu;rcases hu with rfl | rfl | rfl | rfl | rfl | rfl | rfl | rfl | rfl | rfl | rfl | rfl | rfl | rfl | rfl <;> rfl
theorem uN {α:Type} {R:World→(Nat→Prop)→List Value→α→Prop} {k:Nat} (hR:mH R k) {e:TypeId} {w w9:World} {base:Nat} {F:Nat→Prop} {v v9:Value} {l:List α} {x:α} {z ys:List Value} {n9:Nat} {o:Obj} (h1:w.ownsRow base e k v l.length ys) (h2:eD (R w (nD F v)) k ys l)
  (hx:R w (nD F v) z x) (hg:(w.alloc o).grownBy w9 v.ownBlock) (hbk:v9.ownBlock=v.ownBlock∨v9.ownBlock=some (w.alloc o).heap.size) (h9:w9.ownsRow base e k v9 n9 (ys++z)) (hk:0<k):fu R k e w9 base F v9 (l++[x])∧n9=l.length+1∧Turn (fun j=>v.ownBlock=some j) w w9:=by
 have hn:n9=(l++[x]).length:=by
  have e1:=h9.1;have e2:=h1.1;have e3:=hR.len hx;rw [List.length_append,e2,e3]at e1;rw [List.length_append,List.length_singleton];have:n9*k=(l.length+1)*k:=by rw [←e1,Nat.add_mul,Nat.one_mul]
  exact Nat.eq_of_mul_eq_mul_right hk this
 subst hn;have t9:Turn (fun j=>v.ownBlock=some j) w w9:=(Turn.alloc (fun j=>v.ownBlock=some j) w o).trans (Turn.bA hg (fun _ h=>h)) (fun _ _ h=>h);have go:∀ {z:List Value} {x:α},R w (nD F v) z x→R w9 (nD F v9) z x:=fun h=>by
  have h3:R w (fun j=>j<w.heap.size∧nD F v j) _ _:=hR.mono h fun j hj h=>⟨hj,h⟩
  refine hR.mono (hR.turn h3 t9 (fun j _ h e=>h.2.1 e)) fun j _ h=>⟨fun e=> ?_,h.2.2⟩
  rcases hbk with hb | hb
  ·rw [hb]at e;exact h.2.1 e
  ·rw [hb]at e;injection e with e;have:=h.1;simp at e;omega
 exact⟨⟨_,h9,eD.app (wh (hR.len hx) (go hx)) (h2.imp fun _ _ h=>go h)⟩,by simp,t9⟩
theorem cells5 {w:World} {b:Nat} {a0 a1 a2 a3 a4:Value} {t:TypeId} (h:w.heap[b]? =some (.cells #[a0,a1,a2,a3,a4] t (0,0))):w.cell? ⟨b,0,none⟩=some a0∧w.cell? ⟨b,1,none⟩=some a1∧w.cell? ⟨b,2,none⟩=some a2∧w.cell? ⟨b,3,none⟩=some a3∧w.cell? ⟨b,4,none⟩=some a4∧∀i,w.frozen? ⟨b,i,none⟩=false:=
 ⟨(cell_of_row _ _ _ _ _ _ h).trans rfl,(cell_of_row _ _ _ _ _ _ h).trans rfl,(cell_of_row _ _ _ _ _ _ h).trans rfl,(cell_of_row _ _ _ _ _ _ h).trans rfl,(cell_of_row _ _ _ _ _ _ h).trans rfl,fun i=>frozen_of_row _ _ _ _ _ h⟩
theorem Sj:jT Tryz.prog 62 108 (.agg #[.string ⟨#[]⟩, .int .i64 0, .string ⟨#[]⟩, .slice none 0 0, .slice none 0 0]) 5 88:=⟨Tryz.underlying62,by kernel_rfl,rfl,by omega⟩
theorem Nb (s0:Bt) (k:Int) (s:Bt) (A1 A2:Option Addr) (n1 c1 n2 c2:Nat):∀u∈ #[sv s0,Value.int .i64 k,sv s, .slice A1 n1 c1, .slice A2 n2 c2].toList,u.oneCell'=true:=by
 intro u hu;simp only [List.mem_cons,List.not_mem_nil,or_false]at hu;rcases hu with rfl | rfl | rfl | rfl | rfl <;> rfl
def GL (pb lb base bp:Nat) (w:World) (l:List yE):Prop:=
 w.heap[pb]? =some (.cells #[.pointer (some ⟨bp,0,none⟩)] 91 (0,0))∧∃v,w.heap[lb]? =some (.cells #[v] 62 (0,0))∧fu Ew 5 108 w base (fun j=>base≤j) v l
theorem GL.turn {pb lb base bp:Nat} {w w':World} {l:List yE} {G:Nat→Prop} (h:GL pb lb base bp w l) (tn:Turn G w w') (h1:¬G pb) (h2:¬G lb) (h3:∀j,base≤j→j<w.heap.size→¬G j):GL pb lb base bp w' l:=by
 obtain⟨hb,v,hn,hr⟩:=h;exact⟨ah hb tn h1,v,ah hn tn h2,hr.turn gL tn (fun g hg=>h3 g (hr.lt g hg).1 (hr.lt g hg).2) (fun g hg h=>h3 g h hg)⟩
theorem GN (w:World) (bp B pb lb base:Nat) (ts:List aD) (l:List yE) (hl:l.length≤8193) (h:bK w bp B ts 0) (hI:GL pb lb base bp w l) (p1:bp<pb) (p2:bp<lb) (p3:pb<base) (p4:lb<base) (p5:pb≠lb) (p6:base≤w.heap.size):
  Calls Tryz.prog 194 #[.pointer (some ⟨pb,0,none⟩), .pointer (some ⟨lb,0,none⟩)] w (dM (GL pb lb base bp) (fun k=>k=bp∨k=lb∨base≤k) bp B 0 w (nJ yG l ts)):=by
 have hlt:=h.lt;obtain⟨Q,hQ⟩:∃Q,nJ yG l ts=Q:=⟨_,rfl⟩
 rw [hQ];have HQ:Hid (aj yG (fun x=>aG (l++[x])) ts=Q):=hid hQ;have HN:=hid (fH w bp B ts 0 h);have HI:=hid hI;have hbx:=bQ hI.1;obtain⟨hb0,vk,Yl,wD⟩:=hI;obtain⟨Ak,ck,rfl,hck,hmk⟩:=wD.shape;have sJ:=hid wD.lt;have HIT:Hid (∀w',Turn (fun k=>k=bp) w w'→w'.heap[pb]? =some (.cells #[.pointer (some ⟨bp,0,none⟩)] 91 (0,0))∧w'.heap[lb]? =some (.cells #[.slice Ak l.length ck] 62 (0,0))∧fu Ew 5 108 w' base (fun j=>base≤j) (.slice Ak l.length ck) l):=hid fun w' t=>⟨ah hb0 t (by omega),ah Yl t (by omega),wD.turn gL t (fun g hg e=>by have:=(wD.lt g hg).1;omega) (fun g _ h e=>by omega)⟩
 clear h hQ hb0 Yl wD;go_enter Tryz.func194,Tryz.ntmps194;go_wp2_with fail;refine(HN.out).mono ?_;rintro e w1 h1;rcases hq:nameP ts with g | ⟨s,r1⟩
 ·obtain⟨rfl,tn,bn⟩:=h1.bM hq;have HB:=hid (show Turn (fun k=>k=bp∨k=lb∨base≤k) w _ from tn.mono fun _ _ h=> .inl h);have nk:=hid bn;have dG:=hid (HQ.out.symm.trans (qJ hq));clear h1 tn bn hq;go_wp2_with fail;exact⟨rfl,dM.fail dG.out HB.out nk.out⟩
 ·obtain⟨v1,rfl,tn,rfl,kn⟩:=h1.aL hq;have hs1:=tn.size;have Rs:=hid (qR w1 (.cells #[sv s, .int .i64 0, .string ⟨#[]⟩, .slice none 0 0, .slice none 0 0] 108));have jP:=hid (kn.below (new1 w1 (.cells #[sv s, .int .i64 0, .string ⟨#[]⟩, .slice none 0 0, .slice none 0 0] 108)));have abN:=hid (aA tn (Turn.alloc (fun k=>k=bp) w1 (.cells #[sv s, .int .i64 0, .string ⟨#[]⟩, .slice none 0 0, .slice none 0 0] 108)));have HH:=hid (jr (w1.alloc (.cells #[sv s, .int .i64 0, .string ⟨#[]⟩, .slice none 0 0, .slice none 0 0] 108)) bp B r1 0 jP.out [60,58]);have lq:Hid (aj (aj (bY [60,58]) (fun b=>if b then aj (bR 100).typ fun t=>aG (⟨s,t⟩:yE)else aG ⟨s,mX⟩)) (fun x=>aG (l++[x])) r1=Q):=hid ((gD hq).symm.trans HQ.out);have Ko:=bQ (HIT.out _ tn).1;have hpl:=block_lt (HIT.out _ tn).1;clear h1 tn kn hq hbx;go_wp2_with fail;refine(HH.out).mono ?_;rintro e w2 h2;rcases hq:bY [60,58] r1 with g | ⟨b,r2⟩
  ·exact(gJ hq).elim
  ·obtain⟨v2,rfl,tn,rfl,kn⟩:=h2.aL hq;have hs2:=tn.size;simp at hs2;have HT2:=hid (aA abN.out tn);have hv2:=ah Rs.out tn (by omega);have HV2:=hid hv2;have iR:=hid kn;have jO:=hid hq;have TA:=bQ (HIT.out _ HT2.out).1;have abP:=bQ (HIT.out _ HT2.out).2.1;have abQ:=block_lt (HIT.out _ HT2.out).1;have Ym:=block_lt (HIT.out _ HT2.out).2.1;obtain⟨m0,m1,m2,m3,m4,mz⟩:=cells5 hv2;clear h2 tn kn hq hv2 Ko hpl;cases b
   ·have gQ:Hid (Pr.good (l++[(⟨s,mX⟩:yE)]) r2=Q):=hid ((gD jO.out).symm.trans lq.out);obtain⟨hb6,Nc,Nf⟩:=HIT.out _ HT2.out;obtain⟨ys,hy,hr⟩:=Nf;have hyl:ys.length=l.length*5:=by have:=hy.1;simpa using this
    have HY:=hid hy;have HR:=hid hr;have I8:=hid Nc;have HB6:=hid hb6;have hsl:=fU w2 #[sv s, .int .i64 0, .string ⟨#[]⟩, .slice none 0 0, .slice none 0 0] 108 5 1 rfl (by decide);have HSL:=hid hsl;clear hy hr Nc hb6 hsl;go_wp2_with (at_builtin;go_must (refine gq rfl (.tmp 15) (.tmp 17) _ rfl base Sj _ _ rfl rfl (HY.out.alloc (.cells #[sv s, .int .i64 0, .string ⟨#[]⟩, .slice none 0 0, .slice none 0 0] 108)) HSL.out (Nb s 0 [] none none 0 0 0 0) (by simp [maxLen];omega) (by simp;omega) (by simp;omega) (fun v9 w9 n9 eY qj jL=> ?_));obtain⟨A9,c9,rfl, _, _⟩:=iy eY;have qp:=hid eY;have K3:=hid qj;have y8:=hid jL;have GQ:=ah I8.out ((Turn.alloc (fun j=>(Value.slice Ak l.length ck).ownBlock=some j) _ (.cells #[sv s, .int .i64 0, .string ⟨#[]⟩, .slice none 0 0, .slice none 0 0] 108)).trans (Turn.bA qj (F:=fun j=>(Value.slice Ak l.length ck).ownBlock=some j) (fun _ h=>h)) (fun _ _ h=>h)) (fun e=>by have:=(sJ.out _ e).1;omega);have ZI:=bQ GQ;have OL:=bg GQ 0;clear eY qj jL GQ);obtain⟨uy,hn9,t9⟩:=uN gL HY.out HR.out (x:=(⟨s,mX⟩:yE)) ⟨_,rfl,nK _ _ 0 []⟩ K3.out y8.out qp.out (by omega);have hlo:=sJ.out;have tl:=ak w9 lb 0 (.slice A9 n9 c9);have pF:Turn (fun k=>k=bp∨k=lb∨base≤k) w (w9.setCell ⟨lb,0,none⟩ (.slice A9 n9 c9)):=((HT2.out.mono (G:=fun k=>k=bp∨k=lb∨base≤k) (fun _ _ h=> .inl h)).trans t9 (fun i hi e=> .inr (.inr (hlo i e).1))).trans tl (fun i hi e=> .inr (.inl e));go_end0
    exact dM.done gQ.out.symm pF ⟨ah (ah HB6.out t9 (fun e=>by have:=(hlo _ e).1;omega)) tl (by omega), _,heap_setCell_same _ _ 0 _ _ _ (ah I8.out t9 (fun e=>by have:=(hlo _ e).1;omega)),uy.turn gL tl (fun g hg e=>by have:=(uy.lt g hg).1;omega) (fun g _ hg e=>by omega)⟩ ((iR.out.turn t9 (fun e=>by have:=(hlo _ e).1;omega) (fun k hk e=>by have:=(hlo _ e).1;have:=iR.out.1;omega)).turn tl (by omega) (fun k hk e=>by have:=iR.out.1;omega))
   ·have gQ:Hid (aj (aj (bR 100).typ (fun t=>aG (⟨s,t⟩:yE))) (fun x=>aG (l++[x])) r2=Q):=hid ((gD jO.out).symm.trans lq.out);have HP:=hid (I6 w2 bp B r2 iR.out);go_wp2_with fail;refine(HP.out).mono ?_;rintro e w3 h5;rcases hq:(bR 100).typ r2 with g | ⟨x,r3⟩
    ·obtain⟨rfl,tn,bn⟩:=h5.bM hq;have HB:=hid (show Turn (fun k=>k=bp∨k=lb∨base≤k) w _ from(aA HT2.out tn).mono fun _ _ h=> .inl h);have nk:=hid bn;have dG:=hid (gQ.out.symm.trans (qJ hq));clear h5 tn bn hq;go_wp2_with fail;exact⟨rfl,dM.fail dG.out HB.out nk.out⟩
    ·obtain⟨v3,rfl,tn,⟨z3,rfl,hz⟩,kn⟩:=h5.aL hq;obtain⟨k3,s3,UO,n13,c13,UQ,n23,c23,rfl⟩:=hz.shape';have hs3:=tn.size;have hv3:=ah HV2.out tn (by omega);clear m0 m1 m2 m3 m4 mz TA abP abQ Ym;obtain⟨m0,m1,m2,m3,m4,mz⟩:=cells5 hv3;have HT3:=hid (aA HT2.out tn);have t4:=(((ak w3 w1.heap.size 1 (.int .i64 k3)).trans (ak _ w1.heap.size 2 (sv s3)) (fun _ _ h=>h)).trans (ak _ w1.heap.size 3 (.slice UO n13 c13)) (fun _ _ h=>h)).trans (ak _ w1.heap.size 4 (.slice UQ n23 c23)) (fun _ _ h=>h);have HV4:=hid (heap_setCell_same _ _ 4 _ _ (.slice UQ n23 c23) (heap_setCell_same _ _ 3 _ _ (.slice UO n13 c13) (heap_setCell_same _ _ 2 _ _ (sv s3) (heap_setCell_same _ _ 1 _ _ (.int .i64 k3) hv3))));have yZ:=hid ((hz.iv.turn t4 (fun g _ h e=>by have:=h.1;omega)).mono (G:=fun j=>w2.heap.size≤j) (fun g _ h=>h.1));have agf:=bQ (HIT.out _ HT3.out).2.1;have agh:=block_lt (HIT.out _ HT3.out).2.1;have agi:=bg (HIT.out _ HT3.out).2.1 0;have fP:=hid (HT3.out.trans t4 (fun i hi e=>by omega));have jH:=hid (kn.turn t4 (by omega) (fun k hk e=>by have:=iR.out.1;omega));have fV:Hid (Pr.good (l++[(⟨s,x⟩:yE)]) r3=Q):=hid ((gD hq).symm.trans gQ.out);have hne1:¬w1.heap.size=lb:=by omega
     have hne2:¬lb=w1.heap.size:=by omega
     clear h5 tn hz kn hq hv3 t4;obtain⟨hb6,Nc,Nf⟩:=HIT.out _ fP.out;obtain⟨ys,hy,hr⟩:=Nf;have hyl:ys.length=l.length*5:=by have:=hy.1;simpa using this
     have HY:=hid hy;have HR:=hid hr;have I8:=hid Nc;have HB6:=hid hb6;have hsl:=fU ((((w3.setCell ⟨w1.heap.size,1,none⟩ (.int .i64 k3)).setCell ⟨w1.heap.size,2,none⟩ (sv s3)).setCell ⟨w1.heap.size,3,none⟩ (.slice UO n13 c13)).setCell ⟨w1.heap.size,4,none⟩ (.slice UQ n23 c23)) #[sv s, .int .i64 k3,sv s3, .slice UO n13 c13, .slice UQ n23 c23] 108 5 1 rfl (by decide);rw [show(((((w3.setCell ⟨w1.heap.size,1,none⟩ (.int .i64 k3)).setCell ⟨w1.heap.size,2,none⟩ (sv s3)).setCell ⟨w1.heap.size,3,none⟩ (.slice UO n13 c13)).setCell ⟨w1.heap.size,4,none⟩ (.slice UQ n23 c23))).heap.size=w3.heap.size by simp]at hsl;have HSL:=hid hsl;clear hy hr Nc hb6 hsl;go_wp2_with (at_builtin;go_must (refine gq rfl (.tmp 15) (.tmp 17) _ rfl base Sj _ _ rfl rfl (HY.out.alloc (.cells #[sv s, .int .i64 k3,sv s3, .slice UO n13 c13, .slice UQ n23 c23] 108)) HSL.out (Nb s k3 s3 _ _ _ _ _ _) (by simp [maxLen];omega) (by simp;omega) (by simp;omega) (fun v9 w9 n9 eY qj jL=> ?_));obtain⟨A9,c9,rfl, _, _⟩:=iy eY;have qp:=hid eY;have K3:=hid qj;have y8:=hid jL;have GQ:=ah I8.out ((Turn.alloc (fun j=>(Value.slice Ak l.length ck).ownBlock=some j) _ (.cells #[sv s, .int .i64 k3,sv s3, .slice UO n13 c13, .slice UQ n23 c23] 108)).trans (Turn.bA qj (F:=fun j=>(Value.slice Ak l.length ck).ownBlock=some j) (fun _ h=>h)) (fun _ _ h=>h)) (fun e=>by have:=(sJ.out _ e).1;omega);have ZI:=bQ GQ;have OL:=bg GQ 0;clear eY qj jL GQ);obtain⟨uy,hn9,t9⟩:=uN gL HY.out HR.out (x:=(⟨s,x⟩:yE)) ⟨_,rfl,yZ.out.mono (fun g _ h=>⟨fun e=>by have:=(sJ.out _ e).2;omega,by omega⟩)⟩ K3.out y8.out qp.out (by omega);have hlo:=sJ.out;have tl:=ak w9 lb 0 (.slice A9 n9 c9)
     have pF:Turn (fun k=>k=bp∨k=lb∨base≤k) w (w9.setCell ⟨lb,0,none⟩ (.slice A9 n9 c9)):=((fP.out.mono (G:=fun k=>k=bp∨k=lb∨base≤k) (fun _ _ h=> .inl h)).trans t9 (fun i hi e=> .inr (.inr (hlo i e).1))).trans tl (fun i hi e=> .inr (.inl e));go_end0;exact dM.done fV.out.symm pF ⟨ah (ah HB6.out t9 (fun e=>by have:=(hlo _ e).1;omega)) tl (by omega), _,heap_setCell_same _ _ 0 _ _ _ (ah I8.out t9 (fun e=>by have:=(hlo _ e).1;omega)),uy.turn gL tl (fun g hg e=>by have:=(uy.lt g hg).1;omega) (fun g _ hg e=>by omega)⟩ ((jH.out.turn t9 (fun e=>by have:=(hlo _ e).1;omega) (fun k hk e=>by have:=(hlo _ e).1;have:=jH.out.1;omega)).turn tl (by omega) (fun k hk e=>by have:=jH.out.1;omega))
def Yn (base:Nat) (w:World) (v:Value) (l:List yE):Prop:=∃xs,dB w (fun j=>base≤j) 5 v xs∧eD (Ew w (fun j=>base≤j)) 5 xs l
theorem Kq (w:World) (bp B:Nat) (ts:List aD) (h:bK w bp B ts 0):Calls Tryz.prog 153 #[.pointer (some ⟨bp,0,none⟩)] w (aF (Yn w.heap.size) bp B 0 w (qc ts)):=by
 have hlt:=h.lt;obtain⟨Q,hQ⟩:∃Q,qc ts=Q:=⟨_,rfl⟩
 rw [hQ];have HQ:Hid (aj (bY [91]) (fun b=>if b then aj (iB yG) fun l=>aj (aI [93]) fun _=>aG l else aG []) ts=Q):=hid hQ;have HH:=hid (jr ((w.alloc (.cells #[.pointer (some ⟨bp,0,none⟩)] 91)).alloc (.cells #[.slice none 0 0] 62)) bp B ts 0 (h.below (new2 _ _ _)) [91]);clear h hQ;go_enter Tryz.func153,Tryz.ntmps153;go_wp2_with fail;refine(HH.out).mono ?_;rintro e w1 h1;rcases hq:bY [91] ts with g | ⟨b,r1⟩
 ·exact(gJ hq).elim
 ·obtain⟨v1,rfl,tn,rfl,kn⟩:=h1.aL hq;obtain⟨tm,hs1,Ko,Yo⟩:=gG tn;have HT1:=hid tm;have jP:=hid kn;have hb1:=Ko (by omega);have hc1:=bQ hb1;have HI1:Hid (GL w.heap.size (w.heap.size+1) (w.heap.size+2) bp w1 []):=hid ⟨hb1, _,Yo (by omega),fu.nil _ _ _ _ _ _⟩;have lq:=hid hq;clear h1 tn tm kn Ko Yo hq;cases b
  ·have jO:Hid (Pr.good [] r1=Q):=hid ((au lq.out).symm.trans HQ.out);go_wp2_with fail;go_ret;exact aF.done jO.out.symm HT1.out ⟨[],dB.nil _ _ _, .nil⟩ jP.out
  ·have jO:Hid (aj (iB yG) (fun l=>aj (aI [93]) fun _=>aG l) r1=Q):=hid ((au lq.out).symm.trans HQ.out);have OH:∀(fn:Fn) (first cap:Array Value) (w:World),(Instr.makeFunc fn first cap).run Tryz.prog w= .ok (.func fn first cap) w:=fun _ _ _ _=>rfl
   have L9:=hid (jE yG Sf.var 194 #[.pointer (some ⟨w.heap.size,0,none⟩), .pointer (some ⟨w.heap.size+1,0,none⟩)] (GL w.heap.size (w.heap.size+1) (w.heap.size+2) bp) (fun k=>k=bp∨k=w.heap.size+1∨w.heap.size+2≤k) 0 w1 bp B r1 (.inl rfl)
    (fun a b l tn h=>h.turn tn (by omega) (by omega) (fun j hj _ e=>by omega)) (fun g h=> .inr (.inr (by omega)))
    (fun w1 r l hl hw hi hk=>GN w1 bp B _ _ _ r l hl hk hi (by omega) (by omega) (by omega) (by omega) (by omega) (by omega)) (fun _=>by kernel_rfl) jP.out HI1.out)
   go_wp2_with fail;refine(L9.out).mono ?_;rintro e w2 h2;rcases hq:iB yG r1 with g | ⟨l,r2⟩
   ·obtain⟨rfl,tn,bn⟩:=h2.bM hq;have HB:=hid (dX.mk2 (HT1.out.trans tn (fun i hi e=>by rcases e with e | e | e <;> omega)) bn);have dG:=hid (jO.out.symm.trans (aB hq));clear h2 tn bn hq;go_wp2_with fail;exact⟨rfl,aF.fail dG.out HB.out⟩
   ·obtain⟨rfl,tn,hI2,kn⟩:=h2.aL hq;have hs2:=tn.size;have HT2:=hid (HT1.out.trans tn (fun i hi e=>by rcases e with e | e | e <;> omega));have HI2:=hid hI2;have hc2:=bQ hI2.1;have gQ:Hid (aj (aI [93]) (fun _=>aG l) r2=Q):=hid ((au hq).symm.trans jO.out);have HN:=hid (eG w2 bp B r2 0 kn [93] 9 w2.heap.size);clear h2 tn hI2 kn hq hc1 hb1;go_wp2_with fail;refine(HN.out).mono ?_;rintro e w3 h3;rcases hq:aI [93] r2 with g | ⟨u,r3⟩
    ·obtain⟨rfl,tn,bn⟩:=h3.bM hq;have HB:=hid (dX.mk2 (aA HT2.out tn) bn);have dG:=hid (gQ.out.symm.trans (aB hq));clear h3 tn bn hq;go_wp2_with fail;exact⟨rfl,aF.fail dG.out HB.out⟩
    ·obtain⟨v3,rfl,tn, -,kn⟩:=h3.aL hq;have HT3:=hid (aA HT2.out tn);have iM:=hid kn;have fV:Hid (Pr.good l r3=Q):=hid ((au hq).symm.trans gQ.out);obtain⟨_,v,hl3,hr3⟩:=HI2.out.turn tn (by omega) (by omega) (fun j hj _ e=>by omega);have HR3:=hid hr3;have hc3:=bQ hl3;clear h3 tn kn hq hr3 hl3;go_wp2_with fail;go_ret;obtain⟨xs,q1,q2⟩:=HR3.out.sl gL;exact aF.done fV.out.symm HT3.out ⟨xs,q1.mono (fun g _ h=>by rcases h with h | h <;> omega),dD gL (fun g _ h=>by rcases h with h | h <;> omega) q2⟩ iM.out
theorem Ng (w:World) (s:Bt) (hX:jD w) (hs:s.length≤281474976710656):Calls Tryz.prog 77 #[sv s] w fun e w'=>e= .returned (.bool (dS s))∧Below w.heap.size w w':=by
 have hsz:=bP s;cases s with
 | nil=>
  have ha:dS []=false:=rfl;rw [ha];go_enter Tryz.func77,Tryz.ntmps77;go_wp2_with fail;go_ret;exact⟨rfl,Below.refl _ _⟩
 | cons c r=>
  have hix:(ByteArray.mk (c :: r).toArray)[0]'(by rw [bP];simp)=c:=dL (c :: r) 0 (by simp);have hl0:(0:Int)<(r.length:Int)+1:=by omega
  have hnz:((c :: r:Bt)==[])=false:=rfl;have ha:dS (c :: r)=(decide ((c :: r).length≤32) && dI c && decide (cu aY (c :: r)=(c :: r).length) && !decide ((c :: r)∈dN)):=rfl;have dV:=hid (AZ (c :: r) w hs);generalize cu aY (c :: r)=n at*
  by_cases h32:(c :: r).length≤32
  ·have abS:(r.length:Int)+1≤32:=by simp only [List.length_cons]at h32;omega
   rw [decide_eq_true h32,Bool.true_and]at ha;clear h32;cases hl:dI c
   ·rw [hl]at ha;simp only [Bool.false_and]at ha;rw [ha];clear ha;go_enter Tryz.func77,Tryz.ntmps77;go_wp2_with fail;refine(ig c _).mono ?_;rintro e w1 ⟨rfl,rfl⟩;rw [hl];go_wp2_with fail;go_ret;exact⟨rfl,Below.refl _ _⟩
   ·rw [hl,Bool.true_and]at ha;by_cases hn:n=(c :: r).length
    ·rw [decide_eq_true hn,Bool.true_and]at ha;have hn':(n:Int)=(r.length:Int)+1:=by rw [hn];simp
     clear hn;rw [ha];clear ha;generalize hq:decide ((c :: r)∈dN)=q;go_enter Tryz.func77,Tryz.ntmps77;go_wp2_with fail;refine(ig c _).mono ?_;rintro e w1 ⟨rfl,rfl⟩;rw [hl];go_wp2_with fail;refine dV.out.mono ?_;rintro e w2 ⟨rfl,rfl⟩;go_wp2_with fail;refine(vo _ hX).mono ?_;rintro e w3 ⟨v3,rfl,abT,hb3⟩;go_wp2_with fail;refine(lg v3 dN (c :: r) _ abT).mono ?_;rintro e w4 ⟨rfl,rfl⟩;rw [hq];go_wp2_with fail;go_ret;exact⟨rfl,hb3⟩
    ·rw [decide_eq_false hn,Bool.false_and]at ha;have hn':¬(n:Int)=(r.length:Int)+1:=by intro h;apply hn;simp;omega
     clear hn;rw [ha];clear ha;go_enter Tryz.func77,Tryz.ntmps77;go_wp2_with fail;refine(ig c _).mono ?_;rintro e w1 ⟨rfl,rfl⟩;rw [hl];go_wp2_with fail;refine dV.out.mono ?_;rintro e w2 ⟨rfl,rfl⟩;go_wp2_with fail;go_ret;exact⟨rfl,Below.refl _ _⟩
  ·have abS:¬(r.length:Int)+1≤32:=by simp only [List.length_cons]at h32;omega
   rw [decide_eq_false h32]at ha;simp only [Bool.false_and]at ha;clear h32;rw [ha];clear ha;go_enter Tryz.func77,Tryz.ntmps77;go_wp2_with fail;go_ret;exact⟨rfl,Below.refl _ _⟩
theorem jG (c:UInt8) (w:World):Calls Tryz.prog 127 #[.int .u8 (c.toNat:Int)] w fun e w'=>e= .returned (.bool (dI c))∧w'=w:=by
 unfold dI;generalize c.toNat=n;go_enter Tryz.func127,Tryz.ntmps127;go_wp2_with fail
 all_goals
  go_ret;refine⟨?_,rfl⟩;congr 2
  try simp
  try omega
  try (rw [Bool.eq_iff_iff];simp only [Bool.or_eq_true,Bool.and_eq_true,decide_eq_true_eq,beq_iff_eq];omega)
theorem jX (c:UInt8) (w:World):Calls Tryz.prog 126 #[.int .u8 (c.toNat:Int)] w fun e w'=>e= .returned (.bool (bE c))∧w'=w:=by
 unfold bE;generalize c.toNat=n;go_enter Tryz.func126,Tryz.ntmps126;go_wp2_with fail
 all_goals
  go_ret;refine⟨?_,rfl⟩;congr 2
  try simp
  try omega
  try (rw [Bool.eq_iff_iff];simp only [Bool.or_eq_true,Bool.and_eq_true,decide_eq_true_eq,beq_iff_eq];omega)
theorem GR (w:World):Calls Tryz.prog 178 #[] w fun e w'=>∃v,e= .returned v∧Ss w' w'.heap.size v dN∧Below w.heap.size w w':=by
 have hss:Ss (w.alloc (.cells (lG dN).toArray 9)) (w.alloc (.cells (lG dN).toArray 9)).heap.size (.slice (some ⟨w.heap.size,0,none⟩) 25 25) dN:=by
  have:=fU w (lG dN).toArray 9 1 25 (by simp [eH];rfl) (by decide);rw [World.size_alloc];simpa [Ss]using this
 have hb:Below w.heap.size w (w.alloc (.cells (lG dN).toArray 9)):=(Below.refl _ _).alloc (Nat.le_refl _) _;go_enter Tryz.func178,Tryz.ntmps178;go_wp2_with fail;go_ret;exact⟨_,rfl,hss,hb⟩
theorem Bo (w:World) (x:Bt):Calls Tryz.prog 125 #[sv x] w fun e w'=>e= .returned (.bool (decide (x∈dN)))∧Below w.heap.size w w':=by
 obtain⟨l,hl⟩:∃l,l=dN:=⟨_,rfl⟩
 rw [←hl];go_enter Tryz.func125,Tryz.ntmps125;go_wp2_with fail;refine(GR _).mono ?_;rintro e w1 ⟨v,rfl,hss,hb⟩;rw [←hl]at hss;clear hl;obtain⟨A,c,rfl,hn,hc,hx⟩:=hss.open_;unfold maxLen at hc;go_wp2_with fail
 go_loop [4] (fun v4=>∃k:Nat,v4= .int .i64 k∧k≤l.length∧x ∉ l.take k) (fun v4=>l.length - (intOf v4).toNat)
 case atStart=>exact⟨0,rfl,by omega,by simp⟩
 case round=>
  obtain⟨k,rfl,hk,hnot⟩:=hrel;by_cases hlt:k<l.length
  ·obtain⟨b,o,rfl,hb2,hcell⟩:=hx (by omega);have d1:=hcell k hlt;have e1:l[k]=x→x∈l:=fun h=>by rw [←h];exact List.getElem_mem hlt
   have e2:¬l[k]=x→x ∉ l.take (k+1):=fun h hh=>by
    rw [List.take_succ_eq_append_getElem hlt,List.mem_append]at hh;rcases hh with hh | hh
    ·exact hnot hh
    ·simp at hh;exact h hh.symm
   clear hcell hx hss hnot;generalize l[k]=X at*
   by_cases hX:X=x
   ·have e3:=e1 hX;have hq:(X==x)=true:=by rw [beq_iff_eq];exact hX
    clear hX e1 e2;go_wp2_with fail;go_ret;exact⟨by simp [e3],hb⟩
   ·have e3:=e2 hX;have hq:(X==x)=false:=by rw [beq_eq_false_iff_ne];exact hX
    clear hX e1 e2;go_wp2_with fail
    go_round
    case rel=>exact⟨k+1,rfl,by omega,e3⟩
    case measure=>simp [intOf];omega
  ·obtain rfl:k=l.length:=by omega
   rw [List.take_length]at hnot;go_wp2_with fail;go_ret;exact⟨by simp [hnot],hb⟩
theorem Cm (c:UInt8):dI c=true→bE c=false:=by
 unfold dI bE;intro h;simp only [Bool.or_eq_true,Bool.and_eq_true,decide_eq_true_eq]at h;rw [Bool.and_eq_false_iff,decide_eq_false_iff_not,decide_eq_false_iff_not];omega
theorem zm (q:Bool) (s:Bt):cZ q (s.drop s.length)=0:=by
 rw [List.drop_length];cases q <;> rfl
theorem Bp {s:Bt} {i:Nat} (h:i<s.length):
  (bJ s[i]=true→cZ false (s.drop i)=1+cZ false (s.drop (i+1)))∧
  (s[i].toNat=35→cZ false (s.drop i)=cZ true (s.drop i))∧
  (s[i].toNat=10→cZ true (s.drop i)=cZ false (s.drop i))∧
  (s[i].toNat≠10→cZ true (s.drop i)=1+cZ true (s.drop (i+1)))∧
  (bJ s[i]=false→s[i].toNat≠35→cZ false (s.drop i)=0):=by
 rw [List.drop_eq_getElem_cons h];generalize s[i]=c;generalize s.drop (i+1)=r;refine⟨fun h=> ?_,fun h=> ?_,fun h=> ?_,fun h=> ?_,fun h1 h2=> ?_⟩
 ·rw [cZ,if_pos h];omega
 ·have hb:¬bJ c=true:=by unfold bJ;simp;omega
  rw [cZ,cZ,if_neg hb,if_pos h,if_neg (by omega)]
 ·have hb:bJ c=true:=by unfold bJ;simp;omega
  rw [cZ,cZ,if_pos hb,if_pos h]
 ·rw [cZ,if_neg h];omega
 ·rw [cZ,if_neg (by simp [h1]),if_neg h2]
theorem zn {s:Bt} {i:Nat} (h:i<s.length) (out:Bt) (j:Nat):
  (s[i].toNat=34→dn false out j (s.drop i)=some (out,j+2))∧
  (s[i].toNat<32→dn false out j (s.drop i)=none)∧
  (32≤s[i].toNat→s[i].toNat≠34→s[i].toNat≠92→dn false out j (s.drop i)=dn false (out++[s[i]]) (j+1) (s.drop (i+1)))∧
  (s[i].toNat=92→dn false out j (s.drop i)=dn true out (j+1) (s.drop (i+1)))∧
  (∀e,pW s[i]=some e→dn true out j (s.drop i)=dn false (out++[e]) (j+1) (s.drop (i+1)))∧
  (pW s[i]=none→dn true out j (s.drop i)=none):=by
 rw [List.drop_eq_getElem_cons h];generalize s[i]=c;generalize s.drop (i+1)=r;refine⟨fun h=> ?_,fun h=> ?_,fun h1 h2 h3=> ?_,fun h=> ?_,fun e he=> ?_,fun he=> ?_⟩
 ·rw [dn,if_neg (by omega),if_neg (by simp),if_neg (by omega),if_pos h]
 ·rw [dn,if_pos h]
 ·rw [dn,if_neg (by omega),if_neg (by simp),if_neg h3,if_neg h2]
 ·rw [dn,if_neg (by omega),if_neg (by simp),if_pos h]
 ·have h32:¬c.toNat<32:=by
   unfold pW at he;intro hl;rw [if_neg (by omega),if_neg (by omega),if_neg (by omega),if_neg (by omega)]at he;cases he
  rw [dn,if_neg h32,if_pos rfl,he]
 ·rw [dn,if_pos rfl,he];split <;> rfl
theorem Bq (q:Bool) (out:Bt) (j:Nat) (s:Bt):dn q out j (s.drop s.length)=none:=by
 rw [List.drop_length];cases q <;> rfl
theorem GU (c:UInt8):(c.toNat=92∧pW c=some 92)∨(c.toNat=34∧pW c=some 34)∨(c.toNat=110∧pW c=some 10)∨(c.toNat=116∧pW c=some 9)∨
  ((c.toNat≠92∧c.toNat≠34∧c.toNat≠110∧c.toNat≠116)∧pW c=none):=by
 unfold pW;by_cases h1:c.toNat=92
 ·exact .inl ⟨h1,by rw [if_pos h1]⟩
 ·by_cases h2:c.toNat=34
  ·exact .inr (.inl ⟨h2,by rw [if_neg h1,if_pos h2]⟩)
  ·by_cases h3:c.toNat=110
   ·exact .inr (.inr (.inl ⟨h3,by rw [if_neg h1,if_neg h2,if_pos h3]⟩))
   ·by_cases h4:c.toNat=116
    ·exact .inr (.inr (.inr (.inl ⟨h4,by rw [if_neg h1,if_neg h2,if_neg h3,if_pos h4]⟩)))
    ·exact .inr (.inr (.inr (.inr ⟨⟨h1,h2,h3,h4⟩,by rw [if_neg h1,if_neg h2,if_neg h3,if_neg h4]⟩)))
theorem yj (p:UInt8→Bool) (s:Bt) (k:Nat) (hk:k≤s.length) (h:∀j (hj:j<s.length),j<k→p s[j]=true) (hn:k=s.length∨∃hk:k<s.length,p s[k]=false):cu p s=k:=by
 rcases hn with rfl | ⟨hk,hf⟩
 ·exact pU (fun j hj=>h j hj hj)
 ·exact sW hk (fun j hj=>h j (by omega) hj) hf
theorem rC {α:Type} {l:List α} {x:α} {k:Nat} (hk:k<l.length) (h:x ∉ l.take k) (hx:x≠l[k]):x ∉ l.take (k+1):=by
 intro hm;rw [List.take_succ_eq_append_getElem hk,List.mem_append]at hm;rcases hm with hm | hm
 ·exact h hm
 ·exact hx (by simpa using hm)
def zo (s:Bt):Prop:=∀c∈s,c.toNat≠10
theorem zq {p:UInt8→Bool} (hp:∀c,p c=true→c.toNat≠10) (s:Bt):zo (s.take (cu p s)):=by
 induction s with
 | nil=>intro c hc;simp at hc
 | cons a s ih=>
  rw [fD];by_cases h:p a=true
  ·rw [if_pos h,List.take_succ_cons];intro c hc;rcases List.mem_cons.1 hc with rfl | hc
   ·exact hp _ h
   ·exact ih c hc
  ·rw [if_neg h];intro c hc;simp at hc
theorem Ag {back:Bool} {out:Bt} {i:Nat} {s t:Bt} {n:Nat} (h:dn back out i s=some (t,n)):zo (s.take (n - i - 1)):=by
 induction s generalizing back out i with
 | nil=>cases back <;> simp [dn]at h
 | cons c s ih=>
  have hle:=nu h;simp only at hle;rw [dn]at h;obtain⟨k,hk⟩:∃k,n - i - 1=k+1:=⟨n - i - 2,by omega⟩
  have hk':n - (i+1) - 1=k:=by omega
  rw [hk,List.take_succ_cons];split at h
  ·cases h
  ·rename_i h32
   have more:(∀o b,dn b o (i+1) s=some (t,n)→zo (c :: s.take k)):=by
    intro o b hq x hx;rcases List.mem_cons.1 hx with rfl | hx
    ·omega
    ·have:=ih hq;rw [hk']at this;exact this x hx
   cases back with
   | true=>
    rw [if_pos rfl]at h;split at h
    ·exact more _ _ h
    ·cases h
   | false=>
    rw [if_neg (by simp)]at h;split at h
    ·exact more _ _ h
    ·split at h
     ·injection h with h;simp only [Prod.mk.injEq]at h;obtain⟨_,rfl⟩:=h;obtain rfl:k=0:=by omega
      intro x hx;simp at hx;subst hx;omega
     ·exact more _ _ h
theorem Ah (c:UInt8) (h:aY c=true):c.toNat≠10:=by
 unfold aY dI bE at h;simp only [Bool.or_eq_true,Bool.and_eq_true,decide_eq_true_eq]at h;omega
theorem Cn (c:UInt8) (h:bE c=true):c.toNat≠10:=by
 unfold bE at h;simp only [Bool.and_eq_true,decide_eq_true_eq]at h;omega
theorem Co {s:Bt} {kd:Int} {t:Bt} {n:Nat} (h:dJ s= .inr (kd,t,n)):zo (s.take n):=by
 cases s with
 | nil=>simp [dJ]at h
 | cons c r=>
  have hi:=zq Ah (c :: r);have hd:=zq Cn (c :: r);rw [dJ]at h;split at h
  ·repeat' split at h
   all_goals first | cases h;done | (injection h with h;simp only [Prod.mk.injEq]at h;rw [←h.2.2];exact hi)
  ·split at h
   ·repeat' split at h
    all_goals first | cases h;done | (injection h with h;simp only [Prod.mk.injEq]at h;rw [←h.2.2];exact hd)
   ·split at h
    ·rename_i vX
     split at h
     ·cases h
     ·rename_i t' n' hq
      split at h
      ·cases h
      ·injection h with h;simp only [Prod.mk.injEq]at h;obtain⟨_, _,rfl⟩:=h;unfold jw at hq;rw [List.drop_succ_cons,List.drop_zero]at hq;have hle:=nu hq;simp only at hle;have hn:=Ag hq;obtain⟨m,rfl⟩:∃m,n'=m+1:=⟨n' - 1,by omega⟩
       rw [List.take_succ_cons];intro x hx;rcases List.mem_cons.1 hx with rfl | hx
       ·omega
       ·exact hn x (by simpa using hx)
    ·split at h
     ·rename_i hp
      injection h with h;simp only [Prod.mk.injEq]at h;rw [←h.2.2];have hall:(bN.all fun m=>m.all fun c=>decide (c.toNat≠10))=true:=by decide
      rw [List.all_eq_true]at hall;have:=hall _ hp;rw [List.all_eq_true]at this;intro x hx;exact of_decide_eq_true (this x hx)
     ·split at h
      ·rename_i hs
       injection h with h;simp only [Prod.mk.injEq]at h;rw [←h.2.2];have hall:(dO.all fun c=>decide (c.toNat≠10))=true:=by decide
       rw [List.all_eq_true]at hall;intro x hx;simp at hx;subst hx;exact of_decide_eq_true (hall _ hs)
      ·cases h
theorem Ey (p:Nat ×Nat) {s:Bt} (h:zo s):eP p s=(p.1,p.2+s.length):=by
 induction s generalizing p with
 | nil=>rfl
 | cons c s ih=>
  have h0:eP p (c :: s)=eP (mV p c) s:=rfl;rw [h0,ih _ (fun x hx=>h x (by simp [hx]))];unfold mV;rw [if_neg (h c (by simp))];simp only [List.length_cons,Prod.mk.injEq,true_and];omega
theorem Ez:∀(f:Nat) (s:Bt) (p:Nat ×Nat) (out:List aD),out.length≤8192→(kH f s p out).1.length≤8193
 | 0,s,p,out,h=>by simp [kH]
 | f+1,s,p,out,h=>by
  rw [kH];split
  ·simp;omega
  ·split
   ·simp
   ·split
    ·simp
    ·rename_i h8
     exact Ez f _ _ _ (by simp;omega)
theorem Nh (s:Bt):(eZ s).1.length≤8193:=by
 unfold eZ;split
 ·simp
 ·exact Ez _ _ _ _ (by simp)
end Go.Proofs.YtfgjkmipfikooaaGreatDoor
