/- UN5, US, HK, HL, YH, YK, YS, ZA, ZB, ZC, RW, RX, OC -/
import Derived.Test.YtfgjkmipfikooaaGreatDoorTTQ
import Derived.Test.YtfgjkmipfikooaaGreatDoorTT05
import Derived.Test.YtfgjkmipfikooaaGreatDoorTT20
import Derived.Test.YtfgjkmipfikooaaGreatDoorTT16
import Derived.Test.YtfgjkmipfikooaaGreatDoorTT18
import Derived.Test.YtfgjkmipfikooaaGreatDoorTT19
import Derived.Test.YtfgjkmipfikooaaGreatDoorTT04
import Derived.Test.YtfgjkmipfikooaaGreatDoorTT01
import Derived.Test.YtfgjkmipfikooaaGreatDoorTT02
import Derived.IntWalk
set_option linter.unusedSimpArgs false
set_option linter.unusedVariables false
set_option maxRecDepth 100000
set_option maxHeartbeats 8000000
namespace Go.Proofs.YtfgjkmipfikooaaGreatDoor
open Go.RowKit
theorem Ol (text:Bt) (n li co:Int) (ts:List bT) (ns:List Bt) (ks:List bX) (ih:∀y∈ks,Zd y):Zd (.mk 14 text n li co ts ns ks):=by
 intro w z m hr hok hnd hc hX;have hlen:=zK _ m hnd;obtain⟨q,rfl,Vj,hown,hns,hts,hkk⟩:=BI hnd;rw [zN,Bool.and_eq_true,Bool.and_eq_true,Bool.and_eq_true,Bool.and_eq_true,decide_eq_true_eq,decide_eq_true_eq,decide_eq_true_eq,decide_eq_true_eq]at hown;obtain⟨⟨⟨⟨hn0,hn1⟩,htx⟩,hlo,hhi⟩,hkn,hkd⟩:=hown;have htl:=zJ htx;rw [OW]at hok;obtain⟨ok1,QG,NS,SC,Za,VQ,VR,SH⟩:=hok;obtain⟨A1,c1,A2,c2,A3,c3,xt,xk,rfl,s1,r1,s2,s3,r3⟩:=hr.parts;have l1:=(eF s1).2;have l2:=(eF s2).2;have l3:=(eF s3).2;rw [nC]at hlen ⊢;rw [zI]at hc hlen;have hcT:qC ts≤300000:=by omega
 have hcK:rH ks≤300000:=by omega
 have hdc:ks.length≤300000:=Nat.le_trans (vT ks) hcK;obtain⟨S,hS⟩:∃S,kI ks=S:=⟨_,rfl⟩
 have Om:S.length=ks.length:=by rw [←hS,ni]
 have HSG:Hid (∀(i:Nat) (h:i<ks.length) (h2:i<S.length),S[i]=nC ks[i]):=hid (by
  intro i h h2;subst hS;simp [oq])
 rw [hS]at hlen ⊢;have HKK:=hid (And.intro s3 r3);have Ir:=hid (And.intro s1 r1);have DL:=hid s2;have QF:=hid ih;have Io:=hid (tL.1 SH);have HNK:=hid hkk;have HCK:=hid hcK;have HCT:=hid hcT;have ZA:=hid hts;have BD:=hid hns;have HX:=hid hX;have Fe:=NS;clear hr s1 r1 s2 s3 r3 ih ok1 QG NS SC Za VQ VR SH hkk hts hns hX hS hnd Vj;obtain⟨a,hA⟩:∃a,ts.length=a:=⟨_,rfl⟩
 obtain⟨b,hB⟩:∃b,ns.length=b:=⟨_,rfl⟩
 obtain⟨d,hD⟩:∃d,ks.length=d:=⟨_,rfl⟩
 rw [hA]at l1 Ir hlo hhi;rw [hB]at l2 DL hkn hkd;rw [hD]at l3 HKK hkd hdc Om;rw [hA,hB,hD];have HA:=hid hA;have nk:=hid hB;have HD:=hid hD;have HSL:=hid Om;clear hA hB hD;have hd0:d=2:=by
  have h:(dR 14).kids=2:=rfl;rw [h]at hkd;unfold qD at hkd;rw [if_neg (by decide)]at hkd;omega
 have HD0:=hid hd0;clear hd0 hkd hkn;obtain⟨OB,Vk⟩:∃OB,Obj.cells #[.int .i64 14,sv text, .int .i64 n, .int .i64 li, .int .i64 co, .slice A1 a c1, .slice A2 b c2, .slice A3 d c3] 52 (0,0)=OB:=⟨_,rfl⟩
 obtain⟨W,hW⟩:∃W,(w.alloc (.cells #[.int .i64 14,sv text, .int .i64 n, .int .i64 li, .int .i64 co, .slice A1 a c1, .slice A2 b c2, .slice A3 d c3] 52)).alloc (.cells #[.slice none 0 0] 25)=W:=⟨_,rfl⟩
 have Vl:Hid (zL w W OB (.slice none 0 0) (S.take 0)):=hid (by
  rw [←hW, ←Vk];exact⟨(oU w _ _).2,gI.nil _ _ _,(oU w _ _).1,((Below.refl _ _).alloc (Nat.le_refl _) _).alloc (by simp) _⟩)
 have oK:=hid Vk;have Bw:=hid hW;clear hW Vk;go_enter Tryz.func57,Tryz.ntmps57;go_wp2_with fail;have hW:=Bw.out;rw [hW];clear hW;go_loopw [10] (fun v10 wr=>∃(i:Nat) (v:Value),v10= .int .i64 i∧i≤d∧zL w wr OB v (S.take i)) (fun v10 _=>d - (intOf v10).toNat)
 case atStart=>exact⟨0, _,rfl,by omega,Vl.out⟩
 case round=>
  obtain⟨i,v,rfl,hi_,hat⟩:=hrel;have zO:=hid hat;clear hat;by_cases hlt:i<d
  ·have hil:i<ks.length:=by rw [HD.out];exact hlt
   have hiS:i<S.length:=by rw [HSL.out];exact hlt
   have hbr:=zO.out.below;obtain⟨b2,o2,kk,ss,y2,y3,y4,A5,n5,c5,A6,n6,c6,A7,n7,c7,hA3,hr1,e0,e1,e2,e3,e4,e5,e6,e7⟩:=yu (Sl.more (Sl.below HKK.out.1 hbr) hbr.size) ((HKK.out.2.keep hbr).more hbr.size) hil HD.out.symm;obtain⟨wA,Fg⟩:∃wA,wr.alloc (.cells #[.int .i64 kk, .string ss, .int .i64 y2, .int .i64 y3, .int .i64 y4, .slice A5 n5 c5, .slice A6 n6 c6, .slice A7 n7 c7] 52)=wA:=⟨_,rfl⟩
   have Fh:Below wr.heap.size wr wA:=by rw [←Fg];exact(Below.refl _ _).alloc (Nat.le_refl _) _
   have hsA:wA.heap[wr.heap.size]? =some (.cells #[.int .i64 kk, .string ss, .int .i64 y2, .int .i64 y3, .int .i64 y4, .slice A5 n5 c5, .slice A6 n6 c6, .slice A7 n7 c7] 52 (0,0)):=by rw [←Fg];exact heap_alloc_new wr _
   have HE:=hid (fun w1 (h:Below wA.heap.size wA w1)=>QF.out ks[i] (List.getElem_mem hil) w1 _ q (hr1.far (Nat.le_refl _) (Fh.trans (h.mono Fh.size))) (Io.out _ (List.getElem_mem hil)) (HNK.out _ (List.getElem_mem hil)) (Nat.le_trans (EZ (List.getElem_mem hil)) HCK.out) ((HX.out.below hbr).below (Fh.trans (h.mono Fh.size))));rw [←HSG.out i hil hiS]at HE;have HST:=hid (zF hiS);have VN:Hid (∀g,v.ownBlock=some g→g<wr.heap.size):=hid (fun g hg=>(zO.out.own.lt g hg).2);have HBD:Hid (Below wA.heap.size wA wA.drew):=hid (aJ wA 1);have jY:Hid (Below wr.heap.size wr wA.drew):=hid (Fh.trans (HBD.out.mono Fh.size));have Gi:Hid (wA.drew.heap[wr.heap.size]? =some (.cells #[.int .i64 kk, .string ss, .int .i64 y2, .int .i64 y3, .int .i64 y4, .slice A5 n5 c5, .slice A6 n6 c6, .slice A7 n7 c7] 52 (0,0))):=hid hsA;have gk:=(zO.out.far jY.out).cell;have hA:=hid Fg;obtain⟨Av,nv,cv,rfl⟩:=gM zO.out.own.ss;generalize S[i]=X at*
   generalize ks[i]=kx at*
   clear hbr hr1 Fh hsA hil Fg;subst hA3;go_wp2_with fail;have Fg:=hA.out;rw [Fg];clear Fg e0 e1 e2 e3 e4 e5 e6 e7;refine wp_region_held_drew (S:=fun w'=>w'.heap[wr.heap.size]? =some (.cells #[.int .i64 kk, .string ss, .int .i64 y2, .int .i64 y3, .int .i64 y4, .slice A5 n5 c5, .slice A6 n6 c6, .slice A7 n7 c7] 52 (0,0))) (by kernel_rfl) Gi.out (fun _=> ?_)
   try simp only [Act.put,sq]
   refine wpAnyH_take (i:=1) (v:=(.agg #[.int .i64 kk, .string ss, .int .i64 y2, .int .i64 y3, .int .i64 y4, .slice A5 n5 c5, .slice A6 n6 c6, .slice A7 n7 c7])) rfl (by kernel_rfl) (by kernel_rfl) (by kernel_rfl) (fun _ _ _ h=>h) (Or.inl ⟨by kernel_rfl,by intro w' hSw;obtain⟨u0,u1,u2,u3,u4,u5,u6,u7⟩:=jB hSw;go_simp⟩) Gi.out ?_
   try simp only [Act.put,sq]
   refine wpAnyH_ready (rs:=[0,2]) (by kernel_rfl) (by simp) ?_;refine AllReadyH.cons rfl (fun K hK=> ?_) (AllReadyH.cons rfl (fun K hK=> ?_) AllReadyH.nil)
   ·go_simp;refine hK.out _ _ Gi.out (fun _=> ?_);clear hK K
    try simp only [Act.put,sq]
    refine wpAnyH_ready (rs:=[2]) (by kernel_rfl) (by simp) ?_;refine AllReadyH.cons rfl (fun K hK=> ?_) AllReadyH.nil;go_simp;refine(HE.out _ HBD.out).mono ?_;rintro e w2 ⟨rfl,hb⟩;have nU:=jY.out.trans (hb.mono jY.out.size);have xI:=hid (zO.out.far nU);have HS2:=hid ((hb.block _ (block_lt Gi.out)).trans Gi.out);clear hb nU;refine hK.out _ _ HS2.out (fun _=> ?_);clear hK K
    try simp only [Act.put,sq]
    refine wpAnyH_ready (rs:=[3]) (by kernel_rfl) (by simp) ?_;refine AllReadyH.cons rfl (fun K hK=> ?_) AllReadyH.nil;go_simp;have Hq:=hid ((((Below.refl w2.heap.size w2).alloc (Nat.le_refl _) (.cells #[sv X] 9)).block _ (block_lt HS2.out)).trans HS2.out);refine hK.out _ _ Hq.out (fun _=> ?_);clear hK K
    try simp only [Act.put,sq]
    refine wpAnyH_ready (rs:=[4]) (by kernel_rfl) (by simp) ?_;refine AllReadyH.cons rfl (fun K hK=> ?_) AllReadyH.nil;refine vU rfl (.tmp 14) (.tmp 17) _ rfl (w.heap.size+2) rX _ _ rfl rfl (xI.out.own.alloc _) (rP w2 X _) (by simp;omega) (by have:=block_lt xI.out.box;rw [World.size_alloc];omega) (fun v4 w4 mU hg4 Oo=> ?_);obtain⟨g4,c4,n4,rfl⟩:=vR mU (by simp);rw [←HST.out]at mU;obtain⟨x1,x2,x3⟩:=(xI.out.far ((Below.refl _ _).alloc (Nat.le_refl _) _)).grown mU hg4;have EH:=hid ((hg4.block _ (block_lt Hq.out) (by intro e;have:=VN.out _ e.symm;omega)).trans Hq.out);have X3:=hid x3;have CZ:=hid (ah EH.out (ak w4 (w.heap.size+1) 0 (.slice (some ⟨g4,0,none⟩) n4 c4)) (by have:=block_lt zO.out.box;omega));clear x3 mU hg4 Oo;refine hK.out _ _ EH.out (fun _=> ?_);clear hK K
    try simp only [Act.put,sq]
    refine wpAnyH_ready (rs:=[5]) (by kernel_rfl) (by simp) ?_;refine AllReadyH.cons rfl (fun K hK=> ?_) AllReadyH.nil;go_simp;refine hK.out _ _ CZ.out (fun _=> ?_);clear hK K
    try simp only [Act.put,sq]
    refine wpAnyH_done (by kernel_rfl) ?_ _;go_wp2_with fail
    go_roundw
    case rel=>exact⟨i+1, _,rfl,by omega,X3.out⟩
    case measure=>simp [intOf];omega
   ·go_simp;refine(HE.out _ HBD.out).mono ?_;rintro e w2 ⟨rfl,hb⟩;have nU:=jY.out.trans (hb.mono jY.out.size);have xI:=hid (zO.out.far nU);have HS2:=hid ((hb.block _ (block_lt Gi.out)).trans Gi.out);clear hb nU;have gk2:=xI.out.cell;refine hK.out _ _ HS2.out (fun _=> ?_);clear hK K
    try simp only [Act.put,sq]
    refine wpAnyH_ready (rs:=[0,3]) (by kernel_rfl) (by simp) ?_;refine AllReadyH.cons rfl (fun K hK=> ?_) (AllReadyH.cons rfl (fun K hK=> ?_) AllReadyH.nil)
    ·go_simp;refine hK.out _ _ HS2.out (fun _=> ?_);clear hK K
     try simp only [Act.put,sq]
     refine wpAnyH_ready (rs:=[3]) (by kernel_rfl) (by simp) ?_;refine AllReadyH.cons rfl (fun K hK=> ?_) AllReadyH.nil;go_simp;have Hq:=hid ((((Below.refl w2.heap.size w2).alloc (Nat.le_refl _) (.cells #[sv X] 9)).block _ (block_lt HS2.out)).trans HS2.out);refine hK.out _ _ Hq.out (fun _=> ?_);clear hK K
     try simp only [Act.put,sq]
     refine wpAnyH_ready (rs:=[4]) (by kernel_rfl) (by simp) ?_;refine AllReadyH.cons rfl (fun K hK=> ?_) AllReadyH.nil;refine vU rfl (.tmp 14) (.tmp 17) _ rfl (w.heap.size+2) rX _ _ rfl rfl (xI.out.own.alloc _) (rP w2 X _) (by simp;omega) (by have:=block_lt xI.out.box;rw [World.size_alloc];omega) (fun v4 w4 mU hg4 Oo=> ?_);obtain⟨g4,c4,n4,rfl⟩:=vR mU (by simp);rw [←HST.out]at mU;obtain⟨x1,x2,x3⟩:=(xI.out.far ((Below.refl _ _).alloc (Nat.le_refl _) _)).grown mU hg4;have EH:=hid ((hg4.block _ (block_lt Hq.out) (by intro e;have:=VN.out _ e.symm;omega)).trans Hq.out);have X3:=hid x3;have CZ:=hid (ah EH.out (ak w4 (w.heap.size+1) 0 (.slice (some ⟨g4,0,none⟩) n4 c4)) (by have:=block_lt zO.out.box;omega));clear x3 mU hg4 Oo;refine hK.out _ _ EH.out (fun _=> ?_);clear hK K
     try simp only [Act.put,sq]
     refine wpAnyH_ready (rs:=[5]) (by kernel_rfl) (by simp) ?_;refine AllReadyH.cons rfl (fun K hK=> ?_) AllReadyH.nil;go_simp;refine hK.out _ _ CZ.out (fun _=> ?_);clear hK K
     try simp only [Act.put,sq]
     refine wpAnyH_done (by kernel_rfl) ?_ _;go_wp2_with fail
     go_roundw
     case rel=>exact⟨i+1, _,rfl,by omega,X3.out⟩
     case measure=>simp [intOf];omega
    ·go_simp;have Hq:=hid ((((Below.refl w2.heap.size w2).alloc (Nat.le_refl _) (.cells #[sv X] 9)).block _ (block_lt HS2.out)).trans HS2.out);have gk3:=(xI.out.far ((Below.refl w2.heap.size w2).alloc (Nat.le_refl _) (.cells #[sv X] 9))).cell;refine hK.out _ _ Hq.out (fun _=> ?_);clear hK K
     try simp only [Act.put,sq]
     refine wpAnyH_ready (rs:=[0]) (by kernel_rfl) (by simp) ?_;refine AllReadyH.cons rfl (fun K hK=> ?_) AllReadyH.nil;go_simp;refine hK.out _ _ Hq.out (fun _=> ?_);clear hK K
     try simp only [Act.put,sq]
     refine wpAnyH_ready (rs:=[4]) (by kernel_rfl) (by simp) ?_;refine AllReadyH.cons rfl (fun K hK=> ?_) AllReadyH.nil;refine vU rfl (.tmp 14) (.tmp 17) _ rfl (w.heap.size+2) rX _ _ rfl rfl (xI.out.own.alloc _) (rP w2 X _) (by simp;omega) (by have:=block_lt xI.out.box;rw [World.size_alloc];omega) (fun v4 w4 mU hg4 Oo=> ?_);obtain⟨g4,c4,n4,rfl⟩:=vR mU (by simp);rw [←HST.out]at mU;obtain⟨x1,x2,x3⟩:=(xI.out.far ((Below.refl _ _).alloc (Nat.le_refl _) _)).grown mU hg4;have EH:=hid ((hg4.block _ (block_lt Hq.out) (by intro e;have:=VN.out _ e.symm;omega)).trans Hq.out);have X3:=hid x3;have CZ:=hid (ah EH.out (ak w4 (w.heap.size+1) 0 (.slice (some ⟨g4,0,none⟩) n4 c4)) (by have:=block_lt zO.out.box;omega));clear x3 mU hg4 Oo;refine hK.out _ _ EH.out (fun _=> ?_);clear hK K
     try simp only [Act.put,sq]
     refine wpAnyH_ready (rs:=[5]) (by kernel_rfl) (by simp) ?_;refine AllReadyH.cons rfl (fun K hK=> ?_) AllReadyH.nil;go_simp;refine hK.out _ _ CZ.out (fun _=> ?_);clear hK K
     try simp only [Act.put,sq]
     refine wpAnyH_done (by kernel_rfl) ?_ _;go_wp2_with fail
     go_roundw
     case rel=>exact⟨i+1, _,rfl,by omega,X3.out⟩
     case measure=>simp [intOf];omega
  ·obtain rfl:i=d:=by omega
   have hex:=zO.out;rw [List.take_of_length_le (by rw [HSL.out];omega)]at hex;have hbr:=hex.below;obtain⟨g0,g1,g2,g3,g4,g5,g6,g7⟩:=jB (hex.node.trans (congrArg some oK.out.symm));have gb:=hex.cell;have hown:=hex.own;have FL:=hid hbr;clear hlt zO hex;have hd0:=HD0.out;have hsl:=HSL.out;subst hd0;obtain⟨s0,s1,rfl⟩:=QM hsl;obtain⟨g,c,rfl,hgb,hgl,hgc,hgm⟩:=gH hown.row (by simp);simp only [List.length_cons,List.length_nil,Nat.zero_add]at gb hown hgc;have d0:=hown.cell 0 (by simp);have d1:=hown.cell 1 (by simp);simp only [List.getElem_cons_zero,List.getElem_cons_succ]at d0 d1;have HT:Hid (AO 14 text n ts ns [s0,s1]=([40]:Bt)++(s0++([32]:Bt)++text++([32]:Bt)++s1)++([41]:Bt)):=hid (by simp [AO,cat]);rw [HT.out]at hlen;simp only [List.length_append,List.length_cons,List.length_nil]at hlen;have hz0:=bP s0;have hz1:=bP text;have hz2:=bP s1;have q0:¬(9223372036854775807<s0.length+1):=by omega
   have q1:¬(9223372036854775807<s0.length+1+text.length):=by omega
   have q2:¬(9223372036854775807<s0.length+1+text.length+1):=by omega
   have q3:¬(9223372036854775807<s0.length+1+text.length+1+s1.length):=by omega
   have q4:¬(9223372036854775807<1+(s0.length+1+text.length+1+s1.length)):=by omega
   have q5:¬(9223372036854775807<1+(s0.length+1+text.length+1+s1.length)+1):=by omega
   have G1:=hid g1;have G2:=hid g2;have G5:=hid g5;have GB:=hid gb;have D0:=hid d0;have D1:=hid d1;have HB0:Hid (Below wr.heap.size wr wr.drew):=hid (aJ wr 1);clear g1 g2 g3 g4 g5 g6 g7 gb hown hbr hlen d0 d1;go_wp2_with fail;refine wp_region_held_drew (S:=fun w'=>Below wr.heap.size wr w') (by kernel_rfl) HB0.out (fun _=> ?_)
   try simp only [Act.put,sq]
   refine oH 0 (.slice (some ⟨g,0,none⟩) 2 c) (JW GB.out) HB0.out ?_;refine tk 1 (.pointer (some ⟨g,0,none⟩)) HB0.out ?_;refine oH 2 (sv s0) (JW D0.out) HB0.out ?_;refine tk 3 (.string ((⟨s0.toArray⟩:ByteArray)++⟨#[32]⟩)) HB0.out ?_;refine tk 4 (.pointer (some ⟨w.heap.size,1,none⟩)) HB0.out ?_;refine oH 5 (sv text) (JW G1.out) HB0.out ?_;refine tk 6 (.string ((⟨s0.toArray⟩:ByteArray)++⟨#[32]⟩++⟨text.toArray⟩)) HB0.out ?_;refine tk 7 (.string ((⟨s0.toArray⟩:ByteArray)++⟨#[32]⟩++⟨text.toArray⟩++⟨#[32]⟩)) HB0.out ?_;refine oH 8 (.slice (some ⟨g,0,none⟩) 2 c) (JW GB.out) HB0.out ?_;refine tk 9 (.pointer (some ⟨g,1,none⟩)) HB0.out ?_;refine oH 10 (sv s1) (JW D1.out) HB0.out ?_;refine tk 11 (.string ((⟨s0.toArray⟩:ByteArray)++⟨#[32]⟩++⟨text.toArray⟩++⟨#[32]⟩++⟨s1.toArray⟩)) HB0.out ?_;refine tk 12 (.string ((⟨s0.toArray⟩:ByteArray)++⟨#[32]⟩++⟨text.toArray⟩++⟨#[32]⟩++⟨s1.toArray⟩)) HB0.out ?_;refine wpAnyH_done (by kernel_rfl) ?_ _;go_wp2_with fail;go_ret;refine⟨?_,FL.out.trans (HB0.out.mono FL.out.size)⟩;rw [HT.out];have e:(⟨([40]:Bt).toArray⟩:ByteArray)++((⟨s0.toArray⟩:ByteArray)++⟨([32]:Bt).toArray⟩++⟨text.toArray⟩++⟨([32]:Bt).toArray⟩++⟨s1.toArray⟩)++⟨([41]:Bt).toArray⟩=⟨(([40]:Bt)++(s0++([32]:Bt)++text++([32]:Bt)++s1)++([41]:Bt)).toArray⟩:=by
    rw [jv,jv,jv,jv,jv,jv]
   exact congrArg (fun b=>Ending.returned (Value.string b)) e
theorem Fp (w:World) (z:List Value) (k:Int) (text:Bt) (n li co:Int) (ts:List bT) (ns:List Bt) (ks:List bX) (hr:rT w w.heap.size z (.mk k text n li co ts ns ks)) (hk:k=4):
  Calls Tryz.prog 120 #[.agg z.toArray] w fun e w'=>e= .returned (sv (tK k text n ts))∧Below w.heap.size w w':=by
 subst hk;obtain⟨A1,c1,A2,c2,A3,c3,xt,xk,rfl,s1,r1,s2,s3,r3⟩:=hr.parts;clear hr s1 r1 s2 s3 r3;rw [show tK 4 text n ts=text from rfl];go_enter Tryz.func120,Tryz.ntmps120;go_wp2_with fail;go_ret;exact⟨rfl,(Below.refl _ _).alloc (Nat.le_refl _) _⟩
theorem KL (k:Int) (hk:k=4) (text:Bt) (n li co:Int) (ts:List bT) (ns:List Bt) (ks:List bX) (ih:∀y∈ks,Zd y):Zd (.mk k text n li co ts ns ks):=by
 intro w z m hr hok hnd hc hX;have hlen:=zK _ m hnd;obtain⟨q,rfl,Vj,hown,hns,hts,hkk⟩:=BI hnd;rw [zN,Bool.and_eq_true,Bool.and_eq_true,Bool.and_eq_true,Bool.and_eq_true,decide_eq_true_eq,decide_eq_true_eq,decide_eq_true_eq,decide_eq_true_eq]at hown;obtain⟨⟨⟨⟨hn0,hn1⟩,htx⟩,hlo,hhi⟩,hkn,hkd⟩:=hown;have htl:=zJ htx;rw [OW]at hok;obtain⟨ok1,QG,NS,SC,Za,VQ,VR,SH⟩:=hok;obtain⟨A1,c1,A2,c2,A3,c3,xt,xk,rfl,s1,r1,s2,s3,r3⟩:=hr.parts;have l1:=(eF s1).2;have l2:=(eF s2).2;have l3:=(eF s3).2;rw [nC]at hlen ⊢;rw [zI]at hc hlen;have hcT:qC ts≤300000:=by omega
 have hcK:rH ks≤300000:=by omega
 have hdc:ks.length≤300000:=Nat.le_trans (vT ks) hcK;obtain⟨S,hS⟩:∃S,kI ks=S:=⟨_,rfl⟩
 have Om:S.length=ks.length:=by rw [←hS,ni]
 have HSG:Hid (∀(i:Nat) (h:i<ks.length) (h2:i<S.length),S[i]=nC ks[i]):=hid (by
  intro i h h2;subst hS;simp [oq])
 rw [hS]at hlen ⊢;have HKK:=hid (And.intro s3 r3);have HR:=hid hr;have Ir:=hid (And.intro s1 r1);have DL:=hid s2;have QF:=hid ih;have Io:=hid (tL.1 SH);have HNK:=hid hkk;have HCK:=hid hcK;have HCT:=hid hcT;have ZA:=hid hts;have BD:=hid hns;have HX:=hid hX;have Fe:=NS;clear hr s1 r1 s2 s3 r3 ih ok1 QG NS SC Za VQ VR SH hkk hts hns hX hS hnd Vj;obtain⟨a,hA⟩:∃a,ts.length=a:=⟨_,rfl⟩
 obtain⟨b,hB⟩:∃b,ns.length=b:=⟨_,rfl⟩
 obtain⟨d,hD⟩:∃d,ks.length=d:=⟨_,rfl⟩
 rw [hA]at l1 Ir hlo hhi;rw [hB]at l2 DL hkn hkd;rw [hD]at l3 HKK hkd hdc Om;rw [hA,hB,hD]at HR;rw [hA,hB,hD];have HA:=hid hA;have nk:=hid hB;have HD:=hid hD;have HSL:=hid Om;clear hA hB hD;have hk0:(dR k).kids=0:=by subst hk;rfl
 have hd0:d=0:=by
  rw [hk0]at hkd;unfold qD at hkd;rw [if_neg (by decide)]at hkd;omega
 have HT:Hid (AO k text n ts ns S=tK k text n ts):=hid (by subst hk;rfl);have adk:=hid hk;have HTL:=hid htl;have ac6:=hid Fe;have q7:(k==7)=false:=by rw [beq_eq_false_iff_ne];subst hk;decide
 have q9:(k==9)=false:=by rw [beq_eq_false_iff_ne];subst hk;decide
 have q10:(k==10)=false:=by rw [beq_eq_false_iff_ne];subst hk;decide
 have q8:(k==8)=false:=by rw [beq_eq_false_iff_ne];subst hk;decide
 have q17:(k==17)=false:=by rw [beq_eq_false_iff_ne];subst hk;decide
 have q5:(k==5)=false:=by rw [beq_eq_false_iff_ne];subst hk;decide
 have q6:(k==6)=false:=by rw [beq_eq_false_iff_ne];subst hk;decide
 have q11:(k==11)=false:=by rw [beq_eq_false_iff_ne];subst hk;decide
 have q12:(k==12)=false:=by rw [beq_eq_false_iff_ne];subst hk;decide
 have q13:(k==13)=false:=by rw [beq_eq_false_iff_ne];subst hk;decide
 have ZR:(k==14)=false:=by rw [beq_eq_false_iff_ne];subst hk;decide
 have q15:(k==15)=false:=by rw [beq_eq_false_iff_ne];subst hk;decide
 have q16:(k==16)=false:=by rw [beq_eq_false_iff_ne];subst hk;decide
 subst hd0;clear hk hk0 hkd hkn htx hlo hhi hn0 hn1 Fe HKK QF Io HNK HCK HSG;obtain⟨OB,Vk⟩:∃OB,Obj.cells #[.int .i64 k,sv text, .int .i64 n, .int .i64 li, .int .i64 co, .slice A1 a c1, .slice A2 b c2, .slice A3 0 c3] 52 (0,0)=OB:=⟨_,rfl⟩
 obtain⟨W,hW⟩:∃W,(w.alloc (.cells #[.int .i64 k,sv text, .int .i64 n, .int .i64 li, .int .i64 co, .slice A1 a c1, .slice A2 b c2, .slice A3 0 c3] 52)).alloc (.cells #[.slice none 0 0] 25)=W:=⟨_,rfl⟩
 have Vl:Hid (zL w W OB (.slice none 0 0) (S.take 0)):=hid (by
  rw [←hW, ←Vk];exact⟨(oU w _ _).2,gI.nil _ _ _,(oU w _ _).1,((Below.refl _ _).alloc (Nat.le_refl _) _).alloc (by simp) _⟩)
 have oK:=hid Vk;have Bw:=hid hW;clear hW Vk;go_enter Tryz.func57,Tryz.ntmps57;go_wp2_with fail;have hW:=Bw.out;rw [hW];clear hW;go_loopw [10] (fun v10 wr=>v10= .int .i64 0∧wr=W) (fun _ _=>0)
 case atStart=>exact⟨rfl,rfl⟩
 case round=>
  obtain⟨rfl,rfl⟩:=hrel;have hat:=Vl.out;have hbr:=hat.below;obtain⟨g0,g1,g2,g3,g4,g5,g6,g7⟩:=jB (hat.node.trans (congrArg some oK.out.symm));have HC:=hid (Fp wr _ k text n li co ts ns ks ((HR.out.keep hbr).more hbr.size) adk.out);have HB:=hid hbr;clear hat hbr;go_wp2_with fail;refine HC.out.mono ?_;rintro e w2 ⟨rfl,hb⟩;go_wp2_with fail;go_ret;exact⟨by rw [HT.out];rfl,HB.out.trans (hb.mono HB.out.size)⟩
inductive Vm:bX→Prop
 | name {t:Bt} {n l c:Int} {ts:List bT} {ns:List Bt} {ks:List bX} (h:ks=[]):Vm (.mk 4 t n l c ts ns ks)
 | op {t:Bt} {n l c:Int} {ts:List bT} {ns:List Bt} {a b:bX}:Vm a→Vm b→Vm (.mk 14 t n l c ts ns [a,b])
theorem Hr {x:bX} (h:Vm x):Zd x:=by
 induction h with
 | @name t n l c ts ns ks h=>subst h;exact KL 4 rfl t n l c ts ns [] (fun y hy=>by cases hy)
 | @op t n l c ts ns a b _ _ ha hb=>exact Ol t n l c ts ns [a,b] (fun y hy=>by
   rcases List.mem_cons.1 hy with rfl | hy
   ·exact ha
   ·rcases List.mem_cons.1 hy with rfl | hy
    ·exact hb
    ·cases hy)
theorem Ht (w:World) (z:List Value) (x:bX) (hsm:Vm x) (hr:rT w w.heap.size z x) (hok:OW x) (hc:zI x≤300000) (hX:jD w):
  Calls Tryz.prog 26 #[.agg z.toArray] w fun e w'=>e= .returned (sv (AP x))∧Below w.heap.size w w':=by
 obtain⟨k,s,v2,v3,v4,A1,n1,c1,A2,n2,c2,A3,n3,c3,rfl⟩:=hr.shape;obtain⟨W1,hW1⟩:∃W1,W1=w.alloc (.cells #[.int .i64 k, .string s, .int .i64 v2, .int .i64 v3, .int .i64 v4, .slice A1 n1 c1, .slice A2 n2 c2, .slice A3 n3 c3] 52):=⟨_,rfl⟩
 have hb1:Below w.heap.size w W1:=by rw [hW1];exact(Below.refl _ _).alloc (Nat.le_refl _) _
 have hbx:W1.heap[w.heap.size]? =some (.cells #[.int .i64 k, .string s, .int .i64 v2, .int .i64 v3, .int .i64 v4, .slice A1 n1 c1, .slice A2 n2 c2, .slice A3 n3 c3] 52 (0,0)):=by rw [hW1];exact heap_alloc_new w _
 have HW:=Fj 25 (by omega) W1 _ x (hr.far (Nat.le_refl _) hb1) hok (hX.below hb1);rw [hW1]at HW;have HW:=hid HW;have HB:=hid hb1;have Bw:=hid hW1;have xW:=hid hbx;have HR:=hid hr;have HX:=hid hX;have Io:=hid hok;clear hb1 hbx hr hX hW1 hok;cases hq:dP 25 x with
 | false=>
  have HT:Hid (AP x=[]):=hid (by unfold AP;rw [hq];rfl);rw [hq]at HW;rw [HT.out];clear hq HT;go_enter Tryz.func26,Tryz.ntmps26;go_wp2_with fail;refine HW.out.mono ?_;rintro e w2 ⟨rfl,hb⟩;rw [←Bw.out]at hb;go_wp2_with fail;go_ret;exact⟨rfl,HB.out.trans (hb.mono HB.out.size)⟩
 | true=>
  have HT:Hid (AP x=nC x):=hid (by unfold AP;rw [hq];rfl);rw [hq]at HW;rw [HT.out];have HS:Hid (∀w2,Below w.heap.size w w2→Calls Tryz.prog 57 #[.agg [.int .i64 k, .string s, .int .i64 v2, .int .i64 v3, .int .i64 v4, .slice A1 n1 c1, .slice A2 n2 c2, .slice A3 n3 c3].toArray] w2 fun e w'=>e= .returned (sv (nC x))∧Below w2.heap.size w2 w'):=hid (fun w2 hb2=>Hr hsm w2 _ 25 (HR.out.far (Nat.le_refl _) hb2) Io.out hq hc (HX.out.below hb2));clear hq HT HR;generalize nC x=u at*
  go_enter Tryz.func26,Tryz.ntmps26;go_wp2_with fail;refine HW.out.mono ?_;rintro e w2 ⟨rfl,hb⟩;rw [←Bw.out]at hb;have HB2:=hid (HB.out.trans (hb.mono HB.out.size));obtain⟨g0,g1,g2,g3,g4,g5,g6,g7⟩:=jB ((hb.block _ (block_lt xW.out)).trans xW.out);clear hb;go_wp2_with fail;refine(HS.out _ HB2.out).mono ?_;rintro e w3 ⟨rfl,hb3⟩;go_wp2_with fail;go_ret;exact⟨rfl,HB2.out.trans (hb3.mono HB2.out.size)⟩
def Vn:bX:= .mk 14 [45] 0 1 7 [] [] [(.mk 14 [45] 0 1 3 [] [] [(.mk 4 [97] 0 1 1 [] [] []),(.mk 4 [98] 0 1 5 [] [] [])]),(.mk 14 [42] 0 1 11 [] [] [(.mk 4 [99] 0 1 9 [] [] []),(.mk 4 [100] 0 1 13 [] [] [])])]
def exB:bT:= .mk 6 [] [] [(.mk 7 [] [] [(.mk 3 [] [] []),(.mk 1 [] [] [])]),(.mk 5 [] [[97]] [(.mk 4 [] [] [])])]
def exC:zQ:=⟨[],[⟨[102],false,[],[120],[(.mk 0 [] [] []),(.mk 0 [] [] [])],(.mk 4 [120] 0 1 11 [] [] []),1,1⟩]⟩
theorem SK:bS (bR 100).expr [97,32,45,32,98,32,45,32,99,32,42,32,100]=(some Vn,(0,0,0)):=by kernel_rfl
theorem SL:bS (bR 100).typ [105,110,116,32,124,32,110,117,108,108,32,45,62,32,123,97,58,32,115,116,114,125]=(some exB,(0,0,0)):=by kernel_rfl
theorem SN:bS dU [102,110,32,102,40,120,41,32,61,32,120,59]=(some exC,(0,0,0)):=by kernel_rfl
theorem Ze:bS dU [102,110,32,102,40,120,41,32,61,32,59]=(none,(1,11,7)):=by kernel_rfl
theorem ado:Vm Vn:= .op (.op (.name rfl) (.name rfl)) (.op (.name rfl) (.name rfl))
theorem Vo:AP Vn=[40,40,97,32,45,32,98,41,32,45,32,40,99,32,42,32,100,41,41]:=by kernel_rfl
theorem Oq {w:World} {F:Nat→Prop} {z:List Value} (h:I7 w F z exC):∃A1 n1 c1 b o c2 A2 c3,z=[.slice A1 n1 c1, .slice (some ⟨b,o,none⟩) 1 c2]∧w.cell? ⟨b,o+4,none⟩=some (.slice A2 2 c3)∧b<w.heap.size∧1≤c2:=by
 obtain⟨A1,c1,A2,c2,xi,xd,rfl,h1,h2,h3,h4⟩:=h.all.parts;obtain⟨A,n,c,hv,hl,hn,hc,hx⟩:=h3;injection hv with hv1 hv2 hv3;have hv2:(1:Nat)=n:=hv2;subst hv1 hv3;subst hv2;obtain⟨b,o,rfl,hb,hcell⟩:=hx (by omega);have h4:eD (CV w w.heap.size) 15 xd [⟨[102],false,[],[120],[.mk 0 [] [] [], .mk 0 [] [] []], .mk 4 [120] 0 1 11 [] [] [],1,1⟩]:=h4;cases h4 with
 | cons hz hd ht=>
  cases ht;obtain⟨B1,d1,B2,d2,k,s,n,l,c,A3,n3,c3,A4,n4,c4,A5,n5,c5,xv,xt,rfl, _⟩:=hd.parts;exact⟨A1, _,c1,b,o,c2,B2,d2,rfl,hcell 4 _ rfl,hb,hn⟩
theorem KM {w:World} {F:Nat→Prop} {z:List Value} (h:ow w F z Vn):∃A1 n1 c1 A2 n2 c2 A3 n3 c3,z=[.int .i64 14,sv [45], .int .i64 0, .int .i64 1, .int .i64 7, .slice A1 n1 c1, .slice A2 n2 c2, .slice A3 n3 c3]:=by
 cases h with
 | mk h1 h2 h3 h4 h5=>
  obtain⟨A1,n1,c1,rfl, _⟩:=h1;obtain⟨A2,n2,c2,rfl, _⟩:=h3;obtain⟨A3,n3,c3,rfl, _⟩:=h4;exact⟨_, _, _, _, _, _, _, _, _,rfl⟩
theorem KN {w:World} {F:Nat→Prop} {z:List Value} (h:jR w F z exB):∃A1 n1 c1 A2 n2 c2,z=[.int .i64 6,sv [], .slice A1 n1 c1, .slice A2 n2 c2]:=by
 cases h with
 | mk h1 h2 h3=>
  obtain⟨A1,n1,c1,rfl, _⟩:=h1;obtain⟨A2,n2,c2,rfl, _⟩:=h2;exact⟨_, _, _, _, _, _,rfl⟩
theorem Hu (w:World) (hX:jS w):Calls Tryz.prog 18 #[] w fun e w'=>e= .returned (.bool true)∧Below w.heap.size w w':=by
 have HX:=hid hX;have HA:=hid (NP w [97,32,45,32,98,32,45,32,99,32,42,32,100] hX);clear hX;go_enter Tryz.func18,Tryz.ntmps18;go_wp2_with fail;refine(HA.out).mono ?_;rintro e w1 ⟨hb1,z1,rfl,hz1⟩;rw [show o9 (bR 100).expr [97,32,45,32,98,32,45,32,99,32,42,32,100] wL=Vn by unfold o9;rw [SK];rfl]at hz1;rw [show(bS (bR 100).expr [97,32,45,32,98,32,45,32,99,32,42,32,100]).2=(0,0,0) by rw [SK]];obtain⟨A1,n1,c1,A2,n2,c2,A3,n3,c3,rfl⟩:=KM hz1;have hs1:=hb1.size;have HB1:=hid hb1;have HZ1:=hid hz1;have nZ:=hid (HX.out.below hb1);obtain⟨W1,hW1⟩:∃W1,(w1.alloc (.cells #[.int .i64 14, .string ⟨#[45]⟩, .int .i64 0, .int .i64 1, .int .i64 7, .slice A1 n1 c1, .slice A2 n2 c2, .slice A3 n3 c3] 52)).alloc (.cells #[.int .i64 0, .int .i64 0, .int .i64 0, .int .i64 0] 45)=W1:=⟨_,rfl⟩
 have QO:Below w1.heap.size w1 W1:=by rw [←hW1];exact new2 _ _ _
 obtain⟨_, _,hn1,hd1⟩:=gG (G:=fun _=>False) (Turn.refl _ ((w1.alloc (.cells #[.int .i64 14, .string ⟨#[45]⟩, .int .i64 0, .int .i64 1, .int .i64 7, .slice A1 n1 c1, .slice A2 n2 c2, .slice A3 n3 c3] 52)).alloc (.cells #[.int .i64 0, .int .i64 0, .int .i64 0, .int .i64 0] 45)));rw [hW1]at hn1 hd1;have agZ:W1.heap.size=w1.heap.size+2:=by rw [←hW1];simp
 have ZP:=hid (hn1 id);have HD1:=hid (hd1 id);have adp:=hid (hb1.trans (QO.mono hs1));have Zf:=hid (nZ.out.below QO);have adq:=hid (hz1.turn (Turn.of_below (F:=fun _=>False) QO) (fun _ _ _=>id));have HW1:=hid hW1;have HT:=hid (ES W1 [105,110,116,32,124,32,110,117,108,108,32,45,62,32,123,97,58,32,115,116,114,125] Zf.out);clear hb1 hz1 QO hn1 hd1 hW1;go_wp2_with fail;rw [HW1.out];refine(HT.out).mono ?_;rintro e w2 ⟨hb2,z2,rfl,hz2⟩;rw [show o9 (bR 100).typ [105,110,116,32,124,32,110,117,108,108,32,45,62,32,123,97,58,32,115,116,114,125] mR=exB by unfold o9;rw [SL];rfl]at hz2;rw [show(bS (bR 100).typ [105,110,116,32,124,32,110,117,108,108,32,45,62,32,123,97,58,32,115,116,114,125]).2=(0,0,0) by rw [SL]];obtain⟨B1,m1,e1,B2,m2,e2,rfl⟩:=KN hz2;have hs2:=hb2.size;obtain⟨W2,hW2⟩:∃W2,(w2.alloc (.cells #[.int .i64 6, .string ⟨#[]⟩, .slice B1 m1 e1, .slice B2 m2 e2] 57)).alloc (.cells #[.int .i64 0, .int .i64 0, .int .i64 0, .int .i64 0] 45)=W2:=⟨_,rfl⟩
 have hbw2:Below w2.heap.size w2 W2:=by rw [←hW2];exact new2 _ _ _
 obtain⟨_, _,hn2,hd2⟩:=gG (G:=fun _=>False) (Turn.refl _ ((w2.alloc (.cells #[.int .i64 6, .string ⟨#[]⟩, .slice B1 m1 e1, .slice B2 m2 e2] 57)).alloc (.cells #[.int .i64 0, .int .i64 0, .int .i64 0, .int .i64 0] 45)));rw [hW2]at hn2 hd2;have Y3:W2.heap.size=w2.heap.size+2:=by rw [←hW2];simp
 have EX:=hb2.trans (hbw2.mono hs2);have O7:=hid (hn2 id);have HD2:=hid (hd2 id);have Zg:=hid (adp.out.trans (EX.mono (by omega)));have KO:=hid EX;have Zh:=hid (Zf.out.below EX);have HW2:=hid hW2;have HP:=hid (EN W2 [102,110,32,102,40,120,41,32,61,32,120,59] Zh.out);clear hb2 hz2 hbw2 hn2 hd2 hW2 EX;go_wp2_with fail;rw [HW2.out];refine(HP.out).mono ?_;rintro e w3 ⟨hb3,z3,rfl,hz3⟩;rw [show o9 dU [102,110,32,102,40,120,41,32,61,32,120,59] wK=exC by unfold o9;rw [SN];rfl]at hz3;rw [show(bS dU [102,110,32,102,40,120,41,32,61,32,120,59]).2=(0,0,0) by rw [SN]];obtain⟨G1,p1,q1,bd,od,q2,G2,q3,rfl,hty,hbl,hq2⟩:=Oq hz3;have hs3:=hb3.size;obtain⟨W3,hW3⟩:∃W3,(w3.alloc (.cells #[.slice G1 p1 q1, .slice (some ⟨bd,od,none⟩) 1 q2] 40)).alloc (.cells #[.int .i64 0, .int .i64 0, .int .i64 0, .int .i64 0] 45)=W3:=⟨_,rfl⟩
 have nV:Below w3.heap.size w3 W3:=by rw [←hW3];exact new2 _ _ _
 obtain⟨_, _,Zr,hd3⟩:=gG (G:=fun _=>False) (Turn.refl _ ((w3.alloc (.cells #[.slice G1 p1 q1, .slice (some ⟨bd,od,none⟩) 1 q2] 40)).alloc (.cells #[.int .i64 0, .int .i64 0, .int .i64 0, .int .i64 0] 45)));rw [hW3]at Zr hd3;have Zi:W3.heap.size=w3.heap.size+2:=by rw [←hW3];simp
 have xw:=hb3.trans (nV.mono hs3);have Cc:=hid (Zr id);have HD3:=hid (hd3 id);have pK:=hid ((nV.cell (p:=⟨bd,od+4,none⟩) hbl).trans hty);have Zj:=hid (Zg.out.trans (xw.mono (by have:=Zg.out.size;omega)));have CQ:=hid xw;have Zk:=hid (Zh.out.below xw);have HW3:=hid hW3;have HQ:=hid (EN W3 [102,110,32,102,40,120,41,32,61,32,59] Zk.out);clear hb3 hz3 nV Zr hd3 hW3 xw hty;go_wp2_with fail;rw [HW3.out];refine(HQ.out).mono ?_;rintro e w4 ⟨hb4,z4,rfl,hz4⟩;rw [show(bS dU [102,110,32,102,40,120,41,32,61,32,59]).2=(1,11,7) by rw [Ze]];have hzc:=hz4;obtain⟨vi,xi,vd,xd,rfl,⟨K1,r1,r2,rfl, _⟩, _,⟨K2,r3,r4,rfl, _⟩, _⟩:=hzc;have hs4:=hb4.size;obtain⟨W4,Ce⟩:∃W4,(w4.alloc (.cells #[.slice K1 r1 r2, .slice K2 r3 r4] 40)).alloc (.cells #[.int .i64 0, .int .i64 1, .int .i64 11, .int .i64 7] 45)=W4:=⟨_,rfl⟩
 have KJ:Below w4.heap.size w4 W4:=by rw [←Ce];exact new2 _ _ _
 obtain⟨_, _, _,hd4⟩:=gG (G:=fun _=>False) (Turn.refl _ ((w4.alloc (.cells #[.slice K1 r1 r2, .slice K2 r3 r4] 40)).alloc (.cells #[.int .i64 0, .int .i64 1, .int .i64 11, .int .i64 7] 45)));rw [Ce]at hd4;have adr:W4.heap.size=w4.heap.size+2:=by rw [←Ce];simp
 have Fq:=hb4.trans (KJ.mono hs4);have Zl:=hid (Zj.out.trans (Fq.mono (by have:=Zj.out.size;omega)));have QS:Below W1.heap.size W1 W4:=(KO.out.trans (CQ.out.mono KO.out.size)).trans (Fq.mono (by have:=KO.out.size;have:=CQ.out.size;omega));have Vp:Below W2.heap.size W2 W4:=CQ.out.trans (Fq.mono CQ.out.size);have HD4:=hid (hd4 id);have Vq:=hid ((QS.block w1.heap.size (by omega)).trans ZP.out);have ag0:=hid ((QS.block (w1.heap.size+1) (by omega)).trans HD1.out);have Vr:=hid ((Vp.block w2.heap.size (by omega)).trans O7.out);have Vs:=hid ((Vp.block (w2.heap.size+1) (by omega)).trans HD2.out);have Vt:=hid ((Fq.block w3.heap.size (by omega)).trans Cc.out);have Vu:=hid ((Fq.block (w3.heap.size+1) (by omega)).trans HD3.out);have ads:=hid ((Fq.cell (p:=⟨bd,od+4,none⟩) (by show bd< _;omega)).trans pK.out);have Zm:=adq.out.turn (Turn.of_below (F:=fun _=>False) QS) (fun _ _ _=>id);have HE:=hid (Ht W4 _ Vn ado Zm.all (by unfold Vn;simp [OW,JA,Jz,In64,maxLen]) (by decide) (Zk.out.below Fq).t);rw [Vo]at HE;have PY:=hid Ce;have HE:=hid (by have h:=HE;rw [←Ce]at h;exact h);have Fu:Below W1.heap.size W1 w4:=(KO.out.trans (CQ.out.mono KO.out.size)).trans (hb4.mono (by have:=KO.out.size;have:=CQ.out.size;omega));obtain⟨x0,x1,x2,x3,x4,x5,x6,x7,xz⟩:=aT ((Fu.block w1.heap.size (by omega)).trans ZP.out);obtain⟨a0,a1,a2,a3,az⟩:=aP ((Fu.block (w1.heap.size+1) (by omega)).trans HD1.out);have ag1:w1.heap.size<w4.heap.size:=by have:=Fu.size;omega
 have Ym:w1.heap.size+1<w4.heap.size:=by have:=Fu.size;omega
 clear Fu;have EH:=hid adr;clear hb4 hz4 KJ hd4 Ce Fq QS Vp Zm;go_wp2_with fail;refine(HE.out).mono ?_;rintro e w5 ⟨rfl,hb5⟩;rw [PY.out]at hb5;have Ck:=hid (Zl.out.trans (hb5.mono (by have:=Zl.out.size;omega)));have hs5:=hb5.size;clear x0 x1 x2 x3 x4 x5 x6 x7 xz a0 a1 a2 a3 az;have Vq:=hid ((hb5.block w1.heap.size (by omega)).trans Vq.out);have Vs:=hid ((hb5.block (w2.heap.size+1) (by omega)).trans Vs.out);have Vr:=hid ((hb5.block w2.heap.size (by omega)).trans Vr.out);have Vt:=hid ((hb5.block w3.heap.size (by omega)).trans Vt.out);have Vu:=hid ((hb5.block (w3.heap.size+1) (by omega)).trans Vu.out);have adt:=hid ((hb5.block (w4.heap.size+1) (by omega)).trans HD4.out);have hty:=(hb5.cell (p:=⟨bd,od+4,none⟩) (by show bd< _;omega)).trans ads.out;obtain⟨x0,x1,x2,x3,x4,x5,x6,x7,xz⟩:=aT Vq.out;obtain⟨b0,b1,b2,b3,bz⟩:=aP Vs.out;obtain⟨y0,y1,y2,y3,yz⟩:=aP Vr.out;obtain⟨m0,m1',mz⟩:=zx Vt.out;obtain⟨d0,d1,d2,d3,dz⟩:=aP Vu.out;obtain⟨f0,f1,f2,f3,fz⟩:=aP adt.out;clear hb5;go_wp2_with fail;go_ret;exact⟨rfl,Ck.out⟩
theorem KP (d:vZ) (w:World):(binOp .eql 45 (pR d) (pR d)).run Tryz.prog w= .ok (.bool true) w:=by
 have hS:Tryz.prog.underlying 45=some (.struct (Tryz.prog.fieldsOf 45)):=by kernel_rfl
 have hp:Tryz.prog.stoodInHeld 45=false:=by kernel_rfl
 have u3:=Tryz.underlying3;have a3:=Tryz.isAgg3;have z3:=Tryz.sizeOf3;have u5:=Tryz.underlying43;have a5:=Tryz.isAgg43;have z5:=Tryz.sizeOf43;rw [run_eql_struct,show(10000:Nat)=9999+1 from rfl,run_equalIn_agg w 9999 45 _ _ hS hp];simp only [Program.fieldsOf,Tryz.underlying45];go_simp
structure SmM (m:zQ):Prop where
 imps:m.imps.length≤100
 decls:m.decls.length≤100
 names:∀i∈m.imps,i.names.length≤100
 vars:∀d∈m.decls,d.vars.length≤100
 types:∀d∈m.decls,d.types.length≤100
 bounds:∀d∈m.decls,∀v∈d.vars,QK v.bound≤300000
 sorts:∀d∈m.decls,qC d.types≤300000
 body:∀d∈m.decls,zI d.body≤300000
theorem Hw {a b:List Bt} {i:Nat} (ha:i<a.length) (hb:i<b.length) (h:a.take i=b.take i) (h2:a[i]=b[i]):a.take (i+1)=b.take (i+1):=by
 rw [List.take_succ_eq_append_getElem ha,List.take_succ_eq_append_getElem hb,h,h2]
theorem KQ (va vb:Value) (a b:List Bt) (w:World) (ha:Ss w w.heap.size va a) (hb:Ss w w.heap.size vb b):
  Calls Tryz.prog 42 #[va,vb] w fun e w'=>e= .returned (.bool (decide (a=b)))∧Below w.heap.size w w':=by
 have HA:=hid ha;have HB:=hid hb;obtain⟨A,ca,rfl⟩:=eO ha (by omega) (m:=a.length) (by rw [eH];omega);obtain⟨B,cb,rfl⟩:=eO hb (by omega) (m:=b.length) (by rw [eH];omega);have l1:=(eF ha).2;have l2:=(eF hb).2;clear ha hb;by_cases hl:a.length=b.length
 case neg=>
  have g:((a.length:Int) != (b.length:Int))=true:=by rw [bne_iff_ne];omega
  have HR:Hid (decide (a=b)=false):=hid (decide_eq_false (fun h=>hl (by rw [h])));clear hl;go_enter Tryz.func42,Tryz.ntmps42;go_wp2_with fail;go_ret;exact⟨by rw [HR.out];rfl,Below.refl _ _⟩
 obtain⟨n,hn⟩:∃n,a.length=n:=⟨_,rfl⟩
 have hm:b.length=n:=by omega
 rw [hn]at HA l1;rw [hm]at HB l2;rw [hn,hm];have HN:=hid hn;have HM:=hid hm;clear hl hn hm;go_enter Tryz.func42,Tryz.ntmps42;go_wp2_with fail;go_loopw [5] (fun v5 wr=>∃i:Nat,v5= .int .i64 i∧i≤n∧a.take i=b.take i∧Below w.heap.size w wr) (fun v5 _=>n - (intOf v5).toNat)
 case atStart=>exact⟨0,rfl,by omega,by simp,Below.refl _ _⟩
 case round=>
  obtain⟨i,rfl,hi,heq,hbr⟩:=hrel;have HE:=hid heq;have FL:=hid hbr;clear heq;by_cases hlt:i<n
  ·have hia:i<a.length:=by rw [HN.out];exact hlt
   have hib:i<b.length:=by rw [HM.out];exact hlt
   obtain⟨b1,o1,rfl,d0⟩:=Jf (Sl.below HA.out hbr) hia;obtain⟨b2,o2,rfl,d1⟩:=Jf (Sl.below HB.out hbr) hib;have Dz:Hid (a[i]=b[i]→a.take (i+1)=b.take (i+1)):=hid (fun h=>Hw hia hib HE.out h);have HNE:Hid (¬a[i]=b[i]→decide (a=b)=false):=hid (fun h=>decide_eq_false (fun h2=>h (by subst h2;rfl)));have D0:=hid d0;have D1:=hid d1;have HB0:Hid (Below wr.heap.size wr wr.drew):=hid (aJ wr 1);generalize a[i]=X at*
   generalize b[i]=Y at*
   clear hbr d0 d1;by_cases hxy:X=Y
   ·have H9:=hid (Dz.out hxy);subst hxy;clear Dz HNE;go_wp2_with fail;refine wp_region_held_drew (S:=fun w'=>Below wr.heap.size wr w') (by kernel_rfl) HB0.out (fun _=> ?_)
    try simp only [Act.put,sq]
    refine tk 0 (.slice (some ⟨b1,o1,none⟩) n ca) HB0.out ?_;refine tk 1 (.int .i64 i) HB0.out ?_;refine tk 2 (.pointer (some ⟨b1,o1+i,none⟩)) HB0.out ?_;refine oH 3 (sv X) (JW D0.out) HB0.out ?_;refine tk 4 (.slice (some ⟨b2,o2,none⟩) n cb) HB0.out ?_;refine tk 5 (.int .i64 i) HB0.out ?_;refine tk 6 (.pointer (some ⟨b2,o2+i,none⟩)) HB0.out ?_;refine oH 7 (sv X) (JW D1.out) HB0.out ?_;refine tk 8 (.bool false) HB0.out ?_;refine wpAnyH_done (by kernel_rfl) ?_ _;go_wp2_with fail
    go_roundw
    case rel=>exact⟨i+1,rfl,by omega,H9.out,FL.out.trans (HB0.out.mono FL.out.size)⟩
    case measure=>simp [intOf];omega
   ·have g:(X != Y)=true:=by rw [bne_iff_ne];exact hxy
    have H9:=hid (HNE.out hxy);go_wp2_with fail;refine wp_region_held_drew (S:=fun w'=>Below wr.heap.size wr w') (by kernel_rfl) HB0.out (fun _=> ?_)
    try simp only [Act.put,sq]
    refine tk 0 (.slice (some ⟨b1,o1,none⟩) n ca) HB0.out ?_;refine tk 1 (.int .i64 i) HB0.out ?_;refine tk 2 (.pointer (some ⟨b1,o1+i,none⟩)) HB0.out ?_;refine oH 3 (sv X) (JW D0.out) HB0.out ?_;refine tk 4 (.slice (some ⟨b2,o2,none⟩) n cb) HB0.out ?_;refine tk 5 (.int .i64 i) HB0.out ?_;refine tk 6 (.pointer (some ⟨b2,o2+i,none⟩)) HB0.out ?_;refine oH 7 (sv Y) (JW D1.out) HB0.out ?_;refine tk 8 (.bool true) HB0.out ?_;refine wpAnyH_done (by kernel_rfl) ?_ _;go_wp2_with fail;go_ret;exact⟨by rw [H9.out];rfl,FL.out.trans (HB0.out.mono FL.out.size)⟩
  ·obtain rfl:i=n:=by omega
   have H9:Hid (decide (a=b)=true):=hid (decide_eq_true (by
    have h:=HE.out;rw [List.take_of_length_le (by rw [HN.out];omega),List.take_of_length_le (by rw [HM.out];omega)]at h;exact h))
   clear hbr hlt;go_wp2_with fail;go_ret;exact⟨by rw [H9.out];rfl,FL.out⟩
def Fv (t:bT):Prop:=∀(w:World) (z1 z2:List Value),sQ w w.heap.size z1 t→sQ w w.heap.size z2 t→
 Calls Tryz.prog 85 #[.agg z1.toArray, .agg z2.toArray] w fun e w'=>e= .returned (.bool true)∧Below w.heap.size w w'
theorem Fw (va vb:Value) (a:List Bt) (w:World) (ha:Ss w w.heap.size va a) (hb:Ss w w.heap.size vb a):
  Calls Tryz.prog 42 #[va,vb] w fun e w'=>e= .returned (.bool true)∧Below w.heap.size w w':=
 (KQ va vb a a w ha hb).mono fun e w' h=>⟨by rw [h.1,decide_eq_true (Eq.refl a)],h.2⟩
theorem zP (l:List bT) (H:∀t∈l,Fv t) (w:World) (v1 v2:Value) (x1 x2:List Value) (h1:Sl w w.heap.size 4 v1 x1) (r1:iP w w.heap.size x1 l) (h2:Sl w w.heap.size 4 v2 x2) (r2:iP w w.heap.size x2 l):
  Calls Tryz.prog 52 #[v1,v2] w fun e w'=>e= .returned (.bool true)∧Below w.heap.size w w':=by
 obtain⟨A1,c1,rfl⟩:=eO h1 (by omega) (m:=l.length) r1.length;obtain⟨A2,c2,rfl⟩:=eO h2 (by omega) (m:=l.length) r2.length;have l1:=(eF h1).2;have l2:=(eF h2).2;have xQ:=hid h1;have HS2:=hid h2;have HR1:=hid r1;have HR2:=hid r2;have HH:=hid H;obtain⟨n,hn⟩:∃n,l.length=n:=⟨_,rfl⟩
 rw [hn]at xQ HS2 l1 l2;rw [hn];have HN:=hid hn;clear h1 h2 r1 r2 H hn;go_enter Tryz.func52,Tryz.ntmps52;go_wp2_with fail;go_loopw [5] (fun v5 wr=>∃i:Nat,v5= .int .i64 i∧i≤n∧Below w.heap.size w wr) (fun v5 _=>n - (intOf v5).toNat)
 case atStart=>exact⟨0,rfl,by omega,Below.refl _ _⟩
 case round=>
  obtain⟨i,rfl,hi,hbr⟩:=hrel;have FL:=hid hbr;by_cases hlt:i<n
  ·have hil:i<l.length:=by rw [HN.out];exact hlt
   obtain⟨b1,o1,k1,s1,A3,n3,c3,A4,n4,c4,rfl,q1,d0,d1,d2,d3⟩:=CJ (Sl.more (Sl.below xQ.out hbr) hbr.size) ((HR1.out.keep hbr).more hbr.size) hil HN.out.symm;obtain⟨b2,o2,k2,s2,A5,n5,c5,A6,n6,c6,rfl,q2,e0,e1,e2,e3⟩:=CJ (Sl.more (Sl.below HS2.out hbr) hbr.size) ((HR2.out.keep hbr).more hbr.size) hil HN.out.symm;have HC:=hid (fun(w1:World) (h:Below wr.heap.size wr w1)=>HH.out _ (List.getElem_mem hil) w1 _ _ (q1.far (Nat.le_refl _) h) (q2.far (Nat.le_refl _) h));have D0:=hid d0;have D1:=hid d1;have D2:=hid d2;have D3:=hid d3;have E0:=hid e0;have E1:=hid e1;have E2:=hid e2;have E3:=hid e3;have HB0:Hid (Below wr.heap.size wr wr.drew):=hid (aJ wr 1);clear q1 q2 d0 d1 d2 d3 e0 e1 e2 e3 hbr;go_wp2_with fail;refine wp_region_held_drew (S:=fun w'=>Below wr.heap.size wr w') (by kernel_rfl) HB0.out (fun _=> ?_)
   try simp only [Act.put,sq]
   refine tk 0 (.slice (some ⟨b1,o1,none⟩) n c1) HB0.out ?_;refine tk 1 (.int .i64 i) HB0.out ?_;refine tk 2 (.pointer (some ⟨b1,o1+i*4,none⟩)) HB0.out ?_;refine oH 3 (.agg #[.int .i64 k1, .string s1, .slice A3 n3 c3, .slice A4 n4 c4]) (kp4 D0.out D1.out D2.out D3.out) HB0.out ?_;refine tk 4 (.slice (some ⟨b2,o2,none⟩) n c2) HB0.out ?_;refine tk 5 (.int .i64 i) HB0.out ?_;refine tk 6 (.pointer (some ⟨b2,o2+i*4,none⟩)) HB0.out ?_;refine oH 7 (.agg #[.int .i64 k2, .string s2, .slice A5 n5 c5, .slice A6 n6 c6]) (kp4 E0.out E1.out E2.out E3.out) HB0.out ?_;refine wpAnyH_ready (rs:=[8]) (by kernel_rfl) (by simp) ?_;refine AllReadyH.cons rfl (fun K hK=> ?_) (AllReadyH.nil);go_simp;refine(HC.out _ HB0.out).mono ?_;rintro e w2 ⟨rfl,hb⟩;have HB2:=hid (HB0.out.trans (hb.mono HB0.out.size));clear hb;refine hK.out _ _ HB2.out (fun _=> ?_);clear hK K
   try simp only [Act.put,sq]
   refine tk 9 (.bool true) HB2.out ?_;refine wpAnyH_done (by kernel_rfl) ?_ _;go_wp2_with fail
   go_roundw
   case rel=>exact⟨i+1,rfl,by omega,FL.out.trans (HB2.out.mono FL.out.size)⟩
   case measure=>simp [intOf];omega
  ·obtain rfl:i=n:=by omega
   clear hbr hlt;go_wp2_with fail;go_ret;exact⟨rfl,FL.out⟩
theorem Ot (k:Int) (nm:Bt) (ns:List Bt) (ks:List bT) (H:∀t∈ks,Fv t):Fv (.mk k nm ns ks):=by
 intro w z1 z2 h1 h2;obtain⟨A1,c1,A2,c2,xk,rfl,s1,s2,r2⟩:=h1.parts;obtain⟨A3,c3,A4,c4,xk',rfl,s3,s4,r4⟩:=h2.parts;obtain⟨W,hW⟩:∃W,(w.alloc (.cells #[.int .i64 k,sv nm, .slice A1 ns.length c1, .slice A2 ks.length c2] 57)).alloc (.cells #[.int .i64 k,sv nm, .slice A3 ns.length c3, .slice A4 ks.length c4] 57)=W:=⟨_,rfl⟩
 have hb2:Below w.heap.size w W:=by rw [←hW];exact((Below.refl _ _).alloc (Nat.le_refl _) _).alloc (by simp) _
 have hbx:=oU w (.cells #[.int .i64 k,sv nm, .slice A1 ns.length c1, .slice A2 ks.length c2] 57) (.cells #[.int .i64 k,sv nm, .slice A3 ns.length c3, .slice A4 ks.length c4] 57);rw [hW]at hbx;have HX:=hid hbx.1;have HY:=hid hbx.2;have HB2:=hid hb2;have HT:=hid (Fw _ _ ns W (Ss.more (s1.below hb2) hb2.size) (Ss.more (s3.below hb2) hb2.size));have HK:=hid (fun(w1:World) (h:Below W.heap.size W w1)=>zP ks H w1 _ _ _ _ (Sl.more (Sl.below (Sl.more (Sl.below s2 hb2) hb2.size) h) h.size) ((r2.far (Nat.le_refl _) hb2).far (Nat.le_refl _) h) (Sl.more (Sl.below (Sl.more (Sl.below s4 hb2) hb2.size) h) h.size) ((r4.far (Nat.le_refl _) hb2).far (Nat.le_refl _) h));have l1:=(eF s2).2;generalize ns.length=n1 at*
 generalize ks.length=n2 at*
 clear h1 h2 s1 s2 s3 s4 r2 r4 hbx hb2;have hsz:w.heap.size+1<W.heap.size:=block_lt HY.out;obtain⟨x0,x1,x2,x3⟩:=Cz HX.out;obtain⟨y0,y1,y2,y3⟩:=Cz HY.out;go_enter Tryz.func85,Tryz.ntmps85;go_wp2_with fail;refine HT.out.mono ?_;rintro e w2 ⟨rfl,hb⟩;have HB3:=hid hb;have x0:=kb hb x0;have x1:=kb hb x1;have x3:=kb hb x3;have y0:=kb hb y0;have y1:=kb hb y1;have y3:=kb hb y3;clear hb;go_wp2_with fail;refine(HK.out _ HB3.out).mono ?_;rintro e w3 ⟨rfl,hb⟩;have uM:=hid (HB3.out.trans (hb.mono HB3.out.size));have x0:=kb hb x0;have x1:=kb hb x1;have y0:=kb hb y0;have y1:=kb hb y1;clear hb;go_wp2_with fail;go_ret;exact⟨rfl,HB2.out.trans (uM.out.mono HB2.out.size)⟩
theorem KR (t:bT):Fv t:=by
 have h:∀(n:Nat) (t:bT),SizeOf.sizeOf t≤n→Fv t:=by
  intro n;induction n with
  | zero=>intro t ht;cases t;simp at ht
  | succ n ih=>
   intro t ht;obtain⟨k,nm,ns,ks⟩:=t;refine Ot k nm ns ks fun x hx=>ih x ?_;have:=List.sizeOf_lt_of_mem hx;simp at ht;omega
 exact h _ t (Nat.le_refl _)
theorem Ou (l:List bT) (w:World) (v1 v2:Value) (x1 x2:List Value) (h1:Sl w w.heap.size 4 v1 x1) (r1:iP w w.heap.size x1 l) (h2:Sl w w.heap.size 4 v2 x2) (r2:iP w w.heap.size x2 l):
  Calls Tryz.prog 52 #[v1,v2] w fun e w'=>e= .returned (.bool true)∧Below w.heap.size w w':=zP l (fun t _=>KR t) w v1 v2 x1 x2 h1 r1 h2 r2
def Ji (x:bX):Prop:=∀(w:World) (z1 z2:List Value),rT w w.heap.size z1 x→rT w w.heap.size z2 x→
 Calls Tryz.prog 23 #[.agg z1.toArray, .agg z2.toArray] w fun e w'=>e= .returned (.bool true)∧Below w.heap.size w w'
theorem KS (k:Int) (text:Bt) (n line col:Int) (ts:List bT) (ns:List Bt) (ks:List bX) (H:∀t∈ks,Ji t):Ji (.mk k text n line col ts ns ks):=by
 intro w z1 z2 h1 h2;obtain⟨A1,c1,A2,c2,A3,c3,xt,xk,rfl,s1,r1,s2,s3,r3⟩:=h1.parts;obtain⟨A4,c4,A5,c5,A6,c6,xt',xk',rfl,s4,r4,s5,s6,r6⟩:=h2.parts;obtain⟨W,hW⟩:∃W,(w.alloc (.cells #[.int .i64 k,sv text, .int .i64 n, .int .i64 line, .int .i64 col, .slice A1 ts.length c1, .slice A2 ns.length c2, .slice A3 ks.length c3] 52)).alloc (.cells #[.int .i64 k,sv text, .int .i64 n, .int .i64 line, .int .i64 col, .slice A4 ts.length c4, .slice A5 ns.length c5, .slice A6 ks.length c6] 52)=W:=⟨_,rfl⟩
 have hb2:Below w.heap.size w W:=by rw [←hW];exact((Below.refl _ _).alloc (Nat.le_refl _) _).alloc (by simp) _
 have hbx:=oU w (.cells #[.int .i64 k,sv text, .int .i64 n, .int .i64 line, .int .i64 col, .slice A1 ts.length c1, .slice A2 ns.length c2, .slice A3 ks.length c3] 52) (.cells #[.int .i64 k,sv text, .int .i64 n, .int .i64 line, .int .i64 col, .slice A4 ts.length c4, .slice A5 ns.length c5, .slice A6 ks.length c6] 52);rw [hW]at hbx;have HX:=hid hbx.1;have HY:=hid hbx.2;have HB2:=hid hb2;have HT:=hid (Fw _ _ ns W (Ss.more (s2.below hb2) hb2.size) (Ss.more (s5.below hb2) hb2.size));have HK:=hid (fun(w1:World) (h:Below W.heap.size W w1)=>Ou ts w1 _ _ _ _ (Sl.more (Sl.below (Sl.more (Sl.below s1 hb2) hb2.size) h) h.size) ((r1.far (Nat.le_refl _) hb2).far (Nat.le_refl _) h) (Sl.more (Sl.below (Sl.more (Sl.below s4 hb2) hb2.size) h) h.size) ((r4.far (Nat.le_refl _) hb2).far (Nat.le_refl _) h));have Hq:=hid (Sl.more (Sl.below s3 hb2) hb2.size);have Pv:=hid (Sl.more (Sl.below s6 hb2) hb2.size);have HR3:=hid (r3.far (Nat.le_refl _) hb2);have Cb:=hid (r6.far (Nat.le_refl _) hb2);have HH:=hid H;have l1:=(eF s3).2;have l2:=(eF s6).2;obtain⟨n4,Z6⟩:∃x,ks.length=x:=⟨_,rfl⟩
 rw [Z6]at HX HY Hq Pv l1 l2 hW;rw [Z6];have OI:=hid Z6;generalize ts.length=n2 at*
 generalize ns.length=n3 at*
 clear h1 h2 s1 s2 s3 s4 s5 s6 r1 r3 r4 r6 hbx hb2 H Z6;have hsz:w.heap.size+1<W.heap.size:=block_lt HY.out;obtain⟨x0,x1,x2,x3,x4,x5,x6,x7⟩:=jB HX.out;obtain⟨y0,y1,y2,y3,y4,y5,y6,y7⟩:=jB HY.out;go_enter Tryz.func23,Tryz.ntmps23;go_wp2_with fail;refine HT.out.mono ?_;rintro e w2 ⟨rfl,hb⟩;have HB3:=hid hb;have x0:=kb hb x0;have y0:=kb hb y0;have x1:=kb hb x1;have y1:=kb hb y1;have x2:=kb hb x2;have y2:=kb hb y2;have x3:=kb hb x3;have y3:=kb hb y3;have x4:=kb hb x4;have y4:=kb hb y4;have x5:=kb hb x5;have y5:=kb hb y5;have x7:=kb hb x7;have y7:=kb hb y7;clear hb;go_wp2_with fail;refine(HK.out _ HB3.out).mono ?_;rintro e w3 ⟨rfl,hb⟩;have uM:=hid (HB3.out.trans (hb.mono HB3.out.size));have x0:=kb hb x0;have y0:=kb hb y0;have x1:=kb hb x1;have y1:=kb hb y1;have x2:=kb hb x2;have y2:=kb hb y2;have x3:=kb hb x3;have y3:=kb hb y3;have x4:=kb hb x4;have y4:=kb hb y4;have x7:=kb hb x7;have y7:=kb hb y7;clear hb;go_wp2_with fail;clear x0 x1 x2 x3 x4 x5 x6 y0 y1 y2 y3 y4 y5 y6;go_loopw [7] (fun v7 wr=>∃i:Nat,v7= .int .i64 i∧i≤n4∧Below W.heap.size W wr) (fun v7 _=>n4 - (intOf v7).toNat)
 case atStart=>exact⟨0,rfl,by omega,uM.out⟩
 case round=>
  obtain⟨i,rfl,hi,hbr⟩:=hrel;have FL:=hid hbr;have x7:=((hbr.cell (p:=⟨w.heap.size,7,none⟩) (by show w.heap.size<W.heap.size;omega)).trans (jB HX.out).2.2.2.2.2.2.2)
  have y7:=((hbr.cell (p:=⟨w.heap.size+1,7,none⟩) hsz).trans (jB HY.out).2.2.2.2.2.2.2)
  by_cases hlt:i<n4
  ·have hil:i<ks.length:=by rw [OI.out];exact hlt
   obtain⟨b1,o1,k1,s1,a1,a2,a3,P1,m1,e1,P2,m2,e2,P3,m3,e3,rfl,q1,d0,d1,d2,d3,d4,d5,d6,d7⟩:=yu (Sl.more (Sl.below Hq.out hbr) hbr.size) ((HR3.out.keep hbr).more hbr.size) hil OI.out.symm;obtain⟨b2,o2,k2,s2,a4,a5,a6,P4,m4,e4,P5,m5,e5,P6,m6,e6,rfl,q2,f0,f1,f2,f3,f4,f5,f6,f7⟩:=yu (Sl.more (Sl.below Pv.out hbr) hbr.size) ((Cb.out.keep hbr).more hbr.size) hil OI.out.symm;have HC:=hid (fun(w1:World) (h:Below wr.heap.size wr w1)=>HH.out _ (List.getElem_mem hil) w1 _ _ (q1.far (Nat.le_refl _) h) (q2.far (Nat.le_refl _) h));have D0:=hid d0;have E0:=hid f0;have D1:=hid d1;have E1:=hid f1;have D2:=hid d2;have E2:=hid f2;have D3:=hid d3;have E3:=hid f3;have D4:=hid d4;have E4:=hid f4;have D5:=hid d5;have E5:=hid f5;have D6:=hid d6;have E6:=hid f6;have D7:=hid d7;have E7:=hid f7;have X7:=hid x7;have Y7:=hid y7;have HB0:Hid (Below wr.heap.size wr wr.drew):=hid (aJ wr 1);clear q1 q2 d0 d1 d2 d3 d4 d5 d6 d7 f0 f1 f2 f3 f4 f5 f6 f7 hbr;go_wp2_with fail;refine wp_region_held_drew (S:=fun w'=>Below wr.heap.size wr w') (by kernel_rfl) HB0.out (fun _=> ?_)
   try simp only [Act.put,sq]
   refine tk 0 (.pointer (some ⟨w.heap.size,7,none⟩)) HB0.out ?_;refine oH 1 (.slice (some ⟨b1,o1,none⟩) n4 c3) (JW X7.out) HB0.out ?_;refine tk 2 (.int .i64 i) HB0.out ?_;refine tk 3 (.pointer (some ⟨b1,o1+i*8,none⟩)) HB0.out ?_;refine oH 4 (.agg #[.int .i64 k1, .string s1, .int .i64 a1, .int .i64 a2, .int .i64 a3, .slice P1 m1 e1, .slice P2 m2 e2, .slice P3 m3 e3]) (kp8 D0.out D1.out D2.out D3.out D4.out D5.out D6.out D7.out) HB0.out ?_;refine tk 5 (.pointer (some ⟨w.heap.size+1,7,none⟩)) HB0.out ?_;refine oH 6 (.slice (some ⟨b2,o2,none⟩) n4 c6) (JW Y7.out) HB0.out ?_;refine tk 7 (.int .i64 i) HB0.out ?_;refine tk 8 (.pointer (some ⟨b2,o2+i*8,none⟩)) HB0.out ?_;refine oH 9 (.agg #[.int .i64 k2, .string s2, .int .i64 a4, .int .i64 a5, .int .i64 a6, .slice P4 m4 e4, .slice P5 m5 e5, .slice P6 m6 e6]) (kp8 E0.out E1.out E2.out E3.out E4.out E5.out E6.out E7.out) HB0.out ?_;refine wpAnyH_ready (rs:=[10]) (by kernel_rfl) (by simp) ?_;refine AllReadyH.cons rfl (fun K hK=> ?_) (AllReadyH.nil);go_simp;refine(HC.out _ HB0.out).mono ?_;rintro e w2 ⟨rfl,hb⟩;have HB2:=hid (HB0.out.trans (hb.mono HB0.out.size));clear hb;refine hK.out _ _ HB2.out (fun _=> ?_);clear hK K
   try simp only [Act.put,sq]
   refine tk 11 (.bool true) HB2.out ?_;refine wpAnyH_done (by kernel_rfl) ?_ _;go_wp2_with fail
   go_roundw
   case rel=>exact⟨i+1,rfl,by omega,FL.out.trans (HB2.out.mono FL.out.size)⟩
   case measure=>simp [intOf];omega
  ·obtain rfl:i=n4:=by omega
   clear hbr hlt;go_wp2_with fail;go_ret;exact⟨rfl,HB2.out.trans (FL.out.mono HB2.out.size)⟩
theorem KU (t:bX):Ji t:=by
 have h:∀(n:Nat) (t:bX),SizeOf.sizeOf t≤n→Ji t:=by
  intro n;induction n with
  | zero=>intro t ht;cases t;simp at ht
  | succ n ih=>
   intro t ht;obtain⟨k,text,n1,line,col,ts,ns,ks⟩:=t;refine KS k text n1 line col ts ns ks fun x hx=>ih x ?_;have:=List.sizeOf_lt_of_mem hx;simp at ht;omega
 exact h _ t (Nat.le_refl _)
def Sep (x:Int ×Bt) (r:Bt):Prop:=match r with
 | []=>True
 | d :: _=>x.1=4∨(x.1=5∧(x.2.length=2∨[x.2.headD 0,d] ∉ bN))∨aY d=false∧x.1≠5
inductive Pc where
 | tok (k:Int) (t:Bt):Pc
 | sp:Pc
 | nl:Pc
def Pc.text:Pc→Bt
 | .tok k t=>rO (k,t)
 | .sp=>[32]
 | .nl=>[10]
def Pc.Zn:Pc→Option (Int ×Bt)
 | .tok k t=>some (k,t)
 | _=>none
def Jj (l:List Pc):Bt:=l.flatMap Pc.text
def Ov (l:List Pc):List (Int ×Bt):=l.filterMap Pc.Zn
theorem Hy (p:Pc) (l:List Pc):Jj (p :: l)=p.text++Jj l:=by unfold Jj;rw [List.flatMap_cons]
def OkP:List Pc→Prop
 | []=>True
 | .tok k t :: l=>Good (k,t)∧Sep (k,t) (Jj l)∧OkP l
 | _ :: l=>OkP l
theorem KV {x:Int ×Bt} (h:Good x):∃c r,rO x=c :: r:=by
 unfold Good at h;cases hw:rO x with
 | nil=>rw [hw]at h;simp [dJ]at h
 | cons c r=>exact⟨c,r,rfl⟩
def Jk (d:Nat) (x:Int ×Bt):Option Nat:=
 if x.1=5 then
  (if x.2=[40]∨x.2=[91]∨x.2=[123]then some (d+1)
   else if x.2=[41]∨x.2=[93]∨x.2=[125]then(if d=0 then none else some (d - 1))
   else some d)
 else some d
def wQ (d:Nat) (l:List (Int ×Bt)):Option Nat:=l.foldlM Jk d
theorem Hz (d:Nat) (x:Int ×Bt) (l:List (Int ×Bt)):wQ d (x :: l)=(Jk d x).bind fun e=>wQ e l:=by unfold wQ;rw [List.foldlM_cons];rfl
theorem CS (d:Nat) (a b:List (Int ×Bt)):wQ d (a++b)=(wQ d a).bind fun e=>wQ e b:=by unfold wQ;rw [List.foldlM_append];rfl
def Ow (l:List (Int ×Bt)):Prop:=∀d,wQ d l=some d
theorem Ow.nil:Ow []:=fun _=>rfl
theorem Ow.append {a b:List (Int ×Bt)} (ha:Ow a) (hb:Ow b):Ow (a++b):=fun d=>by rw [CS,ha d];exact hb d
theorem Ow.one {k:Int} {t:Bt} (h:k≠5∨(t≠[40]∧t≠[91]∧t≠[123]∧t≠[41]∧t≠[93]∧t≠[125])):Ow [(k,t)]:=by
 intro d;rw [Hz];have:Jk d (k,t)=some d:=by
  unfold Jk;by_cases hk:k=5
  ·rw [if_pos hk];rcases h with h | ⟨h1,h2,h3,h4,h5,h6⟩
   ·exact absurd hk h
   ·rw [if_neg (by simp [h1,h2,h3]),if_neg (by simp [h4,h5,h6])]
  ·rw [if_neg hk]
 rw [this];rfl
def Dk:Pc→Nat
 | .tok k t=>if k=5 then(if t=[40]∨t=[91]∨t=[123]then 3 else 2)else if k=4 then 3 else 1
 | _=>0
def OT:Pc→Nat
 | .tok k t=>if k=5 then(if t.length=2∨(t.headD 0).toNat ∉ [45,61,60,62,43]then 0 else 2)else if k=4 then 0 else 1
 | _=>0
theorem Jl (k:Int) (t:Bt):Dk (.tok k t)=if k=5 then(if t=[40]∨t=[91]∨t=[123]then 3 else 2)else if k=4 then 3 else 1:=rfl
theorem Jm (k:Int) (t:Bt):OT (.tok k t)=if k=5 then(if t.length=2∨(t.headD 0).toNat ∉ [45,61,60,62,43]then 0 else 2)else if k=4 then 0 else 1:=rfl
def Ox (r l:Nat):Bool:=match r with
 | 0=>true
 | 1=>l==0 || l==2 || l==3
 | _=>l==0 || l==1 || l==3 || l==4
def Fx:Pc→Prop
 | .tok k t=>Good (k,t)∧1≤k∧k≤5
 | _=>True
def KW:List Pc→Prop
 | []=>True
 | p :: l=>Fx p∧(∀q,l.head? =some q→Ox (OT p) (Dk q)=true)∧KW l
theorem Fy:∀m∈bN,(m.headD 0).toNat∈[45,61,60,62,43]:=by decide
theorem Au:∀m∈bN,(m.getD 1 0).toNat∈[62,58,60,61,43]:=by decide
theorem H6 {k:Int} {t:Bt} (h:Good (k,t)) (h1:1≤k) (h5:k≤5):∃d r,rO (k,t)=d :: r∧((k=1∨k=2∨k=3)→aY d=true)∧(k=4→d.toNat=34)∧(k=5→aY d=false∧d=t.headD 0):=by
 obtain⟨c,r,hc⟩:=KV h;refine⟨c,r,hc, ?_⟩;unfold Good at h;rw [hc,dJ]at h;by_cases hl:dI c=true
 ·rw [if_pos hl]at h;have hi:aY c=true:=by unfold aY;rw [hl];rfl
  have hk:k=1∨k=2:=by
   repeat' split at h
   all_goals first | cases h;done | (injection h with h;simp only [Prod.mk.injEq]at h;omega)
  exact⟨fun _=>hi,fun h=>by omega,fun h=>by omega⟩
 ·rw [if_neg hl]at h;by_cases hd:bE c=true
  ·rw [if_pos hd]at h;have hi:aY c=true:=by unfold aY;rw [hd];simp
   have hk:k=3:=by
    repeat' split at h
    all_goals first | cases h;done | (injection h with h;simp only [Prod.mk.injEq]at h;omega)
   exact⟨fun _=>hi,fun h=>by omega,fun h=>by omega⟩
  ·rw [if_neg hd]at h;have hi:aY c=false:=by unfold aY;simp [hl,hd]
   by_cases vX:c.toNat=34
   ·rw [if_pos vX]at h;have hk:k=4:=by
     repeat' split at h
     all_goals first | cases h;done | (injection h with h;simp only [Prod.mk.injEq]at h;omega)
    exact⟨fun h=>by omega,fun _=>vX,fun h=>by omega⟩
   ·rw [if_neg vX]at h;split at h
    ·injection h with h;simp only [Prod.mk.injEq]at h;refine⟨fun h=>by omega,fun h=>by omega,fun _=>⟨hi, ?_⟩⟩;rw [←h.2.1];rfl
    ·split at h
     ·injection h with h;simp only [Prod.mk.injEq]at h;refine⟨fun h=>by omega,fun h=>by omega,fun _=>⟨hi, ?_⟩⟩;rw [←h.2.1];rfl
     ·cases h
theorem QT {k:Int} {t:Bt} {q:Pc} {r:Bt} (hp:Fx (.tok k t)) (hq:Fx q) (ha:Ox (OT (.tok k t)) (Dk q)=true):Sep (k,t) (q.text++r):=by
 obtain⟨hg,h1,h5⟩:=hp;have hne:∃d x,q.text++r=d :: x∧(Dk q=0→bJ d=true)∧(Dk q=2→aY d=false)∧(Dk q=1→aY d=true)∧(Dk q=3→d.toNat=34∨d.toNat=40∨d.toNat=91∨d.toNat=123):=by
  cases q with
  | sp=>exact⟨32,r,rfl,fun _=>by decide,fun h=>absurd h (by decide),fun h=>absurd h (by decide),fun h=>absurd h (by decide)⟩
  | nl=>exact⟨10,r,rfl,fun _=>by decide,fun h=>absurd h (by decide),fun h=>absurd h (by decide),fun h=>absurd h (by decide)⟩
  | tok k2 t2=>
   obtain⟨d,x,e,e1,e2,e3⟩:=H6 hq.1 hq.2.1 hq.2.2;refine⟨d,x++r,by show rO (k2,t2)++r= _;rw [e];rfl, ?_, ?_, ?_, ?_⟩
   all_goals
    rw [Jl];by_cases hk5:k2=5
    ·rw [if_pos hk5];by_cases ht:t2=[40]∨t2=[91]∨t2=[123]
     ·rw [if_pos ht];have hd:=(e3 hk5).2;intro h
      first
       | omega
       | (rcases ht with rfl | rfl | rfl <;> simp at hd <;> subst hd <;> simp)
     ·rw [if_neg ht];intro h
      first
       | omega
       | exact(e3 hk5).1
    ·rw [if_neg hk5];by_cases hk4:k2=4
     ·rw [if_pos hk4];intro h
      first
       | omega
       | exact .inl (e2 hk4)
     ·rw [if_neg hk4];have hq1:=hq.2.1;have hq2:=hq.2.2;intro h
      first
       | omega
       | exact e1 (by omega)
 obtain⟨d,x,e,e0,e2,e1,e3⟩:=hne;rw [e];show k=4∨(k=5∧(t.length=2∨[t.headD 0,d] ∉ bN))∨aY d=false∧k≠5;have hi0:Dk q=0→aY d=false:=fun h=>(vW (e0 h)).1;have hi3:Dk q=3→aY d=false:=fun h=>by
  have:=e3 h;unfold aY dI bE;simp only [Bool.or_eq_false_iff,Bool.and_eq_false_iff,decide_eq_false_iff_not];omega
 by_cases hk5:k=5
 ·refine .inr (.inl ⟨hk5, ?_⟩);by_cases ht:t.length=2
  ·exact .inl ht
  ·refine .inr fun hm=> ?_;have hs:=Fy _ hm;have hs2:=Au _ hm;simp only [List.headD_cons]at hs;rw [show([t.headD 0,d]:Bt).getD 1 0=d from rfl]at hs2;have hr:OT (.tok k t)=2:=by
    rw [Jm];rw [if_pos hk5,if_neg];rintro(h | h)
    ·exact ht h
    ·exact h hs
   rw [hr]at ha;have ha2:Dk q=0∨Dk q=1∨Dk q=3:=by
    have hl4:Dk q≠4:=by
     cases q with
     | tok k2 t2=>rw [Jl];(repeat' split);all_goals omega
     | sp=>decide
     | nl=>decide
    unfold Ox at ha;simp only [Bool.or_eq_true,beq_iff_eq]at ha;omega
   have hd:d.toNat=62∨d.toNat=58∨d.toNat=60∨d.toNat=61∨d.toNat=43:=by simpa using hs2
   rcases ha2 with h | h | h
   ·have:=e0 h;unfold bJ at this;simp only [Bool.or_eq_true,decide_eq_true_eq]at this;omega
   ·have:=e1 h;unfold aY dI bE at this;simp only [Bool.or_eq_true,Bool.and_eq_true,decide_eq_true_eq]at this;omega
   ·have:=e3 h;omega
 ·by_cases hk4:k=4
  ·exact .inl hk4
  ·refine .inr (.inr ⟨?_,hk5⟩);have hr:OT (.tok k t)=1:=by rw [Jm];rw [if_neg hk5,if_neg hk4]
   rw [hr]at ha;unfold Ox at ha;simp only [Bool.or_eq_true,beq_iff_eq]at ha;rcases ha with(h | h) | h
   ·exact hi0 h
   ·exact e2 h
   ·exact hi3 h
theorem KW.ok:∀ {l:List Pc},KW l→OkP l
 | [], _=>trivial
 | .sp :: l,h=>KW.ok (l:=l) h.2.2
 | .nl :: l,h=>KW.ok (l:=l) h.2.2
 | .tok k t :: l,h=>by
  refine⟨h.1.1, ?_,KW.ok h.2.2⟩;cases l with
  | nil=>trivial
  | cons q l=>
   rw [Hy];exact QT h.1 h.2.2.1 (h.2.1 q rfl)
def WP (l:List Pc):Prop:=KW l∧(∃p,l.head? =some p∧(Dk p=1∨Dk p=3))∧(∃p,l.getLast? =some p∧(OT p=0∨OT p=1))∧Ow (Ov l)
def VP (l:List Pc):Prop:=KW l∧(∀p,l.head? =some p→Dk p=2∨Dk p=3)∧(∀p,l.getLast? =some p→OT p=0∨OT p=1)∧Ow (Ov l)
def EP (l:List Pc):Prop:=l=[]∨WP l
inductive Sg where
 | p (x:Pc):Sg
 | u (l:List Pc):Sg
 | v (l:List Pc):Sg
 | e (l:List Pc):Sg
 | w (x:Pc):Sg
def Sg.Is:Sg→Prop
 | .p x=>Fx x
 | .u l=>WP l
 | .v l=>VP l
 | .e l=>EP l
 | .w x=>Fx x∧Ow (Ov [x])
theorem KW.append:∀ {a b:List Pc},KW a→KW b→(∀p q,a.getLast? =some p→b.head? =some q→Ox (OT p) (Dk q)=true)→KW (a++b)
 | [],b, _,hb, _=>hb
 | [p],b,ha,hb,h=>⟨ha.1,fun q hq=>h p q rfl hq,hb⟩
 | p :: p2 :: a,b,ha,hb,h=>⟨ha.1,fun q hq=>ha.2.1 q hq,KW.append (a:=p2 :: a) ha.2.2 hb (fun x y hx hy=>h x y (by rw [List.getLast?_cons_cons];exact hx) hy)⟩
inductive Fz (m:Nat):bT→Prop
 | base {k:Int}:0≤k→k≤4→Fz m (.mk k [] [] [])
 | Lj {ns:List Bt} {ks:List bT}:ns.all dS=true→(∀t∈ks,bf m t=true)→ns.length=ks.length→Fz m (.mk 5 [] ns ks)
 | ag3 {a b:bT}:bf m a=true→bf m b=true→Fz m (.mk 6 [] [] [a,b])
 | union {a b:bT} {l:List bT}:(∀t∈a :: b :: l,bf m t=true)→Fz m (.mk 7 [] [] (a :: b :: l))
 | var {nm:Bt}:dS nm=true→Fz m (.mk 8 nm [] [])
inductive iY (m:Nat):bX→Prop
 | int {n li co:Int}:0≤n→n≤9223372036854775807→iY m (.mk 0 [] n li co [] [] [])
 | str {t:Bt} {li co:Int}:zT t=true→iY m (.mk 1 t 0 li co [] [] [])
 | bool {n li co:Int}:n=0∨n=1→iY m (.mk 2 [] n li co [] [] [])
 | null {li co:Int}:iY m (.mk 3 [] 0 li co [] [] [])
 | name {t:Bt} {li co:Int}:dS t=true→iY m (.mk 4 t 0 li co [] [] [])
 | ag4 {t:Bt} {li co:Int} {a b:bX}:dS t=true→dP m a=true→dP m b=true→iY m (.mk 5 t 0 li co [] [] [a,b])
 | ag5 {t:Bt} {li co:Int} {x:bT} {a b:bX}:dS t=true→bf 16 x=true→dP m a=true→dP m b=true→iY m (.mk 5 t 0 li co [x] [] [a,b])
 | fn1 {t:Bt} {li co:Int} {x:bT} {a:bX}:dS t=true→bf 16 x=true→dP m a=true→iY m (.mk 6 t 0 li co [x] [] [a])
 | fn2 {t:Bt} {li co:Int} {x y:bT} {a:bX}:dS t=true→bf 16 x=true→bf 16 y=true→dP m a=true→iY m (.mk 6 t 0 li co [x,y] [] [a])
 | call {li co:Int} {a b:bX}:dP m a=true→dP m b=true→iY m (.mk 7 [] 0 li co [] [] [a,b])
 | Lj {li co:Int} {ns:List Bt} {ks:List bX}:ns.all dS=true→(∀x∈ks,dP m x=true)→ns.length=ks.length→iY m (.mk 8 [] 0 li co [] ns ks)
 | sel {t:Bt} {li co:Int} {a:bX}:dS t=true→dP m a=true→iY m (.mk 9 t 0 li co [] [] [a])
 | with_ {t:Bt} {li co:Int} {a b:bX}:dS t=true→dP m a=true→dP m b=true→iY m (.mk 10 t 0 li co [] [] [a,b])
 | if_ {li co:Int} {a b c:bX}:dP m a=true→dP m b=true→dP m c=true→iY m (.mk 11 [] 0 li co [] [] [a,b,c])
 | is_ {n li co:Int} {a:bX}:0≤n→n≤5→dP m a=true→iY m (.mk 12 [] n li co [] [] [a])
 | as_ {li co:Int} {x:bT} {a:bX}:bf 16 x=true→dP m a=true→iY m (.mk 13 [] 0 li co [x] [] [a])
 | op_ {t:Bt} {li co:Int} {a b:bX}:t∈opsL→dP m a=true→dP m b=true→iY m (.mk 14 t 0 li co [] [] [a,b])
 | not_ {li co:Int} {a:bX}:dP m a=true→iY m (.mk 15 [] 0 li co [] [] [a])
 | ag6 {li co:Int} {a:bX}:dP m a=true→iY m (.mk 16 [] 0 li co [] [] [a])
 | adv {li co:Int} {a:bX}:dP m a=true→iY m (.mk 17 [] 0 li co [] [] [a])
 | aeJ {li co:Int}:iY m (.mk 18 [] 0 li co [] [] [])
 | inst {t:Bt} {li co:Int} {x:bT} {ts:List bT}:dS t=true→(∀y∈x :: ts,bf 16 y=true)→iY m (.mk 19 t 0 li co (x :: ts) [] [])
abbrev KT:=Int ×Bt
theorem QU {m:List aD} {k:Int} {s:Bt} {l:List KT} (h:m.map SX=(k,s) :: l):∃t m',m=t :: m'∧t.kind=k∧t.text=s∧m'.map SX=l:=by
 cases m with
 | nil=>cases h
 | cons t m=>
  rw [List.map_cons]at h;injection h with h1 h2;injection h1 with h3 h4;exact⟨t,m,rfl,h3,h4,h2⟩
def isK (k:Int) (s s':Bt):Bool:=(k==2 || k==5) && s==s'
theorem Vv {t:aD} {k:Int} {s:Bt} (h1:t.kind=k) (h2:t.text=s):jc t=isK k s:=by
 funext s';unfold jc isK;rw [h1,h2]
theorem QV {t:aD} {k:Int} {s:Bt} (h1:t.kind=k) (h2:t.text=s) (s':Bt):jc t s'=isK k s s':=by rw [Vv h1 h2]
def uT (l:List Bt) (r:List aD):Prop:=∀s∈l,jc (aQ r) s=false
theorem CU {l:List Bt} {t:aD} {r:List aD} {k:Int} {s:Bt} (h1:t.kind=k) (h2:t.text=s) (h:l.all (fun s'=> !isK k s s')=true):uT l (t :: r):=by
 intro s' hs;have:=List.all_eq_true.1 h s' hs;rw [show aQ (t :: r)=t from rfl,QV h1 h2];simpa using this
theorem uT.sub {l l':List Bt} {r:List aD} (h:uT l r) (hs:∀s∈l',s∈l):uT l' r:=fun s hm=>h s (hs s hm)
def Oy:List Bt:=[[108,101,116],[105,102],[102,110],[45],[110,111,116]]
def oV (l:List KT):Prop:=∃k s r,l=(k,s) :: r∧Oy.all (fun s'=> !isK k s s')=true∧(k=1→r=[]∨∃s2 r2,r=(5,s2) :: r2∧s2≠[58])
theorem oV.more {l r:List KT} (h:oV l) {s:Bt} (hs:s≠[58]):oV (l++(5,s) :: r):=by
 obtain⟨k,s0,r0,rfl,h1,h2⟩:=h;refine⟨k,s0,r0++(5,s) :: r,rfl,h1,fun h=> ?_⟩;rcases h2 h with rfl | ⟨s2,r2,rfl,h3⟩
 ·exact .inr ⟨s,r,rfl,hs⟩
 ·exact .inr ⟨s2, _,rfl,h3⟩
theorem oV.one {k:Int} {s:Bt} {r:List KT} (h1:Oy.all (fun s'=> !isK k s s')=true) (h2:k≠1):oV ((k,s) :: r):=⟨k,s,r,rfl,h1,fun h=>absurd h h2⟩
theorem oV.next {l:List KT} {m r:List aD} (h:oV l) (hm:m.map SX=l):uT Oy (m++r):=by
 obtain⟨k,s0,r0,rfl,h1, _⟩:=h;obtain⟨t,m',rfl,ht1,ht2, _⟩:=QU hm;exact CU ht1 ht2 h1
section
variable (li co:Int)
end
theorem Oz (w:World) (b1 b2:Nat) (z1 z2:List Value) (t:bT) (h1:sQ w w.heap.size z1 t) (h2:sQ w w.heap.size z2 t) (p1:w.heap[b1]? =some (.cells z1.toArray 57 (0,0))) (p2:w.heap[b2]? =some (.cells z2.toArray 57 (0,0))):
  Calls Tryz.prog 23 #[.agg #[.int .i64 0, .string ⟨#[]⟩, .int .i64 0, .int .i64 0, .int .i64 0, .slice (some ⟨b1,0,none⟩) 1 1, .slice none 0 0, .slice none 0 0], .agg #[.int .i64 0, .string ⟨#[]⟩, .int .i64 0, .int .i64 0, .int .i64 0, .slice (some ⟨b2,0,none⟩) 1 1, .slice none 0 0, .slice none 0 0]] w
   fun e w'=>e= .returned (.bool true)∧Below w.heap.size w w':=by
 have one:∀(b:Nat) (z:List Value),sQ w w.heap.size z t→w.heap[b]? =some (.cells z.toArray 57 (0,0))→rT w w.heap.size [.int .i64 0,sv [], .int .i64 0, .int .i64 0, .int .i64 0, .slice (some ⟨b,0,none⟩) 1 1, .slice none 0 0, .slice none 0 0] (.mk 0 [] 0 0 0 [t] [] []):=by
  intro b z h hp;obtain⟨k,s,A1,n1,c1,A2,n2,c2,rfl⟩:=h.shape;have hs:dB w (fun j=>j=b) 4 (.slice (some ⟨b,0,none⟩) 1 1) _:=gK hp 4 1 rfl (by omega);exact .mk (hs.to fun g hg _=>hg) (.cons h .nil) (Sl.nil _ _ _) (Sl.nil _ _ _) .nil
 exact KU _ w _ _ (one b1 z1 h1 p1) (one b2 z2 h2 p2)
end Go.Proofs.YtfgjkmipfikooaaGreatDoor
