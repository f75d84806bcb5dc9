/- UN5, US, HK, HL, YH, YK, YS, ZA, ZB, ZC, RW, RX -/
import Derived.Test.YtfgjkmipfikooaaGreatDoorTE27
import Derived.Test.YtfgjkmipfikooaaGreatDoorTE25
set_option linter.unusedSimpArgs false
set_option linter.unusedVariables false
set_option maxRecDepth 100000
set_option maxHeartbeats 8000000
namespace Go.Proofs.YtfgjkmipfikooaaGreatDoor
open Go.RowKit
theorem aaV (text:Bt)(n li co:Int)(ts:List bS)(ns:List Bt)(ks:List bI)(ih:∀y∈ks,ExC y):ExC (.mk 14 text n li co ts ns ks):=by
 intro w z m hr hok hnd hc hX;have hlen:=Hl _ m hnd;obtain⟨q,rfl,acW,hown,hns,hts,hkk⟩:=JJ hnd;rw [Hr,Bool.and_eq_true,Bool.and_eq_true,Bool.and_eq_true,Bool.and_eq_true,decide_eq_true_eq,decide_eq_true_eq,decide_eq_true_eq,decide_eq_true_eq]at hown;obtain⟨⟨⟨⟨hn0,hn1⟩,htx⟩,hlo,hhi⟩,hkn,hkd⟩:=hown;have htl:=Hg htx;rw [okN]at hok;obtain⟨ok1,ok2,ok3,ok4,ok5,ok6,ok7,ok8⟩:=hok;obtain⟨A1,c1,A2,c2,A3,c3,xt,xk,rfl,s1,r1,s2,s3,r3⟩:=hr.parts;have l1:=(fE s1).2;have l2:=(fE s2).2;have l3:=(fE s3).2;rw [sN]at hlen ⊢;rw [Hf]at hc hlen;have hcT:xw ts<=300000:=by omega
 have hcK:yP ks<=300000:=by omega
 have hdc:ks.length<=300000:=Nat.le_trans (CG ks) hcK;obtain⟨S,hS⟩:∃S,oG ks=S:=⟨_,rfl⟩
 have aaW:S.length=ks.length:=by rw [<-hS,sG]
 have HSG:bN (∀(i:Nat) (h:i<ks.length) (h2:i<S.length),S[i]=sN ks[i]):=aZ (by
  intro i h h2;subst hS;simp [uI])
 rw [hS]at hlen ⊢;have HKK:=aZ (And.intro s3 r3);have Rj:=aZ (And.intro s1 r1);have DU:=aZ s2;have HIH:=aZ ih;have Rh:=aZ (zQ.1 ok8);have HNK:=aZ hkk;have HCK:=aZ hcK;have HCT:=aZ hcT;have HTS:=aZ hts;have JF:=aZ hns;have HX:=aZ hX;have Oj:=ok3;clear hr s1 r1 s2 s3 r3 ih ok1 ok2 ok3 ok4 ok5 ok6 ok7 ok8 hkk hts hns hX hS hnd acW;obtain⟨a,hA⟩:∃a,ts.length=a:=⟨_,rfl⟩
 obtain⟨b,hB⟩:∃b,ns.length=b:=⟨_,rfl⟩
 obtain⟨d,hD⟩:∃d,ks.length=d:=⟨_,rfl⟩
 rw [hA]at l1 Rj hlo hhi;rw [hB]at l2 DU hkn hkd;rw [hD]at l3 HKK hkd hdc aaW;rw [hA,hB,hD];have HA:=aZ hA;have sI:=aZ hB;have HD:=aZ hD;have HSL:=aZ aaW;clear hA hB hD;have hd0:d=2:=by
  have h:(eD 14).kids=2:=rfl;rw [h]at hkd;unfold xA at hkd;rw [if_neg (by decide)]at hkd;omega
 have HD0:=aZ hd0;clear hd0 hkd hkn;obtain⟨OB,hOB⟩:∃OB,Obj.cells #[.int .i64 14,sv text,.int .i64 n,.int .i64 li,.int .i64 co,.slice A1 a c1,.slice A2 b c2,.slice A3 d c3] 52 (0,0)=OB:=⟨_,rfl⟩
 obtain⟨W,hW⟩:∃W,(w.alloc (.cells #[.int .i64 14,sv text,.int .i64 n,.int .i64 li,.int .i64 co,.slice A1 a c1,.slice A2 b c2,.slice A3 d c3] 52)).alloc (.cells #[.slice none 0 0] 25)=W:=⟨_,rfl⟩
 have aiX:bN (Ho w W OB (.slice none 0 0) (S.take 0)):=aZ (by
  rw [<-hW,<-hOB];exact⟨(uZ w _ _).2,gZ.nil _ _ _,(uZ w _ _).1,((Below.refl _ _).alloc (Nat.le_refl _) _).alloc (by simp) _⟩)
 have tq:=aZ hOB;have JC:=aZ hW;clear hW hOB;go_enter Tryz.func57,Tryz.ntmps57;go_wp2_with fail;have hW:=JC.o;rw [hW];clear hW;go_loopw [10] (fun v10 wr=>∃(i:Nat) (v:Value),v10=.int .i64 i∧i<=d∧Ho w wr OB v (S.take i)) (fun v10 _=>d - (intOf v10).toNat)
 case atStart=>exact⟨0,_,rfl,by omega,aiX.o⟩
 case round=>
  obtain⟨i,v,rfl,hi_,hat⟩:=hrel;have Ht:=aZ hat;clear hat;by_cases hlt:i<d
  ·have hil:i<ks.length:=by rw [HD.o];exact hlt
   have hiS:i<S.length:=by rw [HSL.o];exact hlt
   have hbr:=Ht.o.below;obtain⟨b2,o2,kk,ss,y2,y3,y4,A5,n5,c5,A6,n6,c6,A7,n7,c7,hA3,hr1,e0,e1,e2,e3,e4,e5,e6,e7⟩:=ED (Sl.more (Sl.below HKK.o.1 hbr) hbr.size) ((HKK.o.2.keep hbr).more hbr.size) hil HD.o.symm;obtain⟨wA,Ol⟩:∃wA,wr.alloc (.cells #[.int .i64 kk,.string ss,.int .i64 y2,.int .i64 y3,.int .i64 y4,.slice A5 n5 c5,.slice A6 n6 c6,.slice A7 n7 c7] 52)=wA:=⟨_,rfl⟩
   have Om:Below wr.heap.size wr wA:=by rw [<-Ol];exact(Below.refl _ _).alloc (Nat.le_refl _) _
   have hsA:wA.heap[wr.heap.size]? =some (.cells #[.int .i64 kk,.string ss,.int .i64 y2,.int .i64 y3,.int .i64 y4,.slice A5 n5 c5,.slice A6 n6 c6,.slice A7 n7 c7] 52 (0,0)):=by rw [<-Ol];exact heap_alloc_new wr _
   have HE:=aZ (fun w1 (h:Below wA.heap.size wA w1)=>HIH.o ks[i] (List.getElem_mem hil) w1 _ q (hr1.far (Nat.le_refl _) (Om.trans (h.mono Om.size))) (Rh.o _ (List.getElem_mem hil)) (HNK.o _ (List.getElem_mem hil)) (Nat.le_trans (Od (List.getElem_mem hil)) HCK.o) ((HX.o.below hbr).below (Om.trans (h.mono Om.size))));rw [<-HSG.o i hil hiS]at HE;have HST:=aZ (G8 hiS);have HLT:bN (∀g,v.ownBlock=some g->g<wr.heap.size):=aZ (fun g hg=>(Ht.o.own.lt g hg).2);have HBD:bN (Below wA.heap.size wA wA.drew):=aZ (aP wA 1);have nI:bN (Below wr.heap.size wr wA.drew):=aZ (Om.trans (HBD.o.mono Om.size));have Pp:bN (wA.drew.heap[wr.heap.size]? =some (.cells #[.int .i64 kk,.string ss,.int .i64 y2,.int .i64 y3,.int .i64 y4,.slice A5 n5 c5,.slice A6 n6 c6,.slice A7 n7 c7] 52 (0,0))):=aZ hsA;have gk:=(Ht.o.far nI.o).cell;have hA:=aZ Ol;obtain⟨Av,nv,cv,rfl⟩:=iT Ht.o.own.ss;generalize S[i]=X at*
   generalize ks[i]=kx at*
   clear hbr hr1 Om hsA hil Ol;subst hA3;go_wp2_with fail;have Ol:=hA.o;rw [Ol];clear Ol e0 e1 e2 e3 e4 e5 e6 e7;refine wp_region_held_drew (S:=fun w'=>w'.heap[wr.heap.size]? =some (.cells #[.int .i64 kk,.string ss,.int .i64 y2,.int .i64 y3,.int .i64 y4,.slice A5 n5 c5,.slice A6 n6 c6,.slice A7 n7 c7] 52 (0,0))) (by kernel_rfl) Pp.o (fun _=>?_)
   try simp only [Act.put,sq]
   refine wpAnyH_take (i:=1) (v:=(.agg #[.int .i64 kk,.string ss,.int .i64 y2,.int .i64 y3,.int .i64 y4,.slice A5 n5 c5,.slice A6 n6 c6,.slice A7 n7 c7])) rfl (by kernel_rfl) (by kernel_rfl) (by kernel_rfl) (fun _ _ _ h=>h) (Or.inl ⟨by kernel_rfl,by intro w' hSw;obtain⟨u0,u1,u2,u3,u4,u5,u6,u7⟩:=lQ hSw;go_simp⟩) Pp.o ?_
   try simp only [Act.put,sq]
   refine wpAnyH_ready (rs:=[0,2]) (by kernel_rfl) (by simp) ?_;refine AllReadyH.cons rfl (fun K hK=>?_) (AllReadyH.cons rfl (fun K hK=>?_) AllReadyH.nil)
   ·go_simp;refine hK.out _ _ Pp.o (fun _=>?_);clear hK K
    try simp only [Act.put,sq]
    refine wpAnyH_ready (rs:=[2]) (by kernel_rfl) (by simp) ?_;refine AllReadyH.cons rfl (fun K hK=>?_) AllReadyH.nil;go_simp;refine(HE.o _ HBD.o).mono ?_;rintro e w2 ⟨rfl,hb⟩;have uo:=nI.o.trans (hb.mono nI.o.size);have Ee:=aZ (Ht.o.far uo);have HS2:=aZ ((hb.block _ (block_lt Pp.o)).trans Pp.o);clear hb uo;refine hK.out _ _ HS2.o (fun _=>?_);clear hK K
    try simp only [Act.put,sq]
    refine wpAnyH_ready (rs:=[3]) (by kernel_rfl) (by simp) ?_;refine AllReadyH.cons rfl (fun K hK=>?_) AllReadyH.nil;go_simp;have H6:=aZ ((((Below.refl w2.heap.size w2).alloc (Nat.le_refl _) (.cells #[sv X] 9)).block _ (block_lt HS2.o)).trans HS2.o);refine hK.out _ _ H6.o (fun _=>?_);clear hK K
    try simp only [Act.put,sq]
    refine wpAnyH_ready (rs:=[4]) (by kernel_rfl) (by simp) ?_;refine AllReadyH.cons rfl (fun K hK=>?_) AllReadyH.nil;refine CJ rfl (.tmp 14) (.tmp 17) _ rfl (w.heap.size+2) wC _ _ rfl rfl (Ee.o.own.alloc _) (yU w2 X _) (by simp;omega) (by have:=block_lt Ee.o.box;rw [World.size_alloc];omega) (fun v4 w4 rT hg4 aaX=>?_);obtain⟨g4,c4,n4,rfl⟩:=CB rT (by simp);rw [<-HST.o]at rT;obtain⟨x1,x2,x3⟩:=(Ee.o.far ((Below.refl _ _).alloc (Nat.le_refl _) _)).grown rT hg4;have Du:=aZ ((hg4.block _ (block_lt H6.o) (by intro e;have:=HLT.o _ e.symm;omega)).trans H6.o);have X3:=aZ x3;have KY:=aZ (ah Du.o (ak w4 (w.heap.size+1) 0 (.slice (some ⟨g4,0,none⟩) n4 c4)) (by have:=block_lt Ht.o.box;omega));clear x3 rT hg4 aaX;refine hK.out _ _ Du.o (fun _=>?_);clear hK K
    try simp only [Act.put,sq]
    refine wpAnyH_ready (rs:=[5]) (by kernel_rfl) (by simp) ?_;refine AllReadyH.cons rfl (fun K hK=>?_) AllReadyH.nil;go_simp;refine hK.out _ _ KY.o (fun _=>?_);clear hK K
    try simp only [Act.put,sq]
    refine wpAnyH_done (by kernel_rfl) ?_ _;go_wp2_with fail
    go_roundw
    case rel=>exact⟨i+1,_,rfl,by omega,X3.o⟩
    case measure=>simp [intOf];omega
   ·go_simp;refine(HE.o _ HBD.o).mono ?_;rintro e w2 ⟨rfl,hb⟩;have uo:=nI.o.trans (hb.mono nI.o.size);have Ee:=aZ (Ht.o.far uo);have HS2:=aZ ((hb.block _ (block_lt Pp.o)).trans Pp.o);clear hb uo;have gk2:=Ee.o.cell;refine hK.out _ _ HS2.o (fun _=>?_);clear hK K
    try simp only [Act.put,sq]
    refine wpAnyH_ready (rs:=[0,3]) (by kernel_rfl) (by simp) ?_;refine AllReadyH.cons rfl (fun K hK=>?_) (AllReadyH.cons rfl (fun K hK=>?_) AllReadyH.nil)
    ·go_simp;refine hK.out _ _ HS2.o (fun _=>?_);clear hK K
     try simp only [Act.put,sq]
     refine wpAnyH_ready (rs:=[3]) (by kernel_rfl) (by simp) ?_;refine AllReadyH.cons rfl (fun K hK=>?_) AllReadyH.nil;go_simp;have H6:=aZ ((((Below.refl w2.heap.size w2).alloc (Nat.le_refl _) (.cells #[sv X] 9)).block _ (block_lt HS2.o)).trans HS2.o);refine hK.out _ _ H6.o (fun _=>?_);clear hK K
     try simp only [Act.put,sq]
     refine wpAnyH_ready (rs:=[4]) (by kernel_rfl) (by simp) ?_;refine AllReadyH.cons rfl (fun K hK=>?_) AllReadyH.nil;refine CJ rfl (.tmp 14) (.tmp 17) _ rfl (w.heap.size+2) wC _ _ rfl rfl (Ee.o.own.alloc _) (yU w2 X _) (by simp;omega) (by have:=block_lt Ee.o.box;rw [World.size_alloc];omega) (fun v4 w4 rT hg4 aaX=>?_);obtain⟨g4,c4,n4,rfl⟩:=CB rT (by simp);rw [<-HST.o]at rT;obtain⟨x1,x2,x3⟩:=(Ee.o.far ((Below.refl _ _).alloc (Nat.le_refl _) _)).grown rT hg4;have Du:=aZ ((hg4.block _ (block_lt H6.o) (by intro e;have:=HLT.o _ e.symm;omega)).trans H6.o);have X3:=aZ x3;have KY:=aZ (ah Du.o (ak w4 (w.heap.size+1) 0 (.slice (some ⟨g4,0,none⟩) n4 c4)) (by have:=block_lt Ht.o.box;omega));clear x3 rT hg4 aaX;refine hK.out _ _ Du.o (fun _=>?_);clear hK K
     try simp only [Act.put,sq]
     refine wpAnyH_ready (rs:=[5]) (by kernel_rfl) (by simp) ?_;refine AllReadyH.cons rfl (fun K hK=>?_) AllReadyH.nil;go_simp;refine hK.out _ _ KY.o (fun _=>?_);clear hK K
     try simp only [Act.put,sq]
     refine wpAnyH_done (by kernel_rfl) ?_ _;go_wp2_with fail
     go_roundw
     case rel=>exact⟨i+1,_,rfl,by omega,X3.o⟩
     case measure=>simp [intOf];omega
    ·go_simp;have H6:=aZ ((((Below.refl w2.heap.size w2).alloc (Nat.le_refl _) (.cells #[sv X] 9)).block _ (block_lt HS2.o)).trans HS2.o);have gk3:=(Ee.o.far ((Below.refl w2.heap.size w2).alloc (Nat.le_refl _) (.cells #[sv X] 9))).cell;refine hK.out _ _ H6.o (fun _=>?_);clear hK K
     try simp only [Act.put,sq]
     refine wpAnyH_ready (rs:=[0]) (by kernel_rfl) (by simp) ?_;refine AllReadyH.cons rfl (fun K hK=>?_) AllReadyH.nil;go_simp;refine hK.out _ _ H6.o (fun _=>?_);clear hK K
     try simp only [Act.put,sq]
     refine wpAnyH_ready (rs:=[4]) (by kernel_rfl) (by simp) ?_;refine AllReadyH.cons rfl (fun K hK=>?_) AllReadyH.nil;refine CJ rfl (.tmp 14) (.tmp 17) _ rfl (w.heap.size+2) wC _ _ rfl rfl (Ee.o.own.alloc _) (yU w2 X _) (by simp;omega) (by have:=block_lt Ee.o.box;rw [World.size_alloc];omega) (fun v4 w4 rT hg4 aaX=>?_);obtain⟨g4,c4,n4,rfl⟩:=CB rT (by simp);rw [<-HST.o]at rT;obtain⟨x1,x2,x3⟩:=(Ee.o.far ((Below.refl _ _).alloc (Nat.le_refl _) _)).grown rT hg4;have Du:=aZ ((hg4.block _ (block_lt H6.o) (by intro e;have:=HLT.o _ e.symm;omega)).trans H6.o);have X3:=aZ x3;have KY:=aZ (ah Du.o (ak w4 (w.heap.size+1) 0 (.slice (some ⟨g4,0,none⟩) n4 c4)) (by have:=block_lt Ht.o.box;omega));clear x3 rT hg4 aaX;refine hK.out _ _ Du.o (fun _=>?_);clear hK K
     try simp only [Act.put,sq]
     refine wpAnyH_ready (rs:=[5]) (by kernel_rfl) (by simp) ?_;refine AllReadyH.cons rfl (fun K hK=>?_) AllReadyH.nil;go_simp;refine hK.out _ _ KY.o (fun _=>?_);clear hK K
     try simp only [Act.put,sq]
     refine wpAnyH_done (by kernel_rfl) ?_ _;go_wp2_with fail
     go_roundw
     case rel=>exact⟨i+1,_,rfl,by omega,X3.o⟩
     case measure=>simp [intOf];omega
  ·obtain rfl:i=d:=by omega
   have hex:=Ht.o;rw [List.take_of_length_le (by rw [HSL.o];omega)]at hex;have hbr:=hex.below;obtain⟨g0,g1,g2,g3,g4,g5,g6,g7⟩:=lQ (hex.node.trans (congrArg some tq.o.symm));have gb:=hex.cell;have hown:=hex.own;have OM:=aZ hbr;clear hlt Ht hex;have hd0:=HD0.o;have hsl:=HSL.o;subst hd0;obtain⟨s0,s1,rfl⟩:=adi hsl;obtain⟨g,c,rfl,hgb,hgl,hgc,hgm⟩:=iM hown.row (by simp);simp only [List.length_cons,List.length_nil,Nat.zero_add]at gb hown hgc;have d0:=hown.cell 0 (by simp);have d1:=hown.cell 1 (by simp);simp only [List.getElem_cons_zero,List.getElem_cons_succ]at d0 d1;have HT:bN (IW 14 text n ts ns [s0,s1]=([40]:Bt)++(s0++([32]:Bt)++text++([32]:Bt)++s1)++([41]:Bt)):=aZ (by simp [IW,cat]);rw [HT.o]at hlen;simp only [List.length_append,List.length_cons,List.length_nil]at hlen;have hz0:=bZ s0;have hz1:=bZ text;have hz2:=bZ s1;have q0:¬(9223372036854775807<s0.length+1):=by omega
   have q1:¬(9223372036854775807<s0.length+1+text.length):=by omega
   have q2:¬(9223372036854775807<s0.length+1+text.length+1):=by omega
   have q3:¬(9223372036854775807<s0.length+1+text.length+1+s1.length):=by omega
   have q4:¬(9223372036854775807<1+(s0.length+1+text.length+1+s1.length)):=by omega
   have q5:¬(9223372036854775807<1+(s0.length+1+text.length+1+s1.length)+1):=by omega
   have G1:=aZ g1;have G2:=aZ g2;have G5:=aZ g5;have GB:=aZ gb;have D0:=aZ d0;have D1:=aZ d1;have HB0:bN (Below wr.heap.size wr wr.drew):=aZ (aP wr 1);clear g1 g2 g3 g4 g5 g6 g7 gb hown hbr hlen d0 d1;go_wp2_with fail;refine wp_region_held_drew (S:=fun w'=>Below wr.heap.size wr w') (by kernel_rfl) HB0.o (fun _=>?_)
   try simp only [Act.put,sq]
   refine lJ 0 (.slice (some ⟨g,0,none⟩) 2 c) (Um GB.o) HB0.o ?_;refine tk 1 (.pointer (some ⟨g,0,none⟩)) HB0.o ?_;refine lJ 2 (sv s0) (Um D0.o) HB0.o ?_;refine tk 3 (.string ((⟨s0.toArray⟩:ByteArray)++⟨#[32]⟩)) HB0.o ?_;refine tk 4 (.pointer (some ⟨w.heap.size,1,none⟩)) HB0.o ?_;refine lJ 5 (sv text) (Um G1.o) HB0.o ?_;refine tk 6 (.string ((⟨s0.toArray⟩:ByteArray)++⟨#[32]⟩++⟨text.toArray⟩)) HB0.o ?_;refine tk 7 (.string ((⟨s0.toArray⟩:ByteArray)++⟨#[32]⟩++⟨text.toArray⟩++⟨#[32]⟩)) HB0.o ?_;refine lJ 8 (.slice (some ⟨g,0,none⟩) 2 c) (Um GB.o) HB0.o ?_;refine tk 9 (.pointer (some ⟨g,1,none⟩)) HB0.o ?_;refine lJ 10 (sv s1) (Um D1.o) HB0.o ?_;refine tk 11 (.string ((⟨s0.toArray⟩:ByteArray)++⟨#[32]⟩++⟨text.toArray⟩++⟨#[32]⟩++⟨s1.toArray⟩)) HB0.o ?_;refine tk 12 (.string ((⟨s0.toArray⟩:ByteArray)++⟨#[32]⟩++⟨text.toArray⟩++⟨#[32]⟩++⟨s1.toArray⟩)) HB0.o ?_;refine wpAnyH_done (by kernel_rfl) ?_ _;go_wp2_with fail;go_ret;refine⟨?_,OM.o.trans (HB0.o.mono OM.o.size)⟩;rw [HT.o];have e:(⟨([40]:Bt).toArray⟩:ByteArray)++((⟨s0.toArray⟩:ByteArray)++⟨([32]:Bt).toArray⟩++⟨text.toArray⟩++⟨([32]:Bt).toArray⟩++⟨s1.toArray⟩)++⟨([41]:Bt).toArray⟩=⟨(([40]:Bt)++(s0++([32]:Bt)++text++([32]:Bt)++s1)++([41]:Bt)).toArray⟩:=by
    rw [lH,lH,lH,lH,lH,lH]
   exact congrArg (fun b=>Ending.returned (Value.string b)) e
theorem Oq (w:World)(z:List Value)(k:Int)(text:Bt)(n li co:Int)(ts:List bS)(ns:List Bt)(ks:List bI)(hr:zC w w.heap.size z (.mk k text n li co ts ns ks))(hk:k=4):
  Calls Tryz.prog 120 #[.agg z.toArray] w fun e w'=>e=.returned (sv (zP k text n ts))∧Below w.heap.size w w':=by
 subst hk;obtain⟨A1,c1,A2,c2,A3,c3,xt,xk,rfl,s1,r1,s2,s3,r3⟩:=hr.parts;clear hr s1 r1 s2 s3 r3;rw [show zP 4 text n ts=text from rfl];go_enter Tryz.func120,Tryz.ntmps120;go_wp2_with fail;go_ret;exact⟨rfl,(Below.refl _ _).alloc (Nat.le_refl _) _⟩
theorem VE (k:Int)(hk:k=4)(text:Bt)(n li co:Int)(ts:List bS)(ns:List Bt)(ks:List bI)(ih:∀y∈ks,ExC y):ExC (.mk k text n li co ts ns ks):=by
 intro w z m hr hok hnd hc hX;have hlen:=Hl _ m hnd;obtain⟨q,rfl,acW,hown,hns,hts,hkk⟩:=JJ hnd;rw [Hr,Bool.and_eq_true,Bool.and_eq_true,Bool.and_eq_true,Bool.and_eq_true,decide_eq_true_eq,decide_eq_true_eq,decide_eq_true_eq,decide_eq_true_eq]at hown;obtain⟨⟨⟨⟨hn0,hn1⟩,htx⟩,hlo,hhi⟩,hkn,hkd⟩:=hown;have htl:=Hg htx;rw [okN]at hok;obtain⟨ok1,ok2,ok3,ok4,ok5,ok6,ok7,ok8⟩:=hok;obtain⟨A1,c1,A2,c2,A3,c3,xt,xk,rfl,s1,r1,s2,s3,r3⟩:=hr.parts;have l1:=(fE s1).2;have l2:=(fE s2).2;have l3:=(fE s3).2;rw [sN]at hlen ⊢;rw [Hf]at hc hlen;have hcT:xw ts<=300000:=by omega
 have hcK:yP ks<=300000:=by omega
 have hdc:ks.length<=300000:=Nat.le_trans (CG ks) hcK;obtain⟨S,hS⟩:∃S,oG ks=S:=⟨_,rfl⟩
 have aaW:S.length=ks.length:=by rw [<-hS,sG]
 have HSG:bN (∀(i:Nat) (h:i<ks.length) (h2:i<S.length),S[i]=sN ks[i]):=aZ (by
  intro i h h2;subst hS;simp [uI])
 rw [hS]at hlen ⊢;have HKK:=aZ (And.intro s3 r3);have HR:=aZ hr;have Rj:=aZ (And.intro s1 r1);have DU:=aZ s2;have HIH:=aZ ih;have Rh:=aZ (zQ.1 ok8);have HNK:=aZ hkk;have HCK:=aZ hcK;have HCT:=aZ hcT;have HTS:=aZ hts;have JF:=aZ hns;have HX:=aZ hX;have Oj:=ok3;clear hr s1 r1 s2 s3 r3 ih ok1 ok2 ok3 ok4 ok5 ok6 ok7 ok8 hkk hts hns hX hS hnd acW;obtain⟨a,hA⟩:∃a,ts.length=a:=⟨_,rfl⟩
 obtain⟨b,hB⟩:∃b,ns.length=b:=⟨_,rfl⟩
 obtain⟨d,hD⟩:∃d,ks.length=d:=⟨_,rfl⟩
 rw [hA]at l1 Rj hlo hhi;rw [hB]at l2 DU hkn hkd;rw [hD]at l3 HKK hkd hdc aaW;rw [hA,hB,hD]at HR;rw [hA,hB,hD];have HA:=aZ hA;have sI:=aZ hB;have HD:=aZ hD;have HSL:=aZ aaW;clear hA hB hD;have hk0:(eD k).kids=0:=by subst hk;rfl
 have hd0:d=0:=by
  rw [hk0]at hkd;unfold xA at hkd;rw [if_neg (by decide)]at hkd;omega
 have HT:bN (IW k text n ts ns S=zP k text n ts):=aZ (by subst hk;rfl);have as9:=aZ hk;have HTL:=aZ htl;have asX:=aZ Oj;have q7:(k==7)=false:=by rw [beq_eq_false_iff_ne];subst hk;decide
 have q9:(k==9)=false:=by rw [beq_eq_false_iff_ne];subst hk;decide
 have q10:(k==10)=false:=by rw [beq_eq_false_iff_ne];subst hk;decide
 have q8:(k==8)=false:=by rw [beq_eq_false_iff_ne];subst hk;decide
 have q17:(k==17)=false:=by rw [beq_eq_false_iff_ne];subst hk;decide
 have q5:(k==5)=false:=by rw [beq_eq_false_iff_ne];subst hk;decide
 have q6:(k==6)=false:=by rw [beq_eq_false_iff_ne];subst hk;decide
 have q11:(k==11)=false:=by rw [beq_eq_false_iff_ne];subst hk;decide
 have q12:(k==12)=false:=by rw [beq_eq_false_iff_ne];subst hk;decide
 have q13:(k==13)=false:=by rw [beq_eq_false_iff_ne];subst hk;decide
 have q14:(k==14)=false:=by rw [beq_eq_false_iff_ne];subst hk;decide
 have q15:(k==15)=false:=by rw [beq_eq_false_iff_ne];subst hk;decide
 have q16:(k==16)=false:=by rw [beq_eq_false_iff_ne];subst hk;decide
 subst hd0;clear hk hk0 hkd hkn htx hlo hhi hn0 hn1 Oj HKK HIH Rh HNK HCK HSG;obtain⟨OB,hOB⟩:∃OB,Obj.cells #[.int .i64 k,sv text,.int .i64 n,.int .i64 li,.int .i64 co,.slice A1 a c1,.slice A2 b c2,.slice A3 0 c3] 52 (0,0)=OB:=⟨_,rfl⟩
 obtain⟨W,hW⟩:∃W,(w.alloc (.cells #[.int .i64 k,sv text,.int .i64 n,.int .i64 li,.int .i64 co,.slice A1 a c1,.slice A2 b c2,.slice A3 0 c3] 52)).alloc (.cells #[.slice none 0 0] 25)=W:=⟨_,rfl⟩
 have aiX:bN (Ho w W OB (.slice none 0 0) (S.take 0)):=aZ (by
  rw [<-hW,<-hOB];exact⟨(uZ w _ _).2,gZ.nil _ _ _,(uZ w _ _).1,((Below.refl _ _).alloc (Nat.le_refl _) _).alloc (by simp) _⟩)
 have tq:=aZ hOB;have JC:=aZ hW;clear hW hOB;go_enter Tryz.func57,Tryz.ntmps57;go_wp2_with fail;have hW:=JC.o;rw [hW];clear hW;go_loopw [10] (fun v10 wr=>v10=.int .i64 0∧wr=W) (fun _ _=>0)
 case atStart=>exact⟨rfl,rfl⟩
 case round=>
  obtain⟨rfl,rfl⟩:=hrel;have hat:=aiX.o;have hbr:=hat.below;obtain⟨g0,g1,g2,g3,g4,g5,g6,g7⟩:=lQ (hat.node.trans (congrArg some tq.o.symm));have HC:=aZ (Oq wr _ k text n li co ts ns ks ((HR.o.keep hbr).more hbr.size) as9.o);have HB:=aZ hbr;clear hat hbr;go_wp2_with fail;refine HC.o.mono ?_;rintro e w2 ⟨rfl,hb⟩;go_wp2_with fail;go_ret;exact⟨by rw [HT.o];rfl,HB.o.trans (hb.mono HB.o.size)⟩
inductive SmN:bI->Prop
 |name {t:Bt}{n l c:Int}{ts:List bS}{ns:List Bt}{ks:List bI}(h:ks=[]):SmN (.mk 4 t n l c ts ns ks)
 |op {t:Bt}{n l c:Int}{ts:List bS}{ns:List Bt}{a b:bI}:SmN a->SmN b->SmN (.mk 14 t n l c ts ns [a,b])
theorem QT {x:bI}(h:SmN x):ExC x:=by
 induction h with
 | @name t n l c ts ns ks h=>subst h;exact VE 4 rfl t n l c ts ns [] (fun y hy=>by cases hy)
 | @op t n l c ts ns a b _ _ ha hb=>exact aaV t n l c ts ns [a,b] (fun y hy=>by
   rcases List.mem_cons.1 hy with rfl |hy
   ·exact ha
   ·rcases List.mem_cons.1 hy with rfl |hy
    ·exact hb
    ·cases hy)
theorem QU (w:World)(z:List Value)(x:bI)(hsm:SmN x)(hr:zC w w.heap.size z x)(hok:okN x)(hc:Hf x<=300000)(hX:lT w):
  Calls Tryz.prog 26 #[.agg z.toArray] w fun e w'=>e=.returned (sv (IX x))∧Below w.heap.size w w':=by
 obtain⟨k,s,v2,v3,v4,A1,n1,c1,A2,n2,c2,A3,n3,c3,rfl⟩:=hr.shape;obtain⟨W1,hW1⟩:∃W1,W1=w.alloc (.cells #[.int .i64 k,.string s,.int .i64 v2,.int .i64 v3,.int .i64 v4,.slice A1 n1 c1,.slice A2 n2 c2,.slice A3 n3 c3] 52):=⟨_,rfl⟩
 have hb1:Below w.heap.size w W1:=by rw [hW1];exact(Below.refl _ _).alloc (Nat.le_refl _) _
 have hbx:W1.heap[w.heap.size]? =some (.cells #[.int .i64 k,.string s,.int .i64 v2,.int .i64 v3,.int .i64 v4,.slice A1 n1 c1,.slice A2 n2 c2,.slice A3 n3 c3] 52 (0,0)):=by rw [hW1];exact heap_alloc_new w _
 have HW:=Oo 25 (by omega) W1 _ x (hr.far (Nat.le_refl _) hb1) hok (hX.below hb1);rw [hW1]at HW;have HW:=aZ HW;have HB:=aZ hb1;have JC:=aZ hW1;have Es:=aZ hbx;have HR:=aZ hr;have HX:=aZ hX;have Rh:=aZ hok;clear hb1 hbx hr hX hW1 hok;cases hq:d9 25 x with
 |false=>
  have HT:bN (IX x=[]):=aZ (by unfold IX;rw [hq];rfl);rw [hq]at HW;rw [HT.o];clear hq HT;go_enter Tryz.func26,Tryz.ntmps26;go_wp2_with fail;refine HW.o.mono ?_;rintro e w2 ⟨rfl,hb⟩;rw [<-JC.o]at hb;go_wp2_with fail;go_ret;exact⟨rfl,HB.o.trans (hb.mono HB.o.size)⟩
 |true=>
  have HT:bN (IX x=sN x):=aZ (by unfold IX;rw [hq];rfl);rw [hq]at HW;rw [HT.o];have HS:bN (∀w2,Below w.heap.size w w2->Calls Tryz.prog 57 #[.agg [.int .i64 k,.string s,.int .i64 v2,.int .i64 v3,.int .i64 v4,.slice A1 n1 c1,.slice A2 n2 c2,.slice A3 n3 c3].toArray] w2 fun e w'=>e=.returned (sv (sN x))∧Below w2.heap.size w2 w'):=aZ (fun w2 hb2=>QT hsm w2 _ 25 (HR.o.far (Nat.le_refl _) hb2) Rh.o hq hc (HX.o.below hb2));clear hq HT HR;generalize sN x=u at*
  go_enter Tryz.func26,Tryz.ntmps26;go_wp2_with fail;refine HW.o.mono ?_;rintro e w2 ⟨rfl,hb⟩;rw [<-JC.o]at hb;have HB2:=aZ (HB.o.trans (hb.mono HB.o.size));obtain⟨g0,g1,g2,g3,g4,g5,g6,g7⟩:=lQ ((hb.block _ (block_lt Es.o)).trans Es.o);clear hb;go_wp2_with fail;refine(HS.o _ HB2.o).mono ?_;rintro e w3 ⟨rfl,hb3⟩;go_wp2_with fail;go_ret;exact⟨rfl,HB2.o.trans (hb3.mono HB2.o.size)⟩
def exA:bI:= .mk 14 [45] 0 1 7 [] [] [(.mk 14 [45] 0 1 3 [] [] [(.mk 4 [97] 0 1 1 [] [] []),(.mk 4 [98] 0 1 5 [] [] [])]),(.mk 14 [42] 0 1 11 [] [] [(.mk 4 [99] 0 1 9 [] [] []),(.mk 4 [100] 0 1 13 [] [] [])])]
def exB:bS:= .mk 6 [] [] [(.mk 7 [] [] [(.mk 3 [] [] []),(.mk 1 [] [] [])]),(.mk 5 [] [[97]] [(.mk 4 [] [] [])])]
def exC:Hw:=⟨[],[⟨[102],false,[],[120],[(.mk 0 [] [] []),(.mk 0 [] [] [])],(.mk 4 [120] 0 1 11 [] [] []),1,1⟩]⟩
theorem agj:dn (cB 100).expr [97,32,45,32,98,32,45,32,99,32,42,32,100]=(some exA,(0,0,0)):=by kernel_rfl
theorem agk:dn (cB 100).typ [105,110,116,32,124,32,110,117,108,108,32,45,62,32,123,97,58,32,115,116,114,125]=(some exB,(0,0,0)):=by kernel_rfl
theorem agl:dn eH [102,110,32,102,40,120,41,32,61,32,120,59]=(some exC,(0,0,0)):=by kernel_rfl
theorem aos:dn eH [102,110,32,102,40,120,41,32,61,32,59]=(none,(1,11,7)):=by kernel_rfl
theorem atc:SmN exA:= .op (.op (.name rfl) (.name rfl)) (.op (.name rfl) (.name rfl))
theorem ai0:IX exA=[40,40,97,32,45,32,98,41,32,45,32,40,99,32,42,32,100,41,41]:=by kernel_rfl
theorem aaY {w:World}{F:Nat->Prop}{z:List Value}(h:Tk w F z exC):∃A1 n1 c1 b o c2 A2 c3,z=[.slice A1 n1 c1,.slice (some ⟨b,o,none⟩) 1 c2]∧w.cell? ⟨b,o+4,none⟩=some (.slice A2 2 c3)∧b<w.heap.size∧1<=c2:=by
 obtain⟨A1,c1,A2,c2,xi,xd,rfl,h1,h2,h3,h4⟩:=h.all.parts;obtain⟨A,n,c,hv,hl,hn,hc,hx⟩:=h3;injection hv with hv1 hv2 hv3;have hv2:(1:Nat)=n:=hv2;subst hv1 hv3;subst hv2;obtain⟨b,o,rfl,hb,hcell⟩:=hx (by omega);have h4:fC (KV w w.heap.size) 15 xd [⟨[102],false,[],[120],[.mk 0 [] [] [],.mk 0 [] [] []],.mk 4 [120] 0 1 11 [] [] [],1,1⟩]:=h4;cases h4 with
 |cons hz hd ht=>
  cases ht;obtain⟨B1,d1,B2,d2,k,s,n,l,c,A3,n3,c3,A4,n4,c4,A5,n5,c5,xv,xt,rfl,_⟩:=hd.parts;exact⟨A1,_,c1,b,o,c2,B2,d2,rfl,hcell 4 _ rfl,hb,hn⟩
theorem VF {w:World}{F:Nat->Prop}{z:List Value}(h:qd w F z exA):∃A1 n1 c1 A2 n2 c2 A3 n3 c3,z=[.int .i64 14,sv [45],.int .i64 0,.int .i64 1,.int .i64 7,.slice A1 n1 c1,.slice A2 n2 c2,.slice A3 n3 c3]:=by
 cases h with
 |mk h1 h2 h3 h4 h5=>
  obtain⟨A1,n1,c1,rfl,_⟩:=h1;obtain⟨A2,n2,c2,rfl,_⟩:=h3;obtain⟨A3,n3,c3,rfl,_⟩:=h4;exact⟨_,_,_,_,_,_,_,_,_,rfl⟩
theorem VG {w:World}{F:Nat->Prop}{z:List Value}(h:mJ w F z exB):∃A1 n1 c1 A2 n2 c2,z=[.int .i64 6,sv [],.slice A1 n1 c1,.slice A2 n2 c2]:=by
 cases h with
 |mk h1 h2 h3=>
  obtain⟨A1,n1,c1,rfl,_⟩:=h1;obtain⟨A2,n2,c2,rfl,_⟩:=h2;exact⟨_,_,_,_,_,_,rfl⟩
theorem QV (w:World)(hX:mK w):Calls Tryz.prog 18 #[] w fun e w'=>e=.returned (.bool true)∧Below w.heap.size w w':=by
 have HX:=aZ hX;have HA:=aZ (N8 w [97,32,45,32,98,32,45,32,99,32,42,32,100] hX);clear hX;go_enter Tryz.func18,Tryz.ntmps18;go_wp2_with fail;refine(HA.o).mono ?_;rintro e w1 ⟨hb1,z1,rfl,hz1⟩;rw [show vN (cB 100).expr [97,32,45,32,98,32,45,32,99,32,42,32,100] rR=exA by unfold vN;rw [agj];rfl]at hz1;rw [show(dn (cB 100).expr [97,32,45,32,98,32,45,32,99,32,42,32,100]).2=(0,0,0) by rw [agj]];obtain⟨A1,n1,c1,A2,n2,c2,A3,n3,c3,rfl⟩:=VF hz1;have hs1:=hb1.size;have HB1:=aZ hb1;have HZ1:=aZ hz1;have uE:=aZ (HX.o.below hb1);obtain⟨W1,hW1⟩:∃W1,(w1.alloc (.cells #[.int .i64 14,.string ⟨#[45]⟩,.int .i64 0,.int .i64 1,.int .i64 7,.slice A1 n1 c1,.slice A2 n2 c2,.slice A3 n3 c3] 52)).alloc (.cells #[.int .i64 0,.int .i64 0,.int .i64 0,.int .i64 0] 45)=W1:=⟨_,rfl⟩
 have adk:Below w1.heap.size w1 W1:=by rw [<-hW1];exact new2 _ _ _
 obtain⟨_,_,hn1,hd1⟩:=iJ (G:=fun _=>False) (Turn.refl _ ((w1.alloc (.cells #[.int .i64 14,.string ⟨#[45]⟩,.int .i64 0,.int .i64 1,.int .i64 7,.slice A1 n1 c1,.slice A2 n2 c2,.slice A3 n3 c3] 52)).alloc (.cells #[.int .i64 0,.int .i64 0,.int .i64 0,.int .i64 0] 45)));rw [hW1]at hn1 hd1;have ayB:W1.heap.size=w1.heap.size+2:=by rw [<-hW1];simp
 have Ry:=aZ (hn1 id);have HD1:=aZ (hd1 id);have atd:=aZ (hb1.trans (adk.mono hs1));have aot:=aZ (uE.o.below adk);have ate:=aZ (hz1.turn (Turn.of_below (F:=fun _=>False) adk) (fun _ _ _=>id));have HW1:=aZ hW1;have HT:=aZ (aaB W1 [105,110,116,32,124,32,110,117,108,108,32,45,62,32,123,97,58,32,115,116,114,125] aot.o);clear hb1 hz1 adk hn1 hd1 hW1;go_wp2_with fail;rw [HW1.o];refine(HT.o).mono ?_;rintro e w2 ⟨hb2,z2,rfl,hz2⟩;rw [show vN (cB 100).typ [105,110,116,32,124,32,110,117,108,108,32,45,62,32,123,97,58,32,115,116,114,125] Dz=exB by unfold vN;rw [agk];rfl]at hz2;rw [show(dn (cB 100).typ [105,110,116,32,124,32,110,117,108,108,32,45,62,32,123,97,58,32,115,116,114,125]).2=(0,0,0) by rw [agk]];obtain⟨B1,m1,e1,B2,m2,e2,rfl⟩:=VG hz2;have hs2:=hb2.size;obtain⟨W2,hW2⟩:∃W2,(w2.alloc (.cells #[.int .i64 6,.string ⟨#[]⟩,.slice B1 m1 e1,.slice B2 m2 e2] 57)).alloc (.cells #[.int .i64 0,.int .i64 0,.int .i64 0,.int .i64 0] 45)=W2:=⟨_,rfl⟩
 have hbw2:Below w2.heap.size w2 W2:=by rw [<-hW2];exact new2 _ _ _
 obtain⟨_,_,hn2,hd2⟩:=iJ (G:=fun _=>False) (Turn.refl _ ((w2.alloc (.cells #[.int .i64 6,.string ⟨#[]⟩,.slice B1 m1 e1,.slice B2 m2 e2] 57)).alloc (.cells #[.int .i64 0,.int .i64 0,.int .i64 0,.int .i64 0] 45)));rw [hW2]at hn2 hd2;have aoi:W2.heap.size=w2.heap.size+2:=by rw [<-hW2];simp
 have nZ:=hb2.trans (hbw2.mono hs2);have JX:=aZ (hn2 id);have HD2:=aZ (hd2 id);have aou:=aZ (atd.o.trans (nZ.mono (by omega)));have VH:=aZ nZ;have aov:=aZ (aot.o.below nZ);have HW2:=aZ hW2;have HP:=aZ (NY W2 [102,110,32,102,40,120,41,32,61,32,120,59] aov.o);clear hb2 hz2 hbw2 hn2 hd2 hW2 nZ;go_wp2_with fail;rw [HW2.o];refine(HP.o).mono ?_;rintro e w3 ⟨hb3,z3,rfl,hz3⟩;rw [show vN eH [102,110,32,102,40,120,41,32,61,32,120,59] Dy=exC by unfold vN;rw [agl];rfl]at hz3;rw [show(dn eH [102,110,32,102,40,120,41,32,61,32,120,59]).2=(0,0,0) by rw [agl]];obtain⟨G1,p1,q1,bd,od,q2,G2,q3,rfl,hty,hbl,hq2⟩:=aaY hz3;have hs3:=hb3.size;obtain⟨W3,hW3⟩:∃W3,(w3.alloc (.cells #[.slice G1 p1 q1,.slice (some ⟨bd,od,none⟩) 1 q2] 40)).alloc (.cells #[.int .i64 0,.int .i64 0,.int .i64 0,.int .i64 0] 45)=W3:=⟨_,rfl⟩
 have uq:Below w3.heap.size w3 W3:=by rw [<-hW3];exact new2 _ _ _
 obtain⟨_,_,hn3,hd3⟩:=iJ (G:=fun _=>False) (Turn.refl _ ((w3.alloc (.cells #[.slice G1 p1 q1,.slice (some ⟨bd,od,none⟩) 1 q2] 40)).alloc (.cells #[.int .i64 0,.int .i64 0,.int .i64 0,.int .i64 0] 45)));rw [hW3]at hn3 hd3;have atf:W3.heap.size=w3.heap.size+2:=by rw [<-hW3];simp
 have pG:=hb3.trans (uq.mono hs3);have Fq:=aZ (hn3 id);have HD3:=aZ (hd3 id);have qE:=aZ ((uq.cell (p:=⟨bd,od+4,none⟩) hbl).trans hty);have aow:=aZ (aou.o.trans (pG.mono (by have:=aou.o.size;omega)));have Ot:=aZ pG;have aox:=aZ (aov.o.below pG);have HW3:=aZ hW3;have HQ:=aZ (NY W3 [102,110,32,102,40,120,41,32,61,32,59] aox.o);clear hb3 hz3 uq hn3 hd3 hW3 pG hty;go_wp2_with fail;rw [HW3.o];refine(HQ.o).mono ?_;rintro e w4 ⟨hb4,z4,rfl,hz4⟩;rw [show(dn eH [102,110,32,102,40,120,41,32,61,32,59]).2=(1,11,7) by rw [aos]];have hzc:=hz4;obtain⟨vi,xi,vd,xd,rfl,⟨K1,r1,r2,rfl,_⟩,_,⟨K2,r3,r4,rfl,_⟩,_⟩:=hzc;have hs4:=hb4.size;obtain⟨W4,vY⟩:∃W4,(w4.alloc (.cells #[.slice K1 r1 r2,.slice K2 r3 r4] 40)).alloc (.cells #[.int .i64 0,.int .i64 1,.int .i64 11,.int .i64 7] 45)=W4:=⟨_,rfl⟩
 have VD:Below w4.heap.size w4 W4:=by rw [<-vY];exact new2 _ _ _
 obtain⟨_,_,_,hd4⟩:=iJ (G:=fun _=>False) (Turn.refl _ ((w4.alloc (.cells #[.slice K1 r1 r2,.slice K2 r3 r4] 40)).alloc (.cells #[.int .i64 0,.int .i64 1,.int .i64 11,.int .i64 7] 45)));rw [vY]at hd4;have atg:W4.heap.size=w4.heap.size+2:=by rw [<-vY];simp
 have Bg:=hb4.trans (VD.mono hs4);have aoy:=aZ (aow.o.trans (Bg.mono (by have:=aow.o.size;omega)));have Cw:Below W1.heap.size W1 W4:=(VH.o.trans (Ot.o.mono VH.o.size)).trans (Bg.mono (by have:=VH.o.size;have:=Ot.o.size;omega));have Kh:Below W2.heap.size W2 W4:=Ot.o.trans (Bg.mono Ot.o.size);have HD4:=aZ (hd4 id);have ai1:=aZ ((Cw.block w1.heap.size (by omega)).trans Ry.o);have ayC:=aZ ((Cw.block (w1.heap.size+1) (by omega)).trans HD1.o);have ai2:=aZ ((Kh.block w2.heap.size (by omega)).trans JX.o);have ai3:=aZ ((Kh.block (w2.heap.size+1) (by omega)).trans HD2.o);have ai4:=aZ ((Bg.block w3.heap.size (by omega)).trans Fq.o);have ai5:=aZ ((Bg.block (w3.heap.size+1) (by omega)).trans HD3.o);have ath:=aZ ((Bg.cell (p:=⟨bd,od+4,none⟩) (by show bd< _;omega)).trans qE.o);have aoz:=ate.o.turn (Turn.of_below (F:=fun _=>False) Cw) (fun _ _ _=>id);have HE:=aZ (QU W4 _ exA atc aoz.all (by unfold exA;simp [okN,TU,TT,In64,maxLen]) (by decide) (aox.o.below Bg).t);rw [ai0]at HE;have J4:=aZ vY;have HE:=aZ (by have h:=HE;rw [<-vY]at h;exact h);have Ou:Below W1.heap.size W1 w4:=(VH.o.trans (Ot.o.mono VH.o.size)).trans (hb4.mono (by have:=VH.o.size;have:=Ot.o.size;omega));obtain⟨x0,x1,x2,x3,x4,x5,x6,x7,xz⟩:=aD ((Ou.block w1.heap.size (by omega)).trans Ry.o);obtain⟨a0,a1,a2,a3,az⟩:=aX ((Ou.block (w1.heap.size+1) (by omega)).trans HD1.o);have ayD:w1.heap.size<w4.heap.size:=by have:=Ou.size;omega
 have anD:w1.heap.size+1<w4.heap.size:=by have:=Ou.size;omega
 clear Ou;have Du:=aZ atg;clear hb4 hz4 VD hd4 vY Bg Cw Kh aoz;go_wp2_with fail;refine(HE.o).mono ?_;rintro e w5 ⟨rfl,hb5⟩;rw [J4.o]at hb5;have Kv:=aZ (aoy.o.trans (hb5.mono (by have:=aoy.o.size;omega)));have hs5:=hb5.size;clear x0 x1 x2 x3 x4 x5 x6 x7 xz a0 a1 a2 a3 az;have ai1:=aZ ((hb5.block w1.heap.size (by omega)).trans ai1.o);have ai3:=aZ ((hb5.block (w2.heap.size+1) (by omega)).trans ai3.o);have ai2:=aZ ((hb5.block w2.heap.size (by omega)).trans ai2.o);have ai4:=aZ ((hb5.block w3.heap.size (by omega)).trans ai4.o);have ai5:=aZ ((hb5.block (w3.heap.size+1) (by omega)).trans ai5.o);have ati:=aZ ((hb5.block (w4.heap.size+1) (by omega)).trans HD4.o);have hty:=(hb5.cell (p:=⟨bd,od+4,none⟩) (by show bd< _;omega)).trans ath.o;obtain⟨x0,x1,x2,x3,x4,x5,x6,x7,xz⟩:=aD ai1.o;obtain⟨b0,b1,b2,b3,bz⟩:=aX ai3.o;obtain⟨y0,y1,y2,y3,yz⟩:=aX ai2.o;obtain⟨m0,m1',mz⟩:=GV ai4.o;obtain⟨d0,d1,d2,d3,dz⟩:=aX ai5.o;obtain⟨f0,f1,f2,f3,fz⟩:=aX ati.o;clear hb5;go_wp2_with fail;go_ret;exact⟨rfl,Kv.o⟩
theorem VI (d:CS)(w:World):(binOp .eql 45 (vZ d) (vZ d)).run Tryz.prog w=.ok (.bool true) w:=by
 have hS:Tryz.prog.underlying 45=some (.struct (Tryz.prog.fieldsOf 45)):=by kernel_rfl
 have hp:Tryz.prog.stoodInHeld 45=false:=by kernel_rfl
 have u3:=Tryz.underlying3;have a3:=Tryz.isAgg3;have z3:=Tryz.sizeOf3;have u5:=Tryz.underlying43;have a5:=Tryz.isAgg43;have z5:=Tryz.sizeOf43;rw [run_eql_struct,show(10000:Nat)=9999+1 from rfl,run_equalIn_agg w 9999 45 _ _ hS hp];simp only [Program.fieldsOf,Tryz.underlying45];go_simp
structure SmM (m:Hw):Prop where
 imps:m.imps.length<=100
 decls:m.decls.length<=100
 names:∀i∈m.imps,i.names.length<=100
 vars:∀d∈m.decls,d.vars.length<=100
 types:∀d∈m.decls,d.types.length<=100
 bounds:∀d∈m.decls,∀v∈d.vars,adg v.bound<=300000
 sorts:∀d∈m.decls,xw d.types<=300000
 body:∀d∈m.decls,Hf d.body<=300000
theorem QW {a b:List Bt}{i:Nat}(ha:i<a.length)(hb:i<b.length)(h:a.take i=b.take i)(h2:a[i]=b[i]):a.take (i+1)=b.take (i+1):=by
 rw [List.take_succ_eq_append_getElem ha,List.take_succ_eq_append_getElem hb,h,h2]
theorem VJ (va vb:Value)(a b:List Bt)(w:World)(ha:Ss w w.heap.size va a)(hb:Ss w w.heap.size vb b):
  Calls Tryz.prog 42 #[va,vb] w fun e w'=>e=.returned (.bool (decide (a=b)))∧Below w.heap.size w w':=by
 have HA:=aZ ha;have HB:=aZ hb;obtain⟨A,ca,rfl⟩:=fJ ha (by omega) (m:=a.length) (by rw [eX];omega);obtain⟨B,cb,rfl⟩:=fJ hb (by omega) (m:=b.length) (by rw [eX];omega);have l1:=(fE ha).2;have l2:=(fE hb).2;clear ha hb;by_cases hl:a.length=b.length
 case neg=>
  have g:((a.length:Int) != (b.length:Int))=true:=by rw [bne_iff_ne];omega
  have HR:bN (decide (a=b)=false):=aZ (decide_eq_false (fun h=>hl (by rw [h])));clear hl;go_enter Tryz.func42,Tryz.ntmps42;go_wp2_with fail;go_ret;exact⟨by rw [HR.o];rfl,Below.refl _ _⟩
 obtain⟨n,hn⟩:∃n,a.length=n:=⟨_,rfl⟩
 have hm:b.length=n:=by omega
 rw [hn]at HA l1;rw [hm]at HB l2;rw [hn,hm];have HN:=aZ hn;have HM:=aZ hm;clear hl hn hm;go_enter Tryz.func42,Tryz.ntmps42;go_wp2_with fail;go_loopw [5] (fun v5 wr=>∃i:Nat,v5=.int .i64 i∧i<=n∧a.take i=b.take i∧Below w.heap.size w wr) (fun v5 _=>n - (intOf v5).toNat)
 case atStart=>exact⟨0,rfl,by omega,by simp,Below.refl _ _⟩
 case round=>
  obtain⟨i,rfl,hi,heq,hbr⟩:=hrel;have HE:=aZ heq;have OM:=aZ hbr;clear heq;by_cases hlt:i<n
  ·have hia:i<a.length:=by rw [HN.o];exact hlt
   have hib:i<b.length:=by rw [HM.o];exact hlt
   obtain⟨b1,o1,rfl,d0⟩:=Tx (Sl.below HA.o hbr) hia;obtain⟨b2,o2,rfl,d1⟩:=Tx (Sl.below HB.o hbr) hib;have Hy:bN (a[i]=b[i]->a.take (i+1)=b.take (i+1)):=aZ (fun h=>QW hia hib HE.o h);have HNE:bN (¬a[i]=b[i]->decide (a=b)=false):=aZ (fun h=>decide_eq_false (fun h2=>h (by subst h2;rfl)));have D0:=aZ d0;have D1:=aZ d1;have HB0:bN (Below wr.heap.size wr wr.drew):=aZ (aP wr 1);generalize a[i]=X at*
   generalize b[i]=Y at*
   clear hbr d0 d1;by_cases hxy:X=Y
   ·have H9:=aZ (Hy.o hxy);subst hxy;clear Hy HNE;go_wp2_with fail;refine wp_region_held_drew (S:=fun w'=>Below wr.heap.size wr w') (by kernel_rfl) HB0.o (fun _=>?_)
    try simp only [Act.put,sq]
    refine tk 0 (.slice (some ⟨b1,o1,none⟩) n ca) HB0.o ?_;refine tk 1 (.int .i64 i) HB0.o ?_;refine tk 2 (.pointer (some ⟨b1,o1+i,none⟩)) HB0.o ?_;refine lJ 3 (sv X) (Um D0.o) HB0.o ?_;refine tk 4 (.slice (some ⟨b2,o2,none⟩) n cb) HB0.o ?_;refine tk 5 (.int .i64 i) HB0.o ?_;refine tk 6 (.pointer (some ⟨b2,o2+i,none⟩)) HB0.o ?_;refine lJ 7 (sv X) (Um D1.o) HB0.o ?_;refine tk 8 (.bool false) HB0.o ?_;refine wpAnyH_done (by kernel_rfl) ?_ _;go_wp2_with fail
    go_roundw
    case rel=>exact⟨i+1,rfl,by omega,H9.o,OM.o.trans (HB0.o.mono OM.o.size)⟩
    case measure=>simp [intOf];omega
   ·have g:(X != Y)=true:=by rw [bne_iff_ne];exact hxy
    have H9:=aZ (HNE.o hxy);go_wp2_with fail;refine wp_region_held_drew (S:=fun w'=>Below wr.heap.size wr w') (by kernel_rfl) HB0.o (fun _=>?_)
    try simp only [Act.put,sq]
    refine tk 0 (.slice (some ⟨b1,o1,none⟩) n ca) HB0.o ?_;refine tk 1 (.int .i64 i) HB0.o ?_;refine tk 2 (.pointer (some ⟨b1,o1+i,none⟩)) HB0.o ?_;refine lJ 3 (sv X) (Um D0.o) HB0.o ?_;refine tk 4 (.slice (some ⟨b2,o2,none⟩) n cb) HB0.o ?_;refine tk 5 (.int .i64 i) HB0.o ?_;refine tk 6 (.pointer (some ⟨b2,o2+i,none⟩)) HB0.o ?_;refine lJ 7 (sv Y) (Um D1.o) HB0.o ?_;refine tk 8 (.bool true) HB0.o ?_;refine wpAnyH_done (by kernel_rfl) ?_ _;go_wp2_with fail;go_ret;exact⟨by rw [H9.o];rfl,OM.o.trans (HB0.o.mono OM.o.size)⟩
  ·obtain rfl:i=n:=by omega
   have H9:bN (decide (a=b)=true):=aZ (decide_eq_true (by
    have h:=HE.o;rw [List.take_of_length_le (by rw [HN.o];omega),List.take_of_length_le (by rw [HM.o];omega)]at h;exact h))
   clear hbr hlt;go_wp2_with fail;go_ret;exact⟨by rw [H9.o];rfl,OM.o⟩
def Ov (t:bS):Prop:=∀(w:World) (z1 z2:List Value),BH w w.heap.size z1 t->BH w w.heap.size z2 t->
 Calls Tryz.prog 85 #[.agg z1.toArray,.agg z2.toArray] w fun e w'=>e=.returned (.bool true)∧Below w.heap.size w w'
theorem Ow (va vb:Value)(a:List Bt)(w:World)(ha:Ss w w.heap.size va a)(hb:Ss w w.heap.size vb a):
  Calls Tryz.prog 42 #[va,vb] w fun e w'=>e=.returned (.bool true)∧Below w.heap.size w w':=
 (VJ va vb a a w ha hb).mono fun e w' h=>⟨by rw [h.1,decide_eq_true (Eq.refl a)],h.2⟩
theorem Hu (l:List bS)(H:∀t∈l,Ov t)(w:World)(v1 v2:Value)(x1 x2:List Value)(h1:Sl w w.heap.size 4 v1 x1)(r1:kg w w.heap.size x1 l)(h2:Sl w w.heap.size 4 v2 x2)(r2:kg w w.heap.size x2 l):
  Calls Tryz.prog 52 #[v1,v2] w fun e w'=>e=.returned (.bool true)∧Below w.heap.size w w':=by
 obtain⟨A1,c1,rfl⟩:=fJ h1 (by omega) (m:=l.length) r1.length;obtain⟨A2,c2,rfl⟩:=fJ h2 (by omega) (m:=l.length) r2.length;have l1:=(fE h1).2;have l2:=(fE h2).2;have wI:=aZ h1;have HS2:=aZ h2;have HR1:=aZ r1;have HR2:=aZ r2;have HH:=aZ H;obtain⟨n,hn⟩:∃n,l.length=n:=⟨_,rfl⟩
 rw [hn]at wI HS2 l1 l2;rw [hn];have HN:=aZ hn;clear h1 h2 r1 r2 H hn;go_enter Tryz.func52,Tryz.ntmps52;go_wp2_with fail;go_loopw [5] (fun v5 wr=>∃i:Nat,v5=.int .i64 i∧i<=n∧Below w.heap.size w wr) (fun v5 _=>n - (intOf v5).toNat)
 case atStart=>exact⟨0,rfl,by omega,Below.refl _ _⟩
 case round=>
  obtain⟨i,rfl,hi,hbr⟩:=hrel;have OM:=aZ hbr;by_cases hlt:i<n
  ·have hil:i<l.length:=by rw [HN.o];exact hlt
   obtain⟨b1,o1,k1,s1,A3,n3,c3,A4,n4,c4,rfl,q1,d0,d1,d2,d3⟩:=KO (Sl.more (Sl.below wI.o hbr) hbr.size) ((HR1.o.keep hbr).more hbr.size) hil HN.o.symm;obtain⟨b2,o2,k2,s2,A5,n5,c5,A6,n6,c6,rfl,q2,e0,e1,e2,e3⟩:=KO (Sl.more (Sl.below HS2.o hbr) hbr.size) ((HR2.o.keep hbr).more hbr.size) hil HN.o.symm;have HC:=aZ (fun(w1:World) (h:Below wr.heap.size wr w1)=>HH.o _ (List.getElem_mem hil) w1 _ _ (q1.far (Nat.le_refl _) h) (q2.far (Nat.le_refl _) h));have D0:=aZ d0;have D1:=aZ d1;have D2:=aZ d2;have D3:=aZ d3;have E0:=aZ e0;have E1:=aZ e1;have E2:=aZ e2;have E3:=aZ e3;have HB0:bN (Below wr.heap.size wr wr.drew):=aZ (aP wr 1);clear q1 q2 d0 d1 d2 d3 e0 e1 e2 e3 hbr;go_wp2_with fail;refine wp_region_held_drew (S:=fun w'=>Below wr.heap.size wr w') (by kernel_rfl) HB0.o (fun _=>?_)
   try simp only [Act.put,sq]
   refine tk 0 (.slice (some ⟨b1,o1,none⟩) n c1) HB0.o ?_;refine tk 1 (.int .i64 i) HB0.o ?_;refine tk 2 (.pointer (some ⟨b1,o1+i*4,none⟩)) HB0.o ?_;refine lJ 3 (.agg #[.int .i64 k1,.string s1,.slice A3 n3 c3,.slice A4 n4 c4]) (kp4 D0.o D1.o D2.o D3.o) HB0.o ?_;refine tk 4 (.slice (some ⟨b2,o2,none⟩) n c2) HB0.o ?_;refine tk 5 (.int .i64 i) HB0.o ?_;refine tk 6 (.pointer (some ⟨b2,o2+i*4,none⟩)) HB0.o ?_;refine lJ 7 (.agg #[.int .i64 k2,.string s2,.slice A5 n5 c5,.slice A6 n6 c6]) (kp4 E0.o E1.o E2.o E3.o) HB0.o ?_;refine wpAnyH_ready (rs:=[8]) (by kernel_rfl) (by simp) ?_;refine AllReadyH.cons rfl (fun K hK=>?_) (AllReadyH.nil);go_simp;refine(HC.o _ HB0.o).mono ?_;rintro e w2 ⟨rfl,hb⟩;have HB2:=aZ (HB0.o.trans (hb.mono HB0.o.size));clear hb;refine hK.out _ _ HB2.o (fun _=>?_);clear hK K
   try simp only [Act.put,sq]
   refine tk 9 (.bool true) HB2.o ?_;refine wpAnyH_done (by kernel_rfl) ?_ _;go_wp2_with fail
   go_roundw
   case rel=>exact⟨i+1,rfl,by omega,OM.o.trans (HB2.o.mono OM.o.size)⟩
   case measure=>simp [intOf];omega
  ·obtain rfl:i=n:=by omega
   clear hbr hlt;go_wp2_with fail;go_ret;exact⟨rfl,OM.o⟩
theorem aaZ (k:Int)(nm:Bt)(ns:List Bt)(ks:List bS)(H:∀t∈ks,Ov t):Ov (.mk k nm ns ks):=by
 intro w z1 z2 h1 h2;obtain⟨A1,c1,A2,c2,xk,rfl,s1,s2,r2⟩:=h1.parts;obtain⟨A3,c3,A4,c4,xk',rfl,s3,s4,r4⟩:=h2.parts;obtain⟨W,hW⟩:∃W,(w.alloc (.cells #[.int .i64 k,sv nm,.slice A1 ns.length c1,.slice A2 ks.length c2] 57)).alloc (.cells #[.int .i64 k,sv nm,.slice A3 ns.length c3,.slice A4 ks.length c4] 57)=W:=⟨_,rfl⟩
 have hb2:Below w.heap.size w W:=by rw [<-hW];exact((Below.refl _ _).alloc (Nat.le_refl _) _).alloc (by simp) _
 have hbx:=uZ w (.cells #[.int .i64 k,sv nm,.slice A1 ns.length c1,.slice A2 ks.length c2] 57) (.cells #[.int .i64 k,sv nm,.slice A3 ns.length c3,.slice A4 ks.length c4] 57);rw [hW]at hbx;have HX:=aZ hbx.1;have HY:=aZ hbx.2;have HB2:=aZ hb2;have HT:=aZ (Ow _ _ ns W (Ss.more (s1.below hb2) hb2.size) (Ss.more (s3.below hb2) hb2.size));have HK:=aZ (fun(w1:World) (h:Below W.heap.size W w1)=>Hu ks H w1 _ _ _ _ (Sl.more (Sl.below (Sl.more (Sl.below s2 hb2) hb2.size) h) h.size) ((r2.far (Nat.le_refl _) hb2).far (Nat.le_refl _) h) (Sl.more (Sl.below (Sl.more (Sl.below s4 hb2) hb2.size) h) h.size) ((r4.far (Nat.le_refl _) hb2).far (Nat.le_refl _) h));have l1:=(fE s2).2;generalize ns.length=n1 at*
 generalize ks.length=n2 at*
 clear h1 h2 s1 s2 s3 s4 r2 r4 hbx hb2;have hsz:w.heap.size+1<W.heap.size:=block_lt HY.o;obtain⟨x0,x1,x2,x3⟩:=KJ HX.o;obtain⟨y0,y1,y2,y3⟩:=KJ HY.o;go_enter Tryz.func85,Tryz.ntmps85;go_wp2_with fail;refine HT.o.mono ?_;rintro e w2 ⟨rfl,hb⟩;have HB3:=aZ hb;have x0:=kb hb x0;have x1:=kb hb x1;have x3:=kb hb x3;have y0:=kb hb y0;have y1:=kb hb y1;have y3:=kb hb y3;clear hb;go_wp2_with fail;refine(HK.o _ HB3.o).mono ?_;rintro e w3 ⟨rfl,hb⟩;have Bl:=aZ (HB3.o.trans (hb.mono HB3.o.size));have x0:=kb hb x0;have x1:=kb hb x1;have y0:=kb hb y0;have y1:=kb hb y1;clear hb;go_wp2_with fail;go_ret;exact⟨rfl,HB2.o.trans (Bl.o.mono HB2.o.size)⟩
theorem VK (t:bS):Ov t:=by
 have h:∀(n:Nat) (t:bS),SizeOf.sizeOf t<=n->Ov t:=by
  intro n;induction n with
  |zero=>intro t ht;cases t;simp at ht
  |succ n ih=>
   intro t ht;obtain⟨k,nm,ns,ks⟩:=t;refine aaZ k nm ns ks fun x hx=>ih x ?_;have:=List.sizeOf_lt_of_mem hx;simp at ht;omega
 exact h _ t (Nat.le_refl _)
theorem aa0 (l:List bS)(w:World)(v1 v2:Value)(x1 x2:List Value)(h1:Sl w w.heap.size 4 v1 x1)(r1:kg w w.heap.size x1 l)(h2:Sl w w.heap.size 4 v2 x2)(r2:kg w w.heap.size x2 l):
  Calls Tryz.prog 52 #[v1,v2] w fun e w'=>e=.returned (.bool true)∧Below w.heap.size w w':=Hu l (fun t _=>VK t) w v1 v2 x1 x2 h1 r1 h2 r2
def TB (x:bI):Prop:=∀(w:World) (z1 z2:List Value),zC w w.heap.size z1 x->zC w w.heap.size z2 x->
 Calls Tryz.prog 23 #[.agg z1.toArray,.agg z2.toArray] w fun e w'=>e=.returned (.bool true)∧Below w.heap.size w w'
theorem VL (k:Int)(text:Bt)(n line col:Int)(ts:List bS)(ns:List Bt)(ks:List bI)(H:∀t∈ks,TB t):TB (.mk k text n line col ts ns ks):=by
 intro w z1 z2 h1 h2;obtain⟨A1,c1,A2,c2,A3,c3,xt,xk,rfl,s1,r1,s2,s3,r3⟩:=h1.parts;obtain⟨A4,c4,A5,c5,A6,c6,xt',xk',rfl,s4,r4,s5,s6,r6⟩:=h2.parts;obtain⟨W,hW⟩:∃W,(w.alloc (.cells #[.int .i64 k,sv text,.int .i64 n,.int .i64 line,.int .i64 col,.slice A1 ts.length c1,.slice A2 ns.length c2,.slice A3 ks.length c3] 52)).alloc (.cells #[.int .i64 k,sv text,.int .i64 n,.int .i64 line,.int .i64 col,.slice A4 ts.length c4,.slice A5 ns.length c5,.slice A6 ks.length c6] 52)=W:=⟨_,rfl⟩
 have hb2:Below w.heap.size w W:=by rw [<-hW];exact((Below.refl _ _).alloc (Nat.le_refl _) _).alloc (by simp) _
 have hbx:=uZ w (.cells #[.int .i64 k,sv text,.int .i64 n,.int .i64 line,.int .i64 col,.slice A1 ts.length c1,.slice A2 ns.length c2,.slice A3 ks.length c3] 52) (.cells #[.int .i64 k,sv text,.int .i64 n,.int .i64 line,.int .i64 col,.slice A4 ts.length c4,.slice A5 ns.length c5,.slice A6 ks.length c6] 52);rw [hW]at hbx;have HX:=aZ hbx.1;have HY:=aZ hbx.2;have HB2:=aZ hb2;have HT:=aZ (Ow _ _ ns W (Ss.more (s2.below hb2) hb2.size) (Ss.more (s5.below hb2) hb2.size));have HK:=aZ (fun(w1:World) (h:Below W.heap.size W w1)=>aa0 ts w1 _ _ _ _ (Sl.more (Sl.below (Sl.more (Sl.below s1 hb2) hb2.size) h) h.size) ((r1.far (Nat.le_refl _) hb2).far (Nat.le_refl _) h) (Sl.more (Sl.below (Sl.more (Sl.below s4 hb2) hb2.size) h) h.size) ((r4.far (Nat.le_refl _) hb2).far (Nat.le_refl _) h));have H6:=aZ (Sl.more (Sl.below s3 hb2) hb2.size);have HS6:=aZ (Sl.more (Sl.below s6 hb2) hb2.size);have HR3:=aZ (r3.far (Nat.le_refl _) hb2);have JZ:=aZ (r6.far (Nat.le_refl _) hb2);have HH:=aZ H;have l1:=(fE s3).2;have l2:=(fE s6).2;obtain⟨n4,hn4⟩:∃x,ks.length=x:=⟨_,rfl⟩
 rw [hn4]at HX HY H6 HS6 l1 l2 hW;rw [hn4];have Rn:=aZ hn4;generalize ts.length=n2 at*
 generalize ns.length=n3 at*
 clear h1 h2 s1 s2 s3 s4 s5 s6 r1 r3 r4 r6 hbx hb2 H hn4;have hsz:w.heap.size+1<W.heap.size:=block_lt HY.o;obtain⟨x0,x1,x2,x3,x4,x5,x6,x7⟩:=lQ HX.o;obtain⟨y0,y1,y2,y3,y4,y5,y6,y7⟩:=lQ HY.o;go_enter Tryz.func23,Tryz.ntmps23;go_wp2_with fail;refine HT.o.mono ?_;rintro e w2 ⟨rfl,hb⟩;have HB3:=aZ hb;have x0:=kb hb x0;have y0:=kb hb y0;have x1:=kb hb x1;have y1:=kb hb y1;have x2:=kb hb x2;have y2:=kb hb y2;have x3:=kb hb x3;have y3:=kb hb y3;have x4:=kb hb x4;have y4:=kb hb y4;have x5:=kb hb x5;have y5:=kb hb y5;have x7:=kb hb x7;have y7:=kb hb y7;clear hb;go_wp2_with fail;refine(HK.o _ HB3.o).mono ?_;rintro e w3 ⟨rfl,hb⟩;have Bl:=aZ (HB3.o.trans (hb.mono HB3.o.size));have x0:=kb hb x0;have y0:=kb hb y0;have x1:=kb hb x1;have y1:=kb hb y1;have x2:=kb hb x2;have y2:=kb hb y2;have x3:=kb hb x3;have y3:=kb hb y3;have x4:=kb hb x4;have y4:=kb hb y4;have x7:=kb hb x7;have y7:=kb hb y7;clear hb;go_wp2_with fail;clear x0 x1 x2 x3 x4 x5 x6 y0 y1 y2 y3 y4 y5 y6;go_loopw [7] (fun v7 wr=>∃i:Nat,v7=.int .i64 i∧i<=n4∧Below W.heap.size W wr) (fun v7 _=>n4 - (intOf v7).toNat)
 case atStart=>exact⟨0,rfl,by omega,Bl.o⟩
 case round=>
  obtain⟨i,rfl,hi,hbr⟩:=hrel;have OM:=aZ hbr;have x7:=((hbr.cell (p:=⟨w.heap.size,7,none⟩) (by show w.heap.size<W.heap.size;omega)).trans (lQ HX.o).2.2.2.2.2.2.2)
  have y7:=((hbr.cell (p:=⟨w.heap.size+1,7,none⟩) hsz).trans (lQ HY.o).2.2.2.2.2.2.2)
  by_cases hlt:i<n4
  ·have hil:i<ks.length:=by rw [Rn.o];exact hlt
   obtain⟨b1,o1,k1,s1,a1,a2,a3,P1,m1,e1,P2,m2,e2,P3,m3,e3,rfl,q1,d0,d1,d2,d3,d4,d5,d6,d7⟩:=ED (Sl.more (Sl.below H6.o hbr) hbr.size) ((HR3.o.keep hbr).more hbr.size) hil Rn.o.symm;obtain⟨b2,o2,k2,s2,a4,a5,a6,P4,m4,e4,P5,m5,e5,P6,m6,e6,rfl,q2,f0,f1,f2,f3,f4,f5,f6,f7⟩:=ED (Sl.more (Sl.below HS6.o hbr) hbr.size) ((JZ.o.keep hbr).more hbr.size) hil Rn.o.symm;have HC:=aZ (fun(w1:World) (h:Below wr.heap.size wr w1)=>HH.o _ (List.getElem_mem hil) w1 _ _ (q1.far (Nat.le_refl _) h) (q2.far (Nat.le_refl _) h));have D0:=aZ d0;have E0:=aZ f0;have D1:=aZ d1;have E1:=aZ f1;have D2:=aZ d2;have E2:=aZ f2;have D3:=aZ d3;have E3:=aZ f3;have D4:=aZ d4;have E4:=aZ f4;have D5:=aZ d5;have E5:=aZ f5;have D6:=aZ d6;have E6:=aZ f6;have D7:=aZ d7;have E7:=aZ f7;have X7:=aZ x7;have Y7:=aZ y7;have HB0:bN (Below wr.heap.size wr wr.drew):=aZ (aP wr 1);clear q1 q2 d0 d1 d2 d3 d4 d5 d6 d7 f0 f1 f2 f3 f4 f5 f6 f7 hbr;go_wp2_with fail;refine wp_region_held_drew (S:=fun w'=>Below wr.heap.size wr w') (by kernel_rfl) HB0.o (fun _=>?_)
   try simp only [Act.put,sq]
   refine tk 0 (.pointer (some ⟨w.heap.size,7,none⟩)) HB0.o ?_;refine lJ 1 (.slice (some ⟨b1,o1,none⟩) n4 c3) (Um X7.o) HB0.o ?_;refine tk 2 (.int .i64 i) HB0.o ?_;refine tk 3 (.pointer (some ⟨b1,o1+i*8,none⟩)) HB0.o ?_;refine lJ 4 (.agg #[.int .i64 k1,.string s1,.int .i64 a1,.int .i64 a2,.int .i64 a3,.slice P1 m1 e1,.slice P2 m2 e2,.slice P3 m3 e3]) (kp8 D0.o D1.o D2.o D3.o D4.o D5.o D6.o D7.o) HB0.o ?_;refine tk 5 (.pointer (some ⟨w.heap.size+1,7,none⟩)) HB0.o ?_;refine lJ 6 (.slice (some ⟨b2,o2,none⟩) n4 c6) (Um Y7.o) HB0.o ?_;refine tk 7 (.int .i64 i) HB0.o ?_;refine tk 8 (.pointer (some ⟨b2,o2+i*8,none⟩)) HB0.o ?_;refine lJ 9 (.agg #[.int .i64 k2,.string s2,.int .i64 a4,.int .i64 a5,.int .i64 a6,.slice P4 m4 e4,.slice P5 m5 e5,.slice P6 m6 e6]) (kp8 E0.o E1.o E2.o E3.o E4.o E5.o E6.o E7.o) HB0.o ?_;refine wpAnyH_ready (rs:=[10]) (by kernel_rfl) (by simp) ?_;refine AllReadyH.cons rfl (fun K hK=>?_) (AllReadyH.nil);go_simp;refine(HC.o _ HB0.o).mono ?_;rintro e w2 ⟨rfl,hb⟩;have HB2:=aZ (HB0.o.trans (hb.mono HB0.o.size));clear hb;refine hK.out _ _ HB2.o (fun _=>?_);clear hK K
   try simp only [Act.put,sq]
   refine tk 11 (.bool true) HB2.o ?_;refine wpAnyH_done (by kernel_rfl) ?_ _;go_wp2_with fail
   go_roundw
   case rel=>exact⟨i+1,rfl,by omega,OM.o.trans (HB2.o.mono OM.o.size)⟩
   case measure=>simp [intOf];omega
  ·obtain rfl:i=n4:=by omega
   clear hbr hlt;go_wp2_with fail;go_ret;exact⟨rfl,HB2.o.trans (OM.o.mono HB2.o.size)⟩
theorem VN (t:bI):TB t:=by
 have h:∀(n:Nat) (t:bI),SizeOf.sizeOf t<=n->TB t:=by
  intro n;induction n with
  |zero=>intro t ht;cases t;simp at ht
  |succ n ih=>
   intro t ht;obtain⟨k,text,n1,line,col,ts,ns,ks⟩:=t;refine VL k text n1 line col ts ns ks fun x hx=>ih x ?_;have:=List.sizeOf_lt_of_mem hx;simp at ht;omega
 exact h _ t (Nat.le_refl _)
def Sep (x:Int ×Bt)(r:Bt):Prop:=match r with
 | []=>True
 |d :: _=>x.1=4∨(x.1=5∧(x.2.length=2∨[x.2.headD 0,d] ∉ cu))∨bf d=false∧x.1≠5
inductive Pc where
 |tok (k:Int) (t:Bt):Pc
 |sp:Pc
 |nl:Pc
def Pc.text:Pc->Bt
 |.tok k t=>yT (k,t)
 |.sp=>[32]
 |.nl=>[10]
def Pc.aoA:Pc->Option (Int ×Bt)
 |.tok k t=>some (k,t)
 |_=>none
def TD (l:List Pc):Bt:=l.flatMap Pc.text
def aa1 (l:List Pc):List (Int ×Bt):=l.filterMap Pc.aoA
theorem QX (p:Pc)(l:List Pc):TD (p :: l)=p.text++TD l:=by unfold TD;rw [List.flatMap_cons]
def OkP:List Pc->Prop
 | []=>True
 |.tok k t :: l=>Good (k,t)∧Sep (k,t) (TD l)∧OkP l
 |_ :: l=>OkP l
theorem VO {x:Int ×Bt}(h:Good x):∃c r,yT x=c :: r:=by
 unfold Good at h;cases hw:yT x with
 |nil=>rw [hw]at h;simp [dV]at h
 |cons c r=>exact⟨c,r,rfl⟩
def TF (d:Nat)(x:Int ×Bt):Option Nat:=
 if x.1=5 then
  (if x.2=[40]∨x.2=[91]∨x.2=[123]then some (d+1)
   else if x.2=[41]∨x.2=[93]∨x.2=[125]then(if d=0 then none else some (d - 1))
   else some d)
 else some d
def DK (d:Nat)(l:List (Int ×Bt)):Option Nat:=l.foldlM TF d
theorem QY (d:Nat)(x:Int ×Bt)(l:List (Int ×Bt)):DK d (x :: l)=(TF d x).bind fun e=>DK e l:=by unfold DK;rw [List.foldlM_cons];rfl
theorem KS (d:Nat)(a b:List (Int ×Bt)):DK d (a++b)=(DK d a).bind fun e=>DK e b:=by unfold DK;rw [List.foldlM_append];rfl
def Bal (l:List (Int ×Bt)):Prop:=∀d,DK d l=some d
theorem Bal.nil:Bal []:=fun _=>rfl
theorem Bal.append {a b:List (Int ×Bt)}(ha:Bal a)(hb:Bal b):Bal (a++b):=fun d=>by rw [KS,ha d];exact hb d
theorem Bal.one {k:Int}{t:Bt}(h:k≠5∨(t≠[40]∧t≠[91]∧t≠[123]∧t≠[41]∧t≠[93]∧t≠[125])):Bal [(k,t)]:=by
 intro d;rw [QY];have:TF d (k,t)=some d:=by
  unfold TF;by_cases hk:k=5
  ·rw [if_pos hk];rcases h with h |⟨h1,h2,h3,h4,h5,h6⟩
   ·exact absurd hk h
   ·rw [if_neg (by simp [h1,h2,h3]),if_neg (by simp [h4,h5,h6])]
  ·rw [if_neg hk]
 rw [this];rfl
def K3:Pc->Nat
 |.tok k t=>if k=5 then(if t=[40]∨t=[91]∨t=[123]then 3 else 2)else if k=4 then 3 else 1
 |_=>0
def rcP:Pc->Nat
 |.tok k t=>if k=5 then(if t.length=2∨(t.headD 0).toNat ∉ [45,61,60,62,43]then 0 else 2)else if k=4 then 0 else 1
 |_=>0
theorem TG (k:Int)(t:Bt):K3 (.tok k t)=if k=5 then(if t=[40]∨t=[91]∨t=[123]then 3 else 2)else if k=4 then 3 else 1:=rfl
theorem TH (k:Int)(t:Bt):rcP (.tok k t)=if k=5 then(if t.length=2∨(t.headD 0).toNat ∉ [45,61,60,62,43]then 0 else 2)else if k=4 then 0 else 1:=rfl
def aa3 (r l:Nat):Bool:=match r with
 |0=>true
 |1=>l==0 || l==2 || l==3
 |_=>l==0 || l==1 || l==3 || l==4
def Ox:Pc->Prop
 |.tok k t=>Good (k,t)∧1<=k∧k<=5
 |_=>True
def VQ:List Pc->Prop
 | []=>True
 |p :: l=>Ox p∧(∀q,l.head? =some q->aa3 (rcP p) (K3 q)=true)∧VQ l
theorem Oy:∀m∈cu,(m.headD 0).toNat∈[45,61,60,62,43]:=by decide
theorem IG:∀m∈cu,(m.getD 1 0).toNat∈[62,58,60,61,43]:=by decide
theorem QZ {k:Int}{t:Bt}(h:Good (k,t))(h1:1<=k)(h5:k<=5):∃d r,yT (k,t)=d :: r∧((k=1∨k=2∨k=3)->bf d=true)∧(k=4->d.toNat=34)∧(k=5->bf d=false∧d=t.headD 0):=by
 obtain⟨c,r,hc⟩:=VO h;refine⟨c,r,hc,?_⟩;unfold Good at h;rw [hc,dV]at h;by_cases hl:dS c=true
 ·rw [if_pos hl]at h;have hi:bf c=true:=by unfold bf;rw [hl];rfl
  have hk:k=1∨k=2:=by
   repeat' split at h
   all_goals first |cases h;done |(injection h with h;simp only [Prod.mk.injEq]at h;omega)
  exact⟨fun _=>hi,fun h=>by omega,fun h=>by omega⟩
 ·rw [if_neg hl]at h;by_cases hd:bK c=true
  ·rw [if_pos hd]at h;have hi:bf c=true:=by unfold bf;rw [hd];simp
   have hk:k=3:=by
    repeat' split at h
    all_goals first |cases h;done |(injection h with h;simp only [Prod.mk.injEq]at h;omega)
   exact⟨fun _=>hi,fun h=>by omega,fun h=>by omega⟩
  ·rw [if_neg hd]at h;have hi:bf c=false:=by unfold bf;simp [hl,hd]
   by_cases CP:c.toNat=34
   ·rw [if_pos CP]at h;have hk:k=4:=by
     repeat' split at h
     all_goals first |cases h;done |(injection h with h;simp only [Prod.mk.injEq]at h;omega)
    exact⟨fun h=>by omega,fun _=>CP,fun h=>by omega⟩
   ·rw [if_neg CP]at h;split at h
    ·injection h with h;simp only [Prod.mk.injEq]at h;refine⟨fun h=>by omega,fun h=>by omega,fun _=>⟨hi,?_⟩⟩;rw [<-h.2.1];rfl
    ·split at h
     ·injection h with h;simp only [Prod.mk.injEq]at h;refine⟨fun h=>by omega,fun h=>by omega,fun _=>⟨hi,?_⟩⟩;rw [<-h.2.1];rfl
     ·cases h
theorem adl {k:Int}{t:Bt}{q:Pc}{r:Bt}(hp:Ox (.tok k t))(hq:Ox q)(ha:aa3 (rcP (.tok k t)) (K3 q)=true):Sep (k,t) (q.text++r):=by
 obtain⟨hg,h1,h5⟩:=hp;have hne:∃d x,q.text++r=d :: x∧(K3 q=0->bV d=true)∧(K3 q=2->bf d=false)∧(K3 q=1->bf d=true)∧(K3 q=3->d.toNat=34∨d.toNat=40∨d.toNat=91∨d.toNat=123):=by
  cases q with
  |sp=>exact⟨32,r,rfl,fun _=>by decide,fun h=>absurd h (by decide),fun h=>absurd h (by decide),fun h=>absurd h (by decide)⟩
  |nl=>exact⟨10,r,rfl,fun _=>by decide,fun h=>absurd h (by decide),fun h=>absurd h (by decide),fun h=>absurd h (by decide)⟩
  |tok k2 t2=>
   obtain⟨d,x,e,e1,e2,e3⟩:=QZ hq.1 hq.2.1 hq.2.2;refine⟨d,x++r,by show yT (k2,t2)++r= _;rw [e];rfl,?_,?_,?_,?_⟩
   all_goals
    rw [TG];by_cases hk5:k2=5
    ·rw [if_pos hk5];by_cases ht:t2=[40]∨t2=[91]∨t2=[123]
     ·rw [if_pos ht];have hd:=(e3 hk5).2;intro h
      first
       |omega
       |(rcases ht with rfl |rfl |rfl <;> simp at hd <;> subst hd <;> simp)
     ·rw [if_neg ht];intro h
      first
       |omega
       |exact(e3 hk5).1
    ·rw [if_neg hk5];by_cases hk4:k2=4
     ·rw [if_pos hk4];intro h
      first
       |omega
       |exact .inl (e2 hk4)
     ·rw [if_neg hk4];have hq1:=hq.2.1;have hq2:=hq.2.2;intro h
      first
       |omega
       |exact e1 (by omega)
 obtain⟨d,x,e,e0,e2,e1,e3⟩:=hne;rw [e];show k=4∨(k=5∧(t.length=2∨[t.headD 0,d] ∉ cu))∨bf d=false∧k≠5;have hi0:K3 q=0->bf d=false:=fun h=>(CO (e0 h)).1;have hi3:K3 q=3->bf d=false:=fun h=>by
  have:=e3 h;unfold bf dS bK;simp only [Bool.or_eq_false_iff,Bool.and_eq_false_iff,decide_eq_false_iff_not];omega
 by_cases hk5:k=5
 ·refine .inr (.inl ⟨hk5,?_⟩);by_cases ht:t.length=2
  ·exact .inl ht
  ·refine .inr fun hm=>?_;have hs:=Oy _ hm;have hs2:=IG _ hm;simp only [List.headD_cons]at hs;rw [show([t.headD 0,d]:Bt).getD 1 0=d from rfl]at hs2;have hr:rcP (.tok k t)=2:=by
    rw [TH];rw [if_pos hk5,if_neg];rintro(h |h)
    ·exact ht h
    ·exact h hs
   rw [hr]at ha;have ha2:K3 q=0∨K3 q=1∨K3 q=3:=by
    have hl4:K3 q≠4:=by
     cases q with
     |tok k2 t2=>rw [TG];(repeat' split);all_goals omega
     |sp=>decide
     |nl=>decide
    unfold aa3 at ha;simp only [Bool.or_eq_true,beq_iff_eq]at ha;omega
   have hd:d.toNat=62∨d.toNat=58∨d.toNat=60∨d.toNat=61∨d.toNat=43:=by simpa using hs2
   rcases ha2 with h |h |h
   ·have:=e0 h;unfold bV at this;simp only [Bool.or_eq_true,decide_eq_true_eq]at this;omega
   ·have:=e1 h;unfold bf dS bK at this;simp only [Bool.or_eq_true,Bool.and_eq_true,decide_eq_true_eq]at this;omega
   ·have:=e3 h;omega
 ·by_cases hk4:k=4
  ·exact .inl hk4
  ·refine .inr (.inr ⟨?_,hk5⟩);have hr:rcP (.tok k t)=1:=by rw [TH];rw [if_neg hk5,if_neg hk4]
   rw [hr]at ha;unfold aa3 at ha;simp only [Bool.or_eq_true,beq_iff_eq]at ha;rcases ha with(h |h) |h
   ·exact hi0 h
   ·exact e2 h
   ·exact hi3 h
theorem VQ.ok:∀{l:List Pc},VQ l->OkP l
 | [],_=>trivial
 |.sp :: l,h=>VQ.ok (l:=l) h.2.2
 |.nl :: l,h=>VQ.ok (l:=l) h.2.2
 |.tok k t :: l,h=>by
  refine⟨h.1.1,?_,VQ.ok h.2.2⟩;cases l with
  |nil=>trivial
  |cons q l=>
   rw [QX];exact adl h.1 h.2.2.1 (h.2.1 q rfl)
def WP (l:List Pc):Prop:=VQ l∧(∃p,l.head? =some p∧(K3 p=1∨K3 p=3))∧(∃p,l.getLast? =some p∧(rcP p=0∨rcP p=1))∧Bal (aa1 l)
def VP (l:List Pc):Prop:=VQ l∧(∀p,l.head? =some p->K3 p=2∨K3 p=3)∧(∀p,l.getLast? =some p->rcP p=0∨rcP p=1)∧Bal (aa1 l)
def EP (l:List Pc):Prop:=l=[]∨WP l
inductive Sg where
 |p (x:Pc):Sg
 |u (l:List Pc):Sg
 |v (l:List Pc):Sg
 |e (l:List Pc):Sg
 |w (x:Pc):Sg
def Sg.Is:Sg->Prop
 |.p x=>Ox x
 |.u l=>WP l
 |.v l=>VP l
 |.e l=>EP l
 |.w x=>Ox x∧Bal (aa1 [x])
theorem VQ.append:∀{a b:List Pc},VQ a->VQ b->(∀p q,a.getLast? =some p->b.head? =some q->aa3 (rcP p) (K3 q)=true)->VQ (a++b)
 | [],b,_,hb,_=>hb
 | [p],b,ha,hb,h=>⟨ha.1,fun q hq=>h p q rfl hq,hb⟩
 |p :: p2 :: a,b,ha,hb,h=>⟨ha.1,fun q hq=>ha.2.1 q hq,VQ.append (a:=p2 :: a) ha.2.2 hb (fun x y hx hy=>h x y (by rw [List.getLast?_cons_cons];exact hx) hy)⟩
inductive Oz (m:Nat):bS->Prop
 |base {k:Int}:0<=k->k<=4->Oz m (.mk k [] [] [])
 |Wn {ns:List Bt}{ks:List bS}:ns.all eG=true->(∀t∈ks,bC m t=true)->ns.length=ks.length->Oz m (.mk 5 [] ns ks)
 |ayF {a b:bS}:bC m a=true->bC m b=true->Oz m (.mk 6 [] [] [a,b])
 |union {a b:bS}{l:List bS}:(∀t∈a :: b :: l,bC m t=true)->Oz m (.mk 7 [] [] (a :: b :: l))
 |var {nm:Bt}:eG nm=true->Oz m (.mk 8 nm [] [])
inductive kJ (m:Nat):bI->Prop
 |int {n li co:Int}:0<=n->n<=9223372036854775807->kJ m (.mk 0 [] n li co [] [] [])
 |str {t:Bt}{li co:Int}:H8 t=true->kJ m (.mk 1 t 0 li co [] [] [])
 |bool {n li co:Int}:n=0∨n=1->kJ m (.mk 2 [] n li co [] [] [])
 |null {li co:Int}:kJ m (.mk 3 [] 0 li co [] [] [])
 |name {t:Bt}{li co:Int}:eG t=true->kJ m (.mk 4 t 0 li co [] [] [])
 |ayG {t:Bt}{li co:Int}{a b:bI}:eG t=true->d9 m a=true->d9 m b=true->kJ m (.mk 5 t 0 li co [] [] [a,b])
 |ayH {t:Bt}{li co:Int}{x:bS}{a b:bI}:eG t=true->bC 16 x=true->d9 m a=true->d9 m b=true->kJ m (.mk 5 t 0 li co [x] [] [a,b])
 |fn1 {t:Bt}{li co:Int}{x:bS}{a:bI}:eG t=true->bC 16 x=true->d9 m a=true->kJ m (.mk 6 t 0 li co [x] [] [a])
 |fn2 {t:Bt}{li co:Int}{x y:bS}{a:bI}:eG t=true->bC 16 x=true->bC 16 y=true->d9 m a=true->kJ m (.mk 6 t 0 li co [x,y] [] [a])
 |call {li co:Int}{a b:bI}:d9 m a=true->d9 m b=true->kJ m (.mk 7 [] 0 li co [] [] [a,b])
 |Wn {li co:Int}{ns:List Bt}{ks:List bI}:ns.all eG=true->(∀x∈ks,d9 m x=true)->ns.length=ks.length->kJ m (.mk 8 [] 0 li co [] ns ks)
 |sel {t:Bt}{li co:Int}{a:bI}:eG t=true->d9 m a=true->kJ m (.mk 9 t 0 li co [] [] [a])
 |with_ {t:Bt}{li co:Int}{a b:bI}:eG t=true->d9 m a=true->d9 m b=true->kJ m (.mk 10 t 0 li co [] [] [a,b])
 |if_ {li co:Int}{a b c:bI}:d9 m a=true->d9 m b=true->d9 m c=true->kJ m (.mk 11 [] 0 li co [] [] [a,b,c])
 |is_ {n li co:Int}{a:bI}:0<=n->n<=5->d9 m a=true->kJ m (.mk 12 [] n li co [] [] [a])
 |as_ {li co:Int}{x:bS}{a:bI}:bC 16 x=true->d9 m a=true->kJ m (.mk 13 [] 0 li co [x] [] [a])
 |op_ {t:Bt}{li co:Int}{a b:bI}:t∈opsL->d9 m a=true->d9 m b=true->kJ m (.mk 14 t 0 li co [] [] [a,b])
 |not_ {li co:Int}{a:bI}:d9 m a=true->kJ m (.mk 15 [] 0 li co [] [] [a])
 |ayI {li co:Int}{a:bI}:d9 m a=true->kJ m (.mk 16 [] 0 li co [] [] [a])
 |atl {li co:Int}{a:bI}:d9 m a=true->kJ m (.mk 17 [] 0 li co [] [] [a])
 |avz {li co:Int}:kJ m (.mk 18 [] 0 li co [] [] [])
 |inst {t:Bt}{li co:Int}{x:bS}{ts:List bS}:eG t=true->(∀y∈x :: ts,bC 16 y=true)->kJ m (.mk 19 t 0 li co (x :: ts) [] [])
abbrev KT:=Int ×Bt
theorem adn {m:List aI}{k:Int}{s:Bt}{l:List KT}(h:m.map agq=(k,s) :: l):∃t m',m=t :: m'∧t.kind=k∧t.text=s∧m'.map agq=l:=by
 cases m with
 |nil=>cases h
 |cons t m=>
  rw [List.map_cons]at h;injection h with h1 h2;injection h1 with h3 h4;exact⟨t,m,rfl,h3,h4,h2⟩
def isK (k:Int)(s s':Bt):Bool:=(k==2 || k==5) && s==s'
theorem ai6 {t:aI}{k:Int}{s:Bt}(h1:t.kind=k)(h2:t.text=s):jA t=isK k s:=by
 funext s';unfold jA isK;rw [h1,h2]
theorem ado {t:aI}{k:Int}{s:Bt}(h1:t.kind=k)(h2:t.text=s)(s':Bt):jA t s'=isK k s s':=by rw [ai6 h1 h2]
def Bv (l:List Bt)(r:List aI):Prop:=∀s∈l,jA (aS r) s=false
theorem KU {l:List Bt}{t:aI}{r:List aI}{k:Int}{s:Bt}(h1:t.kind=k)(h2:t.text=s)(h:l.all (fun s'=> !isK k s s')=true):Bv l (t :: r):=by
 intro s' hs;have:=List.all_eq_true.1 h s' hs;rw [show aS (t :: r)=t from rfl,ado h1 h2];simpa using this
theorem Bv.sub {l l':List Bt}{r:List aI}(h:Bv l r)(hs:∀s∈l',s∈l):Bv l' r:=fun s hm=>h s (hs s hm)
def aa4:List Bt:=[[108,101,116],[105,102],[102,110],[45],[110,111,116]]
def vg (l:List KT):Prop:=∃k s r,l=(k,s) :: r∧aa4.all (fun s'=> !isK k s s')=true∧(k=1->r=[]∨∃s2 r2,r=(5,s2) :: r2∧s2≠[58])
theorem vg.more {l r:List KT}(h:vg l){s:Bt}(hs:s≠[58]):vg (l++(5,s) :: r):=by
 obtain⟨k,s0,r0,rfl,h1,h2⟩:=h;refine⟨k,s0,r0++(5,s) :: r,rfl,h1,fun h=>?_⟩;rcases h2 h with rfl |⟨s2,r2,rfl,h3⟩
 ·exact .inr ⟨s,r,rfl,hs⟩
 ·exact .inr ⟨s2,_,rfl,h3⟩
theorem vg.one {k:Int}{s:Bt}{r:List KT}(h1:aa4.all (fun s'=> !isK k s s')=true)(h2:k≠1):vg ((k,s) :: r):=⟨k,s,r,rfl,h1,fun h=>absurd h h2⟩
theorem vg.next {l:List KT}{m r:List aI}(h:vg l)(hm:m.map agq=l):Bv aa4 (m++r):=by
 obtain⟨k,s0,r0,rfl,h1,_⟩:=h;obtain⟨t,m',rfl,ht1,ht2,_⟩:=adn hm;exact KU ht1 ht2 h1
section
variable (li co:Int)
end
end Go.Proofs.YtfgjkmipfikooaaGreatDoor
