/- UNB, UN7, UN9, GO, YJ, YQ, YZ -/
import Derived.Test.YtfgjkmipfikooaaGreatDoorEB08
set_option linter.unusedSimpArgs false
set_option linter.unusedVariables false
set_option maxRecDepth 100000
set_option maxHeartbeats 64000000
namespace Go.Proofs.YtfgjkmipfikooaaGreatDoor
open Go.RowKit
theorem QU (k:Int)(hk:k=5∨k=6∨k=7∨k=8∨k=9∨k=10∨k=11∨k=12∨k=13∨k=14∨k=15∨k=16∨k=17)(text:Bt)(n li co:Int)(ts:List bC)(ns:List Bt)(ks:List bF)(ih:∀y∈ks,Yu y):Yu (.mk k text n li co ts ns ks):=by
 intro w z m hr hok hnd hc hX;have hlen:=xQ _ m hnd;obtain⟨q,rfl,WH,hown,hns,hts,hkk⟩:=za hnd;rw [CJ,Bool.and_eq_true,Bool.and_eq_true,Bool.and_eq_true,Bool.and_eq_true,decide_eq_true_eq,decide_eq_true_eq,decide_eq_true_eq,decide_eq_true_eq]at hown;obtain⟨⟨⟨⟨hn0,hn1⟩,htx⟩,hlo,hhi⟩,hkn,hkd⟩:=hown;have htl:=CB htx;rw [GN]at hok;obtain⟨ok1,TK,Qp,Vd,Za,Yo,Yp,Vi⟩:=hok;obtain⟨A1,c1,A2,c2,A3,c3,xt,xk,rfl,s1,r1,s2,s3,r3⟩:=hr.parts;have l1:=(bN s1).2;have l2:=(bN s2).2;have l3:=(bN s3).2;rw [fT]at hlen ⊢;rw [gT]at hc hlen;have hcT:dh ts<=300000:=by omega
 have hcK:fJ ks<=300000:=by omega
 have hdc:ks.length<=300000:=Nat.le_trans (vg ks) hcK;obtain⟨S,hS⟩:∃S,fU ks=S:=⟨_,rfl⟩
 have QV:S.length=ks.length:=by rw [<-hS,qM]
 have HSG:bR (∀(i:Nat) (h:i<ks.length) (h2:i<S.length),S[i]=fT ks[i]):=aZ (by
  intro i h h2;subst hS;simp [rZ])
 rw [hS]at hlen ⊢;have HKK:=aZ (And.intro s3 r3);have DW:=aZ (And.intro s1 r1);have Gt:=aZ s2;have Qo:=aZ ih;have Mg:=aZ (uj.1 Vi);have HNK:=aZ hkk;have HCK:=aZ hcK;have Yv:=aZ hcT;have WI:=aZ hts;have Eb:=aZ hns;have HX:=aZ hX;have FV:=Qp;clear hr s1 r1 s2 s3 r3 ih ok1 TK Qp Vd Za Yo Yp Vi hkk hts hns hX hS hnd WH;obtain⟨a,hA⟩:∃a,ts.length=a:=⟨_,rfl⟩
 obtain⟨b,hB⟩:∃b,ns.length=b:=⟨_,rfl⟩
 obtain⟨d,hD⟩:∃d,ks.length=d:=⟨_,rfl⟩
 rw [hA]at l1 DW hlo hhi;rw [hB]at l2 Gt hkn hkd;rw [hD]at l3 HKK hkd hdc QV;rw [hA,hB,hD];have HA:=aZ hA;have qA:=aZ hB;have HD:=aZ hD;have HSL:=aZ QV;clear hA hB hD;have HKD:=aZ hkd;have WJ:=aZ hkn;have CQ:=aZ hlo;have HHI:=aZ hhi;have WC:=aZ htx;have QW:=aZ hn0;have WK:=aZ hn1;have HSE:=aZ (fun(i:Nat) (h:i<ks.length)=>xQ ks[i] q (HNK.o _ (List.getElem_mem h)));have HLEN:=aZ hlen;have Tk:=aZ hk;clear hkd hkn hlo hhi htx hn0 hn1 hlen hk;obtain⟨OB,WL⟩:∃OB,Obj.cells #[.int .i64 k,sv text,.int .i64 n,.int .i64 li,.int .i64 co,.slice A1 a c1,.slice A2 b c2,.slice A3 d c3] 52 (0,0)=OB:=⟨_,rfl⟩
 obtain⟨W,hW⟩:∃W,(w.alloc (.cells #[.int .i64 k,sv text,.int .i64 n,.int .i64 li,.int .i64 co,.slice A1 a c1,.slice A2 b c2,.slice A3 d c3] 52)).alloc (.cells #[.slice none 0 0] 25)=W:=⟨_,rfl⟩
 have WM:bR (CP w W OB (.slice none 0 0) (S.take 0)):=aZ (by
  rw [<-hW,<-WL];exact⟨(kP w _ _).2,gX.nil _ _ _,(kP w _ _).1,((Below.refl _ _).alloc (Nat.le_refl _) _).alloc (by simp) _⟩)
 have tH:=aZ WL;have uW:=aZ hW;clear hW WL;go_enter Tryz.func57,Tryz.ntmps57;go_wp2_with fail;have hW:=uW.o;rw [hW];clear hW;go_loopw [10] (fun v10 wr=>∃(i:Nat) (v:Value),v10=.int .i64 i∧i<=d∧CP w wr OB v (S.take i)) (fun v10 _=>d - (intOf v10).toNat)
 case atStart=>exact⟨0,_,rfl,by omega,WM.o⟩
 case round=>
  obtain⟨i,v,rfl,hi_,hat⟩:=hrel;have oZ:=aZ hat;clear hat;by_cases hlt:i<d
  ·have hil:i<ks.length:=by rw [HD.o];exact hlt
   have hiS:i<S.length:=by rw [HSL.o];exact hlt
   have hbr:=oZ.o.below;obtain⟨b2,o2,kk,ss,y2,y3,y4,A5,n5,c5,A6,n6,c6,A7,n7,c7,hA3,hr1,e0,e1,e2,e3,e4,e5,e6,e7⟩:=BF (Sl.more (Sl.below HKK.o.1 hbr) hbr.size) ((HKK.o.2.keep hbr).more hbr.size) hil HD.o.symm;obtain⟨wA,Ii⟩:∃wA,wr.alloc (.cells #[.int .i64 kk,.string ss,.int .i64 y2,.int .i64 y3,.int .i64 y4,.slice A5 n5 c5,.slice A6 n6 c6,.slice A7 n7 c7] 52)=wA:=⟨_,rfl⟩
   have Ct:Below wr.heap.size wr wA:=by rw [<-Ii];exact(Below.refl _ _).alloc (Nat.le_refl _) _
   have hsA:wA.heap[wr.heap.size]? =some (.cells #[.int .i64 kk,.string ss,.int .i64 y2,.int .i64 y3,.int .i64 y4,.slice A5 n5 c5,.slice A6 n6 c6,.slice A7 n7 c7] 52 (0,0)):=by rw [<-Ii];exact heap_alloc_new wr _
   have HE:=aZ (fun w1 (h:Below wA.heap.size wA w1)=>Qo.o ks[i] (List.getElem_mem hil) w1 _ q (hr1.far (Nat.le_refl _) (Ct.trans (h.mono Ct.size))) (Mg.o _ (List.getElem_mem hil)) (HNK.o _ (List.getElem_mem hil)) (Nat.le_trans (uF (List.getElem_mem hil)) HCK.o) ((HX.o.below hbr).below (Ct.trans (h.mono Ct.size))));rw [<-HSG.o i hil hiS]at HE;have HST:=aZ (yV hiS);have Yw:bR (∀g,v.ownBlock=some g->g<wr.heap.size):=aZ (fun g hg=>(oZ.o.own.lt g hg).2);have Yx:bR (Below wA.heap.size wA wA.drew):=aZ (aH wA 1);have ng:bR (Below wr.heap.size wr wA.drew):=aZ (Ct.trans (Yx.o.mono Ct.size));have Kw:bR (wA.drew.heap[wr.heap.size]? =some (.cells #[.int .i64 kk,.string ss,.int .i64 y2,.int .i64 y3,.int .i64 y4,.slice A5 n5 c5,.slice A6 n6 c6,.slice A7 n7 c7] 52 (0,0))):=aZ hsA;have gk:=(oZ.o.far ng.o).cell;have hA:=aZ Ii;obtain⟨Av,nv,cv,rfl⟩:=iL oZ.o.own.ss;generalize S[i]=X at*
   generalize ks[i]=kx at*
   clear hbr hr1 Ct hsA hil Ii;subst hA3;go_wp2_with fail;have Ii:=hA.o;rw [Ii];clear Ii e0 e1 e2 e3 e4 e5 e6 e7;refine wp_region_held_drew (S:=fun w'=>w'.heap[wr.heap.size]? =some (.cells #[.int .i64 kk,.string ss,.int .i64 y2,.int .i64 y3,.int .i64 y4,.slice A5 n5 c5,.slice A6 n6 c6,.slice A7 n7 c7] 52 (0,0))) (by kernel_rfl) Kw.o (fun _=>?_)
   try simp only [Act.put,sq]
   refine wpAnyH_take (i:=1) (v:=(.agg #[.int .i64 kk,.string ss,.int .i64 y2,.int .i64 y3,.int .i64 y4,.slice A5 n5 c5,.slice A6 n6 c6,.slice A7 n7 c7])) rfl (by kernel_rfl) (by kernel_rfl) (by kernel_rfl) (fun _ _ _ h=>h) (Or.inl ⟨by kernel_rfl,by intro w' hSw;obtain⟨u0,u1,u2,u3,u4,u5,u6,u7⟩:=gN hSw;go_simp⟩) Kw.o ?_
   try simp only [Act.put,sq]
   refine wpAnyH_ready (rs:=[0,2]) (by kernel_rfl) (by simp) ?_;refine AllReadyH.cons rfl (fun K hK=>?_) (AllReadyH.cons rfl (fun K hK=>?_) AllReadyH.nil)
   ·go_simp;refine hK.out _ _ Kw.o (fun _=>?_);clear hK K
    try simp only [Act.put,sq]
    refine wpAnyH_ready (rs:=[2]) (by kernel_rfl) (by simp) ?_;refine AllReadyH.cons rfl (fun K hK=>?_) AllReadyH.nil;go_simp;refine(HE.o _ Yx.o).mono ?_;rintro e w2 ⟨rfl,hb⟩;have xR:=ng.o.trans (hb.mono ng.o.size);have Bb:=aZ (oZ.o.far xR);have HS2:=aZ ((hb.block _ (block_lt Kw.o)).trans Kw.o);clear hb xR;refine hK.out _ _ HS2.o (fun _=>?_);clear hK K
    try simp only [Act.put,sq]
    refine wpAnyH_ready (rs:=[3]) (by kernel_rfl) (by simp) ?_;refine AllReadyH.cons rfl (fun K hK=>?_) AllReadyH.nil;go_simp;have Ef:=aZ ((((Below.refl w2.heap.size w2).alloc (Nat.le_refl _) (.cells #[sv X] 9)).block _ (block_lt HS2.o)).trans HS2.o);refine hK.out _ _ Ef.o (fun _=>?_);clear hK K
    try simp only [Act.put,sq]
    refine wpAnyH_ready (rs:=[4]) (by kernel_rfl) (by simp) ?_;refine AllReadyH.cons rfl (fun K hK=>?_) AllReadyH.nil;refine ze rfl (.tmp 14) (.tmp 17) _ rfl (w.heap.size+2) oQ _ _ rfl rfl (Bb.o.own.alloc _) (rY w2 X _) (by simp;omega) (by have:=block_lt Bb.o.box;rw [World.size_alloc];omega) (fun v4 w4 qB hg4 QX=>?_);obtain⟨g4,c4,n4,rfl⟩:=qY qB (by simp);rw [<-HST.o]at qB;obtain⟨x1,x2,x3⟩:=(Bb.o.far ((Below.refl _ _).alloc (Nat.le_refl _) _)).grown qB hg4;have Bc:=aZ ((hg4.block _ (block_lt Ef.o) (by intro e;have:=Yw.o _ e.symm;omega)).trans Ef.o);have X3:=aZ x3;have Gy:=aZ (ah Bc.o (ak w4 (w.heap.size+1) 0 (.slice (some ⟨g4,0,none⟩) n4 c4)) (by have:=block_lt oZ.o.box;omega));clear x3 qB hg4 QX;refine hK.out _ _ Bc.o (fun _=>?_);clear hK K
    try simp only [Act.put,sq]
    refine wpAnyH_ready (rs:=[5]) (by kernel_rfl) (by simp) ?_;refine AllReadyH.cons rfl (fun K hK=>?_) AllReadyH.nil;go_simp;refine hK.out _ _ Gy.o (fun _=>?_);clear hK K
    try simp only [Act.put,sq]
    refine wpAnyH_done (by kernel_rfl) ?_ _;go_wp2_with fail
    go_roundw
    case rel=>exact⟨i+1,_,rfl,by omega,X3.o⟩
    case measure=>simp [intOf];omega
   ·go_simp;refine(HE.o _ Yx.o).mono ?_;rintro e w2 ⟨rfl,hb⟩;have xR:=ng.o.trans (hb.mono ng.o.size);have Bb:=aZ (oZ.o.far xR);have HS2:=aZ ((hb.block _ (block_lt Kw.o)).trans Kw.o);clear hb xR;have gk2:=Bb.o.cell;refine hK.out _ _ HS2.o (fun _=>?_);clear hK K
    try simp only [Act.put,sq]
    refine wpAnyH_ready (rs:=[0,3]) (by kernel_rfl) (by simp) ?_;refine AllReadyH.cons rfl (fun K hK=>?_) (AllReadyH.cons rfl (fun K hK=>?_) AllReadyH.nil)
    ·go_simp;refine hK.out _ _ HS2.o (fun _=>?_);clear hK K
     try simp only [Act.put,sq]
     refine wpAnyH_ready (rs:=[3]) (by kernel_rfl) (by simp) ?_;refine AllReadyH.cons rfl (fun K hK=>?_) AllReadyH.nil;go_simp;have Ef:=aZ ((((Below.refl w2.heap.size w2).alloc (Nat.le_refl _) (.cells #[sv X] 9)).block _ (block_lt HS2.o)).trans HS2.o);refine hK.out _ _ Ef.o (fun _=>?_);clear hK K
     try simp only [Act.put,sq]
     refine wpAnyH_ready (rs:=[4]) (by kernel_rfl) (by simp) ?_;refine AllReadyH.cons rfl (fun K hK=>?_) AllReadyH.nil;refine ze rfl (.tmp 14) (.tmp 17) _ rfl (w.heap.size+2) oQ _ _ rfl rfl (Bb.o.own.alloc _) (rY w2 X _) (by simp;omega) (by have:=block_lt Bb.o.box;rw [World.size_alloc];omega) (fun v4 w4 qB hg4 QX=>?_);obtain⟨g4,c4,n4,rfl⟩:=qY qB (by simp);rw [<-HST.o]at qB;obtain⟨x1,x2,x3⟩:=(Bb.o.far ((Below.refl _ _).alloc (Nat.le_refl _) _)).grown qB hg4;have Bc:=aZ ((hg4.block _ (block_lt Ef.o) (by intro e;have:=Yw.o _ e.symm;omega)).trans Ef.o);have X3:=aZ x3;have Gy:=aZ (ah Bc.o (ak w4 (w.heap.size+1) 0 (.slice (some ⟨g4,0,none⟩) n4 c4)) (by have:=block_lt oZ.o.box;omega));clear x3 qB hg4 QX;refine hK.out _ _ Bc.o (fun _=>?_);clear hK K
     try simp only [Act.put,sq]
     refine wpAnyH_ready (rs:=[5]) (by kernel_rfl) (by simp) ?_;refine AllReadyH.cons rfl (fun K hK=>?_) AllReadyH.nil;go_simp;refine hK.out _ _ Gy.o (fun _=>?_);clear hK K
     try simp only [Act.put,sq]
     refine wpAnyH_done (by kernel_rfl) ?_ _;go_wp2_with fail
     go_roundw
     case rel=>exact⟨i+1,_,rfl,by omega,X3.o⟩
     case measure=>simp [intOf];omega
    ·go_simp;have Ef:=aZ ((((Below.refl w2.heap.size w2).alloc (Nat.le_refl _) (.cells #[sv X] 9)).block _ (block_lt HS2.o)).trans HS2.o);have gk3:=(Bb.o.far ((Below.refl w2.heap.size w2).alloc (Nat.le_refl _) (.cells #[sv X] 9))).cell;refine hK.out _ _ Ef.o (fun _=>?_);clear hK K
     try simp only [Act.put,sq]
     refine wpAnyH_ready (rs:=[0]) (by kernel_rfl) (by simp) ?_;refine AllReadyH.cons rfl (fun K hK=>?_) AllReadyH.nil;go_simp;refine hK.out _ _ Ef.o (fun _=>?_);clear hK K
     try simp only [Act.put,sq]
     refine wpAnyH_ready (rs:=[4]) (by kernel_rfl) (by simp) ?_;refine AllReadyH.cons rfl (fun K hK=>?_) AllReadyH.nil;refine ze rfl (.tmp 14) (.tmp 17) _ rfl (w.heap.size+2) oQ _ _ rfl rfl (Bb.o.own.alloc _) (rY w2 X _) (by simp;omega) (by have:=block_lt Bb.o.box;rw [World.size_alloc];omega) (fun v4 w4 qB hg4 QX=>?_);obtain⟨g4,c4,n4,rfl⟩:=qY qB (by simp);rw [<-HST.o]at qB;obtain⟨x1,x2,x3⟩:=(Bb.o.far ((Below.refl _ _).alloc (Nat.le_refl _) _)).grown qB hg4;have Bc:=aZ ((hg4.block _ (block_lt Ef.o) (by intro e;have:=Yw.o _ e.symm;omega)).trans Ef.o);have X3:=aZ x3;have Gy:=aZ (ah Bc.o (ak w4 (w.heap.size+1) 0 (.slice (some ⟨g4,0,none⟩) n4 c4)) (by have:=block_lt oZ.o.box;omega));clear x3 qB hg4 QX;refine hK.out _ _ Bc.o (fun _=>?_);clear hK K
     try simp only [Act.put,sq]
     refine wpAnyH_ready (rs:=[5]) (by kernel_rfl) (by simp) ?_;refine AllReadyH.cons rfl (fun K hK=>?_) AllReadyH.nil;go_simp;refine hK.out _ _ Gy.o (fun _=>?_);clear hK K
     try simp only [Act.put,sq]
     refine wpAnyH_done (by kernel_rfl) ?_ _;go_wp2_with fail
     go_roundw
     case rel=>exact⟨i+1,_,rfl,by omega,X3.o⟩
     case measure=>simp [intOf];omega
  ·obtain rfl:i=d:=by omega
   have hex:=oZ.o;rw [List.take_of_length_le (by rw [HSL.o];omega)]at hex;have hbr:=hex.below;obtain⟨g0,g1,g2,g3,g4,g5,g6,g7⟩:=gN (hex.node.trans (congrArg some tH.o.symm));have gb:=hex.cell;have hown:=hex.own;have lY:=aZ hbr;have hlo:=CQ.o;have hhi:=HHI.o;have htx:=WC.o;have hn0:=QW.o;have hn1:=WK.o;have hlen:=HLEN.o;have hkd:=HKD.o;have hkn:=WJ.o;rcases Tk.o with rfl |rfl |rfl |rfl |rfl |rfl |rfl |rfl |rfl |rfl |rfl |rfl |rfl
   ·skip
    have hd0:i=2:=by
     have h:(dK 5).kids=2:=rfl;rw [h]at hkd;unfold jA at hkd;rw [if_neg (by decide)]at hkd;omega
    have HD0:=aZ hd0;clear hd0 hkd hkn;clear hlt oZ hex;have hd0:=HD0.o;have hsl:=HSL.o;subst hd0;obtain⟨s0,s1,rfl⟩:=xS hsl;obtain⟨g,c,rfl,hgb,hgl,hgc,hgm⟩:=dR hown.row (by simp);simp only [List.length_cons,List.length_nil,Nat.zero_add]at gb hown hgc;have d0:=hown.cell 0 (by simp);have d1:=hown.cell 1 (by simp);simp only [List.getElem_cons_zero,List.getElem_cons_succ]at d0 d1;have HT:bR (dY 5 text n ts ns [s0,s1]=([40]:Bt)++(([108,101,116,32]:Bt)++text++(jR ts 0)++([32,61,32]:Bt)++s0++([59,32]:Bt)++s1)++([41]:Bt)):=aZ (by simp [dY,cat]);rw [HT.o]at hlen;have QW:=aZ (fun w1 (h:Below wr.heap.size wr w1)=>CO w1 ts A1 c1 xt (by rw [HA.o];exact Sl.more (Sl.below (Sl.more (Sl.below DW.o.1 hbr) hbr.size) h) h.size) ((((DW.o.2.keep hbr).more hbr.size).keep h).more h.size) WI.o Yv.o 0);rw [HA.o]at QW;generalize jR ts 0=N0 at*
    simp only [List.length_append,List.length_cons,List.length_nil]at hlen;have hz0:=aT text;have hz1:=aT N0;have hz2:=aT s0;have hz3:=aT s1;have q0:¬(9223372036854775807<4+text.length):=by omega
    have q1:¬(9223372036854775807<4+text.length+N0.length):=by omega
    have q2:¬(9223372036854775807<4+text.length+N0.length+3):=by omega
    have q3:¬(9223372036854775807<4+text.length+N0.length+3+s0.length):=by omega
    have q4:¬(9223372036854775807<4+text.length+N0.length+3+s0.length+2):=by omega
    have q5:¬(9223372036854775807<4+text.length+N0.length+3+s0.length+2+s1.length):=by omega
    have q6:¬(9223372036854775807<1+(4+text.length+N0.length+3+s0.length+2+s1.length)):=by omega
    have q7:¬(9223372036854775807<1+(4+text.length+N0.length+3+s0.length+2+s1.length)+1):=by omega
    have G1:=aZ g1;have G2:=aZ g2;have G5:=aZ g5;have GB:=aZ gb;have D0:=aZ d0;have D1:=aZ d1;have HB0:bR (Below wr.heap.size wr wr.drew):=aZ (aH wr 1);clear g1 g2 g3 g4 g5 g6 g7 gb hown hbr hlen d0 d1;go_wp2_with fail;refine wp_region_held_drew (S:=fun w'=>Below wr.heap.size wr w') (by kernel_rfl) HB0.o (fun _=>?_)
    try simp only [Act.put,sq]
    refine tk 0 (.pointer (some ⟨w.heap.size,1,none⟩)) HB0.o ?_;refine jE 1 (sv text) (kU G1.o) HB0.o ?_;refine tk 2 (.string ((⟨#[108,101,116,32]⟩:ByteArray)++⟨text.toArray⟩)) HB0.o ?_;refine tk 3 (.pointer (some ⟨w.heap.size,5,none⟩)) HB0.o ?_;refine jE 4 (.slice A1 a c1) (kU G5.o) HB0.o ?_;refine jE 8 (.slice (some ⟨g,0,none⟩) 2 c) (kU GB.o) HB0.o ?_;refine tk 9 (.pointer (some ⟨g,0,none⟩)) HB0.o ?_;refine jE 10 (sv s0) (kU D0.o) HB0.o ?_;refine jE 13 (.slice (some ⟨g,0,none⟩) 2 c) (kU GB.o) HB0.o ?_;refine tk 14 (.pointer (some ⟨g,1,none⟩)) HB0.o ?_;refine jE 15 (sv s1) (kU D1.o) HB0.o ?_;refine wpAnyH_ready (rs:=[5]) (by kernel_rfl) (by simp) ?_;refine AllReadyH.cons rfl (fun K hK=>?_) (AllReadyH.nil);go_simp;refine(QW.o _ HB0.o).mono ?_;rintro e wn0 ⟨rfl,hb⟩;have HB1:=aZ (HB0.o.trans (hb.mono HB0.o.size));clear hb;refine hK.out _ _ HB1.o (fun _=>?_);clear hK K
    try simp only [Act.put,sq]
    refine tk 6 (.string ((⟨#[108,101,116,32]⟩:ByteArray)++⟨text.toArray⟩++⟨N0.toArray⟩)) HB1.o ?_;refine tk 7 (.string ((⟨#[108,101,116,32]⟩:ByteArray)++⟨text.toArray⟩++⟨N0.toArray⟩++⟨#[32,61,32]⟩)) HB1.o ?_;refine tk 11 (.string ((⟨#[108,101,116,32]⟩:ByteArray)++⟨text.toArray⟩++⟨N0.toArray⟩++⟨#[32,61,32]⟩++⟨s0.toArray⟩)) HB1.o ?_;refine tk 12 (.string ((⟨#[108,101,116,32]⟩:ByteArray)++⟨text.toArray⟩++⟨N0.toArray⟩++⟨#[32,61,32]⟩++⟨s0.toArray⟩++⟨#[59,32]⟩)) HB1.o ?_;refine tk 16 (.string ((⟨#[108,101,116,32]⟩:ByteArray)++⟨text.toArray⟩++⟨N0.toArray⟩++⟨#[32,61,32]⟩++⟨s0.toArray⟩++⟨#[59,32]⟩++⟨s1.toArray⟩)) HB1.o ?_;refine tk 17 (.string ((⟨#[108,101,116,32]⟩:ByteArray)++⟨text.toArray⟩++⟨N0.toArray⟩++⟨#[32,61,32]⟩++⟨s0.toArray⟩++⟨#[59,32]⟩++⟨s1.toArray⟩)) HB1.o ?_;refine wpAnyH_done (by kernel_rfl) ?_ _;go_wp2_with fail;go_ret;refine⟨?_,lY.o.trans (HB1.o.mono lY.o.size)⟩;rw [HT.o];have e:(⟨([40]:Bt).toArray⟩:ByteArray)++((⟨([108,101,116,32]:Bt).toArray⟩:ByteArray)++⟨text.toArray⟩++⟨N0.toArray⟩++⟨([32,61,32]:Bt).toArray⟩++⟨s0.toArray⟩++⟨([59,32]:Bt).toArray⟩++⟨s1.toArray⟩)++⟨([41]:Bt).toArray⟩=⟨(([40]:Bt)++(([108,101,116,32]:Bt)++text++N0++([32,61,32]:Bt)++s0++([59,32]:Bt)++s1)++([41]:Bt)).toArray⟩:=by
     rw [aF,aF,aF,aF,aF,aF,aF,aF]
    exact congrArg (fun b=>Ending.returned (Value.string b)) e
   ·skip
    have hd0:i=1:=by
     have h:(dK 6).kids=1:=rfl;rw [h]at hkd;unfold jA at hkd;rw [if_neg (by decide)]at hkd;omega
    have HD0:=aZ hd0;clear hd0 hkd hkn;clear hlt oZ hex;have hd0:=HD0.o;have hsl:=HSL.o;subst hd0;obtain⟨s0,rfl⟩:∃s0,S=[s0]:=by match S,hsl with | [x],_=>exact⟨x,rfl⟩
    obtain⟨g,c,rfl,hgb,hgl,hgc,hgm⟩:=dR hown.row (by simp);simp only [List.length_cons,List.length_nil,Nat.zero_add]at gb hown hgc;have d0:=hown.cell 0 (by simp);simp only [List.getElem_cons_zero,List.getElem_cons_succ]at d0;have HT:bR (dY 6 text n ts ns [s0]=([40]:Bt)++(([102,110,32,40]:Bt)++text++(jR ts 0)++([41]:Bt)++(jR ts 1)++([32,61,62,32]:Bt)++s0)++([41]:Bt)):=aZ (by simp [dY,cat]);rw [HT.o]at hlen;have QW:=aZ (fun w1 (h:Below wr.heap.size wr w1)=>CO w1 ts A1 c1 xt (by rw [HA.o];exact Sl.more (Sl.below (Sl.more (Sl.below DW.o.1 hbr) hbr.size) h) h.size) ((((DW.o.2.keep hbr).more hbr.size).keep h).more h.size) WI.o Yv.o 0);rw [HA.o]at QW;have WK:=aZ (fun w1 (h:Below wr.heap.size wr w1)=>CO w1 ts A1 c1 xt (by rw [HA.o];exact Sl.more (Sl.below (Sl.more (Sl.below DW.o.1 hbr) hbr.size) h) h.size) ((((DW.o.2.keep hbr).more hbr.size).keep h).more h.size) WI.o Yv.o 1);rw [HA.o]at WK;generalize jR ts 0=N0 at*
    generalize jR ts 1=N1 at*
    simp only [List.length_append,List.length_cons,List.length_nil]at hlen;have hz0:=aT text;have hz1:=aT N0;have hz2:=aT N1;have hz3:=aT s0;have q0:¬(9223372036854775807<4+text.length):=by omega
    have q1:¬(9223372036854775807<4+text.length+N0.length):=by omega
    have q2:¬(9223372036854775807<4+text.length+N0.length+1):=by omega
    have q3:¬(9223372036854775807<4+text.length+N0.length+1+N1.length):=by omega
    have q4:¬(9223372036854775807<4+text.length+N0.length+1+N1.length+4):=by omega
    have q5:¬(9223372036854775807<4+text.length+N0.length+1+N1.length+4+s0.length):=by omega
    have q6:¬(9223372036854775807<1+(4+text.length+N0.length+1+N1.length+4+s0.length)):=by omega
    have q7:¬(9223372036854775807<1+(4+text.length+N0.length+1+N1.length+4+s0.length)+1):=by omega
    have G1:=aZ g1;have G2:=aZ g2;have G5:=aZ g5;have GB:=aZ gb;have D0:=aZ d0;have HB0:bR (Below wr.heap.size wr wr.drew):=aZ (aH wr 1);clear g1 g2 g3 g4 g5 g6 g7 gb hown hbr hlen d0;go_wp2_with fail;refine wp_region_held_drew (S:=fun w'=>Below wr.heap.size wr w') (by kernel_rfl) HB0.o (fun _=>?_)
    try simp only [Act.put,sq]
    refine tk 0 (.pointer (some ⟨w.heap.size,1,none⟩)) HB0.o ?_;refine jE 1 (sv text) (kU G1.o) HB0.o ?_;refine tk 2 (.string ((⟨#[102,110,32,40]⟩:ByteArray)++⟨text.toArray⟩)) HB0.o ?_;refine tk 3 (.pointer (some ⟨w.heap.size,5,none⟩)) HB0.o ?_;refine jE 4 (.slice A1 a c1) (kU G5.o) HB0.o ?_;refine tk 8 (.pointer (some ⟨w.heap.size,5,none⟩)) HB0.o ?_;refine jE 9 (.slice A1 a c1) (kU G5.o) HB0.o ?_;refine jE 13 (.slice (some ⟨g,0,none⟩) 1 c) (kU GB.o) HB0.o ?_;refine tk 14 (.pointer (some ⟨g,0,none⟩)) HB0.o ?_;refine jE 15 (sv s0) (kU D0.o) HB0.o ?_;refine wpAnyH_ready (rs:=[5]) (by kernel_rfl) (by simp) ?_;refine AllReadyH.cons rfl (fun K hK=>?_) (AllReadyH.nil);go_simp;refine(QW.o _ HB0.o).mono ?_;rintro e wn0 ⟨rfl,hb⟩;have HB1:=aZ (HB0.o.trans (hb.mono HB0.o.size));clear hb;refine hK.out _ _ HB1.o (fun _=>?_);clear hK K
    try simp only [Act.put,sq]
    refine tk 6 (.string ((⟨#[102,110,32,40]⟩:ByteArray)++⟨text.toArray⟩++⟨N0.toArray⟩)) HB1.o ?_;refine tk 7 (.string ((⟨#[102,110,32,40]⟩:ByteArray)++⟨text.toArray⟩++⟨N0.toArray⟩++⟨#[41]⟩)) HB1.o ?_;refine wpAnyH_ready (rs:=[10]) (by kernel_rfl) (by simp) ?_;refine AllReadyH.cons rfl (fun K hK=>?_) (AllReadyH.nil);go_simp;refine(WK.o _ HB1.o).mono ?_;rintro e wn1 ⟨rfl,hb⟩;have HB2:=aZ (HB1.o.trans (hb.mono HB1.o.size));clear hb;refine hK.out _ _ HB2.o (fun _=>?_);clear hK K
    try simp only [Act.put,sq]
    refine tk 11 (.string ((⟨#[102,110,32,40]⟩:ByteArray)++⟨text.toArray⟩++⟨N0.toArray⟩++⟨#[41]⟩++⟨N1.toArray⟩)) HB2.o ?_;refine tk 12 (.string ((⟨#[102,110,32,40]⟩:ByteArray)++⟨text.toArray⟩++⟨N0.toArray⟩++⟨#[41]⟩++⟨N1.toArray⟩++⟨#[32,61,62,32]⟩)) HB2.o ?_;refine tk 16 (.string ((⟨#[102,110,32,40]⟩:ByteArray)++⟨text.toArray⟩++⟨N0.toArray⟩++⟨#[41]⟩++⟨N1.toArray⟩++⟨#[32,61,62,32]⟩++⟨s0.toArray⟩)) HB2.o ?_;refine tk 17 (.string ((⟨#[102,110,32,40]⟩:ByteArray)++⟨text.toArray⟩++⟨N0.toArray⟩++⟨#[41]⟩++⟨N1.toArray⟩++⟨#[32,61,62,32]⟩++⟨s0.toArray⟩)) HB2.o ?_;refine wpAnyH_done (by kernel_rfl) ?_ _;go_wp2_with fail;go_ret;refine⟨?_,lY.o.trans (HB2.o.mono lY.o.size)⟩;rw [HT.o];have e:(⟨([40]:Bt).toArray⟩:ByteArray)++((⟨([102,110,32,40]:Bt).toArray⟩:ByteArray)++⟨text.toArray⟩++⟨N0.toArray⟩++⟨([41]:Bt).toArray⟩++⟨N1.toArray⟩++⟨([32,61,62,32]:Bt).toArray⟩++⟨s0.toArray⟩)++⟨([41]:Bt).toArray⟩=⟨(([40]:Bt)++(([102,110,32,40]:Bt)++text++N0++([41]:Bt)++N1++([32,61,62,32]:Bt)++s0)++([41]:Bt)).toArray⟩:=by
     rw [aF,aF,aF,aF,aF,aF,aF,aF]
    exact congrArg (fun b=>Ending.returned (Value.string b)) e
   ·skip
    have hd0:i=2:=by
     have h:(dK 7).kids=2:=rfl;rw [h]at hkd;unfold jA at hkd;rw [if_neg (by decide)]at hkd;omega
    have HD0:=aZ hd0;clear hd0 hkd hkn;clear hlt oZ hex;have hd0:=HD0.o;have hsl:=HSL.o;subst hd0;obtain⟨s0,s1,rfl⟩:=xS hsl;obtain⟨g,c,rfl,hgb,hgl,hgc,hgm⟩:=dR hown.row (by simp);simp only [List.length_cons,List.length_nil,Nat.zero_add]at gb hown hgc;have d0:=hown.cell 0 (by simp);have d1:=hown.cell 1 (by simp);simp only [List.getElem_cons_zero,List.getElem_cons_succ]at d0 d1;have HT:bR (dY 7 text n ts ns [s0,s1]=s0++([40]:Bt)++s1++([41]:Bt)):=aZ (by simp [dY,cat]);rw [HT.o]at hlen;simp only [List.length_append,List.length_cons,List.length_nil]at hlen;have hz0:=aT s0;have hz1:=aT s1;have q0:¬(9223372036854775807<s0.length+1):=by omega
    have q1:¬(9223372036854775807<s0.length+1+s1.length):=by omega
    have q2:¬(9223372036854775807<s0.length+1+s1.length+1):=by omega
    have G1:=aZ g1;have G2:=aZ g2;have G5:=aZ g5;have GB:=aZ gb;have D0:=aZ d0;have D1:=aZ d1;have HB0:bR (Below wr.heap.size wr wr.drew):=aZ (aH wr 1);clear g1 g2 g3 g4 g5 g6 g7 gb hown hbr hlen d0 d1;go_wp2_with fail;refine wp_region_held_drew (S:=fun w'=>Below wr.heap.size wr w') (by kernel_rfl) HB0.o (fun _=>?_)
    try simp only [Act.put,sq]
    refine jE 0 (.slice (some ⟨g,0,none⟩) 2 c) (kU GB.o) HB0.o ?_;refine tk 1 (.pointer (some ⟨g,0,none⟩)) HB0.o ?_;refine jE 2 (sv s0) (kU D0.o) HB0.o ?_;refine tk 3 (.string ((⟨s0.toArray⟩:ByteArray)++⟨#[40]⟩)) HB0.o ?_;refine jE 4 (.slice (some ⟨g,0,none⟩) 2 c) (kU GB.o) HB0.o ?_;refine tk 5 (.pointer (some ⟨g,1,none⟩)) HB0.o ?_;refine jE 6 (sv s1) (kU D1.o) HB0.o ?_;refine tk 7 (.string ((⟨s0.toArray⟩:ByteArray)++⟨#[40]⟩++⟨s1.toArray⟩)) HB0.o ?_;refine tk 8 (.string ((⟨s0.toArray⟩:ByteArray)++⟨#[40]⟩++⟨s1.toArray⟩++⟨#[41]⟩)) HB0.o ?_;refine tk 9 (.string ((⟨s0.toArray⟩:ByteArray)++⟨#[40]⟩++⟨s1.toArray⟩++⟨#[41]⟩)) HB0.o ?_;refine wpAnyH_done (by kernel_rfl) ?_ _;go_wp2_with fail;go_ret;refine⟨?_,lY.o.trans (HB0.o.mono lY.o.size)⟩;rw [HT.o];have e:(⟨s0.toArray⟩:ByteArray)++⟨([40]:Bt).toArray⟩++⟨s1.toArray⟩++⟨([41]:Bt).toArray⟩=⟨(s0++([40]:Bt)++s1++([41]:Bt)).toArray⟩:=by
     rw [aF,aF,aF]
    exact congrArg (fun b=>Ending.returned (Value.string b)) e
   ·skip
    have hd0:i=b:=by
     have h:(dK 8).kids= -1:=rfl;rw [h]at hkd;unfold jA at hkd;rw [if_pos (by decide)]at hkd;omega
    have mP:=aZ hd0;clear hd0 hkd hkn;have Ky:=hex.node.trans (congrArg some tH.o.symm);clear hlt oZ hex;have hsl:=HSL.o;have hd0:=mP.o;obtain⟨Lf,hLf⟩:∃Lf,List.zipWith gI ns S=Lf:=⟨_,rfl⟩
    have hll:Lf.length=i:=by rw [<-hLf,List.length_zipWith,qA.o,hsl];omega
    have HT:bR (dY 8 text n ts ns S=([123]:Bt)++jc [44,32] Lf++([125]:Bt)):=aZ (by rw [<-hLf];simp [dY,cat]);rw [HT.o]at hlen;simp only [List.length_append,List.length_cons,List.length_nil]at hlen;have hF:∀(j:Nat) (hj:j<Lf.length) (w1:World),Below wr.heap.size wr w1->Calls Tryz.prog 119 (#[.int .i64 j]++ #[.pointer (some ⟨w.heap.size,0,none⟩),.pointer (some ⟨w.heap.size+1,0,none⟩)]) w1 fun e w2=>e=.returned (sv Lf[j])∧Below w1.heap.size w1 w2:=by
     intro j hj w1 hb;have hji:j<i:=by omega
     have hjS:j<S.length:=by omega
     have hjn:j<ns.length:=by rw [qA.o];omega
     have hjk:j<ks.length:=by rw [HD.o];exact hji
     obtain⟨g,c,rfl,hgb,hgl,hgc,hgm⟩:=dR hown.row (by omega);have hget:Lf[j]=gI ns[j] S[j]:=by subst hLf;rw [List.getElem_zipWith]
     rw [hget];have hown1:=hown.below hb;have Zg:=kp hb gb;have h1:=HSE.o j hjk;have h2:=HSG.o j hjk hjS;have h3:=uF (List.getElem_mem hjk);have h4:=HCK.o;have hS2:=Sl.more (Sl.below Gt.o (hbr.trans (hb.mono hbr.size))) (Nat.le_trans hbr.size hb.size);rw [hsl]at Zg hown1;exact Og w1 w.heap.size (w.heap.size+1) 8 text n li co A1 a c1 A2 b c2 A3 i c3 g i c ns S ((hb.block _ (block_lt Ky)).trans Ky) Zg hS2 (fun j2 hj2=>hown1.cell j2 hj2) (by omega) (by omega) qA.o.symm j hjS hjn (Eb.o _ (List.getElem_mem hjn)) (by rw [h2];omega)
    have HL:=CF 119 (fun _ _=>by kernel_rfl) #[.pointer (some ⟨w.heap.size,0,none⟩),.pointer (some ⟨w.heap.size+1,0,none⟩)] Lf wr (by omega) (by omega) hF;rw [hll]at HL;obtain⟨Av,cv,rfl⟩:=dO hown.ss (by omega) (m:=i) (by rw [dV];omega);have HL:=aZ HL;generalize jc [44,32] Lf=s at*
    have hz:=aT s;have q1:¬(9223372036854775807<1+s.length):=by omega
    have q2:¬(9223372036854775807<1+s.length+1):=by omega
    have Mh:∀(fn:Fn) (first cap:Array Value) (w:World),(Instr.makeFunc fn first cap).run Tryz.prog w=.ok (.func fn first cap) w:=fun _ _ _ _=>rfl;clear hF hown hbr hlen hll hLf hsl hd0 Ky;go_wp2_with fail;refine HL.o.mono ?_;rintro e w2 ⟨rfl,hb⟩;go_wp2_with fail;go_ret;refine⟨?_,lY.o.trans (hb.mono lY.o.size)⟩;rw [HT.o];have e:(⟨([123]:Bt).toArray⟩:ByteArray)++⟨s.toArray⟩++⟨([125]:Bt).toArray⟩=⟨([123]++s++[125]).toArray⟩:=by
     rw [aF,aF]
    exact congrArg (fun b=>Ending.returned (Value.string b)) e
   ·skip
    have hd0:i=1:=by
     have h:(dK 9).kids=1:=rfl;rw [h]at hkd;unfold jA at hkd;rw [if_neg (by decide)]at hkd;omega
    have HD0:=aZ hd0;clear hd0 hkd hkn;clear hlt oZ hex;have hd0:=HD0.o;have hsl:=HSL.o;subst hd0;obtain⟨s0,rfl⟩:∃s0,S=[s0]:=by match S,hsl with | [x],_=>exact⟨x,rfl⟩
    obtain⟨g,c,rfl,hgb,hgl,hgc,hgm⟩:=dR hown.row (by simp);simp only [List.length_cons,List.length_nil,Nat.zero_add]at gb hown hgc;have d0:=hown.cell 0 (by simp);simp only [List.getElem_cons_zero,List.getElem_cons_succ]at d0;have HT:bR (dY 9 text n ts ns [s0]=s0++([46]:Bt)++text):=aZ (by simp [dY,cat]);rw [HT.o]at hlen;simp only [List.length_append,List.length_cons,List.length_nil]at hlen;have hz0:=aT s0;have hz1:=aT text;have q0:¬(9223372036854775807<s0.length+1):=by omega
    have q1:¬(9223372036854775807<s0.length+1+text.length):=by omega
    have G1:=aZ g1;have G2:=aZ g2;have G5:=aZ g5;have GB:=aZ gb;have D0:=aZ d0;have HB0:bR (Below wr.heap.size wr wr.drew):=aZ (aH wr 1);clear g1 g2 g3 g4 g5 g6 g7 gb hown hbr hlen d0;go_wp2_with fail;refine wp_region_held_drew (S:=fun w'=>Below wr.heap.size wr w') (by kernel_rfl) HB0.o (fun _=>?_)
    try simp only [Act.put,sq]
    refine jE 0 (.slice (some ⟨g,0,none⟩) 1 c) (kU GB.o) HB0.o ?_;refine tk 1 (.pointer (some ⟨g,0,none⟩)) HB0.o ?_;refine jE 2 (sv s0) (kU D0.o) HB0.o ?_;refine tk 3 (.string ((⟨s0.toArray⟩:ByteArray)++⟨#[46]⟩)) HB0.o ?_;refine tk 4 (.pointer (some ⟨w.heap.size,1,none⟩)) HB0.o ?_;refine jE 5 (sv text) (kU G1.o) HB0.o ?_;refine tk 6 (.string ((⟨s0.toArray⟩:ByteArray)++⟨#[46]⟩++⟨text.toArray⟩)) HB0.o ?_;refine tk 7 (.string ((⟨s0.toArray⟩:ByteArray)++⟨#[46]⟩++⟨text.toArray⟩)) HB0.o ?_;refine wpAnyH_done (by kernel_rfl) ?_ _;go_wp2_with fail;go_ret;refine⟨?_,lY.o.trans (HB0.o.mono lY.o.size)⟩;rw [HT.o];have e:(⟨s0.toArray⟩:ByteArray)++⟨([46]:Bt).toArray⟩++⟨text.toArray⟩=⟨(s0++([46]:Bt)++text).toArray⟩:=by
     rw [aF,aF]
    exact congrArg (fun b=>Ending.returned (Value.string b)) e
   ·skip
    have hd0:i=2:=by
     have h:(dK 10).kids=2:=rfl;rw [h]at hkd;unfold jA at hkd;rw [if_neg (by decide)]at hkd;omega
    have HD0:=aZ hd0;clear hd0 hkd hkn;clear hlt oZ hex;have hd0:=HD0.o;have hsl:=HSL.o;subst hd0;obtain⟨s0,s1,rfl⟩:=xS hsl;obtain⟨g,c,rfl,hgb,hgl,hgc,hgm⟩:=dR hown.row (by simp);simp only [List.length_cons,List.length_nil,Nat.zero_add]at gb hown hgc;have d0:=hown.cell 0 (by simp);have d1:=hown.cell 1 (by simp);simp only [List.getElem_cons_zero,List.getElem_cons_succ]at d0 d1;have HT:bR (dY 10 text n ts ns [s0,s1]=([123]:Bt)++s0++([32,119,105,116,104,32]:Bt)++text++([58,32]:Bt)++s1++([125]:Bt)):=aZ (by simp [dY,cat]);rw [HT.o]at hlen;simp only [List.length_append,List.length_cons,List.length_nil]at hlen;have hz0:=aT s0;have hz1:=aT text;have hz2:=aT s1;have q0:¬(9223372036854775807<1+s0.length):=by omega
    have q1:¬(9223372036854775807<1+s0.length+6):=by omega
    have q2:¬(9223372036854775807<1+s0.length+6+text.length):=by omega
    have q3:¬(9223372036854775807<1+s0.length+6+text.length+2):=by omega
    have q4:¬(9223372036854775807<1+s0.length+6+text.length+2+s1.length):=by omega
    have q5:¬(9223372036854775807<1+s0.length+6+text.length+2+s1.length+1):=by omega
    have G1:=aZ g1;have G2:=aZ g2;have G5:=aZ g5;have GB:=aZ gb;have D0:=aZ d0;have D1:=aZ d1;have HB0:bR (Below wr.heap.size wr wr.drew):=aZ (aH wr 1);clear g1 g2 g3 g4 g5 g6 g7 gb hown hbr hlen d0 d1;go_wp2_with fail;refine wp_region_held_drew (S:=fun w'=>Below wr.heap.size wr w') (by kernel_rfl) HB0.o (fun _=>?_)
    try simp only [Act.put,sq]
    refine jE 0 (.slice (some ⟨g,0,none⟩) 2 c) (kU GB.o) HB0.o ?_;refine tk 1 (.pointer (some ⟨g,0,none⟩)) HB0.o ?_;refine jE 2 (sv s0) (kU D0.o) HB0.o ?_;refine tk 3 (.string ((⟨#[123]⟩:ByteArray)++⟨s0.toArray⟩)) HB0.o ?_;refine tk 4 (.string ((⟨#[123]⟩:ByteArray)++⟨s0.toArray⟩++⟨#[32,119,105,116,104,32]⟩)) HB0.o ?_;refine tk 5 (.pointer (some ⟨w.heap.size,1,none⟩)) HB0.o ?_;refine jE 6 (sv text) (kU G1.o) HB0.o ?_;refine tk 7 (.string ((⟨#[123]⟩:ByteArray)++⟨s0.toArray⟩++⟨#[32,119,105,116,104,32]⟩++⟨text.toArray⟩)) HB0.o ?_;refine tk 8 (.string ((⟨#[123]⟩:ByteArray)++⟨s0.toArray⟩++⟨#[32,119,105,116,104,32]⟩++⟨text.toArray⟩++⟨#[58,32]⟩)) HB0.o ?_;refine jE 9 (.slice (some ⟨g,0,none⟩) 2 c) (kU GB.o) HB0.o ?_;refine tk 10 (.pointer (some ⟨g,1,none⟩)) HB0.o ?_;refine jE 11 (sv s1) (kU D1.o) HB0.o ?_;refine tk 12 (.string ((⟨#[123]⟩:ByteArray)++⟨s0.toArray⟩++⟨#[32,119,105,116,104,32]⟩++⟨text.toArray⟩++⟨#[58,32]⟩++⟨s1.toArray⟩)) HB0.o ?_;refine tk 13 (.string ((⟨#[123]⟩:ByteArray)++⟨s0.toArray⟩++⟨#[32,119,105,116,104,32]⟩++⟨text.toArray⟩++⟨#[58,32]⟩++⟨s1.toArray⟩++⟨#[125]⟩)) HB0.o ?_;refine tk 14 (.string ((⟨#[123]⟩:ByteArray)++⟨s0.toArray⟩++⟨#[32,119,105,116,104,32]⟩++⟨text.toArray⟩++⟨#[58,32]⟩++⟨s1.toArray⟩++⟨#[125]⟩)) HB0.o ?_;refine wpAnyH_done (by kernel_rfl) ?_ _;go_wp2_with fail;go_ret;refine⟨?_,lY.o.trans (HB0.o.mono lY.o.size)⟩;rw [HT.o];have e:(⟨([123]:Bt).toArray⟩:ByteArray)++⟨s0.toArray⟩++⟨([32,119,105,116,104,32]:Bt).toArray⟩++⟨text.toArray⟩++⟨([58,32]:Bt).toArray⟩++⟨s1.toArray⟩++⟨([125]:Bt).toArray⟩=⟨(([123]:Bt)++s0++([32,119,105,116,104,32]:Bt)++text++([58,32]:Bt)++s1++([125]:Bt)).toArray⟩:=by
     rw [aF,aF,aF,aF,aF,aF]
    exact congrArg (fun b=>Ending.returned (Value.string b)) e
   ·skip
    have hd0:i=3:=by
     have h:(dK 11).kids=3:=rfl;rw [h]at hkd;unfold jA at hkd;rw [if_neg (by decide)]at hkd;omega
    have HD0:=aZ hd0;clear hd0 hkd hkn;clear hlt oZ hex;have hd0:=HD0.o;have hsl:=HSL.o;subst hd0;obtain⟨s0,s1,s2,rfl⟩:∃s0 s1 s2,S=[s0,s1,s2]:=by match S,hsl with | [x,y,z],_=>exact⟨x,y,z,rfl⟩
    obtain⟨g,c,rfl,hgb,hgl,hgc,hgm⟩:=dR hown.row (by simp);simp only [List.length_cons,List.length_nil,Nat.zero_add]at gb hown hgc;have d0:=hown.cell 0 (by simp);have d1:=hown.cell 1 (by simp);have d2:=hown.cell 2 (by simp);simp only [List.getElem_cons_zero,List.getElem_cons_succ]at d0 d1 d2;have HT:bR (dY 11 text n ts ns [s0,s1,s2]=([40]:Bt)++(([105,102,32]:Bt)++s0++([32,116,104,101,110,32]:Bt)++s1++([32,101,108,115,101,32]:Bt)++s2)++([41]:Bt)):=aZ (by simp [dY,cat]);rw [HT.o]at hlen;simp only [List.length_append,List.length_cons,List.length_nil]at hlen;have hz0:=aT s0;have hz1:=aT s1;have hz2:=aT s2;have q0:¬(9223372036854775807<3+s0.length):=by omega
    have q1:¬(9223372036854775807<3+s0.length+6):=by omega
    have q2:¬(9223372036854775807<3+s0.length+6+s1.length):=by omega
    have q3:¬(9223372036854775807<3+s0.length+6+s1.length+6):=by omega
    have q4:¬(9223372036854775807<3+s0.length+6+s1.length+6+s2.length):=by omega
    have q5:¬(9223372036854775807<1+(3+s0.length+6+s1.length+6+s2.length)):=by omega
    have q6:¬(9223372036854775807<1+(3+s0.length+6+s1.length+6+s2.length)+1):=by omega
    have G1:=aZ g1;have G2:=aZ g2;have G5:=aZ g5;have GB:=aZ gb;have D0:=aZ d0;have D1:=aZ d1;have D2:=aZ d2;have HB0:bR (Below wr.heap.size wr wr.drew):=aZ (aH wr 1);clear g1 g2 g3 g4 g5 g6 g7 gb hown hbr hlen d0 d1 d2;go_wp2_with fail;refine wp_region_held_drew (S:=fun w'=>Below wr.heap.size wr w') (by kernel_rfl) HB0.o (fun _=>?_)
    try simp only [Act.put,sq]
    refine jE 0 (.slice (some ⟨g,0,none⟩) 3 c) (kU GB.o) HB0.o ?_;refine tk 1 (.pointer (some ⟨g,0,none⟩)) HB0.o ?_;refine jE 2 (sv s0) (kU D0.o) HB0.o ?_;refine tk 3 (.string ((⟨#[105,102,32]⟩:ByteArray)++⟨s0.toArray⟩)) HB0.o ?_;refine tk 4 (.string ((⟨#[105,102,32]⟩:ByteArray)++⟨s0.toArray⟩++⟨#[32,116,104,101,110,32]⟩)) HB0.o ?_;refine jE 5 (.slice (some ⟨g,0,none⟩) 3 c) (kU GB.o) HB0.o ?_;refine tk 6 (.pointer (some ⟨g,1,none⟩)) HB0.o ?_;refine jE 7 (sv s1) (kU D1.o) HB0.o ?_;refine tk 8 (.string ((⟨#[105,102,32]⟩:ByteArray)++⟨s0.toArray⟩++⟨#[32,116,104,101,110,32]⟩++⟨s1.toArray⟩)) HB0.o ?_;refine tk 9 (.string ((⟨#[105,102,32]⟩:ByteArray)++⟨s0.toArray⟩++⟨#[32,116,104,101,110,32]⟩++⟨s1.toArray⟩++⟨#[32,101,108,115,101,32]⟩)) HB0.o ?_;refine jE 10 (.slice (some ⟨g,0,none⟩) 3 c) (kU GB.o) HB0.o ?_;refine tk 11 (.pointer (some ⟨g,2,none⟩)) HB0.o ?_;refine jE 12 (sv s2) (kU D2.o) HB0.o ?_;refine tk 13 (.string ((⟨#[105,102,32]⟩:ByteArray)++⟨s0.toArray⟩++⟨#[32,116,104,101,110,32]⟩++⟨s1.toArray⟩++⟨#[32,101,108,115,101,32]⟩++⟨s2.toArray⟩)) HB0.o ?_;refine tk 14 (.string ((⟨#[105,102,32]⟩:ByteArray)++⟨s0.toArray⟩++⟨#[32,116,104,101,110,32]⟩++⟨s1.toArray⟩++⟨#[32,101,108,115,101,32]⟩++⟨s2.toArray⟩)) HB0.o ?_;refine wpAnyH_done (by kernel_rfl) ?_ _;go_wp2_with fail;go_ret;refine⟨?_,lY.o.trans (HB0.o.mono lY.o.size)⟩;rw [HT.o];have e:(⟨([40]:Bt).toArray⟩:ByteArray)++((⟨([105,102,32]:Bt).toArray⟩:ByteArray)++⟨s0.toArray⟩++⟨([32,116,104,101,110,32]:Bt).toArray⟩++⟨s1.toArray⟩++⟨([32,101,108,115,101,32]:Bt).toArray⟩++⟨s2.toArray⟩)++⟨([41]:Bt).toArray⟩=⟨(([40]:Bt)++(([105,102,32]:Bt)++s0++([32,116,104,101,110,32]:Bt)++s1++([32,101,108,115,101,32]:Bt)++s2)++([41]:Bt)).toArray⟩:=by
     rw [aF,aF,aF,aF,aF,aF,aF]
    exact congrArg (fun b=>Ending.returned (Value.string b)) e
   ·skip
    have hd0:i=1:=by
     have h:(dK 12).kids=1:=rfl;rw [h]at hkd;unfold jA at hkd;rw [if_neg (by decide)]at hkd;omega
    have HD0:=aZ hd0;clear hd0 hkd hkn;clear hlt oZ hex;have hd0:=HD0.o;have hsl:=HSL.o;subst hd0;obtain⟨s0,rfl⟩:∃s0,S=[s0]:=by match S,hsl with | [x],_=>exact⟨x,rfl⟩
    obtain⟨g,c,rfl,hgb,hgl,hgc,hgm⟩:=dR hown.row (by simp);simp only [List.length_cons,List.length_nil,Nat.zero_add]at gb hown hgc;have d0:=hown.cell 0 (by simp);simp only [List.getElem_cons_zero,List.getElem_cons_succ]at d0;have HT:bR (dY 12 text n ts ns [s0]=([40]:Bt)++(s0++([32,105,115,32]:Bt)++(mg.getD n.toNat []))++([41]:Bt)):=aZ (by simp [dY,cat]);rw [HT.o]at hlen
    have Zc:bR (∀u,(Instr.index 179 (.agg #[.string ⟨#[110,117,108,108]⟩,.string ⟨#[98,111,111,108]⟩,.string ⟨#[105,110,116]⟩,.string ⟨#[115,116,114]⟩,.string ⟨#[114,101,99,111,114,100]⟩,.string ⟨#[102,117,110,99,116,105,111,110]⟩]) (.int .i64 n)).run Tryz.prog u=.ok (sv (mg.getD n.toNat [])) u):=aZ (by
     have h5:(dK 12).most=5:=rfl;have h6:n=0∨n=1∨n=2∨n=3∨n=4∨n=5:=by omega
     intro u;clear FV hn0 hn1;rcases h6 with rfl |rfl |rfl |rfl |rfl |rfl <;> (show _= _;kernel_rfl))
    generalize mg.getD n.toNat []=T at*
    simp only [List.length_append,List.length_cons,List.length_nil]at hlen;have hz0:=aT s0;have hz1:=aT T;have q0:¬(9223372036854775807<s0.length+4):=by omega
    have q1:¬(9223372036854775807<s0.length+4+T.length):=by omega
    have q2:¬(9223372036854775807<1+(s0.length+4+T.length)):=by omega
    have q3:¬(9223372036854775807<1+(s0.length+4+T.length)+1):=by omega
    have G1:=aZ g1;have G2:=aZ g2;have G5:=aZ g5;have GB:=aZ gb;have D0:=aZ d0;have HB0:bR (Below wr.heap.size wr wr.drew):=aZ (aH wr 1);clear g1 g2 g3 g4 g5 g6 g7 gb hown hbr hlen d0;go_wp2_with fail;refine wp_region_held_drew (S:=fun w'=>Below wr.heap.size wr w') (by kernel_rfl) HB0.o (fun _=>?_)
    try simp only [Act.put,sq]
    refine jE 0 (.slice (some ⟨g,0,none⟩) 1 c) (kU GB.o) HB0.o ?_;refine tk 1 (.pointer (some ⟨g,0,none⟩)) HB0.o ?_;refine jE 2 (sv s0) (kU D0.o) HB0.o ?_;refine tk 3 (.string ((⟨s0.toArray⟩:ByteArray)++⟨#[32,105,115,32]⟩)) HB0.o ?_;refine tk 4 (.agg #[.string ⟨#[110,117,108,108]⟩,.string ⟨#[98,111,111,108]⟩,.string ⟨#[105,110,116]⟩,.string ⟨#[115,116,114]⟩,.string ⟨#[114,101,99,111,114,100]⟩,.string ⟨#[102,117,110,99,116,105,111,110]⟩]) HB0.o ?_;refine tk 5 (.pointer (some ⟨w.heap.size,2,none⟩)) HB0.o ?_;refine jE 6 (.int .i64 n) (kU G2.o) HB0.o ?_;refine wpAnyH_take (i:=7) (v:=(sv T)) rfl (by kernel_rfl) (by kernel_rfl) (by kernel_rfl) (fun _ _ _ h=>h) (Or.inl ⟨by kernel_rfl,by intro w' hSw;have g0:=Zc.o;go_simp⟩) HB0.o ?_
    try simp only [Act.put,sq]
    refine tk 8 (.string ((⟨s0.toArray⟩:ByteArray)++⟨#[32,105,115,32]⟩++⟨T.toArray⟩)) HB0.o ?_;refine tk 9 (.string ((⟨s0.toArray⟩:ByteArray)++⟨#[32,105,115,32]⟩++⟨T.toArray⟩)) HB0.o ?_;refine wpAnyH_done (by kernel_rfl) ?_ _;go_wp2_with fail;go_ret;refine⟨?_,lY.o.trans (HB0.o.mono lY.o.size)⟩;rw [HT.o];have e:(⟨([40]:Bt).toArray⟩:ByteArray)++((⟨s0.toArray⟩:ByteArray)++⟨([32,105,115,32]:Bt).toArray⟩++⟨T.toArray⟩)++⟨([41]:Bt).toArray⟩=⟨(([40]:Bt)++(s0++([32,105,115,32]:Bt)++T)++([41]:Bt)).toArray⟩:=by
     rw [aF,aF,aF,aF]
    exact congrArg (fun b=>Ending.returned (Value.string b)) e
   ·skip
    have hd0:i=1:=by
     have h:(dK 13).kids=1:=rfl;rw [h]at hkd;unfold jA at hkd;rw [if_neg (by decide)]at hkd;omega
    have HD0:=aZ hd0;clear hd0 hkd hkn;clear hlt oZ hex;have hd0:=HD0.o;have hsl:=HSL.o;subst hd0;obtain⟨s0,rfl⟩:∃s0,S=[s0]:=by match S,hsl with | [x],_=>exact⟨x,rfl⟩
    obtain⟨g,c,rfl,hgb,hgl,hgc,hgm⟩:=dR hown.row (by simp);simp only [List.length_cons,List.length_nil,Nat.zero_add]at gb hown hgc;have d0:=hown.cell 0 (by simp);simp only [List.getElem_cons_zero,List.getElem_cons_succ]at d0;obtain⟨t0,rfl⟩:∃t0,ts=[t0]:=by
     have ha:ts.length=1:=by rw [HA.o];have h1:(dK 13).low=1:=rfl;have h2:(dK 13).types=1:=rfl;omega
     match ts,ha with | [x],_=>exact⟨x,rfl⟩
    obtain⟨b9,o9,kk9,ss9,A8,n8,c8,A9,n9,c9,rfl,EG,z0,z1,z2,z3⟩:=mO (Sl.more (Sl.below DW.o.1 hbr) hbr.size) ((DW.o.2.keep hbr).more hbr.size) (i:=0) (by simp) HA.o.symm;simp only [List.getElem_cons_zero,Nat.zero_mul,Nat.add_zero]at EG z0 z1 z2 z3;have hw9:aK 16 t0=true:=by have:=WI.o;simpa using this
    have Yy:jS t0<=300000:=by have:=Yv.o;rw [dh,dh]at this;omega
    have HSH:=aZ (fun w1 (h:Below wr.heap.size wr w1)=>CK t0 w1 _ 16 (EG.far (Nat.le_refl _) h) hw9 Yy);have ha1:a=1:=by rw [<-HA.o];rfl
    subst ha1;clear EG hw9 Yy;have HT:bR (dY 13 text n [t0] ns [s0]=([40]:Bt)++(s0++([32,97,115,32]:Bt)++(cO t0))++([41]:Bt)):=aZ (by simp [dY,cat]);rw [HT.o]at hlen;generalize cO t0=U at*
    simp only [List.length_append,List.length_cons,List.length_nil]at hlen;have hz0:=aT s0;have hz1:=aT U;have q0:¬(9223372036854775807<s0.length+4):=by omega
    have q1:¬(9223372036854775807<s0.length+4+U.length):=by omega
    have q2:¬(9223372036854775807<1+(s0.length+4+U.length)):=by omega
    have q3:¬(9223372036854775807<1+(s0.length+4+U.length)+1):=by omega
    have G1:=aZ g1;have G2:=aZ g2;have G5:=aZ g5;have GB:=aZ gb;have D0:=aZ d0;have Z0:=aZ z0;have Z1:=aZ z1;have Z2:=aZ z2;have Z3:=aZ z3;have HB0:bR (Below wr.heap.size wr wr.drew):=aZ (aH wr 1);clear g1 g2 g3 g4 g5 g6 g7 gb hown hbr hlen d0 z0 z1 z2 z3;go_wp2_with fail;refine wp_region_held_drew (S:=fun w'=>Below wr.heap.size wr w') (by kernel_rfl) HB0.o (fun _=>?_)
    try simp only [Act.put,sq]
    refine jE 0 (.slice (some ⟨g,0,none⟩) 1 c) (kU GB.o) HB0.o ?_;refine tk 1 (.pointer (some ⟨g,0,none⟩)) HB0.o ?_;refine jE 2 (sv s0) (kU D0.o) HB0.o ?_;refine tk 3 (.string ((⟨s0.toArray⟩:ByteArray)++⟨#[32,97,115,32]⟩)) HB0.o ?_;refine tk 4 (.pointer (some ⟨w.heap.size,5,none⟩)) HB0.o ?_;refine jE 5 (.slice (some ⟨b9,o9,none⟩) 1 c1) (kU G5.o) HB0.o ?_;refine tk 6 (.pointer (some ⟨b9,o9,none⟩)) HB0.o ?_;refine jE 7 (.agg #[.int .i64 kk9,.string ss9,.slice A8 n8 c8,.slice A9 n9 c9]) (Vf Z0.o Z1.o Z2.o Z3.o) HB0.o ?_;refine wpAnyH_ready (rs:=[8]) (by kernel_rfl) (by simp) ?_;refine AllReadyH.cons rfl (fun K hK=>?_) (AllReadyH.nil);go_simp;refine(HSH.o _ HB0.o).mono ?_;rintro e wn0 ⟨rfl,hb⟩;have HB1:=aZ (HB0.o.trans (hb.mono HB0.o.size));clear hb;refine hK.out _ _ HB1.o (fun _=>?_);clear hK K
    try simp only [Act.put,sq]
    refine tk 9 (.string ((⟨s0.toArray⟩:ByteArray)++⟨#[32,97,115,32]⟩++⟨U.toArray⟩)) HB1.o ?_;refine tk 10 (.string ((⟨s0.toArray⟩:ByteArray)++⟨#[32,97,115,32]⟩++⟨U.toArray⟩)) HB1.o ?_;refine wpAnyH_done (by kernel_rfl) ?_ _;go_wp2_with fail;go_ret;refine⟨?_,lY.o.trans (HB1.o.mono lY.o.size)⟩;rw [HT.o];have e:(⟨([40]:Bt).toArray⟩:ByteArray)++((⟨s0.toArray⟩:ByteArray)++⟨([32,97,115,32]:Bt).toArray⟩++⟨U.toArray⟩)++⟨([41]:Bt).toArray⟩=⟨(([40]:Bt)++(s0++([32,97,115,32]:Bt)++U)++([41]:Bt)).toArray⟩:=by
     rw [aF,aF,aF,aF]
    exact congrArg (fun b=>Ending.returned (Value.string b)) e
   ·skip
    have hd0:i=2:=by
     have h:(dK 14).kids=2:=rfl;rw [h]at hkd;unfold jA at hkd;rw [if_neg (by decide)]at hkd;omega
    have HD0:=aZ hd0;clear hd0 hkd hkn;clear hlt oZ hex;have hd0:=HD0.o;have hsl:=HSL.o;subst hd0;obtain⟨s0,s1,rfl⟩:=xS hsl;obtain⟨g,c,rfl,hgb,hgl,hgc,hgm⟩:=dR hown.row (by simp);simp only [List.length_cons,List.length_nil,Nat.zero_add]at gb hown hgc;have d0:=hown.cell 0 (by simp);have d1:=hown.cell 1 (by simp);simp only [List.getElem_cons_zero,List.getElem_cons_succ]at d0 d1;have HT:bR (dY 14 text n ts ns [s0,s1]=([40]:Bt)++(s0++([32]:Bt)++text++([32]:Bt)++s1)++([41]:Bt)):=aZ (by simp [dY,cat]);rw [HT.o]at hlen;simp only [List.length_append,List.length_cons,List.length_nil]at hlen;have hz0:=aT s0;have hz1:=aT text;have hz2:=aT s1;have q0:¬(9223372036854775807<s0.length+1):=by omega
    have q1:¬(9223372036854775807<s0.length+1+text.length):=by omega
    have q2:¬(9223372036854775807<s0.length+1+text.length+1):=by omega
    have q3:¬(9223372036854775807<s0.length+1+text.length+1+s1.length):=by omega
    have q4:¬(9223372036854775807<1+(s0.length+1+text.length+1+s1.length)):=by omega
    have q5:¬(9223372036854775807<1+(s0.length+1+text.length+1+s1.length)+1):=by omega
    have G1:=aZ g1;have G2:=aZ g2;have G5:=aZ g5;have GB:=aZ gb;have D0:=aZ d0;have D1:=aZ d1;have HB0:bR (Below wr.heap.size wr wr.drew):=aZ (aH wr 1);clear g1 g2 g3 g4 g5 g6 g7 gb hown hbr hlen d0 d1;go_wp2_with fail;refine wp_region_held_drew (S:=fun w'=>Below wr.heap.size wr w') (by kernel_rfl) HB0.o (fun _=>?_)
    try simp only [Act.put,sq]
    refine jE 0 (.slice (some ⟨g,0,none⟩) 2 c) (kU GB.o) HB0.o ?_;refine tk 1 (.pointer (some ⟨g,0,none⟩)) HB0.o ?_;refine jE 2 (sv s0) (kU D0.o) HB0.o ?_;refine tk 3 (.string ((⟨s0.toArray⟩:ByteArray)++⟨#[32]⟩)) HB0.o ?_;refine tk 4 (.pointer (some ⟨w.heap.size,1,none⟩)) HB0.o ?_;refine jE 5 (sv text) (kU G1.o) HB0.o ?_;refine tk 6 (.string ((⟨s0.toArray⟩:ByteArray)++⟨#[32]⟩++⟨text.toArray⟩)) HB0.o ?_;refine tk 7 (.string ((⟨s0.toArray⟩:ByteArray)++⟨#[32]⟩++⟨text.toArray⟩++⟨#[32]⟩)) HB0.o ?_;refine jE 8 (.slice (some ⟨g,0,none⟩) 2 c) (kU GB.o) HB0.o ?_;refine tk 9 (.pointer (some ⟨g,1,none⟩)) HB0.o ?_;refine jE 10 (sv s1) (kU D1.o) HB0.o ?_;refine tk 11 (.string ((⟨s0.toArray⟩:ByteArray)++⟨#[32]⟩++⟨text.toArray⟩++⟨#[32]⟩++⟨s1.toArray⟩)) HB0.o ?_;refine tk 12 (.string ((⟨s0.toArray⟩:ByteArray)++⟨#[32]⟩++⟨text.toArray⟩++⟨#[32]⟩++⟨s1.toArray⟩)) HB0.o ?_;refine wpAnyH_done (by kernel_rfl) ?_ _;go_wp2_with fail;go_ret;refine⟨?_,lY.o.trans (HB0.o.mono lY.o.size)⟩;rw [HT.o];have e:(⟨([40]:Bt).toArray⟩:ByteArray)++((⟨s0.toArray⟩:ByteArray)++⟨([32]:Bt).toArray⟩++⟨text.toArray⟩++⟨([32]:Bt).toArray⟩++⟨s1.toArray⟩)++⟨([41]:Bt).toArray⟩=⟨(([40]:Bt)++(s0++([32]:Bt)++text++([32]:Bt)++s1)++([41]:Bt)).toArray⟩:=by
     rw [aF,aF,aF,aF,aF,aF]
    exact congrArg (fun b=>Ending.returned (Value.string b)) e
   ·skip
    have hd0:i=1:=by
     have h:(dK 15).kids=1:=rfl;rw [h]at hkd;unfold jA at hkd;rw [if_neg (by decide)]at hkd;omega
    have HD0:=aZ hd0;clear hd0 hkd hkn;clear hlt oZ hex;have hd0:=HD0.o;have hsl:=HSL.o;subst hd0;obtain⟨s0,rfl⟩:∃s0,S=[s0]:=by match S,hsl with | [x],_=>exact⟨x,rfl⟩
    obtain⟨g,c,rfl,hgb,hgl,hgc,hgm⟩:=dR hown.row (by simp);simp only [List.length_cons,List.length_nil,Nat.zero_add]at gb hown hgc;have d0:=hown.cell 0 (by simp);simp only [List.getElem_cons_zero,List.getElem_cons_succ]at d0;have HT:bR (dY 15 text n ts ns [s0]=([40]:Bt)++(([110,111,116,32]:Bt)++s0)++([41]:Bt)):=aZ (by simp [dY,cat]);rw [HT.o]at hlen;simp only [List.length_append,List.length_cons,List.length_nil]at hlen;have hz0:=aT s0;have q0:¬(9223372036854775807<4+s0.length):=by omega
    have q1:¬(9223372036854775807<1+(4+s0.length)):=by omega
    have q2:¬(9223372036854775807<1+(4+s0.length)+1):=by omega
    have HB0:=aZ (Below.refl wr.heap.size wr);clear hown hbr hlen;go_wp2_with fail;go_ret;refine⟨?_,lY.o.trans (HB0.o.mono lY.o.size)⟩;rw [HT.o];have e:(⟨([40]:Bt).toArray⟩:ByteArray)++((⟨([110,111,116,32]:Bt).toArray⟩:ByteArray)++⟨s0.toArray⟩)++⟨([41]:Bt).toArray⟩=⟨(([40]:Bt)++(([110,111,116,32]:Bt)++s0)++([41]:Bt)).toArray⟩:=by
     rw [aF,aF,aF]
    exact congrArg (fun b=>Ending.returned (Value.string b)) e
   ·skip
    have hd0:i=1:=by
     have h:(dK 16).kids=1:=rfl;rw [h]at hkd;unfold jA at hkd;rw [if_neg (by decide)]at hkd;omega
    have HD0:=aZ hd0;clear hd0 hkd hkn;clear hlt oZ hex;have hd0:=HD0.o;have hsl:=HSL.o;subst hd0;obtain⟨s0,rfl⟩:∃s0,S=[s0]:=by match S,hsl with | [x],_=>exact⟨x,rfl⟩
    obtain⟨g,c,rfl,hgb,hgl,hgc,hgm⟩:=dR hown.row (by simp);simp only [List.length_cons,List.length_nil,Nat.zero_add]at gb hown hgc;have d0:=hown.cell 0 (by simp);simp only [List.getElem_cons_zero,List.getElem_cons_succ]at d0;have HT:bR (dY 16 text n ts ns [s0]=([40]:Bt)++(([45]:Bt)++s0)++([41]:Bt)):=aZ (by simp [dY,cat]);rw [HT.o]at hlen;simp only [List.length_append,List.length_cons,List.length_nil]at hlen;have hz0:=aT s0;have q0:¬(9223372036854775807<1+s0.length):=by omega
    have q1:¬(9223372036854775807<1+(1+s0.length)):=by omega
    have q2:¬(9223372036854775807<1+(1+s0.length)+1):=by omega
    have HB0:=aZ (Below.refl wr.heap.size wr);clear hown hbr hlen;go_wp2_with fail;go_ret;refine⟨?_,lY.o.trans (HB0.o.mono lY.o.size)⟩;rw [HT.o];have e:(⟨([40]:Bt).toArray⟩:ByteArray)++((⟨([45]:Bt).toArray⟩:ByteArray)++⟨s0.toArray⟩)++⟨([41]:Bt).toArray⟩=⟨(([40]:Bt)++(([45]:Bt)++s0)++([41]:Bt)).toArray⟩:=by
     rw [aF,aF,aF]
    exact congrArg (fun b=>Ending.returned (Value.string b)) e
   ·skip
    have hd0:i=1:=by
     have h:(dK 17).kids=1:=rfl;rw [h]at hkd;unfold jA at hkd;rw [if_neg (by decide)]at hkd;omega
    have HD0:=aZ hd0;clear hd0 hkd hkn;clear hlt oZ hex;have hd0:=HD0.o;have hsl:=HSL.o;subst hd0;obtain⟨s0,rfl⟩:∃s0,S=[s0]:=by match S,hsl with | [x],_=>exact⟨x,rfl⟩
    obtain⟨g,c,rfl,hgb,hgl,hgc,hgm⟩:=dR hown.row (by simp);simp only [List.length_cons,List.length_nil,Nat.zero_add]at gb hown hgc;have d0:=hown.cell 0 (by simp);simp only [List.getElem_cons_zero,List.getElem_cons_succ]at d0;have HT:bR (dY 17 text n ts ns [s0]=([112,114,105,110,116,40]:Bt)++s0++([41]:Bt)):=aZ (by simp [dY,cat]);rw [HT.o]at hlen;simp only [List.length_append,List.length_cons,List.length_nil]at hlen;have hz0:=aT s0;have q0:¬(9223372036854775807<6+s0.length):=by omega
    have q1:¬(9223372036854775807<6+s0.length+1):=by omega
    have HB0:=aZ (Below.refl wr.heap.size wr);clear hown hbr hlen;go_wp2_with fail;go_ret;refine⟨?_,lY.o.trans (HB0.o.mono lY.o.size)⟩;rw [HT.o];have e:(⟨([112,114,105,110,116,40]:Bt).toArray⟩:ByteArray)++⟨s0.toArray⟩++⟨([41]:Bt).toArray⟩=⟨(([112,114,105,110,116,40]:Bt)++s0++([41]:Bt)).toArray⟩:=by
     rw [aF,aF]
    exact congrArg (fun b=>Ending.returned (Value.string b)) e
theorem Ik (k:Int)(hk:k=0∨k=1∨k=2∨k=3∨k=4∨k=18∨k=19)(text:Bt)(n li co:Int)(ts:List bC)(ns:List Bt)(ks:List bF)(ih:∀y∈ks,Yu y):Yu (.mk k text n li co ts ns ks):=by
 intro w z m hr hok hnd hc hX;have hlen:=xQ _ m hnd;obtain⟨q,rfl,WH,hown,hns,hts,hkk⟩:=za hnd;rw [CJ,Bool.and_eq_true,Bool.and_eq_true,Bool.and_eq_true,Bool.and_eq_true,decide_eq_true_eq,decide_eq_true_eq,decide_eq_true_eq,decide_eq_true_eq]at hown;obtain⟨⟨⟨⟨hn0,hn1⟩,htx⟩,hlo,hhi⟩,hkn,hkd⟩:=hown;have htl:=CB htx;rw [GN]at hok;obtain⟨ok1,TK,Qp,Vd,Za,Yo,Yp,Vi⟩:=hok;obtain⟨A1,c1,A2,c2,A3,c3,xt,xk,rfl,s1,r1,s2,s3,r3⟩:=hr.parts;have l1:=(bN s1).2;have l2:=(bN s2).2;have l3:=(bN s3).2;rw [fT]at hlen ⊢;rw [gT]at hc hlen;have hcT:dh ts<=300000:=by omega
 have hcK:fJ ks<=300000:=by omega
 have hdc:ks.length<=300000:=Nat.le_trans (vg ks) hcK;obtain⟨S,hS⟩:∃S,fU ks=S:=⟨_,rfl⟩
 have QV:S.length=ks.length:=by rw [<-hS,qM]
 have HSG:bR (∀(i:Nat) (h:i<ks.length) (h2:i<S.length),S[i]=fT ks[i]):=aZ (by
  intro i h h2;subst hS;simp [rZ])
 rw [hS]at hlen ⊢;have HKK:=aZ (And.intro s3 r3);have HR:=aZ hr;have DW:=aZ (And.intro s1 r1);have Gt:=aZ s2;have Qo:=aZ ih;have Mg:=aZ (uj.1 Vi);have HNK:=aZ hkk;have HCK:=aZ hcK;have Yv:=aZ hcT;have WI:=aZ hts;have Eb:=aZ hns;have HX:=aZ hX;have FV:=Qp;clear hr s1 r1 s2 s3 r3 ih ok1 TK Qp Vd Za Yo Yp Vi hkk hts hns hX hS hnd WH;obtain⟨a,hA⟩:∃a,ts.length=a:=⟨_,rfl⟩
 obtain⟨b,hB⟩:∃b,ns.length=b:=⟨_,rfl⟩
 obtain⟨d,hD⟩:∃d,ks.length=d:=⟨_,rfl⟩
 rw [hA]at l1 DW hlo hhi;rw [hB]at l2 Gt hkn hkd;rw [hD]at l3 HKK hkd hdc QV;rw [hA,hB,hD]at HR;rw [hA,hB,hD];have HA:=aZ hA;have qA:=aZ hB;have HD:=aZ hD;have HSL:=aZ QV;clear hA hB hD;have hk0:(dK k).kids=0:=by rcases hk with rfl |rfl |rfl |rfl |rfl |rfl |rfl <;> rfl
 have hd0:d=0:=by
  rw [hk0]at hkd;unfold jA at hkd;rw [if_neg (by decide)]at hkd;omega
 have h2:k=2->n=0∨n=1:=by
  intro h;subst h;have h5:(dK 2).most=1:=rfl;omega
 have HT:bR (dY k text n ts ns S=iC k text n ts):=aZ (by rcases hk with rfl |rfl |rfl |rfl |rfl |rfl |rfl <;> rfl);have acy:=aZ hk;have H2:=aZ h2;have HTL:=aZ htl;have Zb:=aZ FV;have q7:(k==7)=false:=by rw [beq_eq_false_iff_ne];rcases hk with rfl |rfl |rfl |rfl |rfl |rfl |rfl <;> decide
 have q9:(k==9)=false:=by rw [beq_eq_false_iff_ne];rcases hk with rfl |rfl |rfl |rfl |rfl |rfl |rfl <;> decide
 have q10:(k==10)=false:=by rw [beq_eq_false_iff_ne];rcases hk with rfl |rfl |rfl |rfl |rfl |rfl |rfl <;> decide
 have q8:(k==8)=false:=by rw [beq_eq_false_iff_ne];rcases hk with rfl |rfl |rfl |rfl |rfl |rfl |rfl <;> decide
 have q17:(k==17)=false:=by rw [beq_eq_false_iff_ne];rcases hk with rfl |rfl |rfl |rfl |rfl |rfl |rfl <;> decide
 have q5:(k==5)=false:=by rw [beq_eq_false_iff_ne];rcases hk with rfl |rfl |rfl |rfl |rfl |rfl |rfl <;> decide
 have q6:(k==6)=false:=by rw [beq_eq_false_iff_ne];rcases hk with rfl |rfl |rfl |rfl |rfl |rfl |rfl <;> decide
 have q11:(k==11)=false:=by rw [beq_eq_false_iff_ne];rcases hk with rfl |rfl |rfl |rfl |rfl |rfl |rfl <;> decide
 have q12:(k==12)=false:=by rw [beq_eq_false_iff_ne];rcases hk with rfl |rfl |rfl |rfl |rfl |rfl |rfl <;> decide
 have q13:(k==13)=false:=by rw [beq_eq_false_iff_ne];rcases hk with rfl |rfl |rfl |rfl |rfl |rfl |rfl <;> decide
 have q14:(k==14)=false:=by rw [beq_eq_false_iff_ne];rcases hk with rfl |rfl |rfl |rfl |rfl |rfl |rfl <;> decide
 have q15:(k==15)=false:=by rw [beq_eq_false_iff_ne];rcases hk with rfl |rfl |rfl |rfl |rfl |rfl |rfl <;> decide
 have q16:(k==16)=false:=by rw [beq_eq_false_iff_ne];rcases hk with rfl |rfl |rfl |rfl |rfl |rfl |rfl <;> decide
 subst hd0;clear hk hk0 hkd hkn h2 htx hlo hhi hn0 hn1 FV HKK Qo Mg HNK HCK HSG;obtain⟨OB,WL⟩:∃OB,Obj.cells #[.int .i64 k,sv text,.int .i64 n,.int .i64 li,.int .i64 co,.slice A1 a c1,.slice A2 b c2,.slice A3 0 c3] 52 (0,0)=OB:=⟨_,rfl⟩
 obtain⟨W,hW⟩:∃W,(w.alloc (.cells #[.int .i64 k,sv text,.int .i64 n,.int .i64 li,.int .i64 co,.slice A1 a c1,.slice A2 b c2,.slice A3 0 c3] 52)).alloc (.cells #[.slice none 0 0] 25)=W:=⟨_,rfl⟩
 have WM:bR (CP w W OB (.slice none 0 0) (S.take 0)):=aZ (by
  rw [<-hW,<-WL];exact⟨(kP w _ _).2,gX.nil _ _ _,(kP w _ _).1,((Below.refl _ _).alloc (Nat.le_refl _) _).alloc (by simp) _⟩)
 have tH:=aZ WL;have uW:=aZ hW;clear hW WL;go_enter Tryz.func57,Tryz.ntmps57;go_wp2_with fail;have hW:=uW.o;rw [hW];clear hW;go_loopw [10] (fun v10 wr=>v10=.int .i64 0∧wr=W) (fun _ _=>0)
 case atStart=>exact⟨rfl,rfl⟩
 case round=>
  obtain⟨rfl,rfl⟩:=hrel;have hat:=WM.o;have hbr:=hat.below;obtain⟨g0,g1,g2,g3,g4,g5,g6,g7⟩:=gN (hat.node.trans (congrArg some tH.o.symm));have HC:=aZ (Kv wr _ k text n li co ts ns ks ((HR.o.keep hbr).more hbr.size) acy.o Zb.o H2.o HTL.o WI.o Yv.o (HX.o.below hbr));have HB:=aZ hbr;clear hat hbr;go_wp2_with fail;refine HC.o.mono ?_;rintro e w2 ⟨rfl,hb⟩;go_wp2_with fail;go_ret;exact⟨by rw [HT.o];rfl,HB.o.trans (hb.mono HB.o.size)⟩
theorem QY (x:bF):Yu x:=by
 induction h:gT x using Nat.strongRecOn generalizing x with
 |_ N ih=>
  obtain⟨k,text,n,li,co,ts,ns,ks⟩:=x;have ihk:∀y∈ks,Yu y:=fun y hy=>ih (gT y) (by rw [<-h,gT];have:=uF hy;omega) y rfl;intro w z m hr hok hnd hc hX;have hk:0<=k∧k<20:=by obtain⟨q,rfl,h1,_⟩:=za hnd;exact h1
  by_cases hs:k=0∨k=1∨k=2∨k=3∨k=4∨k=18∨k=19
  ·exact Ik k hs text n li co ts ns ks ihk w z m hr hok hnd hc hX
  have hk2:k=5∨k=6∨k=7∨k=8∨k=9∨k=10∨k=11∨k=12∨k=13∨k=14∨k=15∨k=16∨k=17:=by omega
  exact QU k hk2 text n li co ts ns ks ihk w z m hr hok hnd hc hX
theorem EM (w:World)(z:List Value)(x:bF)(hr:tT w w.heap.size z x)(hok:GN x)(hc:gT x<=300000)(hX:kX w):
  Calls Tryz.prog 26 #[.agg z.toArray] w fun e w'=>e=.returned (sv (oP x))∧Below w.heap.size w w':=by
 obtain⟨k,s,v2,v3,v4,A1,n1,c1,A2,n2,c2,A3,n3,c3,rfl⟩:=hr.shape;obtain⟨W1,hW1⟩:∃W1,W1=w.alloc (.cells #[.int .i64 k,.string s,.int .i64 v2,.int .i64 v3,.int .i64 v4,.slice A1 n1 c1,.slice A2 n2 c2,.slice A3 n3 c3] 52):=⟨_,rfl⟩
 have hb1:Below w.heap.size w W1:=by rw [hW1];exact(Below.refl _ _).alloc (Nat.le_refl _) _
 have hbx:W1.heap[w.heap.size]? =some (.cells #[.int .i64 k,.string s,.int .i64 v2,.int .i64 v3,.int .i64 v4,.slice A1 n1 c1,.slice A2 n2 c2,.slice A3 n3 c3] 52 (0,0)):=by rw [hW1];exact heap_alloc_new w _
 have HW:=Ij 25 (by omega) W1 _ x (hr.far (Nat.le_refl _) hb1) hok (hX.below hb1);rw [hW1]at HW;have HW:=aZ HW;have HB:=aZ hb1;have uW:=aZ hW1;have vo:=aZ hbx;have HR:=aZ hr;have HX:=aZ hX;have Mg:=aZ hok;clear hb1 hbx hr hX hW1 hok;cases hq:dx 25 x with
 |false=>
  have HT:bR (oP x=[]):=aZ (by unfold oP;rw [hq];rfl);rw [hq]at HW;rw [HT.o];clear hq HT;go_enter Tryz.func26,Tryz.ntmps26;go_wp2_with fail;refine HW.o.mono ?_;rintro e w2 ⟨rfl,hb⟩;rw [<-uW.o]at hb;go_wp2_with fail;go_ret;exact⟨rfl,HB.o.trans (hb.mono HB.o.size)⟩
 |true=>
  have HT:bR (oP x=fT x):=aZ (by unfold oP;rw [hq];rfl);rw [hq]at HW;rw [HT.o];have HS:bR (∀w2,Below w.heap.size w w2->Calls Tryz.prog 57 #[.agg [.int .i64 k,.string s,.int .i64 v2,.int .i64 v3,.int .i64 v4,.slice A1 n1 c1,.slice A2 n2 c2,.slice A3 n3 c3].toArray] w2 fun e w'=>e=.returned (sv (fT x))∧Below w2.heap.size w2 w'):=aZ (fun w2 hb2=>QY x w2 _ 25 (HR.o.far (Nat.le_refl _) hb2) Mg.o hq hc (HX.o.below hb2));clear hq HT HR;generalize fT x=u at*
  go_enter Tryz.func26,Tryz.ntmps26;go_wp2_with fail;refine HW.o.mono ?_;rintro e w2 ⟨rfl,hb⟩;rw [<-uW.o]at hb;have HB2:=aZ (HB.o.trans (hb.mono HB.o.size));obtain⟨g0,g1,g2,g3,g4,g5,g6,g7⟩:=gN ((hb.block _ (block_lt vo.o)).trans vo.o);clear hb;go_wp2_with fail;refine(HS.o _ HB2.o).mono ?_;rintro e w3 ⟨rfl,hb3⟩;go_wp2_with fail;go_ret;exact⟨rfl,HB2.o.trans (hb3.mono HB2.o.size)⟩
def bF.kids:bF->List bF |.mk _ _ _ _ _ _ _ k=>k
structure SmD (d:nV):Prop where
 vars:d.vars.length<=100
 types:d.types.length<=100
 bounds:∀v∈d.vars,jS v.bound<=300000
 sorts:dh d.types<=300000
 body:gT d.body<=300000
theorem Il {α:Type}{R:List Value->α->Prop}{k:Nat}{z:List Value}{c:α}(hz:z.length=k)(h:R z c):dH R k z [c]:=by
 have:=dH.cons (R:=R) hz h .nil;rwa [List.append_nil]at this
structure abr (w wc:World) (ni nd:Nat) (xi xd:List Value) (A1:Option Addr) (k1 g1:Nat) (A2:Option Addr) (k2 g2:Nat):Prop where
 low:Below w.heap.size w wc
 box:wc.heap[w.heap.size]? =some (.cells #[.slice A1 ni k1,.slice A2 nd k2] 40 (0,0))
 res:wc.heap[w.heap.size+1]? =some (.cells #[.slice none 0 0,.slice none 0 0] 40 (0,0))
 c1:ni<=k1∧k1<=maxLen
 c2:nd<=k2∧k2<=maxLen
 a1:0<ni->A1=some ⟨g1,0,none⟩∧g1<wc.heap.size
 a2:0<nd->A2=some ⟨g2,0,none⟩∧g2<wc.heap.size
 r1:wc.rangeAt g1 0 xi
 r2:wc.rangeAt g2 0 xd
 t1:wc.there g1 0 xi.length
 t2:wc.there g2 0 xd.length
 b1:w.heap.size+2<=g1
 b2:w.heap.size+2<=g2
 ne:0<ni->g1<g2
def Zh (w:World)(g:Nat):Nat->Prop:=fun j=>j≠g∧(j<w.heap.size∨w.heap.size+2<=j)
def Zi (w wr:World)(g:Nat)(z:List Value)(d:nV):Prop:=
 ∃vv xv vt xt y,z=[sv d.name,.bool d.exp,vv,sv d.param,vt]++(y++[.int .i64 d.line,.int .i64 d.col])∧Sl w w.heap.size 5 vv xv∧dH (JO w w.heap.size) 5 xv d.vars∧Sl w w.heap.size 4 vt xt∧jo w w.heap.size xt d.types∧mX wr (Zh w g) y d.body
theorem Zi.turn {w wr wr':World}{g:Nat}{z:List Value}{d:nV}{G:Nat->Prop}(h:Zi w wr g z d)(t:Turn G wr wr')(hd:∀j,j<wr.heap.size->Zh w g j->¬G j):Zi w wr' g z d:=by
 obtain⟨vv,xv,vt,xt,y,e,h1,h2,h3,h4,h5⟩:=h;exact⟨vv,xv,vt,xt,y,e,h1,h2,h3,h4,h5.turn t hd⟩
theorem Zi.de {w wr:World}{g:Nat}{z:List Value}{d:nV}(h:Zi w wr g z d)(hb:Below w.heap.size w wr):Bw wr wr.heap.size z d:=by
 obtain⟨vv,xv,vt,xt,y,e,h1,h2,h3,h4,h5⟩:=h;exact⟨vv,xv,vt,xt,y,e,Sl.more (Sl.below h1 hb) hb.size,h2.imp fun _ _ h=>(h.keep hb).more hb.size,Sl.more (Sl.below h3 hb) hb.size,h4.far (Nat.le_refl _) hb,h5.all⟩
end Go.Proofs.YtfgjkmipfikooaaGreatDoor
