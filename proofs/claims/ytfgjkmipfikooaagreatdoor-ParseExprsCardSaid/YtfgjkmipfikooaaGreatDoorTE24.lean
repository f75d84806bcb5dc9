/- IJ, IK, IL -/
import Derived.Test.YtfgjkmipfikooaaGreatDoorTEQ
import Derived.Test.YtfgjkmipfikooaaGreatDoorTE17
import Derived.Test.YtfgjkmipfikooaaGreatDoorTE20
import Derived.Test.YtfgjkmipfikooaaGreatDoorTE21
import Derived.Test.YtfgjkmipfikooaaGreatDoorTE23
set_option linter.unusedSimpArgs false
set_option linter.unusedVariables false
set_option maxRecDepth 100000
set_option maxHeartbeats 8000000
namespace Go.Proofs.YtfgjkmipfikooaaGreatDoor
open Go.RowKit
theorem jc (F:Nat->Prop)(w:World):Turn F w w.drew:=⟨rfl,rfl,rfl,Nat.le_refl _,fun _ _ _=>rfl⟩
theorem ac6 {F:Nat->Prop}{w:World}{b:Nat}{v0 v1 v2 v3:Value}{T:TypeId}(h:w.heap[b]? =some (.cells #[v0,v1,v2,v3] T (0,0)))(hn:¬F b):∀w',Turn F w w'->w'.cell? ⟨b,0,none⟩=some v0∧w'.cell? ⟨b,1,none⟩=some v1∧w'.cell? ⟨b,2,none⟩=some v2∧w'.cell? ⟨b,3,none⟩=some v3:=fun w' t=>by
 obtain⟨h0,h1,h2,h3,_⟩:=aX (ah h t hn);exact⟨h0,h1,h2,h3⟩
theorem QM (w:World)(s:Bt):Calls Tryz.prog 46 #[sv s] w fun e w'=>Below w.heap.size w w'∧∃bp,w.heap.size<=bp∧bp<w'.heap.size∧e=.returned (.tuple #[.pointer (some ⟨bp,0,none⟩),vZ (fQ s).2])∧
  ((fQ s).2.2.2=0->eF w' bp bp (fQ s).1 0 (.good () (fQ s).1)):=by
 obtain⟨W0,hW0⟩:∃W0,w.alloc (.cells #[.int .i64 0,.int .i64 0,.int .i64 0,.int .i64 0] 45)=W0:=⟨_,rfl⟩
 have hb0:Below w.heap.size w W0:=by rw [<-hW0];exact new1 _ _
 have hd0:W0.heap[w.heap.size]? =some (.cells #[.int .i64 0,.int .i64 0,.int .i64 0,.int .i64 0] 45 (0,0)):=by rw [<-hW0];exact wJ w _
 have hs0:W0.heap.size=w.heap.size+1:=by rw [<-hW0];simp
 have HL:=aZ (aae W0 s);have HB0:=aZ hb0;have HD0:=aZ hd0;have HW0:=aZ hW0;have uO:=aZ (Bu (s:=s));obtain⟨L,D,hLD⟩:∃L D,fQ s=(L,D):=⟨_,_,rfl⟩
 rw [hLD]at HL uO;rw [hLD];clear hb0 hd0 hW0 hLD;go_enter Tryz.func46,Tryz.ntmps46;go_wp2_with fail;rw [HW0.o];refine(HL.o).mono ?_;rintro e w1 ⟨v1,n1,rfl,hown,hb1⟩;obtain⟨A1,c1,rfl,_,_⟩:=iK hown;have hs1:=hb1.size;obtain⟨W1,hW1⟩:∃W1,w1.alloc (.cells #[.int .i64 0,.int .i64 D.1,.int .i64 D.2.1,.int .i64 D.2.2] 45)=W1:=⟨_,rfl⟩
 have hbw:Below w1.heap.size w1 W1:=by rw [<-hW1];exact new1 _ _
 have hx1:W1.heap[w1.heap.size]? =some (.cells #[.int .i64 0,.int .i64 D.1,.int .i64 D.2.1,.int .i64 D.2.2] 45 (0,0)):=by rw [<-hW1];exact wJ w1 _
 have hsW:W1.heap.size=w1.heap.size+1:=by rw [<-hW1];simp
 have hd1:=((hb1.trans (hbw.mono hs1)).block w.heap.size (by omega)).trans HD0.o;have HB1:=aZ (HB0.o.trans ((hb1.trans (hbw.mono hs1)).mono (by omega)));have HD1:=aZ hd1;have uE:=aZ hx1;have HOWN:=aZ hown;have nI:=aZ hbw
 have FIN:bN (∀Wf:World,Turn (fun j=>j=w.heap.size) W1 Wf->Wf.heap[W1.heap.size]? =some (.cells #[.slice A1 n1 c1,.int .i64 0,.int .i64 0,.int .i64 0,.int .i64 0,.int .i64 0] 159 (0,0))->Below w.heap.size w Wf∧(D.2.2=0->eF Wf W1.heap.size W1.heap.size L 0 (.good () L))):=aZ (fun Wf t hp=>by
  refine⟨HB1.o.trans (t.below (B:=w.heap.size) (by omega) (fun k hk e=>by omega)),fun h0=>?_⟩;obtain⟨htk,hwf⟩:=uO.o h0;have tt:Turn (fun j=>j=w.heap.size) w1 Wf:=(Turn.of_below (F:=fun j=>j=w.heap.size) nI.o).trans t (fun _ _ h=>h);have hsl:Sl Wf W1.heap.size 4 (.slice A1 n1 c1) (dw L):=((cO.own (F:=fun j=>W0.heap.size<=j∧j<w1.heap.size) HOWN.o (fun g hg=>HOWN.o.lt g hg)).turn tt (fun g _ h e=>by have:=h.1;omega)).to (fun g _ h=>by have:=h.2;omega);exact⟨Nat.le_refl _,htk,hwf,.slice A1 n1 c1,0,0,0,0,0,hp,hsl,hwf.pos,by unfold In64;omega,rfl,hwf,rfl,rfl,rfl,rfl⟩)
 rw [show C8 D=.agg #[.int .i64 0,.int .i64 D.1,.int .i64 D.2.1,.int .i64 D.2.2]from rfl];have bA:bN (Turn (fun j=>j=w.heap.size) W1 W1.drew):=aZ (jc _ _);have HKP:=aZ (ac6 (F:=fun j=>j=w.heap.size) hx1 (by omega));clear hb1 hown hbw hx1 hd1;go_wp2_with fail;refine wp_region_held_drew (S:=fun w'=>Turn (fun j=>j=w.heap.size) W1 w') (by kernel_rfl) bA.o (fun _=>?_)
 try simp only [Act.put,sq]
 refine tk 0 (.slice A1 n1 c1) bA.o ?_;refine tk 1 (.agg #[.slice A1 n1 c1,.int .i64 0,.int .i64 0,.int .i64 0,.int .i64 0,.int .i64 0]) bA.o ?_;refine lJ 3 (.agg #[.int .i64 0,.int .i64 D.1,.int .i64 D.2.1,.int .i64 D.2.2]) HKP.o bA.o ?_;refine wpAnyH_ready (rs:=[2]) (by kernel_rfl) (by simp) ?_;refine AllReadyH.cons rfl (fun K hK=>?_) AllReadyH.nil;go_simp;obtain⟨W2,hW2⟩:∃W2,(W1.alloc (.cells #[.slice A1 n1 c1,.int .i64 0,.int .i64 0,.int .i64 0,.int .i64 0,.int .i64 0] 159)).drew=W2:=⟨_,rfl⟩
 have t2:Turn (fun j=>j=w.heap.size) W1 W2:=by rw [<-hW2];exact(Turn.alloc _ _ _).trans (jc _ _) (fun _ _ h=>h)
 have hp2:W2.heap[W1.heap.size]? =some (.cells #[.slice A1 n1 c1,.int .i64 0,.int .i64 0,.int .i64 0,.int .i64 0,.int .i64 0] 159 (0,0)):=by rw [<-hW2,show ∀X:World,X.drew.heap=X.heap from fun _=>rfl];exact wJ W1 _
 rw [hW2];have HT2:=aZ t2;have OD:=aZ hp2;have HS2:=aZ (show Turn (fun j=>j=w.heap.size) W1 W2 from t2);have hd2:W2.heap[w.heap.size]? =some (.cells #[.int .i64 0,.int .i64 0,.int .i64 0,.int .i64 0] 45 (0,0)):=by rw [<-hW2,show ∀X:World,X.drew.heap=X.heap from fun _=>rfl];exact bQ HD1.o
 have HD2:=aZ hd2;clear hW2 t2 hp2;refine hK.out _ _ HS2.o (fun _=>?_);clear hK K
 try simp only [Act.put,sq]
 refine tk 4 (.pointer (some ⟨w1.heap.size+1,0,none⟩)) HS2.o ?_;refine wpAnyH_ready (rs:=[5]) (by kernel_rfl) (by simp) ?_;refine AllReadyH.cons rfl (fun K hK=>?_) AllReadyH.nil;obtain⟨d0,d1,d2,d3,dz⟩:=aX hd2;go_simp;have t3:=HT2.o.trans (dD W2 w.heap.size (.int .i64 0) (.int .i64 D.1) (.int .i64 D.2.1) (.int .i64 D.2.2)) (fun _ _ h=>h);have p3:=ah OD.o (dD W2 w.heap.size (.int .i64 0) (.int .i64 D.1) (.int .i64 D.2.1) (.int .i64 D.2.2)) (by omega);have q3:=aY HD2.o (.int .i64 0) (.int .i64 D.1) (.int .i64 D.2.1) (.int .i64 D.2.2);obtain⟨f1,f2⟩:=FIN.o _ t3 p3;have F1:=aZ f1;have F2:=aZ f2;have Q3:=aZ q3;have P3:=aZ p3;refine hK.out _ _ t3 (fun _=>?_);clear hK K t3 p3 q3 f1 f2;refine wpAnyH_done (by kernel_rfl) ?_ _;go_wp2_with fail;refine bodyPost_ret (eO rfl _ _ w.heap.size _ _ _ _ rfl Q3.o Tryz.underlying45 rfl (by kernel_rfl)) rfl ?_;exact⟨F1.o,W1.heap.size,by omega,block_lt P3.o,by rw [hsW];rfl,F2.o⟩
def KI (q:Pr Unit):CS:=match q with
 |.good _ _=>(0,0,0)
 |.bad g=>g
def Ea (q:Pr Unit):CS:=KI (ig (aA q (dB 0)))
theorem eF.fault {w:World}{bp B:Nat}{L:List aI}{d:Int}{q:Pr Unit}(h:eF w bp B L d q):∃(b o c k:Nat) (dd:Int),w.heap[bp]? =some (.cells #[.slice (some ⟨b,o,none⟩) L.length c,.int .i64 k,.int .i64 dd,.int .i64 (KI q).2.2,.int .i64 (((KI q).1:Nat):Int),.int .i64 (((KI q).2.1:Nat):Int)] 159 (0,0)):=by
 obtain⟨b,o,c,k,dd,e,ln,cn,hk,hlc,hc63,Ls,hdd,hrel,hblk,_⟩:=h.open_;cases q with
 |bad g=>
  obtain⟨rfl,rfl,rfl,_⟩:=hrel;exact⟨b,o,c,k,dd,hblk⟩
 |good u ts=>
  obtain⟨_,_,_,rfl,rfl,rfl⟩:=hrel;exact⟨b,o,c,k,dd,hblk⟩
theorem aax (w:World)(bp B:Nat)(L:List aI)(d:Int)(q:Pr Unit)(h:eF w bp B L d q):Calls Tryz.prog 48 #[.pointer (some ⟨bp,0,none⟩)] w fun e w'=>e=.returned (vZ (Ea q))∧Turn (fun j=>j=bp) w w':=by
 have hlt:=h.lt;obtain⟨W1,hW1⟩:∃W1,w.alloc (.cells #[.int .i64 0,.int .i64 0,.int .i64 0,.int .i64 0] 45)=W1:=⟨_,rfl⟩
 have tn:Turn (fun _=>False) w W1:=by rw [<-hW1];exact Turn.alloc _ _ _
 have hs1:W1.heap.size=w.heap.size+1:=by rw [<-hW1];simp
 have hr1:W1.heap[w.heap.size]? =some (.cells #[.int .i64 0,.int .i64 0,.int .i64 0,.int .i64 0] 45 (0,0)):=by rw [<-hW1];exact wJ w _
 have hk1:=h.turn tn id (fun _ _=>id);have HT1:=aZ tn;have HR1:=aZ hr1;have iI:=aZ hk1;have HF:=aZ (fun w1 h1=>tK w1 bp B L d q h1 7 (by decide));have HW1:=aZ hW1;obtain⟨b,o,c,k,dd,e,ln,cn,hk,hlc,hc63,Ls,hdd,hrel,hblk,t0,t1,t2,t3⟩:=hk1.open_;obtain⟨p0,p1,p2,p3,p4,p5,pz⟩:=gu hblk;have hki:(k:Int)<L.length:=by omega
 obtain⟨tkn,htk⟩:∃tkn,L[k]=tkn:=⟨_,rfl⟩
 rw [htk]at t0;have uO:=aZ htk;have vU:=aZ hrel;clear h tn hr1 hk1 hW1 htk hrel hblk t1 t2 t3;go_enter Tryz.func48,Tryz.ntmps48;go_wp2_with fail;rw [HW1.o]
 go_upto_region 1 with(fail)
 go_cut [21]from 3 (fun v wc=>∃r:Bool,v=.bool r∧W1.drew=wc∧(r=true->e=0∧tkn.kind≠0)∧(r=false->¬(e=0∧tkn.kind≠0)))
 case first=>
  by_cases he:e=0
  ·subst he;cases hkb:(tkn.kind != 0)
   ·have hkn:tkn.kind=0:=by simpa using hkb
    have Nq:=aZ hkn;clear hkn;have bA:bN ((W1.drew).cell? ⟨bp,3,none⟩=some (.int .i64 0)∧(W1.drew).cell? ⟨bp,0,none⟩=some (.slice (some ⟨b,o,none⟩) L.length c)∧(W1.drew).cell? ⟨bp,1,none⟩=some (.int .i64 k)∧(W1.drew).cell? ⟨b,o+k*4,none⟩=some (.int .i64 tkn.kind)):=aZ ⟨p3,p0,p1,t0⟩;refine wp_region_held_drew (S:=fun w'=>w'.cell? ⟨bp,3,none⟩=some (.int .i64 0)∧w'.cell? ⟨bp,0,none⟩=some (.slice (some ⟨b,o,none⟩) L.length c)∧w'.cell? ⟨bp,1,none⟩=some (.int .i64 k)∧w'.cell? ⟨b,o+k*4,none⟩=some (.int .i64 tkn.kind)) (by kernel_rfl) bA.o (fun _=>?_)
    try simp only [Act.put,sq]
    refine tk 0 (.pointer (some ⟨bp,0,none⟩)) bA.o ?_;refine tk 1 (.pointer (some ⟨bp,0,none⟩)) bA.o ?_;refine tk 2 (.pointer (some ⟨bp,3,none⟩)) bA.o ?_;refine lJ 3 (.int .i64 0) (fun _ h=>h.1) bA.o ?_;refine tk 4 (.bool true) bA.o ?_;refine tk 5 (.bool true) bA.o ?_;refine tk 6 (.pointer (some ⟨bp,0,none⟩)) bA.o ?_;refine tk 7 (.pointer (some ⟨bp,0,none⟩)) bA.o ?_;refine tk 8 (.pointer (some ⟨bp,0,none⟩)) bA.o ?_;refine lJ 9 (.slice (some ⟨b,o,none⟩) L.length c) (fun _ h=>h.2.1) bA.o ?_;refine tk 10 (.pointer (some ⟨bp,0,none⟩)) bA.o ?_;refine tk 11 (.pointer (some ⟨bp,0,none⟩)) bA.o ?_;refine tk 12 (.pointer (some ⟨bp,1,none⟩)) bA.o ?_;refine lJ 13 (.int .i64 k) (fun _ h=>h.2.2.1) bA.o ?_;refine tk 14 (.pointer (some ⟨b,o+k*4,none⟩)) bA.o ?_;refine tk 15 (.pointer (some ⟨b,o+k*4,none⟩)) bA.o ?_;refine lJ 16 (.int .i64 tkn.kind) (fun _ h=>h.2.2.2) bA.o ?_;refine tk 17 (.bool false) bA.o ?_;refine tk 18 (.bool false) bA.o ?_;refine wpAnyH_done (by kernel_rfl) ?_ _;go_wp2_with fail
    go_meet
    case rel=>exact⟨false,rfl,rfl,(fun h=>by cases h),(fun _ h=>h.2 Nq.o)⟩
   ·have hkn:tkn.kind≠0:=by simpa using hkb
    have Nq:=aZ hkn;clear hkn;have bA:bN ((W1.drew).cell? ⟨bp,3,none⟩=some (.int .i64 0)∧(W1.drew).cell? ⟨bp,0,none⟩=some (.slice (some ⟨b,o,none⟩) L.length c)∧(W1.drew).cell? ⟨bp,1,none⟩=some (.int .i64 k)∧(W1.drew).cell? ⟨b,o+k*4,none⟩=some (.int .i64 tkn.kind)):=aZ ⟨p3,p0,p1,t0⟩;refine wp_region_held_drew (S:=fun w'=>w'.cell? ⟨bp,3,none⟩=some (.int .i64 0)∧w'.cell? ⟨bp,0,none⟩=some (.slice (some ⟨b,o,none⟩) L.length c)∧w'.cell? ⟨bp,1,none⟩=some (.int .i64 k)∧w'.cell? ⟨b,o+k*4,none⟩=some (.int .i64 tkn.kind)) (by kernel_rfl) bA.o (fun _=>?_)
    try simp only [Act.put,sq]
    refine tk 0 (.pointer (some ⟨bp,0,none⟩)) bA.o ?_;refine tk 1 (.pointer (some ⟨bp,0,none⟩)) bA.o ?_;refine tk 2 (.pointer (some ⟨bp,3,none⟩)) bA.o ?_;refine lJ 3 (.int .i64 0) (fun _ h=>h.1) bA.o ?_;refine tk 4 (.bool true) bA.o ?_;refine tk 5 (.bool true) bA.o ?_;refine tk 6 (.pointer (some ⟨bp,0,none⟩)) bA.o ?_;refine tk 7 (.pointer (some ⟨bp,0,none⟩)) bA.o ?_;refine tk 8 (.pointer (some ⟨bp,0,none⟩)) bA.o ?_;refine lJ 9 (.slice (some ⟨b,o,none⟩) L.length c) (fun _ h=>h.2.1) bA.o ?_;refine tk 10 (.pointer (some ⟨bp,0,none⟩)) bA.o ?_;refine tk 11 (.pointer (some ⟨bp,0,none⟩)) bA.o ?_;refine tk 12 (.pointer (some ⟨bp,1,none⟩)) bA.o ?_;refine lJ 13 (.int .i64 k) (fun _ h=>h.2.2.1) bA.o ?_;refine tk 14 (.pointer (some ⟨b,o+k*4,none⟩)) bA.o ?_;refine tk 15 (.pointer (some ⟨b,o+k*4,none⟩)) bA.o ?_;refine lJ 16 (.int .i64 tkn.kind) (fun _ h=>h.2.2.2) bA.o ?_;refine tk 17 (.bool true) bA.o ?_;refine tk 18 (.bool true) bA.o ?_;refine wpAnyH_done (by kernel_rfl) ?_ _;go_wp2_with fail
    go_meet
    case rel=>exact⟨true,rfl,rfl,(fun _=>⟨by trivial,Nq.o⟩),(fun h=>by cases h)⟩
  ·have heb:(e==0)=false:=by simp [he]
   have HEE:=aZ he;clear he;have bA:bN ((W1.drew).cell? ⟨bp,3,none⟩=some (.int .i64 e)):=aZ p3;refine wp_region_held_drew (S:=fun w'=>w'.cell? ⟨bp,3,none⟩=some (.int .i64 e)) (by kernel_rfl) bA.o (fun _=>?_)
   try simp only [Act.put,sq]
   refine tk 0 (.pointer (some ⟨bp,0,none⟩)) bA.o ?_;refine tk 1 (.pointer (some ⟨bp,0,none⟩)) bA.o ?_;refine tk 2 (.pointer (some ⟨bp,3,none⟩)) bA.o ?_;refine lJ 3 (.int .i64 e) (fun _ h=>h) bA.o ?_;refine tk 4 (.bool false) bA.o ?_;refine tk 5 (.bool false) bA.o ?_;refine jk 6 bA.o ?_;refine jk 7 bA.o ?_;refine jk 8 bA.o ?_;refine jk 9 bA.o ?_;refine jk 10 bA.o ?_;refine jk 11 bA.o ?_;refine jk 12 bA.o ?_;refine jk 13 bA.o ?_;refine jk 14 bA.o ?_;refine jk 15 bA.o ?_;refine jk 16 bA.o ?_;refine jk 17 bA.o ?_;refine tk 18 (.bool false) bA.o ?_;refine wpAnyH_done (by kernel_rfl) ?_ _;go_wp2_with fail
   go_meet
   case rel=>exact⟨false,rfl,rfl,(fun h=>by cases h),(fun _ h=>HEE.o h.1)⟩
 case rest=>
  obtain⟨r,rfl,rfl,hy,hn⟩:=hcut;have HY:=aZ hy;have HN:=aZ hn;have HD2:=aZ (jc (fun _=>False) W1);clear hy hn p0 p1 p2 p3 p4 p5 pz t0;obtain⟨W2,hW2⟩:∃W2,W1.drew=W2:=⟨_,rfl⟩
  rw [hW2]at HD2;rw [hW2];have gW:=aZ (iI.o.turn HD2.o id (fun _ _=>id));have HR2:=aZ (ah HR1.o HD2.o id);have hs2:W2.heap.size=W1.heap.size:=by rw [<-hW2];rfl
  have HT2:=aZ ((HT1.o.trans HD2.o (fun _ _ h=>h)).mono (G:=fun j=>j=bp) (fun _ _ h=>h.elim));have HFW:=aZ (HF.o W2 gW.o);clear hW2 HT1 HD2 HR1 iI HF
  have HE:bN (r=true->Ea q=KI (C9 q 7)):=aZ (fun hr=>by
   obtain⟨he,hk0⟩:=HY.o hr;cases q with
   |bad g=>exact absurd (vU.o.1.symm.trans he) vU.o.2.2.2
   |good u ts=>
    obtain⟨rfl,_⟩:=vU.o;have hk1:(aS (L.drop k)).kind≠0:=by rw [jH hk,uO.o];exact hk0
    show Ea (.good u (L.drop k))= _;unfold Ea;have e0:dB 0 (L.drop k)=.bad ((aS (L.drop k)).line,(aS (L.drop k)).col,7):=by unfold dB;rw [if_neg hk1]
    rw [jv,e0];rfl)
  have HE2:bN (r=false->Ea q=(KI q)):=aZ (fun hr=>by
   have hno:=HN.o hr;cases q with
   |bad g=>rfl
   |good u ts=>
    obtain⟨rfl,_,_,rfl,_⟩:=vU.o;have hk1:(aS (L.drop k)).kind=0:=by
     rw [jH hk,uO.o];by_cases h0:tkn.kind=0
     ·exact h0
     ·exact absurd ⟨rfl,h0⟩ hno
    unfold Ea;have e0:dB 0 (L.drop k)=.good (aS (L.drop k)).text (L.drop k):=by unfold dB;rw [if_pos hk1,if_pos rfl]
    rw [jv,e0];rfl)
  clear HY HN vU uO;cases r with
  |true=>
   go_wp2_with fail;refine(HFW.o).mono ?_;rintro e9 w3 ⟨rfl,tn,kn⟩;have HKZ:=aZ kn;have HTZ:=aZ (HT2.o.trans tn (fun _ _ h=>h));have hs3:=tn.size;have HRZ:=aZ (ah HR2.o tn (by omega));have HEQ:=aZ (HE.o (by trivial));clear tn kn HE HE2 gW HR2 HT2 HFW;obtain⟨b3,o3,c3,k3,dd3,hpb⟩:=HKZ.o.fault;rw [<-HEQ.o]at hpb;obtain⟨D,hD⟩:∃D,Ea q=D:=⟨_,rfl⟩
   rw [hD]at hpb;have HDD:=aZ hD;clear hD;obtain⟨p0,p1,p2,p3,p4,p5,pz⟩:=gu hpb;have HS:bN (w3.drew.cell? ⟨bp,4,none⟩=some (.int .i64 D.1)∧w3.drew.cell? ⟨bp,5,none⟩=some (.int .i64 D.2.1)∧w3.drew.cell? ⟨bp,3,none⟩=some (.int .i64 D.2.2)):=aZ ⟨p4,p5,p3⟩;have hrb:=HRZ.o;obtain⟨d0,d1,d2,d3,dz⟩:=aX hrb;clear p0 p1 p2 p3 p4 p5 pz hpb hrb;go_wp2_with fail;refine wp_region_held_drew (S:=fun w'=>w'.cell? ⟨bp,4,none⟩=some (.int .i64 D.1)∧w'.cell? ⟨bp,5,none⟩=some (.int .i64 D.2.1)∧w'.cell? ⟨bp,3,none⟩=some (.int .i64 D.2.2)) (by kernel_rfl) HS.o (fun _=>?_)
   try simp only [Act.put,sq]
   refine tk 0 (.pointer (some ⟨bp,0,none⟩)) HS.o ?_;refine tk 1 (.pointer (some ⟨bp,0,none⟩)) HS.o ?_;refine tk 2 (.pointer (some ⟨bp,4,none⟩)) HS.o ?_;refine lJ 3 (.int .i64 D.1) (fun _ h=>h.1) HS.o ?_;refine tk 4 (.pointer (some ⟨bp,0,none⟩)) HS.o ?_;refine tk 5 (.pointer (some ⟨bp,0,none⟩)) HS.o ?_;refine tk 6 (.pointer (some ⟨bp,5,none⟩)) HS.o ?_;refine lJ 7 (.int .i64 D.2.1) (fun _ h=>h.2.1) HS.o ?_;refine tk 8 (.pointer (some ⟨bp,0,none⟩)) HS.o ?_;refine tk 9 (.pointer (some ⟨bp,0,none⟩)) HS.o ?_;refine tk 10 (.pointer (some ⟨bp,3,none⟩)) HS.o ?_;refine lJ 11 (.int .i64 D.2.2) (fun _ h=>h.2.2) HS.o ?_;refine tk 12 (.agg #[.int .i64 0,.int .i64 D.1,.int .i64 D.2.1,.int .i64 D.2.2]) HS.o ?_;refine wpAnyH_ready (rs:=[13]) (by kernel_rfl) (by simp) ?_;refine AllReadyH.cons rfl (fun K hK=>?_) AllReadyH.nil;go_simp;have t4:=(jc (fun j=>j=w.heap.size) w3).trans (dD w3.drew w.heap.size (.int .i64 0) (.int .i64 D.1) (.int .i64 D.2.1) (.int .i64 D.2.2)) (fun _ _ h=>h);have q4:=aY (show w3.drew.heap[w.heap.size]? = _ from HRZ.o) (.int .i64 0) (.int .i64 D.1) (.int .i64 D.2.1) (.int .i64 D.2.2);have Q4:=aZ q4;have T4:=aZ t4;refine hK.out _ _ (by obtain⟨h4,h5,h3⟩:=HS.o;have tp:=dD w3.drew w.heap.size (.int .i64 0) (.int .i64 D.1) (.int .i64 D.2.1) (.int .i64 D.2.2);exact⟨aN h4 tp (by omega),aN h5 tp (by omega),aN h3 tp (by omega)⟩) (fun _=>?_);clear hK K t4 q4;refine wpAnyH_done (by kernel_rfl) ?_ _;go_wp2_with fail;refine bodyPost_ret (aM rfl rfl Q4.o Tryz.underlying45 rfl (by kernel_rfl)) rfl ?_;exact⟨by rw [HDD.o],HTZ.o.trans T4.o (fun i hi e=>by omega)⟩
  |false=>
   have HKZ:=aZ gW.o;have HTZ:=aZ HT2.o;have HRZ:=aZ HR2.o;have HEQ:=aZ (HE2.o (by trivial));clear HE HE2 gW HR2 HT2 HFW;obtain⟨b3,o3,c3,k3,dd3,hpb⟩:=HKZ.o.fault;rw [<-HEQ.o]at hpb;obtain⟨D,hD⟩:∃D,Ea q=D:=⟨_,rfl⟩
   rw [hD]at hpb;have HDD:=aZ hD;clear hD;obtain⟨p0,p1,p2,p3,p4,p5,pz⟩:=gu hpb;have HS:bN (W2.drew.cell? ⟨bp,4,none⟩=some (.int .i64 D.1)∧W2.drew.cell? ⟨bp,5,none⟩=some (.int .i64 D.2.1)∧W2.drew.cell? ⟨bp,3,none⟩=some (.int .i64 D.2.2)):=aZ ⟨p4,p5,p3⟩;have hrb:=HRZ.o;obtain⟨d0,d1,d2,d3,dz⟩:=aX hrb;clear p0 p1 p2 p3 p4 p5 pz hpb hrb;go_wp2_with fail;refine wp_region_held_drew (S:=fun w'=>w'.cell? ⟨bp,4,none⟩=some (.int .i64 D.1)∧w'.cell? ⟨bp,5,none⟩=some (.int .i64 D.2.1)∧w'.cell? ⟨bp,3,none⟩=some (.int .i64 D.2.2)) (by kernel_rfl) HS.o (fun _=>?_)
   try simp only [Act.put,sq]
   refine tk 0 (.pointer (some ⟨bp,0,none⟩)) HS.o ?_;refine tk 1 (.pointer (some ⟨bp,0,none⟩)) HS.o ?_;refine tk 2 (.pointer (some ⟨bp,4,none⟩)) HS.o ?_;refine lJ 3 (.int .i64 D.1) (fun _ h=>h.1) HS.o ?_;refine tk 4 (.pointer (some ⟨bp,0,none⟩)) HS.o ?_;refine tk 5 (.pointer (some ⟨bp,0,none⟩)) HS.o ?_;refine tk 6 (.pointer (some ⟨bp,5,none⟩)) HS.o ?_;refine lJ 7 (.int .i64 D.2.1) (fun _ h=>h.2.1) HS.o ?_;refine tk 8 (.pointer (some ⟨bp,0,none⟩)) HS.o ?_;refine tk 9 (.pointer (some ⟨bp,0,none⟩)) HS.o ?_;refine tk 10 (.pointer (some ⟨bp,3,none⟩)) HS.o ?_;refine lJ 11 (.int .i64 D.2.2) (fun _ h=>h.2.2) HS.o ?_;refine tk 12 (.agg #[.int .i64 0,.int .i64 D.1,.int .i64 D.2.1,.int .i64 D.2.2]) HS.o ?_;refine wpAnyH_ready (rs:=[13]) (by kernel_rfl) (by simp) ?_;refine AllReadyH.cons rfl (fun K hK=>?_) AllReadyH.nil;go_simp;have t4:=(jc (fun j=>j=w.heap.size) W2).trans (dD W2.drew w.heap.size (.int .i64 0) (.int .i64 D.1) (.int .i64 D.2.1) (.int .i64 D.2.2)) (fun _ _ h=>h);have q4:=aY (show W2.drew.heap[w.heap.size]? = _ from HRZ.o) (.int .i64 0) (.int .i64 D.1) (.int .i64 D.2.1) (.int .i64 D.2.2);have Q4:=aZ q4;have T4:=aZ t4;refine hK.out _ _ (by obtain⟨h4,h5,h3⟩:=HS.o;have tp:=dD W2.drew w.heap.size (.int .i64 0) (.int .i64 D.1) (.int .i64 D.2.1) (.int .i64 D.2.2);exact⟨aN h4 tp (by omega),aN h5 tp (by omega),aN h3 tp (by omega)⟩) (fun _=>?_);clear hK K t4 q4;refine wpAnyH_done (by kernel_rfl) ?_ _;go_wp2_with fail;refine bodyPost_ret (aM rfl rfl Q4.o Tryz.underlying45 rfl (by kernel_rfl)) rfl ?_;exact⟨by rw [HDD.o],HTZ.o.trans T4.o (fun i hi e=>by omega)⟩
theorem Vs {α:Type}{p:Ps α}{T:List aI}{s:Bt}(hW:dn p s=D9 (aj p (fun x=>aj (dB 0) fun _=>aF x) T)):(dn p s).2=Ea (ig (p T)):=by
 rw [hW];cases hp:p T with
 |bad g=>rw [aC hp];rfl
 |good x r=>
  rw [au hp];show(D9 (aj (dB 0) (fun _=>aF x) r)).2=KI (ig (dB 0 r));cases hk:dB 0 r with
  |bad g=>rw [aC hk];rfl
  |good a r2=>rw [au hk];rfl
theorem Vt {α:Type}{p:Ps α}{T:List aI}{s:Bt}{zero:α}(hW:dn p s=D9 (aj p (fun x=>aj (dB 0) fun _=>aF x) T))(hb:∀g,p T=.bad g->g.2.2≠0):
  ((Ea (ig (p T))).2.2=0->∀y,(∀a ts,p T=.good a ts->y=a)->vN p s zero=y)∧((Ea (ig (p T))).2.2≠0->vN p s zero=zero):=by
 unfold vN;rw [hW];cases hp:p T with
 |bad g=>
  rw [aC hp];exact⟨fun h=>absurd h (hb g hp),fun _=>rfl⟩
 |good x r=>
  rw [au hp];show((KI (ig (dB 0 r))).2.2=0->∀y,(∀a ts,Pr.good x r=.good a ts->y=a)->(D9 (aj (dB 0) (fun _=>aF x) r)).1.getD zero=y)∧((KI (ig (dB 0 r))).2.2≠0->(D9 (aj (dB 0) (fun _=>aF x) r)).1.getD zero=zero)
  cases hk:dB 0 r with
  |bad g=>
   rw [aC hk];have h7:g.2.2=7:=by
    unfold dB at hk;split at hk
    ·cases hk
    ·injection hk with hk;rw [<-hk]
   exact⟨fun h=>absurd (show g.2.2=0 from h) (by rw [h7];decide),fun _=>rfl⟩
  |good a r2=>
   rw [au hk];exact⟨fun _ y hy=>(hy x r rfl).symm,fun h=>absurd rfl h⟩
theorem eF.aoe {w:World}{bp B:Nat}{L:List aI}{d:Int}{g:CS}(h:eF w bp B L d (.bad g)):g.2.2≠0:=by
 obtain⟨_,_,_,_,_,_,_,_,_,_,_,_,_,hrel⟩:=h;exact hrel.2.2.2
theorem asO {F:Nat->Prop}{w:World}{b:Nat}{v0 v1 v2 v3 v4 v5 v6 v7:Value}{T:TypeId}(h:w.heap[b]? =some (.cells #[v0,v1,v2,v3,v4,v5,v6,v7] T (0,0)))(hn:¬F b):∀w',Turn F w w'->w'.cell? ⟨b,0,none⟩=some v0∧w'.cell? ⟨b,1,none⟩=some v1∧w'.cell? ⟨b,2,none⟩=some v2∧w'.cell? ⟨b,3,none⟩=some v3∧w'.cell? ⟨b,4,none⟩=some v4∧w'.cell? ⟨b,5,none⟩=some v5∧w'.cell? ⟨b,6,none⟩=some v6∧w'.cell? ⟨b,7,none⟩=some v7:=fun w' t=>by
 obtain⟨h0,h1,h2,h3,h4,h5,h6,h7,_⟩:=aD (ah h t hn);exact⟨h0,h1,h2,h3,h4,h5,h6,h7⟩
theorem NZ (w:World)(s:Bt):Calls Tryz.prog 22 #[sv s] w fun e w'=>Below w.heap.size w w'∧∃z:List Value,e=.returned (.tuple #[.agg z.toArray,vZ (dn (cB 100).expr s).2])∧qd w' (fun j=>w.heap.size<=j) z (vN (cB 100).expr s rR):=by
 obtain⟨W0,hW0⟩:∃W0,(w.alloc (.cells #[.int .i64 0,.string ⟨#[]⟩,.int .i64 0,.int .i64 0,.int .i64 0,.slice none 0 0,.slice none 0 0,.slice none 0 0] 52)).alloc (.cells #[.int .i64 0,.int .i64 0,.int .i64 0,.int .i64 0] 45)=W0:=⟨_,rfl⟩
 obtain⟨_,_,hx0,hd0⟩:=iJ (G:=fun _=>False) (Turn.refl _ ((w.alloc (.cells #[.int .i64 0,.string ⟨#[]⟩,.int .i64 0,.int .i64 0,.int .i64 0,.slice none 0 0,.slice none 0 0,.slice none 0 0] 52)).alloc (.cells #[.int .i64 0,.int .i64 0,.int .i64 0,.int .i64 0] 45)));have hs0:W0.heap.size=w.heap.size+2:=by rw [<-hW0];simp
 have hb0:Below w.heap.size w W0:=by rw [<-hW0];exact new2 _ _ _
 rw [hW0]at hx0 hd0;have HX0:=aZ (hx0 id);have HD0:=aZ (hd0 id);have HB0:=aZ hb0;have HL:=aZ (QM W0 s);have HW0:=aZ hW0;have uO:=aZ (Bu (s:=s));have HWO:=aZ (fun T (h:fQ s=(T,((0,0,0):Nat ×Nat ×Int)))=>xZ (p:=(cB 100).expr) h);have vO:bN ((fQ s).2.2.2≠0->(dn (cB 100).expr s).2=(fQ s).2∧vN (cB 100).expr s rR=rR):=aZ (fun h=>by unfold vN dn;rw [if_neg h];exact⟨rfl,rfl⟩);have vS:=aZ (Br (s:=s));obtain⟨Dg,yx⟩:∃Dg,(dn (cB 100).expr s).2=Dg:=⟨_,rfl⟩
 obtain⟨V,hV⟩:∃V,vN (cB 100).expr s rR=V:=⟨_,rfl⟩
 obtain⟨L,D,hLD⟩:∃L D,fQ s=(L,D):=⟨_,_,rfl⟩
 rw [hLD]at HL uO vO vS;rw [hV]at vO;rw [yx,hV];have aof:=aZ yx;have HV:=aZ hV;have HLD:=aZ hLD;clear hx0 hd0 hb0 hW0 yx hV hLD;go_enter Tryz.func22,Tryz.ntmps22;go_wp2_with fail;rw [HW0.o];refine(HL.o).mono ?_;rintro e w1 ⟨hb1,bp,aym,ayn,rfl,hrp⟩;have hs1:=hb1.size;rw [show vZ D=.agg #[.int .i64 0,.int .i64 D.1,.int .i64 D.2.1,.int .i64 D.2.2]from rfl];obtain⟨W1,hW1⟩:∃W1,w1.alloc (.cells #[.int .i64 0,.int .i64 D.1,.int .i64 D.2.1,.int .i64 D.2.2] 45)=W1:=⟨_,rfl⟩
 have hbw:Below w1.heap.size w1 W1:=by rw [<-hW1];exact new1 _ _
 have hx1:W1.heap[w1.heap.size]? =some (.cells #[.int .i64 0,.int .i64 D.1,.int .i64 D.2.1,.int .i64 D.2.2] 45 (0,0)):=by rw [<-hW1];exact wJ w1 _
 have hsW:W1.heap.size=w1.heap.size+1:=by rw [<-hW1];simp
 have hb2:=hb1.trans (hbw.mono hs1);have uE:=aZ ((hb2.block w.heap.size (by omega)).trans HX0.o);have HD1:=aZ ((hb2.block (w.heap.size+1) (by omega)).trans HD0.o);have HB1:=aZ (HB0.o.trans (hb2.mono (by omega)));have HE1:=aZ hx1;have HRP:=aZ (fun h=>(hrp h).below hbw);have HW1:=aZ hW1;obtain⟨d0,d1,d2,d3,dz⟩:=aX hx1;clear hb1 hrp hbw hx1 hb2 hW1;by_cases h0:D.2.2=0
 ·have hne:(D.2.2 != 0)=false:=by simp [h0]
  have hz:=vS.o h0;obtain rfl:D=(0,0,0):=hz;have HWH:=aZ (HWO.o L HLD.o);have JC:=aZ (Vs (p:=(cB 100).expr) (HWO.o L HLD.o));have HWV:=aZ (Vt (p:=(cB 100).expr) (zero:=rR) (HWO.o L HLD.o));rw [aof.o]at JC;rw [HV.o]at HWV;have aoh:=aZ (HRP.o rfl);have hc:=(GI 100 (by omega)).1 W1 bp bp L _ aoh.o;rw [<-HW1.o]at hc;have HC:=aZ hc;clear hc;clear h0 vO vS uO HRP HWO;go_wp2_with fail;refine(HC.o).mono ?_;rintro e w2 ⟨tn,v2,y,rfl,⟨z,rfl,hz⟩,hxx,kn⟩;rw [HW1.o]at tn hz;obtain⟨k,s,m,l,o,Aa,na,ca,Ab,nb,cb,Ac,nc,cc,rfl⟩:=hz.shape';have hs2:=tn.size;obtain⟨q2,hq2⟩:∃q2,ig (aA (.good () L) (cB 100).expr)=q2:=⟨_,rfl⟩
  rw [hq2]at kn;have jI:=aZ (show ig ((cB 100).expr L)=q2 from hq2);have HXX:=aZ (fun a ts (h:(cB 100).expr L=.good a ts)=>hxx a ts h);have Tv:=aZ (ah uE.o tn (by omega));have HD2:=aZ (ah HD1.o tn (by omega));have HE2:=aZ (ah HE1.o tn (by omega));have HB2:=aZ (HB1.o.trans (tn.below (B:=w.heap.size) (by omega) (fun k hk e=>by omega)));have gW:=aZ kn;have HZ2:=aZ hz;obtain⟨W2,hW2⟩:∃W2,w2.alloc (.cells #[.int .i64 k,sv s,.int .i64 m,.int .i64 l,.int .i64 o,.slice Aa na ca,.slice Ab nb cb,.slice Ac nc cc] 52)=W2:=⟨_,rfl⟩
  have t2:Turn (fun _=>False) w2 W2:=by rw [<-hW2];exact Turn.alloc _ _ _
  have hx2:W2.heap[w2.heap.size]? =some (.cells #[.int .i64 k,sv s,.int .i64 m,.int .i64 l,.int .i64 o,.slice Aa na ca,.slice Ab nb cb,.slice Ac nc cc] 52 (0,0)):=by rw [<-hW2];exact wJ w2 _
  have aoi:W2.heap.size=w2.heap.size+1:=by rw [<-hW2];simp
  have HX3:=aZ (ah Tv.o t2 id);have HD3:=aZ (ah HD2.o t2 id);have HE3:=aZ (ah HE2.o t2 id);have HB3:=aZ (HB2.o.trans (t2.below (B:=w.heap.size) (by omega) (fun k hk e=>e)));have HT3:=aZ hx2;have HZ3:=aZ (HZ2.o.turn t2 (fun _ _ _=>id));have HN:=aZ (aax W2 bp bp L _ q2 (gW.o.turn t2 id (fun _ _=>id)));have HW2:=aZ hW2
  have sI:bN (∀g,(cB 100).expr L=.bad g->g.2.2≠0):=aZ (fun g hg=>by
   have h:=gW.o;have e:q2=.bad g:=by rw [<-jI.o,hg];rfl
   rw [e]at h;exact h.aoe)
  clear tn hz kn hxx hq2 t2 hx2 hW2 d0 d1 d2 d3 dz uE HD1 HE1 HB1 aoh Tv HD2 HE2 HB2 HC gW HZ2;go_wp2_with fail;rw [HW2.o];refine(HN.o).mono ?_;rintro e w3 ⟨rfl,tn⟩;rw [jI.o]at JC HWV;obtain⟨E,hE⟩:∃E,Ea q2=E:=⟨_,rfl⟩
  rw [hE]at JC HWV;rw [hE];obtain rfl:Dg=E:=JC.o;have hs3:=tn.size;have Fp:=aZ (ah HX3.o tn (by omega));have HD4:=aZ (ah HD3.o tn (by omega));have hdd:=ah HE3.o tn (by omega);have fD:=aZ (ah HT3.o tn (by omega));have Bl:=aZ (HB3.o.trans (tn.below (B:=w.heap.size) (by omega) (fun k hk e=>by omega)));have BA:=aZ (HZ3.o.turn tn (fun g _ h e=>by have h:=h;omega));obtain⟨d0,d1,d2,d3,dz⟩:=aX hdd;have dl:=block_lt hdd;obtain⟨W3,hW3,hb3,t3,Ym⟩:=Pt (.int .i64 0) (.int .i64 Dg.1) (.int .i64 Dg.2.1) (.int .i64 Dg.2.2) hdd;simp only [dK]at hW3;have HE5:=aZ hb3;have yM:=aZ (ah Fp.o t3 (by omega));have HD5:=aZ (ah HD4.o t3 (by omega));have fG:=aZ (ah fD.o t3 (by omega));have Kv:=aZ (Bl.o.trans (t3.below (B:=w.heap.size) (by omega) (fun k hk e=>by omega)));have Bz:=aZ (BA.o.turn t3 (fun g _ h e=>by have h:=h;omega));have HW3:=aZ hW3;clear tn hE hdd hb3 t3 hW3 HX3 HD3 HE3 HT3 HB3 HZ3 HN Fp HD4 fD Bl BA;rw [show vZ Dg=.agg #[.int .i64 0,.int .i64 Dg.1,.int .i64 Dg.2.1,.int .i64 Dg.2.2]from rfl]
  go_upto_region 6 with(fail)
  have hW:=HW3.o;rw [hW];clear hW d0 d1 d2 d3 dz dl;have he5:=HE5.o;obtain⟨d0,d1,d2,d3,dz⟩:=aX he5;clear he5;by_cases h5:Dg.2.2=0
  ·have hne5:(Dg.2.2 != 0)=false:=by simp [h5]
   have hv:=(HWV.o sI.o).1 h5 y HXX.o;subst hv;clear h5;obtain⟨x0,x1,x2,x3,x4,x5,x6,x7,xz⟩:=aD yM.o;obtain⟨y0,y1,y2,y3,yz⟩:=aX HD5.o;have xl:=block_lt yM.o;have yl:=block_lt HD5.o;have bA:bN (Turn (fun j=>j=w.heap.size∨j=w.heap.size+1) W3 W3.drew):=aZ (jc _ _);go_wp2_with fail;refine wp_region_held_drew (S:=fun w'=>Turn (fun j=>j=w.heap.size∨j=w.heap.size+1) W3 w') (by kernel_rfl) bA.o (fun _=>?_)
   try simp only [Act.put,sq]
   refine lJ 0 (.agg #[.int .i64 k,sv s,.int .i64 m,.int .i64 l,.int .i64 o,.slice Aa na ca,.slice Ab nb cb,.slice Ac nc cc]) (asO fG.o (by omega)) bA.o ?_;refine lJ 1 (.agg #[.int .i64 0,.int .i64 Dg.1,.int .i64 Dg.2.1,.int .i64 Dg.2.2]) (ac6 HE5.o (by omega)) bA.o ?_;refine wpAnyH_ready (rs:=[2]) (by kernel_rfl) (by simp) ?_;refine AllReadyH.cons rfl (fun K hK=>?_) AllReadyH.nil;go_simp;obtain⟨Wa0,GZ,N7,ta0,aoj⟩:=uD (w:=W3) (b:=w.heap.size) (.int .i64 k) (sv s) (.int .i64 m) (.int .i64 l) (.int .i64 o) (.slice Aa na ca) (.slice Ab nb cb) (.slice Ac nc cc) yM.o;simp only [dK,yg]at GZ;rw [GZ];obtain⟨Wa,hWa⟩:∃Wa,Wa0.drew=Wa:=⟨_,rfl⟩
   rw [hWa];have hba:=N7;rw [show Wa0.heap=Wa.heap by rw [<-hWa];rfl]at hba;have ta:=ta0.trans (jc _ _) (fun _ _ h=>h);rw [hWa]at ta;have Cn:=aZ hba;have hda:=ah HD5.o ta (by omega);have HDA:=aZ hda;have EB:=aZ (ta.mono (G:=fun j=>j=w.heap.size∨j=w.heap.size+1) (fun _ _ h=>.inl h));refine hK.out _ _ EB.o (fun _=>?_);clear hK K hWa ta hba N7 ta0 GZ x0 x1 x2 x3 x4 x5 x6 x7 xz xl;obtain⟨y0,y1,y2,y3,yz⟩:=aX hda;have yl:=block_lt hda;clear hda
   try simp only [Act.put,sq]
   refine wpAnyH_ready (rs:=[3]) (by kernel_rfl) (by simp) ?_;refine AllReadyH.cons rfl (fun K hK=>?_) AllReadyH.nil;go_simp;obtain⟨Wb,hWb,hbb,tb,hsb⟩:=Pt (w:=Wa) (b:=w.heap.size+1) (.int .i64 0) (.int .i64 Dg.1) (.int .i64 Dg.2.1) (.int .i64 Dg.2.2) HDA.o;simp only [dK]at hWb;rw [hWb];have yF:=aZ hbb;have HBC:=aZ (ah Cn.o tb (by omega));have mg:=aZ (EB.o.trans tb (fun _ _ h=>.inr h));refine hK.out _ _ mg.o (fun _=>?_);clear hK K hWb tb hbb y0 y1 y2 y3 yz yl;refine wpAnyH_done (by kernel_rfl) ?_ _;go_wp2_with fail;refine bodyPost_ret (dH rfl rfl rfl HBC.o yF.o Tryz.underlying52 rfl (by kernel_rfl) Tryz.underlying45 rfl (by kernel_rfl)) rfl ?_;exact⟨Kv.o.trans (mg.o.below (B:=w.heap.size) (by omega) (fun k hk e=>by omega)),_,rfl,(Bz.o.turn mg.o (fun g _ h e=>by have h:=h;omega)).mono (fun g _ h=>by have h:=h;omega)⟩
  ·have hne5:(Dg.2.2 != 0)=true:=by simp [h5]
   have hv:=(HWV.o sI.o).2 h5;subst hv;clear h5;obtain⟨x0,x1,x2,x3,x4,x5,x6,x7,xz⟩:=aD yM.o;obtain⟨y0,y1,y2,y3,yz⟩:=aX HD5.o;have xl:=block_lt yM.o;have yl:=block_lt HD5.o;have bA:bN (Turn (fun j=>j=w.heap.size∨j=w.heap.size+1) W3 W3.drew):=aZ (jc _ _);go_wp2_with fail;refine wp_region_held_drew (S:=fun w'=>Turn (fun j=>j=w.heap.size∨j=w.heap.size+1) W3 w') (by kernel_rfl) bA.o (fun _=>?_)
   try simp only [Act.put,sq]
   refine tk 0 (.agg #[.int .i64 0,.string ⟨#[]⟩,.int .i64 0,.int .i64 0,.int .i64 0,.slice none 0 0,.slice none 0 0,.slice none 0 0]) bA.o ?_;refine lJ 1 (.agg #[.int .i64 0,.int .i64 Dg.1,.int .i64 Dg.2.1,.int .i64 Dg.2.2]) (ac6 HE5.o (by omega)) bA.o ?_;refine wpAnyH_ready (rs:=[2]) (by kernel_rfl) (by simp) ?_;refine AllReadyH.cons rfl (fun K hK=>?_) AllReadyH.nil;go_simp;obtain⟨Wa0,GZ,N7,ta0,aoj⟩:=uD (w:=W3) (b:=w.heap.size) (.int .i64 0) (.string ⟨#[]⟩) (.int .i64 0) (.int .i64 0) (.int .i64 0) (.slice none 0 0) (.slice none 0 0) (.slice none 0 0) yM.o;simp only [dK,yg]at GZ;rw [GZ];obtain⟨Wa,hWa⟩:∃Wa,Wa0.drew=Wa:=⟨_,rfl⟩
   rw [hWa];have hba:=N7;rw [show Wa0.heap=Wa.heap by rw [<-hWa];rfl]at hba;have ta:=ta0.trans (jc _ _) (fun _ _ h=>h);rw [hWa]at ta;have Cn:=aZ hba;have hda:=ah HD5.o ta (by omega);have HDA:=aZ hda;have EB:=aZ (ta.mono (G:=fun j=>j=w.heap.size∨j=w.heap.size+1) (fun _ _ h=>.inl h));refine hK.out _ _ EB.o (fun _=>?_);clear hK K hWa ta hba N7 ta0 GZ x0 x1 x2 x3 x4 x5 x6 x7 xz xl;obtain⟨y0,y1,y2,y3,yz⟩:=aX hda;have yl:=block_lt hda;clear hda
   try simp only [Act.put,sq]
   refine wpAnyH_ready (rs:=[3]) (by kernel_rfl) (by simp) ?_;refine AllReadyH.cons rfl (fun K hK=>?_) AllReadyH.nil;go_simp;obtain⟨Wb,hWb,hbb,tb,hsb⟩:=Pt (w:=Wa) (b:=w.heap.size+1) (.int .i64 0) (.int .i64 Dg.1) (.int .i64 Dg.2.1) (.int .i64 Dg.2.2) HDA.o;simp only [dK]at hWb;rw [hWb];have yF:=aZ hbb;have HBC:=aZ (ah Cn.o tb (by omega));have mg:=aZ (EB.o.trans tb (fun _ _ h=>.inr h));refine hK.out _ _ mg.o (fun _=>?_);clear hK K hWb tb hbb y0 y1 y2 y3 yz yl;refine wpAnyH_done (by kernel_rfl) ?_ _;go_wp2_with fail;refine bodyPost_ret (dH rfl rfl rfl HBC.o yF.o Tryz.underlying52 rfl (by kernel_rfl) Tryz.underlying45 rfl (by kernel_rfl)) rfl ?_;exact⟨Kv.o.trans (mg.o.below (B:=w.heap.size) (by omega) (fun k hk e=>by omega)),_,rfl,.mk (cO.nil _ _ _) .nil (cO.nil _ _ _) (cO.nil _ _ _) .nil⟩
 ·have hne:(D.2.2 != 0)=true:=by simp [h0]
  obtain⟨hw1,hw2⟩:=vO.o h0;rw [aof.o]at hw1;subst hw1 hw2;clear h0;obtain⟨x0,x1,x2,x3,x4,x5,x6,x7,xz⟩:=aD uE.o;obtain⟨y0,y1,y2,y3,yz⟩:=aX HD1.o;have xl:=block_lt uE.o;have yl:=block_lt HD1.o;have bA:bN (Turn (fun j=>j=w.heap.size∨j=w.heap.size+1) W1 W1.drew):=aZ (jc _ _);go_wp2_with fail
  try rw [HW1.o]
  refine wp_region_held_drew (S:=fun w'=>Turn (fun j=>j=w.heap.size∨j=w.heap.size+1) W1 w') (by kernel_rfl) bA.o (fun _=>?_)
  try simp only [Act.put,sq]
  refine tk 0 (.agg #[.int .i64 0,.string ⟨#[]⟩,.int .i64 0,.int .i64 0,.int .i64 0,.slice none 0 0,.slice none 0 0,.slice none 0 0]) bA.o ?_;refine lJ 1 (.agg #[.int .i64 0,.int .i64 Dg.1,.int .i64 Dg.2.1,.int .i64 Dg.2.2]) (ac6 HE1.o (by omega)) bA.o ?_;refine wpAnyH_ready (rs:=[2]) (by kernel_rfl) (by simp) ?_;refine AllReadyH.cons rfl (fun K hK=>?_) AllReadyH.nil;go_simp;obtain⟨Wa0,GZ,N7,ta0,aoj⟩:=uD (w:=W1) (b:=w.heap.size) (.int .i64 0) (.string ⟨#[]⟩) (.int .i64 0) (.int .i64 0) (.int .i64 0) (.slice none 0 0) (.slice none 0 0) (.slice none 0 0) uE.o;simp only [dK,yg]at GZ;rw [GZ];obtain⟨Wa,hWa⟩:∃Wa,Wa0.drew=Wa:=⟨_,rfl⟩
  rw [hWa];have hba:=N7;rw [show Wa0.heap=Wa.heap by rw [<-hWa];rfl]at hba;have ta:=ta0.trans (jc _ _) (fun _ _ h=>h);rw [hWa]at ta;have Cn:=aZ hba;have hda:=ah HD1.o ta (by omega);have HDA:=aZ hda;have EB:=aZ (ta.mono (G:=fun j=>j=w.heap.size∨j=w.heap.size+1) (fun _ _ h=>.inl h));refine hK.out _ _ EB.o (fun _=>?_);clear hK K hWa ta hba N7 ta0 GZ x0 x1 x2 x3 x4 x5 x6 x7 xz xl;obtain⟨y0,y1,y2,y3,yz⟩:=aX hda;have yl:=block_lt hda;clear hda
  try simp only [Act.put,sq]
  refine wpAnyH_ready (rs:=[3]) (by kernel_rfl) (by simp) ?_;refine AllReadyH.cons rfl (fun K hK=>?_) AllReadyH.nil;go_simp;obtain⟨Wb,hWb,hbb,tb,hsb⟩:=Pt (w:=Wa) (b:=w.heap.size+1) (.int .i64 0) (.int .i64 Dg.1) (.int .i64 Dg.2.1) (.int .i64 Dg.2.2) HDA.o;simp only [dK]at hWb;rw [hWb];have yF:=aZ hbb;have HBC:=aZ (ah Cn.o tb (by omega));have mg:=aZ (EB.o.trans tb (fun _ _ h=>.inr h));refine hK.out _ _ mg.o (fun _=>?_);clear hK K hWb tb hbb y0 y1 y2 y3 yz yl;refine wpAnyH_done (by kernel_rfl) ?_ _;go_wp2_with fail;refine bodyPost_ret (dH rfl rfl rfl HBC.o yF.o Tryz.underlying52 rfl (by kernel_rfl) Tryz.underlying45 rfl (by kernel_rfl)) rfl ?_;exact⟨HB1.o.trans (mg.o.below (B:=w.heap.size) (by omega) (fun k hk e=>by omega)),_,rfl,.mk (cO.nil _ _ _) .nil (cO.nil _ _ _) (cO.nil _ _ _) .nil⟩
end Go.Proofs.YtfgjkmipfikooaaGreatDoor
