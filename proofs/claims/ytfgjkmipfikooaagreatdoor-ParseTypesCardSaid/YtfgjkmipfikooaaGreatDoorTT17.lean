/- IJ, IK, IL -/
import Derived.Test.YtfgjkmipfikooaaGreatDoorTTQ
import Derived.Test.YtfgjkmipfikooaaGreatDoorTT11
import Derived.Test.YtfgjkmipfikooaaGreatDoorTT10
import Derived.Test.YtfgjkmipfikooaaGreatDoorTT13
import Derived.Test.YtfgjkmipfikooaaGreatDoorTT14
import Derived.Test.YtfgjkmipfikooaaGreatDoorTT16
set_option linter.unusedSimpArgs false
set_option linter.unusedVariables false
set_option maxRecDepth 100000
set_option maxHeartbeats 8000000
namespace Go.Proofs.YtfgjkmipfikooaaGreatDoor
open Go.RowKit
theorem gU (F:Nat→Prop) (w:World):Turn F w w.drew:=⟨rfl,rfl,rfl,Nat.le_refl _,fun _ _ _=>rfl⟩
theorem NH {F:Nat→Prop} {w:World} {b:Nat} {v0 v1 v2 v3:Value} {T:TypeId} (h:w.heap[b]? =some (.cells #[v0,v1,v2,v3] T (0,0))) (hn:¬F b):∀w',Turn F w w'→w'.cell? ⟨b,0,none⟩=some v0∧w'.cell? ⟨b,1,none⟩=some v1∧w'.cell? ⟨b,2,none⟩=some v2∧w'.cell? ⟨b,3,none⟩=some v3:=fun w' t=>by
 obtain⟨h0,h1,h2,h3, _⟩:=aP (ah h t hn);exact⟨h0,h1,h2,h3⟩
theorem Hf (w:World) (s:Bt):Calls Tryz.prog 46 #[sv s] w fun e w'=>Below w.heap.size w w'∧∃bp,w.heap.size≤bp∧bp<w'.heap.size∧e= .returned (.tuple #[.pointer (some ⟨bp,0,none⟩),pR (eZ s).2])∧
  ((eZ s).2.2.2=0→eX w' bp bp (eZ s).1 0 (.good () (eZ s).1)):=by
 obtain⟨W0,hW0⟩:∃W0,w.alloc (.cells #[.int .i64 0, .int .i64 0, .int .i64 0, .int .i64 0] 45)=W0:=⟨_,rfl⟩
 have hb0:Below w.heap.size w W0:=by rw [←hW0];exact new1 _ _
 have hd0:W0.heap[w.heap.size]? =some (.cells #[.int .i64 0, .int .i64 0, .int .i64 0, .int .i64 0] 45 (0,0)):=by rw [←hW0];exact qR w _
 have hs0:W0.heap.size=w.heap.size+1:=by rw [←hW0];simp
 have HL:=hid (Ni W0 s);have HB0:=hid hb0;have HD0:=hid hd0;have HW0:=hid hW0;have uD:=hid (uS (s:=s));obtain⟨L,D,Vg⟩:∃L D,eZ s=(L,D):=⟨_, _,rfl⟩
 rw [Vg]at HL uD;rw [Vg];clear hb0 hd0 hW0 Vg;go_enter Tryz.func46,Tryz.ntmps46;go_wp2_with fail;rw [HW0.out];refine(HL.out).mono ?_;rintro e w1 ⟨v1,n1,rfl,hown,hb1⟩;obtain⟨A1,c1,rfl, _, _⟩:=iy hown;have hs1:=hb1.size;obtain⟨W1,hW1⟩:∃W1,w1.alloc (.cells #[.int .i64 0, .int .i64 D.1, .int .i64 D.2.1, .int .i64 D.2.2] 45)=W1:=⟨_,rfl⟩
 have hbw:Below w1.heap.size w1 W1:=by rw [←hW1];exact new1 _ _
 have hx1:W1.heap[w1.heap.size]? =some (.cells #[.int .i64 0, .int .i64 D.1, .int .i64 D.2.1, .int .i64 D.2.2] 45 (0,0)):=by rw [←hW1];exact qR w1 _
 have ZH:W1.heap.size=w1.heap.size+1:=by rw [←hW1];simp
 have hd1:=((hb1.trans (hbw.mono hs1)).block w.heap.size (by omega)).trans HD0.out;have HB1:=hid (HB0.out.trans ((hb1.trans (hbw.mono hs1)).mono (by omega)));have HD1:=hid hd1;have nZ:=hid hx1;have HOWN:=hid hown;have jY:=hid hbw
 have FIN:Hid (∀Wf:World,Turn (fun j=>j=w.heap.size) W1 Wf→Wf.heap[W1.heap.size]? =some (.cells #[.slice A1 n1 c1, .int .i64 0, .int .i64 0, .int .i64 0, .int .i64 0, .int .i64 0] 159 (0,0))→Below w.heap.size w Wf∧(D.2.2=0→eX Wf W1.heap.size W1.heap.size L 0 (.good () L))):=hid (fun Wf t hp=>by
  refine⟨HB1.out.trans (t.below (B:=w.heap.size) (by omega) (fun k hk e=>by omega)),fun h0=> ?_⟩;obtain⟨htk,hwf⟩:=uD.out h0;have tt:Turn (fun j=>j=w.heap.size) w1 Wf:=(Turn.of_below (F:=fun j=>j=w.heap.size) jY.out).trans t (fun _ _ h=>h);have hsl:Sl Wf W1.heap.size 4 (.slice A1 n1 c1) (bU L):=((dB.own (F:=fun j=>W0.heap.size≤j∧j<w1.heap.size) HOWN.out (fun g hg=>HOWN.out.lt g hg)).turn tt (fun g _ h e=>by have:=h.1;omega)).to (fun g _ h=>by have:=h.2;omega);exact⟨Nat.le_refl _,htk,hwf, .slice A1 n1 c1,0,0,0,0,0,hp,hsl,hwf.pos,by unfold In64;omega,rfl,hwf,rfl,rfl,rfl,rfl⟩)
 rw [show wz D= .agg #[.int .i64 0, .int .i64 D.1, .int .i64 D.2.1, .int .i64 D.2.2]from rfl];have fT:Hid (Turn (fun j=>j=w.heap.size) W1 W1.drew):=hid (gU _ _);have HKP:=hid (NH (F:=fun j=>j=w.heap.size) hx1 (by omega));clear hb1 hown hbw hx1 hd1;go_wp2_with fail;refine wp_region_held_drew (S:=fun w'=>Turn (fun j=>j=w.heap.size) W1 w') (by kernel_rfl) fT.out (fun _=> ?_)
 try simp only [Act.put,sq]
 refine tk 0 (.slice A1 n1 c1) fT.out ?_;refine tk 1 (.agg #[.slice A1 n1 c1, .int .i64 0, .int .i64 0, .int .i64 0, .int .i64 0, .int .i64 0]) fT.out ?_;refine oH 3 (.agg #[.int .i64 0, .int .i64 D.1, .int .i64 D.2.1, .int .i64 D.2.2]) HKP.out fT.out ?_;refine wpAnyH_ready (rs:=[2]) (by kernel_rfl) (by simp) ?_;refine AllReadyH.cons rfl (fun K hK=> ?_) AllReadyH.nil;go_simp;obtain⟨W2,hW2⟩:∃W2,(W1.alloc (.cells #[.slice A1 n1 c1, .int .i64 0, .int .i64 0, .int .i64 0, .int .i64 0, .int .i64 0] 159)).drew=W2:=⟨_,rfl⟩
 have t2:Turn (fun j=>j=w.heap.size) W1 W2:=by rw [←hW2];exact(Turn.alloc _ _ _).trans (gU _ _) (fun _ _ h=>h)
 have hp2:W2.heap[W1.heap.size]? =some (.cells #[.slice A1 n1 c1, .int .i64 0, .int .i64 0, .int .i64 0, .int .i64 0, .int .i64 0] 159 (0,0)):=by rw [←hW2,show ∀X:World,X.drew.heap=X.heap from fun _=>rfl];exact qR W1 _
 rw [hW2];have HT2:=hid t2;have FE:=hid hp2;have HS2:=hid (show Turn (fun j=>j=w.heap.size) W1 W2 from t2);have hd2:W2.heap[w.heap.size]? =some (.cells #[.int .i64 0, .int .i64 0, .int .i64 0, .int .i64 0] 45 (0,0)):=by rw [←hW2,show ∀X:World,X.drew.heap=X.heap from fun _=>rfl];exact bG HD1.out
 have HD2:=hid hd2;clear hW2 t2 hp2;refine hK.out _ _ HS2.out (fun _=> ?_);clear hK K
 try simp only [Act.put,sq]
 refine tk 4 (.pointer (some ⟨w1.heap.size+1,0,none⟩)) HS2.out ?_;refine wpAnyH_ready (rs:=[5]) (by kernel_rfl) (by simp) ?_;refine AllReadyH.cons rfl (fun K hK=> ?_) AllReadyH.nil;obtain⟨d0,d1,d2,d3,dz⟩:=aP hd2;go_simp;have t3:=HT2.out.trans (bW W2 w.heap.size (.int .i64 0) (.int .i64 D.1) (.int .i64 D.2.1) (.int .i64 D.2.2)) (fun _ _ h=>h);have p3:=ah FE.out (bW W2 w.heap.size (.int .i64 0) (.int .i64 D.1) (.int .i64 D.2.1) (.int .i64 D.2.2)) (by omega);have q3:=aU HD2.out (.int .i64 0) (.int .i64 D.1) (.int .i64 D.2.1) (.int .i64 D.2.2);obtain⟨f1,f2⟩:=FIN.out _ t3 p3;have F1:=hid f1;have F2:=hid f2;have Q3:=hid q3;have P3:=hid p3;refine hK.out _ _ t3 (fun _=> ?_);clear hK K t3 p3 q3 f1 f2;refine wpAnyH_done (by kernel_rfl) ?_ _;go_wp2_with fail;refine bodyPost_ret (dW rfl _ _ w.heap.size _ _ _ _ rfl Q3.out Tryz.underlying45 rfl (by kernel_rfl)) rfl ?_;exact⟨F1.out,W1.heap.size,by omega,block_lt P3.out,by rw [ZH];rfl,F2.out⟩
def Cy (q:Pr Unit):vZ:=match q with
 | .good _ _=>(0,0,0)
 | .bad g=>g
def xD (q:Pr Unit):vZ:=Cy (oF (aX q (dw 0)))
theorem eX.fault {w:World} {bp B:Nat} {L:List aD} {d:Int} {q:Pr Unit} (h:eX w bp B L d q):∃(b o c k:Nat) (dd:Int),w.heap[bp]? =some (.cells #[.slice (some ⟨b,o,none⟩) L.length c, .int .i64 k, .int .i64 dd, .int .i64 (Cy q).2.2, .int .i64 (((Cy q).1:Nat):Int), .int .i64 (((Cy q).2.1:Nat):Int)] 159 (0,0)):=by
 obtain⟨b,o,c,k,dd,e,ln,cn,hk,hlc,hc63,Il,hdd,hrel,hblk, _⟩:=h.open_;cases q with
 | bad g=>
  obtain⟨rfl,rfl,rfl, _⟩:=hrel;exact⟨b,o,c,k,dd,hblk⟩
 | good u ts=>
  obtain⟨_, _, _,rfl,rfl,rfl⟩:=hrel;exact⟨b,o,c,k,dd,hblk⟩
theorem NI (w:World) (bp B:Nat) (L:List aD) (d:Int) (q:Pr Unit) (h:eX w bp B L d q):Calls Tryz.prog 48 #[.pointer (some ⟨bp,0,none⟩)] w fun e w'=>e= .returned (pR (xD q))∧Turn (fun j=>j=bp) w w':=by
 have hlt:=h.lt;obtain⟨W1,hW1⟩:∃W1,w.alloc (.cells #[.int .i64 0, .int .i64 0, .int .i64 0, .int .i64 0] 45)=W1:=⟨_,rfl⟩
 have tn:Turn (fun _=>False) w W1:=by rw [←hW1];exact Turn.alloc _ _ _
 have hs1:W1.heap.size=w.heap.size+1:=by rw [←hW1];simp
 have hr1:W1.heap[w.heap.size]? =some (.cells #[.int .i64 0, .int .i64 0, .int .i64 0, .int .i64 0] 45 (0,0)):=by rw [←hW1];exact qR w _
 have hk1:=h.turn tn id (fun _ _=>id);have HT1:=hid tn;have HR1:=hid hr1;have jP:=hid hk1;have HF:=hid (fun w1 h1=>qK w1 bp B L d q h1 7 (by decide));have HW1:=hid hW1;obtain⟨b,o,c,k,dd,e,ln,cn,hk,hlc,hc63,Il,hdd,hrel,hblk,t0,t1,t2,t3⟩:=hk1.open_;obtain⟨p0,p1,p2,p3,p4,p5,pz⟩:=iN hblk;have hki:(k:Int)<L.length:=by omega
 obtain⟨tkn,htk⟩:∃tkn,L[k]=tkn:=⟨_,rfl⟩
 rw [htk]at t0;have uD:=hid htk;have NJ:=hid hrel;clear h tn hr1 hk1 hW1 htk hrel hblk t1 t2 t3;go_enter Tryz.func48,Tryz.ntmps48;go_wp2_with fail;rw [HW1.out]
 go_upto_region 1 with(fail)
 go_cut [21]from 3 (fun v wc=>∃r:Bool,v= .bool r∧W1.drew=wc∧(r=true→e=0∧tkn.kind≠0)∧(r=false→¬(e=0∧tkn.kind≠0)))
 case first=>
  by_cases he:e=0
  ·subst he;cases hkb:(tkn.kind != 0)
   ·have hkn:tkn.kind=0:=by simpa using hkb
    have QC:=hid hkn;clear hkn;have fT:Hid ((W1.drew).cell? ⟨bp,3,none⟩=some (.int .i64 0)∧(W1.drew).cell? ⟨bp,0,none⟩=some (.slice (some ⟨b,o,none⟩) L.length c)∧(W1.drew).cell? ⟨bp,1,none⟩=some (.int .i64 k)∧(W1.drew).cell? ⟨b,o+k*4,none⟩=some (.int .i64 tkn.kind)):=hid ⟨p3,p0,p1,t0⟩;refine wp_region_held_drew (S:=fun w'=>w'.cell? ⟨bp,3,none⟩=some (.int .i64 0)∧w'.cell? ⟨bp,0,none⟩=some (.slice (some ⟨b,o,none⟩) L.length c)∧w'.cell? ⟨bp,1,none⟩=some (.int .i64 k)∧w'.cell? ⟨b,o+k*4,none⟩=some (.int .i64 tkn.kind)) (by kernel_rfl) fT.out (fun _=> ?_)
    try simp only [Act.put,sq]
    refine tk 0 (.pointer (some ⟨bp,0,none⟩)) fT.out ?_;refine tk 1 (.pointer (some ⟨bp,0,none⟩)) fT.out ?_;refine tk 2 (.pointer (some ⟨bp,3,none⟩)) fT.out ?_;refine oH 3 (.int .i64 0) (fun _ h=>h.1) fT.out ?_;refine tk 4 (.bool true) fT.out ?_;refine tk 5 (.bool true) fT.out ?_;refine tk 6 (.pointer (some ⟨bp,0,none⟩)) fT.out ?_;refine tk 7 (.pointer (some ⟨bp,0,none⟩)) fT.out ?_;refine tk 8 (.pointer (some ⟨bp,0,none⟩)) fT.out ?_;refine oH 9 (.slice (some ⟨b,o,none⟩) L.length c) (fun _ h=>h.2.1) fT.out ?_;refine tk 10 (.pointer (some ⟨bp,0,none⟩)) fT.out ?_;refine tk 11 (.pointer (some ⟨bp,0,none⟩)) fT.out ?_;refine tk 12 (.pointer (some ⟨bp,1,none⟩)) fT.out ?_;refine oH 13 (.int .i64 k) (fun _ h=>h.2.2.1) fT.out ?_;refine tk 14 (.pointer (some ⟨b,o+k*4,none⟩)) fT.out ?_;refine tk 15 (.pointer (some ⟨b,o+k*4,none⟩)) fT.out ?_;refine oH 16 (.int .i64 tkn.kind) (fun _ h=>h.2.2.2) fT.out ?_;refine tk 17 (.bool false) fT.out ?_;refine tk 18 (.bool false) fT.out ?_;refine wpAnyH_done (by kernel_rfl) ?_ _;go_wp2_with fail
    go_meet
    case rel=>exact⟨false,rfl,rfl,(fun h=>by cases h),(fun _ h=>h.2 QC.out)⟩
   ·have hkn:tkn.kind≠0:=by simpa using hkb
    have QC:=hid hkn;clear hkn;have fT:Hid ((W1.drew).cell? ⟨bp,3,none⟩=some (.int .i64 0)∧(W1.drew).cell? ⟨bp,0,none⟩=some (.slice (some ⟨b,o,none⟩) L.length c)∧(W1.drew).cell? ⟨bp,1,none⟩=some (.int .i64 k)∧(W1.drew).cell? ⟨b,o+k*4,none⟩=some (.int .i64 tkn.kind)):=hid ⟨p3,p0,p1,t0⟩;refine wp_region_held_drew (S:=fun w'=>w'.cell? ⟨bp,3,none⟩=some (.int .i64 0)∧w'.cell? ⟨bp,0,none⟩=some (.slice (some ⟨b,o,none⟩) L.length c)∧w'.cell? ⟨bp,1,none⟩=some (.int .i64 k)∧w'.cell? ⟨b,o+k*4,none⟩=some (.int .i64 tkn.kind)) (by kernel_rfl) fT.out (fun _=> ?_)
    try simp only [Act.put,sq]
    refine tk 0 (.pointer (some ⟨bp,0,none⟩)) fT.out ?_;refine tk 1 (.pointer (some ⟨bp,0,none⟩)) fT.out ?_;refine tk 2 (.pointer (some ⟨bp,3,none⟩)) fT.out ?_;refine oH 3 (.int .i64 0) (fun _ h=>h.1) fT.out ?_;refine tk 4 (.bool true) fT.out ?_;refine tk 5 (.bool true) fT.out ?_;refine tk 6 (.pointer (some ⟨bp,0,none⟩)) fT.out ?_;refine tk 7 (.pointer (some ⟨bp,0,none⟩)) fT.out ?_;refine tk 8 (.pointer (some ⟨bp,0,none⟩)) fT.out ?_;refine oH 9 (.slice (some ⟨b,o,none⟩) L.length c) (fun _ h=>h.2.1) fT.out ?_;refine tk 10 (.pointer (some ⟨bp,0,none⟩)) fT.out ?_;refine tk 11 (.pointer (some ⟨bp,0,none⟩)) fT.out ?_;refine tk 12 (.pointer (some ⟨bp,1,none⟩)) fT.out ?_;refine oH 13 (.int .i64 k) (fun _ h=>h.2.2.1) fT.out ?_;refine tk 14 (.pointer (some ⟨b,o+k*4,none⟩)) fT.out ?_;refine tk 15 (.pointer (some ⟨b,o+k*4,none⟩)) fT.out ?_;refine oH 16 (.int .i64 tkn.kind) (fun _ h=>h.2.2.2) fT.out ?_;refine tk 17 (.bool true) fT.out ?_;refine tk 18 (.bool true) fT.out ?_;refine wpAnyH_done (by kernel_rfl) ?_ _;go_wp2_with fail
    go_meet
    case rel=>exact⟨true,rfl,rfl,(fun _=>⟨by trivial,QC.out⟩),(fun h=>by cases h)⟩
  ·have heb:(e==0)=false:=by simp [he]
   have HEE:=hid he;clear he;have fT:Hid ((W1.drew).cell? ⟨bp,3,none⟩=some (.int .i64 e)):=hid p3;refine wp_region_held_drew (S:=fun w'=>w'.cell? ⟨bp,3,none⟩=some (.int .i64 e)) (by kernel_rfl) fT.out (fun _=> ?_)
   try simp only [Act.put,sq]
   refine tk 0 (.pointer (some ⟨bp,0,none⟩)) fT.out ?_;refine tk 1 (.pointer (some ⟨bp,0,none⟩)) fT.out ?_;refine tk 2 (.pointer (some ⟨bp,3,none⟩)) fT.out ?_;refine oH 3 (.int .i64 e) (fun _ h=>h) fT.out ?_;refine tk 4 (.bool false) fT.out ?_;refine tk 5 (.bool false) fT.out ?_;refine K6 6 fT.out ?_;refine K6 7 fT.out ?_;refine K6 8 fT.out ?_;refine K6 9 fT.out ?_;refine K6 10 fT.out ?_;refine K6 11 fT.out ?_;refine K6 12 fT.out ?_;refine K6 13 fT.out ?_;refine K6 14 fT.out ?_;refine K6 15 fT.out ?_;refine K6 16 fT.out ?_;refine K6 17 fT.out ?_;refine tk 18 (.bool false) fT.out ?_;refine wpAnyH_done (by kernel_rfl) ?_ _;go_wp2_with fail
   go_meet
   case rel=>exact⟨false,rfl,rfl,(fun h=>by cases h),(fun _ h=>HEE.out h.1)⟩
 case rest=>
  obtain⟨r,rfl,rfl,hy,hn⟩:=hcut;have HY:=hid hy;have HN:=hid hn;have HD2:=hid (gU (fun _=>False) W1);clear hy hn p0 p1 p2 p3 p4 p5 pz t0;obtain⟨W2,hW2⟩:∃W2,W1.drew=W2:=⟨_,rfl⟩
  rw [hW2]at HD2;rw [hW2];have iR:=hid (jP.out.turn HD2.out id (fun _ _=>id));have HR2:=hid (ah HR1.out HD2.out id);have hs2:W2.heap.size=W1.heap.size:=by rw [←hW2];rfl
  have HT2:=hid ((HT1.out.trans HD2.out (fun _ _ h=>h)).mono (G:=fun j=>j=bp) (fun _ _ h=>h.elim));have HFW:=hid (HF.out W2 iR.out);clear hW2 HT1 HD2 HR1 jP HF
  have HE:Hid (r=true→xD q=Cy (wB q 7)):=hid (fun hr=>by
   obtain⟨he,hk0⟩:=HY.out hr;cases q with
   | bad g=>exact absurd (NJ.out.1.symm.trans he) NJ.out.2.2.2
   | good u ts=>
    obtain⟨rfl, _⟩:=NJ.out;have hk1:(aQ (L.drop k)).kind≠0:=by rw [lJ hk,uD.out];exact hk0
    show xD (.good u (L.drop k))= _;unfold xD;have e0:dw 0 (L.drop k)= .bad ((aQ (L.drop k)).line,(aQ (L.drop k)).col,7):=by unfold dw;rw [if_neg hk1]
    rw [iq,e0];rfl)
  have HE2:Hid (r=false→xD q=(Cy q)):=hid (fun hr=>by
   have hno:=HN.out hr;cases q with
   | bad g=>rfl
   | good u ts=>
    obtain⟨rfl, _, _,rfl, _⟩:=NJ.out;have hk1:(aQ (L.drop k)).kind=0:=by
     rw [lJ hk,uD.out];by_cases h0:tkn.kind=0
     ·exact h0
     ·exact absurd ⟨rfl,h0⟩ hno
    unfold xD;have e0:dw 0 (L.drop k)= .good (aQ (L.drop k)).text (L.drop k):=by unfold dw;rw [if_pos hk1,if_pos rfl]
    rw [iq,e0];rfl)
  clear HY HN NJ uD;cases r with
  | true=>
   go_wp2_with fail;refine(HFW.out).mono ?_;rintro e9 w3 ⟨rfl,tn,kn⟩;have HKZ:=hid kn;have HTZ:=hid (HT2.out.trans tn (fun _ _ h=>h));have hs3:=tn.size;have YX:=hid (ah HR2.out tn (by omega));have VJ:=hid (HE.out (by trivial));clear tn kn HE HE2 iR HR2 HT2 HFW;obtain⟨b3,o3,c3,k3,dd3,hpb⟩:=HKZ.out.fault;rw [←VJ.out]at hpb;obtain⟨D,hD⟩:∃D,xD q=D:=⟨_,rfl⟩
   rw [hD]at hpb;have VL:=hid hD;clear hD;obtain⟨p0,p1,p2,p3,p4,p5,pz⟩:=iN hpb;have HS:Hid (w3.drew.cell? ⟨bp,4,none⟩=some (.int .i64 D.1)∧w3.drew.cell? ⟨bp,5,none⟩=some (.int .i64 D.2.1)∧w3.drew.cell? ⟨bp,3,none⟩=some (.int .i64 D.2.2)):=hid ⟨p4,p5,p3⟩;have hrb:=YX.out;obtain⟨d0,d1,d2,d3,dz⟩:=aP hrb;clear p0 p1 p2 p3 p4 p5 pz hpb hrb;go_wp2_with fail;refine wp_region_held_drew (S:=fun w'=>w'.cell? ⟨bp,4,none⟩=some (.int .i64 D.1)∧w'.cell? ⟨bp,5,none⟩=some (.int .i64 D.2.1)∧w'.cell? ⟨bp,3,none⟩=some (.int .i64 D.2.2)) (by kernel_rfl) HS.out (fun _=> ?_)
   try simp only [Act.put,sq]
   refine tk 0 (.pointer (some ⟨bp,0,none⟩)) HS.out ?_;refine tk 1 (.pointer (some ⟨bp,0,none⟩)) HS.out ?_;refine tk 2 (.pointer (some ⟨bp,4,none⟩)) HS.out ?_;refine oH 3 (.int .i64 D.1) (fun _ h=>h.1) HS.out ?_;refine tk 4 (.pointer (some ⟨bp,0,none⟩)) HS.out ?_;refine tk 5 (.pointer (some ⟨bp,0,none⟩)) HS.out ?_;refine tk 6 (.pointer (some ⟨bp,5,none⟩)) HS.out ?_;refine oH 7 (.int .i64 D.2.1) (fun _ h=>h.2.1) HS.out ?_;refine tk 8 (.pointer (some ⟨bp,0,none⟩)) HS.out ?_;refine tk 9 (.pointer (some ⟨bp,0,none⟩)) HS.out ?_;refine tk 10 (.pointer (some ⟨bp,3,none⟩)) HS.out ?_;refine oH 11 (.int .i64 D.2.2) (fun _ h=>h.2.2) HS.out ?_;refine tk 12 (.agg #[.int .i64 0, .int .i64 D.1, .int .i64 D.2.1, .int .i64 D.2.2]) HS.out ?_;refine wpAnyH_ready (rs:=[13]) (by kernel_rfl) (by simp) ?_;refine AllReadyH.cons rfl (fun K hK=> ?_) AllReadyH.nil;go_simp;have t4:=(gU (fun j=>j=w.heap.size) w3).trans (bW w3.drew w.heap.size (.int .i64 0) (.int .i64 D.1) (.int .i64 D.2.1) (.int .i64 D.2.2)) (fun _ _ h=>h);have q4:=aU (show w3.drew.heap[w.heap.size]? = _ from YX.out) (.int .i64 0) (.int .i64 D.1) (.int .i64 D.2.1) (.int .i64 D.2.2);have Q4:=hid q4;have T4:=hid t4;refine hK.out _ _ (by obtain⟨h4,h5,h3⟩:=HS.out;have tp:=bW w3.drew w.heap.size (.int .i64 0) (.int .i64 D.1) (.int .i64 D.2.1) (.int .i64 D.2.2);exact⟨aH h4 tp (by omega),aH h5 tp (by omega),aH h3 tp (by omega)⟩) (fun _=> ?_);clear hK K t4 q4;refine wpAnyH_done (by kernel_rfl) ?_ _;go_wp2_with fail;refine bodyPost_ret (aS rfl rfl Q4.out Tryz.underlying45 rfl (by kernel_rfl)) rfl ?_;exact⟨by rw [VL.out],HTZ.out.trans T4.out (fun i hi e=>by omega)⟩
  | false=>
   have HKZ:=hid iR.out;have HTZ:=hid HT2.out;have YX:=hid HR2.out;have VJ:=hid (HE2.out (by trivial));clear HE HE2 iR HR2 HT2 HFW;obtain⟨b3,o3,c3,k3,dd3,hpb⟩:=HKZ.out.fault;rw [←VJ.out]at hpb;obtain⟨D,hD⟩:∃D,xD q=D:=⟨_,rfl⟩
   rw [hD]at hpb;have VL:=hid hD;clear hD;obtain⟨p0,p1,p2,p3,p4,p5,pz⟩:=iN hpb;have HS:Hid (W2.drew.cell? ⟨bp,4,none⟩=some (.int .i64 D.1)∧W2.drew.cell? ⟨bp,5,none⟩=some (.int .i64 D.2.1)∧W2.drew.cell? ⟨bp,3,none⟩=some (.int .i64 D.2.2)):=hid ⟨p4,p5,p3⟩;have hrb:=YX.out;obtain⟨d0,d1,d2,d3,dz⟩:=aP hrb;clear p0 p1 p2 p3 p4 p5 pz hpb hrb;go_wp2_with fail;refine wp_region_held_drew (S:=fun w'=>w'.cell? ⟨bp,4,none⟩=some (.int .i64 D.1)∧w'.cell? ⟨bp,5,none⟩=some (.int .i64 D.2.1)∧w'.cell? ⟨bp,3,none⟩=some (.int .i64 D.2.2)) (by kernel_rfl) HS.out (fun _=> ?_)
   try simp only [Act.put,sq]
   refine tk 0 (.pointer (some ⟨bp,0,none⟩)) HS.out ?_;refine tk 1 (.pointer (some ⟨bp,0,none⟩)) HS.out ?_;refine tk 2 (.pointer (some ⟨bp,4,none⟩)) HS.out ?_;refine oH 3 (.int .i64 D.1) (fun _ h=>h.1) HS.out ?_;refine tk 4 (.pointer (some ⟨bp,0,none⟩)) HS.out ?_;refine tk 5 (.pointer (some ⟨bp,0,none⟩)) HS.out ?_;refine tk 6 (.pointer (some ⟨bp,5,none⟩)) HS.out ?_;refine oH 7 (.int .i64 D.2.1) (fun _ h=>h.2.1) HS.out ?_;refine tk 8 (.pointer (some ⟨bp,0,none⟩)) HS.out ?_;refine tk 9 (.pointer (some ⟨bp,0,none⟩)) HS.out ?_;refine tk 10 (.pointer (some ⟨bp,3,none⟩)) HS.out ?_;refine oH 11 (.int .i64 D.2.2) (fun _ h=>h.2.2) HS.out ?_;refine tk 12 (.agg #[.int .i64 0, .int .i64 D.1, .int .i64 D.2.1, .int .i64 D.2.2]) HS.out ?_;refine wpAnyH_ready (rs:=[13]) (by kernel_rfl) (by simp) ?_;refine AllReadyH.cons rfl (fun K hK=> ?_) AllReadyH.nil;go_simp;have t4:=(gU (fun j=>j=w.heap.size) W2).trans (bW W2.drew w.heap.size (.int .i64 0) (.int .i64 D.1) (.int .i64 D.2.1) (.int .i64 D.2.2)) (fun _ _ h=>h);have q4:=aU (show W2.drew.heap[w.heap.size]? = _ from YX.out) (.int .i64 0) (.int .i64 D.1) (.int .i64 D.2.1) (.int .i64 D.2.2);have Q4:=hid q4;have T4:=hid t4;refine hK.out _ _ (by obtain⟨h4,h5,h3⟩:=HS.out;have tp:=bW W2.drew w.heap.size (.int .i64 0) (.int .i64 D.1) (.int .i64 D.2.1) (.int .i64 D.2.2);exact⟨aH h4 tp (by omega),aH h5 tp (by omega),aH h3 tp (by omega)⟩) (fun _=> ?_);clear hK K t4 q4;refine wpAnyH_done (by kernel_rfl) ?_ _;go_wp2_with fail;refine bodyPost_ret (aS rfl rfl Q4.out Tryz.underlying45 rfl (by kernel_rfl)) rfl ?_;exact⟨by rw [VL.out],HTZ.out.trans T4.out (fun i hi e=>by omega)⟩
theorem Ky {α:Type} {p:Ps α} {T:List aD} {s:Bt} (hW:bS p s=xC (aj p (fun x=>aj (dw 0) fun _=>aG x) T)):(bS p s).2=xD (oF (p T)):=by
 rw [hW];cases hp:p T with
 | bad g=>rw [aB hp];rfl
 | good x r=>
  rw [au hp];show(xC (aj (dw 0) (fun _=>aG x) r)).2=Cy (oF (dw 0 r));cases hk:dw 0 r with
  | bad g=>rw [aB hk];rfl
  | good a r2=>rw [au hk];rfl
theorem Kz {α:Type} {p:Ps α} {T:List aD} {s:Bt} {zero:α} (hW:bS p s=xC (aj p (fun x=>aj (dw 0) fun _=>aG x) T)) (hb:∀g,p T= .bad g→g.2.2≠0):
  ((xD (oF (p T))).2.2=0→∀y,(∀a ts,p T= .good a ts→y=a)→o9 p s zero=y)∧((xD (oF (p T))).2.2≠0→o9 p s zero=zero):=by
 unfold o9;rw [hW];cases hp:p T with
 | bad g=>
  rw [aB hp];exact⟨fun h=>absurd h (hb g hp),fun _=>rfl⟩
 | good x r=>
  rw [au hp];show((Cy (oF (dw 0 r))).2.2=0→∀y,(∀a ts,Pr.good x r= .good a ts→y=a)→(xC (aj (dw 0) (fun _=>aG x) r)).1.getD zero=y)∧((Cy (oF (dw 0 r))).2.2≠0→(xC (aj (dw 0) (fun _=>aG x) r)).1.getD zero=zero)
  cases hk:dw 0 r with
  | bad g=>
   rw [aB hk];have h7:g.2.2=7:=by
    unfold dw at hk;split at hk
    ·cases hk
    ·injection hk with hk;rw [←hk]
   exact⟨fun h=>absurd (show g.2.2=0 from h) (by rw [h7];decide),fun _=>rfl⟩
  | good a r2=>
   rw [au hk];exact⟨fun _ y hy=>(hy x r rfl).symm,fun h=>absurd rfl h⟩
theorem eX.YZ {w:World} {bp B:Nat} {L:List aD} {d:Int} {g:vZ} (h:eX w bp B L d (.bad g)):g.2.2≠0:=by
 obtain⟨_, _, _, _, _, _, _, _, _, _, _, _, _,hrel⟩:=h;exact hrel.2.2.2
theorem EO (w:World) (s:Bt):Calls Tryz.prog 25 #[sv s] w fun e w'=>Below w.heap.size w w'∧∃z:List Value,e= .returned (.tuple #[.agg z.toArray,pR (bS (bR 100).typ s).2])∧jR w' (fun j=>w.heap.size≤j) z (o9 (bR 100).typ s mR):=by
 obtain⟨W0,hW0⟩:∃W0,(w.alloc (.cells #[.int .i64 0, .string ⟨#[]⟩, .slice none 0 0, .slice none 0 0] 57)).alloc (.cells #[.int .i64 0, .int .i64 0, .int .i64 0, .int .i64 0] 45)=W0:=⟨_,rfl⟩
 obtain⟨_, _,hx0,hd0⟩:=gG (G:=fun _=>False) (Turn.refl _ ((w.alloc (.cells #[.int .i64 0, .string ⟨#[]⟩, .slice none 0 0, .slice none 0 0] 57)).alloc (.cells #[.int .i64 0, .int .i64 0, .int .i64 0, .int .i64 0] 45)));have hs0:W0.heap.size=w.heap.size+2:=by rw [←hW0];simp
 have hb0:Below w.heap.size w W0:=by rw [←hW0];exact new2 _ _ _
 rw [hW0]at hx0 hd0;have HX0:=hid (hx0 id);have HD0:=hid (hd0 id);have HB0:=hid hb0;have HL:=hid (Hf W0 s);have HW0:=hid hW0;have uD:=hid (uS (s:=s));have ZX:=hid (fun T (h:eZ s=(T,((0,0,0):Nat ×Nat ×Int)))=>qP (p:=(bR 100).typ) h);have ru:Hid ((eZ s).2.2.2≠0→(bS (bR 100).typ s).2=(eZ s).2∧o9 (bR 100).typ s mR=mR):=hid (fun h=>by unfold o9 bS;rw [if_neg h];exact⟨rfl,rfl⟩);have sJ:=hid (uR (s:=s));obtain⟨Dg,qU⟩:∃Dg,(bS (bR 100).typ s).2=Dg:=⟨_,rfl⟩
 obtain⟨V,hV⟩:∃V,o9 (bR 100).typ s mR=V:=⟨_,rfl⟩
 obtain⟨L,D,Vg⟩:∃L D,eZ s=(L,D):=⟨_, _,rfl⟩
 rw [Vg]at HL uD ru sJ;rw [hV]at ru;rw [qU,hV];have Y0:=hid qU;have HV:=hid hV;have HLD:=hid Vg;clear hx0 hd0 hb0 hW0 qU hV Vg;go_enter Tryz.func25,Tryz.ntmps25;go_wp2_with fail;rw [HW0.out];refine(HL.out).mono ?_;rintro e w1 ⟨hb1,bp,agJ,agK,rfl,hrp⟩;have hs1:=hb1.size;rw [show pR D= .agg #[.int .i64 0, .int .i64 D.1, .int .i64 D.2.1, .int .i64 D.2.2]from rfl];obtain⟨W1,hW1⟩:∃W1,w1.alloc (.cells #[.int .i64 0, .int .i64 D.1, .int .i64 D.2.1, .int .i64 D.2.2] 45)=W1:=⟨_,rfl⟩
 have hbw:Below w1.heap.size w1 W1:=by rw [←hW1];exact new1 _ _
 have hx1:W1.heap[w1.heap.size]? =some (.cells #[.int .i64 0, .int .i64 D.1, .int .i64 D.2.1, .int .i64 D.2.2] 45 (0,0)):=by rw [←hW1];exact qR w1 _
 have ZH:W1.heap.size=w1.heap.size+1:=by rw [←hW1];simp
 have hb2:=hb1.trans (hbw.mono hs1);have nZ:=hid ((hb2.block w.heap.size (by omega)).trans HX0.out);have HD1:=hid ((hb2.block (w.heap.size+1) (by omega)).trans HD0.out);have HB1:=hid (HB0.out.trans (hb2.mono (by omega)));have HE1:=hid hx1;have HRP:=hid (fun h=>(hrp h).below hbw);have HW1:=hid hW1;obtain⟨d0,d1,d2,d3,dz⟩:=aP hx1;clear hb1 hrp hbw hx1 hb2 hW1;by_cases h0:D.2.2=0
 ·have hne:(D.2.2 != 0)=false:=by simp [h0]
  have hz:=sJ.out h0;obtain rfl:D=(0,0,0):=hz;have QB:=hid (ZX.out L HLD.out);have Bw:=hid (Ky (p:=(bR 100).typ) (ZX.out L HLD.out));have Y1:=hid (Kz (p:=(bR 100).typ) (zero:=mR) (ZX.out L HLD.out));rw [Y0.out]at Bw;rw [HV.out]at Y1;have Y2:=hid (HRP.out rfl);have hc:=Bn 100 (by omega) W1 bp bp L _ Y2.out;rw [←HW1.out]at hc;have HC:=hid hc;clear hc;clear h0 ru sJ uD HRP ZX;go_wp2_with fail;refine(HC.out).mono ?_;rintro e w2 ⟨tn,v2,y,rfl,⟨z,rfl,hz⟩,hxx,kn⟩;rw [HW1.out]at tn hz;obtain⟨k,s,Aa,na,ca,Ab,nb,cb,rfl⟩:=hz.shape';have hs2:=tn.size;obtain⟨q2,hq2⟩:∃q2,oF (aX (.good () L) (bR 100).typ)=q2:=⟨_,rfl⟩
  rw [hq2]at kn;have jO:=hid (show oF ((bR 100).typ L)=q2 from hq2);have HXX:=hid (fun a ts (h:(bR 100).typ L= .good a ts)=>hxx a ts h);have Jd:=hid (ah nZ.out tn (by omega));have HD2:=hid (ah HD1.out tn (by omega));have HE2:=hid (ah HE1.out tn (by omega));have HB2:=hid (HB1.out.trans (tn.below (B:=w.heap.size) (by omega) (fun k hk e=>by omega)));have iR:=hid kn;have HZ2:=hid hz;obtain⟨W2,hW2⟩:∃W2,w2.alloc (.cells #[.int .i64 k,sv s, .slice Aa na ca, .slice Ab nb cb] 57)=W2:=⟨_,rfl⟩
  have t2:Turn (fun _=>False) w2 W2:=by rw [←hW2];exact Turn.alloc _ _ _
  have hx2:W2.heap[w2.heap.size]? =some (.cells #[.int .i64 k,sv s, .slice Aa na ca, .slice Ab nb cb] 57 (0,0)):=by rw [←hW2];exact qR w2 _
  have Y3:W2.heap.size=w2.heap.size+1:=by rw [←hW2];simp
  have Rm:=hid (ah Jd.out t2 id);have HD3:=hid (ah HD2.out t2 id);have HE3:=hid (ah HE2.out t2 id);have HB3:=hid (HB2.out.trans (t2.below (B:=w.heap.size) (by omega) (fun k hk e=>e)));have HT3:=hid hx2;have HZ3:=hid (HZ2.out.turn t2 (fun _ _ _=>id));have HN:=hid (NI W2 bp bp L _ q2 (iR.out.turn t2 id (fun _ _=>id)));have HW2:=hid hW2
  have nk:Hid (∀g,(bR 100).typ L= .bad g→g.2.2≠0):=hid (fun g hg=>by
   have h:=iR.out;have e:q2= .bad g:=by rw [←jO.out,hg];rfl
   rw [e]at h;exact h.YZ)
  clear tn hz kn hxx hq2 t2 hx2 hW2 d0 d1 d2 d3 dz nZ HD1 HE1 HB1 Y2 Jd HD2 HE2 HB2 HC iR HZ2;go_wp2_with fail;rw [HW2.out];refine(HN.out).mono ?_;rintro e w3 ⟨rfl,tn⟩;rw [jO.out]at Bw Y1;obtain⟨E,hE⟩:∃E,xD q2=E:=⟨_,rfl⟩
  rw [hE]at Bw Y1;rw [hE];obtain rfl:Dg=E:=Bw.out;have hs3:=tn.size;have yZ:=hid (ah Rm.out tn (by omega));have HD4:=hid (ah HD3.out tn (by omega));have hdd:=ah HE3.out tn (by omega);have fP:=hid (ah HT3.out tn (by omega));have uM:=hid (HB3.out.trans (tn.below (B:=w.heap.size) (by omega) (fun k hk e=>by omega)));have uV:=hid (HZ3.out.turn tn (fun g _ h e=>by have h:=h;omega));obtain⟨d0,d1,d2,d3,dz⟩:=aP hdd;have dl:=block_lt hdd;obtain⟨W3,hW3,hb3,t3,agM⟩:=C9 (.int .i64 0) (.int .i64 Dg.1) (.int .i64 Dg.2.1) (.int .i64 Dg.2.2) hdd;simp only [dh]at hW3;have HE5:=hid hb3;have rE:=hid (ah yZ.out t3 (by omega));have HD5:=hid (ah HD4.out t3 (by omega));have fM:=hid (ah fP.out t3 (by omega));have Ck:=hid (uM.out.trans (t3.below (B:=w.heap.size) (by omega) (fun k hk e=>by omega)));have uU:=hid (uV.out.turn t3 (fun g _ h e=>by have h:=h;omega));have HW3:=hid hW3;clear tn hE hdd hb3 t3 hW3 Rm HD3 HE3 HT3 HB3 HZ3 HN yZ HD4 fP uM uV;rw [show pR Dg= .agg #[.int .i64 0, .int .i64 Dg.1, .int .i64 Dg.2.1, .int .i64 Dg.2.2]from rfl]
  go_upto_region 6 with(fail)
  have hW:=HW3.out;rw [hW];clear hW d0 d1 d2 d3 dz dl;have he5:=HE5.out;obtain⟨d0,d1,d2,d3,dz⟩:=aP he5;clear he5;by_cases h5:Dg.2.2=0
  ·have hne5:(Dg.2.2 != 0)=false:=by simp [h5]
   have hv:=(Y1.out nk.out).1 h5 y HXX.out;subst hv;clear h5;obtain⟨x0,x1,x2,x3,xz⟩:=aP rE.out;obtain⟨y0,y1,y2,y3,yz⟩:=aP HD5.out;have xl:=block_lt rE.out;have yl:=block_lt HD5.out;have fT:Hid (Turn (fun j=>j=w.heap.size∨j=w.heap.size+1) W3 W3.drew):=hid (gU _ _);go_wp2_with fail;refine wp_region_held_drew (S:=fun w'=>Turn (fun j=>j=w.heap.size∨j=w.heap.size+1) W3 w') (by kernel_rfl) fT.out (fun _=> ?_)
   try simp only [Act.put,sq]
   refine oH 0 (.agg #[.int .i64 k,sv s, .slice Aa na ca, .slice Ab nb cb]) (NH fM.out (by omega)) fT.out ?_;refine oH 1 (.agg #[.int .i64 0, .int .i64 Dg.1, .int .i64 Dg.2.1, .int .i64 Dg.2.2]) (NH HE5.out (by omega)) fT.out ?_;refine wpAnyH_ready (rs:=[2]) (by kernel_rfl) (by simp) ?_;refine AllReadyH.cons rfl (fun K hK=> ?_) AllReadyH.nil;go_simp;obtain⟨SA,zB,ER,SB,Y4⟩:=C9 (w:=W3) (b:=w.heap.size) (.int .i64 k) (sv s) (.slice Aa na ca) (.slice Ab nb cb) rE.out;simp only [dh,sw]at zB;rw [zB];obtain⟨Wa,hWa⟩:∃Wa,SA.drew=Wa:=⟨_,rfl⟩
   rw [hWa];have hba:=ER;rw [show SA.heap=Wa.heap by rw [←hWa];rfl]at hba;have ta:=SB.trans (gU _ _) (fun _ _ h=>h);rw [hWa]at ta;have Ac:=hid hba;have hda:=ah HD5.out ta (by omega);have OO:=hid hda;have yh:=hid (ta.mono (G:=fun j=>j=w.heap.size∨j=w.heap.size+1) (fun _ _ h=> .inl h));refine hK.out _ _ yh.out (fun _=> ?_);clear hK K hWa ta hba ER SB zB x0 x1 x2 x3 xz xl;obtain⟨y0,y1,y2,y3,yz⟩:=aP hda;have yl:=block_lt hda;clear hda
   try simp only [Act.put,sq]
   refine wpAnyH_ready (rs:=[3]) (by kernel_rfl) (by simp) ?_;refine AllReadyH.cons rfl (fun K hK=> ?_) AllReadyH.nil;go_simp;obtain⟨Wb,NK,hbb,tb,hsb⟩:=C9 (w:=Wa) (b:=w.heap.size+1) (.int .i64 0) (.int .i64 Dg.1) (.int .i64 Dg.2.1) (.int .i64 Dg.2.2) OO.out;simp only [dh]at NK;rw [NK];have sV:=hid hbb;have Tp:=hid (ah Ac.out tb (by omega));have jI:=hid (yh.out.trans tb (fun _ _ h=> .inr h));refine hK.out _ _ jI.out (fun _=> ?_);clear hK K NK tb hbb y0 y1 y2 y3 yz yl;refine wpAnyH_done (by kernel_rfl) ?_ _;go_wp2_with fail;refine bodyPost_ret (cB rfl rfl rfl Tp.out sV.out Tryz.underlying57 rfl (by kernel_rfl) Tryz.underlying45 rfl (by kernel_rfl)) rfl ?_;exact⟨Ck.out.trans (jI.out.below (B:=w.heap.size) (by omega) (fun k hk e=>by omega)), _,rfl,(uU.out.turn jI.out (fun g _ h e=>by have h:=h;omega)).mono (fun g _ h=>by have h:=h;omega)⟩
  ·have hne5:(Dg.2.2 != 0)=true:=by simp [h5]
   have hv:=(Y1.out nk.out).2 h5;subst hv;clear h5;obtain⟨x0,x1,x2,x3,xz⟩:=aP rE.out;obtain⟨y0,y1,y2,y3,yz⟩:=aP HD5.out;have xl:=block_lt rE.out;have yl:=block_lt HD5.out;have fT:Hid (Turn (fun j=>j=w.heap.size∨j=w.heap.size+1) W3 W3.drew):=hid (gU _ _);go_wp2_with fail;refine wp_region_held_drew (S:=fun w'=>Turn (fun j=>j=w.heap.size∨j=w.heap.size+1) W3 w') (by kernel_rfl) fT.out (fun _=> ?_)
   try simp only [Act.put,sq]
   refine tk 0 (.agg #[.int .i64 0, .string ⟨#[]⟩, .slice none 0 0, .slice none 0 0]) fT.out ?_;refine oH 1 (.agg #[.int .i64 0, .int .i64 Dg.1, .int .i64 Dg.2.1, .int .i64 Dg.2.2]) (NH HE5.out (by omega)) fT.out ?_;refine wpAnyH_ready (rs:=[2]) (by kernel_rfl) (by simp) ?_;refine AllReadyH.cons rfl (fun K hK=> ?_) AllReadyH.nil;go_simp;obtain⟨SA,zB,ER,SB,Y4⟩:=C9 (w:=W3) (b:=w.heap.size) (.int .i64 0) (.string ⟨#[]⟩) (.slice none 0 0) (.slice none 0 0) rE.out;simp only [dh,sw]at zB;rw [zB];obtain⟨Wa,hWa⟩:∃Wa,SA.drew=Wa:=⟨_,rfl⟩
   rw [hWa];have hba:=ER;rw [show SA.heap=Wa.heap by rw [←hWa];rfl]at hba;have ta:=SB.trans (gU _ _) (fun _ _ h=>h);rw [hWa]at ta;have Ac:=hid hba;have hda:=ah HD5.out ta (by omega);have OO:=hid hda;have yh:=hid (ta.mono (G:=fun j=>j=w.heap.size∨j=w.heap.size+1) (fun _ _ h=> .inl h));refine hK.out _ _ yh.out (fun _=> ?_);clear hK K hWa ta hba ER SB zB x0 x1 x2 x3 xz xl;obtain⟨y0,y1,y2,y3,yz⟩:=aP hda;have yl:=block_lt hda;clear hda
   try simp only [Act.put,sq]
   refine wpAnyH_ready (rs:=[3]) (by kernel_rfl) (by simp) ?_;refine AllReadyH.cons rfl (fun K hK=> ?_) AllReadyH.nil;go_simp;obtain⟨Wb,NK,hbb,tb,hsb⟩:=C9 (w:=Wa) (b:=w.heap.size+1) (.int .i64 0) (.int .i64 Dg.1) (.int .i64 Dg.2.1) (.int .i64 Dg.2.2) OO.out;simp only [dh]at NK;rw [NK];have sV:=hid hbb;have Tp:=hid (ah Ac.out tb (by omega));have jI:=hid (yh.out.trans tb (fun _ _ h=> .inr h));refine hK.out _ _ jI.out (fun _=> ?_);clear hK K NK tb hbb y0 y1 y2 y3 yz yl;refine wpAnyH_done (by kernel_rfl) ?_ _;go_wp2_with fail;refine bodyPost_ret (cB rfl rfl rfl Tp.out sV.out Tryz.underlying57 rfl (by kernel_rfl) Tryz.underlying45 rfl (by kernel_rfl)) rfl ?_;exact⟨Ck.out.trans (jI.out.below (B:=w.heap.size) (by omega) (fun k hk e=>by omega)), _,rfl, .mk (dB.nil _ _ _) (dB.nil _ _ _) .nil⟩
 ·have hne:(D.2.2 != 0)=true:=by simp [h0]
  obtain⟨hw1,hw2⟩:=ru.out h0;rw [Y0.out]at hw1;subst hw1 hw2;clear h0;obtain⟨x0,x1,x2,x3,xz⟩:=aP nZ.out;obtain⟨y0,y1,y2,y3,yz⟩:=aP HD1.out;have xl:=block_lt nZ.out;have yl:=block_lt HD1.out;have fT:Hid (Turn (fun j=>j=w.heap.size∨j=w.heap.size+1) W1 W1.drew):=hid (gU _ _);go_wp2_with fail
  try rw [HW1.out]
  refine wp_region_held_drew (S:=fun w'=>Turn (fun j=>j=w.heap.size∨j=w.heap.size+1) W1 w') (by kernel_rfl) fT.out (fun _=> ?_)
  try simp only [Act.put,sq]
  refine tk 0 (.agg #[.int .i64 0, .string ⟨#[]⟩, .slice none 0 0, .slice none 0 0]) fT.out ?_;refine oH 1 (.agg #[.int .i64 0, .int .i64 Dg.1, .int .i64 Dg.2.1, .int .i64 Dg.2.2]) (NH HE1.out (by omega)) fT.out ?_;refine wpAnyH_ready (rs:=[2]) (by kernel_rfl) (by simp) ?_;refine AllReadyH.cons rfl (fun K hK=> ?_) AllReadyH.nil;go_simp;obtain⟨SA,zB,ER,SB,Y4⟩:=C9 (w:=W1) (b:=w.heap.size) (.int .i64 0) (.string ⟨#[]⟩) (.slice none 0 0) (.slice none 0 0) nZ.out;simp only [dh,sw]at zB;rw [zB];obtain⟨Wa,hWa⟩:∃Wa,SA.drew=Wa:=⟨_,rfl⟩
  rw [hWa];have hba:=ER;rw [show SA.heap=Wa.heap by rw [←hWa];rfl]at hba;have ta:=SB.trans (gU _ _) (fun _ _ h=>h);rw [hWa]at ta;have Ac:=hid hba;have hda:=ah HD1.out ta (by omega);have OO:=hid hda;have yh:=hid (ta.mono (G:=fun j=>j=w.heap.size∨j=w.heap.size+1) (fun _ _ h=> .inl h));refine hK.out _ _ yh.out (fun _=> ?_);clear hK K hWa ta hba ER SB zB x0 x1 x2 x3 xz xl;obtain⟨y0,y1,y2,y3,yz⟩:=aP hda;have yl:=block_lt hda;clear hda
  try simp only [Act.put,sq]
  refine wpAnyH_ready (rs:=[3]) (by kernel_rfl) (by simp) ?_;refine AllReadyH.cons rfl (fun K hK=> ?_) AllReadyH.nil;go_simp;obtain⟨Wb,NK,hbb,tb,hsb⟩:=C9 (w:=Wa) (b:=w.heap.size+1) (.int .i64 0) (.int .i64 Dg.1) (.int .i64 Dg.2.1) (.int .i64 Dg.2.2) OO.out;simp only [dh]at NK;rw [NK];have sV:=hid hbb;have Tp:=hid (ah Ac.out tb (by omega));have jI:=hid (yh.out.trans tb (fun _ _ h=> .inr h));refine hK.out _ _ jI.out (fun _=> ?_);clear hK K NK tb hbb y0 y1 y2 y3 yz yl;refine wpAnyH_done (by kernel_rfl) ?_ _;go_wp2_with fail;refine bodyPost_ret (cB rfl rfl rfl Tp.out sV.out Tryz.underlying57 rfl (by kernel_rfl) Tryz.underlying45 rfl (by kernel_rfl)) rfl ?_;exact⟨HB1.out.trans (jI.out.below (B:=w.heap.size) (by omega) (fun k hk e=>by omega)), _,rfl, .mk (dB.nil _ _ _) (dB.nil _ _ _) .nil⟩
end Go.Proofs.YtfgjkmipfikooaaGreatDoor
