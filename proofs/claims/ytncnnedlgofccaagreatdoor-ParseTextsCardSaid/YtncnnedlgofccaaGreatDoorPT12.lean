/- HM, FO -/
import Derived.Test.YtncnnedlgofccaaGreatDoorPT11
set_option linter.unusedSimpArgs false
set_option linter.unusedVariables false
set_option maxRecDepth 100000
set_option maxHeartbeats 8000000
namespace Go.Proofs.YtncnnedlgofccaaGreatDoor
open Go.RowKit
def EL (q:Pr Unit)(e:Int):Pr Unit:=match q with
 |.good _ ts=>.bad ((aR ts).line,(aR ts).col,e)
 |.bad g=>.bad g
theorem NT {α:Type}(q:Pr Unit)(e:Int):EL q e=gF (av q (kI (α:=α) e)):=by cases q <;> rfl
theorem jm {L:List aH}{k:Nat}(hk:k<L.length):aR (L.drop k)=L[k]:=by
 rw [List.drop_eq_getElem_cons hk];rfl
theorem TD {L:List aH}{k:Nat}(hk:k<L.length)(h:Wf (L.drop k))(h0:L[k].kind≠0):k+1<L.length∧Wf (L.drop (k+1)):=by
 rw [List.drop_eq_getElem_cons hk]at h;rcases h.cases with⟨e,he,h1⟩ |⟨t,r,he,_,_,hr⟩
 ·injection he with he _;rw [<-he]at h1;exact absurd h1 h0
 ·injection he with _ he;rw [<-he]at hr;refine⟨?_,hr⟩;have:=hr.pos;rw [List.length_drop]at this;omega
theorem vO (w:World)(bp B:Nat)(L:List aH)(d:Int)(q:Pr Unit)(h:eX w bp B L d q)(e0:Int)(h0:e0≠0:=by decide):
  Calls Tryz.prog 90 #[pP bp 0,I e0] w fun e w'=>e=.returned (.tuple #[])∧Turn (fun j=>j=bp) w w'∧eX w' bp B L d (EL q e0):=by
 have hlt:=h.lt;have hB:=h.1;have hh:=h;obtain⟨b,o,c,k,dd,e,ln,cn,hk,hlc,hc63,LK,hdd,hrel,hblk,t0,t1,t2,t3⟩:=h.open_;obtain⟨p0,p1,p2,p3,p4,p5,pz⟩:=gu hblk;have hki:(k:Int)<L.length:=by omega
 have hbb:¬b=bp:=by omega
 have Y5:¬bp=b:=by omega
 cases q with
 |bad g=>
  obtain⟨rfl,rfl,rfl,hg⟩:=hrel;have hge:(g.2.2==0)=false:=by simp [hg]
  go_enter Tryz.func90,Tryz.ntmps90;go_wp2_with fail;go_end0;exact⟨rfl,Turn.refl _ _,hh⟩
 |good u ts=>
  obtain⟨rfl,hwf,rfl,rfl,rfl,rfl⟩:=hrel;have hne:∀i,w.frozen? ⟨bp,i,none⟩=false:=pz;obtain⟨tk,htk⟩:∃tk,L[k]=tk:=⟨_,rfl⟩
  rw [htk]at t0 t1 t2 t3;have uD:=aO htk;have HH:=aO hh;have nY:=aO hblk;clear htk hh;go_enter Tryz.func90,Tryz.ntmps90;have hw1:=heap_setCell_same _ _ 3 _ _ (I e0) hblk;obtain⟨W1,hW1⟩:∃W1,w.setCell ⟨bp,3,none⟩ (I e0)=W1:=⟨_,rfl⟩
  have tw:=ak w bp 3 (I e0);rw [hW1]at hw1 tw;have HW1:=aO hW1;have HB1:=aO (show W1.heap[bp]? =some (.cells #[.slice (some ⟨b,o,none⟩) L.length c,I k,I dd,I e0,I 0,I 0] 156 (0,0))from hw1);have HT1:=aO tw;have u0:=aK t0 tw hbb;have u1:=aK t1 tw hbb;have u2:=aK t2 tw hbb;have u3:=aK t3 tw hbb;obtain⟨q0,q1,q2,q3,q4,q5,qz⟩:=gu (show W1.heap[bp]? =some (.cells #[.slice (some ⟨b,o,none⟩) L.length c,I k,I dd,I e0,I 0,I 0] 156 (0,0))from hw1);clear hW1 hw1 tw hblk;go_wp2_with fail;rw [HW1.o];clear p0 p1 p2 p3 p4 p5 pz hne t0 t1 t2 t3;have HS:bq ((W1.drew).cell? ⟨bp,0,none⟩=some (.slice (some ⟨b,o,none⟩) L.length c)∧(W1.drew).cell? ⟨bp,1,none⟩=some (I k)∧(W1.drew).cell? ⟨b,o+k*4+2,none⟩=some (I tk.line)):=aO ⟨q0,q1,u2⟩;refine bM (S:=fun w'=>w'.cell? ⟨bp,0,none⟩=some (.slice (some ⟨b,o,none⟩) L.length c)∧w'.cell? ⟨bp,1,none⟩=some (I k)∧w'.cell? ⟨b,o+k*4+2,none⟩=some (I tk.line)) (x:=14) (by kernel_rfl) ?_
  try simp only [sp,sq]
  refine tx 0 (pP bp 0) HS.o ?_;refine tx 1 (pP bp 0) HS.o ?_;refine tx 2 (pP bp 0) HS.o ?_;refine tx 3 (pP bp 0) HS.o ?_;refine jw 4 (.slice (some ⟨b,o,none⟩) L.length c) (fun _ h=>h.1) HS.o ?_;refine tx 5 (pP bp 0) HS.o ?_;refine tx 6 (pP bp 0) HS.o ?_;refine tx 7 (pP bp 1) HS.o ?_;refine jw 8 (I k) (fun _ h=>h.2.1) HS.o ?_;refine tx 9 (pP b (o+k*4)) HS.o ?_;refine tx 10 (pP b (o+k*4+2)) HS.o ?_;refine jw 11 (I tk.line) (fun _ h=>h.2.2) HS.o ?_;refine tt 12 (pP bp 0) (fun _=>HS.o) ?_;refine tt 13 (pP bp 4) (fun _=>HS.o) ?_;refine bR 14 fun K hK=>?_;go_simp;refine hK.out _ _ ?_;clear hK K
  try simp only [sp,sq]
  refine bU _ ?_;obtain⟨W2,hW2⟩:∃W2,(W1.setCell ⟨bp,4,none⟩ (I tk.line)).drew=W2:=⟨_,rfl⟩
  have tw:Turn (fun j=>j=bp) W1 W2:=by rw [<-hW2];exact(ak W1 bp 4 (I tk.line)).trans ⟨rfl,rfl,rfl,Nat.le_refl _,fun _ _ _=>rfl⟩ (fun _ _ h=>h)
  have hw2:W2.heap[bp]? =some (.cells #[.slice (some ⟨b,o,none⟩) L.length c,I k,I dd,I e0,I tk.line,I 0] 156 (0,0)):=by rw [<-hW2,show ∀X:World,X.drew.heap=X.heap from fun _=>rfl];exact heap_setCell_same _ _ 4 _ _ _ HB1.o
  rw [hW2];have HB2:=aO hw2;have HT2:=aO (ay HT1.o tw);clear q0 q1 q2 q3 q4 q5 qz;obtain⟨q0,q1,q2,q3,q4,q5,qz⟩:=gu hw2;have v3:=aK u3 tw hbb;clear u0 u1 u2 u3 HS hw2 tw hW2;go_wp2_with fail;have HS:bq ((W2.drew).cell? ⟨bp,0,none⟩=some (.slice (some ⟨b,o,none⟩) L.length c)∧(W2.drew).cell? ⟨bp,1,none⟩=some (I k)∧(W2.drew).cell? ⟨b,o+k*4+3,none⟩=some (I tk.col)):=aO ⟨q0,q1,v3⟩;refine bM (S:=fun w'=>w'.cell? ⟨bp,0,none⟩=some (.slice (some ⟨b,o,none⟩) L.length c)∧w'.cell? ⟨bp,1,none⟩=some (I k)∧w'.cell? ⟨b,o+k*4+3,none⟩=some (I tk.col)) (x:=14) (by kernel_rfl) ?_
  try simp only [sp,sq]
  refine tx 0 (pP bp 0) HS.o ?_;refine tx 1 (pP bp 0) HS.o ?_;refine tx 2 (pP bp 0) HS.o ?_;refine tx 3 (pP bp 0) HS.o ?_;refine jw 4 (.slice (some ⟨b,o,none⟩) L.length c) (fun _ h=>h.1) HS.o ?_;refine tx 5 (pP bp 0) HS.o ?_;refine tx 6 (pP bp 0) HS.o ?_;refine tx 7 (pP bp 1) HS.o ?_;refine jw 8 (I k) (fun _ h=>h.2.1) HS.o ?_;refine tx 9 (pP b (o+k*4)) HS.o ?_;refine tx 10 (pP b (o+k*4+3)) HS.o ?_;refine jw 11 (I tk.col) (fun _ h=>h.2.2) HS.o ?_;refine tt 12 (pP bp 0) (fun _=>HS.o) ?_;refine tt 13 (pP bp 5) (fun _=>HS.o) ?_;refine bR 14 fun K hK=>?_;go_simp;refine hK.out _ _ ?_;clear hK K
  try simp only [sp,sq]
  refine bU _ ?_;have tw:Turn (fun j=>j=bp) W2 (W2.setCell ⟨bp,5,none⟩ (I tk.col)).drew:=(ak W2 bp 5 (I tk.col)).trans ⟨rfl,rfl,rfl,Nat.le_refl _,fun _ _ _=>rfl⟩ (fun _ _ h=>h);have hw3:(W2.setCell ⟨bp,5,none⟩ (I tk.col)).drew.heap[bp]? =some (.cells #[.slice (some ⟨b,o,none⟩) L.length c,I k,I dd,I e0,I tk.line,I tk.col] 156 (0,0)):=by rw [show ∀X:World,X.drew.heap=X.heap from fun _=>rfl];exact heap_setCell_same _ _ 5 _ _ _ HB2.o
  have xM:=ay HT2.o tw;go_wp2_with fail;go_end0;obtain⟨h1,h2,h3,v,k',dd',e',ln',cn',h4,h5,h6⟩:=HH.o;rw [nY.o]at h4;injection h4 with h4;injection h4 with h4 _;have h4:=congrArg Array.toList h4;injection h4 with h4 _;subst h4;exact⟨rfl,xM,h1,h2,h3,_,k,dd,e0,tk.line,tk.col,hw3,Sl.below h5 (xM.below (by omega) (fun j hj e=>by omega)),hk,hdd,rfl,by rw [jm hk,uD.o],by rw [jm hk,uD.o],h0⟩
theorem Wj {s:Bt}{u:Unit}{ts:List aH}:qR (av (.good u ts:Pr Unit) (bD s))=kU (aR ts) s:=by
 show qR (bD s ts)= _;unfold bD;cases kU (aR ts) s <;> rfl
theorem Wm (w:World)(bp B:Nat)(L:List aH)(d:Int)(q:Pr Unit)(h:eX w bp B L d q)(s:Bt):
  Calls Tryz.prog 141 #[pP bp 0,sv s] w fun e w'=>e=.returned (.bool (qR (av q (bD s))))∧Below w.heap.size w w':=by
 have hlt:=h.lt;have hB:=h.1;have hh:=h;obtain⟨b,o,c,k,dd,e,ln,cn,hk,hlc,hc63,LK,hdd,hrel,hblk,t0,t1,t2,t3⟩:=h.open_;obtain⟨p0,p1,p2,p3,p4,p5,pz⟩:=gu hblk;have hki:(k:Int)<L.length:=by omega
 have hbb:¬b=bp:=by omega
 have Y5:¬bp=b:=by omega
 obtain⟨A,hA⟩:∃A,qR (av q (bD s))=A:=⟨_,rfl⟩
 rw [hA];have HA:=aO hA;clear hA;obtain⟨tk,htk⟩:∃tk,L[k]=tk:=⟨_,rfl⟩
 rw [htk]at t0 t1 t2 t3;have uD:=aO htk;have HH:=aO hh;have nY:=aO hblk;clear htk hh h hblk;go_enter Tryz.func141,Tryz.ntmps141;have HS:bq ((w.drew).cell? ⟨bp,0,none⟩=some (.slice (some ⟨b,o,none⟩) L.length c)∧(w.drew).cell? ⟨bp,1,none⟩=some (I k)∧((w.drew).cell? ⟨b,o+k*4,none⟩=some (I tk.kind)∧(w.drew).cell? ⟨b,o+k*4+1,none⟩=some (sv tk.text)∧(w.drew).cell? ⟨b,o+k*4+2,none⟩=some (I tk.line)∧(w.drew).cell? ⟨b,o+k*4+3,none⟩=some (I tk.col))):=aO ⟨p0,p1,t0,t1,t2,t3⟩;go_wp2_with fail;refine bM (S:=fun w'=>w'.cell? ⟨bp,0,none⟩=some (.slice (some ⟨b,o,none⟩) L.length c)∧w'.cell? ⟨bp,1,none⟩=some (I k)∧(w'.cell? ⟨b,o+k*4,none⟩=some (I tk.kind)∧w'.cell? ⟨b,o+k*4+1,none⟩=some (sv tk.text)∧w'.cell? ⟨b,o+k*4+2,none⟩=some (I tk.line)∧w'.cell? ⟨b,o+k*4+3,none⟩=some (I tk.col))) (x:=11) (by kernel_rfl) ?_
 try simp only [sp,sq]
 refine tx 0 (pP bp 0) HS.o ?_;refine tx 1 (pP bp 0) HS.o ?_;refine tx 2 (pP bp 0) HS.o ?_;refine jw 3 (.slice (some ⟨b,o,none⟩) L.length c) (fun _ h=>h.1) HS.o ?_;refine tx 4 (pP bp 0) HS.o ?_;refine tx 5 (pP bp 0) HS.o ?_;refine tx 6 (pP bp 1) HS.o ?_;refine jw 7 (I k) (fun _ h=>h.2.1) HS.o ?_;refine tx 8 (pP b (o+k*4)) HS.o ?_;refine jw 9 (.agg #[I tk.kind,sv tk.text,I tk.line,I tk.col]) (fun _ h=>h.2.2) HS.o ?_;refine bB 10 fun K hK=>?_;go_simp;have tz:=Turn.alloc (fun _=>False) w.drew (.cells #[I 0,S0,I 0,I 0] 151);have hs:=HS.o;have HS2:=aO (⟨aK hs.1 tz id,aK hs.2.1 tz id,aK hs.2.2.1 tz id,aK hs.2.2.2.1 tz id,aK hs.2.2.2.2.1 tz id,aK hs.2.2.2.2.2 tz id⟩: _∧ _∧ _∧ _∧ _∧ _);clear tz hs;refine hK.out _ _ HS2.o ?_;clear hK K
 try simp only [sp,sq]
 refine bR 11 fun K hK=>?_;go_simp;refine hK.out _ _ ?_;clear hK K
 try simp only [sp,sq]
 refine bU _ ?_;obtain⟨W1,hW1⟩:∃W1,(w.alloc (.cells #[.int .i64 tk.kind,sv tk.text,.int .i64 tk.line,.int .i64 tk.col] 151)).drew=W1:=⟨_,rfl⟩
 rw [hW1];have hn1:=new1 w (.cells #[I tk.kind,sv tk.text,I tk.line,I tk.col] 151);have hb1:Below w.heap.size w W1:=by rw [<-hW1];exact hn1.trans ((aP _ 1).mono hn1.size)
 have htb:W1.heap[w.heap.size]? =some (.cells #[I tk.kind,sv tk.text,I tk.line,I tk.col] 151):=by rw [<-hW1,show ∀X:World,X.drew.heap=X.heap from fun _=>rfl];exact xX w _
 have tb1:=Turn.of_below (F:=fun j=>j=bp) hb1;have hs1:=hb1.size;obtain⟨z0,z1,z2,z3,zz⟩:=aW htb;have hp1:=ah nY.o (Turn.of_below (F:=fun _=>False) hb1) id;clear p0 p1 p2 p3 p4 p5 pz;obtain⟨p0,p1,p2,p3,p4,p5,pz⟩:=gu hp1;have Y6:=aO hp1;have HB1:=aO hb1;have HH1:=aO (HH.o.below hb1);clear hW1 htb tb1 HS HS2 t0 t1 t2 t3 hp1 hb1 hn1;cases q with
 |bad g=>
  obtain⟨rfl,rfl,rfl,hg⟩:=hrel;have hge:(g.2.2==0)=false:=by simp [hg]
  obtain rfl:A=false:=HA.o.symm;clear hg;go_wp2_with fail;go_ret;exact⟨rfl,HB1.o⟩
 |good u ts=>
  obtain⟨rfl,hwf,rfl,rfl,rfl,rfl⟩:=hrel;have hA:A=kU tk s:=by rw [<-HA.o,Wj,jm hk,uD.o]
  obtain⟨tkk,tkx,tkl,tkc⟩:=tk;simp only at z0 z1 z2 z3;unfold kU at hA;simp only at hA;have HAA:=aO hA;clear hA hwf;cases h2:(tkk==2)
  ·cases h5:(tkk==5)
   ·obtain rfl:A=false:=by rw [HAA.o,h2,h5];rfl
    go_wp2_with fail;go_ret;exact⟨rfl,HB1.o⟩
   ·cases hx:(tkx==s)
    ·obtain rfl:A=false:=by rw [HAA.o,h2,h5,hx];rfl
     go_wp2_with fail;go_ret;exact⟨rfl,HB1.o⟩
    ·obtain rfl:A=true:=by rw [HAA.o,h2,h5,hx];rfl
     go_wp2_with fail;go_ret;exact⟨rfl,HB1.o⟩
  ·cases hx:(tkx==s)
   ·obtain rfl:A=false:=by rw [HAA.o,h2,hx];rfl
    go_wp2_with fail;go_ret;exact⟨rfl,HB1.o⟩
   ·obtain rfl:A=true:=by rw [HAA.o,h2,hx];rfl
    go_wp2_with fail;go_ret;exact⟨rfl,HB1.o⟩
theorem eX.step {w w':World}{bp B:Nat}{L:List aH}{d:Int}{u:Unit}{t:aH}{r:List aH}{b o c k:Nat}(h:eX w bp B L d (.good u (t :: r)))(hkind:t.kind≠0)(hblk:w.heap[bp]? =some (.cells #[(.slice (some ⟨b,o,none⟩) L.length c),I k,I d,I 0,I 0,I 0] 156 (0,0)))
  (hw:w'.heap[bp]? =some (.cells #[(.slice (some ⟨b,o,none⟩) L.length c),I ((k:Int)+1),I d,I 0,I 0,I 0] 156 (0,0))) (tn:Turn (fun j=>j=bp) w w'):eX w' bp B L d (.good () r):=by
 have hlt:=h.lt;have hB:=h.1;obtain⟨h1,h2,h3,v,k',dd,e,ln,cn,h4,h5,h6,h7,h8,h9,h10,rfl,rfl,rfl⟩:=h;rw [hblk]at h4;injection h4 with h4;injection h4 with h4 _;have e4:=congrArg (fun a=>a.toList) h4;simp only [List.cons.injEq,Value.int.injEq]at e4;obtain⟨e5,⟨_,e6⟩,_⟩:=e4;obtain rfl:k=k':=by omega
 subst e5;subst h10;have hd:=List.drop_eq_getElem_cons h6;rw [<-h8]at hd;injection hd with hd1 hd2;rw [h8]at h9;have hr:=TD h6 h9 (by rw [<-hd1];exact hkind);exact⟨h1,h2,h3,_,k+1,dd,0,0,0,by rw [Int.natCast_add];exact hw,Sl.below h5 (tn.below (by omega) (fun j hj e=>by omega)),hr.1,h7,hd2,by rw [hd2];exact hr.2,rfl,rfl,rfl,rfl⟩
theorem bE (w:World)(bp B:Nat)(L:List aH)(d:Int)(q:Pr Unit)(h:eX w bp B L d q)(s:Bt):
  Calls Tryz.prog 83 #[pP bp 0,sv s] w fun e w'=>e=.returned (.bool (qR (av q (bD s))))∧Turn (fun j=>j=bp) w w'∧eX w' bp B L d (gF (av q (bD s))):=by
 have HC:=aO (Wm w bp B L d q h s);obtain⟨A,hA⟩:∃A,qR (av q (bD s))=A:=⟨_,rfl⟩
 rw [hA]at HC;rw [hA];have hlt:=h.lt;have hB:=h.1;cases A with
 |false=>
  rw [(aS hA).1];have HH:=aO h;clear h hA;go_enter Tryz.func83,Tryz.ntmps83;go_wp2_with fail;refine(HC.o).mono ?_;rintro e w1 ⟨rfl,hb1⟩;go_wp2_with fail;go_ret;exact⟨rfl,Turn.of_below hb1,HH.o.below hb1⟩
 |true=>
  obtain⟨t,r,rfl,ht,hs⟩:=bf hA;rw [hs];have hkd:=Gy ht;have HH:=aO h;clear h hA hs ht;go_enter Tryz.func83,Tryz.ntmps83;go_wp2_with fail;refine(HC.o).mono ?_;rintro e w1 ⟨rfl,hb1⟩;have h1:=HH.o.below hb1;obtain⟨b,o,c,k,dd,e,ln,cn,hk,hlc,hc63,LK,hdd,⟨hrel,hwf,rfl,rfl,rfl,rfl⟩,hblk,t0,t1,t2,t3⟩:=h1.open_;obtain⟨p0,p1,p2,p3,p4,p5,pz⟩:=gu hblk;have hL:=h1.2.1.1;have hk2:(k:Int)+1<=9223372036854775807:=by omega
  have H1:=aO h1;have HB:=aO hblk;have HT:=aO (Turn.of_below (F:=fun j=>j=bp) hb1);clear h1 t0 t1 t2 t3 hrel hwf hb1 hblk;go_wp2_with fail;go_ret;have tw:=ak w1 bp 1 (I ((k:Int)+1));exact⟨rfl,ay HT.o tw,H1.o.step hkd HB.o (heap_setCell_same _ _ 1 _ _ _ HB.o) tw⟩
theorem Y8 {q:Pr Unit}{s:Bt}(h:qR (av q (bD s))=true):gF (av q (aC s))=gF (av q (bD s)):=by
 obtain⟨t,r,rfl,ht,hs⟩:=bf h;rw [hs];show gF (aC s (t :: r))= _;unfold aC;rw [au (uj ht r)];rfl
theorem aeo {q:Pr Unit}{s:Bt}(h:qR (av q (bD s))=false):gF (av q (aC s))=EL q 7:=by
 obtain⟨_,hn⟩:=aS h;unfold aC;rw [Nz hn];cases q <;> rfl
theorem dF (w:World)(bp B:Nat)(L:List aH)(d:Int)(q:Pr Unit)(h:eX w bp B L d q)(s:Bt):
  Calls Tryz.prog 85 #[pP bp 0,sv s] w fun e w'=>e=.returned (.tuple #[])∧Turn (fun j=>j=bp) w w'∧eX w' bp B L d (gF (av q (aC s))):=by
 have HC:=aO (bE w bp B L d q h s);obtain⟨A,hA⟩:∃A,qR (av q (bD s))=A:=⟨_,rfl⟩
 rw [hA]at HC;have hlt:=h.lt;cases A with
 |true=>
  rw [Y8 hA];clear h hA;go_enter Tryz.func85,Tryz.ntmps85;go_wp2_with fail;refine(HC.o).mono ?_;rintro e w1 ⟨rfl,tn,kn⟩;have HT:=aO tn;have HK:=aO kn;clear tn kn;go_wp2_with fail;go_end0;exact⟨rfl,HT.o,HK.o⟩
 |false=>
  rw [aeo hA];rw [(aS hA).1]at HC;clear h hA;go_enter Tryz.func85,Tryz.ntmps85;go_wp2_with fail;refine(HC.o).mono ?_;rintro e w1 ⟨rfl,tn,kn⟩;have HT:=aO tn;have HF:=aO (vO w1 bp B L d q kn 7);clear tn kn;go_wp2_with fail;refine(HF.o).mono ?_;rintro e w2 ⟨rfl,tn,kn⟩;have HT2:=aO (ay HT.o tn);have HK:=aO kn;clear tn kn;go_wp2_with fail;go_end0;exact⟨rfl,HT2.o,HK.o⟩
theorem Y9 {u:Unit}{t:aH}{r:List aH}(h:t.kind=1):av (.good u (t :: r):Pr Unit) nameP=.good t.text r:=by
 show nameP (t :: r)= _;unfold nameP dL;rw [if_pos (show(aR (t :: r)).kind=1 from h)];rfl
theorem aep {q:Pr Unit}(h:∀u ts,q=.good u ts->(aR ts).kind≠1):gF (av q nameP)=EL q 7∧∀a ts,av q nameP=.good a ts->([]:Bt)=a:=by
 cases q with
 |bad g=>exact⟨rfl,fun a ts h=>by cases h⟩
 |good u ts=>
  have hk:=h u ts rfl;have e:nameP ts=.bad ((aR ts).line,(aR ts).col,7):=by unfold nameP dL;rw [if_neg hk]
  exact⟨by rw [j4,e];rfl,fun a r h=>by rw [j4,e]at h;cases h⟩
theorem iG (w:World)(bp B:Nat)(L:List aH)(d:Int)(q:Pr Unit)(h:eX w bp B L d q):
  Calls Tryz.prog 84 #[pP bp 0] w (bT akm bp B L d w (av q nameP)):=by
 have hlt:=h.lt;have hB:=h.1;have hh:=h;obtain⟨b,o,c,k,dd,e,ln,cn,hk,hlc,hc63,LK,hdd,hrel,hblk,t0,t1,t2,t3⟩:=h.open_;obtain⟨p0,p1,p2,p3,p4,p5,pz⟩:=gu hblk;have hki:(k:Int)<L.length:=by omega
 have hbb:¬b=bp:=by omega
 have Y5:¬bp=b:=by omega
 obtain⟨tk,htk⟩:∃tk,L[k]=tk:=⟨_,rfl⟩
 rw [htk]at t0 t1 t2 t3;have uD:=aO htk;have HH:=aO hh;have nY:=aO hblk;clear htk hh h hblk;have HF:=aO (fun w1 h1=>vO w1 bp B L d q h1 7);obtain⟨R,hR⟩:∃R,av q nameP=R:=⟨_,rfl⟩
 rw [hR];have HR:=aO hR;clear hR;go_enter Tryz.func84,Tryz.ntmps84;have HS:bq ((w.drew).cell? ⟨bp,0,none⟩=some (.slice (some ⟨b,o,none⟩) L.length c)∧(w.drew).cell? ⟨bp,1,none⟩=some (I k)∧((w.drew).cell? ⟨b,o+k*4,none⟩=some (I tk.kind)∧(w.drew).cell? ⟨b,o+k*4+1,none⟩=some (sv tk.text)∧(w.drew).cell? ⟨b,o+k*4+2,none⟩=some (I tk.line)∧(w.drew).cell? ⟨b,o+k*4+3,none⟩=some (I tk.col))):=aO ⟨p0,p1,t0,t1,t2,t3⟩;go_wp2_with fail;refine bM (S:=fun w'=>w'.cell? ⟨bp,0,none⟩=some (.slice (some ⟨b,o,none⟩) L.length c)∧w'.cell? ⟨bp,1,none⟩=some (I k)∧(w'.cell? ⟨b,o+k*4,none⟩=some (I tk.kind)∧w'.cell? ⟨b,o+k*4+1,none⟩=some (sv tk.text)∧w'.cell? ⟨b,o+k*4+2,none⟩=some (I tk.line)∧w'.cell? ⟨b,o+k*4+3,none⟩=some (I tk.col))) (x:=11) (by kernel_rfl) ?_
 try simp only [sp,sq]
 refine tx 0 (pP bp 0) HS.o ?_;refine tx 1 (pP bp 0) HS.o ?_;refine tx 2 (pP bp 0) HS.o ?_;refine jw 3 (.slice (some ⟨b,o,none⟩) L.length c) (fun _ h=>h.1) HS.o ?_;refine tx 4 (pP bp 0) HS.o ?_;refine tx 5 (pP bp 0) HS.o ?_;refine tx 6 (pP bp 1) HS.o ?_;refine jw 7 (I k) (fun _ h=>h.2.1) HS.o ?_;refine tx 8 (pP b (o+k*4)) HS.o ?_;refine jw 9 (.agg #[I tk.kind,sv tk.text,I tk.line,I tk.col]) (fun _ h=>h.2.2) HS.o ?_;refine bB 10 fun K hK=>?_;go_simp;have tz:=Turn.alloc (fun _=>False) w.drew (.cells #[I 0,S0,I 0,I 0] 151);have hs:=HS.o;have HS2:=aO (⟨aK hs.1 tz id,aK hs.2.1 tz id,aK hs.2.2.1 tz id,aK hs.2.2.2.1 tz id,aK hs.2.2.2.2.1 tz id,aK hs.2.2.2.2.2 tz id⟩: _∧ _∧ _∧ _∧ _∧ _);clear tz hs;refine hK.out _ _ HS2.o ?_;clear hK K
 try simp only [sp,sq]
 refine bR 11 fun K hK=>?_;go_simp;refine hK.out _ _ ?_;clear hK K
 try simp only [sp,sq]
 refine bU _ ?_;obtain⟨W1,hW1⟩:∃W1,(w.alloc (.cells #[.int .i64 tk.kind,sv tk.text,.int .i64 tk.line,.int .i64 tk.col] 151)).drew=W1:=⟨_,rfl⟩
 rw [hW1];have hn1:=new1 w (.cells #[I tk.kind,sv tk.text,I tk.line,I tk.col] 151);have hb1:Below w.heap.size w W1:=by rw [<-hW1];exact hn1.trans ((aP _ 1).mono hn1.size)
 have htb:W1.heap[w.heap.size]? =some (.cells #[I tk.kind,sv tk.text,I tk.line,I tk.col] 151):=by rw [<-hW1,show ∀X:World,X.drew.heap=X.heap from fun _=>rfl];exact xX w _
 have tb1:=Turn.of_below (F:=fun j=>j=bp) hb1;have hs1:=hb1.size;obtain⟨z0,z1,z2,z3,zz⟩:=aW htb;have hp1:=ah nY.o (Turn.of_below (F:=fun _=>False) hb1) id;clear p0 p1 p2 p3 p4 p5 pz;obtain⟨p0,p1,p2,p3,p4,p5,pz⟩:=gu hp1;have Y6:=aO hp1;have HB1:=aO hb1;have HH1:=aO (HH.o.below hb1);clear hW1 htb tb1 HS HS2 t0 t1 t2 t3 hp1 hb1 hn1;by_cases hyes:e=0∧tk.kind=1
 ·obtain⟨rfl,hk1⟩:=hyes;cases q with
  |bad g=>exact absurd hrel.1.symm hrel.2.2.2
  |good u ts=>
   obtain⟨hts,hwf,rfl,_,rfl,rfl⟩:=hrel;have aA3:(tk.kind==1)=true:=by simp [hk1]
   have hL:=HH1.o.2.1.1;have hk2:(k:Int)+1<=9223372036854775807:=by omega
   rw [List.drop_eq_getElem_cons hk,uD.o]at hts;subst hts;have iR:=aO hk1;clear hk1 hwf;go_wp2_with fail;go_ret;have tw:=ak W1 bp 1 (I ((k:Int)+1));have hst:=HH1.o.step (by rw [iR.o];decide) Y6.o (heap_setCell_same _ _ 1 _ _ _ Y6.o) tw;have hR:=HR.o;rw [Y9 iR.o]at hR;subst hR;exact⟨(Turn.of_below (F:=fun j=>j=bp) HB1.o).trans tw,_,tk.text,rfl,rfl,(fun a ts h=>by injection h),hst⟩
 ·have hno:∀u ts,q=.good u ts->(aR ts).kind≠1:=fun u ts hq hk1=>by
   subst hq;obtain⟨rfl,_,_,rfl,_⟩:=hrel;rw [jm hk,uD.o]at hk1;exact hyes ⟨rfl,hk1⟩
  obtain⟨n1,n2⟩:=aep hno;have N1:=aO n1;have N2:=aO n2;have KI:=HF.o W1 HH1.o;have QJ:=aO KI;clear n1 n2 hno KI hrel;by_cases he:e=0
  ·subst he;have hk1:(tk.kind==1)=false:=by simp;exact fun h=>hyes ⟨rfl,h⟩
   clear hyes;go_wp2_with fail;refine(QJ.o).mono ?_;rintro e9 w2 ⟨rfl,tn,kn⟩;have HT2:=aO ((Turn.of_below (F:=fun j=>j=bp) HB1.o).trans tn);have HK:=aO kn;clear tn kn;go_wp2_with fail;go_ret;rw [<-HR.o];exact⟨HT2.o,_,[],rfl,rfl,N2.o,by rw [N1.o];exact HK.o⟩
  ·have he0:(e==0)=false:=by simp [he]
   clear hyes he;go_wp2_with fail;refine(QJ.o).mono ?_;rintro e9 w2 ⟨rfl,tn,kn⟩;have HT2:=aO ((Turn.of_below (F:=fun j=>j=bp) HB1.o).trans tn);have HK:=aO kn;clear tn kn;go_wp2_with fail;go_ret;rw [<-HR.o];exact⟨HT2.o,_,[],rfl,rfl,N2.o,by rw [N1.o];exact HK.o⟩
theorem DK (w:World)(bp B:Nat)(L:List aH)(d:Int)(u:Unit)(ts:List aH)(h:eX w bp B L d (.good u ts))(h0:0<=d)(h1:d<100):
  Calls Tryz.prog 144 #[pP bp 0] w fun e w'=>e=.returned (.bool true)∧Turn (fun j=>j=bp) w w'∧eX w' bp B L (d+1) (.good u ts):=by
 have hlt:=h.lt;have hB:=h.1;have hh:=h;obtain⟨b,o,c,k,dd,e,ln,cn,hk,hlc,hc63,LK,hdd,hrel,hblk,t0,t1,t2,t3⟩:=h.open_;obtain⟨p0,p1,p2,p3,p4,p5,pz⟩:=gu hblk;have hki:(k:Int)<L.length:=by omega
 have hbb:¬b=bp:=by omega
 have Y5:¬bp=b:=by omega
 obtain⟨hts,hwf,rfl,rfl,rfl,rfl⟩:=hrel;have HH:=aO hh;have HB:=aO hblk;have HTS:=aO hts;have wQ:=aO hwf;clear hh h hblk hts hwf t0 t1 t2 t3;go_enter Tryz.func144,Tryz.ntmps144;go_wp2_with fail;go_ret;have tw:=ak w bp 2 (I (dd+1));obtain⟨g1,g2,g3,v,k',dd',e',ln',cn',g4,g5,g6⟩:=HH.o;rw [HB.o]at g4;injection g4 with g4;injection g4 with g4 _;have e4:=congrArg (fun a=>a.toList) g4;simp only [List.cons.injEq,Value.int.injEq]at e4;obtain⟨e5,_⟩:=e4;subst e5;exact⟨rfl,tw,g1,g2,g3,_,k,dd+1,0,0,0,heap_setCell_same _ _ 2 _ _ _ HB.o,Sl.below g5 (tw.below (by omega) (fun j hj e=>by omega)),hk,by unfold In64 at*;omega,HTS.o,wQ.o,rfl,rfl,rfl,rfl⟩
def anV (d:Int)(q:Pr Unit):Prop:=(∃g,q=.bad g)∨d=100
theorem DL (w:World)(bp B:Nat)(L:List aH)(d:Int)(q:Pr Unit)(h:eX w bp B L d q)(hn:anV d q):
  Calls Tryz.prog 144 #[pP bp 0] w fun e w'=>e=.returned (.bool false)∧Turn (fun j=>j=bp) w w'∧eX w' bp B L d (EL q 6):=by
 have hlt:=h.lt;have hB:=h.1;have hh:=h;obtain⟨b,o,c,k,dd,e,ln,cn,hk,hlc,hc63,LK,hdd,hrel,hblk,t0,t1,t2,t3⟩:=h.open_;obtain⟨p0,p1,p2,p3,p4,p5,pz⟩:=gu hblk;have hki:(k:Int)<L.length:=by omega
 have hbb:¬b=bp:=by omega
 have Y5:¬bp=b:=by omega
 have HF:=aO (vO w bp B L d q h 6);clear h t0 t1 t2 t3;have hsome:∃g,EL q 6=.bad g:=by cases q <;> exact⟨_,rfl⟩
 by_cases aA4:100<=dd
 ·skip
  go_enter Tryz.func144,Tryz.ntmps144;go_wp2_with fail;refine(HF.o).mono ?_;rintro e1 w1 ⟨rfl,tn,kn⟩;have HT:=aO tn;have HK:=aO kn;obtain⟨g,hg⟩:=hsome;rw [hg]at kn;obtain⟨b',o',c',k',dd',e',ln',cn',hk',_,_,_,_,⟨rfl,rfl,rfl,hgn⟩,hblk',_⟩:=kn.open_;obtain⟨y0,y1,y2,y3,y4,y5,yz⟩:=gu hblk';have hge:(g.2.2 != 0)=true:=by simp [hgn]
  clear tn kn hblk' hg hgn;go_wp2_with fail;go_ret;exact⟨rfl,HT.o,HK.o⟩
 ·skip
  have hq:∃g,q=.bad g:=by
   rcases hn with hn |hn
   ·exact hn
   ·cases q with
    |bad g=>exact⟨g,rfl⟩
    |good u ts=>exact absurd hrel.2.2.1 (by omega)
  obtain⟨g,rfl⟩:=hq;obtain⟨rfl,rfl,rfl,hgn⟩:=hrel;have hge:(g.2.2 != 0)=true:=by simp [hgn]
  have HH:=aO hh;clear hgn hsome hn HF hh;go_enter Tryz.func144,Tryz.ntmps144;go_wp2_with fail;go_ret;exact⟨rfl,Turn.refl _ _,HH.o⟩
theorem eX.up {w w':World}{bp B:Nat}{L:List aH}{d:Int}{q:Pr Unit}{v:Value}{k:Nat}{dd e:Int}{ln cn:Nat}(h:eX w bp B L (d+1) q)(h0:0<=d)(h1:d<100)(hblk:w.heap[bp]? =some (.cells #[v,I k,I dd,I e,I ln,I cn] 156 (0,0)))
  (hw:w'=w.setCell ⟨bp,2,none⟩ (I (wrap64 (dd - 1)))):eX w' bp B L d q:=by
 subst hw;have hlt:=h.lt;have hB:=h.1;have tw:=ak w bp 2 (I (wrap64 (dd - 1)));obtain⟨g1,g2,g3,v',k',dd',e',ln',cn',g4,g5,g6,g7,g8⟩:=h;rw [hblk]at g4;injection g4 with g4;injection g4 with g4 _;have e4:=congrArg (fun a=>a.toList) g4;simp only [List.cons.injEq,Value.int.injEq]at e4;obtain⟨e1,⟨_,e6⟩,⟨_,e2⟩,⟨_,e3⟩,⟨_,e7⟩,⟨_,e8⟩,_⟩:=e4;obtain rfl:k=k':=by omega
 obtain rfl:ln=ln':=by omega
 obtain rfl:cn=cn':=by omega
 subst e1 e2 e3;refine⟨g1,g2,g3,_,k,wrap64 (dd - 1),e,ln,cn,heap_setCell_same _ _ 2 _ _ _ hblk,Sl.below g5 (tw.below (by omega) (fun j hj e=>by omega)),g6,by unfold In64 wrap64 at*;omega,?_⟩;cases q with
 |bad g=>exact g8
 |good u ts=>exact⟨g8.1,g8.2.1,by have:=g8.2.2.1;unfold wrap64;omega,g8.2.2.2⟩
theorem zu (w:World)(bp B:Nat)(L:List aH)(d:Int)(q:Pr Unit)(h:eX w bp B L d q)(kd:Int):
  Calls Tryz.prog 186 #[pP bp 0,I kd] w fun e w'=>Below w.heap.size w w'∧∃t:aH,e=.returned (.agg (sH kd t))∧∀u ts,q=.good u ts->aR ts=t:=by
 have hlt:=h.lt;have hB:=h.1;have hh:=h;obtain⟨b,o,c,k,dd,e,ln,cn,hk,hlc,hc63,LK,hdd,hrel,hblk,t0,t1,t2,t3⟩:=h.open_;obtain⟨p0,p1,p2,p3,p4,p5,pz⟩:=gu hblk;have hki:(k:Int)<L.length:=by omega
 have hbb:¬b=bp:=by omega
 have Y5:¬bp=b:=by omega
 obtain⟨tk,htk⟩:∃tk,L[k]=tk:=⟨_,rfl⟩
 rw [htk]at t0 t1 t2 t3;have uD:=aO htk;have HH:=aO hh;have nY:=aO hblk;clear htk hh h hblk;have HQ:bq (∀u ts,q=.good u ts->aR ts=tk):=aO (fun u ts hq=>by subst hq;rw [hrel.1,jm hk,uD.o]);clear hrel;obtain⟨W1,hW1⟩:∃W1,w.alloc (.cells #[.int .i64 0,.string ⟨#[]⟩,.int .i64 0,.int .i64 0,.int .i64 0,.slice none 0 0,.slice none 0 0,.slice none 0 0] 70)=W1:=⟨_,rfl⟩
 have hb1:Below w.heap.size w W1:=by rw [<-hW1];exact new1 w _
 have hrs:=xX w (.cells Z80 70);rw [hW1]at hrs;have tz:=Turn.of_below (F:=fun _=>False) hb1;have u0:=aK p0 tz id;have u1:=aK p1 tz id;have u2:=aK t2 tz id;have u3:=aK t3 tz id;have HW1:=aO hW1;have HB1:=aO hb1;have QI:=aO hrs;obtain⟨z0,z1,z2,z3,z4,z5,z6,z7,zz⟩:=aD hrs;clear hW1 hb1 hrs tz p0 p1 p2 p3 p4 p5 pz t0 t1 t2 t3;go_enter Tryz.func186,Tryz.ntmps186;go_wp2_with fail;rw [HW1.o];have HS:bq ((W1.drew).cell? ⟨bp,0,none⟩=some (.slice (some ⟨b,o,none⟩) L.length c)∧(W1.drew).cell? ⟨bp,1,none⟩=some (I k)∧(W1.drew).cell? ⟨b,o+k*4+2,none⟩=some (I tk.line)∧(W1.drew).cell? ⟨b,o+k*4+3,none⟩=some (I tk.col)):=aO ⟨u0,u1,u2,u3⟩;clear u0 u1 u2 u3;refine bM (S:=fun w'=>w'.cell? ⟨bp,0,none⟩=some (.slice (some ⟨b,o,none⟩) L.length c)∧w'.cell? ⟨bp,1,none⟩=some (I k)∧w'.cell? ⟨b,o+k*4+2,none⟩=some (I tk.line)∧w'.cell? ⟨b,o+k*4+3,none⟩=some (I tk.col)) (x:=24) (by kernel_rfl) ?_
 try simp only [sp,sq]
 refine tx 0 (I kd) HS.o ?_;refine tx 1 (pP bp 0) HS.o ?_;refine tx 2 (pP bp 0) HS.o ?_;refine tx 3 (pP bp 0) HS.o ?_;refine jw 4 (.slice (some ⟨b,o,none⟩) L.length c) (fun _ h=>h.1) HS.o ?_;refine tx 5 (pP bp 0) HS.o ?_;refine tx 6 (pP bp 0) HS.o ?_;refine tx 7 (pP bp 1) HS.o ?_;refine jw 8 (I k) (fun _ h=>h.2.1) HS.o ?_;refine tx 9 (pP b (o+k*4)) HS.o ?_;refine tx 10 (pP b (o+k*4+2)) HS.o ?_;refine jw 11 (I tk.line) (fun _ h=>h.2.2.1) HS.o ?_;refine tx 12 (pP bp 0) HS.o ?_;refine tx 13 (pP bp 0) HS.o ?_;refine tx 14 (pP bp 0) HS.o ?_;refine jw 15 (.slice (some ⟨b,o,none⟩) L.length c) (fun _ h=>h.1) HS.o ?_;refine tx 16 (pP bp 0) HS.o ?_;refine tx 17 (pP bp 0) HS.o ?_;refine tx 18 (pP bp 1) HS.o ?_;refine jw 19 (I k) (fun _ h=>h.2.1) HS.o ?_;refine tx 20 (pP b (o+k*4)) HS.o ?_;refine tx 21 (pP b (o+k*4+3)) HS.o ?_;refine jw 22 (I tk.col) (fun _ h=>h.2.2.2) HS.o ?_;refine tx 23 (.agg (sH kd tk)) HS.o ?_;refine bR 24 fun K hK=>?_;go_simp;refine hK.out _ _ ?_;clear hK K
 try simp only [sp,sq]
 refine bU _ ?_;go_wp2_with fail;have tF:=bF W1 w.heap.size (I kd) S0 (I 0) (I tk.line) (I tk.col) Z Z Z;refine bodyPost_ret (aL rfl rfl (by rw [show ∀X:World,X.drew.heap=X.heap from fun _=>rfl];exact aX QI.o _ _ _ _ _ _ _ _) Tryz.underlying70 rfl) rfl ?_;refine⟨(HB1.o.trans (tF.below (by have:=HB1.o.size;omega) (fun j hj e=>by omega))).trans ((aP _ 1).mono (by have:=HB1.o.size;have:=tF.size;omega)),tk,rfl,HQ.o⟩
theorem zw {α:Type}{R:World->(Nat->Prop)->List Value->α->Prop}{k:Nat}(hR:uo R k)(hk:0<k){e:TypeId}{base bp cb ci g:Nat}{F:Nat->Prop}{w w6 w7:World}{v v7:Value}{l:List α}{x:α}{z ys zs:List Value}{n7:Nat}
  (hy:w.ownsRow base e k v l.length ys) (hr:fA (R w (tL F v)) k ys l) (t:Turn (fun j=>j=bp) w w6) (hx:R w6 (fun j=>w.heap.size<=j) z x) (hzs:zs.length=k) (h7:w7.ownsRow base e k v7 n7 (ys++zs)) (hg:w6.grownBy w7 v.ownBlock)
  (hbk:v7.ownBlock=v.ownBlock∨v7.ownBlock=some w6.heap.size) (hv:v7.ownBlock=some g) (hcb:cb<base) (hbp:¬F bp) (hcF:¬F cb) (hF:∀j,w.heap.size<=j->F j) (hbs:base<=w.heap.size) (w8:World)
  (h8:w8=(pO w7 g (l.length*k) z).setCell ⟨cb,ci,none⟩ v7∨w8=pO (w7.setCell ⟨cb,ci,none⟩ v7) g (l.length*k) z):
  eO R k e w8 base F v7 (l++[x])∧Turn (fun j=>v.ownBlock=some j∨j=cb) w6 w8∧Turn (fun j=>j=g∨j=cb) w7 w8∧(∀cs T,w7.heap[cb]? =some (.cells cs T (0,0))->w8.heap[cb]? =some (.cells (cs.setIfInBounds ci v7) T (0,0)))∧(∀j,j<w6.heap.size->v7.ownBlock=some j->v.ownBlock=some j):=by
 have hz:z.length=k:=hR.len hx;have hyl:ys.length=l.length*k:=hy.1;have hs6:=t.size;have ku:=h7.lt g hv;have tg:=Turn.aZ hg (F:=fun j=>v.ownBlock=some j) (fun k h=>h);have hkl:=hy.lt;have hgn:∀j,j<w6.heap.size->j=g->v.ownBlock=some j:=fun j hj e=>by
  subst e;rcases hbk with hb |hb
  ·rw [<-hb];exact hv
  ·rw [hb]at hv;injection hv with hv;omega
 have tp:=fun(w:World)=>gN g z w (l.length*k);have ts:=fun(w:World)=>ak w cb ci v7;have hgc:g≠cb:=by omega
 have t78:Turn (fun j=>j=g∨j=cb) w7 w8:=by
  rcases h8 with rfl |rfl
  ·exact((tp w7).mono (G:=fun j=>j=g∨j=cb) fun _ _ h=>.inl h).trans (ts _) (fun _ _ h=>.inr h)
  ·exact((ts w7).mono (G:=fun j=>j=g∨j=cb) fun _ _ h=>.inr h).trans (tp _) (fun _ _ h=>.inl h)
 have t68:Turn (fun j=>v.ownBlock=some j∨j=cb) w6 w8:=(tg.mono (G:=fun j=>v.ownBlock=some j∨j=cb) fun _ _ h=>.inl h).trans t78 (fun i hi e=>by
  rcases e with e |e
  ·exact .inl (hgn i hi e)
  ·exact .inr e)
 have hrow:w8.ownsRow base e k v7 n7 (ys++z):=by
  rcases h8 with rfl |rfl
  ·exact dS (F7 h7 hv (by omega) hyl) (ts _) (fun k hk e=>by rw [hv]at hk;injection hk with hk;omega)
  ·exact F7 (dS h7 (ts _) (fun k hk e=>by rw [hv]at hk;injection hk with hk;omega)) hv (by omega) hyl
 refine⟨eO.push hR hy hr t hx t68 (fun j hj e=>?_) (hbk.imp id fun e=>⟨_,Nat.le_refl _,e⟩) hrow hk hbp hF,t68,t78,fun cs T hb=>?_,fun j hj e=>hgn j hj (by rw [hv]at e;injection e with e;omega)⟩
 ·rcases e with e |e
  ·exact .inl e
  ·exact .inr ⟨by rw [e];exact hcF,by omega⟩
 ·rcases h8 with rfl |rfl
  ·exact heap_setCell_same _ _ ci _ _ _ (ah hb (tp _))
  ·exact ah (heap_setCell_same _ _ ci _ _ _ hb) (tp _)
end Go.Proofs.YtncnnedlgofccaaGreatDoor
