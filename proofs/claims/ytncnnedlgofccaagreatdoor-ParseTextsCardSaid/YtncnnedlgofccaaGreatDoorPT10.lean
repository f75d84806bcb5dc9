/- FD, FE, FF, FG, FJ, FK -/
import Derived.Test.YtncnnedlgofccaaGreatDoorPT08
import Derived.Test.YtncnnedlgofccaaGreatDoorPT09
set_option linter.unusedSimpArgs false
set_option linter.unusedVariables false
set_option maxRecDepth 100000
set_option maxHeartbeats 4000000
namespace Go.Proofs.YtncnnedlgofccaaGreatDoor
open Go.RowKit
theorem V6 (w:World)(bp B:Nat)(ts:List aH)(d:Int)(h:cu w bp B ts d)(p:Nat)(hp:w.cell? ⟨p,0,none⟩=some (pP bp 0))(s:Bt):
  Calls Tryz.prog 166 #[sv s,pP p 0] w fun e w'=>e=.returned (.bool (kU (aR ts) s))∧Below w.heap.size w w':=by
 have HN:=aO (nN w bp B ts d h);clear h;generalize aR ts=t at*
 have HI:=aO (fun w1=>Rl w1 t s);go_enter Tryz.func166,Tryz.ntmps166;go_wp2_with fail;refine HN.o.mono ?_;rintro e w1 ⟨rfl,hb⟩;have HB:=aO hb;clear hb hp;go_wp2_with fail;refine(HI.o _).mono ?_;rintro e w2 ⟨rfl,hb⟩;have HB2:=aO (HB.o.trans (hb.mono HB.o.size));clear hb;go_wp2_with fail;go_ret;exact⟨rfl,HB2.o⟩
def akl (o:Option Nat):Int:=match o with |some i=>(i:Int) |none=> -1
theorem V7 {p:Bt->Bool}{l:List Bt}{k:Nat}(hk:k<l.length)(h:(l.take k).findIdx? p=none):(l.take (k+1)).findIdx? p=if p l[k]then some k else none:=by
 rw [List.take_succ_eq_append_getElem hk,List.findIdx?_append,h];have:(l.take k).length=k:=by rw [List.length_take];omega
 cases hp:p l[k] <;> simp [hp,this]
theorem Rn {p:Bt->Bool}{l:List Bt}{k j:Nat}(h:(l.take k).findIdx? p=some j):l.findIdx? p=some j:=by
 rw [<-List.take_append_drop k l,List.findIdx?_append,h];rfl
theorem Ro (w:World)(bp B:Nat)(ts:List aH)(d:Int)(h:cu w bp B ts d)(p:Nat)(hp:w.cell? ⟨p,0,none⟩=some (pP bp 0))(v:Value)(l:List Bt)(hv:Ss w w.heap.size v l)(hl:l.length<=100000):
  Calls Tryz.prog 165 #[v,.func (.func 166) #[] #[pP p 0]] w fun e w'=>e=.returned (I (akl (l.findIdx? (kU (aR ts)))))∧Below w.heap.size w w':=by
 obtain⟨A,c,rfl,hn,hc,hx⟩:=hv.open_;unfold maxLen at hc;have hx:0<l.length->∃b off,A=some ⟨b,off,none⟩∧b<w.heap.size∧∀(j:Nat) (s:Bt),l[j]? =some s->w.cell? ⟨b,off+j,none⟩=some (sv s):=fun h0=>by
  obtain⟨b,o,h1,h2,h3⟩:=hx h0;refine⟨b,o,h1,h2,fun j s hj=>?_⟩;obtain⟨hj1,rfl⟩:=List.getElem?_eq_some_iff.1 hj;exact h3 j hj1
 have HT:=aO (fun(w1:World) (hb:Below w.heap.size w w1) (s:Bt)=>V6 w1 bp B ts d (h.below hb) p (kb hb hp) s);have HX:=aO hx;clear h hp hv hx;generalize aR ts=t at*
 obtain⟨m,hm⟩:∃m,l.length=m:=⟨_,rfl⟩
 rw [hm]at hn HX hl;rw [hm];have HM:=aO hm;clear hm;go_enter Tryz.func165,Tryz.ntmps165;go_wp2_with fail;go_loopw [8] (fun v8 wr=>∃k:Nat,v8=I k∧k<=m∧(l.take k).findIdx? (kU t)=none∧Below w.heap.size w wr) (fun v8 _=>m - (intOf v8).toNat)
 case atStart=>exact⟨0,rfl,by omega,rfl,Below.refl _ _⟩
 case round=>
  obtain⟨k,rfl,hk,hinv,hbr⟩:=hrel;have HB:=aO hbr;by_cases hlt:k<m
  ·have hlt':k<l.length:=by rw [HM.o];exact hlt
   obtain⟨b,o,rfl,hb,hcell⟩:=HX.o (by omega);obtain⟨s,hs⟩:∃s,l[k]? =some s:=⟨_,List.getElem?_eq_getElem hlt'⟩
   have hst:=V7 hlt' hinv;rw [(List.getElem?_eq_some_iff.1 hs).2]at hst;have d0:=kb hbr (hcell k s hs);have HC:=aO (HT.o wr hbr s);clear hs;have HI:=aO hinv;clear hinv hbr;cases hq:kU t s
   ·rw [hq]at HC hst;have HS:=aO hst;clear hst hq;go_wp2_with fail;refine HC.o.mono ?_;rintro e w2 ⟨rfl,hb2⟩;have HB2:=aO (HB.o.trans (hb2.mono HB.o.size));clear hb2 d0;go_wp2_with fail
    go_roundw
    case rel=>exact⟨k+1,rfl,by omega,HS.o,HB2.o⟩
    case measure=>simp [intOf];omega
   ·rw [hq]at HC hst;have HS:=aO (Rn hst);clear hst hq;go_wp2_with fail;refine HC.o.mono ?_;rintro e w2 ⟨rfl,hb2⟩;have HB2:=aO (HB.o.trans (hb2.mono HB.o.size));clear hb2 d0;go_wp2_with fail;go_ret;exact⟨by rw [HS.o];rfl,HB2.o⟩
  ·obtain rfl:k=m:=by omega
   rw [List.take_of_length_le (by rw [HM.o];exact Nat.le_refl _)]at hinv;have HI:=aO hinv;clear hinv hbr;go_wp2_with fail;go_ret;exact⟨by rw [HI.o];rfl,HB.o⟩
theorem aK {w w':World}{G:Nat->Prop}{b o:Nat}{v:Value}(h:w.cell? ⟨b,o,none⟩=some v)(t:Turn G w w')(hd:¬G b:=by omega):w'.cell? ⟨b,o,none⟩=some v:=by
 have hb:=t.block (World.block_lt_of_cell? w _ h) hd;simp only [World.cell?,hb]at h ⊢;exact h
def afY (w:World)(v:Value)(o:Option Nat):Prop:=v=.tuple #[I ((o.getD 0:Nat):Int),.bool o.isSome]
theorem Cb (w:World)(bp B:Nat)(ts:List aH)(d:Int)(h:cu w bp B ts d)(v:Value)(l:List Bt)(hv:Ss w w.heap.size v l)(hl:l.length<=100000):
  Calls Tryz.prog 119 #[pP bp 0,v] w (aJ afY bp B d w (dK l ts)):=by
 have hlt:=h.lt;obtain⟨W,hW⟩:∃W,w.alloc (.cells #[.pointer (some ⟨bp,0,none⟩)] 198)=W:=⟨_,rfl⟩
 have hb1:Below w.heap.size w W:=by rw [<-hW];exact o9 _ _
 have hbt:W.heap[w.heap.size]? =some (.cells #[pP bp 0] 198 (0,0)):=by rw [<-hW];exact heap_alloc_new _ _
 have hbc:W.cell? ⟨w.heap.size,0,none⟩=some (pP bp 0):=(dY hbt)
 have hT:=h.below hb1;have HI:=aO (Ro W bp B ts d hT w.heap.size hbc v l (Sl.more (Sl.below hv hb1) hb1.size) hl);have HB:=aO hb1;have HT:=aO hT;have HW:=aO hW;have HBC:=aO hbc;obtain⟨A,c,rfl,hn,hc,hx0⟩:=hv.open_;clear hx0;unfold maxLen at hc;have hw:=h.wf;clear h hv hb1 hT hW hbt hbc;rcases hq:l.findIdx? (kU (aR ts))with _ |i
 ·rw [hq]at HI;have HQ:bq (dK l ts=.good none ts):=aO (by unfold dK;rw [hq]);have wQ:=aO hw;clear hq hw;generalize l.length=m at*
  go_enter Tryz.func119,Tryz.ntmps119;go_wp2_with fail;rw [HW.o];refine HI.o.mono ?_;rintro e w2 ⟨rfl,hb⟩;have HB2:=aO (HB.o.trans (hb.mono HB.o.size));have HT2:=aO (HT.o.below hb);clear hb;unfold akl;go_wp2_with fail
  go_ret2
  exact aJ.done HQ.o (Turn.of_below HB2.o) rfl HT2.o
 ·rw [hq]at HI;obtain⟨t,r,rfl⟩:∃t r,ts=t :: r:=by
   rcases hw.cases with⟨e,rfl,_⟩ |⟨t,r,rfl,_⟩
   ·exact⟨e,[],rfl⟩
   ·exact⟨t,r,rfl⟩
  have HQ:bq (dK l (t :: r)=.good (some i) r):=aO (by unfold dK;rw [hq];rfl);have wQ:=aO hw;clear hq hw;generalize l.length=m at*
  go_enter Tryz.func119,Tryz.ntmps119;go_wp2_with fail;rw [HW.o];refine HI.o.mono ?_;rintro e w2 ⟨rfl,hb⟩;have HB2:=aO (HB.o.trans (hb.mono HB.o.size));have HT2:=aO (HT.o.below hb);have p0:=kb hb HBC.o;clear hb;unfold akl;obtain⟨b,o,c2,t',r',he,hc2,hcm2,hok,hB2,LK,hbk,hsl,d0,d1,z0,c0,c1,c2',c3⟩:=HT2.o.open_;injection he with he1 he2;subst he1 he2;obtain⟨A',hAb,hA',hrun⟩:=KA hsl;have nI:=aO ((HT2.o.tok hbk).behind (n':=r.length) (c':=c2 - 1) hAb);clear hAb;have HA:=aO hA';have HBK:=aO hbk;have Tq:=aO hok;have hne:¬w.heap.size=bp:=by omega
  have P0:=aO (fun(w':World) (h:Turn (fun j=>j=bp) w2 w')=>aK p0 h hne);have D0:=aO d0;have HD0:bq (Turn (fun j=>j=bp) w2 w2.drew):=aO ⟨rfl,rfl,rfl,Nat.le_refl _,fun _ _ _=>rfl⟩;clear hsl hbk hok hA' c0 c1 c2' c3 d1 p0;go_wp2_with fail;refine wp_region_held_drew (S:=fun w'=>Turn (fun j=>j=bp) w2 w') (by kernel_rfl) HD0.o (fun _=>?_)
  try simp only [sp,sq]
  refine jE 0 (pP bp 0) P0.o HD0.o ?_;refine jE 1 (pP bp 0) P0.o HD0.o ?_;refine tk 2 (pP bp 0) HD0.o ?_;refine tk 3 (pP bp 0) HD0.o ?_;refine dJ 4 fun K hK=>?_;go_simp;refine hK.out _ _ HD0.o (fun _=>?_);clear hK K
  try simp only [sp,sq]
  refine dJ 5 fun K hK=>?_;go_simp;refine hK.out _ _ HD0.o (fun _=>?_);clear hK K
  try simp only [sp,sq]
  refine tk 6 (pP bp 0) HD0.o ?_;refine tk 7 (pP bp 0) HD0.o ?_;refine dJ 8 fun K hK=>?_
  try rw [if_pos (by kernel_rfl)]
  go_simp;have uQ:bq (Turn (fun j=>j=bp) w2 (w2.drew.setCell ⟨bp,0,none⟩ (.slice A' r.length (c2 - 1)))):=aO (HD0.o.trans (ak _ _ _ _));refine hK.out _ _ uQ.o (fun _=>?_);clear hK K
  try simp only [sp,sq]
  refine eT _ ?_;go_wp2_with fail
  go_ret2
  refine aJ.done HQ.o ((Turn.of_below (F:=fun k=>k=bp) HB2.o).trans uQ.o) rfl ⟨hB2,Tq.o.tail,((Sf.kH l).good wQ.o HQ.o).1,_,heap_setCell_same _ bp 0 _ _ _ HBK.o,?_⟩;have hbw:=(uQ.o).below (B:=B) (by have:=HB2.o.size;omega) (fun k hk e=>by omega);exact⟨Sl.below HA.o hbw,HT2.o.laid.below hbw,nI.o.below hbw⟩
def anG (w:World)(v:Value)(b:Bool):Prop:=v=.bool b
def akm (w:World)(v:Value)(b:Bt):Prop:=v=sv b
def PUnit (w:World)(v:Value)(b:Unit):Prop:=True
theorem V8 (s:Bt)(ts:List aH):bD s ts=aj (dK [s]) (fun o=>aB o.isSome) ts:=by
 unfold bD aj dK;cases h:kU (aR ts) s <;> simp [h,aB]
theorem iU {l:List Bt}{ts:List aH}{g:Du}(h:dK l ts=.bad g):False:=by
 unfold dK at h;split at h <;> cases h
theorem mH (w:World)(bp B:Nat)(ts:List aH)(d:Int)(h:cu w bp B ts d)(s:Bt):
  Calls Tryz.prog 79 #[pP bp 0,sv s] w (aJ anG bp B d w (bD s ts)):=by
 obtain⟨W,hW⟩:∃W,w.alloc (.cells #[sv s] 9)=W:=⟨_,rfl⟩
 have hb1:Below w.heap.size w W:=by rw [<-hW];exact o9 _ _
 have hs:Ss W W.heap.size (.slice (some ⟨w.heap.size,0,none⟩) 1 1) [s]:=by rw [<-hW];exact(AA w s _).more (by simp)
 have HT:=aO (Cb W bp B ts d (h.below hb1) _ [s] hs (by simp));have HB:=aO hb1;have HW:=aO hW;obtain⟨Q,hQ⟩:∃Q,bD s ts=Q:=⟨_,rfl⟩
 rw [hQ];rw [V8]at hQ;have HQ:=aO hQ;clear hQ hs hb1 hW h;go_enter Tryz.func79,Tryz.ntmps79;go_wp2_with fail;rw [HW.o];refine HT.o.mono ?_;rintro e w2 h2;rcases hq:dK [s] ts with g |⟨o,r⟩
 ·exact(iU hq).elim
 obtain⟨v,rfl,t2,rfl,hR⟩:=h2.aQ hq;have kF:=aO (HQ.o.symm.trans (au hq));have HT2:=aO ((Turn.of_below (F:=fun k=>k=bp) HB.o).trans t2);have HR:=aO hR;clear h2 t2 hR hq;go_wp2_with fail;go_ret;exact aJ.done kF.o HT2.o rfl HR.o
theorem NC (w:World)(bp B:Nat)(ts:List aH)(d:Int)(h:cu w bp B ts d)(v:Value)(l:List Bt)(hv:Ss w w.heap.size v l)(hl:l.length<=100000):
  Calls Tryz.prog 135 #[pP bp 0,v] w (aJ PUnit bp B d w (jX l ts)):=by
 obtain⟨A,c,rfl,hn,hc,hx⟩:=hv.open_;unfold maxLen at hc;have hx:0<l.length->∃b off,A=some ⟨b,off,none⟩∧b<w.heap.size∧∀(j:Nat) (s:Bt),l[j]? =some s->w.cell? ⟨b,off+j,none⟩=some (sv s):=fun h0=>by
  obtain⟨b,o,h1,h2,h3⟩:=hx h0;refine⟨b,o,h1,h2,fun j s hj=>?_⟩;obtain⟨hj1,rfl⟩:=List.getElem?_eq_some_iff.1 hj;exact h3 j hj1
 have HX:=aO hx;have H0:=aO h;obtain⟨Q,hQ⟩:∃Q,jX l ts=Q:=⟨_,rfl⟩
 rw [hQ];have HQ:=aO hQ;clear h hv hx hQ;obtain⟨m,hm⟩:∃m,l.length=m:=⟨_,rfl⟩
 rw [hm]at hn HX hl;rw [hm];have HM:=aO hm;clear hm;go_enter Tryz.func135,Tryz.ntmps135;go_wp2_with fail;go_loopw [8] (fun v8 wr=>∃(k:Nat) (r:List aH),v8=I k∧k<=m∧jX (l.drop k) r=Q∧Turn (fun j=>j=bp) w wr∧cu wr bp B r d) (fun v8 _=>m - (intOf v8).toNat)
 case atStart=>exact⟨0,ts,rfl,by omega,HQ.o,Turn.refl _ _,H0.o⟩
 case round=>
  obtain⟨k,r,rfl,hk,hinv,htr,hR⟩:=hrel;have HT:=aO htr;by_cases hlt:k<m
  ·have hlt':k<l.length:=by rw [HM.o];exact hlt
   obtain⟨b,o,rfl,hb,hcell⟩:=HX.o (by omega);obtain⟨s,hs⟩:∃s,l[k]? =some s:=⟨_,List.getElem?_eq_getElem hlt'⟩
   have d00:=hcell k s hs;have d0:=aK d00 htr (H0.o.text d00);obtain⟨hj1,hj2⟩:=List.getElem?_eq_some_iff.1 hs;have hd:l.drop k=s :: l.drop (k+1):=by rw [<-hj2];exact List.drop_eq_getElem_cons hlt'
   rw [hd]at hinv;have HI:bq (aj (aC s) (fun _=>jX (l.drop (k+1))) r=Q):=aO hinv;have HH:=aO (mH wr bp B r d hR s);have HF:=aO (fun(w1:World) (r1:List aH) (h1:cu w1 bp B r1 d)=>zl w1 bp B r1 d 7 h1);clear hs hj1 hj2 hd hinv htr d00 hR hlt' hcell;rcases hq:bD s r with g |⟨o1,r1⟩
   ·exfalso;unfold bD at hq;split at hq <;> cases hq
   cases o1
   ·have lN:bq (aC s r=kI 7 r1):=aO (by unfold aC;rw [au hq];rfl);go_wp2_with fail;refine HH.o.mono ?_;rintro e w2 h2;obtain⟨v,rfl,t2,rfl,hR⟩:=h2.aQ hq;have HT2:=aO (HT.o.trans t2);have HR:=aO hR;clear h2 t2 hR hq;go_wp2_with fail;refine(HF.o _ _ HR.o).mono ?_;rintro e w3 ⟨rfl,hb3⟩;have HT3:=aO (fJ.below HT2.o HR.o.bp hb3);clear hb3;go_wp2_with fail;exact⟨rfl,aJ.fail (HI.o.symm.trans (aA (lN.o.trans rfl))) HT3.o⟩
   ·have lN:bq (aC s r=.good () r1):=aO (by unfold aC;rw [au hq];rfl);go_wp2_with fail;refine HH.o.mono ?_;rintro e w2 h2;obtain⟨v,rfl,t2,rfl,hR⟩:=h2.aQ hq;have HT2:=aO (HT.o.trans t2);have HR:=aO hR;clear h2 t2 hR hq;go_wp2_with fail
    go_roundw
    case rel=>exact⟨k+1,r1,rfl,by omega,(au lN.o).symm.trans HI.o,HT2.o,HR.o⟩
    case measure=>simp [intOf];omega
  ·obtain rfl:k=m:=by omega
   rw [List.drop_of_length_le (by rw [HM.o];exact Nat.le_refl _)]at hinv;have HI:=aO hinv;have HR:=aO hR;clear hinv htr hR;go_wp2_with fail;go_end0;exact aJ.done HI.o.symm HT.o trivial HR.o
theorem vG (w:World)(bp B:Nat)(ts:List aH)(d:Int)(h:cu w bp B ts d)(k:Int):
  Calls Tryz.prog 77 #[pP bp 0,I k] w (aJ akm bp B d w (dL k ts)):=by
 have HN:=aO (nN w bp B ts d h);have HF:=aO (fun(w1:World) (h1:cu w1 bp B ts d)=>zl w1 bp B ts d 7 h1);have H0:=aO h;have hlt:=h.lt;have hwf:=h.wf;clear h;by_cases hk:(aR ts).kind=k
 ·by_cases h0:k=0
  ·subst h0;have HQ:bq (dL 0 ts=.good (aR ts).text ts):=aO (by unfold dL;rw [if_pos hk];rfl);clear hwf;generalize aR ts=t at*
   obtain⟨tk_,tx,tl,tc⟩:=t;simp only at hk;subst hk;unfold wP at HN;go_enter Tryz.func77,Tryz.ntmps77;go_wp2_with fail;refine HN.o.mono ?_;rintro e w1 ⟨rfl,hb⟩;have HB:=aO hb;have HR:=aO (H0.o.below hb);clear hb;go_wp2_with fail;go_ret;exact aJ.done HQ.o (Turn.of_below (HB.o.alloc HB.o.size _)) rfl (HR.o.below (o9 _ _))
  ·obtain⟨t,r,rfl⟩:∃t r,ts=t :: r:=by
    rcases hwf.cases with⟨e,rfl,_⟩ |⟨t,r,rfl,_⟩
    ·exact⟨e,[],rfl⟩
    ·exact⟨t,r,rfl⟩
   have HQ:bq (dL k (t :: r)=.good t.text r):=aO (by unfold dL;rw [if_pos hk,if_neg h0];rfl);have wQ:=aO hwf;clear hwf;rw [show aR (t :: r)=t from rfl]at*
   obtain⟨tk_,tx,tl,tc⟩:=t;simp only at hk;subst hk;unfold wP at HN;go_enter Tryz.func77,Tryz.ntmps77;go_wp2_with fail;refine HN.o.mono ?_;rintro e w1 ⟨rfl,hb⟩;have HB:=aO hb;have hR:=H0.o.below hb;have afZ:=aO hR.laid;have hlt1:=hR.lt;obtain⟨b,o,c2,t',r',he,hc2,hcm2,hok,hB2,LK,hbk,hsl,d0,d1,z0,c0,c1,c2',c3⟩:=hR.open_;injection he with he1 he2;subst he1 he2;obtain⟨A',hAb,hA',hrun⟩:=KA hsl;have nI:=aO ((hR.tok hbk).behind (n':=r.length) (c':=c2 - 1) hAb);clear hAb;have HA:=aO hA';have HBK:=aO hbk;have Tq:=aO hok;have hbs:b<w1.heap.size:=by omega
   clear hb hR hsl hbk hok hA' c0 c1 c2' c3 d1;go_wp2_with fail;go_ret;have t2:=ak w1 bp 0 (.slice A' r.length (c2 - 1));have hb2:=heap_setCell_same w1 bp 0 _ _ (.slice A' r.length (c2 - 1)) HBK.o;generalize hw2:w1.setCell _ _=w2 at*
   have hlt2:=block_lt hb2;have hbl:Below w2.heap.size w2 (w2.alloc (.cells #[.int .i64 tk_,.string ⟨tx.toArray⟩,.int .i64 tl,.int .i64 tc] 151)):=o9 _ _;have t3:=t2.trans (Turn.of_below (F:=fun j=>j=bp) hbl);refine aJ.done HQ.o ((Turn.of_below (F:=fun k=>k=bp) HB.o).trans t3) rfl ⟨hB2,Tq.o.tail,((Sf.kind _).good wQ.o HQ.o).1,_,(hbl.block _ hlt2).trans hb2,?_⟩;have hbw:=t3.below (B:=B) (by omega) (fun k hk e=>by omega);exact⟨Sl.below HA.o hbw,afZ.o.below hbw,nI.o.below hbw⟩
 ·have HQ:bq (dL k ts=.bad ((aR ts).line,(aR ts).col,7)):=aO (by unfold dL;rw [if_neg hk]);clear hwf;generalize aR ts=t at*
  obtain⟨tk_,tx,tl,tc⟩:=t;simp only at hk;unfold wP at HN;go_enter Tryz.func77,Tryz.ntmps77;go_wp2_with fail;refine HN.o.mono ?_;rintro e w1 ⟨rfl,hb⟩;have HB:=aO hb;have HR:=aO (H0.o.below hb);clear hb;go_wp2_with fail;refine(HF.o _ (HR.o.below (o9 _ _))).mono ?_;rintro e w3 ⟨rfl,hb3⟩;have HT3:=aO (fJ.below (Turn.of_below (F:=fun j=>j=bp) (HB.o.alloc HB.o.size _)) (HR.o.below (o9 _ _)).bp hb3);clear hb3;go_wp2_with fail;exact⟨rfl,aJ.fail HQ.o HT3.o⟩
theorem iF (w:World)(bp B:Nat)(ts:List aH)(d:Int)(h:cu w bp B ts d):
  Calls Tryz.prog 121 #[pP bp 0] w (aJ akm bp B d w (nameP ts)):=by
 have HK:=aO (vG w bp B ts d h 1);clear h;obtain⟨Q,hQ⟩:∃Q,nameP ts=Q:=⟨_,rfl⟩
 rw [show dL 1 ts=Q from hQ]at HK;rw [hQ];clear hQ;go_enter Tryz.func121,Tryz.ntmps121;go_wp2_with fail;refine HK.o.mono ?_;rintro e w2 h2;rcases Q with g |⟨x,r⟩
 ·obtain⟨rfl,t2⟩:=h2.cB rfl;have HT:=aO t2;clear t2 h2;go_wp2_with fail;exact⟨rfl,aJ.fail rfl HT.o⟩
 ·obtain⟨v,rfl,t2,rfl,hR⟩:=h2.aQ rfl;have HT:=aO t2;have HR:=aO hR;clear t2 h2 hR;go_wp2_with fail;go_ret;exact aJ.done rfl HT.o rfl HR.o
theorem cu.deep {w w':World}{bp B:Nat}{ts:List aH}{d e:Int}(h:cu w bp B ts d)(hw:w'=w.setCell ⟨bp,1,none⟩ (I e)):cu w' bp B ts e:=by
 subst hw;have hlt:=h.lt;obtain⟨h1,h2,h5,v,h3,h4,h6,h7⟩:=h;have hb:=(ak w bp 1 (I e)).below (B:=B) (by omega) (fun k hk e=>by omega);exact⟨h1,h2,h5,v,heap_setCell_same _ bp 1 _ _ _ h3,Sl.below h4 hb,h6.below hb,h7.below hb⟩
theorem Dy (w:World)(bp B:Nat)(ts:List aH)(d:Int)(h:cu w bp B ts d)(h0:0<=d)(h1:d<100):
  Calls Tryz.prog 117 #[pP bp 0] w fun e w'=>e=.returned (.func (.func 164) #[] #[pP w.heap.size 0])∧Turn (fun k=>k=bp) w w'∧w'.cell? ⟨w.heap.size,0,none⟩=some (pP bp 0)∧cu w' bp B ts (d+1):=by
 have H0:=aO h;have hlt:=h.lt;obtain⟨b,o,c,t,r,rfl,hc,hcm,hl,hB,hb,hbk,hs,d0,d1,z0,c0,c1,c2,c3⟩:=h.open_;have hne:¬d=100:=by omega
 have hmf:∀(fn:Fn) (first cap:Array Value) (w:World),(Instr.makeFunc fn first cap).run Tryz.prog w=.ok (.func fn first cap) w:=fun _ _ _ _=>rfl;clear h hs hbk d0 c0 c1 c2 c3;go_enter Tryz.func117,Tryz.ntmps117;go_wp2_with fail;go_ret;have t1:=ak w bp 1 (I (d+1));have hR:=H0.o.deep (e:=d+1) (w':=w.setCell ⟨bp,1,none⟩ (I (d+1))) rfl;have hs:(w.setCell ⟨bp,1,none⟩ (I (d+1))).heap.size=w.heap.size:=by simp
 refine⟨rfl,t1.trans (Turn.alloc _ _ _),?_,hR.below (o9 _ _)⟩;have hn:=heap_alloc_new (w.setCell ⟨bp,1,none⟩ (I (d+1))) (.cells #[pP bp 0] 87);rw [hs]at hn;exact(dY hn)
theorem AV (w:World)(bp B:Nat)(ts:List aH)(h:cu w bp B ts 100):
  Calls Tryz.prog 117 #[pP bp 0] w fun e w'=>e=GQ ((aR ts).line,(aR ts).col,6)∧fJ bp w w':=by
 have H0:=aO h;have HF:=aO (fun(w1:World) (h1:cu w1 bp B ts 100)=>zl w1 bp B ts 100 6 h1);have hlt:=h.lt;obtain⟨b,o,c,t,r,he,hc,hcm,hl,hB,hb,hbk,hs,d0,d1,z0,c0,c1,c2,c3⟩:=h.open_;clear h hs hbk d0 c0 c1 c2 c3 he;go_enter Tryz.func117,Tryz.ntmps117;go_wp2_with fail;refine(HF.o _ (H0.o.below (o9 _ _))).mono ?_;rintro e w3 ⟨rfl,hb3⟩;have HT3:=aO (fJ.below (Turn.of_below (F:=fun j=>j=bp) (o9 _ _)) (H0.o.below (o9 _ _)).bp hb3);clear hb3;go_wp2_with fail;exact⟨rfl,rfl,HT3.o⟩
theorem KC (w:World)(bp x:Nat)(v:Value)(d:Int)(u:FrameMode)(h:w.heap[bp]? =some (.cells #[v,I d] 148 (0,0)))(hx:w.cell? ⟨x,0,none⟩=some (pP bp 0)):
  CallsD Tryz.prog 164 #[pP x 0] u w fun e u' w'=>u'=u∧(e=.returned (.tuple #[])∧w'=w.setCell ⟨bp,1,none⟩ (I (wrap64 (d - 1)))):=by
 have d1:w.cell? ⟨bp,1,none⟩=some (I d):=(dY h)
 have z0:∀i,w.frozen? ⟨bp,i,none⟩=false:=fun i=>frozen_of_row _ _ _ _ _ h;clear h
 go_enter_d Tryz.func164,Tryz.ntmps164
 go_wp2_with fail;go_end0;exact⟨rfl,rfl⟩
def leftOf (w:World)(bp:Nat):Nat:=match w.cell? ⟨bp,0,none⟩with |some (.slice _ n _)=>n |_=>0
theorem cu.left {w:World}{bp B:Nat}{ts:List aH}{d:Int}(h:cu w bp B ts d):leftOf w bp=ts.length:=by
 obtain⟨b,o,c,t,r,rfl,hc,hcm,hl,hB,hb,hbk,hs,d0,d1,z0,c0,c1,c2,c3⟩:=h.open_;unfold leftOf;rw [d0];rfl
def fu {α:Type}(Inv:World->List α->Prop)(G:Nat->Prop)(bp B:Nat)(d:Int)(w:World)(q:Pr (List α))(e:Ending)(w':World):Prop:=match q with
 |.good l r=>e=.returned (.tuple #[])∧Turn G w w'∧Inv w' l∧cu w' bp B r d
 |.bad g=>e=GQ g∧Turn G w w'∧AP w' bp
section
variable {α:Type}{Inv:World->List α->Prop}{G:Nat->Prop}{bp B:Nat}{d:Int}{w w':World}{q:Pr (List α)}{e:Ending}
theorem fu.cB {g:Du}(h:fu Inv G bp B d w q e w')(hq:q=.bad g):e=GQ g∧Turn G w w'∧AP w' bp:=by
 subst hq;exact h
theorem fu.aQ {x:List α}{r:List aH}(h:fu Inv G bp B d w q e w')(hq:q=.good x r):e=.returned (.tuple #[])∧Turn G w w'∧Inv w' x∧cu w' bp B r d:=by
 subst hq;exact h
theorem fu.fail {g:Du}(hq:q=.bad g)(t:Turn G w w')(hb:AP w' bp):fu Inv G bp B d w q (GQ g) w':=by
 subst hq;exact⟨rfl,t,hb⟩
theorem fu.done {x:List α}{r:List aH}(hq:q=.good x r)(t:Turn G w w')(hI:Inv w' x)(hR:cu w' bp B r d):fu Inv G bp B d w q (.returned (.tuple #[])) w':=by
 subst hq;exact⟨rfl,t,hI,hR⟩
end
def vH {α:Type}(one:Ps α)(l:List α):Ps (List α):=aj one fun x=>aB (l++[x])
theorem KD {α:Type}{one:Ps α}{l:List α}{ts:List aH}{g:Du}(h:one ts=.bad g):vH one l ts=.bad g:=aA h
theorem GU {α:Type}{one:Ps α}{l:List α}{ts r:List aH}{x:α}(h:one ts=.good x r):vH one l ts=.good (l++[x]) r:=au h
theorem jq {s:Bt}{ts:List aH}{g:Du}(h:bD s ts=.bad g):False:=by
 unfold bD at h;split at h <;> cases h
theorem zm {s:Bt}{ts r:List aH}(h:bD s ts=.good true r)(hw:1<=ts.length):r.length<ts.length:=by
 unfold bD at h;split at h
 ·injection h with _ h;subst h;rw [List.length_drop];omega
 ·injection h with h;cases h
theorem mY {α:Type}(one:Ps α)(hone:Sf one)(K:Nat)(caps:Array Value)(Inv:World->List α->Prop)(G:Nat->Prop)(d:Int)(w:World)(bp B:Nat)(ts:List aH)(hG:G bp)
  (hInv:∀(w1 w2:World) (l:List α),Turn (fun k=>k=bp) w1 w2->Inv w1 l->Inv w2 l) (hnew:∀g,w.heap.size<=g->G g)
  (HC:∀(w1:World) (r:List aH) (l:List α),l.length<=8193->w.heap.size<=w1.heap.size->Inv w1 l->cu w1 bp B r d->Calls Tryz.prog K caps w1 (fu Inv G bp B d w1 (vH one l r)))
  (hent:∀w:World,(callFunc K caps).run Tryz.prog w=.ok (.enter K caps) w) (h:cu w bp B ts d) (hI:Inv w []):
  Calls Tryz.prog 136 #[pP bp 0,.func (.func K) #[] caps] w (fu Inv G bp B d w (gU one ts)):=by
 have HC0:=aO (HC w ts [] (by simp) (Nat.le_refl _) hI h);have hn:=h.2.1.1;have HN:=aO hn;have HCC:=aO HC;have anH:=aO hInv;obtain⟨Q,hQ⟩:∃Q,gU one ts=Q:=⟨_,rfl⟩
 rw [hQ];have HQ:=aO hQ;have HW0:=aO h.wf;clear HC hI hQ hInv h hn;go_enter Tryz.func136,Tryz.ntmps136;go_wp2_with fail;refine HC0.o.mono ?_;rintro e w1 h1;rcases hq:one ts with g |⟨x,r1⟩
 ·obtain⟨rfl,t1,b1⟩:=h1.cB (KD hq);have HT:=aO t1;have HB:=aO b1;have lN:=aO (HQ.o.symm.trans (show gU one ts=.bad g from aA hq));clear h1 t1 b1 hq;go_wp2_with fail;exact⟨rfl,fu.fail lN.o HT.o HB.o⟩
 ·obtain⟨rfl,t1,i1,k1⟩:=h1.aQ (GU hq);have HT1:=aO t1;have HI1:=aO i1;have iR:=aO k1;have uQ:=aO ((hone.good HW0.o hq).2.length_le);have lN:=aO ((show gU one ts=pF one r1.length [x] r1 from au hq).symm.trans HQ.o);clear h1 t1 i1 k1 hq;go_wp2_with fail;go_loopw [6] (fun _ wr=>∃(f:Nat) (l:List α) (r:List aH),pF one f l r=Q∧r.length<=f∧l.length+r.length<=ts.length+1∧Turn G w wr∧Inv wr l∧cu wr bp B r d) (fun _ wr=>leftOf wr bp)
  case atStart=>exact⟨_,_,r1,lN.o,Nat.le_refl _,by have:=uQ.o;simp only [List.length_singleton];omega,HT1.o,HI1.o,iR.o⟩
  case round=>
   obtain⟨f,l,r,hs,hf,hlr,ht,hi,hk⟩:=hrel;have hwf:=hk.wf;have hpos:=hwf.pos;obtain⟨f,rfl⟩:∃f',f=f'+1:=⟨f - 1,by omega⟩
   have HS:bq (aj (bD [44]) (fun b=>if b then aj one fun a=>pF one f (l++[a])else aB l) r=Q):=aO hs;have HLEN:=aO hk.left;have HF:=aO hf;have HT:=aO ht;have HI:=aO hi;have wQ:=aO hwf;have HH:=aO (mH wr bp B r d hk [44]);have HP:=aO hpos;have xA:=aO hlr;clear hs hf ht hi hk hwf hpos hlr;rcases hq:bD [44] r with g |⟨b,r2⟩
   ·exact(jq hq).elim
   cases b
   ·have kF:bq (Pr.good l r2=Q):=aO ((au hq).symm.trans HS.o);go_wp2_with fail;refine HH.o.mono ?_;rintro e w2 h2;obtain⟨v,rfl,t2,rfl,k2⟩:=h2.aQ hq;have HT2:=aO (HT.o.trans t2 (fun j _ hj=>by subst hj;exact hG));have HI2:=aO (anH.o _ _ _ t2 HI.o);have gX:=aO k2;clear h2 t2 k2 hq;go_wp2_with fail;go_end0;exact fu.done kF.o.symm HT2.o HI2.o gX.o
   ·have kF:bq (aj one (fun a=>pF one f (l++[a])) r2=Q):=aO ((au hq).symm.trans HS.o);have HL2:=aO (zm hq HP.o);go_wp2_with fail;refine HH.o.mono ?_;rintro e w2 h2;obtain⟨v,rfl,t2,rfl,k2⟩:=h2.aQ hq;have HT2:=aO (HT.o.trans t2 (fun j _ hj=>by subst hj;exact hG));have rX:=aO (HCC.o w2 r2 l (by have:=xA.o;have:=HL2.o;have:=HN.o;omega) (HT2.o.size) (anH.o _ _ _ t2 HI.o) k2);have at6:=aO k2.wf;clear h2 t2 k2 hq;go_wp2_with fail;refine rX.o.mono ?_;rintro e w3 h3;rcases hq3:one r2 with g |⟨y,r3⟩
    ·obtain⟨rfl,t3,b3⟩:=h3.cB (KD hq3);have HT3:=aO (HT2.o.trans t3);have HB3:=aO b3;have iO:=aO (kF.o.symm.trans (aA hq3));clear h3 t3 b3 hq3;go_wp2_with fail;exact⟨rfl,fu.fail iO.o HT3.o HB3.o⟩
    ·obtain⟨rfl,t3,i3,k3⟩:=h3.aQ (GU hq3);have HT3:=aO (HT2.o.trans t3);have HI3:=aO i3;have gJ:=aO k3;have iO:bq (pF one f (l++[y]) r3=Q):=aO ((au hq3).symm.trans kF.o);have akn:=aO ((hone.good at6.o hq3).2.length_le);clear h3 t3 i3 k3 hq3;go_wp2_with fail
     go_roundw
     case rel=>exact⟨f,_,r3,iO.o,by have:=akn.o;have:=HL2.o;have:=HF.o;omega,by have:=akn.o;have:=HL2.o;have:=xA.o;simp only [List.length_append,List.length_singleton];omega,HT3.o,HI3.o,gJ.o⟩
     case measure=>rw [gJ.o.left,HLEN.o];have:=akn.o;have:=HL2.o;omega
theorem iV {α β γ:Type}{p:Ps α}{f:α->Ps β}{g:β->Ps γ}{ts r:List aH}{a:α}(h:p ts=.good a r):aj (aj p f) g ts=aj (f a) g r:=by
 unfold aj;rw [h]
theorem zn {α β γ:Type}{p:Ps α}{f:α->Ps β}{g:β->Ps γ}{ts:List aH}{d:Du}(h:p ts=.bad d):aj (aj p f) g ts=.bad d:=aA (aA h)
theorem new1 (w:World)(o1:Obj):Below w.heap.size w (w.alloc o1):=o9 _ _
theorem new2 (w:World)(o1 o2:Obj):Below w.heap.size w ((w.alloc o1).alloc o2):=(new1 w o1).alloc (by simp) _
theorem anI (w:World)(o1 o2 o3:Obj):Below w.heap.size w (((w.alloc o1).alloc o2).alloc o3):=(new2 w o1 o2).alloc (by simp;omega) _
theorem xX (w:World)(o:Obj):(w.alloc o).heap[w.heap.size]? =some o:=heap_alloc_new w o
theorem bS {w:World}{b:Nat}{o o':Obj}(h:w.heap[b]? =some o):(w.alloc o').heap[b]? =some o:=ah h (Turn.alloc (fun _=>False) _ _) id
section
variable {G:Nat->Prop}{w w2:World}{o1 o2 o3 o4:Obj}
theorem bV (t:Turn G (w.alloc o1) w2):Turn G w w2∧w.heap.size+1<=w2.heap.size∧(¬G w.heap.size->w2.heap[w.heap.size]? =some o1):=by
 have hs:=t.size;simp at hs;exact⟨(Turn.alloc G _ _).trans t,hs,fun h=>ah (xX w o1) t h⟩
theorem jk (t:Turn G ((w.alloc o1).alloc o2) w2):Turn G w w2∧w.heap.size+2<=w2.heap.size∧(¬G w.heap.size->w2.heap[w.heap.size]? =some o1)∧(¬G (w.heap.size+1)->w2.heap[w.heap.size+1]? =some o2):=by
 obtain⟨t1,h1,h2⟩:=bV t;obtain⟨t0,h3,h4⟩:=bV t1;simp at h1 h2;exact⟨t0,by omega,h4,h2⟩
theorem Dz (t:Turn G (((w.alloc o1).alloc o2).alloc o3) w2):Turn G w w2∧w.heap.size+3<=w2.heap.size∧(¬G w.heap.size->w2.heap[w.heap.size]? =some o1)∧(¬G (w.heap.size+1)->w2.heap[w.heap.size+1]? =some o2)∧(¬G (w.heap.size+1+1)->w2.heap[w.heap.size+1+1]? =some o3):=by
 obtain⟨t1,h1,h2⟩:=bV t;obtain⟨t0,h3,h4,h5⟩:=jk t1;simp at h1 h2;exact⟨t0,by omega,h4,h5,h2⟩
end
theorem uy {G:Nat->Prop}(w:World){w2:World}(cs:Array Value)(t:TypeId)(k n:Nat)(hs:cs.size=n*k)(hn:n<=maxLen)(t2:Turn G (w.alloc (.cells cs t)) w2)(hG:¬G w.heap.size):
  Sl w2 (w.heap.size+1) k (.slice (some ⟨w.heap.size,0,none⟩) n n) cs.toList:=by
 refine⟨_,n,n,rfl,by simpa using hs,Nat.le_refl _,hn,fun _=>⟨w.heap.size,0,rfl,by omega,fun j u hu=>?_⟩⟩;rw [cell_of_row _ _ _ cs t (0,0) ((bV t2).2.2 hG)];simpa using hu
theorem kK (w:World)(cs:Array Value)(t:TypeId)(k n:Nat)(hs:cs.size=n*k)(hn:n<=maxLen):cZ (w.alloc (.cells cs t)) (fun j=>j=w.heap.size) k (.slice (some ⟨w.heap.size,0,none⟩) n n) cs.toList:=by
 refine⟨_,n,n,rfl,by simpa using hs,Nat.le_refl _,hn,fun _=>⟨w.heap.size,0,rfl,rfl,by simp,fun j u hu=>?_⟩⟩;rw [cell_of_row _ _ _ cs t (0,0) (heap_alloc_new w _)];simpa using hu
theorem LP (w:World)(a:Nat)(ha:a=w.heap.size)(l:List Bt)(cs:Array Value)(t:TypeId)(n:Nat)(hcs:cs.toList=qW l)(hn:n=l.length)(hm:n<=100000):Ss (w.alloc (.cells cs t)) (w.alloc (.cells cs t)).heap.size (.slice (some ⟨a,0,none⟩) n n) l:=by
 subst ha hn
 have h:=iN w cs t 1 l.length (by
  have:=congrArg List.length hcs;simp [qW]at this;omega) (by unfold maxLen;omega)
 rw [hcs]at h;exact h.more (by simp)
theorem ay {bp:Nat}{a b c:World}(h:Turn (fun k=>k=bp) a b)(k:Turn (fun k=>k=bp) b c):Turn (fun k=>k=bp) a c:=h.trans k fun _ _ h=>h
theorem aW {w:World}{b:Nat}{a0 a1 a2 a3:Value}{t:TypeId}(h:w.heap[b]? =some (.cells #[a0,a1,a2,a3] t (0,0))):w.cell? ⟨b,0,none⟩=some a0∧w.cell? ⟨b,1,none⟩=some a1∧w.cell? ⟨b,2,none⟩=some a2∧w.cell? ⟨b,3,none⟩=some a3∧∀i,w.frozen? ⟨b,i,none⟩=false:=
 ⟨(dY h),(dY h),(dY h),(dY h),fun i=>frozen_of_row _ _ _ _ _ h⟩
theorem aD {w:World}{b:Nat}{a0 a1 a2 a3 a4 a5 a6 a7:Value}{t:TypeId}(h:w.heap[b]? =some (.cells #[a0,a1,a2,a3,a4,a5,a6,a7] t (0,0))):w.cell? ⟨b,0,none⟩=some a0∧w.cell? ⟨b,1,none⟩=some a1∧w.cell? ⟨b,2,none⟩=some a2∧w.cell? ⟨b,3,none⟩=some a3∧
  w.cell? ⟨b,4,none⟩=some a4∧w.cell? ⟨b,5,none⟩=some a5∧w.cell? ⟨b,6,none⟩=some a6∧w.cell? ⟨b,7,none⟩=some a7∧∀i,w.frozen? ⟨b,i,none⟩=false:=
 ⟨(dY h),(dY h),(dY h),(dY h),(dY h),(dY h),(dY h),(dY h),fun i=>frozen_of_row _ _ _ _ _ h⟩
theorem dn {w:World}{b:Nat}{a0:Value}{t:TypeId}(h:w.heap[b]? =some (.cells #[a0] t (0,0))):w.cell? ⟨b,0,none⟩=some a0:=(dY h)
abbrev dX (w:World)(b:Nat)(v0 v1 v2 v3:Value):World:=(((w.setCell ⟨b,0,none⟩ v0).setCell ⟨b,1,none⟩ v1).setCell ⟨b,2,none⟩ v2).setCell ⟨b,3,none⟩ v3
theorem dM (w:World)(b:Nat)(v0 v1 v2 v3:Value):Turn (fun k=>k=b) w (dX w b v0 v1 v2 v3):=
 (((ak w b 0 v0).trans (ak _ b 1 v1)).trans (ak _ b 2 v2)).trans (ak _ b 3 v3)
theorem bg {w:World}{b:Nat}{a0 a1 a2 a3:Value}{t:TypeId}(h:w.heap[b]? =some (.cells #[a0,a1,a2,a3] t (0,0)))(v0 v1 v2 v3:Value):(dX w b v0 v1 v2 v3).heap[b]? =some (.cells #[v0,v1,v2,v3] t (0,0)):=
 heap_setCell_same _ b 3 _ _ v3 (heap_setCell_same _ b 2 _ _ v2 (heap_setCell_same _ b 1 _ _ v1 (heap_setCell_same w b 0 _ _ v0 h)))
abbrev zL (w:World)(b:Nat)(v0 v1 v2 v3 v4 v5 v6 v7:Value):World:=(((((((w.setCell ⟨b,0,none⟩ v0).setCell ⟨b,1,none⟩ v1).setCell ⟨b,2,none⟩ v2).setCell ⟨b,3,none⟩ v3).setCell ⟨b,4,none⟩ v4).setCell ⟨b,5,none⟩ v5).setCell ⟨b,6,none⟩ v6).setCell ⟨b,7,none⟩ v7
theorem bF (w:World)(b:Nat)(v0 v1 v2 v3 v4 v5 v6 v7:Value):Turn (fun k=>k=b) w (zL w b v0 v1 v2 v3 v4 v5 v6 v7):=
 ((((dM w b v0 v1 v2 v3).trans (ak _ b 4 v4)).trans (ak _ b 5 v5)).trans (ak _ b 6 v6)).trans (ak _ b 7 v7)
theorem aX {w:World}{b:Nat}{a0 a1 a2 a3 a4 a5 a6 a7:Value}{t:TypeId}(h:w.heap[b]? =some (.cells #[a0,a1,a2,a3,a4,a5,a6,a7] t (0,0)))(v0 v1 v2 v3 v4 v5 v6 v7:Value):(zL w b v0 v1 v2 v3 v4 v5 v6 v7).heap[b]? =some (.cells #[v0,v1,v2,v3,v4,v5,v6,v7] t (0,0)):=by
 have h0:(w.setCell ⟨b,0,none⟩ v0).heap[b]? =some (.cells #[v0,a1,a2,a3,a4,a5,a6,a7] t (0,0)):=heap_setCell_same _ b 0 _ _ v0 h;have h1:((w.setCell ⟨b,0,none⟩ v0).setCell ⟨b,1,none⟩ v1).heap[b]? =some (.cells #[v0,v1,a2,a3,a4,a5,a6,a7] t (0,0)):=heap_setCell_same _ b 1 _ _ v1 h0;have h2:(((w.setCell ⟨b,0,none⟩ v0).setCell ⟨b,1,none⟩ v1).setCell ⟨b,2,none⟩ v2).heap[b]? =some (.cells #[v0,v1,v2,a3,a4,a5,a6,a7] t (0,0)):=heap_setCell_same _ b 2 _ _ v2 h1;have h3:((((w.setCell ⟨b,0,none⟩ v0).setCell ⟨b,1,none⟩ v1).setCell ⟨b,2,none⟩ v2).setCell ⟨b,3,none⟩ v3).heap[b]? =some (.cells #[v0,v1,v2,v3,a4,a5,a6,a7] t (0,0)):=heap_setCell_same _ b 3 _ _ v3 h2;have h4:(((((w.setCell ⟨b,0,none⟩ v0).setCell ⟨b,1,none⟩ v1).setCell ⟨b,2,none⟩ v2).setCell ⟨b,3,none⟩ v3).setCell ⟨b,4,none⟩ v4).heap[b]? =some (.cells #[v0,v1,v2,v3,v4,a5,a6,a7] t (0,0)):=heap_setCell_same _ b 4 _ _ v4 h3;have h5:((((((w.setCell ⟨b,0,none⟩ v0).setCell ⟨b,1,none⟩ v1).setCell ⟨b,2,none⟩ v2).setCell ⟨b,3,none⟩ v3).setCell ⟨b,4,none⟩ v4).setCell ⟨b,5,none⟩ v5).heap[b]? =some (.cells #[v0,v1,v2,v3,v4,v5,a6,a7] t (0,0)):=heap_setCell_same _ b 5 _ _ v5 h4;have h6:(((((((w.setCell ⟨b,0,none⟩ v0).setCell ⟨b,1,none⟩ v1).setCell ⟨b,2,none⟩ v2).setCell ⟨b,3,none⟩ v3).setCell ⟨b,4,none⟩ v4).setCell ⟨b,5,none⟩ v5).setCell ⟨b,6,none⟩ v6).heap[b]? =some (.cells #[v0,v1,v2,v3,v4,v5,v6,a7] t (0,0)):=heap_setCell_same _ b 6 _ _ v6 h5;have h7:((((((((w.setCell ⟨b,0,none⟩ v0).setCell ⟨b,1,none⟩ v1).setCell ⟨b,2,none⟩ v2).setCell ⟨b,3,none⟩ v3).setCell ⟨b,4,none⟩ v4).setCell ⟨b,5,none⟩ v5).setCell ⟨b,6,none⟩ v6).setCell ⟨b,7,none⟩ v7).heap[b]? =some (.cells #[v0,v1,v2,v3,v4,v5,v6,v7] t (0,0)):=heap_setCell_same _ b 7 _ _ v7 h6;exact h7
abbrev Iv (a b:Nat):Nat->Prop:=fun j=>a<=j∧j<b
theorem nT.iv {w:World}{a:Nat}{z:List Value}{t:bZ}(h:nT w (fun j=>a<=j) z t):nT w (Iv a w.heap.size) z t:=h.mono fun _ hg h=>⟨h,hg⟩
theorem sV.iv {w:World}{a:Nat}{z:List Value}{t:bW}(h:sV w (fun j=>a<=j) z t):sV w (Iv a w.heap.size) z t:=h.mono fun _ hg h=>⟨h,hg⟩
theorem fJ.mk2 {bp:Nat}{a c:World}(t:Turn (fun k=>k=bp) a c)(h:AP c bp):fJ bp a c:=⟨t,h⟩
theorem fJ.more {bp:Nat}{a b c:World}{G:Nat->Prop}(t:Turn (fun k=>k=bp) a b)(k:Turn G b c)(hG:∀i,i<a.heap.size->G i->i=bp)(h:AP c bp):fJ bp a c:=⟨t.trans k hG,h⟩
theorem nT.shape' {w:World}{F:Nat->Prop}{z:List Value}{t:bZ}(h:nT w F z t):∃k s A1 n1 c1 A2 n2 c2,z=[I k,sv s,.slice A1 n1 c1,.slice A2 n2 c2]:=by
 cases h with
 |mk h1 h2 h3=>
  obtain⟨A1,n1,c1,rfl,_⟩:=h1;obtain⟨A2,n2,c2,rfl,_⟩:=h2;exact⟨_,_,_,_,_,_,_,_,rfl⟩
theorem sV.shape' {w:World}{F:Nat->Prop}{z:List Value}{t:bW}(h:sV w F z t):∃k s a b c A1 n1 c1 A2 n2 c2 A3 n3 c3,z=[I k,sv s,I a,I b,I c,.slice A1 n1 c1,.slice A2 n2 c2,.slice A3 n3 c3]:=by
 cases h with
 |mk h1 h2 h3 h4 h5=>
  obtain⟨A1,n1,c1,rfl,_⟩:=h1;obtain⟨A2,n2,c2,rfl,_⟩:=h3;obtain⟨A3,n3,c3,rfl,_⟩:=h4;exact⟨_,_,_,_,_,_,_,_,_,_,_,_,_,_,rfl⟩
theorem rY (w:World)(F:Nat->Prop)(k:Int)(s:Bt):nT w F [I k,sv s,Z,Z] (.mk k s [] []):= .mk (cZ.nil _ _ _) (cZ.nil _ _ _) .nil
def pO (w:World)(g o:Nat):List Value->World
 | []=>w
 |v :: l=>pO (w.setCell ⟨g,o,none⟩ v) g (o+1) l
def aei (xs:List Value)(o:Nat):List Value->List Value
 | []=>xs
 |v :: l=>aei (xs.set o v) (o+1) l
theorem gN (g:Nat):∀(l:List Value) (w:World) (o:Nat),Turn (fun k=>k=g) w (pO w g o l)
 | [],w,_=>Turn.refl _ _
 |v :: l,w,o=>(ak w g o v).trans (gN g l _ _)
theorem ND {base g:Nat}{e:TypeId}{k:Nat}{v:Value}{n:Nat}(hg:v.ownBlock=some g):∀(l:List Value) (w:World) (o:Nat) (xs:List Value),w.ownsRow base e k v n xs->(pO w g o l).ownsRow base e k v n (aei xs o l)
 | [],w,_,xs,h=>h
 |u :: l,w,o,xs,h=>ND hg l _ _ _ (aea h hg)
theorem NG:∀(l olds ys:List Value) (o:Nat),ys.length=o->olds.length=l.length->aei (ys++olds) o l=ys++l
 | [],[],ys,_,_,_=>rfl
 |v :: l,a :: olds,ys,o,h,h2=>by
  show aei ((ys++a :: olds).set o v) (o+1) l= _;have e:(ys++a :: olds).set o v=(ys++[v])++olds:=by
   rw [List.set_append_right _ _ (by omega),h,Nat.sub_self];simp
  rw [e,NG l olds (ys++[v]) (o+1) (by simp [h]) (by simpa using h2)];simp
 | [],_ :: _,_,_,_,h2=>by cases h2
 |_ :: _,[],_,_,_,h2=>by cases h2
theorem F7 {w:World}{base g:Nat}{e:TypeId}{k:Nat}{v:Value}{n:Nat}{ys olds z:List Value}(h:w.ownsRow base e k v n (ys++olds))(hg:v.ownBlock=some g)(hz:olds.length=z.length){o:Nat}(ho:ys.length=o):(pO w g o z).ownsRow base e k v n (ys++z):=by
 have:=ND hg z w o _ h;rwa [NG z olds ys o ho hz]at this
theorem rZ (w0:World)(bp B:Nat)(ts:List aH)(d:Int)(h:cu w0 bp B ts d)(l:List Bt)(cs:Array Value)(t:TypeId)(n a:Nat)(hcs:cs.toList=qW l:=by rfl)(hn:n=l.length:=by rfl)(ha:a=w0.heap.size:=by simp)(hm:n<=100000:=by decide):
  Calls Tryz.prog 119 #[pP bp 0,.slice (some ⟨a,0,none⟩) n n] (w0.alloc (.cells cs t)) (aJ afY bp B d w0 (dK l ts)):=by
 refine(Cb _ bp B ts d (h.below (new1 _ _)) _ l (LP w0 a ha l cs t n hcs hn hm) (by omega)).mono ?_;intro e w' h2;rcases hq:dK l ts with g |⟨o,r⟩
 ·exact(iU hq).elim
 ·rw [hq]at h2;obtain⟨v,rfl,t2,hP,hR⟩:=h2.aQ rfl;exact aJ.done rfl (bV t2).1 hP hR
theorem ako (s:Bt)(ts:List aH):jX [s] ts=aC s ts:=by
 show aj (aC s) (fun _=>aB ()) ts= _;unfold aj;cases aC s ts <;> rfl
theorem fV (w0:World)(bp B:Nat)(ts:List aH)(d:Int)(h:cu w0 bp B ts d)(s:Bt)(t:TypeId)(a:Nat)(ha:a=w0.heap.size:=by simp):
  Calls Tryz.prog 135 #[pP bp 0,.slice (some ⟨a,0,none⟩) 1 1] (w0.alloc (.cells #[sv s] t)) (aJ PUnit bp B d w0 (aC s ts)):=by
 refine(NC _ bp B ts d (h.below (new1 _ _)) _ [s] (LP w0 a ha [s] #[sv s] t 1 rfl rfl (by decide)) (by simp)).mono ?_;intro e w' h2;rw [ako]at h2;rcases hq:aC s ts with g |⟨o,r⟩
 ·rw [hq]at h2;obtain⟨rfl,b2,b3⟩:=h2.cB rfl;exact aJ.fail rfl ⟨(bV b2).1,b3⟩
 ·rw [hq]at h2;obtain⟨v,rfl,t2,hP,hR⟩:=h2.aQ rfl;exact aJ.done rfl (bV t2).1 hP hR
theorem gI {w:World}{base:Nat}{e:TypeId}{k:Nat}{v:Value}{n:Nat}{xs:List Value}(h:w.ownsRow base e k v n xs):∃A c,v=.slice A n c∧n<=c∧c<=maxLen:=by
 rcases h.2 with⟨rfl,rfl⟩ |⟨g,cap,cur,rfl,_,_,h1,h2,_⟩
 ·exact⟨_,_,rfl,Nat.le_refl _,Nat.zero_le _⟩
 ·exact⟨_,_,rfl,h1,h2⟩
theorem F8:∀u∈[I 0,S0,Z,Z],u.oneCell'=true:=by
 intro u hu;simp only [List.mem_cons,List.not_mem_nil,or_false]at hu;rcases hu with rfl |rfl |rfl |rfl <;> rfl
theorem F9:∀u∈[I 0,S0,I 0,I 0,I 0,Z,Z,Z],u.oneCell'=true:=by
 intro u hu;simp only [List.mem_cons,List.not_mem_nil,or_false]at hu;rcases hu with rfl |rfl |rfl |rfl |rfl |rfl |rfl |rfl <;> rfl
theorem zo (k:Int)(s:Bt)(A1 A2:Option Addr)(n1 c1 n2 c2:Nat):∀u∈ #[I k,sv s,.slice A1 n1 c1,.slice A2 n2 c2].toList,u.oneCell'=true:=by
 intro u hu;simp only [List.mem_cons,List.not_mem_nil,or_false]at hu;rcases hu with rfl |rfl |rfl |rfl <;> rfl
def gY {α:Type}(P:World->Value->α->Prop)(G:Nat->Prop)(bp B:Nat)(d:Int)(w:World)(q:Pr α)(e:Ending)(w':World):Prop:=
 match q with
  |.good x r=>∃v,e=.returned v∧Turn G w w'∧P w' v x∧cu w' bp B r d
  |.bad g=>e=GQ g∧Turn G w w'∧AP w' bp
section
variable {α:Type}{P:World->Value->α->Prop}{G:Nat->Prop}{bp B:Nat}{d:Int}{w w':World}{q:Pr α}{e:Ending}
theorem gY.cB {g:Du}(h:gY P G bp B d w q e w')(hq:q=.bad g):e=GQ g∧Turn G w w'∧AP w' bp:=by
 subst hq;exact h
theorem gY.aQ {x:α}{r:List aH}(h:gY P G bp B d w q e w')(hq:q=.good x r):∃v,e=.returned v∧Turn G w w'∧P w' v x∧cu w' bp B r d:=by
 subst hq;exact h
theorem gY.fail {g:Du}(hq:q=.bad g)(t:Turn G w w')(hb:AP w' bp):gY P G bp B d w q (GQ g) w':=by
 subst hq;exact⟨rfl,t,hb⟩
theorem gY.done {x:α}{r:List aH}{v:Value}(hq:q=.good x r)(t:Turn G w w')(hP:P w' v x)(hR:cu w' bp B r d):gY P G bp B d w q (.returned v) w':=by
 subst hq;exact⟨v,rfl,t,hP,hR⟩
end
theorem vI:oI Tryz.prog 67 80 (.agg Z40) 4 72:=⟨Tryz.underlying67,by kernel_rfl,rfl,by omega⟩
theorem KE:oI Tryz.prog 68 70 (.agg Z80) 8 120:=⟨Tryz.underlying68,by kernel_rfl,rfl,by omega⟩
def Cc (d:Int)(typ:Ps bZ):Prop:=∀(w:World) (bp B:Nat) (ts:List aH),cu w bp B ts d->
 Calls Tryz.prog 73 #[pP bp 0] w (aJ (PTy w.heap.size) bp B d w (typ ts))
structure pQ (pb tb base bp:Nat) (w:World) (l1:List Bt) (l2:List bZ) (v1 v2:Value):Prop where
 box:w.heap[pb]? =some (.cells #[pP bp 0] 87 (0,0))
 blk:w.heap[tb]? =some (.cells #[I 5,sv [],v1,v2] 80 (0,0))
 sZ:iq w base 9 v1 l1
 kid:eO nT 4 80 w base (fun j=>base<=j∧v1.ownBlock≠some j) v2 l2
 ne:∀g,v1.ownBlock=some g->v2.ownBlock≠some g
structure Ce (pb tb base bp:Nat) (w:World):Prop where
 KF:bp<pb
 NH:bp<tb
 Rp:pb<base
 V9:tb<base
 ne:pb≠tb
 QG:base<=w.heap.size
theorem Ce.turn {pb tb base bp:Nat}{w w':World}{G:Nat->Prop}(h:Ce pb tb base bp w)(t:Turn G w w'):Ce pb tb base bp w':={ h with QG:=Nat.le_trans h.QG t.size}
theorem pQ.turn {pb tb base bp:Nat}{w w':World}{l1:List Bt}{l2:List bZ}{v1 v2:Value}(h:pQ pb tb base bp w l1 l2 v1 v2)(p:Ce pb tb base bp w)(t:Turn (fun k=>k=bp) w w'):pQ pb tb base bp w' l1 l2 v1 v2:=by
 have:=p.KF;have:=p.NH;have:=p.Rp;have:=p.V9;exact⟨ah h.box t,ah h.blk t,h.sZ.turn t (fun g hg e=>by have:=(h.sZ.lt g hg).1;omega),h.kid.turn aG t (fun g hg e=>by have:=(h.kid.lt g hg).1;omega) (fun g _ hg e=>by have:=hg.1;omega),h.ne⟩
theorem pQ.name {pb tb base bp:Nat}{w w7:World}{l1:List Bt}{l2:List bZ}{v1 v2 v7:Value}{o:Obj}{s:Bt}(h:pQ pb tb base bp w l1 l2 v1 v2)(p:Ce pb tb base bp w)
  (h7:iq w7 base 9 v7 (l1++[s])) (hg:(w.alloc o).grownBy w7 v1.ownBlock) (hbk:v7.ownBlock=v1.ownBlock∨v7.ownBlock=some (w.alloc o).heap.size):
  pQ pb tb base bp (w7.setCell ⟨tb,2,none⟩ v7) (l1++[s]) l2 v7 v2∧Turn (fun j=>v1.ownBlock=some j∨j=tb) w (w7.setCell ⟨tb,2,none⟩ v7):=by
 have:=p.Rp;have:=p.V9;have hne:=p.ne;have hbs:=p.QG;have t7:Turn (fun j=>v1.ownBlock=some j) w w7:=(Turn.alloc _ _ _).trans (Turn.aZ hg (fun k h=>h));have t8:=ak w7 tb 2 v7;have hs:(w.alloc o).heap.size=w.heap.size+1:=by simp
 have hlt:=h.sZ.lt;have hk:=h.kid;have hkl:=hk.lt
 have k1:eO nT 4 80 w base (fun j=>(base<=j∧v1.ownBlock≠some j)∧v7.ownBlock≠some j) v2 l2:=hk.mono aG fun g hg h=>⟨h,fun e=>by
  rcases hbk with hb |hb
  ·rw [hb]at e;exact h.2 e
  ·rw [hb,hs]at e;injection e with e;omega⟩
 have k7:=k1.turn aG t7 (fun g hg e=>h.ne g e hg) (fun g _ hg e=>hg.1.2 e);have k8:=k7.turn aG t8 (fun g hg e=>by have:=(hkl g hg).1;omega) (fun g _ hg e=>by have:=hg.1.1;omega);refine⟨⟨ah (ah h.box t7 (fun e=>by have:=(hlt _ e).1;omega)) t8 hne,heap_setCell_same _ _ 2 _ _ _ (ah h.blk t7 (fun e=>by have:=(hlt _ e).1;omega)),h7.turn t8 (fun g hg e=>by have:=(h7.lt g hg).1;omega),k8.mono aG fun g _ h=>⟨h.1.1,h.2⟩,fun g e=>?_⟩,(t7.mono (G:=fun j=>v1.ownBlock=some j∨j=tb) fun _ _ h=>.inl h).trans t8 (fun _ _ h=>.inr h)⟩;rcases hbk with hb |hb
 ·rw [hb]at e;exact h.ne g e
 ·rw [hb,hs]at e;injection e with e;intro e2;have:=(hkl g e2).2;omega
theorem pQ.type {pb tb base bp:Nat}{w w6 w8:World}{l1:List Bt}{l2:List bZ}{v1 v2 v7:Value}{z:List Value}{x:bZ}(h:pQ pb tb base bp w l1 l2 v1 v2)(p:Ce pb tb base bp w)
  (t:Turn (fun k=>k=bp) w w6) (hx:nT w6 (fun j=>w.heap.size<=j) z x) (t8:Turn (fun j=>v2.ownBlock=some j∨j=tb) w6 w8) {ys:List Value}{n7:Nat}(hy:w.ownsRow base 80 4 v2 l2.length ys) (hr:fA (nT w (tL (fun j=>base<=j∧v1.ownBlock≠some j) v2)) 4 ys l2)
  (h7:w8.ownsRow base 80 4 v7 n7 (ys++z)) (hbk:v7.ownBlock=v2.ownBlock∨∃m,w6.heap.size<=m∧v7.ownBlock=some m) (hb:w8.heap[tb]? =some (.cells #[I 5,sv [],v1,v7] 80 (0,0))):
  pQ pb tb base bp w8 l1 (l2++[x]) v1 v7:=by
 have:=p.Rp;have:=p.V9;have hne:=p.ne;have hbs:=p.QG;have:=p.KF;have:=p.NH;have h6:=h.turn p t;have hlt:=h.sZ.lt;have hkl:=h.kid.lt;have hs6:=t.size;refine⟨ah h6.box t8 (fun e=>?_),hb,h6.sZ.turn t8 (fun g hg e=>?_),?_,fun g e=>?_⟩
 ·rcases e with e |e
  ·have:=(hkl _ e).1;omega
  ·exact hne e
 ·rcases e with e |e
  ·exact h.ne g hg e
  ·have:=(hlt g hg).1;omega
 ·exact eO.push aG (F:=fun j=>base<=j∧v1.ownBlock≠some j) hy hr t hx t8 (fun j _ e=>by
   rcases e with e |e
   ·exact .inl e
   ·exact .inr ⟨fun h=>by have:=h.1;omega,by omega⟩) hbk h7 (by omega) (fun h=>by have:=h.1;omega) (fun j hj=>⟨by omega,fun e=>by have:=(hlt j e).2;omega⟩)
 ·have hg1:=(hlt g e).2;rcases hbk with hb |⟨m,hm,hb⟩
  ·rw [hb];exact h.ne g e
  ·rw [hb];intro e2;injection e2 with e2;omega
def Tt (pb tb base bp:Nat)(w:World)(l:List (Bt ×bZ)):Prop:=∃v1 v2,pQ pb tb base bp w (l.map (·.1)) (l.map (·.2)) v1 v2
theorem pQ.af0 {pb tb base bp g:Nat}{w w6 w7:World}{l1:List Bt}{l2:List bZ}{v1 v2 v7:Value}{z:List Value}{x:bZ}(h:pQ pb tb base bp w l1 l2 v1 v2)(p:Ce pb tb base bp w)
  (t:Turn (fun k=>k=bp) w w6) (hx:nT w6 (fun j=>w.heap.size<=j) z x) {ys zs:List Value}{n7:Nat}(hy:w.ownsRow base 80 4 v2 l2.length ys) (hr:fA (nT w (tL (fun j=>base<=j∧v1.ownBlock≠some j) v2)) 4 ys l2) (hzs:zs.length=4)
  (h7:w7.ownsRow base 80 4 v7 n7 (ys++zs)) (hg:w6.grownBy w7 v2.ownBlock) (hbk:v7.ownBlock=v2.ownBlock∨v7.ownBlock=some w6.heap.size) (hv:v7.ownBlock=some g):
  (pQ pb tb base bp ((pO w7 g (l2.length*4) z).setCell ⟨tb,3,none⟩ v7) l1 (l2++[x]) v1 v7∧Turn (fun k=>k=bp∨tb<=k) w ((pO w7 g (l2.length*4) z).setCell ⟨tb,3,none⟩ v7))∧
  (pQ pb tb base bp (pO (w7.setCell ⟨tb,3,none⟩ v7) g (l2.length*4) z) l1 (l2++[x]) v1 v7∧Turn (fun k=>k=bp∨tb<=k) w (pO (w7.setCell ⟨tb,3,none⟩ v7) g (l2.length*4) z)):=by
 have:=p.Rp;have q1:=p.V9;have hne:=p.ne;have hbs:=p.QG;have:=p.KF;have:=p.NH;have hz:z.length=4:=by
  obtain⟨_,_,_,_,_,_,_,_,rfl⟩:=hx.shape';rfl
 have hyl:ys.length=l2.length*4:=hy.1;have hs6:=t.size;have ku:=h7.lt g hv;have h6:=h.turn p t;have tg:=Turn.aZ hg (F:=fun j=>v2.ownBlock=some j) (fun k h=>h);have hkl:=h.kid.lt;have hgn:∀j,j<w6.heap.size->j=g->v2.ownBlock=some j:=fun j hj e=>by
  subst e;rcases hbk with hb |hb
  ·rw [<-hb];exact hv
  ·rw [hb]at hv;injection hv with hv;omega
 have hbk':v7.ownBlock=v2.ownBlock∨∃m,w6.heap.size<=m∧v7.ownBlock=some m:=hbk.imp id fun e=>⟨_,Nat.le_refl _,e⟩
 have jA:=ah h6.blk tg (fun e=>by have:=(hkl _ e).1;omega);have tp:=fun(w:World)=>gN g z w (l2.length*4);have ts:=fun(w:World)=>ak w tb 3 v7
 have tA:Turn (fun j=>v2.ownBlock=some j∨j=tb) w6 ((pO w7 g (l2.length*4) z).setCell ⟨tb,3,none⟩ v7):=
  ((tg.mono (G:=fun j=>v2.ownBlock=some j∨j=tb) fun _ _ h=>.inl h).trans (tp w7) (fun i hi e=>.inl (hgn i hi e))).trans (ts _) (fun _ _ h=>.inr h)
 have tB:Turn (fun j=>v2.ownBlock=some j∨j=tb) w6 (pO (w7.setCell ⟨tb,3,none⟩ v7) g (l2.length*4) z):=
  ((tg.mono (G:=fun j=>v2.ownBlock=some j∨j=tb) fun _ _ h=>.inl h).trans (ts _) (fun _ _ h=>.inr h)).trans (tp _) (fun i hi e=>.inl (hgn i hi e))
 have hw:∀w8,Turn (fun j=>v2.ownBlock=some j∨j=tb) w6 w8->Turn (fun k=>k=bp∨tb<=k) w w8:=fun w8 t8=>(t.mono (G:=fun k=>k=bp∨tb<=k) fun _ _ h=>.inl h).trans t8 (fun i _ e=>by
  rcases e with e |e
  ·have:=(hkl i e).1;exact .inr (by omega)
  ·exact .inr (by omega))
 have hyA:((pO w7 g (l2.length*4) z).setCell ⟨tb,3,none⟩ v7).ownsRow base 80 4 v7 n7 (ys++z):=dS (F7 h7 hv (by omega) hyl) (ts _) (fun k hk e=>by rw [hv]at hk;injection hk with hk;omega);have hyB:(pO (w7.setCell ⟨tb,3,none⟩ v7) g (l2.length*4) z).ownsRow base 80 4 v7 n7 (ys++z):=F7 (dS h7 (ts _) (fun k hk e=>by rw [hv]at hk;injection hk with hk;omega)) hv (by omega) hyl;exact⟨⟨h.type p t hx tA hy hr hyA hbk' (heap_setCell_same _ _ 3 _ _ _ (ah jA (tp _))),hw _ tA⟩,⟨h.type p t hx tB hy hr hyB hbk' (ah (heap_setCell_same _ _ 3 _ _ _ jA) (tp _)),hw _ tB⟩⟩
theorem Wd (d:Int)(typ:Ps bZ)(qK:Cc d typ)(w:World)(bp B pb tb base:Nat)(ts:List aH)(l:List (Bt ×bZ))(hl:l.length<=8193)(h:cu w bp B ts d)(hI:Tt pb tb base bp w l)(hP:Ce pb tb base bp w):
  Calls Tryz.prog 171 #[.pointer (some ⟨tb,0,none⟩),.pointer (some ⟨pb,0,none⟩)] w (fu (Tt pb tb base bp) (fun k=>k=bp∨tb<=k) bp B d w (vH (lW typ) l ts)):=by
 obtain⟨v1,v2,hH⟩:=hI;have p1:=hP.KF;have p2:=hP.NH;have p3:=hP.Rp;have p4:=hP.V9;have p5:=hP.ne;have p6:=hP.QG;have HN:=aO (iF w.drew bp B ts d h);have hbx:=dn hH.box;obtain⟨t0,t1,t2,t3,tz⟩:=aW hH.blk;obtain⟨A1,c1,hv1,hn1,hm1⟩:=hH.sZ.ss.open_;obtain⟨A2,c2,hv2,hn2,hm2⟩:=hH.kid.shape;simp only [List.length_map]at hv1 hn1 hv2 hn2;subst hv1 hv2;have HH:=aO hH;have HP:=aO hP;obtain⟨Q,hQ⟩:∃Q,vH (lW typ) l ts=Q:=⟨_,rfl⟩
 rw [hQ];have HQ:bq (aj (lW typ) (fun x=>aB (l++[x])) ts=Q):=aO hQ;clear hH hP h hm1 hm2 hQ;have P0:=aO (fun(w':World) (h:Turn (fun j=>j=bp∨base<=j) w w')=>aK hbx h);have P2:=aO (fun(w':World) (h:Turn (fun j=>j=bp∨base<=j) w w')=>aK t2 h);have HD0:bq (Turn (fun j=>j=bp∨base<=j) w w.drew):=aO ⟨rfl,rfl,rfl,Nat.le_refl _,fun _ _ _=>rfl⟩;have nJ:bq (Turn (fun j=>j=bp) w w.drew):=aO ⟨rfl,rfl,rfl,Nat.le_refl _,fun _ _ _=>rfl⟩;go_enter Tryz.func171,Tryz.ntmps171;go_wp2_with fail;refine bM (S:=fun w'=>Turn (fun j=>j=bp∨base<=j) w w') (x:=9) (by kernel_rfl) ?_
 try simp only [sp,sq]
 refine tx 0 (.pointer (some ⟨tb,2,none⟩)) HD0.o ?_;refine jw 1 (.slice A1 l.length c1) P2.o HD0.o ?_;refine jw 2 (.pointer (some ⟨bp,0,none⟩)) P0.o HD0.o ?_;refine tx 3 (.pointer (some ⟨bp,0,none⟩)) HD0.o ?_;refine tx 4 (.pointer (some ⟨bp,0,none⟩)) HD0.o ?_;refine bB 5 fun K hK=>?_;go_simp;refine(HN.o).mono ?_;rintro e w2 h2;rcases hq:nameP ts with g |⟨s,r⟩
 ·obtain⟨rfl,t2,b2⟩:=h2.cB hq;have HT:=aO (((nJ.o.trans t2).mono (G:=fun k=>k=bp∨tb<=k) (fun _ _ h=>.inl h)));have HB:=aO b2;have lN:=aO (HQ.o.symm.trans (aA (aA hq)));clear h2 t2 b2 hq;exact⟨rfl,fu.fail lN.o HT.o HB.o⟩
 ·obtain⟨v,rfl,t2w,rfl,k2⟩:=h2.aQ hq;have BA:=nJ.o.trans t2w;have HT2:=aO (BA.mono (G:=fun j=>j=bp∨base<=j) (fun _ _ h=>.inl h));have akp:=aO BA;have gX:=aO k2;have YT:=aO (HH.o.turn HP.o BA);have QH:=aO (HP.o.turn BA);have lN:bq (aj (aj (aC [58]) fun _=>aj typ fun t=>aB (s,t)) (fun x=>aB (l++[x])) r=Q):=aO ((iV (p:=nameP) hq).symm.trans HQ.o);clear h2 t2w k2 hq BA;refine hK.out _ _ HT2.o ?_;clear hK K
  try simp only [sp,sq]
  refine bB 6 fun K hK=>?_;go_simp;have HT3:=aO (HT2.o.trans (Turn.alloc (fun j=>j=bp∨base<=j) w2 (.cells #[sv s] 9)));refine hK.out _ _ HT3.o ?_;clear hK K
  try simp only [sp,sq]
  refine bB 7 fun K hK=>?_;have fF:=aO (YT.o.sZ.alloc (.cells #[sv s] 9));have FH:=aO (AA w2 s 9);have hlen:(qW (l.map (·.1))).length=l.length:=by simp [qW]
  refine gK rfl (.tmp 3) (.tmp 8) _ rfl base wM (.slice A1 l.length c1) (.slice (some ⟨w2.heap.size,0,none⟩) 1 1) rfl rfl fF.o.row FH.o (wJ _) (by simp [qW,maxLen];omega) (by simp [qW];omega) (by have:=QH.o.QG;simp;omega) (fun v7 w7 n7 aU ku iI=>?_);obtain⟨A7,c7,rfl,_,_⟩:=gI aU;obtain⟨hH8,ht8⟩:=YT.o.name QH.o (o:= .cells #[sv s] 9) (s:=s) (w7:=w7) ⟨n7,by rw [mP];exact aU⟩ ku iI;have Rq:=aO hH8;have mZ:=aO ht8;have jl:=aO (HT3.o.trans (Turn.aZ ku (F:=fun j=>j=bp∨base<=j) (fun k e=>.inr (fF.o.lt k e).1)) (fun _ _ h=>h));have t7:w7.cell? ⟨tb,2,none⟩=some (.slice A1 l.length c1):=P2.o _ jl.o;have z7:∀i,w7.frozen? ⟨tb,i,none⟩=false:=fun i=>by
   have hb:=ah (ah YT.o.blk (Turn.alloc (fun _=>False) w2 (.cells #[sv s] 9)) id) (Turn.aZ ku (F:=fun j=>base<=j) (fun k e=>(fF.o.lt k e).1));exact frozen_of_row _ _ _ _ _ hb
  clear hH8 ht8 aU ku iI hlen;refine hK.out _ _ jl.o ?_;clear hK K
  try simp only [sp,sq]
  refine tx 8 (.pointer (some ⟨tb,2,none⟩)) jl.o ?_;refine bR 9 fun K hK=>?_;go_simp;refine hK.out _ _ ?_;clear hK K
  try simp only [sp,sq]
  refine bU _ ?_;have YI:=QH.o.turn mZ.o
  have xB:=gX.o.turn mZ.o (fun e=>by rcases e with e |e;(have:=(YT.o.sZ.lt _ e).1;omega);omega) (fun k hk e=>by
   have:=gX.o.1;rcases e with e |e
   ·have:=(YT.o.sZ.lt _ e).1;omega
   ·omega)
  have Tv:=aO ((akp.o.mono (G:=fun k=>k=bp∨tb<=k) (fun _ _ h=>.inl h)).trans mZ.o (fun i _ e=>by
   rcases e with e |e
   ·have:=(YT.o.sZ.lt i e).1;exact .inr (by omega)
   ·exact .inr (by omega)))
  have GV:=aO YI;have rQ:=aO xB;have HW:=aO (fV _ bp B r d xB [58] 9 _ rfl);generalize w7.setCell ⟨tb,2,none⟩ _=w8 at*
  have anL:=dn Rq.o.box;clear YI xB jl mZ t7 z7 HT3 FH fF HT2 YT QH gX P0 P2 hbx t0 t1 t2 t3 tz;go_wp2_with fail;refine(HW.o).mono ?_;rintro e w9 h9;rcases hq:aC [58] r with g |⟨u,r9⟩
  ·obtain⟨rfl,t9,b9⟩:=h9.cB hq;have HT:=aO (Tv.o.trans t9 (fun _ _ h=>.inl h));have HB:=aO b9;have kF:=aO (lN.o.symm.trans (aA (aA hq)));clear h9 t9 b9 hq;go_wp2_with fail;exact⟨rfl,fu.fail kF.o HT.o HB.o⟩
  ·obtain⟨v,rfl,t9,-,k9⟩:=h9.aQ hq;have hH9:=Rq.o.turn GV.o t9;have HH9:=aO hH9;have HP9:=aO (GV.o.turn t9);have j5:=aO (Tv.o.trans t9 (fun _ _ h=>.inl h));have kV:=aO k9;have kF:bq (aj (aj typ fun t=>aB (s,t)) (fun x=>aB (l++[x])) r9=Q):=aO ((iV (p:=aC [58]) hq).symm.trans lN.o);have anN:=dn hH9.box;obtain⟨s0,s1,s2,s3,sz⟩:=aW hH9.blk;have P0:=aO (fun(w':World) (h:Turn (fun j=>j=bp∨base<=j) w9 w')=>aK anN h);have P3:=aO (fun(w':World) (h:Turn (fun j=>j=bp∨base<=j) w9 w')=>aK s3 h);have HD0:bq (Turn (fun j=>j=bp∨base<=j) w9 w9.drew):=aO ⟨rfl,rfl,rfl,Nat.le_refl _,fun _ _ _=>rfl⟩;have nJ:bq (Turn (fun j=>j=bp) w9 w9.drew):=aO ⟨rfl,rfl,rfl,Nat.le_refl _,fun _ _ _=>rfl⟩;clear h9 t9 k9 hq hH9 anL anN s0 s1 s2 s3 sz;go_wp2_with fail;refine bM (S:=fun w'=>Turn (fun j=>j=bp∨base<=j) w9 w') (x:=10) (by kernel_rfl) ?_
   try simp only [sp,sq]
   refine tx 0 (.pointer (some ⟨tb,3,none⟩)) HD0.o ?_;refine jw 1 (.slice A2 l.length c2) P3.o HD0.o ?_;refine jw 2 (.pointer (some ⟨bp,0,none⟩)) P0.o HD0.o ?_;refine tx 4 (.int .i64 l.length) HD0.o ?_;refine eY (rs:=[3,5]) (by kernel_rfl) (by simp) ?_;refine bQ.cons rfl (fun K hK=>?_) (bQ.cons rfl (fun K hK=>?_) bQ.nil)
   ·have pR:=nJ;have Ga:=aO (qK w9.drew bp B r9 kV.o);go_simp;refine(Ga.o).mono ?_;rintro e uX h10;rcases hq:typ r9 with g |⟨x,vJ⟩
    ·obtain⟨rfl,t10,b10⟩:=h10.cB hq;have HT:=aO (j5.o.trans (pR.o.trans t10) (fun _ _ h=>.inl h));have HB:=aO b10;have iO:=aO (kF.o.symm.trans (aA (aA hq)));clear h10 t10 b10 hq;exact⟨rfl,fu.fail iO.o HT.o HB.o⟩
    ·obtain⟨v,rfl,t10,⟨z,rfl,hz⟩,k10⟩:=h10.aQ hq;obtain⟨kz,sz,sj,su,sw,sD,sF,sG,rfl⟩:=hz.shape';have iY:=aO (pR.o.trans t10);have AX:=aO (iY.o.mono (G:=fun j=>j=bp∨base<=j) (fun _ _ h=>.inl h));have kW:=aO k10;have iO:bq (Pr.good (l++[(s,x)]) vJ=Q):=aO ((iV (p:=typ) hq).symm.trans kF.o);have HZ:=aO (hz.mono (G:=fun j=>w9.heap.size<=j) (fun _ _ h=>Nat.le_trans pR.o.size h));clear h10 t10 k10 hq hz;refine hK.out _ _ AX.o ?_;clear hK K
     try simp only [sp,sq]
     refine bB 5 fun K hK=>?_;go_simp;have mQ:=aO (iY.o.trans (Turn.alloc (fun j=>j=bp) uX (.cells #[.int .i64 0,.string ⟨#[]⟩,.slice none 0 0,.slice none 0 0] 80)));have NI:=aO (mQ.o.mono (G:=fun j=>j=bp∨base<=j) (fun _ _ h=>.inl h));have Rs:=aO (HZ.o.turn (Turn.alloc (fun _=>False) uX (.cells #[.int .i64 0,.string ⟨#[]⟩,.slice none 0 0,.slice none 0 0] 80)) (fun _ _ _=>id));have wR:=aO (kW.o.below (new1 uX (.cells #[.int .i64 0,.string ⟨#[]⟩,.slice none 0 0,.slice none 0 0] 80)));have HSL:=aO (iN uX #[.int .i64 0,.string ⟨#[]⟩,.slice none 0 0,.slice none 0 0] 80 4 1 rfl (by decide));refine hK.out _ _ NI.o ?_;clear hK K
     try simp only [sp,sq]
     refine bB 6 fun K hK=>?_;obtain⟨ys,hy,hr⟩:=HH9.o.kid;have hyl:ys.length=l.length*4:=by have:=hy.1;simpa using this
     have fF:=aO (dS hy mQ.o (fun g hg e=>by have:=(hy.lt g hg).1;omega));refine gK rfl (.tmp 17) (.tmp 21) _ rfl base vI (.slice A2 l.length c2) _ rfl rfl fF.o HSL.o F8 (by simp [maxLen];omega) (by simp;omega) (by have:=HP9.o.QG;have:=mQ.o.size;omega) (fun v7 w7 n7 aU ku iI=>?_);have KG:n7=l.length+1:=by have:=aU.1;rw [List.length_append,hyl]at this;simp at this;omega
     subst KG;obtain⟨g7,c7,rfl,hgb,hgs,hc7,hm7⟩:=jo aU;have he:=HH9.o.af0 HP9.o mQ.o Rs.o hy hr (by rfl) aU ku iI rfl;simp only [List.length_map]at he;have HE:=aO he;have lG:=aO ((mQ.o.mono (G:=fun j=>j=bp∨base<=j) (fun _ _ h=>.inl h)).trans (Turn.aZ ku (F:=fun j=>j=bp∨base<=j) (fun k e=>.inr (hy.lt k e).1)) (fun _ _ h=>h));have kC:=aO (wR.o.turn (Turn.aZ ku (F:=fun j=>base<=j) (fun k e=>(hy.lt k e).1)) (by omega) (fun k hk e=>by have:=wR.o.1;omega));have jA:w7.heap[tb]? =some (.cells #[.int .i64 5,sv [],_,.slice A2 l.length c2] 80 (0,0)):=ah HH9.o.blk lG.o;obtain⟨e0,e1,e2,e3,ez⟩:=aW jA;have o0:=aY aU rfl (i:=l.length*4) (u:= .int .i64 0) (by rw [List.getElem?_append_right (by omega),hyl,Nat.sub_self];rfl);have o1:=aY aU rfl (i:=l.length*4+1) (u:= .string ⟨#[]⟩) (by rw [List.getElem?_append_right (by omega),hyl,Nat.add_sub_cancel_left];rfl);have o2:=aY aU rfl (i:=l.length*4+2) (u:= .slice none 0 0) (by rw [List.getElem?_append_right (by omega),hyl,Nat.add_sub_cancel_left];rfl);have o3:=aY aU rfl (i:=l.length*4+3) (u:= .slice none 0 0) (by rw [List.getElem?_append_right (by omega),hyl,Nat.add_sub_cancel_left];rfl);obtain⟨o0,q0⟩:=o0;obtain⟨o1,q1⟩:=o1;obtain⟨o2,q2⟩:=o2;obtain⟨o3,q3⟩:=o3;have hne1:¬g7=tb:=by omega
     have hne2:¬tb=g7:=by omega
     clear he aU ku iI jA hy hr e0 e1 e2;refine hK.out _ _ lG.o ?_;clear hK K
     try simp only [sp,sq]
     refine tt 7 (.pointer (some ⟨g7,l.length*4,none⟩)) (fun _=>lG.o) (hy:=by intro w' hSw;go_simp <;> (intro h;omega)) ?_;refine tt 9 (.pointer (some ⟨tb,3,none⟩)) (fun _=>lG.o) ?_;refine eY (rs:=[8,10]) (by kernel_rfl) (by simp) ?_;refine bQ.cons rfl (fun K hK=>?_) (bQ.past rfl (by kernel_rfl) (fun K hK=>?_) bQ.nil)
     ·go_simp;have xK:=aO (lG.o.trans (gN g7 [.int .i64 kz,sv sz,.slice sj su sw,.slice sD sF sG] w7 (l.length*4)) (fun _ _ h=>.inr (by omega)));refine hK.out _ _ xK.o ?_;clear hK K
      try simp only [sp,sq]
      refine bR 10 fun K hK=>?_;go_simp;refine hK.out _ _ ?_;clear hK K
      try simp only [sp,sq]
      refine bU _ ?_;have hK8:=kC.o.turn (((gN g7 [.int .i64 kz,sv sz,.slice sj su sw,.slice sD sF sG] w7 (l.length*4)).mono (G:=fun k=>k=g7∨k=tb) (fun _ _ h=>.inl h)).trans (ak _ tb 3 (.slice (some ⟨g7,0,none⟩) (l.length+1) c7)) (fun _ _ h=>.inr h)) (fun e=>by rcases e with e |e <;> omega) (fun k hk e=>by have:=wR.o.1;rcases e with e |e <;> omega);go_wp2_with fail;go_end0;exact fu.done iO.o.symm (j5.o.trans HE.o.1.2) ⟨_,_,by rw [List.map_append,List.map_append];exact HE.o.1.1⟩ hK8
     ·go_simp;refine hK.out _ _ ?_;clear hK K
      try simp only [sp,sq]
      refine bR 8 fun K hK=>?_;go_simp;refine hK.out _ _ ?_;clear hK K
      try simp only [sp,sq]
      refine bU _ ?_;have hK8:=kC.o.turn (((ak w7 tb 3 (.slice (some ⟨g7,0,none⟩) (l.length+1) c7)).mono (G:=fun k=>k=g7∨k=tb) (fun _ _ h=>.inr h)).trans (gN g7 [.int .i64 kz,sv sz,.slice sj su sw,.slice sD sF sG] _ (l.length*4)) (fun _ _ h=>.inl h)) (fun e=>by rcases e with e |e <;> omega) (fun k hk e=>by have:=wR.o.1;rcases e with e |e <;> omega);go_wp2_with fail;go_end0;exact fu.done iO.o.symm (j5.o.trans HE.o.2.2) ⟨_,_,by rw [List.map_append,List.map_append];exact HE.o.2.1⟩ hK8
   ·skip
    go_simp;have NJ:=aO (HD0.o.trans (Turn.alloc (fun j=>j=bp∨base<=j) w9.drew (.cells #[.int .i64 0,.string ⟨#[]⟩,.slice none 0 0,.slice none 0 0] 80)));have Ga:=aO (qK _ bp B r9 (cu.below (w:=w9.drew) kV.o (new1 w9.drew (.cells #[.int .i64 0,.string ⟨#[]⟩,.slice none 0 0,.slice none 0 0] 80))));have pR:=aO (nJ.o.trans (Turn.alloc (fun j=>j=bp) w9.drew (.cells #[.int .i64 0,.string ⟨#[]⟩,.slice none 0 0,.slice none 0 0] 80)));refine hK.out _ _ NJ.o ?_;clear hK K
    try simp only [sp,sq]
    refine bB 3 fun K hK=>?_;go_simp;refine(Ga.o).mono ?_;rintro e uX h10;rcases hq:typ r9 with g |⟨x,vJ⟩
    ·obtain⟨rfl,t10,b10⟩:=h10.cB hq;have HT:=aO (j5.o.trans (pR.o.trans t10) (fun _ _ h=>.inl h));have HB:=aO b10;have iO:=aO (kF.o.symm.trans (aA (aA hq)));clear h10 t10 b10 hq;exact⟨rfl,fu.fail iO.o HT.o HB.o⟩
    ·obtain⟨v,rfl,t10,⟨z,rfl,hz⟩,k10⟩:=h10.aQ hq;obtain⟨kz,sz,sj,su,sw,sD,sF,sG,rfl⟩:=hz.shape';have iY:=aO (pR.o.trans t10);have AX:=aO (iY.o.mono (G:=fun j=>j=bp∨base<=j) (fun _ _ h=>.inl h));have kW:=aO k10;have iO:bq (Pr.good (l++[(s,x)]) vJ=Q):=aO ((iV (p:=typ) hq).symm.trans kF.o);have HZ:=aO (hz.mono (G:=fun j=>w9.heap.size<=j) (fun _ _ h=>Nat.le_trans pR.o.size h));have mQ:=iY;have Rs:=HZ;have wR:=kW;have HSL:=aO (uy w9.drew #[.int .i64 0,.string ⟨#[]⟩,.slice none 0 0,.slice none 0 0] 80 4 1 rfl (by decide) t10 (by have:=HP9.o.QG;have hs:w9.drew.heap.size=w9.heap.size:=rfl;omega));clear h10 t10 k10 hq hz;refine hK.out _ _ AX.o ?_;clear hK K
     try simp only [sp,sq]
     refine bB 6 fun K hK=>?_;obtain⟨ys,hy,hr⟩:=HH9.o.kid;have hyl:ys.length=l.length*4:=by have:=hy.1;simpa using this
     have fF:=aO (dS hy mQ.o (fun g hg e=>by have:=(hy.lt g hg).1;omega));refine gK rfl (.tmp 17) (.tmp 21) _ rfl base vI (.slice A2 l.length c2) _ rfl rfl fF.o HSL.o F8 (by simp [maxLen];omega) (by simp;omega) (by have:=HP9.o.QG;have:=mQ.o.size;omega) (fun v7 w7 n7 aU ku iI=>?_);have KG:n7=l.length+1:=by have:=aU.1;rw [List.length_append,hyl]at this;simp at this;omega
     subst KG;obtain⟨g7,c7,rfl,hgb,hgs,hc7,hm7⟩:=jo aU;have he:=HH9.o.af0 HP9.o mQ.o Rs.o hy hr (by rfl) aU ku iI rfl;simp only [List.length_map]at he;have HE:=aO he;have lG:=aO ((mQ.o.mono (G:=fun j=>j=bp∨base<=j) (fun _ _ h=>.inl h)).trans (Turn.aZ ku (F:=fun j=>j=bp∨base<=j) (fun k e=>.inr (hy.lt k e).1)) (fun _ _ h=>h));have kC:=aO (wR.o.turn (Turn.aZ ku (F:=fun j=>base<=j) (fun k e=>(hy.lt k e).1)) (by omega) (fun k hk e=>by have:=wR.o.1;omega));have jA:w7.heap[tb]? =some (.cells #[.int .i64 5,sv [],_,.slice A2 l.length c2] 80 (0,0)):=ah HH9.o.blk lG.o;obtain⟨e0,e1,e2,e3,ez⟩:=aW jA;have o0:=aY aU rfl (i:=l.length*4) (u:= .int .i64 0) (by rw [List.getElem?_append_right (by omega),hyl,Nat.sub_self];rfl);have o1:=aY aU rfl (i:=l.length*4+1) (u:= .string ⟨#[]⟩) (by rw [List.getElem?_append_right (by omega),hyl,Nat.add_sub_cancel_left];rfl);have o2:=aY aU rfl (i:=l.length*4+2) (u:= .slice none 0 0) (by rw [List.getElem?_append_right (by omega),hyl,Nat.add_sub_cancel_left];rfl);have o3:=aY aU rfl (i:=l.length*4+3) (u:= .slice none 0 0) (by rw [List.getElem?_append_right (by omega),hyl,Nat.add_sub_cancel_left];rfl);obtain⟨o0,q0⟩:=o0;obtain⟨o1,q1⟩:=o1;obtain⟨o2,q2⟩:=o2;obtain⟨o3,q3⟩:=o3;have hne1:¬g7=tb:=by omega
     have hne2:¬tb=g7:=by omega
     clear he aU ku iI jA hy hr e0 e1 e2;refine hK.out _ _ lG.o ?_;clear hK K
     try simp only [sp,sq]
     refine tt 7 (.pointer (some ⟨g7,l.length*4,none⟩)) (fun _=>lG.o) (hy:=by intro w' hSw;go_simp <;> (intro h;omega)) ?_;refine tt 9 (.pointer (some ⟨tb,3,none⟩)) (fun _=>lG.o) ?_;refine eY (rs:=[8,10]) (by kernel_rfl) (by simp) ?_;refine bQ.cons rfl (fun K hK=>?_) (bQ.past rfl (by kernel_rfl) (fun K hK=>?_) bQ.nil)
     ·go_simp;have xK:=aO (lG.o.trans (gN g7 [.int .i64 kz,sv sz,.slice sj su sw,.slice sD sF sG] w7 (l.length*4)) (fun _ _ h=>.inr (by omega)));refine hK.out _ _ xK.o ?_;clear hK K
      try simp only [sp,sq]
      refine bR 10 fun K hK=>?_;go_simp;refine hK.out _ _ ?_;clear hK K
      try simp only [sp,sq]
      refine bU _ ?_;have hK8:=kC.o.turn (((gN g7 [.int .i64 kz,sv sz,.slice sj su sw,.slice sD sF sG] w7 (l.length*4)).mono (G:=fun k=>k=g7∨k=tb) (fun _ _ h=>.inl h)).trans (ak _ tb 3 (.slice (some ⟨g7,0,none⟩) (l.length+1) c7)) (fun _ _ h=>.inr h)) (fun e=>by rcases e with e |e <;> omega) (fun k hk e=>by have:=wR.o.1;rcases e with e |e <;> omega);go_wp2_with fail;go_end0;exact fu.done iO.o.symm (j5.o.trans HE.o.1.2) ⟨_,_,by rw [List.map_append,List.map_append];exact HE.o.1.1⟩ hK8
     ·go_simp;refine hK.out _ _ ?_;clear hK K
      try simp only [sp,sq]
      refine bR 8 fun K hK=>?_;go_simp;refine hK.out _ _ ?_;clear hK K
      try simp only [sp,sq]
      refine bU _ ?_;have hK8:=kC.o.turn (((ak w7 tb 3 (.slice (some ⟨g7,0,none⟩) (l.length+1) c7)).mono (G:=fun k=>k=g7∨k=tb) (fun _ _ h=>.inr h)).trans (gN g7 [.int .i64 kz,sv sz,.slice sj su sw,.slice sD sF sG] _ (l.length*4)) (fun _ _ h=>.inl h)) (fun e=>by rcases e with e |e <;> omega) (fun k hk e=>by have:=wR.o.1;rcases e with e |e <;> omega);go_wp2_with fail;go_end0;exact fu.done iO.o.symm (j5.o.trans HE.o.2.2) ⟨_,_,by rw [List.map_append,List.map_append];exact HE.o.2.1⟩ hK8
end Go.Proofs.YtncnnedlgofccaaGreatDoor
