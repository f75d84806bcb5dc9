/- FR, HN, HQ, HS -/
import Derived.Test.YtfgjkmipfikooaaGreatDoorTEQ
import Derived.Test.YtfgjkmipfikooaaGreatDoorTE09
import Derived.Test.YtfgjkmipfikooaaGreatDoorTE08
import Derived.Test.YtfgjkmipfikooaaGreatDoorTE07
import Derived.Test.YtfgjkmipfikooaaGreatDoorTE02
set_option linter.unusedSimpArgs false
set_option linter.unusedVariables false
set_option maxRecDepth 100000
set_option maxHeartbeats 8000000
namespace Go.Proofs.YtfgjkmipfikooaaGreatDoor
open Go.RowKit
def Ca (d:Int)(unary:Ps bI):Prop:=∀(w:World) (bp B:Nat) (ts:List aI),bX w bp B ts d->
 Calls Tryz.prog 163 #[.pointer (some ⟨bp,0,none⟩)] w (aL (En w.heap.size) bp B d w (unary ts))
def ajY (d:Int)(p:Ps bI):Prop:=∀(w:World) (bp B:Nat) (ts:List aI),bX w bp B ts d->
 Calls Tryz.prog 164 #[.pointer (some ⟨bp,0,none⟩)] w (aL (En w.heap.size) bp B d w (p ts))
def tN (d:Int)(k:Nat)(p:Ps bI):Prop:=∀(w:World) (bp B:Nat) (ts:List aI),bX w bp B ts d->
 Calls Tryz.prog 105 #[.pointer (some ⟨bp,0,none⟩),.int .i64 k] w (aL (En w.heap.size) bp B d w (p ts))
theorem bU {bp a:Nat}{w w1:World}{v0 v1 v2 v3 v4 v5 v6 v7:Value}(h:Turn (fun k=>k=bp) w w1)(ha:w.heap.size<=a):Turn (fun k=>k=bp) w (yg w1 a v0 v1 v2 v3 v4 v5 v6 v7):=h.trans (bD w1 a v0 v1 v2 v3 v4 v5 v6 v7) (fun i hi e=>by omega)
theorem bX.gT {bp B a:Nat}{w1:World}{ts:List aI}{d:Int}{v0 v1 v2 v3 v4 v5 v6 v7:Value}(h:bX w1 bp B ts d)(ha:bp<a):bX (yg w1 a v0 v1 v2 v3 v4 v5 v6 v7) bp B ts d:=h.turn (bD _ _ _ _ _ _ _ _ _ _) (by omega) (fun k hk e=>by have:=h.1;omega)
theorem Xi (d:Int)(p:Ps bI)(HU:Ca d p):tN d 6 p:=by
 intro w bp B ts h;have hlt:=h.lt;have hB:=h.1;obtain⟨Q,hQ⟩:∃Q,p ts=Q:=⟨_,rfl⟩
 rw [hQ];have HQ:=aZ hQ;have HR:=aZ (BZ (w.alloc (.cells #[.int .i64 0,.string ⟨#[]⟩,.int .i64 0,.int .i64 0,.int .i64 0,.slice none 0 0,.slice none 0 0,.slice none 0 0] 52)));have LQ:=aZ (h.below (new1 w (.cells #[.int .i64 0,.string ⟨#[]⟩,.int .i64 0,.int .i64 0,.int .i64 0,.slice none 0 0,.slice none 0 0,.slice none 0 0] 52)));have hw1:=wJ w (.cells #[.int .i64 0,.string ⟨#[]⟩,.int .i64 0,.int .i64 0,.int .i64 0,.slice none 0 0,.slice none 0 0,.slice none 0 0] 52);clear h hQ;go_enter Tryz.func105,Tryz.ntmps105;go_wp2_with fail;refine(HR.o).mono ?_;rintro e w1 ⟨hb,v,rfl,hv⟩;obtain⟨b,rfl,hbF,hbs,hcell⟩:=hv;have iI:=aZ (LQ.o.below hb);obtain⟨tm,hs1,hrs⟩:=bR (Turn.of_below (F:=fun k=>k=bp) hb);have HT1:=aZ tm;have qL:=aZ (hrs (by omega));have HC:=aZ (HU w1 bp B ts iI.o);clear hb hbF hbs hcell tm hrs hw1;go_wp2_with fail;refine(HC.o).mono ?_;rintro e w2 h2;rcases hq:p ts with g |⟨x,r2⟩
 ·obtain⟨rfl,tn,bn⟩:=h2.bY hq;have HB:=aZ (eP.mk2 (aB HT1.o tn) bn);have dP:=aZ (HQ.o.symm.trans hq);clear h2 tn bn hq;go_wp2_with fail;exact⟨rfl,aL.fail dP.o HB.o⟩
 ·obtain⟨v2,rfl,tn,⟨z,rfl,hz⟩,kn⟩:=h2.aQ hq;obtain⟨kz,sz,nz,lz,oz,qh,qj,ql,qm,qo,qp,Eu,Ev,Ew,rfl⟩:=hz.shape';have HZ:=aZ hz;have jI:=aZ (HQ.o.symm.trans hq);clear hz;have hs2:=tn.size;have HT2:=aZ (aB HT1.o tn);have gW:=aZ kn;have sZ:=aZ (ah qL.o tn (by omega));clear h2 tn kn hq;obtain⟨c0,c1,c2,c3,c4,c5,c6,c7,cz⟩:=aD sZ.o;go_wp2_with fail;refine bodyPost_ret (aM rfl rfl (aV sZ.o _ _ _ _ _ _ _ _) Tryz.underlying52 rfl (by kernel_rfl)) rfl ?_;exact aL.done jI.o (bU HT2.o (by omega)) ⟨_,rfl,(HZ.o.turn (bD _ _ _ _ _ _ _ _ _ _) (fun g _ h e=>by omega)).mono (fun g _ h=>by omega)⟩ (gW.o.gT (by omega))
theorem Xj (d:Int)(p:Ps bI)(HU:ajY d p):tN d 2 p:=by
 intro w bp B ts h;have hlt:=h.lt;have hB:=h.1;obtain⟨Q,hQ⟩:∃Q,p ts=Q:=⟨_,rfl⟩
 rw [hQ];have HQ:=aZ hQ;have HR:=aZ (BZ (w.alloc (.cells #[.int .i64 0,.string ⟨#[]⟩,.int .i64 0,.int .i64 0,.int .i64 0,.slice none 0 0,.slice none 0 0,.slice none 0 0] 52)));have LQ:=aZ (h.below (new1 w (.cells #[.int .i64 0,.string ⟨#[]⟩,.int .i64 0,.int .i64 0,.int .i64 0,.slice none 0 0,.slice none 0 0,.slice none 0 0] 52)));have hw1:=wJ w (.cells #[.int .i64 0,.string ⟨#[]⟩,.int .i64 0,.int .i64 0,.int .i64 0,.slice none 0 0,.slice none 0 0,.slice none 0 0] 52);clear h hQ;go_enter Tryz.func105,Tryz.ntmps105;go_wp2_with fail;refine(HR.o).mono ?_;rintro e w1 ⟨hb,v,rfl,hv⟩;obtain⟨b,rfl,hbF,hbs,hcell⟩:=hv;have iI:=aZ (LQ.o.below hb);obtain⟨tm,hs1,hrs⟩:=bR (Turn.of_below (F:=fun k=>k=bp) hb);have HT1:=aZ tm;have qL:=aZ (hrs (by omega));have HC:=aZ (HU w1 bp B ts iI.o);clear hb hbF hbs hcell tm hrs hw1;go_wp2_with fail;refine(HC.o).mono ?_;rintro e w2 h2;rcases hq:p ts with g |⟨x,r2⟩
 ·obtain⟨rfl,tn,bn⟩:=h2.bY hq;have HB:=aZ (eP.mk2 (aB HT1.o tn) bn);have dP:=aZ (HQ.o.symm.trans hq);clear h2 tn bn hq;go_wp2_with fail;exact⟨rfl,aL.fail dP.o HB.o⟩
 ·obtain⟨v2,rfl,tn,⟨z,rfl,hz⟩,kn⟩:=h2.aQ hq;obtain⟨kz,sz,nz,lz,oz,qh,qj,ql,qm,qo,qp,Eu,Ev,Ew,rfl⟩:=hz.shape';have HZ:=aZ hz;have jI:=aZ (HQ.o.symm.trans hq);clear hz;have hs2:=tn.size;have HT2:=aZ (aB HT1.o tn);have gW:=aZ kn;have sZ:=aZ (ah qL.o tn (by omega));clear h2 tn kn hq;obtain⟨c0,c1,c2,c3,c4,c5,c6,c7,cz⟩:=aD sZ.o;go_wp2_with fail;refine bodyPost_ret (aM rfl rfl (aV sZ.o _ _ _ _ _ _ _ _) Tryz.underlying52 rfl (by kernel_rfl)) rfl ?_;exact aL.done jI.o (bU HT2.o (by omega)) ⟨_,rfl,(HZ.o.turn (bD _ _ _ _ _ _ _ _ _ _) (fun g _ h e=>by omega)).mono (fun g _ h=>by omega)⟩ (gW.o.gT (by omega))
theorem Fv {l:List Bt}{ts r:List aI}{i:Nat}(h:dA l ts=.good (some i) r)(hw:1<=ts.length):r.length<ts.length:=by
 unfold dA at h;split at h
 ·cases h
 ·injection h with _ h;subst h;rw [List.length_drop];omega
structure Aq (w:World) (bp B ab:Nat) (d:Int) (vr:Value) (wr:World) (a:bI) (r:List aI):Prop where
 turn:Turn (fun k=>k=bp) w wr
 tk:bX wr bp B r d
 res:wr.heap[w.heap.size]? =some (.cells #[.int .i64 0,.string ⟨#[]⟩,.int .i64 0,.int .i64 0,.int .i64 0,.slice none 0 0,.slice none 0 0,.slice none 0 0] 52 (0,0))
 rk:LP wr (fun j=>w.heap.size+1<=j∧j<ab) vr
 no:∃z:List Value,wr.heap[ab]? =some (.cells z.toArray 52 (0,0))∧qd wr (fun j=>w.heap.size<=j∧j≠w.heap.size∧j≠ab) z a
theorem Aq.go {w:World}{bp B ab:Nat}{d:Int}{vr:Value}{wr w':World}{a:bI}{r r':List aI}{G:Nat->Prop}(h:Aq w bp B ab d vr wr a r)(hlt:bp<w.heap.size)(hab:w.heap.size<ab)(t:Turn G wr w')(hG:∀j,G j->j=bp∨wr.heap.size<=j)(hk:bX w' bp B r' d):Aq w bp B ab d vr w' a r':=by
 obtain⟨ht,_,hr,hv,z,hz,hn⟩:=h;have hs:=ht.size;have hrl:=block_lt hr;have hzl:=block_lt hz;exact⟨ht.trans t (fun i hi e=>by rcases hG i e with e |e;exact e;omega),hk,ah hr t (fun e=>by rcases hG _ e with e |e <;> omega),hv.turn t (fun g hg h e=>by have:=h.1;rcases hG _ e with e |e <;> omega),z,ah hz t (fun e=>by rcases hG _ e with e |e <;> omega),hn.turn t (fun g hg h e=>by rcases hG _ e with e |e <;> omega)⟩
theorem tO (d:Int)(k:Nat)(hk:k=0∨k=1∨k=3∨k=4∨k=5)(sub:Ps bI)(hsf:Sf sub)(HS:tN d (k+1) sub):tN d k (CU (kP.getD k []) sub):=by
 intro w bp B ts h;have hlt:=h.lt;have hB:=h.1;have hk5:k<=5:=by omega
 have OG:((k:Int)==6)=false:=by simp;omega
 have hk2:((k:Int)==2)=false:=by simp;omega
 obtain⟨ops,hops⟩:∃ops,kP.getD k []=ops:=⟨_,rfl⟩
 have hol:ops.length<=6:=by
  rcases hk with rfl |rfl |rfl |rfl |rfl <;> rw [<-hops] <;> decide
 have ajZ:=aZ hops;rw [hops];obtain⟨Q,hQ⟩:∃Q,CU ops sub ts=Q:=⟨_,rfl⟩
 rw [hQ];have HQ:bN (aj sub (fun a ts=>jN ops sub ts.length a ts) ts=Q):=aZ hQ;have HR:=aZ (BZ (w.alloc (.cells #[.int .i64 0,.string ⟨#[]⟩,.int .i64 0,.int .i64 0,.int .i64 0,.slice none 0 0,.slice none 0 0,.slice none 0 0] 52)));have LQ:=aZ (h.below (new1 w (.cells #[.int .i64 0,.string ⟨#[]⟩,.int .i64 0,.int .i64 0,.int .i64 0,.slice none 0 0,.slice none 0 0,.slice none 0 0] 52)));have HKK:=aZ hk;clear h hQ hops hk;go_enter Tryz.func105,Tryz.ntmps105;go_wp2_with fail;refine(HR.o).mono ?_;rintro e w1 ⟨hb,vr,rfl,hv⟩;have hv0:=hv;obtain⟨b,hvr,hbF,hbs,hcell⟩:=hv0;have apI:=aZ (hv.mono (G:=fun j=>w.heap.size+1<=j∧j<w1.heap.size) (fun g hg h=>⟨by simp at h;exact h,hg⟩));have iI:=aZ (LQ.o.below hb);obtain⟨tm,hs1,hrs⟩:=bR (Turn.of_below (F:=fun k=>k=bp) hb);have HT1:=aZ tm;have qL:=aZ (hrs (by omega));have HSK:bN (∀(w:World) (ts:List aI),bX w bp B ts d->Calls Tryz.prog 105 #[.pointer (some ⟨bp,0,none⟩),.int .i64 ((k:Int)+1)] w (aL (En w.heap.size) bp B d w (sub ts))):=aZ (fun w ts h=>HS w bp B ts h);have HC:=aZ (HSK.o w1 ts iI.o);have awi:=hvr;subst hvr;clear hb hbF hbs hcell tm hrs hv;go_wp2_with fail;refine(HC.o).mono ?_;rintro e w2 h2;rcases hq:sub ts with g |⟨a,r2⟩
 ·obtain⟨rfl,tn,bn⟩:=h2.bY hq;have HB:=aZ (eP.mk2 (aB HT1.o tn) bn);have dP:=aZ (HQ.o.symm.trans (aC hq));clear h2 tn bn hq;go_wp2_with fail;exact⟨rfl,aL.fail dP.o HB.o⟩
 ·obtain⟨v2,rfl,tn,⟨z,rfl,hz⟩,kn⟩:=h2.aQ hq;have jI:bN (jN ops sub r2.length a r2=Q):=aZ ((au (f:=fun a ts=>jN ops sub ts.length a ts) hq).symm.trans HQ.o);obtain⟨k2,s2,n2,l2,o2,A12,n12,c12,A22,n22,c22,A32,n32,c32,rfl⟩:=hz.shape';have apJ:=aZ (apI.o.turn tn (fun g _ h e=>by have:=h.1;omega));have HZ:=aZ hz;clear hz;have hs2:=tn.size;have HT2:=aZ (aB HT1.o tn);have gW:=aZ kn;have sZ:=aZ (ah qL.o tn (by omega));clear h2 tn kn hq;have ta:=Turn.alloc (fun k=>k=bp) w2 (.cells #[.int .i64 k2,sv s2,.int .i64 n2,.int .i64 l2,.int .i64 o2,.slice A12 n12 c12,.slice A22 n22 c22,.slice A32 n32 c32] 52);have hab:w.heap.size<w2.heap.size:=by omega
  have HRI:bN (Aq w bp B w2.heap.size d (.slice (some ⟨b,0,none⟩) 6 6) (w2.alloc (.cells #[.int .i64 k2,sv s2,.int .i64 n2,.int .i64 l2,.int .i64 o2,.slice A12 n12 c12,.slice A22 n22 c22,.slice A32 n32 c32] 52)) a r2):=aZ ⟨aB HT2.o ta,gW.o.below (new1 _ _),bQ sZ.o,(apJ.o.turn ta (fun g _ h e=>by have:=h.1;omega)).mono (fun g _ h=>⟨h.1,by have:=h.2;omega⟩),[.int .i64 k2,sv s2,.int .i64 n2,.int .i64 l2,.int .i64 o2,.slice A12 n12 c12,.slice A22 n22 c22,.slice A32 n32 c32],wJ _ _,(HZ.o.iv.turn (Turn.alloc (fun _=>False) w2 (.cells #[.int .i64 k2,sv s2,.int .i64 n2,.int .i64 l2,.int .i64 o2,.slice A12 n12 c12,.slice A22 n22 c22,.slice A32 n32 c32] 52)) (fun _ _ _=>id)).mono (fun g hg h=>⟨by have:=h.1;omega,by have:=h.1;omega,by have:=h.2;omega⟩)⟩;go_wp2_with fail;go_loopw [8] (fun _ wr=>∃(f:Nat) (a:bI) (r:List aI),jN ops sub f a r=Q∧r.length<=f∧Aq w bp B w2.heap.size d (.slice (some ⟨b,0,none⟩) 6 6) wr a r) (fun _ wr=>leftOf wr bp)
  case atStart=>exact⟨_,a,r2,jI.o,Nat.le_refl _,HRI.o⟩
  case round=>
   obtain⟨f,a,r,hinv,hf,vV⟩:=hrel;have hwf:=vV.tk.wf;have hpos:=hwf.pos;obtain⟨f,rfl⟩:∃f',f=f'+1:=⟨f - 1,by omega⟩
   obtain⟨t,ht⟩:∃t,aS r=t:=⟨_,rfl⟩
   have HL:bN (aj (dA ops) (fun i=>match i with |none=>aF a |some i=>aj sub fun b=>jN ops sub f (aK 14 (ops.getD i []) 0 t [] [] [a,b])) r=Q):=aZ (by subst ht;exact hinv);have HLEN:=aZ vV.tk.left;have HF:=aZ hf;have DV:=aZ vV;have vO:=aZ hwf;have hsr:=vV.turn.size;obtain⟨z4,hz0,hn0⟩:=vV.no;obtain⟨k4,s4,n4,l4,o4,qG,n14,c14,qH,n24,c24,uQ,n34,c34,rfl⟩:=hn0.shape';have agO:=aZ hz0;have HN0:=aZ (hn0.mono (G:=fun j=>(w.heap.size<=j∧j≠w.heap.size∧j≠w2.heap.size)∧j<wr.heap.size) (fun g hg h=>⟨h,hg⟩));have apK:=block_lt hz0;have HH:=aZ (tJ d wr bp B r vV.tk 14);rw [ht]at HH;clear hinv hf vV hwf ht hz0 hn0;go_wp2_with fail;refine(HH.o).mono ?_;rintro e w3 ⟨rfl,hb3⟩;have hs3:=hb3.size;have t3:=(Turn.of_below (F:=fun k=>k=bp) hb3).trans (Turn.alloc (fun k=>k=bp) w3 (.cells (qw 14 t) 52)) (fun _ _ h=>h);have hk3:=(DV.o.tk.below hb3).below (new1 w3 (.cells (qw 14 t) 52));have DW:=aZ (DV.o.go hlt hab t3 (fun j h=>.inl h) hk3);have pq:=aZ (wJ w3 (.cells (qw 14 t) 52));have Uy:=aZ (ah agO.o t3 (by omega));have Fq:=aZ (HN0.o.turn t3 (fun g _ h e=>by have:=h.1.1;omega));obtain⟨W3,hW3⟩:∃W3,w3.alloc (.cells (qw 14 t) 52)=W3:=⟨_,rfl⟩
   rw [hW3]at DW pq Uy Fq;have hsW:W3.heap.size=w3.heap.size+1:=by rw [<-hW3];simp
   have HW3:=aZ hW3;obtain⟨bb,hbb,hbF,hbs,hcell⟩:=DW.o.rk;have hbe:bb=b:=by injection hbb with h1;injection h1 with h1;injection h1 with h1;exact h1.symm
   subst hbe;obtain⟨Ao,no,co,hoc,hos⟩:=hcell k (by omega);rw [ajZ.o]at hos;have PO:=aZ (fun(w':World) (h:Turn (fun j=>j=bp) W3 w')=>aN hoc h (by omega));have DU:bN (Ss W3.drew W3.drew.heap.size (.slice Ao no co) ops):=aZ hos.all;have uO:=aZ (zY W3.drew bp B r d DW.o.tk (.slice Ao no co) ops DU.o (by omega));have HOS:=aZ hos;have HD0:bN (Turn (fun j=>j=bp) W3 W3.drew):=aZ ⟨rfl,rfl,rfl,Nat.le_refl _,fun _ _ _=>rfl⟩;have hkI:(k:Int)<6:=by omega
   have hkw:IntKind.i64.wrap ((k:Int)+1)=(k:Int)+1:=by rw [IntKind.wrap_i64];omega
   clear hb3 t3 hk3 hW3 hbb hbF hbs hcell hoc hos;go_wp2_with fail;rw [HW3.o];refine bP (S:=fun w'=>Turn (fun j=>j=bp) W3 w') (x:=12) (by kernel_rfl) ?_
   try simp only [Act.put,sq]
   refine tx 0 (.pointer (some ⟨bp,0,none⟩)) HD0.o ?_;refine tx 1 (.pointer (some ⟨bp,0,none⟩)) HD0.o ?_;refine tx 2 (.pointer (some ⟨bp,0,none⟩)) HD0.o ?_;refine tx 3 (.slice (some ⟨bb,0,none⟩) 6 6) HD0.o ?_;refine tx 4 (.int .i64 k) HD0.o ?_;refine tx 5 (.pointer (some ⟨bb,k,none⟩)) HD0.o ?_;refine jG 6 (.slice Ao no co) PO.o HD0.o ?_;refine ay (rs:=[7]) (by kernel_rfl) (by simp) ?_;refine av.cons rfl (fun K hK=>?_) (av.nil);go_simp;refine(uO.o).mono ?_;rintro e w4 h4;rcases hq:dA ops r with g |⟨o,r4⟩
   ·exact(iB hq).elim
   ·obtain⟨v4,rfl,tn,rfl,kn⟩:=h4.aQ hq;have fD:=aZ (aB HD0.o tn);have hs4:=fD.o.size;have Ii:=aZ (DW.o.go hlt hab fD.o (fun j h=>.inl h) kn);have qM:=aZ (ah pq.o fD.o (by omega));have agP:=aZ (ah Uy.o fD.o (by omega));have Rn:=aZ (Fq.o.turn fD.o (fun g _ h e=>by have:=h.1.1;omega));have gq:=aZ hq;clear h4 tn kn hq;refine hK.out _ _ fD.o ?_;clear hK K
    try simp only [Act.put,sq]
    refine tx 8 (.tuple #[.int .i64 ((o.getD 0:Nat):Int),.bool o.isSome]) fD.o ?_;refine tx 9 (.int .i64 ((o.getD 0:Nat):Int)) fD.o ?_;refine tx 10 (.bool o.isSome) fD.o ?_;refine tx 11 (.int .i64 ((o.getD 0:Nat):Int)) fD.o ?_;refine ay (rs:=[12]) (by kernel_rfl) (by simp) ?_;refine av.past rfl (by kernel_rfl) (fun K hK=>?_) (av.nil);go_simp;refine hK.out _ _ ?_;clear hK K
    try simp only [Act.put,sq]
    refine aR (by kernel_rfl) ?_ _;rcases o with _ |i
    ·have iL:bN (Pr.good a r4=Q):=aZ ((au gq.o).symm.trans HL.o);obtain⟨e0,e1,e2,e3,e4,e5,e6,e7,ez⟩:=aD agP.o;obtain⟨c0,c1,c2,c3,c4,c5,c6,c7,cz⟩:=aD Ii.o.res;go_wp2_with fail;refine bodyPost_ret (aM rfl rfl (aV Ii.o.res _ _ _ _ _ _ _ _) Tryz.underlying52 rfl (by kernel_rfl)) rfl ?_;exact aL.done iL.o.symm (bU Ii.o.turn (by omega)) ⟨_,rfl,(Rn.o.turn (bD _ _ _ _ _ _ _ _ _ _) (fun g _ h e=>by have:=h.1.2.1;omega)).mono (fun g _ h=>h.1.1)⟩ (Ii.o.tk.gT (by omega))
    ·have hio:=nS gq.o;have iL:bN (aj sub (fun b=>jN ops sub f (aK 14 (ops.getD i []) 0 t [] [] [a,b])) r4=Q):=aZ ((au gq.o).symm.trans HL.o);have awk:=Ii.o.turn.size;obtain⟨bb2,hbb,hbF,hbs,hcell⟩:=Ii.o.rk;have hbe:bb2=bb:=by injection hbb with h1;injection h1 with h1;injection h1 with h1;exact h1.symm
     subst hbe;obtain⟨Ap,np,cp,hoc,hos⟩:=hcell k (by omega);rw [ajZ.o]at hos;obtain⟨A9,n9,c9,hv9,hl9,hn9,hc9,hx9⟩:=hos;injection hv9 with hv9 apM apN;subst hv9 apM apN;rw [eX,Nat.mul_one]at hl9;subst hl9;obtain⟨bo,oo,rfl,awl,awm,aj1⟩:=hx9 (by omega);have hstr:=aj1 i (sv (ops.getD i [])) (by rw [Ef _ _ hio];simp [List.getD,hio]);obtain⟨e0,e1,e2,e3,e4,e5,e6,e7,ez⟩:=aD agP.o;obtain⟨m0,m1,m2,m3,m4,m5,m6,m7,mz⟩:=aD qM.o;obtain⟨sx,hsx⟩:∃sx,ops.getD i []=sx:=⟨_,rfl⟩
     rw [hsx]at hstr;have HSX:=aZ hsx;have PR:=aZ (fun(w':World) (h:Turn (fun j=>j=bp∨j=w3.heap.size) w4 w')=>aN hoc h (by omega));have PS:=aZ (fun(w':World) (h:Turn (fun j=>j=bp∨j=w3.heap.size) w4 w')=>aN hstr h (by omega));have PA:=aZ (fun(w':World) (h:Turn (fun j=>j=bp∨j=w3.heap.size) w4 w')=>(⟨aN e0 h (by omega),aN e1 h (by omega),aN e2 h (by omega),aN e3 h (by omega),aN e4 h (by omega),aN e5 h (by omega),aN e6 h (by omega),aN e7 h (by omega)⟩:w'.cell? ⟨w2.heap.size,0,none⟩=some (.int .i64 k4)∧w'.cell? ⟨w2.heap.size,1,none⟩=some (sv s4)∧w'.cell? ⟨w2.heap.size,2,none⟩=some (.int .i64 n4)∧w'.cell? ⟨w2.heap.size,3,none⟩=some (.int .i64 l4)∧w'.cell? ⟨w2.heap.size,4,none⟩=some (.int .i64 o4)∧w'.cell? ⟨w2.heap.size,5,none⟩=some (.slice qG n14 c14)∧w'.cell? ⟨w2.heap.size,6,none⟩=some (.slice qH n24 c24)∧w'.cell? ⟨w2.heap.size,7,none⟩=some (.slice uQ n34 c34)));have wM:bN (Turn (fun j=>j=bp∨j=w3.heap.size) w4 w4.drew):=aZ ⟨rfl,rfl,rfl,Nat.le_refl _,fun _ _ _=>rfl⟩;have Xk:bN (Turn (fun j=>j=bp) w4 w4.drew):=aZ ⟨rfl,rfl,rfl,Nat.le_refl _,fun _ _ _=>rfl⟩;have OH:=aZ (HSK.o w4.drew r4 Ii.o.tk);have awo:(i:Int)<(ops.length:Int):=by omega
     clear hbb hbF hbs hcell hoc hx9 hstr aj1 e0 e1 e2 e3 e4 e5 e6 e7 ez m0 m1 m2 m3 m4 m5 m6 m7 mz hsx;go_wp2_with fail;refine bP (S:=fun w'=>Turn (fun j=>j=bp∨j=w3.heap.size) w4 w') (x:=16) (by kernel_rfl) ?_
     try simp only [Act.put,sq]
     refine tx 0 (.slice (some ⟨bb2,0,none⟩) 6 6) wM.o ?_;refine tx 1 (.int .i64 k) wM.o ?_;refine tx 2 (.pointer (some ⟨bb2,k,none⟩)) wM.o ?_;refine jG 3 (.slice (some ⟨bo,oo,none⟩) ops.length cp) PR.o wM.o ?_;refine tx 4 (.int .i64 i) wM.o ?_;refine tx 5 (.pointer (some ⟨bo,oo+i,none⟩)) wM.o ?_;refine jG 6 (sv sx) PS.o wM.o ?_;refine jG 7 (.agg #[.int .i64 k4,sv s4,.int .i64 n4,.int .i64 l4,.int .i64 o4,.slice qG n14 c14,.slice qH n24 c24,.slice uQ n34 c34]) PA.o wM.o ?_;refine tx 8 (.pointer (some ⟨bp,0,none⟩)) wM.o ?_;refine tx 9 (.int .i64 k) wM.o ?_;refine tx 10 (.int .i64 ((k:Int)+1)) wM.o ?_;refine tx 13 (.pointer (some ⟨w3.heap.size,1,none⟩)) wM.o ?_;refine ay (rs:=[11]) (by kernel_rfl) (by simp) ?_;refine av.cons rfl (fun K hK=>?_) (av.nil);go_simp;refine(OH.o).mono ?_;rintro e w5 h5;rcases hq:sub r4 with g |⟨x5,r5⟩
     ·obtain⟨rfl,tn,bn⟩:=h5.bY hq;have HB:=aZ (eP.mk2 (aB Ii.o.turn (aB Xk.o tn)) bn);have dP:=aZ (iL.o.symm.trans (aC hq));exact⟨rfl,aL.fail dP.o HB.o⟩
     ·obtain⟨v5,rfl,tn,⟨z5,rfl,Ie⟩,kn⟩:=h5.aQ hq;obtain⟨k5,s5,n5,l5,o5,BO,n15,c15,BP,n25,BQ,Rs,n35,Rt,rfl⟩:=Ie.shape';have fG:=aZ (aB Xk.o tn);have KY:=aZ (fG.o.mono (G:=fun j=>j=bp∨j=w3.heap.size) (fun _ _ h=>.inl h));have hs5:=fG.o.size;have Ij:=aZ (Ii.o.go hlt hab fG.o (fun j h=>.inl h) kn);have Ro:=aZ (Rn.o.turn fG.o (fun g _ h e=>by have:=h.1.1;omega));have aj2:=ah agP.o fG.o (by omega);have abM:=aZ aj2;have pE:=ah qM.o fG.o (by omega);have qN:=aZ pE;have Bz:=aZ (Ie.iv.mono (G:=Iv w4.heap.size w5.heap.size) (fun g _ h=>h))
      have xM:bN (jN ops sub f (aK 14 sx 0 t [] [] [a,x5]) r5=Q):=aZ (by
       have:=(au hq).symm.trans iL.o;rw [HSX.o]at this;exact this)
      have VT:=aZ (hsf.good Ii.o.tk.wf hq).2.length_le;have awp:=aZ ((Sf.jK ops).good DV.o.tk.wf gq.o).2.length_le;have Ar:=aZ (Fv gq.o DV.o.tk.wf.pos);have apO:=block_lt pE;obtain⟨m0,m1,m2,m3,m4,m5,m6,m7,mz⟩:=aD pE;clear h5 tn Ie kn hq pE aj2;refine hK.out _ _ KY.o ?_;clear hK K
      try simp only [Act.put,sq]
      refine ay (rs:=[12,14]) (by kernel_rfl) (by simp) ?_;refine av.cons rfl (fun K hK=>?_) (av.cons rfl (fun K hK=>?_) av.nil)
      ·go_simp;have HS6:=aZ (KY.o.trans (Turn.alloc (fun j=>j=bp∨j=w3.heap.size) w5 (.cells #[.int .i64 k4,sv s4,.int .i64 n4,.int .i64 l4,.int .i64 o4,.slice qG n14 c14,.slice qH n24 c24,.slice uQ n34 c34,.int .i64 k5,sv s5,.int .i64 n5,.int .i64 l5,.int .i64 o5,.slice BO n15 c15,.slice BP n25 BQ,.slice Rs n35 Rt] 52)) (fun _ _ h=>h));refine hK.out _ _ HS6.o ?_;clear hK K
       try simp only [Act.put,sq]
       refine ay (rs:=[14]) (by kernel_rfl) (by simp) ?_;refine av.cons rfl (fun K hK=>?_) (av.nil);go_simp;have ko:=aZ ((KY.o.trans (ak w5 w3.heap.size 1 (sv sx)) (fun _ _ h=>.inr h)).trans (Turn.alloc (fun j=>j=bp∨j=w3.heap.size) _ (.cells #[.int .i64 k4,sv s4,.int .i64 n4,.int .i64 l4,.int .i64 o4,.slice qG n14 c14,.slice qH n24 c24,.slice uQ n34 c34,.int .i64 k5,sv s5,.int .i64 n5,.int .i64 l5,.int .i64 o5,.slice BO n15 c15,.slice BP n25 BQ,.slice Rs n35 Rt] 52)) (fun _ _ h=>h));refine hK.out _ _ ko.o ?_;clear hK K
       try simp only [Act.put,sq]
       refine tx 15 (.pointer (some ⟨w3.heap.size,7,none⟩)) ko.o ?_;refine ay (rs:=[16]) (by kernel_rfl) (by simp) ?_;refine av.past rfl (by kernel_rfl) (fun K hK=>?_) (av.nil);go_simp;refine hK.out _ _ ?_;clear hK K
       try simp only [Act.put,sq]
       refine aR (by kernel_rfl) ?_ _;obtain⟨t8,LU,LV⟩:=tL (nb:=w3.heap.size) (c1:=1) (c2:=7) (v1:=sv sx) (v2:=(.slice (some ⟨w5.heap.size,0,none⟩) 2 2)) (P:= #[.int .i64 k4,sv s4,.int .i64 n4,.int .i64 l4,.int .i64 o4,.slice qG n14 c14,.slice qH n24 c24,.slice uQ n34 c34,.int .i64 k5,sv s5,.int .i64 n5,.int .i64 l5,.int .i64 o5,.slice BO n15 c15,.slice BP n25 BQ,.slice Rs n35 Rt]) (T:=52) qN.o (((w5.setCell ⟨w3.heap.size,1,none⟩ (sv sx)).setCell ⟨w3.heap.size,7,none⟩ (.slice (some ⟨w5.heap.size,0,none⟩) 2 2)).alloc (.cells #[.int .i64 k4,sv s4,.int .i64 n4,.int .i64 l4,.int .i64 o4,.slice qG n14 c14,.slice qH n24 c24,.slice uQ n34 c34,.int .i64 k5,sv s5,.int .i64 n5,.int .i64 l5,.int .i64 o5,.slice BO n15 c15,.slice BP n25 BQ,.slice Rs n35 Rt] 52)) rfl;have vE:=Ij.o.tk.turn t8 (by omega) (fun k hk e=>by have:=Ij.o.tk.1;omega);have Fg:=aZ (dU LU 8 2 rfl (by omega));have HA8:=aZ (Ro.o.turn t8 (fun g hg h e=>by have:=h.2;omega));have VX:=ah abM.o t8 (by omega);have Cb:bN (Aq w bp B w2.heap.size d (.slice (some ⟨bb2,0,none⟩) 6 6) _ a r5):=aZ ⟨Ij.o.turn.trans t8 (fun i hi e=>by omega),vE,ah Ij.o.res t8 (by omega),Ij.o.rk.turn t8 (fun g hg h e=>by have:=h.2;omega),_,VX,HA8.o.mono (fun g _ h=>h.1)⟩;have LW:=aZ (Bz.o.turn t8 (fun g _ h e=>by have:=h.1;omega));have qO:=aZ LV;have vF:=t8.size;obtain⟨W8,qI⟩:∃W8,(((w5.setCell ⟨w3.heap.size,1,none⟩ (sv sx)).setCell ⟨w3.heap.size,7,none⟩ (.slice (some ⟨w5.heap.size,0,none⟩) 2 2)).alloc (.cells #[.int .i64 k4,sv s4,.int .i64 n4,.int .i64 l4,.int .i64 o4,.slice qG n14 c14,.slice qH n24 c24,.slice uQ n34 c34,.int .i64 k5,sv s5,.int .i64 n5,.int .i64 l5,.int .i64 o5,.slice BO n15 c15,.slice BP n25 BQ,.slice Rs n35 Rt] 52))=W8:=⟨_,rfl⟩
       rw [qI]at Cb Fg HA8 LW qO vF VX;have zH:=aZ qI;have q8:=aD (show W8.heap[w3.heap.size]? =some (.cells #[.int .i64 14,sv sx,.int .i64 0,.int .i64 t.line,.int .i64 t.col,.slice none 0 0,.slice none 0 0,(.slice (some ⟨w5.heap.size,0,none⟩) 2 2)] 52 (0,0))from qO.o);obtain⟨f0,f1,f2,f3,f4,f5,f6,f7,fz⟩:=q8;obtain⟨e0,e1,e2,e3,e4,e5,e6,e7,ez⟩:=aD VX;have HZ8:=aZ VX;clear t8 LU LV vE qI VX m0 m1 m2 m3 m4 m5 m6 m7 mz;rw [zH.o];go_wp2_with fail;have tF:=bD W8 w2.heap.size (.int .i64 14) (sv sx) (.int .i64 0) (.int .i64 t.line) (.int .i64 t.col) (.slice none 0 0) (.slice none 0 0) (.slice (some ⟨w5.heap.size,0,none⟩) 2 2);have LX:Aq w bp B w2.heap.size d (.slice (some ⟨bb2,0,none⟩) 6 6) (yg W8 w2.heap.size (.int .i64 14) (sv sx) (.int .i64 0) (.int .i64 t.line) (.int .i64 t.col) (.slice none 0 0) (.slice none 0 0) (.slice (some ⟨w5.heap.size,0,none⟩) 2 2)) (aK 14 sx 0 t [] [] [a,x5]) r5:=by
        have hwx:=Cb.o.turn.size;refine⟨bU Cb.o.turn (by omega),Cb.o.tk.gT (by omega),ah Cb.o.res tF (by omega),Cb.o.rk.turn tF (fun g _ h e=>by have:=h.2;omega),_,aV HZ8.o _ _ _ _ _ _ _ _,?_⟩;exact .mk (cO.nil _ _ _) .nil (cO.nil _ _ _) ((Fg.o.turn tF (fun g _ h e=>by omega)).mono (fun g _ h=>by omega)) (.cons ((HA8.o.turn tF (fun g _ h e=>by have:=h.1.2.2;omega)).mono (fun g _ h=>h.1)) (.cons ((LW.o.turn tF (fun g _ h e=>by have:=h.1;omega)).mono (fun g _ h=>by have:=h.1;omega)) .nil))
       go_roundw
       case rel=>exact⟨f,_,r5,xM.o,by have:=VT.o;have:=Ar.o;have:=HF.o;omega,LX⟩
       case measure=>rw [LX.tk.left,HLEN.o];have:=VT.o;have:=Ar.o;omega
      ·go_simp;have HS6:=aZ (KY.o.trans (ak w5 w3.heap.size 1 (sv sx)) (fun _ _ h=>.inr h));refine hK.out _ _ HS6.o ?_;clear hK K
       try simp only [Act.put,sq]
       refine ay (rs:=[12]) (by kernel_rfl) (by simp) ?_;refine av.cons rfl (fun K hK=>?_) (av.nil);go_simp;have ko:=aZ (HS6.o.trans (Turn.alloc (fun j=>j=bp∨j=w3.heap.size) (w5.setCell ⟨w3.heap.size,1,none⟩ (sv sx)) (.cells #[.int .i64 k4,sv s4,.int .i64 n4,.int .i64 l4,.int .i64 o4,.slice qG n14 c14,.slice qH n24 c24,.slice uQ n34 c34,.int .i64 k5,sv s5,.int .i64 n5,.int .i64 l5,.int .i64 o5,.slice BO n15 c15,.slice BP n25 BQ,.slice Rs n35 Rt] 52)) (fun _ _ h=>h));refine hK.out _ _ ko.o ?_;clear hK K
       try simp only [Act.put,sq]
       refine tx 15 (.pointer (some ⟨w3.heap.size,7,none⟩)) ko.o ?_;refine ay (rs:=[16]) (by kernel_rfl) (by simp) ?_;refine av.past rfl (by kernel_rfl) (fun K hK=>?_) (av.nil);go_simp;refine hK.out _ _ ?_;clear hK K
       try simp only [Act.put,sq]
       refine aR (by kernel_rfl) ?_ _;obtain⟨t8,LU,LV⟩:=tL (nb:=w3.heap.size) (c1:=1) (c2:=7) (v1:=sv sx) (v2:=(.slice (some ⟨w5.heap.size,0,none⟩) 2 2)) (P:= #[.int .i64 k4,sv s4,.int .i64 n4,.int .i64 l4,.int .i64 o4,.slice qG n14 c14,.slice qH n24 c24,.slice uQ n34 c34,.int .i64 k5,sv s5,.int .i64 n5,.int .i64 l5,.int .i64 o5,.slice BO n15 c15,.slice BP n25 BQ,.slice Rs n35 Rt]) (T:=52) qN.o (((w5.setCell ⟨w3.heap.size,1,none⟩ (sv sx)).setCell ⟨w3.heap.size,7,none⟩ (.slice (some ⟨w5.heap.size,0,none⟩) 2 2)).alloc (.cells #[.int .i64 k4,sv s4,.int .i64 n4,.int .i64 l4,.int .i64 o4,.slice qG n14 c14,.slice qH n24 c24,.slice uQ n34 c34,.int .i64 k5,sv s5,.int .i64 n5,.int .i64 l5,.int .i64 o5,.slice BO n15 c15,.slice BP n25 BQ,.slice Rs n35 Rt] 52)) rfl;have vE:=Ij.o.tk.turn t8 (by omega) (fun k hk e=>by have:=Ij.o.tk.1;omega);have Fg:=aZ (dU LU 8 2 rfl (by omega));have HA8:=aZ (Ro.o.turn t8 (fun g hg h e=>by have:=h.2;omega));have VX:=ah abM.o t8 (by omega);have Cb:bN (Aq w bp B w2.heap.size d (.slice (some ⟨bb2,0,none⟩) 6 6) _ a r5):=aZ ⟨Ij.o.turn.trans t8 (fun i hi e=>by omega),vE,ah Ij.o.res t8 (by omega),Ij.o.rk.turn t8 (fun g hg h e=>by have:=h.2;omega),_,VX,HA8.o.mono (fun g _ h=>h.1)⟩;have LW:=aZ (Bz.o.turn t8 (fun g _ h e=>by have:=h.1;omega));have qO:=aZ LV;have vF:=t8.size;obtain⟨W8,qI⟩:∃W8,(((w5.setCell ⟨w3.heap.size,1,none⟩ (sv sx)).setCell ⟨w3.heap.size,7,none⟩ (.slice (some ⟨w5.heap.size,0,none⟩) 2 2)).alloc (.cells #[.int .i64 k4,sv s4,.int .i64 n4,.int .i64 l4,.int .i64 o4,.slice qG n14 c14,.slice qH n24 c24,.slice uQ n34 c34,.int .i64 k5,sv s5,.int .i64 n5,.int .i64 l5,.int .i64 o5,.slice BO n15 c15,.slice BP n25 BQ,.slice Rs n35 Rt] 52))=W8:=⟨_,rfl⟩
       rw [qI]at Cb Fg HA8 LW qO vF VX;have zH:=aZ qI;have q8:=aD (show W8.heap[w3.heap.size]? =some (.cells #[.int .i64 14,sv sx,.int .i64 0,.int .i64 t.line,.int .i64 t.col,.slice none 0 0,.slice none 0 0,(.slice (some ⟨w5.heap.size,0,none⟩) 2 2)] 52 (0,0))from qO.o);obtain⟨f0,f1,f2,f3,f4,f5,f6,f7,fz⟩:=q8;obtain⟨e0,e1,e2,e3,e4,e5,e6,e7,ez⟩:=aD VX;have HZ8:=aZ VX;clear t8 LU LV vE qI VX m0 m1 m2 m3 m4 m5 m6 m7 mz;rw [zH.o];go_wp2_with fail;have tF:=bD W8 w2.heap.size (.int .i64 14) (sv sx) (.int .i64 0) (.int .i64 t.line) (.int .i64 t.col) (.slice none 0 0) (.slice none 0 0) (.slice (some ⟨w5.heap.size,0,none⟩) 2 2);have LX:Aq w bp B w2.heap.size d (.slice (some ⟨bb2,0,none⟩) 6 6) (yg W8 w2.heap.size (.int .i64 14) (sv sx) (.int .i64 0) (.int .i64 t.line) (.int .i64 t.col) (.slice none 0 0) (.slice none 0 0) (.slice (some ⟨w5.heap.size,0,none⟩) 2 2)) (aK 14 sx 0 t [] [] [a,x5]) r5:=by
        have hwx:=Cb.o.turn.size;refine⟨bU Cb.o.turn (by omega),Cb.o.tk.gT (by omega),ah Cb.o.res tF (by omega),Cb.o.rk.turn tF (fun g _ h e=>by have:=h.2;omega),_,aV HZ8.o _ _ _ _ _ _ _ _,?_⟩;exact .mk (cO.nil _ _ _) .nil (cO.nil _ _ _) ((Fg.o.turn tF (fun g _ h e=>by omega)).mono (fun g _ h=>by omega)) (.cons ((HA8.o.turn tF (fun g _ h e=>by have:=h.1.2.2;omega)).mono (fun g _ h=>h.1)) (.cons ((LW.o.turn tF (fun g _ h e=>by have:=h.1;omega)).mono (fun g _ h=>by have:=h.1;omega)) .nil))
       go_roundw
       case rel=>exact⟨f,_,r5,xM.o,by have:=VT.o;have:=Ar.o;have:=HF.o;omega,LX⟩
       case measure=>rw [LX.tk.left,HLEN.o];have:=VT.o;have:=Ar.o;omega
theorem iO {G:Nat->Prop}(w:World)(o:Obj)(b:Nat)(hb:w.heap.size=b):∃W,w.alloc o=W∧W.heap[b]? =some o∧Turn G w W∧(b+1<=W.heap.size∧W.heap.size<=b+1):=by
 subst hb;exact⟨_,rfl,wJ w o,Turn.alloc G w o,by simp,by simp⟩
theorem st1 {w:World}{b:Nat}(i:Nat)(v:Value){cs cs2:Array Value}{t:TypeId}(h:w.heap[b]? =some (.cells cs t (0,0)))(e:cs.setIfInBounds i v=cs2):∃W,w.setCell ⟨b,i,none⟩ v=W∧W.heap[b]? =some (.cells cs2 t (0,0))∧Turn (fun j=>j=b) w W∧(w.heap.size<=W.heap.size∧W.heap.size<=w.heap.size):=by
 subst e;exact⟨_,rfl,heap_setCell_same _ _ i _ _ v h,ak w b i v,by simp,by simp⟩
theorem Pt {w:World}{b:Nat}(v0 v1 v2 v3:Value){a0 a1 a2 a3:Value}{t:TypeId}(h:w.heap[b]? =some (.cells #[a0,a1,a2,a3] t (0,0))):∃W,dK w b v0 v1 v2 v3=W∧W.heap[b]? =some (.cells #[v0,v1,v2,v3] t (0,0))∧Turn (fun j=>j=b) w W∧(w.heap.size<=W.heap.size∧W.heap.size<=w.heap.size):=
 ⟨_,rfl,aY h _ _ _ _,dD _ _ _ _ _ _,by simp,by simp⟩
theorem uD {w:World}{b:Nat}(v0 v1 v2 v3 v4 v5 v6 v7:Value){a0 a1 a2 a3 a4 a5 a6 a7:Value}{t:TypeId}(h:w.heap[b]? =some (.cells #[a0,a1,a2,a3,a4,a5,a6,a7] t (0,0))):∃W,yg w b v0 v1 v2 v3 v4 v5 v6 v7=W∧W.heap[b]? =some (.cells #[v0,v1,v2,v3,v4,v5,v6,v7] t (0,0))∧Turn (fun j=>j=b) w W∧(w.heap.size<=W.heap.size∧W.heap.size<=w.heap.size):=
 ⟨_,rfl,aV h _ _ _ _ _ _ _ _,bD _ _ _ _ _ _ _ _ _ _,by simp,by simp⟩
theorem aO {G:Nat->Prop}{w w':World}{b:Nat}{o:Obj}(h:w.heap[b]? =some o)(t:Turn G w w')(hd:¬G b:=by omega):w'.heap[b]? =some o:=ah h t hd
theorem qd.tu {F G:Nat->Prop}{w w':World}{z:List Value}{x:bI}(h:qd w F z x)(t:Turn G w w')(hd:∀g,g<w.heap.size->F g->¬G g:=by intro g _ h e;have h:=h;omega):qd w' F z x:=h.turn t hd
theorem mJ.tu {F G:Nat->Prop}{w w':World}{z:List Value}{x:bS}(h:mJ w F z x)(t:Turn G w w')(hd:∀g,g<w.heap.size->F g->¬G g:=by intro g _ h e;have h:=h;omega):mJ w' F z x:=h.turn t hd
theorem Turn.bO {F G:Nat->Prop}{a b c:World}(h:Turn F a b)(t:Turn G b c)(hd:∀i,i<a.heap.size->G i->F i:=by intro i hi e;omega):Turn F a c:=h.trans t hd
theorem eF.iP {G:Nat->Prop}{w w':World}{bp B:Nat}{L:List aI}{d:Int}{q:Pr Unit}(h:eF w bp B L d q)(t:Turn G w w')(hk:¬G bp:=by omega)(hB:∀k,k<B->¬G k:=by intro k hk e;omega):eF w' bp B L d q:=h.turn t hk hB
theorem uR {α:Type}{q:Pr Unit}{f:aI->Ps α}{R:Pr α}{t:aI}(hq:aA q (aj jM f)=R)(h:∀u ts,q=.good u ts->aS ts=t):aA q (f t)=R:=by
 subst hq;cases q with
 |bad g=>rfl
 |good u ts=>rw [<-h u ts rfl];rfl
theorem xO {α:Type}{t:aI}{r:List aI}{s:Bt}{f:Bool->Ps α}{R:Pr α}(ht:jA t s=true)(hq:aA (.good () (t :: r)) (aj (bM s) f)=R):aA (.good () r) (f true)=R:=by
 rw [<-hq];exact(au (qR ht r)).symm
theorem xP {α:Type}{q:Pr Unit}{s:Bt}{f:Bool->Ps α}{R:Pr α}(h:yc q s)(hq:aA q (aj (bM s) f)=R):aA q (f false)=R:=by rw [<-hq];exact(Lu h).symm
theorem jh {α β γ:Type}(p:Ps α)(f:α->Ps β)(g:β->Ps γ):aj (aj p f) g=aj p (fun a=>aj (f a) g):=by
 funext ts;unfold aj;cases p ts <;> rfl
theorem Cc {α β:Type}{q:Pr Unit}{F:Nat->Ps α}{g:α->Ps β}{R:Pr β}(hq:aA q (aj (fun ts=>F ts.length ts) g)=R):∃f,(∀u ts,q=.good u ts->ts.length<=f)∧aA q (aj (F f) g)=R:=by
 cases q with
 |bad g=>exact⟨0,(fun u ts h=>by cases h),hq⟩
 |good u ts=>exact⟨ts.length,(fun u' ts' h=>by injection h with _ h;subst h;exact Nat.le_refl _),hq⟩
def yD (q:Pr Unit):Nat:=match q with
 |.good _ ts=>ts.length
 |.bad _=>0
theorem Fw {α:Type}{p:Ps α}(h:Sf p){u:Unit}{ts:List aI}(hw:Wf ts):yD (ig (aA (.good u ts) p))<=ts.length:=by
 show yD (ig (p ts))<= _;rcases hq:p ts with g |⟨a,r⟩
 ·exact Nat.zero_le _
 ·exact(h.good hw hq).2.length_le
theorem eF.wf {w:World}{bp B:Nat}{L:List aI}{d:Int}{u:Unit}{ts:List aI}(h:eF w bp B L d (.good u ts)):Wf ts:=by
 obtain⟨_,_,_,v,k,dd,e,ln,cn,_,_,_,_,h8⟩:=h;exact h8.2.1
theorem eF.left {w:World}{bp B:Nat}{L:List aI}{d:Int}{u:Unit}{ts:List aI}(h:eF w bp B L d (.good u ts)):ts.length<=L.length:=by
 obtain⟨_,_,_,v,k,dd,e,ln,cn,_,_,_,_,h8⟩:=h;rw [h8.1,List.length_drop];omega
def RC {α:Type}(F:Nat)(P:Nat->World->Value->α->Prop)(d:Int)(p:Ps α):Prop:=∀(w:World) (bp B:Nat) (L:List aI) (q:Pr Unit),eF w bp B L d q->
 Calls Tryz.prog F #[.pointer (some ⟨bp,0,none⟩)] w (dh (P w.heap.size) bp B L d w (aA q p))
theorem up1 {w:World}{bp B:Nat}{L:List aI}{d:Int}{q:Pr Unit}{v:Value}{k:Nat}{dd e:Int}{ln cn:Nat}(h:eF w bp B L (d+1) q)(h0:0<=d)(h1:d<100)(hblk:w.heap[bp]? =some (.cells #[v,.int .i64 k,.int .i64 dd,.int .i64 e,.int .i64 ln,.int .i64 cn] 159 (0,0))):
  ∃W,w.setCell ⟨bp,2,none⟩ (.int .i64 (wrap64 (dd - 1)))=W∧eF W bp B L d q∧Turn (fun j=>j=bp) w W∧(w.heap.size<=W.heap.size∧W.heap.size<=w.heap.size):=
 ⟨_,rfl,h.up h0 h1 hblk rfl,ak _ _ _ _,by simp,by simp⟩
abbrev J3 (d:Int)(p:Ps bS):Prop:=RC 55 PTy d p
def Uz (typ:Ps bS):Ps bS:=aj (kE typ) fun a=>aj (fun ts=>oH typ ts.length [a] ts) fun l=>aF (iy l)
theorem Xl (typ:Ps bS):Ia typ=aj (Uz typ) fun t=>aj (bM [45,62]) fun b=>if b then aj typ fun r=>aF (.mk 6 [] [] [t,r])else aF t:=by
 unfold Ia Uz;rw [jh];congr 1;funext a;rw [jh];rfl
theorem Pv {α:Type}{q:Pr Unit}{p:Ps α}{d:Int}(hn:(∃g,q=.bad g)∨(d=100∧p=jL 6)):ajX d q∧ig (aA q p)=C9 q 6∧∀a ts,aA q p≠ .good a ts:=by
 rcases hn with⟨g,rfl⟩ |⟨rfl,rfl⟩
 ·exact⟨.inl ⟨g,rfl⟩,rfl,fun a ts h=>by cases h⟩
 ·exact⟨.inr rfl,(LM q 6).symm,fun a ts h=>by cases q <;> cases h⟩
theorem Ru (w:World)(F:Nat->Prop):mJ w F [.int .i64 0,.string ⟨#[]⟩,.slice none 0 0,.slice none 0 0] oI:= .mk (cO.nil _ _ _) (cO.nil _ _ _) .nil
theorem LY (w:World)(bp B:Nat)(L:List aI)(d:Int)(q:Pr Unit)(h:eF w bp B L d q){p:Ps bS}(hn:(∃g,q=.bad g)∨(d=100∧p=jL 6)):
  Calls Tryz.prog 55 #[.pointer (some ⟨bp,0,none⟩)] w (dh (PTy w.heap.size) bp B L d w (aA q p)):=by
 obtain⟨n1,n2,n3⟩:=Pv hn;have hlt:=h.lt;have hB:=h.1;have H0:=aZ h;have N2:=aZ n2;have N3:=aZ n3;clear h n2 n3 hn;obtain⟨W1,hW1,hb1,tn,hs1⟩:=iO (G:=fun _=>False) w (.cells #[.int .i64 0,.string ⟨#[]⟩,.slice none 0 0,.slice none 0 0] 57) (w.heap.size) rfl;have HT1:bN (Turn (fun j=>j=bp) w W1):=aZ (tn.mono (fun _ _ h=>h.elim));have iI:=aZ (H0.o.turn tn id (fun _ _=>id));have iQ:=aZ hb1;clear tn hb1;have HW1:=aZ hW1;clear hW1;have qZ:=aZ (BX _ bp B L d q iI.o n1);go_enter Tryz.func55,Tryz.ntmps55;go_wp2_with fail;have hW:=HW1.o;subst hW;clear HW1;refine(qZ.o).mono ?_;rintro e w2 ⟨rfl,tn,kn⟩;clear qZ;have hs2:=tn.size;have fV:=aZ (aO iQ.o tn);have HT2:=aZ (HT1.o.bO tn);have gW:=aZ kn;have hz2:w.heap.size+1<=w2.heap.size:=by omega
 clear hs1 hs2;clear tn kn iQ;obtain⟨rz,rA,rC,rD,rE⟩:=aX fV.o;have rF:=block_lt fV.o;obtain⟨W3,hW3,hb3,tn,hs3⟩:=Pt (.int .i64 0) (.string ⟨#[]⟩) (.slice none 0 0) (.slice none 0 0) fV.o;have HT3:=aZ (HT2.o.bO tn);have gD:=aZ (gW.o.iP tn);have gU:=aZ hb3;clear tn hb3 fV;have HW3:=aZ hW3;clear hW3;go_wp2_with fail;have hW:=HW3.o;subst hW;clear HW3;refine bodyPost_ret (aM rfl rfl gU.o Tryz.underlying57 rfl (by kernel_rfl)) rfl ?_;exact⟨HT3.o,_,oI,rfl,⟨_,rfl,Ru _ _⟩,fun a ts e=>absurd e (N3.o a ts),by rw [N2.o];exact gD.o⟩
theorem Xm (d:Int)(h0:0<=d)(h1:d<100)(typ:Ps bS)(qE:J3 (d+1) typ)(HAL:RC 114 PTy (d+1) (Uz typ)):J3 d (Ia typ):=by
 intro w bp B L q h;cases q with
 |bad g=>exact LY w bp B L d _ h (.inl ⟨g,rfl⟩)
 |good u ts=>
  have hlt:=h.lt;have hB:=h.1;have H0:=aZ h;obtain⟨Q,hQ⟩:∃Q,aA (.good u ts) (Ia typ)=Q:=⟨_,rfl⟩
  rw [hQ];rw [Xl]at hQ;have vw:=aZ hQ;clear h hQ;obtain⟨W1,hW1,hb1,tn,hs1⟩:=iO (G:=fun _=>False) w (.cells #[.int .i64 0,.string ⟨#[]⟩,.slice none 0 0,.slice none 0 0] 57) (w.heap.size) rfl;have HT1:bN (Turn (fun j=>j=bp) w W1):=aZ (tn.mono (fun _ _ h=>h.elim));have iI:=aZ (H0.o.turn tn id (fun _ _=>id));have iQ:=aZ hb1;clear tn hb1;have HW1:=aZ hW1;clear hW1;have qZ:=aZ (BU _ bp B L d u ts iI.o h0 h1);go_enter Tryz.func55,Tryz.ntmps55;go_wp2_with fail;have hW:=HW1.o;subst hW;clear HW1;refine(qZ.o).mono ?_;rintro e w2 ⟨rfl,tn,kn⟩;clear qZ;have hs2:=tn.size;have fV:=aZ (aO iQ.o tn);have HT2:=aZ (HT1.o.bO tn);have gW:=aZ kn;have hz2:w.heap.size+1<=w2.heap.size:=by omega
  clear hs1 hs2;clear tn kn iQ;have LZ:=aZ (HAL _ bp B L _ gW.o);go_wp2_with fail;refine(LZ.o).mono ?_;rintro e w3 ⟨tn,_,x,rfl,⟨z,rfl,hz⟩,hx,kn⟩;clear LZ;obtain⟨kx,sx,lY,lZ,l6,l7,l8,l9,rfl⟩:=hz.shape';obtain⟨q3,hqq⟩:∃qz,ig (aA (.good u ts) (Uz typ))=qz:=⟨_,rfl⟩
  have iq:=aZ (bW vw.o hx);rw [hqq]at kn iq;have Pw:=aZ hz.iv;have hs3:=tn.size;have gU:=aZ (aO fV.o tn);have HT3:=aZ (HT2.o.bO tn);have gD:=aZ kn;clear tn kn fV hqq hx hz;obtain⟨W4,vY,hb4,tn,hs4⟩:=iO (G:=fun _=>False) w3 (.cells #[.int .i64 kx,sv sx,.slice lY lZ l6,.slice l7 l8 l9] 57) (w3.heap.size) rfl;have fZ:=aZ (ah gU.o tn id);have Px:=aZ (Pw.o.turn tn (fun _ _ _=>id));have fD:bN (Turn (fun j=>j=bp) w W4):=aZ (HT3.o.trans tn (fun _ _ h=>h.elim));have iD:=aZ (gD.o.turn tn id (fun _ _=>id));have abP:=aZ hb4;clear tn hb4 gU Pw;have J4:=aZ vY;clear vY;have Rv:=aZ (bT _ bp B L (d+1) q3 iD.o [45,62]);go_wp2_with fail;have hW:=J4.o;subst hW;clear J4;refine(Rv.o).mono ?_;rintro e w5 ⟨rfl,tn,kn⟩;clear Rv;cases hA:sH (aA q3 (bM [45,62]))
  ·obtain⟨hs,hnn⟩:=bg hA;rw [hs]at kn;have HN:=aZ hnn;have hs5:=tn.size;have iE:=aZ (aO fZ.o tn);have Py:=aZ (aO abP.o tn);have J5:=aZ (Px.o.tu tn);have fG:=aZ (fD.o.bO tn);have jw:=aZ kn;have Ie:w3.heap.size+1<=w5.heap.size:=by omega
   clear hs4 hs5;clear tn kn fZ abP Px hs hnn hA;have xM:bN (aA q3 (aF x)=Q):=aZ (xP HN.o iq.o);obtain⟨tb0,tb1,zD,tb3,tbz⟩:=aX Py.o;have tbl:=block_lt Py.o;obtain⟨rz,rA,rC,rD,rE⟩:=aX iE.o;have rF:=block_lt iE.o;obtain⟨bL,oL,cL,kL,dd,eL,lnL,cnL,_,_,_,_,_,_,hblk,_⟩:=jw.o.open_;obtain⟨p0,p1,p2,p3,p4,p5,pz⟩:=gu hblk;have apQ:=aZ hblk;have hpl:=block_lt hblk;clear hblk;have jV:¬w3.heap.size=w.heap.size:=by omega
   have Ce:¬w3.heap.size=bp:=by omega
   have jW:¬w.heap.size=w3.heap.size:=by omega
   have Cg:¬w.heap.size=bp:=by omega
   have Ch:¬bp=w3.heap.size:=by omega
   have Ci:¬bp=w.heap.size:=by omega
   obtain⟨W8,qI,kn,tn,vF⟩:=up1 jw.o h0 h1 apQ.o;have qP:=aZ (aO iE.o tn);have aj9:=aZ (aO Py.o tn);have akb:=aZ (J5.o.tu tn);have mh:=aZ (fG.o.bO tn);have qF:=aZ kn;clear tn kn iE Py J5;have zH:=aZ qI;clear qI;obtain⟨W9,Ey,xQ,tn,Fx⟩:=Pt (.int .i64 kx) (sv sx) (.slice lY lZ l6) (.slice l7 l8 l9) qP.o;have agR:=aZ (aO aj9.o tn);have uS:=aZ (akb.o.tu tn);have lV:=aZ (mh.o.bO tn);have mO:=aZ (qF.o.iP tn);have gY:=aZ xQ;clear tn xQ qP aj9 akb;have oP:=aZ Ey;clear Ey;go_wp2_with fail;have hW:=oP.o;subst hW;clear oP;have hW:=zH.o;subst hW;clear zH;refine bodyPost_ret (aM rfl rfl gY.o Tryz.underlying57 rfl (by kernel_rfl)) rfl ?_;exact dh.done xM.o lV.o ⟨_,rfl,(uS.o.mono (fun g _ h=>by have h:=h;omega))⟩ mO.o
  ·obtain⟨t9,r9,rfl,ht,hs⟩:=bF hA;rw [hs]at kn;have HY9:=aZ ht;have Fx:=tn.size;have gY:=aZ (aO fZ.o tn);have agR:=aZ (aO abP.o tn);have uS:=aZ (Px.o.tu tn);have lV:=aZ (fD.o.bO tn);have mO:=aZ kn;have UA:w3.heap.size+1<=w5.heap.size:=by omega
   clear hs4 Fx;clear tn kn fZ abP Px hs ht hA;have Au:bN (aA (.good () r9) (aj typ fun r=>aF (bS.mk 6 [] [] [x,r]))=Q):=aZ (xO HY9.o iq.o);have L6:=aZ (qE _ bp B L _ mO.o);go_wp2_with fail;refine(L6.o).mono ?_;rintro e Bw ⟨tn,_,y,rfl,⟨z,rfl,hz⟩,hx,kn⟩;clear L6;obtain⟨ky,sy,rW,rX,rY,rZ,sj,su,rfl⟩:=hz.shape';obtain⟨q11,hqq⟩:∃qz,ig (aA (.good () r9) (typ))=qz:=⟨_,rfl⟩
   have Pz:=aZ (bW Au.o hx);rw [hqq]at kn Pz;have Xn:=aZ hz.iv;have J6:=tn.size;have jR:=aZ (aO gY.o tn);have Aw:=aZ (aO agR.o tn);have L8:=aZ (uS.o.tu tn);have Ay:=aZ (lV.o.bO tn);have Az:=aZ kn;clear tn kn gY agR uS hqq hx hz;obtain⟨tb0,tb1,zD,tb3,tbz⟩:=aX Aw.o;have tbl:=block_lt Aw.o;obtain⟨rz,rA,rC,rD,rE⟩:=aX jR.o;have rF:=block_lt jR.o;obtain⟨bL,oL,cL,kL,dd,eL,lnL,cnL,_,_,_,_,_,_,hblk,_⟩:=Az.o.open_;obtain⟨p0,p1,p2,p3,p4,p5,pz⟩:=gu hblk;have adM:=aZ hblk;have hpl:=block_lt hblk;clear hblk;have jV:¬w3.heap.size=w.heap.size:=by omega
   have Ce:¬w3.heap.size=bp:=by omega
   have jW:¬w.heap.size=w3.heap.size:=by omega
   have Cg:¬w.heap.size=bp:=by omega
   have Ch:¬bp=w3.heap.size:=by omega
   have Ci:¬bp=w.heap.size:=by omega
   obtain⟨W13,Fy,Fz,tn,yj⟩:=Pt (.int .i64 6) (.string ⟨#[]⟩) (.slice none 0 0) (.slice (some ⟨Bw.heap.size+1,0,none⟩) 2 2) Aw.o;have iV:=aZ (aO jR.o tn);have ake:=aZ (aO adM.o tn);have Rw:=aZ (L8.o.tu tn);have Xo:=aZ (Xn.o.tu tn);have sw:=aZ (Ay.o.bO tn);have pF:=aZ (Az.o.iP tn);have adN:=aZ Fz;clear tn Fz Aw jR adM L8 Xn;have FB:=aZ Fy;clear Fy;obtain⟨W14,FC,kn,tn,UC⟩:=up1 pF.o h0 h1 ake.o;have oQ:=aZ (aO iV.o tn);have adO:=aZ (aO adN.o tn);have adP:=aZ (Rw.o.tu tn);have Xp:=aZ (Xo.o.tu tn);have FD:=aZ (sw.o.bO tn);have FE:=aZ kn;clear tn kn iV adN Rw Xo;have FH:=aZ FC;clear FC;obtain⟨W15,wN,wO,tn,DX⟩:=Pt (.int .i64 6) (.string ⟨#[]⟩) (.slice none 0 0) (.slice (some ⟨Bw.heap.size+1,0,none⟩) 2 2) oQ.o;have adR:=aZ (aO adO.o tn);have adS:=aZ (adP.o.tu tn);have Xq:=aZ (Xp.o.tu tn);have yu:=aZ (FD.o.bO tn);have zm:=aZ (FE.o.iP tn);have jC:=aZ wO;clear tn wO oQ adO adP Xp;have wP:=aZ wN;clear wN;obtain⟨W16,L9,Ma,tn,Cj⟩:=iO (G:=fun _=>False) W15 (.cells #[.int .i64 ky,sv sy,.slice rW rX rY,.slice rZ sj su] 57) (Bw.heap.size) (by omega);have gB:=aZ (ah jC.o tn id);have adT:=aZ (ah adR.o tn id);have Mc:=aZ (adS.o.turn tn (fun _ _ _=>id));have J7:=aZ (Xq.o.turn tn (fun _ _ _=>id));have uT:bN (Turn (fun j=>j=bp) w W16):=aZ (yu.o.trans tn (fun _ _ h=>h.elim));have uU:=aZ (zm.o.turn tn id (fun _ _=>id));have gV:=aZ Ma;clear tn Ma jC adR adS Xq;have Md:=aZ L9;clear L9;obtain⟨W17,FI,FJ,tn,Ik⟩:=iO (G:=fun _=>False) W16 (.cells #[.int .i64 kx,sv sx,.slice lY lZ l6,.slice l7 l8 l9,.int .i64 ky,sv sy,.slice rW rX rY,.slice rZ sj su] 57) (Bw.heap.size+1) (by omega);have iG:=aZ (ah gB.o tn id);have atH:=aZ (ah adT.o tn id);have jD:=aZ (ah gV.o tn id)
   have Rx:=aZ (Mc.o.turn tn (fun _ _ _=>id));have agS:=aZ (J7.o.turn tn (fun _ _ _=>id));have uV:bN (Turn (fun j=>j=bp) w W17):=aZ (uT.o.trans tn (fun _ _ h=>h.elim));have tQ:=aZ (uU.o.turn tn id (fun _ _=>id));have Db:=aZ FJ;clear tn FJ gB adT gV Mc J7;have FK:=aZ FI;clear FI;go_wp2_with fail;have hW:=FK.o;subst hW;clear FK;have hW:=Md.o;subst hW;clear Md;have hW:=wP.o;subst hW;clear wP;have hW:=FH.o;subst hW;clear FH;have hW:=FB.o;subst hW;clear FB;refine bodyPost_ret (aM rfl rfl iG.o Tryz.underlying57 rfl (by kernel_rfl)) rfl ?_;exact dh.done Pz.o uV.o ⟨_,rfl,.mk (cO.nil _ _ _) ((dU Db.o 4 2 rfl (by omega)).mono (fun g _ h=>by have h:=h;omega)) (.cons (Rx.o.mono (fun g _ h=>by have h:=h;omega)) (.cons (agS.o.mono (fun g _ h=>by have h:=h;omega)) .nil))⟩ tQ.o
theorem abQ {α:Type}{typ:Ps bS}{q:Pr Unit}{f:Nat}{l:List bS}{g:List bS->Ps α}{R:Pr α}(h:yc q [124])(hq:aA q (aj (oH typ f l) g)=R):aA q (g l)=R:=by
 cases f with
 |zero=>exact hq
 |succ f=>rw [oH,jh]at hq;exact xP h hq
theorem abR {α:Type}{typ:Ps bS}{t:aI}{r:List aI}{f:Nat}{l:List bS}{g:List bS->Ps α}{R:Pr α}(h:jA t [124]=true)(hq:aA (.good () (t :: r)) (aj (oH typ (f+1) l) g)=R):
  aA (.good () r) (aj (kE typ) fun a=>aj (oH typ f (l++[a])) g)=R:=by
 rw [oH,jh]at hq;have:=xO h hq;rwa [if_pos rfl,jh]at this
def Dc (w:World)(bp:Nat):Nat:=match w.cell? ⟨bp,0,none⟩,w.cell? ⟨bp,1,none⟩,w.cell? ⟨bp,3,none⟩with
 |some (.slice _ n _),some (.int _ k),some (.int _ e)=>if e=0 then n - k.toNat else 0
 |_,_,_=>0
theorem eF.kR {w:World}{bp B:Nat}{L:List aI}{d:Int}{q:Pr Unit}(h:eF w bp B L d q):Dc w bp=yD q:=by
 obtain⟨b,o,c,k,dd,e,ln,cn,hk,hlc,hc63,Ls,hdd,hrel,hblk,_⟩:=h.open_;obtain⟨p0,p1,p2,p3,p4,p5,pz⟩:=gu hblk;unfold Dc;rw [p0,p1,p3];cases q with
 |bad g=>
  obtain⟨rfl,_,_,hg⟩:=hrel;exact if_neg hg
 |good u ts=>
  obtain⟨rfl,_,_,rfl,_⟩:=hrel;show(if(0:Int)=0 then L.length - ((k:Int)).toNat else 0)=(L.drop k).length;rw [if_pos rfl,List.length_drop];rfl
theorem eF.sz {w:World}{bp B:Nat}{L:List aI}{d:Int}{q:Pr Unit}(h:eF w bp B L d q):yD q<=8193:=by
 have h2:=h.2.1.1;cases q with
 |bad g=>exact Nat.zero_le _
 |good u ts=>exact Nat.le_trans h.left h2
theorem eF.zn {α:Type}{p:Ps α}{w:World}{bp B:Nat}{L:List aI}{d:Int}{q:Pr Unit}(h:eF w bp B L d q)(hsf:Sf p):yD (ig (aA q p))<=yD q:=by
 cases q with
 |bad g=>exact Nat.zero_le _
 |good u ts=>exact Fw hsf h.wf
theorem xR (w:World)(cs:Array Value)(t:TypeId)(k n b:Nat)(hb:w.heap.size=b)(hs:cs.size=n*k)(hn:n<=100000):Sl (w.alloc (.cells cs t)) (b+1) k (.slice (some ⟨b,0,none⟩) n n) cs.toList:=by
 subst hb;exact gX w cs t k n hs (by unfold maxLen;omega)
theorem Xr (d:Int)(typ:Ps bS)(hsf:Sf typ)(HPR:RC 168 PTy d (kE typ)):RC 114 PTy d (Uz typ):=by
 intro w bp B L q h;have hlt:=h.lt;have hB:=h.1;have H0:=aZ h;obtain⟨Q,hQ⟩:∃Q,aA q (Uz typ)=Q:=⟨_,rfl⟩
 rw [hQ];have vw:bN (aA q (aj (kE typ) fun a=>aj (fun ts=>oH typ ts.length [a] ts) fun l=>aF (iy l))=Q):=aZ hQ;clear h hQ;obtain⟨W1,hW1,hb1,tn,hs1⟩:=iO (G:=fun _=>False) w (.cells #[.int .i64 0,.string ⟨#[]⟩,.slice none 0 0,.slice none 0 0] 57) (w.heap.size) rfl;have HT1:bN (Turn (fun j=>j=bp) w W1):=aZ (tn.mono (fun _ _ h=>h.elim));have iI:=aZ (H0.o.turn tn id (fun _ _=>id));have iQ:=aZ hb1;clear tn hb1;have HW1:=aZ hW1;clear hW1;have qZ:=aZ (HPR _ bp B L _ iI.o);go_enter Tryz.func114,Tryz.ntmps114;go_wp2_with fail;have hW:=HW1.o;subst hW;clear HW1;refine(qZ.o).mono ?_;rintro e w2 ⟨tn,_,x,rfl,⟨z,rfl,hz⟩,hx,kn⟩;clear qZ;obtain⟨kx,sx,lY,lZ,l6,l7,l8,l9,rfl⟩:=hz.shape';obtain⟨q2,hqq⟩:∃qz,ig (aA q (kE typ))=qz:=⟨_,rfl⟩
 have jI:=aZ (bW vw.o hx);rw [hqq]at kn jI;have abS:=aZ (hz.iv.mono (G:=Iv (w.heap.size+1) w2.heap.size) (fun g _ h=>⟨by have h1:=h.1;omega,h.2⟩));have hs2:=tn.size;have fV:=aZ (aO iQ.o tn);have HT2:=aZ (HT1.o.bO tn);have gW:=aZ kn;have hz2:w.heap.size+1<=w2.heap.size:=by omega
 clear hs1 hs2;clear tn kn iQ hqq hx hz;obtain⟨f0,hf0,hq0⟩:=Cc (F:=fun n=>oH typ n [x]) jI.o;have tT:=row_one aJ (base:=w.heap.size+1) (G:=fun j=>w.heap.size+1<=j) (e:=57) abS.o (by omega) (fun g _ h=>by have h:=h;omega);obtain⟨W3,hW3,hb3,tn,hs3⟩:=iO (G:=fun _=>False) w2 (.cells #[.int .i64 kx,sv sx,.slice lY lZ l6,.slice l7 l8 l9] 57) (w2.heap.size) rfl;have gU:=aZ (ah fV.o tn id);have HT3:bN (Turn (fun j=>j=bp) w W3):=aZ (HT2.o.trans tn (fun _ _ h=>h.elim));have gD:=aZ (gW.o.turn tn id (fun _ _=>id));have awq:=aZ hb3;clear tn hb3 fV;have HW3:=aZ hW3;clear hW3;have eu:=aZ (show fH mJ 4 57 W3 (w.heap.size+1) (fun j=>w.heap.size+1<=j) (.slice (some ⟨w2.heap.size,0,none⟩) 1 1) [x]from by have h:=HW3.o;subst h;exact tT);have HQS:=aZ hq0;have HFS:=aZ hf0;clear tT hq0 hf0;go_wp2_with fail;have hW:=HW3.o;subst hW;clear HW3;go_loopw [3] (fun v3 wr=>∃(f:Nat) (l:List bS) (q2:Pr Unit),fH mJ 4 57 wr (w.heap.size+1) (fun j=>w.heap.size+1<=j) v3 l∧l≠[]∧aA q2 (aj (oH typ f l) fun l=>aF (iy l))=Q∧(∀u ts,q2=.good u ts->ts.length<=f)∧l.length+yD q2<=8194∧Turn (fun j=>j=bp) w wr∧w.heap.size+1<=wr.heap.size∧eF wr bp B L d q2∧wr.heap[w.heap.size]? =some (.cells #[.int .i64 0,.string ⟨#[]⟩,.slice none 0 0,.slice none 0 0] 57 (0,0))) (fun _ wr=>Dc wr bp)
 case atStart=>exact⟨f0,[x],q2,eu.o,by simp,HQS.o,HFS.o,by have:=gD.o.sz;simp;omega,HT3.o,by omega,gD.o,gU.o⟩
 case round=>
  obtain⟨f,l,qr,hrow,hne,hq,hf,hlr,ht,hsw,hk,hr⟩:=hrel;have Xt:=aZ hrow;have vX:=aZ hq;have PE:=aZ hf;have Hz:=aZ hlr;have xJ:=aZ ht;have vG:=aZ hk;have HRR:=aZ hr;obtain⟨Al,cl,hvl,hcl,hml⟩:=hrow.shape;subst hvl;clear hrow hq hf hlr ht hk hr;have Ez:=aZ (bT _ bp B L d qr vG.o [124]);go_wp2_with fail;refine(Ez.o).mono ?_;rintro e w4 ⟨rfl,tn,kn⟩;clear Ez;cases hA:sH (aA qr (bM [124]))
  ·obtain⟨hs,hnn⟩:=bg hA;rw [hs]at kn;have HN:=aZ hnn;have hs4:=tn.size;have fZ:=aZ (aO HRR.o tn);have akh:=aZ (Xt.o.turn aJ tn (fun g hg e=>by have:=(Xt.o.lt g hg).1;omega) (fun g _ h e=>by have h:=h;omega));have fD:=aZ (xJ.o.bO tn);have iD:=aZ kn;clear tn kn HRR Xt hs hnn hA;have iL:bN (aA qr (aF (iy l))=Q):=aZ (abQ HN.o vX.o);obtain⟨ys,hy,hrr⟩:=akh.o;obtain⟨ta,l',rfl⟩:∃a l',l=a :: l':=by cases l with |nil=>exact absurd rfl hne |cons a l'=>exact⟨a,l',rfl⟩
   obtain⟨g0,c9,hg0,hgb,hgs,hc9,hm9⟩:=iM hy (by simp);injection hg0 with hg0 hg1 hg2;subst hg0 hg2;cases hrr with
   | @cons z0 y0 _ _ hz0 hx0 hrt=>
    obtain⟨k0,s0,Aa0,na0,ca0,Ab0,nb0,cb0,rfl⟩:=hx0.shape';have o0:=(aW hy rfl (i:=0) (u:= .int .i64 k0) rfl).1;have o1:=(aW hy rfl (i:=1) (u:=sv s0) rfl).1;have o2:=(aW hy rfl (i:=2) (u:= .slice Aa0 na0 ca0) rfl).1;have o3:=(aW hy rfl (i:=3) (u:= .slice Ab0 nb0 cb0) rfl).1;have HZ0:=aZ (hx0.mono (G:=fun j=>w.heap.size+1<=j) (fun _ _ h=>h.2));have hll:((ta :: l').length:Int)=(l'.length:Int)+1:=by simp
    clear hy hx0 hrt hz0 hne;cases l' with
    |nil=>
     simp only [List.length_nil]at*
     obtain⟨rz,rA,rC,rD,rE⟩:=aX fZ.o;have rF:=block_lt fZ.o;obtain⟨W6,yE,hb6,tn,hs6⟩:=Pt (.int .i64 k0) (sv s0) (.slice Aa0 na0 ca0) (.slice Ab0 nb0 cb0) fZ.o;have aki:=aZ (HZ0.o.tu tn);have jP:=aZ (fD.o.bO tn);have nT:=aZ (iD.o.iP tn);have kC:=aZ hb6;clear tn hb6 fZ HZ0;have BD:=aZ yE;clear yE;go_wp2_with fail;have hW:=BD.o;subst hW;clear BD;refine bodyPost_ret (aM rfl rfl kC.o Tryz.underlying57 rfl (by kernel_rfl)) rfl ?_;exact dh.done iL.o jP.o ⟨_,rfl,(aki.o.mono (fun g _ h=>by have h:=h;omega))⟩ nT.o
    |cons zD l2=>
     have hgt:¬((l2.length:Int)+1+1=1):=by omega
     obtain⟨xsu,LH,LJ⟩:=akh.o.sl aJ;have KU1:=aZ LH;have KU2:=aZ LJ;clear LH LJ;obtain⟨rz,rA,rC,rD,rE⟩:=aX fZ.o;have rF:=block_lt fZ.o;obtain⟨W7,Je,iU,tn,hs7⟩:=Pt (.int .i64 7) (.string ⟨#[]⟩) (.slice none 0 0) (.slice (some ⟨g0,0,none⟩) (l2.length+1+1) cl) fZ.o;have akj:=aZ (KU1.o.turn tn (fun g _ h e=>by have h:=h;omega));have akk:=aZ (bq aJ tn (fun g _ h e=>by have h:=h;omega) KU2.o);have iX:=aZ (fD.o.bO tn);have kr:=aZ (iD.o.iP tn);have lN:=aZ iU;clear tn iU fZ KU1 KU2;have Jf:=aZ Je;clear Je;go_wp2_with fail;have hW:=Jf.o;subst hW;clear Jf;refine bodyPost_ret (aM rfl rfl lN.o Tryz.underlying57 rfl (by kernel_rfl)) rfl ?_;exact dh.done iL.o iX.o ⟨_,rfl,.mk (cO.nil _ _ _) (akj.o.mono (fun g _ h=>by have h:=h;omega)) (lq (cK aJ (fun g _ h=>by have h:=h;omega) akk.o))⟩ kr.o
  ·obtain⟨t7,r7,rfl,ht,hs⟩:=bF hA;rw [hs]at kn;have HY7:=aZ ht;have hs7:=tn.size;have lN:=aZ (aO HRR.o tn);have akl:=aZ (Xt.o.turn aJ tn (fun g hg e=>by have:=(Xt.o.lt g hg).1;omega) (fun g _ h e=>by have h:=h;omega));have iX:=aZ (xJ.o.bO tn);have kr:=aZ kn;clear tn kn HRR Xt hs ht hA;obtain⟨f,rfl⟩:∃f2,f=f2+1:=⟨f - 1,by have:=PE.o _ _ rfl;simp at this;omega⟩
   have zF:bN (aA (.good () r7) (aj (kE typ) fun a=>aj (oH typ f (l++[a])) fun l=>aF (iy l))=Q):=aZ (abR HY7.o vX.o);have vO:=aZ kr.o.wf;have Jg:=aZ (HPR _ bp B L _ kr.o);go_wp2_with fail;refine(Jg.o).mono ?_;rintro e w9 ⟨tn,_,y,rfl,⟨z,rfl,hz⟩,hx,kn⟩;clear Jg;obtain⟨ky,sy,rW,rX,rY,rZ,sj,su,rfl⟩:=hz.shape';obtain⟨q9,hqq⟩:∃qz,ig (aA (.good () r7) (kE typ))=qz:=⟨_,rfl⟩
   have wQ:=aZ (bW zF.o hx);rw [hqq]at kn wQ;have hsz:=Fw (abE hsf) (u:=()) vO.o;rw [hqq]at hsz;have HSZ:=aZ hsz;have zG:=aZ tn;clear hsz;have akm:=aZ hz.iv;have Fx:=tn.size;have gY:=aZ (aO lN.o tn);have lV:=aZ (iX.o.bO tn);have mO:=aZ kn;clear tn kn lN hqq hx hz;obtain⟨ys,hy,hrr⟩:=akl.o;have hyl:ys.length=l.length*4:=hy.1;have Xa:=dN hy zG.o (fun g hg e=>by have:=(hy.lt g hg).1;omega);have HY:=aZ hy;have HRW:=aZ hrr;have HYW:=aZ Xa;have hl8:l.length<=8194:=by have:=Hz.o;omega
   have hl5:w.heap.size+1<=w9.heap.size:=by omega
   clear hy hrr Xa;go_wp2_with (at_builtin;go_must (refine eU rfl (.tmp 15) (.tmp 17) _ rfl (w.heap.size+1) vD _ _ rfl rfl ((HYW.o.alloc (.cells #[.int .i64 ky,sv sy,.slice rW rX rY,.slice rZ sj su] 57)).alloc (.cells #[.int .i64 ky,sv sy,.slice rW rX rY,.slice rZ sj su] 57)) (xR (w9.alloc (.cells #[.int .i64 ky,sv sy,.slice rW rX rY,.slice rZ sj su] 57)) #[.int .i64 ky,sv sy,.slice rW rX rY,.slice rZ sj su] 57 4 1 (w9.heap.size+1) (by simp) rfl (by decide)) (zZ ky sy _ _ _ _ _ _) (by simp [maxLen];omega) (by simp;omega) (by simp;omega) (fun va wa nA fI vB kT=>?_));obtain⟨A9,c9,rfl,_,_⟩:=iK fI;have tH:=aZ fI;have Rm:=aZ vB;have BR:=aZ kT;clear fI vB kT);have ta:=(Turn.alloc (fun j=>(Value.slice Al l.length cl).ownBlock=some j) w9 (.cells #[.int .i64 ky,sv sy,.slice rW rX rY,.slice rZ sj su] 57)).trans (Turn.alloc (fun j=>(Value.slice Al l.length cl).ownBlock=some j) _ (.cells #[.int .i64 ky,sv sy,.slice rW rX rY,.slice rZ sj su] 57)) (fun _ _ h=>h);have t9:=ta.trans (Turn.bB Rm.o (F:=fun j=>(Value.slice Al l.length cl).ownBlock=some j) (fun _ h=>h)) (fun _ _ h=>h);have yh:=akl.o.lt;have Ag:=fH.push aJ (F:=fun j=>w.heap.size+1<=j) HY.o HRW.o zG.o (akm.o.mono (fun g _ h=>h.1)) t9 (fun j _ h=>.inl h) (BR.o.imp id fun e=>⟨_,by simp;omega,e⟩) tH.o (by omega) (by omega) (fun j hj=>by omega);have UD:=mO.o.turn t9 (fun e=>by have:=(yh _ e).1;omega) (fun k hk e=>by have:=(yh _ e).1;omega)
   refine⟨⟨f,_,q9,Ag,by simp,wQ.o,(fun u ts e=>by have h1:ts.length<=r7.length:=(by have h:=HSZ.o;rwa [e]at h);have h2:r7.length+1<=f+1:=PE.o () (t7 :: r7) rfl;omega),(by have h1:=HSZ.o;have h2:l.length+(r7.length+1)<=8194:=Hz.o;rw [List.length_append,List.length_singleton];omega),lV.o.trans t9 (fun i hi e=>by have:=(yh i e).1;omega),(by have:=t9.size;omega),UD,ah gY.o t9 (fun e=>by have:=(yh _ e).1;omega)⟩,?_⟩;rw [UD.kR,vG.o.kR];have h1:=HSZ.o;show yD _<(t7 :: r7).length;simp;omega
section
variable {α:Type}{R:World->(Nat->Prop)->List Value->α->Prop}{k:Nat}{e T:TypeId}{C:Value->Value->Array Value}{tb base:Nat}{l1:List Bt}{l2:List α}{v1 v2:Value}
structure wR (R:World->(Nat->Prop)->List Value->α->Prop) (k:Nat) (e T:TypeId) (C:Value->Value->Array Value) (tb base:Nat) (w:World) (l1:List Bt) (l2:List α) (v1 v2:Value):Prop where
 blk:w.heap[tb]? =some (.cells (C v1 v2) T (0,0))
 qD:gZ w base 9 v1 l1
 kid:fH R k e w base (fun j=>base<=j∧v1.ownBlock≠some j) v2 l2
 ne:∀g,v1.ownBlock=some g->v2.ownBlock≠some g
theorem wR.turn {G:Nat->Prop}{w w':World}(hR:qW R k)(h:wR R k e T C tb base w l1 l2 v1 v2)(t:Turn G w w')(h1:¬G tb)(h2:∀j,base<=j->j<w.heap.size->¬G j):wR R k e T C tb base w' l1 l2 v1 v2:=
 ⟨ah h.blk t h1,h.qD.turn t (fun g hg=>h2 g (h.qD.lt g hg).1 (h.qD.lt g hg).2),h.kid.turn hR t (fun g hg=>h2 g (h.kid.lt g hg).1 (h.kid.lt g hg).2) (fun g hg hF=>h2 g hF.1 hg),h.ne⟩
theorem wR.name {w w6 w7:World}{i:Nat}{s:Bt}{v7:Value}(hR:qW R k)(h:wR R k e T C tb base w l1 l2 v1 v2)(htb:tb<base)(hbs:base<=w.heap.size)(hC:(C v1 v2).setIfInBounds i v7=C v7 v2)
  (t6:Turn (fun _=>False) w w6) (h7:gZ w7 base 9 v7 (l1++[s])) (hg:w6.grownBy w7 v1.ownBlock) (hbk:v7.ownBlock=v1.ownBlock∨v7.ownBlock=some w6.heap.size):
  wR R k e T C tb base (w7.setCell ⟨tb,i,none⟩ v7) (l1++[s]) l2 v7 v2∧Turn (fun j=>v1.ownBlock=some j∨j=tb) w (w7.setCell ⟨tb,i,none⟩ v7):=by
 have t7:Turn (fun j=>v1.ownBlock=some j) w w7:=(t6.mono (G:=fun j=>v1.ownBlock=some j) (fun _ _ h=>h.elim)).trans (Turn.bB hg (fun k h=>h)) (fun _ _ h=>h);have t8:=ak w7 tb i v7;have hs:=t6.size;have hlt:=h.qD.lt;have hk:=h.kid;have hkl:=hk.lt
 have k1:fH R k e w base (fun j=>(base<=j∧v1.ownBlock≠some j)∧v7.ownBlock≠some j) v2 l2:=hk.mono hR fun g hg h=>⟨h,fun e=>by
  rcases hbk with hb |hb
  ·rw [hb]at e;exact h.2 e
  ·rw [hb]at e;injection e with e;omega⟩
 have k7:=k1.turn hR t7 (fun g hg e=>h.ne g e hg) (fun g _ hg e=>hg.1.2 e);have k8:=k7.turn hR t8 (fun g hg e=>by have:=(hkl g hg).1;omega) (fun g _ hg e=>by have:=hg.1.1;omega);have hb:=heap_setCell_same _ _ i _ _ v7 (ah h.blk t7 (fun e=>by have:=(hlt _ e).1;omega));rw [hC]at hb;refine⟨⟨hb,h7.turn t8 (fun g hg e=>by have:=(h7.lt g hg).1;omega),k8.mono hR fun g _ h=>⟨h.1.1,h.2⟩,fun g e=>?_⟩,(t7.mono (G:=fun j=>v1.ownBlock=some j∨j=tb) fun _ _ h=>.inl h).trans t8 (fun _ _ h=>.inr h)⟩;rcases hbk with hb |hb
 ·rw [hb]at e;exact h.ne g e
 ·rw [hb]at e;injection e with e;intro e2;have:=(hkl g e2).2;omega
theorem fH.akn {w w7:World}{F F':Nat->Prop}{v v7:Value}{l:List α}{x:α}{z ys:List Value}{n7:Nat}(hR:qW R k)(h1:w.ownsRow base e k v l.length ys)(h2:fC (R w (qK F v)) k ys l)(hx:R w F' z x)
  (hF:∀j,j<w.heap.size->F' j->F j∧v.ownBlock≠some j) {G:Nat->Prop}(t7:Turn G w w7) (hG:∀j,j<w.heap.size->G j->v.ownBlock=some j∨¬F j) (hbk:v7.ownBlock=v.ownBlock∨∃m,w.heap.size<=m∧v7.ownBlock=some m)
  (h7:w7.ownsRow base e k v7 n7 (ys++z)) (hk:0<k):fH R k e w7 base F v7 (l++[x]):=by
 have hn:n7=(l++[x]).length:=by
  have e1:=h7.1;have e2:=h1.1;have e3:=hR.len hx;rw [List.length_append,e2,e3]at e1;rw [List.length_append,List.length_singleton];have:n7*k=(l.length+1)*k:=by rw [<-e1,Nat.add_mul,Nat.one_mul]
  exact Nat.eq_of_mul_eq_mul_right hk this
 subst hn;have hnew:∀j,j<w.heap.size->v.ownBlock≠some j->v7.ownBlock≠some j:=fun j hj hne e=>by
  rcases hbk with hb |⟨m,hm,hb⟩
  ·rw [hb]at e;exact hne e
  ·rw [hb]at e;injection e with e;omega
 have key:∀{z:List Value}{x:α},R w (fun j=>j<w.heap.size∧F j∧v.ownBlock≠some j) z x->R w7 (qK F v7) z x:=fun h=>
  hR.mono (hR.turn h t7 (fun j _ h e=>by rcases hG j h.1 e with e |e;exact h.2.2 e;exact e h.2.1)) fun j _ h=>⟨hnew j h.1 h.2.2,h.2.1⟩
 exact⟨_,h7,fC.app (CW (hR.len hx) (key (hR.mono hx fun j hj h=>⟨hj,hF j hj h⟩))) (h2.imp fun _ _ h=>key (hR.mono h fun j hj h=>⟨hj,h.2,h.1⟩))⟩
theorem wR.more {i:Nat}{w w6 w7:World}{F':Nat->Prop}{v7:Value}{z ys:List Value}{n7:Nat}{x:α}(hR:qW R k)(hk0:0<k)(h:wR R k e T C tb base w l1 l2 v1 v2)(htb:tb<base)(hC:(C v1 v2).setIfInBounds i v7=C v1 v7)
  (hx:R w F' z x) (hF:∀j,j<w.heap.size->F' j->base<=j∧v1.ownBlock≠some j∧v2.ownBlock≠some j) (t6:Turn (fun _=>False) w w6) (hy:w.ownsRow base e k v2 l2.length ys) (hr:fC (R w (qK (fun j=>base<=j∧v1.ownBlock≠some j) v2)) k ys l2)
  (hg:w6.grownBy w7 v2.ownBlock) (hbk:v7.ownBlock=v2.ownBlock∨v7.ownBlock=some w6.heap.size) (h7:w7.ownsRow base e k v7 n7 (ys++z)):
  wR R k e T C tb base (w7.setCell ⟨tb,i,none⟩ v7) l1 (l2++[x]) v1 v7∧Turn (fun j=>v2.ownBlock=some j∨j=tb) w (w7.setCell ⟨tb,i,none⟩ v7):=by
 have tg:Turn (fun j=>v2.ownBlock=some j) w w7:=(t6.mono (G:=fun j=>v2.ownBlock=some j) (fun _ _ h=>h.elim)).trans (Turn.bB hg (fun k h=>h)) (fun _ _ h=>h);have ts:=ak w7 tb i v7;have hlt:=h.qD.lt;have hkl:=h.kid.lt;have hs6:=t6.size;have t8:Turn (fun j=>v2.ownBlock=some j∨j=tb) w (w7.setCell ⟨tb,i,none⟩ v7):=(tg.mono (G:=fun j=>v2.ownBlock=some j∨j=tb) fun _ _ h=>.inl h).trans ts (fun _ _ h=>.inr h);have hb:=heap_setCell_same _ _ i _ _ v7 (ah h.blk tg (fun e=>by have:=(hkl _ e).1;omega));rw [hC]at hb;have h8:(w7.setCell ⟨tb,i,none⟩ v7).ownsRow base e k v7 n7 (ys++z):=dN h7 ts (fun g hg e=>by have:=(h7.lt g hg).1;omega);refine⟨⟨hb,h.qD.turn t8 (fun g hg e=>?_),?_,fun g e=>?_⟩,t8⟩
 ·rcases e with e |e
  ·exact h.ne g hg e
  ·have:=(hlt g hg).1;omega
 ·exact fH.akn hR hy hr hx (fun j hj h=>⟨⟨(hF j hj h).1,(hF j hj h).2.1⟩,(hF j hj h).2.2⟩) t8 (fun j _ e=>by
   rcases e with e |e
   ·exact .inl e
   ·exact .inr fun h=>by have:=h.1;omega) (hbk.imp id fun e=>⟨_,hs6,e⟩) h8 hk0
 ·have hg1:=(hlt g e).2;rcases hbk with hb |hb
  ·rw [hb];exact h.ne g e
  ·rw [hb];intro e2;injection e2 with e2;omega
end
theorem kV {α β:Type}(a:α)(f:α->Ps β):aj (aF a) f=f a:=rfl
theorem J8 {α β:Type}{one:Ps α}{q:Pr Unit}{f:Nat}{l:List α}{g:List α->Ps β}{R:Pr β}(h:yc q [44])(hq:aA q (aj (qJ one f l) g)=R):aA q (g l)=R:=by
 cases f with
 |zero=>exact hq
 |succ f=>rw [qJ,jh]at hq;exact xP h hq
theorem abT {α β:Type}{one:Ps α}{t:aI}{r:List aI}{f:Nat}{l:List α}{g:List α->Ps β}{R:Pr β}(h:jA t [44]=true)(hq:aA (.good () (t :: r)) (aj (qJ one (f+1) l) g)=R):
  aA (.good () r) (aj one fun a=>aj (qJ one f (l++[a])) g)=R:=by
 rw [qJ,jh]at hq;have:=xO h hq;rwa [if_pos rfl,jh]at this
def Xu {α β:Type}(one:Ps α)(l:List α)(g:List α->Ps β)(R:Pr β)(q:Pr Unit):Prop:=∃f,aA q (aj one fun a=>aj (qJ one f (l++[a])) g)=R∧yD (ig (aA q one))<=f
theorem Ck {α β:Type}{one:Ps α}{q:Pr Unit}{g:List α->Ps β}{R:Pr β}(hq:aA q (aj (iw one) g)=R):Xu one [] g R q:=by
 refine⟨yD (ig (aA q one)),?_,Nat.le_refl _⟩;rw [<-hq];unfold iw;rw [jh,za,za];rcases h:aA q one with g |⟨a,ts⟩ <;> rfl
theorem FL {α β:Type}{one:Ps α}{t:aI}{r:List aI}{f:Nat}{l:List α}{g:List α->Ps β}{R:Pr β}(hsf:Sf one)(hw:Wf r)(h:jA t [44]=true)(hf:(t :: r).length<=f)(hq:aA (.good () (t :: r)) (aj (qJ one f l) g)=R):Xu one l g R (.good () r):=by
 obtain⟨f,rfl⟩:∃f2,f=f2+1:=⟨f - 1,by simp at hf;omega⟩
 exact⟨f,abT h hq,by have:=Fw hsf (u:=()) hw;simp at hf;omega⟩
end Go.Proofs.YtfgjkmipfikooaaGreatDoor
