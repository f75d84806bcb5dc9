/- FR, HN, HQ, HS -/
import Derived.Test.YtncnnedlgofccaaGreatDoorPT13
set_option linter.unusedSimpArgs false
set_option linter.unusedVariables false
set_option maxRecDepth 100000
set_option maxHeartbeats 8000000
namespace Go.Proofs.YtncnnedlgofccaaGreatDoor
open Go.RowKit
def DR (d:Int)(unary:Ps bW):Prop:=∀(w:World) (bp B:Nat) (ts:List aH),cu w bp B ts d->
 Calls Tryz.prog 169 #[pP bp 0] w (aJ (F6 w.heap.size) bp B d w (unary ts))
def anW (d:Int)(p:Ps bW):Prop:=∀(w:World) (bp B:Nat) (ts:List aH),cu w bp B ts d->
 Calls Tryz.prog 170 #[pP bp 0] w (aJ (F6 w.heap.size) bp B d w (p ts))
def vQ (d:Int)(k:Nat)(p:Ps bW):Prop:=∀(w:World) (bp B:Nat) (ts:List aH),cu w bp B ts d->
 Calls Tryz.prog 120 #[pP bp 0,I k] w (aJ (F6 w.heap.size) bp B d w (p ts))
theorem bY {bp a:Nat}{w w1:World}{v0 v1 v2 v3 v4 v5 v6 v7:Value}(h:Turn (fun k=>k=bp) w w1)(ha:w.heap.size<=a:=by omega):Turn (fun k=>k=bp) w (zL w1 a v0 v1 v2 v3 v4 v5 v6 v7):=h.trans (bF w1 a v0 v1 v2 v3 v4 v5 v6 v7) (fun i hi e=>by omega)
theorem cu.iK {bp B a:Nat}{w1:World}{ts:List aH}{d:Int}{v0 v1 v2 v3 v4 v5 v6 v7:Value}(h:cu w1 bp B ts d)(ha:bp<a):cu (zL w1 a v0 v1 v2 v3 v4 v5 v6 v7) bp B ts d:=h.turn (bF _ _ _ _ _ _ _ _ _ _) (by omega) (fun k hk e=>by have:=h.1;omega)
theorem Zb (d:Int)(p:Ps bW)(HU:DR d p):vQ d 6 p:=by
 intro w bp B ts h;have hlt:=h.lt;have hB:=h.1;obtain⟨Q,hQ⟩:∃Q,p ts=Q:=⟨_,rfl⟩
 rw [hQ];have HQ:=aO hQ;have HR:=aO (DN (w.alloc (.cells #[.int .i64 0,.string ⟨#[]⟩,.int .i64 0,.int .i64 0,.int .i64 0,.slice none 0 0,.slice none 0 0,.slice none 0 0] 70)));have Jy:=aO (h.below (new1 w (.cells Z80 70)));have hw1:=xX w (.cells Z80 70);clear h hQ;go_enter Tryz.func120,Tryz.ntmps120;go_wp2_with fail;refine(HR.o).mono ?_;rintro e w1 ⟨hb,v,rfl,hv⟩;obtain⟨b,rfl,hbF,hbs,hcell⟩:=hv;have iR:=aO (Jy.o.below hb);obtain⟨tm,hs1,hrs⟩:=bV (Turn.of_below (F:=fun k=>k=bp) hb);have HT1:=aO tm;have tN:=aO (hrs (by omega));have HC:=aO (HU w1 bp B ts iR.o);clear hb hbF hbs hcell tm hrs hw1;go_wp2_with fail;refine(HC.o).mono ?_;rintro e w2 h2;rcases hq:p ts with g |⟨x,r2⟩
 ·obtain⟨rfl,tn,bn⟩:=h2.cB hq;have HB:=aO (fJ.mk2 (ay HT1.o tn) bn);have eG:=aO (HQ.o.symm.trans hq);clear h2 tn bn hq;go_wp2_with fail;exact⟨rfl,aJ.fail eG.o HB.o⟩
 ·obtain⟨v2,rfl,tn,⟨z,rfl,hz⟩,kn⟩:=h2.aQ hq;obtain⟨kz,sz,nz,lz,oz,sj,su,sw,sD,sF,sG,Gd,Gf,Gg,rfl⟩:=hz.shape';have HZ:=aO hz;have kF:=aO (HQ.o.symm.trans hq);clear hz;have hs2:=tn.size;have HT2:=aO (ay HT1.o tn);have gX:=aO kn;have vK:=aO (ah tN.o tn);clear h2 tn kn hq;obtain⟨c0,c1,c2,c3,c4,c5,c6,c7,cz⟩:=aD vK.o;go_wp2_with fail;refine bodyPost_ret (aL rfl rfl (aX vK.o _ _ _ _ _ _ _ _) Tryz.underlying70 rfl) rfl ?_;exact aJ.done kF.o (bY HT2.o) ⟨_,rfl,(HZ.o.turn (bF _ _ _ _ _ _ _ _ _ _) (fun g _ h e=>by omega)).mono (fun g _ h=>by omega)⟩ (gX.o.iK (by omega))
theorem Zc (d:Int)(p:Ps bW)(HU:anW d p):vQ d 2 p:=by
 intro w bp B ts h;have hlt:=h.lt;have hB:=h.1;obtain⟨Q,hQ⟩:∃Q,p ts=Q:=⟨_,rfl⟩
 rw [hQ];have HQ:=aO hQ;have HR:=aO (DN (w.alloc (.cells #[.int .i64 0,.string ⟨#[]⟩,.int .i64 0,.int .i64 0,.int .i64 0,.slice none 0 0,.slice none 0 0,.slice none 0 0] 70)));have Jy:=aO (h.below (new1 w (.cells Z80 70)));have hw1:=xX w (.cells Z80 70);clear h hQ;go_enter Tryz.func120,Tryz.ntmps120;go_wp2_with fail;refine(HR.o).mono ?_;rintro e w1 ⟨hb,v,rfl,hv⟩;obtain⟨b,rfl,hbF,hbs,hcell⟩:=hv;have iR:=aO (Jy.o.below hb);obtain⟨tm,hs1,hrs⟩:=bV (Turn.of_below (F:=fun k=>k=bp) hb);have HT1:=aO tm;have tN:=aO (hrs (by omega));have HC:=aO (HU w1 bp B ts iR.o);clear hb hbF hbs hcell tm hrs hw1;go_wp2_with fail;refine(HC.o).mono ?_;rintro e w2 h2;rcases hq:p ts with g |⟨x,r2⟩
 ·obtain⟨rfl,tn,bn⟩:=h2.cB hq;have HB:=aO (fJ.mk2 (ay HT1.o tn) bn);have eG:=aO (HQ.o.symm.trans hq);clear h2 tn bn hq;go_wp2_with fail;exact⟨rfl,aJ.fail eG.o HB.o⟩
 ·obtain⟨v2,rfl,tn,⟨z,rfl,hz⟩,kn⟩:=h2.aQ hq;obtain⟨kz,sz,nz,lz,oz,sj,su,sw,sD,sF,sG,Gd,Gf,Gg,rfl⟩:=hz.shape';have HZ:=aO hz;have kF:=aO (HQ.o.symm.trans hq);clear hz;have hs2:=tn.size;have HT2:=aO (ay HT1.o tn);have gX:=aO kn;have vK:=aO (ah tN.o tn);clear h2 tn kn hq;obtain⟨c0,c1,c2,c3,c4,c5,c6,c7,cz⟩:=aD vK.o;go_wp2_with fail;refine bodyPost_ret (aL rfl rfl (aX vK.o _ _ _ _ _ _ _ _) Tryz.underlying70 rfl) rfl ?_;exact aJ.done kF.o (bY HT2.o) ⟨_,rfl,(HZ.o.turn (bF _ _ _ _ _ _ _ _ _ _) (fun g _ h e=>by omega)).mono (fun g _ h=>by omega)⟩ (gX.o.iK (by omega))
theorem G9 {l:List Bt}{ts r:List aH}{i:Nat}(h:dK l ts=.good (some i) r)(hw:1<=ts.length):r.length<ts.length:=by
 unfold dK at h;split at h
 ·cases h
 ·injection h with _ h;subst h;rw [List.length_drop];omega
structure Ck (w:World) (bp B ab:Nat) (d:Int) (vr:Value) (wr:World) (a:bW) (r:List aH):Prop where
 turn:Turn (fun k=>k=bp) w wr
 tk:cu wr bp B r d
 res:wr.heap[w.heap.size]? =some (.cells Z80 70 (0,0))
 rk:NV wr (fun j=>w.heap.size+1<=j∧j<ab) vr
 no:∃z:List Value,wr.heap[ab]? =some (.cells z.toArray 70 (0,0))∧sV wr (fun j=>w.heap.size<=j∧j≠w.heap.size∧j≠ab) z a
theorem Ck.go {w:World}{bp B ab:Nat}{d:Int}{vr:Value}{wr w':World}{a:bW}{r r':List aH}{G:Nat->Prop}(h:Ck w bp B ab d vr wr a r)(hlt:bp<w.heap.size)(hab:w.heap.size<ab)(t:Turn G wr w')(hG:∀j,G j->j=bp∨wr.heap.size<=j)(hk:cu w' bp B r' d):Ck w bp B ab d vr w' a r':=by
 obtain⟨ht,_,hr,hv,z,hz,hn⟩:=h;have hs:=ht.size;have hrl:=block_lt hr;have hzl:=block_lt hz;exact⟨ht.trans t (fun i hi e=>by rcases hG i e with e |e;exact e;omega),hk,ah hr t (fun e=>by rcases hG _ e with e |e <;> omega),hv.turn t (fun g hg h e=>by have:=h.1;rcases hG _ e with e |e <;> omega),z,ah hz t (fun e=>by rcases hG _ e with e |e <;> omega),hn.turn t (fun g hg h e=>by rcases hG _ e with e |e <;> omega)⟩
theorem vR (d:Int)(k:Nat)(hk:k=0∨k=1∨k=3∨k=4∨k=5)(sub:Ps bW)(hsf:Sf sub)(HS:vQ d (k+1) sub):vQ d k (ED (lX.getD k []) sub):=by
 intro w bp B ts h;have hlt:=h.lt;have hB:=h.1;have hk5:k<=5:=by omega
 have QK:((k:Int)==6)=false:=by simp;omega
 have hk2:((k:Int)==2)=false:=by simp;omega
 obtain⟨ops,hops⟩:∃ops,lX.getD k []=ops:=⟨_,rfl⟩
 have hol:ops.length<=6:=by
  rcases hk with rfl |rfl |rfl |rfl |rfl <;> rw [<-hops] <;> decide
 have anX:=aO hops;rw [hops];obtain⟨Q,hQ⟩:∃Q,ED ops sub ts=Q:=⟨_,rfl⟩
 rw [hQ];have HQ:bq (aj sub (fun a ts=>kJ ops sub ts.length a ts) ts=Q):=aO hQ;have HR:=aO (DN (w.alloc (.cells #[.int .i64 0,.string ⟨#[]⟩,.int .i64 0,.int .i64 0,.int .i64 0,.slice none 0 0,.slice none 0 0,.slice none 0 0] 70)));have Jy:=aO (h.below (new1 w (.cells Z80 70)));have HKK:=aO hk;clear h hQ hops hk;go_enter Tryz.func120,Tryz.ntmps120;go_wp2_with fail;refine(HR.o).mono ?_;rintro e w1 ⟨hb,vr,rfl,hv⟩;have hv0:=hv;obtain⟨b,hvr,hbF,hbs,hcell⟩:=hv0;have auf:=aO (hv.mono (G:=fun j=>w.heap.size+1<=j∧j<w1.heap.size) (fun g hg h=>⟨by simp at h;exact h,hg⟩));have iR:=aO (Jy.o.below hb);obtain⟨tm,hs1,hrs⟩:=bV (Turn.of_below (F:=fun k=>k=bp) hb);have HT1:=aO tm;have tN:=aO (hrs (by omega));have HSK:bq (∀(w:World) (ts:List aH),cu w bp B ts d->Calls Tryz.prog 120 #[pP bp 0,I ((k:Int)+1)] w (aJ (F6 w.heap.size) bp B d w (sub ts))):=aO (fun w ts h=>HS w bp B ts h);have HC:=aO (HSK.o w1 ts iR.o);have aA6:=hvr;subst hvr;clear hb hbF hbs hcell tm hrs hv;go_wp2_with fail;refine(HC.o).mono ?_;rintro e w2 h2;rcases hq:sub ts with g |⟨a,r2⟩
 ·obtain⟨rfl,tn,bn⟩:=h2.cB hq;have HB:=aO (fJ.mk2 (ay HT1.o tn) bn);have eG:=aO (HQ.o.symm.trans (aA hq));clear h2 tn bn hq;go_wp2_with fail;exact⟨rfl,aJ.fail eG.o HB.o⟩
 ·obtain⟨v2,rfl,tn,⟨z,rfl,hz⟩,kn⟩:=h2.aQ hq;have kF:bq (kJ ops sub r2.length a r2=Q):=aO ((au (f:=fun a ts=>kJ ops sub ts.length a ts) hq).symm.trans HQ.o);obtain⟨k2,s2,n2,l2,o2,A12,n12,c12,A22,n22,c22,A32,n32,c32,rfl⟩:=hz.shape';have aug:=aO (auf.o.turn tn (fun g _ h e=>by have:=h.1;omega));have HZ:=aO hz;clear hz;have hs2:=tn.size;have HT2:=aO (ay HT1.o tn);have gX:=aO kn;have vK:=aO (ah tN.o tn);clear h2 tn kn hq;have ta:=Turn.alloc (fun k=>k=bp) w2 (.cells #[I k2,sv s2,I n2,I l2,I o2,.slice A12 n12 c12,.slice A22 n22 c22,.slice A32 n32 c32] 70);have hab:w.heap.size<w2.heap.size:=by omega
  have HRI:bq (Ck w bp B w2.heap.size d (.slice (some ⟨b,0,none⟩) 6 6) (w2.alloc (.cells #[.int .i64 k2,sv s2,.int .i64 n2,.int .i64 l2,.int .i64 o2,.slice A12 n12 c12,.slice A22 n22 c22,.slice A32 n32 c32] 70)) a r2):=aO ⟨ay HT2.o ta,gX.o.below (new1 _ _),bS vK.o,(aug.o.turn ta (fun g _ h e=>by have:=h.1;omega)).mono (fun g _ h=>⟨h.1,by have:=h.2;omega⟩),[I k2,sv s2,I n2,I l2,I o2,.slice A12 n12 c12,.slice A22 n22 c22,.slice A32 n32 c32],xX _ _,(HZ.o.iv.turn (Turn.alloc (fun _=>False) w2 (.cells #[I k2,sv s2,I n2,I l2,I o2,.slice A12 n12 c12,.slice A22 n22 c22,.slice A32 n32 c32] 70)) (fun _ _ _=>id)).mono (fun g hg h=>⟨by have:=h.1;omega,by have:=h.1;omega,by have:=h.2;omega⟩)⟩;go_wp2_with fail;go_loopw [8] (fun _ wr=>∃(f:Nat) (a:bW) (r:List aH),kJ ops sub f a r=Q∧r.length<=f∧Ck w bp B w2.heap.size d (.slice (some ⟨b,0,none⟩) 6 6) wr a r) (fun _ wr=>leftOf wr bp)
  case atStart=>exact⟨_,a,r2,kF.o,Nat.le_refl _,HRI.o⟩
  case round=>
   obtain⟨f,a,r,hinv,hf,tJ⟩:=hrel;have hwf:=tJ.tk.wf;have hpos:=hwf.pos;obtain⟨f,rfl⟩:∃f',f=f'+1:=⟨f - 1,by omega⟩
   obtain⟨t,ht⟩:∃t,aR r=t:=⟨_,rfl⟩
   have HL:bq (aj (dK ops) (fun i=>match i with |none=>aB a |some i=>aj sub fun b=>kJ ops sub f (aI 14 (ops.getD i []) 0 t [] [] [a,b])) r=Q):=aO (by subst ht;exact hinv);have HLEN:=aO tJ.tk.left;have HF:=aO hf;have FI:=aO tJ;have wQ:=aO hwf;have hsr:=tJ.turn.size;obtain⟨z4,hz0,hn0⟩:=tJ.no;obtain⟨k4,s4,n4,l4,o4,tq,n14,c14,tC,n24,c24,wU,n34,c34,rfl⟩:=hn0.shape';have akv:=aO hz0;have HN0:=aO (hn0.mono (G:=fun j=>(w.heap.size<=j∧j≠w.heap.size∧j≠w2.heap.size)∧j<wr.heap.size) (fun g hg h=>⟨h,hg⟩));have auh:=block_lt hz0;have HH:=aO (vN d wr bp B r tJ.tk 14);rw [ht]at HH;clear hinv hf tJ hwf ht hz0 hn0;go_wp2_with fail;refine(HH.o).mono ?_;rintro e w3 ⟨rfl,hb3⟩;have hs3:=hb3.size;have t3:=(Turn.of_below (F:=fun k=>k=bp) hb3).trans (Turn.alloc (fun k=>k=bp) w3 (.cells (sH 14 t) 70)) (fun _ _ h=>h);have hk3:=(FI.o.tk.below hb3).below (new1 w3 (.cells (sH 14 t) 70));have FJ:=aO (FI.o.go hlt hab t3 (fun j h=>.inl h) hk3);have rA:=aO (xX w3 (.cells (sH 14 t) 70));have Wn:=aO (ah akv.o t3);have G7:=aO (HN0.o.turn t3 (fun g _ h e=>by have:=h.1.1;omega));obtain⟨W3,hW3⟩:∃W3,w3.alloc (.cells (sH 14 t) 70)=W3:=⟨_,rfl⟩
   rw [hW3]at FJ rA Wn G7;have hsW:W3.heap.size=w3.heap.size+1:=by rw [<-hW3];simp
   have HW3:=aO hW3;obtain⟨bb,hbb,hbF,hbs,hcell⟩:=FJ.o.rk;have hbe:bb=b:=by injection hbb with h1;injection h1 with h1;injection h1 with h1;exact h1.symm
   subst hbe;obtain⟨Ao,no,co,hoc,hos⟩:=hcell k (by omega);rw [anX.o]at hos;have PO:=aO (fun(w':World) (h:Turn (fun j=>j=bp) W3 w')=>aK hoc h);have FH:bq (Ss W3.drew W3.drew.heap.size (.slice Ao no co) ops):=aO hos.all;have uD:=aO (Cb W3.drew bp B r d FJ.o.tk (.slice Ao no co) ops FH.o (by omega));have HOS:=aO hos;have HD0:bq (Turn (fun j=>j=bp) W3 W3.drew):=aO ⟨rfl,rfl,rfl,Nat.le_refl _,fun _ _ _=>rfl⟩;have hkI:(k:Int)<6:=by omega
   have hkw:IntKind.i64.wrap ((k:Int)+1)=(k:Int)+1:=by rw [IntKind.wrap_i64];omega
   clear hb3 t3 hk3 hW3 hbb hbF hbs hcell hoc hos;go_wp2_with fail;rw [HW3.o];refine bM (S:=fun w'=>Turn (fun j=>j=bp) W3 w') (x:=12) (by kernel_rfl) ?_
   try simp only [sp,sq]
   refine tx 0 (pP bp 0) HD0.o ?_;refine tx 1 (pP bp 0) HD0.o ?_;refine tx 2 (pP bp 0) HD0.o ?_;refine tx 3 (.slice (some ⟨bb,0,none⟩) 6 6) HD0.o ?_;refine tx 4 (I k) HD0.o ?_;refine tx 5 (pP bb k) HD0.o ?_;refine jw 6 (.slice Ao no co) PO.o HD0.o ?_;refine bB 7 fun K hK=>?_;go_simp;refine(uD.o).mono ?_;rintro e w4 h4;rcases hq:dK ops r with g |⟨o,r4⟩
   ·exact(iU hq).elim
   ·obtain⟨v4,rfl,tn,rfl,kn⟩:=h4.aQ hq;have fU:=aO (ay HD0.o tn);have hs4:=fU.o.size;have JK:=aO (FJ.o.go hlt hab fU.o (fun j h=>.inl h) kn);have tO:=aO (ah rA.o fU.o);have akw:=aO (ah Wn.o fU.o);have Tz:=aO (G7.o.turn fU.o (fun g _ h e=>by have:=h.1.1;omega));have gP:=aO hq;clear h4 tn kn hq;refine hK.out _ _ fU.o ?_;clear hK K
    try simp only [sp,sq]
    refine tx 8 (.tuple #[I ((o.getD 0:Nat):Int),.bool o.isSome]) fU.o ?_;refine tx 9 (I ((o.getD 0:Nat):Int)) fU.o ?_;refine tx 10 (.bool o.isSome) fU.o ?_;refine tx 11 (I ((o.getD 0:Nat):Int)) fU.o ?_;refine bR 12 fun K hK=>?_;go_simp;refine hK.out _ _ ?_;clear hK K
    try simp only [sp,sq]
    refine bU _ ?_;rcases o with _ |i
    ·have jf:bq (Pr.good a r4=Q):=aO ((au gP.o).symm.trans HL.o);obtain⟨e0,e1,e2,e3,e4,e5,e6,e7,ez⟩:=aD akw.o;obtain⟨c0,c1,c2,c3,c4,c5,c6,c7,cz⟩:=aD JK.o.res;go_wp2_with fail;refine bodyPost_ret (aL rfl rfl (aX JK.o.res _ _ _ _ _ _ _ _) Tryz.underlying70 rfl) rfl ?_;exact aJ.done jf.o.symm (bY JK.o.turn) ⟨_,rfl,(Tz.o.turn (bF _ _ _ _ _ _ _ _ _ _) (fun g _ h e=>by have:=h.1.2.1;omega)).mono (fun g _ h=>h.1.1)⟩ (JK.o.tk.iK (by omega))
    ·have hio:=pV gP.o;have jf:bq (aj sub (fun b=>kJ ops sub f (aI 14 (ops.getD i []) 0 t [] [] [a,b])) r4=Q):=aO ((au gP.o).symm.trans HL.o);have aA7:=JK.o.turn.size;obtain⟨bb2,hbb,hbF,hbs,hcell⟩:=JK.o.rk;have hbe:bb2=bb:=by injection hbb with h1;injection h1 with h1;injection h1 with h1;exact h1.symm
     subst hbe;obtain⟨Ap,np,cp,hoc,hos⟩:=hcell k (by omega);rw [anX.o]at hos;obtain⟨A9,n9,c9,hv9,hl9,hn9,hc9,hx9⟩:=hos;injection hv9 with hv9 auj auk;subst hv9 auj auk;rw [fE,Nat.mul_one]at hl9;subst hl9;obtain⟨bo,oo,rfl,aA8,aA9,an0⟩:=hx9 (by omega);have hstr:=an0 i (sv (ops.getD i [])) (by rw [FY _ _ hio];simp [List.getD,hio]);obtain⟨e0,e1,e2,e3,e4,e5,e6,e7,ez⟩:=aD akw.o;obtain⟨m0,m1,m2,m3,m4,m5,m6,m7,mz⟩:=aD tO.o;obtain⟨sx,hsx⟩:∃sx,ops.getD i []=sx:=⟨_,rfl⟩
     rw [hsx]at hstr;have HSX:=aO hsx;have PR:=aO (fun(w':World) (h:Turn (fun j=>j=bp∨j=w3.heap.size) w4 w')=>aK hoc h);have PS:=aO (fun(w':World) (h:Turn (fun j=>j=bp∨j=w3.heap.size) w4 w')=>aK hstr h);have PA:=aO (fun(w':World) (h:Turn (fun j=>j=bp∨j=w3.heap.size) w4 w')=>(⟨aK e0 h,aK e1 h,aK e2 h,aK e3 h,aK e4 h,aK e5 h,aK e6 h,aK e7 h⟩:w'.cell? ⟨w2.heap.size,0,none⟩=some (I k4)∧w'.cell? ⟨w2.heap.size,1,none⟩=some (sv s4)∧w'.cell? ⟨w2.heap.size,2,none⟩=some (I n4)∧w'.cell? ⟨w2.heap.size,3,none⟩=some (I l4)∧w'.cell? ⟨w2.heap.size,4,none⟩=some (I o4)∧w'.cell? ⟨w2.heap.size,5,none⟩=some (.slice tq n14 c14)∧w'.cell? ⟨w2.heap.size,6,none⟩=some (.slice tC n24 c24)∧w'.cell? ⟨w2.heap.size,7,none⟩=some (.slice wU n34 c34)));have yF:bq (Turn (fun j=>j=bp∨j=w3.heap.size) w4 w4.drew):=aO ⟨rfl,rfl,rfl,Nat.le_refl _,fun _ _ _=>rfl⟩;have Zd:bq (Turn (fun j=>j=bp) w4 w4.drew):=aO ⟨rfl,rfl,rfl,Nat.le_refl _,fun _ _ _=>rfl⟩;have QL:=aO (HSK.o w4.drew r4 JK.o.tk);have aBb:(i:Int)<(ops.length:Int):=by omega
     clear hbb hbF hbs hcell hoc hx9 hstr an0 e0 e1 e2 e3 e4 e5 e6 e7 ez m0 m1 m2 m3 m4 m5 m6 m7 mz hsx;go_wp2_with fail;refine bM (S:=fun w'=>Turn (fun j=>j=bp∨j=w3.heap.size) w4 w') (x:=16) (by kernel_rfl) ?_
     try simp only [sp,sq]
     refine tx 0 (.slice (some ⟨bb2,0,none⟩) 6 6) yF.o ?_;refine tx 1 (I k) yF.o ?_;refine tx 2 (pP bb2 k) yF.o ?_;refine jw 3 (.slice (some ⟨bo,oo,none⟩) ops.length cp) PR.o yF.o ?_;refine tx 4 (I i) yF.o ?_;refine tx 5 (pP bo (oo+i)) yF.o ?_;refine jw 6 (sv sx) PS.o yF.o ?_;refine jw 7 (.agg #[I k4,sv s4,I n4,I l4,I o4,.slice tq n14 c14,.slice tC n24 c24,.slice wU n34 c34]) PA.o yF.o ?_;refine tx 8 (pP bp 0) yF.o ?_;refine tx 9 (I k) yF.o ?_;refine tx 10 (I ((k:Int)+1)) yF.o ?_;refine tx 13 (pP w3.heap.size 1) yF.o ?_;refine bB 11 fun K hK=>?_;go_simp;refine(QL.o).mono ?_;rintro e w5 h5;rcases hq:sub r4 with g |⟨x5,r5⟩
     ·obtain⟨rfl,tn,bn⟩:=h5.cB hq;have HB:=aO (fJ.mk2 (ay JK.o.turn (ay Zd.o tn)) bn);have eG:=aO (jf.o.symm.trans (aA hq));exact⟨rfl,aJ.fail eG.o HB.o⟩
     ·obtain⟨v5,rfl,tn,⟨z5,rfl,JH⟩,kn⟩:=h5.aQ hq;obtain⟨k5,s5,n5,l5,o5,DC,n15,c15,DF,n25,DI,TF,n35,TG,rfl⟩:=JH.shape';have fP:=aO (ay Zd.o tn);have M0:=aO (fP.o.mono (G:=fun j=>j=bp∨j=w3.heap.size) (fun _ _ h=>.inl h));have hs5:=fP.o.size;have JL:=aO (JK.o.go hlt hab fP.o (fun j h=>.inl h) kn);have TA:=aO (Tz.o.turn fP.o (fun g _ h e=>by have:=h.1.1;omega));have an1:=ah akw.o fP.o;have aev:=aO an1;have rC:=ah tO.o fP.o;have tQ:=aO rC;have Dl:=aO (JH.iv.mono (G:=Iv w4.heap.size w5.heap.size) (fun g _ h=>h))
      have xC:bq (kJ ops sub f (aI 14 sx 0 t [] [] [a,x5]) r5=Q):=aO (by
       have:=(au hq).symm.trans jf.o;rw [HSX.o]at this;exact this)
      have MZ:=aO (hsf.good JK.o.tk.wf hq).2.length_le;have aBd:=aO ((Sf.kH ops).good FI.o.tk.wf gP.o).2.length_le;have Cm:=aO (G9 gP.o FI.o.tk.wf.pos);have aul:=block_lt rC;obtain⟨m0,m1,m2,m3,m4,m5,m6,m7,mz⟩:=aD rC;clear h5 tn JH kn hq rC an1;refine hK.out _ _ M0.o ?_;clear hK K
      try simp only [sp,sq]
      refine eY (rs:=[12,14]) (by kernel_rfl) (by simp) ?_;refine bQ.cons rfl (fun K hK=>?_) (bQ.cons rfl (fun K hK=>?_) bQ.nil)
      ·go_simp;have HS6:=aO (M0.o.trans (Turn.alloc (fun j=>j=bp∨j=w3.heap.size) w5 (.cells #[I k4,sv s4,I n4,I l4,I o4,.slice tq n14 c14,.slice tC n24 c24,.slice wU n34 c34,I k5,sv s5,I n5,I l5,I o5,.slice DC n15 c15,.slice DF n25 DI,.slice TF n35 TG] 70)));refine hK.out _ _ HS6.o ?_;clear hK K
       try simp only [sp,sq]
       refine bB 14 fun K hK=>?_;go_simp;have lG:=aO ((M0.o.trans (ak w5 w3.heap.size 1 (sv sx)) (fun _ _ h=>.inr h)).trans (Turn.alloc (fun j=>j=bp∨j=w3.heap.size) _ (.cells #[I k4,sv s4,I n4,I l4,I o4,.slice tq n14 c14,.slice tC n24 c24,.slice wU n34 c34,I k5,sv s5,I n5,I l5,I o5,.slice DC n15 c15,.slice DF n25 DI,.slice TF n35 TG] 70)));refine hK.out _ _ lG.o ?_;clear hK K
       try simp only [sp,sq]
       refine tx 15 (pP w3.heap.size 7) lG.o ?_;refine bR 16 fun K hK=>?_;go_simp;refine hK.out _ _ ?_;clear hK K
       try simp only [sp,sq]
       refine bU _ ?_;obtain⟨t8,NW,NY⟩:=vP (nb:=w3.heap.size) (c1:=1) (c2:=7) (v1:=sv sx) (v2:=(.slice (some ⟨w5.heap.size,0,none⟩) 2 2)) (P:= #[I k4,sv s4,I n4,I l4,I o4,.slice tq n14 c14,.slice tC n24 c24,.slice wU n34 c34,I k5,sv s5,I n5,I l5,I o5,.slice DC n15 c15,.slice DF n25 DI,.slice TF n35 TG]) (T:=70) tQ.o (((w5.setCell ⟨w3.heap.size,1,none⟩ (sv sx)).setCell ⟨w3.heap.size,7,none⟩ (.slice (some ⟨w5.heap.size,0,none⟩) 2 2)).alloc (.cells #[.int .i64 k4,sv s4,.int .i64 n4,.int .i64 l4,.int .i64 o4,.slice tq n14 c14,.slice tC n24 c24,.slice wU n34 c34,.int .i64 k5,sv s5,.int .i64 n5,.int .i64 l5,.int .i64 o5,.slice DC n15 c15,.slice DF n25 DI,.slice TF n35 TG] 70)) rfl;have xB:=JL.o.tk.turn t8 (by omega) (fun k hk e=>by have:=JL.o.tk.1;omega);have GV:=aO (eP NW 8 2 rfl);have HA8:=aO (TA.o.turn t8 (fun g hg h e=>by have:=h.2;omega));have Ya:=ah aev.o t8;have DT:bq (Ck w bp B w2.heap.size d (.slice (some ⟨bb2,0,none⟩) 6 6) _ a r5):=aO ⟨JL.o.turn.trans t8 (fun i hi e=>by omega),xB,ah JL.o.res t8,JL.o.rk.turn t8 (fun g hg h e=>by have:=h.2;omega),_,Ya,HA8.o.mono (fun g _ h=>h.1)⟩;have NZ:=aO (Dl.o.turn t8 (fun g _ h e=>by have:=h.1;omega));have tT:=aO NY;have uY:=t8.size;obtain⟨W8,tH⟩:∃W8,(((w5.setCell ⟨w3.heap.size,1,none⟩ (sv sx)).setCell ⟨w3.heap.size,7,none⟩ (.slice (some ⟨w5.heap.size,0,none⟩) 2 2)).alloc (.cells #[.int .i64 k4,sv s4,.int .i64 n4,.int .i64 l4,.int .i64 o4,.slice tq n14 c14,.slice tC n24 c24,.slice wU n34 c34,.int .i64 k5,sv s5,.int .i64 n5,.int .i64 l5,.int .i64 o5,.slice DC n15 c15,.slice DF n25 DI,.slice TF n35 TG] 70))=W8:=⟨_,rfl⟩
       rw [tH]at DT GV HA8 NZ tT uY Ya;have BF:=aO tH;have q8:=aD (show W8.heap[w3.heap.size]? =some (.cells #[I 14,sv sx,I 0,I t.line,I t.col,Z,Z,(.slice (some ⟨w5.heap.size,0,none⟩) 2 2)] 70 (0,0))from tT.o);obtain⟨f0,f1,f2,f3,f4,f5,f6,f7,fz⟩:=q8;obtain⟨e0,e1,e2,e3,e4,e5,e6,e7,ez⟩:=aD Ya;have HZ8:=aO Ya;clear t8 NW NY xB tH Ya m0 m1 m2 m3 m4 m5 m6 m7 mz;rw [BF.o];go_wp2_with fail;have tF:=bF W8 w2.heap.size (I 14) (sv sx) (I 0) (I t.line) (I t.col) Z Z (.slice (some ⟨w5.heap.size,0,none⟩) 2 2);have N7:Ck w bp B w2.heap.size d (.slice (some ⟨bb2,0,none⟩) 6 6) (zL W8 w2.heap.size (I 14) (sv sx) (I 0) (I t.line) (I t.col) Z Z (.slice (some ⟨w5.heap.size,0,none⟩) 2 2)) (aI 14 sx 0 t [] [] [a,x5]) r5:=by
        have hwx:=DT.o.turn.size;refine⟨bY DT.o.turn,DT.o.tk.iK (by omega),ah DT.o.res tF,DT.o.rk.turn tF (fun g _ h e=>by have:=h.2;omega),_,aX HZ8.o _ _ _ _ _ _ _ _,?_⟩;exact .mk (cZ.nil _ _ _) .nil (cZ.nil _ _ _) ((GV.o.turn tF (fun g _ h e=>by omega)).mono (fun g _ h=>by omega)) (.cons ((HA8.o.turn tF (fun g _ h e=>by have:=h.1.2.2;omega)).mono (fun g _ h=>h.1)) (.cons ((NZ.o.turn tF (fun g _ h e=>by have:=h.1;omega)).mono (fun g _ h=>by have:=h.1;omega)) .nil))
       go_roundw
       case rel=>exact⟨f,_,r5,xC.o,by have:=MZ.o;have:=Cm.o;have:=HF.o;omega,N7⟩
       case measure=>rw [N7.tk.left,HLEN.o];have:=MZ.o;have:=Cm.o;omega
      ·go_simp;have HS6:=aO (M0.o.trans (ak w5 w3.heap.size 1 (sv sx)) (fun _ _ h=>.inr h));refine hK.out _ _ HS6.o ?_;clear hK K
       try simp only [sp,sq]
       refine bB 12 fun K hK=>?_;go_simp;have lG:=aO (HS6.o.trans (Turn.alloc (fun j=>j=bp∨j=w3.heap.size) (w5.setCell ⟨w3.heap.size,1,none⟩ (sv sx)) (.cells #[I k4,sv s4,I n4,I l4,I o4,.slice tq n14 c14,.slice tC n24 c24,.slice wU n34 c34,I k5,sv s5,I n5,I l5,I o5,.slice DC n15 c15,.slice DF n25 DI,.slice TF n35 TG] 70)) (fun _ _ h=>h));refine hK.out _ _ lG.o ?_;clear hK K
       try simp only [sp,sq]
       refine tx 15 (pP w3.heap.size 7) lG.o ?_;refine bR 16 fun K hK=>?_;go_simp;refine hK.out _ _ ?_;clear hK K
       try simp only [sp,sq]
       refine bU _ ?_;obtain⟨t8,NW,NY⟩:=vP (nb:=w3.heap.size) (c1:=1) (c2:=7) (v1:=sv sx) (v2:=(.slice (some ⟨w5.heap.size,0,none⟩) 2 2)) (P:= #[I k4,sv s4,I n4,I l4,I o4,.slice tq n14 c14,.slice tC n24 c24,.slice wU n34 c34,I k5,sv s5,I n5,I l5,I o5,.slice DC n15 c15,.slice DF n25 DI,.slice TF n35 TG]) (T:=70) tQ.o (((w5.setCell ⟨w3.heap.size,1,none⟩ (sv sx)).setCell ⟨w3.heap.size,7,none⟩ (.slice (some ⟨w5.heap.size,0,none⟩) 2 2)).alloc (.cells #[.int .i64 k4,sv s4,.int .i64 n4,.int .i64 l4,.int .i64 o4,.slice tq n14 c14,.slice tC n24 c24,.slice wU n34 c34,.int .i64 k5,sv s5,.int .i64 n5,.int .i64 l5,.int .i64 o5,.slice DC n15 c15,.slice DF n25 DI,.slice TF n35 TG] 70)) rfl;have xB:=JL.o.tk.turn t8 (by omega) (fun k hk e=>by have:=JL.o.tk.1;omega);have GV:=aO (eP NW 8 2 rfl);have HA8:=aO (TA.o.turn t8 (fun g hg h e=>by have:=h.2;omega));have Ya:=ah aev.o t8;have DT:bq (Ck w bp B w2.heap.size d (.slice (some ⟨bb2,0,none⟩) 6 6) _ a r5):=aO ⟨JL.o.turn.trans t8 (fun i hi e=>by omega),xB,ah JL.o.res t8,JL.o.rk.turn t8 (fun g hg h e=>by have:=h.2;omega),_,Ya,HA8.o.mono (fun g _ h=>h.1)⟩;have NZ:=aO (Dl.o.turn t8 (fun g _ h e=>by have:=h.1;omega));have tT:=aO NY;have uY:=t8.size;obtain⟨W8,tH⟩:∃W8,(((w5.setCell ⟨w3.heap.size,1,none⟩ (sv sx)).setCell ⟨w3.heap.size,7,none⟩ (.slice (some ⟨w5.heap.size,0,none⟩) 2 2)).alloc (.cells #[.int .i64 k4,sv s4,.int .i64 n4,.int .i64 l4,.int .i64 o4,.slice tq n14 c14,.slice tC n24 c24,.slice wU n34 c34,.int .i64 k5,sv s5,.int .i64 n5,.int .i64 l5,.int .i64 o5,.slice DC n15 c15,.slice DF n25 DI,.slice TF n35 TG] 70))=W8:=⟨_,rfl⟩
       rw [tH]at DT GV HA8 NZ tT uY Ya;have BF:=aO tH;have q8:=aD (show W8.heap[w3.heap.size]? =some (.cells #[I 14,sv sx,I 0,I t.line,I t.col,Z,Z,(.slice (some ⟨w5.heap.size,0,none⟩) 2 2)] 70 (0,0))from tT.o);obtain⟨f0,f1,f2,f3,f4,f5,f6,f7,fz⟩:=q8;obtain⟨e0,e1,e2,e3,e4,e5,e6,e7,ez⟩:=aD Ya;have HZ8:=aO Ya;clear t8 NW NY xB tH Ya m0 m1 m2 m3 m4 m5 m6 m7 mz;rw [BF.o];go_wp2_with fail;have tF:=bF W8 w2.heap.size (I 14) (sv sx) (I 0) (I t.line) (I t.col) Z Z (.slice (some ⟨w5.heap.size,0,none⟩) 2 2);have N7:Ck w bp B w2.heap.size d (.slice (some ⟨bb2,0,none⟩) 6 6) (zL W8 w2.heap.size (I 14) (sv sx) (I 0) (I t.line) (I t.col) Z Z (.slice (some ⟨w5.heap.size,0,none⟩) 2 2)) (aI 14 sx 0 t [] [] [a,x5]) r5:=by
        have hwx:=DT.o.turn.size;refine⟨bY DT.o.turn,DT.o.tk.iK (by omega),ah DT.o.res tF,DT.o.rk.turn tF (fun g _ h e=>by have:=h.2;omega),_,aX HZ8.o _ _ _ _ _ _ _ _,?_⟩;exact .mk (cZ.nil _ _ _) .nil (cZ.nil _ _ _) ((GV.o.turn tF (fun g _ h e=>by omega)).mono (fun g _ h=>by omega)) (.cons ((HA8.o.turn tF (fun g _ h e=>by have:=h.1.2.2;omega)).mono (fun g _ h=>h.1)) (.cons ((NZ.o.turn tF (fun g _ h e=>by have:=h.1;omega)).mono (fun g _ h=>by have:=h.1;omega)) .nil))
       go_roundw
       case rel=>exact⟨f,_,r5,xC.o,by have:=MZ.o;have:=Cm.o;have:=HF.o;omega,N7⟩
       case measure=>rw [N7.tk.left,HLEN.o];have:=MZ.o;have:=Cm.o;omega
theorem jc {G:Nat->Prop}(w:World)(o:Obj)(b:Nat)(hb:w.heap.size=b):∃W,w.alloc o=W∧W.heap[b]? =some o∧Turn G w W∧(b+1<=W.heap.size∧W.heap.size<=b+1):=by
 subst hb;exact⟨_,rfl,xX w o,Turn.alloc G w o,by simp,by simp⟩
theorem st1 {w:World}{b:Nat}(i:Nat)(v:Value){cs cs2:Array Value}{t:TypeId}(h:w.heap[b]? =some (.cells cs t (0,0)))(e:cs.setIfInBounds i v=cs2):∃W,w.setCell ⟨b,i,none⟩ v=W∧W.heap[b]? =some (.cells cs2 t (0,0))∧Turn (fun j=>j=b) w W∧(w.heap.size<=W.heap.size∧W.heap.size<=w.heap.size):=by
 subst e;exact⟨_,rfl,heap_setCell_same _ _ i _ _ v h,ak w b i v,by simp,by simp⟩
theorem Ru {w:World}{b:Nat}(v0 v1 v2 v3:Value){a0 a1 a2 a3:Value}{t:TypeId}(h:w.heap[b]? =some (.cells #[a0,a1,a2,a3] t (0,0))):∃W,dX w b v0 v1 v2 v3=W∧W.heap[b]? =some (.cells #[v0,v1,v2,v3] t (0,0))∧Turn (fun j=>j=b) w W∧(w.heap.size<=W.heap.size∧W.heap.size<=w.heap.size):=
 ⟨_,rfl,bg h _ _ _ _,dM _ _ _ _ _ _,by simp,by simp⟩
theorem xO {w:World}{b:Nat}(v0 v1 v2 v3 v4 v5 v6 v7:Value){a0 a1 a2 a3 a4 a5 a6 a7:Value}{t:TypeId}(h:w.heap[b]? =some (.cells #[a0,a1,a2,a3,a4,a5,a6,a7] t (0,0))):∃W,zL w b v0 v1 v2 v3 v4 v5 v6 v7=W∧W.heap[b]? =some (.cells #[v0,v1,v2,v3,v4,v5,v6,v7] t (0,0))∧Turn (fun j=>j=b) w W∧(w.heap.size<=W.heap.size∧W.heap.size<=w.heap.size):=
 ⟨_,rfl,aX h _ _ _ _ _ _ _ _,bF _ _ _ _ _ _ _ _ _ _,by simp,by simp⟩
theorem aN {G:Nat->Prop}{w w':World}{b:Nat}{o:Obj}(h:w.heap[b]? =some o)(t:Turn G w w')(hd:¬G b:=by omega):w'.heap[b]? =some o:=ah h t hd
theorem sV.tu {F G:Nat->Prop}{w w':World}{z:List Value}{x:bW}(h:sV w F z x)(t:Turn G w w')(hd:∀g,g<w.heap.size->F g->¬G g:=by intro g _ h e;have h:=h;omega):sV w' F z x:=h.turn t hd
theorem nT.tu {F G:Nat->Prop}{w w':World}{z:List Value}{x:bZ}(h:nT w F z x)(t:Turn G w w')(hd:∀g,g<w.heap.size->F g->¬G g:=by intro g _ h e;have h:=h;omega):nT w' F z x:=h.turn t hd
theorem Turn.bC {F G:Nat->Prop}{a b c:World}(h:Turn F a b)(t:Turn G b c)(hd:∀i,i<a.heap.size->G i->F i:=by intro i hi e;omega):Turn F a c:=h.trans t hd
theorem eX.iH {G:Nat->Prop}{w w':World}{bp B:Nat}{L:List aH}{d:Int}{q:Pr Unit}(h:eX w bp B L d q)(t:Turn G w w')(hk:¬G bp:=by omega)(hB:∀k,k<B->¬G k:=by intro k hk e;omega):eX w' bp B L d q:=h.turn t hk hB
theorem oW {α:Type}{q:Pr Unit}{f:aH->Ps α}{R:Pr α}{t:aH}(hq:av q (aj kr f)=R)(h:∀u ts,q=.good u ts->aR ts=t):av q (f t)=R:=by
 subst hq;cases q with
 |bad g=>rfl
 |good u ts=>rw [<-h u ts rfl];rfl
theorem oZ {α:Type}{t:aH}{r:List aH}{s:Bt}{f:Bool->Ps α}{R:Pr α}(ht:kU t s=true)(hq:av (.good () (t :: r)) (aj (bD s) f)=R):av (.good () r) (f true)=R:=by
 rw [<-hq];exact(au (uj ht r)).symm
theorem o8 {α:Type}{q:Pr Unit}{s:Bt}{f:Bool->Ps α}{R:Pr α}(h:zK q s)(hq:av q (aj (bD s) f)=R):av q (f false)=R:=by rw [<-hq];exact(Nz h).symm
theorem eZ {α β γ:Type}(p:Ps α)(f:α->Ps β)(g:β->Ps γ):aj (aj p f) g=aj p (fun a=>aj (f a) g):=by
 funext ts;unfold aj;cases p ts <;> rfl
theorem vS {α β:Type}{q:Pr Unit}{F:Nat->Ps α}{g:α->Ps β}{R:Pr β}(hq:av q (aj (fun ts=>F ts.length ts) g)=R):∃f,(∀u ts,q=.good u ts->ts.length<=f)∧av q (aj (F f) g)=R:=by
 cases q with
 |bad g=>exact⟨0,(fun u ts h=>by cases h),hq⟩
 |good u ts=>exact⟨ts.length,(fun u' ts' h=>by injection h with _ h;subst h;exact Nat.le_refl _),hq⟩
def qD (q:Pr Unit):Nat:=match q with
 |.good _ ts=>ts.length
 |.bad _=>0
theorem He {α:Type}{p:Ps α}(h:Sf p){u:Unit}{ts:List aH}(hw:Wf ts):qD (gF (av (.good u ts) p))<=ts.length:=by
 show qD (gF (p ts))<= _;rcases hq:p ts with g |⟨a,r⟩
 ·exact Nat.zero_le _
 ·exact(h.good hw hq).2.length_le
theorem eX.wf {w:World}{bp B:Nat}{L:List aH}{d:Int}{u:Unit}{ts:List aH}(h:eX w bp B L d (.good u ts)):Wf ts:=by
 obtain⟨_,_,_,v,k,dd,e,ln,cn,_,_,_,_,h8⟩:=h;exact h8.2.1
theorem eX.left {w:World}{bp B:Nat}{L:List aH}{d:Int}{u:Unit}{ts:List aH}(h:eX w bp B L d (.good u ts)):ts.length<=L.length:=by
 obtain⟨_,_,_,v,k,dd,e,ln,cn,_,_,_,_,h8⟩:=h;rw [h8.1,List.length_drop];omega
def RC {α:Type}(F:Nat)(P:Nat->World->Value->α->Prop)(d:Int)(p:Ps α):Prop:=∀(w:World) (bp B:Nat) (L:List aH) (q:Pr Unit),eX w bp B L d q->
 Calls Tryz.prog F #[pP bp 0] w (bT (P w.heap.size) bp B L d w (av q p))
theorem up1 {w:World}{bp B:Nat}{L:List aH}{d:Int}{q:Pr Unit}{v:Value}{k:Nat}{dd e:Int}{ln cn:Nat}(h:eX w bp B L (d+1) q)(h0:0<=d)(h1:d<100)(hblk:w.heap[bp]? =some (.cells #[v,I k,I dd,I e,I ln,I cn] 156 (0,0))):
  ∃W,w.setCell ⟨bp,2,none⟩ (I (wrap64 (dd - 1)))=W∧eX W bp B L d q∧Turn (fun j=>j=bp) w W∧(w.heap.size<=W.heap.size∧W.heap.size<=w.heap.size):=
 ⟨_,rfl,h.up h0 h1 hblk rfl,ak _ _ _ _,by simp,by simp⟩
abbrev Hf (d:Int)(p:Ps bZ):Prop:=RC 142 PTy d p
def Wo (typ:Ps bZ):Ps bZ:=aj (lK typ) fun a=>aj (fun ts=>qG typ ts.length [a] ts) fun l=>aB (iT l)
theorem Ze (typ:Ps bZ):JD typ=aj (Wo typ) fun t=>aj (bD [45,62]) fun b=>if b then aj typ fun r=>aB (.mk 6 [] [] [t,r])else aB t:=by
 unfold JD Wo;rw [eZ];congr 1;funext a;rw [eZ];rfl
theorem Rv {α:Type}{q:Pr Unit}{p:Ps α}{d:Int}(hn:(∃g,q=.bad g)∨(d=100∧p=kI 6)):anV d q∧gF (av q p)=EL q 6∧∀a ts,av q p≠ .good a ts:=by
 rcases hn with⟨g,rfl⟩ |⟨rfl,rfl⟩
 ·exact⟨.inl ⟨g,rfl⟩,rfl,fun a ts h=>by cases h⟩
 ·exact⟨.inr rfl,(NT q 6).symm,fun a ts h=>by cases q <;> cases h⟩
theorem LV (w:World)(F:Nat->Prop):nT w F [I 0,S0,Z,Z] jG:= .mk (cZ.nil _ _ _) (cZ.nil _ _ _) .nil
theorem N8 (w:World)(bp B:Nat)(L:List aH)(d:Int)(q:Pr Unit)(h:eX w bp B L d q){p:Ps bZ}(hn:(∃g,q=.bad g)∨(d=100∧p=kI 6)):
  Calls Tryz.prog 142 #[pP bp 0] w (bT (PTy w.heap.size) bp B L d w (av q p)):=by
 obtain⟨n1,n2,n3⟩:=Rv hn;have hlt:=h.lt;have hB:=h.1;have H0:=aO h;have N2:=aO n2;have N3:=aO n3;clear h n2 n3 hn;obtain⟨W1,hW1,hb1,tn,hs1⟩:=jc (G:=fun _=>False) w (.cells Z40 80) (w.heap.size) rfl;have HT1:bq (Turn (fun j=>j=bp) w W1):=aO (tn.mono (fun _ _ h=>h.elim));have iR:=aO (H0.o.turn tn id (fun _ _=>id));have iX:=aO hb1;clear tn hb1;have HW1:=aO hW1;clear hW1;have rX:=aO (DL _ bp B L d q iR.o n1);go_enter Tryz.func142,Tryz.ntmps142;go_wp2_with fail;have hW:=HW1.o;subst hW;clear HW1;refine(rX.o).mono ?_;rintro e w2 ⟨rfl,tn,kn⟩;clear rX;have hs2:=tn.size;have gL:=aO (aN iX.o tn);have HT2:=aO (HT1.o.bC tn);have gX:=aO kn;have hz2:w.heap.size+1<=w2.heap.size:=by omega
 clear hs1 hs2;clear tn kn iX;obtain⟨tX,tY,uF,uG,tZ⟩:=aW gL.o;have uf:=block_lt gL.o;obtain⟨W3,hW3,hb3,tn,hs3⟩:=Ru (I 0) S0 Z Z gL.o;have HT3:=aO (HT2.o.bC tn);have gJ:=aO (gX.o.iH tn);have gQ:=aO hb3;clear tn hb3 gL;have HW3:=aO hW3;clear hW3;go_wp2_with fail;have hW:=HW3.o;subst hW;clear HW3;refine bodyPost_ret (aL rfl rfl gQ.o Tryz.underlying80 rfl) rfl ?_;exact⟨HT3.o,_,jG,rfl,⟨_,rfl,LV _ _⟩,fun a ts e=>absurd e (N3.o a ts),by rw [N2.o];exact gJ.o⟩
theorem Zf (d:Int)(h0:0<=d)(h1:d<100)(typ:Ps bZ)(qK:Hf (d+1) typ)(HAL:RC 185 PTy (d+1) (Wo typ)):Hf d (JD typ):=by
 intro w bp B L q h;cases q with
 |bad g=>exact N8 w bp B L d _ h (.inl ⟨g,rfl⟩)
 |good u ts=>
  have hlt:=h.lt;have hB:=h.1;have H0:=aO h;obtain⟨Q,hQ⟩:∃Q,av (.good u ts) (JD typ)=Q:=⟨_,rfl⟩
  rw [hQ];rw [Ze]at hQ;have sW:=aO hQ;clear h hQ;obtain⟨W1,hW1,hb1,tn,hs1⟩:=jc (G:=fun _=>False) w (.cells Z40 80) (w.heap.size) rfl;have HT1:bq (Turn (fun j=>j=bp) w W1):=aO (tn.mono (fun _ _ h=>h.elim));have iR:=aO (H0.o.turn tn id (fun _ _=>id));have iX:=aO hb1;clear tn hb1;have HW1:=aO hW1;clear hW1;have rX:=aO (DK _ bp B L d u ts iR.o h0 h1);go_enter Tryz.func142,Tryz.ntmps142;go_wp2_with fail;have hW:=HW1.o;subst hW;clear HW1;refine(rX.o).mono ?_;rintro e w2 ⟨rfl,tn,kn⟩;clear rX;have hs2:=tn.size;have gL:=aO (aN iX.o tn);have HT2:=aO (HT1.o.bC tn);have gX:=aO kn;have hz2:w.heap.size+1<=w2.heap.size:=by omega
  clear hs1 hs2;clear tn kn iX;have KJ:=aO (HAL _ bp B L _ gX.o);go_wp2_with fail;refine(KJ.o).mono ?_;rintro e w3 ⟨tn,_,x,rfl,⟨z,rfl,hz⟩,hx,kn⟩;clear KJ;obtain⟨kx,sx,nu,ny,nC,nD,nE,nG,rfl⟩:=hz.shape';obtain⟨q3,hqq⟩:∃qz,gF (av (.good u ts) (Wo typ))=qz:=⟨_,rfl⟩
  have iO:=aO (bA sW.o hx);rw [hqq]at kn iO;have Rw:=aO hz.iv;have hs3:=tn.size;have gQ:=aO (aN gL.o tn);have HT3:=aO (HT2.o.bC tn);have gJ:=aO kn;clear tn kn gL hqq hx hz;obtain⟨W4,xY,hb4,tn,hs4⟩:=jc (G:=fun _=>False) w3 (.cells #[I kx,sv sx,.slice nu ny nC,.slice nD nE nG] 80) (w3.heap.size) rfl;have gM:=aO (ah gQ.o tn id);have Rx:=aO (Rw.o.turn tn (fun _ _ _=>id));have fU:=aO (HT3.o.trans tn (fun _ _ h=>h.elim));have iW:=aO (gJ.o.turn tn id (fun _ _=>id));have aey:=aO hb4;clear tn hb4 gQ Rw;have LW:=aO xY;clear xY;have N9:=aO (bE _ bp B L (d+1) q3 iW.o [45,62]);go_wp2_with fail;have hW:=LW.o;subst hW;clear LW;refine(N9.o).mono ?_;rintro e w5 ⟨rfl,tn,kn⟩;clear N9;cases hA:qR (av q3 (bD [45,62]))
  ·obtain⟨hs,hnn⟩:=aS hA;rw [hs]at kn;have HN:=aO hnn;have hs5:=tn.size;have iP:=aO (aN gM.o tn);have Ry:=aO (aN aey.o tn);have LX:=aO (Rx.o.tu tn);have fP:=aO (fU.o.bC tn);have jH:=aO kn;have JH:w3.heap.size+1<=w5.heap.size:=by omega
   clear hs4 hs5;clear tn kn gM aey Rx hs hnn hA;have xC:bq (av q3 (aB x)=Q):=aO (o8 HN.o iO.o);obtain⟨tb0,tb1,BA,tb3,tbz⟩:=aW Ry.o;have tbl:=block_lt Ry.o;obtain⟨tX,tY,uF,uG,tZ⟩:=aW iP.o;have uf:=block_lt iP.o;obtain⟨bL,oL,cL,kL,dd,eL,lnL,cnL,_,_,_,_,_,_,hblk,_⟩:=jH.o.open_;obtain⟨p0,p1,p2,p3,p4,p5,pz⟩:=gu hblk;have aun:=aO hblk;have hpl:=block_lt hblk;clear hblk;have jL:¬w3.heap.size=w.heap.size:=by omega
   have DU:¬w3.heap.size=bp:=by omega
   have jM:¬w.heap.size=w3.heap.size:=by omega
   have DV:¬w.heap.size=bp:=by omega
   have DW:¬bp=w3.heap.size:=by omega
   have DX:¬bp=w.heap.size:=by omega
   obtain⟨W8,tH,kn,tn,uY⟩:=up1 jH.o h0 h1 aun.o;have qL:=aO (aN iP.o tn);have an8:=aO (aN Ry.o tn);have an9:=aO (LX.o.tu tn);have mZ:=aO (fP.o.bC tn);have rQ:=aO kn;clear tn kn iP Ry LX;have BF:=aO tH;clear tH;obtain⟨W9,zM,xP,tn,Ba⟩:=Ru (I kx) (sv sx) (.slice nu ny nC) (.slice nD nE nG) qL.o;have aky:=aO (aN an8.o tn);have wV:=aO (an9.o.tu tn);have j5:=aO (mZ.o.bC tn);have kV:=aO (rQ.o.iH tn);have iw:=aO xP;clear tn xP qL an8 an9;have pR:=aO zM;clear zM;go_wp2_with fail;have hW:=pR.o;subst hW;clear pR;have hW:=BF.o;subst hW;clear BF;refine bodyPost_ret (aL rfl rfl iw.o Tryz.underlying80 rfl) rfl ?_;exact bT.done xC.o j5.o ⟨_,rfl,(wV.o.mono (fun g _ h=>by have h:=h;omega))⟩ kV.o
  ·obtain⟨t9,r9,rfl,ht,hs⟩:=bf hA;rw [hs]at kn;have HY9:=aO ht;have Ba:=tn.size;have iw:=aO (aN gM.o tn);have aky:=aO (aN aey.o tn);have wV:=aO (Rx.o.tu tn);have j5:=aO (fU.o.bC tn);have kV:=aO kn;have Wp:w3.heap.size+1<=w5.heap.size:=by omega
   clear hs4 Ba;clear tn kn gM aey Rx hs ht hA;have yG:bq (av (.good () r9) (aj typ fun r=>aB (bZ.mk 6 [] [] [x,r]))=Q):=aO (oZ HY9.o iO.o);have Hg:=aO (qK _ bp B L _ kV.o);go_wp2_with fail;refine(Hg.o).mono ?_;rintro e Bz ⟨tn,_,y,rfl,⟨z,rfl,hz⟩,hx,kn⟩;clear Hg;obtain⟨ky,sy,nU,nV,nW,nZ,og,oh,rfl⟩:=hz.shape';obtain⟨q11,hqq⟩:∃qz,gF (av (.good () r9) (typ))=qz:=⟨_,rfl⟩
   have JM:=aO (bA yG.o hx);rw [hqq]at kn JM;have Hl:=aO hz.iv;have Ho:=tn.size;have jJ:=aO (aN iw.o tn);have Cn:=aO (aN aky.o tn);have Oa:=aO (wV.o.tu tn);have xQ:=aO (j5.o.bC tn);have xR:=aO kn;clear tn kn iw aky wV hqq hx hz;obtain⟨tb0,tb1,BA,tb3,tbz⟩:=aW Cn.o;have tbl:=block_lt Cn.o;obtain⟨tX,tY,uF,uG,tZ⟩:=aW jJ.o;have uf:=block_lt jJ.o;obtain⟨bL,oL,cL,kL,dd,eL,lnL,cnL,_,_,_,_,_,_,hblk,_⟩:=xR.o.open_;obtain⟨p0,p1,p2,p3,p4,p5,pz⟩:=gu hblk;have agi:=aO hblk;have hpl:=block_lt hblk;clear hblk;have jL:¬w3.heap.size=w.heap.size:=by omega
   have DU:¬w3.heap.size=bp:=by omega
   have jM:¬w.heap.size=w3.heap.size:=by omega
   have DV:¬w.heap.size=bp:=by omega
   have DW:¬bp=w3.heap.size:=by omega
   have DX:¬bp=w.heap.size:=by omega
   obtain⟨W13,Co,Cq,tn,wW⟩:=Ru (I 6) S0 Z (.slice (some ⟨Bz.heap.size+1,0,none⟩) 2 2) Cn.o;have jg:=aO (aN jJ.o tn);have aob:=aO (aN agi.o tn);have TH:=aO (Oa.o.tu tn);have LY:=aO (Hl.o.tu tn);have qM:=aO (xQ.o.bC tn);have nO:=aO (xR.o.iH tn);have agj:=aO Cq;clear tn Cq Cn jJ agi Oa Hl;have Cr:=aO Co;clear Co;obtain⟨W14,Hq,kn,tn,Rz⟩:=up1 nO.o h0 h1 aob.o;have ng:=aO (aN jg.o tn);have agk:=aO (aN agj.o tn);have agl:=aO (TH.o.tu tn);have Zg:=aO (LY.o.tu tn);have zN:=aO (qM.o.bC tn);have yH:=aO kn;clear tn kn jg agj TH LY;have Hr:=aO Hq;clear Hq;obtain⟨W15,yI,yJ,tn,DY⟩:=Ru (I 6) S0 Z (.slice (some ⟨Bz.heap.size+1,0,none⟩) 2 2) ng.o;have agm:=aO (aN agk.o tn);have agn:=aO (agl.o.tu tn);have Zh:=aO (Zg.o.tu tn);have xS:=aO (zN.o.bC tn);have yK:=aO (yH.o.iH tn);have jC:=aO yJ;clear tn yJ ng agk agl Zg;have yL:=aO yI;clear yI;obtain⟨W16,Ht,Hu,tn,zO⟩:=jc (G:=fun _=>False) W15 (.cells #[I ky,sv sy,.slice nU nV nW,.slice nZ og oh] 80) (Bz.heap.size) (by omega);have gG:=aO (ah jC.o tn id);have agp:=aO (ah agm.o tn id);have Ob:=aO (agn.o.turn tn (fun _ _ _=>id));have LZ:=aO (Zh.o.turn tn (fun _ _ _=>id));have qN:=aO (xS.o.trans tn (fun _ _ h=>h.elim));have om:=aO (yK.o.turn tn id (fun _ _=>id));have iL:=aO Hu;clear tn Hu jC agm agn Zh;have Hw:=aO Ht;clear Ht;obtain⟨RA,yM,Ct,tn,Hy⟩:=jc (G:=fun _=>False) W16 (.cells #[I kx,sv sx,.slice nu ny nC,.slice nD nE nG,I ky,sv sy,.slice nU nV nW,.slice nZ og oh] 80) (Bz.heap.size+1) (by omega);have iM:=aO (ah gG.o tn id);have ayj:=aO (ah agp.o tn id);have kD:=aO (ah iL.o tn id);have TI:=aO (Ob.o.turn tn (fun _ _ _=>id))
   have akA:=aO (LZ.o.turn tn (fun _ _ _=>id));have uS:=aO (qN.o.trans tn (fun _ _ h=>h.elim));have ug:=aO (om.o.turn tn id (fun _ _=>id));have EN:=aO Ct;clear tn Ct gG agp iL Ob LZ;have Hz:=aO yM;clear yM;go_wp2_with fail;have hW:=Hz.o;subst hW;clear Hz;have hW:=Hw.o;subst hW;clear Hw;have hW:=yL.o;subst hW;clear yL;have hW:=Hr.o;subst hW;clear Hr;have hW:=Cr.o;subst hW;clear Cr;refine bodyPost_ret (aL rfl rfl iM.o Tryz.underlying80 rfl) rfl ?_;exact bT.done JM.o uS.o ⟨_,rfl,.mk (cZ.nil _ _ _) ((eP EN.o 4 2 rfl).mono (fun g _ h=>by have h:=h;omega)) (.cons (TI.o.mono (fun g _ h=>by have h:=h;omega)) (.cons (akA.o.mono (fun g _ h=>by have h:=h;omega)) .nil))⟩ ug.o
theorem aez {α:Type}{typ:Ps bZ}{q:Pr Unit}{f:Nat}{l:List bZ}{g:List bZ->Ps α}{R:Pr α}(h:zK q [124])(hq:av q (aj (qG typ f l) g)=R):av q (g l)=R:=by
 cases f with
 |zero=>exact hq
 |succ f=>rw [qG,eZ]at hq;exact o8 h hq
theorem aeA {α:Type}{typ:Ps bZ}{t:aH}{r:List aH}{f:Nat}{l:List bZ}{g:List bZ->Ps α}{R:Pr α}(h:kU t [124]=true)(hq:av (.good () (t :: r)) (aj (qG typ (f+1) l) g)=R):
  av (.good () r) (aj (lK typ) fun a=>aj (qG typ f (l++[a])) g)=R:=by
 rw [qG,eZ]at hq;have:=oZ h hq;rwa [if_pos rfl,eZ]at this
def xD (w:World)(bp:Nat):Nat:=match w.cell? ⟨bp,0,none⟩,w.cell? ⟨bp,1,none⟩,w.cell? ⟨bp,3,none⟩with
 |some (.slice _ n _),some (.int _ k),some (.int _ e)=>if e=0 then n - k.toNat else 0
 |_,_,_=>0
theorem eX.gZ {w:World}{bp B:Nat}{L:List aH}{d:Int}{q:Pr Unit}(h:eX w bp B L d q):xD w bp=qD q:=by
 obtain⟨b,o,c,k,dd,e,ln,cn,hk,hlc,hc63,LK,hdd,hrel,hblk,_⟩:=h.open_;obtain⟨p0,p1,p2,p3,p4,p5,pz⟩:=gu hblk;unfold xD;rw [p0,p1,p3];cases q with
 |bad g=>
  obtain⟨rfl,_,_,hg⟩:=hrel;exact if_neg hg
 |good u ts=>
  obtain⟨rfl,_,_,rfl,_⟩:=hrel;show(if(0:Int)=0 then L.length - ((k:Int)).toNat else 0)=(L.drop k).length;rw [if_pos rfl,List.length_drop];rfl
theorem eX.sz {w:World}{bp B:Nat}{L:List aH}{d:Int}{q:Pr Unit}(h:eX w bp B L d q):qD q<=8193:=by
 have h2:=h.2.1.1;cases q with
 |bad g=>exact Nat.zero_le _
 |good u ts=>exact Nat.le_trans h.left h2
theorem eX.nP {α:Type}{p:Ps α}{w:World}{bp B:Nat}{L:List aH}{d:Int}{q:Pr Unit}(h:eX w bp B L d q)(hsf:Sf p):qD (gF (av q p))<=qD q:=by
 cases q with
 |bad g=>exact Nat.zero_le _
 |good u ts=>exact He hsf h.wf
theorem mI (w:World)(cs:Array Value)(t:TypeId)(k n b:Nat)(hb:w.heap.size=b)(hs:cs.size=n*k)(hn:n<=100000):Sl (w.alloc (.cells cs t)) (b+1) k (.slice (some ⟨b,0,none⟩) n n) cs.toList:=by
 subst hb;exact iN w cs t k n hs (by unfold maxLen;omega)
theorem Zi (d:Int)(typ:Ps bZ)(hsf:Sf typ)(HPR:RC 204 PTy d (lK typ)):RC 185 PTy d (Wo typ):=by
 intro w bp B L q h;have hlt:=h.lt;have hB:=h.1;have H0:=aO h;obtain⟨Q,hQ⟩:∃Q,av q (Wo typ)=Q:=⟨_,rfl⟩
 rw [hQ];have sW:bq (av q (aj (lK typ) fun a=>aj (fun ts=>qG typ ts.length [a] ts) fun l=>aB (iT l))=Q):=aO hQ;clear h hQ;obtain⟨W1,hW1,hb1,tn,hs1⟩:=jc (G:=fun _=>False) w (.cells Z40 80) (w.heap.size) rfl;have HT1:bq (Turn (fun j=>j=bp) w W1):=aO (tn.mono (fun _ _ h=>h.elim));have iR:=aO (H0.o.turn tn id (fun _ _=>id));have iX:=aO hb1;clear tn hb1;have HW1:=aO hW1;clear hW1;have rX:=aO (HPR _ bp B L _ iR.o);go_enter Tryz.func185,Tryz.ntmps185;go_wp2_with fail;have hW:=HW1.o;subst hW;clear HW1;refine(rX.o).mono ?_;rintro e w2 ⟨tn,_,x,rfl,⟨z,rfl,hz⟩,hx,kn⟩;clear rX;obtain⟨kx,sx,nu,ny,nC,nD,nE,nG,rfl⟩:=hz.shape';obtain⟨q2,hqq⟩:∃qz,gF (av q (lK typ))=qz:=⟨_,rfl⟩
 have kF:=aO (bA sW.o hx);rw [hqq]at kn kF;have aeB:=aO (hz.iv.mono (G:=Iv (w.heap.size+1) w2.heap.size) (fun g _ h=>⟨by have h1:=h.1;omega,h.2⟩));have hs2:=tn.size;have gL:=aO (aN iX.o tn);have HT2:=aO (HT1.o.bC tn);have gX:=aO kn;have hz2:w.heap.size+1<=w2.heap.size:=by omega
 clear hs1 hs2;clear tn kn iX hqq hx hz;obtain⟨f0,hf0,hq0⟩:=vS (F:=fun n=>qG typ n [x]) kF.o;have vT:=row_one aG (base:=w.heap.size+1) (G:=fun j=>w.heap.size+1<=j) (e:=80) aeB.o (by omega) (fun g _ h=>by have h:=h;omega);obtain⟨W3,hW3,hb3,tn,hs3⟩:=jc (G:=fun _=>False) w2 (.cells #[I kx,sv sx,.slice nu ny nC,.slice nD nE nG] 80) (w2.heap.size) rfl;have gQ:=aO (ah gL.o tn id);have HT3:=aO (HT2.o.trans tn (fun _ _ h=>h.elim));have gJ:=aO (gX.o.turn tn id (fun _ _=>id));have aBe:=aO hb3;clear tn hb3 gL;have HW3:=aO hW3;clear hW3;have fF:=aO (show eO nT 4 80 W3 (w.heap.size+1) (fun j=>w.heap.size+1<=j) (.slice (some ⟨w2.heap.size,0,none⟩) 1 1) [x]from by have h:=HW3.o;subst h;exact vT);have HQS:=aO hq0;have HFS:=aO hf0;clear vT hq0 hf0;go_wp2_with fail;have hW:=HW3.o;subst hW;clear HW3;go_loopw [3] (fun v3 wr=>∃(f:Nat) (l:List bZ) (q2:Pr Unit),eO nT 4 80 wr (w.heap.size+1) (fun j=>w.heap.size+1<=j) v3 l∧l≠[]∧av q2 (aj (qG typ f l) fun l=>aB (iT l))=Q∧(∀u ts,q2=.good u ts->ts.length<=f)∧l.length+qD q2<=8194∧Turn (fun j=>j=bp) w wr∧w.heap.size+1<=wr.heap.size∧eX wr bp B L d q2∧wr.heap[w.heap.size]? =some (.cells Z40 80 (0,0))) (fun _ wr=>xD wr bp)
 case atStart=>exact⟨f0,[x],q2,fF.o,by simp,HQS.o,HFS.o,by have:=gJ.o.sz;simp;omega,HT3.o,by omega,gJ.o,gQ.o⟩
 case round=>
  obtain⟨f,l,qr,hrow,hne,hq,hf,hlr,ht,hsw,hk,hr⟩:=hrel;have EO:=aO hrow;have rR:=aO hq;have FK:=aO hf;have xA:=aO hlr;have uR:=aO ht;have ni:=aO hk;have HRR:=aO hr;obtain⟨Al,cl,hvl,hcl,hml⟩:=hrow.shape;subst hvl;clear hrow hq hf hlr ht hk hr;have DZ:=aO (bE _ bp B L d qr ni.o [124]);go_wp2_with fail;refine(DZ.o).mono ?_;rintro e w4 ⟨rfl,tn,kn⟩;clear DZ;cases hA:qR (av qr (bD [124]))
  ·obtain⟨hs,hnn⟩:=aS hA;rw [hs]at kn;have HN:=aO hnn;have hs4:=tn.size;have gM:=aO (aN HRR.o tn);have aod:=aO (EO.o.turn aG tn (fun g hg e=>by have:=(EO.o.lt g hg).1;omega) (fun g _ h e=>by have h:=h;omega));have fU:=aO (uR.o.bC tn);have iW:=aO kn;clear tn kn HRR EO hs hnn hA;have jf:bq (av qr (aB (iT l))=Q):=aO (aez HN.o rR.o);obtain⟨ys,hy,hrr⟩:=aod.o;obtain⟨ta,l',rfl⟩:∃a l',l=a :: l':=by cases l with |nil=>exact absurd rfl hne |cons a l'=>exact⟨a,l',rfl⟩
   obtain⟨g0,c9,hg0,hgb,hgs,hc9,hm9⟩:=jo hy (by simp);injection hg0 with hg0 hg1 hg2;subst hg0 hg2;cases hrr with
   | @cons z0 y0 _ _ hz0 hx0 hrt=>
    obtain⟨k0,s0,Aa0,na0,ca0,Ab0,nb0,cb0,rfl⟩:=hx0.shape';have o0:=(aY hy rfl (i:=0) (u:=I k0) rfl).1;have o1:=(aY hy rfl (i:=1) (u:=sv s0) rfl).1;have o2:=(aY hy rfl (i:=2) (u:= .slice Aa0 na0 ca0) rfl).1;have o3:=(aY hy rfl (i:=3) (u:= .slice Ab0 nb0 cb0) rfl).1;have HZ0:=aO (hx0.mono (G:=fun j=>w.heap.size+1<=j) (fun _ _ h=>h.2));have hll:((ta :: l').length:Int)=(l'.length:Int)+1:=by simp
    clear hy hx0 hrt hz0 hne;cases l' with
    |nil=>
     simp only [List.length_nil]at*
     obtain⟨tX,tY,uF,uG,tZ⟩:=aW gM.o;have uf:=block_lt gM.o;obtain⟨W6,z8,hb6,tn,hs6⟩:=Ru (I k0) (sv s0) (.slice Aa0 na0 ca0) (.slice Ab0 nb0 cb0) gM.o;have aoe:=aO (HZ0.o.tu tn);have kM:=aO (fU.o.bC tn);have pW:=aO (iW.o.iH tn);have lI:=aO hb6;clear tn hb6 gM HZ0;have Dn:=aO z8;clear z8;go_wp2_with fail;have hW:=Dn.o;subst hW;clear Dn;refine bodyPost_ret (aL rfl rfl lI.o Tryz.underlying80 rfl) rfl ?_;exact bT.done jf.o kM.o ⟨_,rfl,(aoe.o.mono (fun g _ h=>by have h:=h;omega))⟩ pW.o
    |cons BA l2=>
     have hgt:¬((l2.length:Int)+1+1=1):=by omega
     obtain⟨xsu,NQ,NR⟩:=aod.o.sl aG;have KU1:=aO NQ;have KU2:=aO NR;clear NQ NR;obtain⟨tX,tY,uF,uG,tZ⟩:=aW gM.o;have uf:=block_lt gM.o;obtain⟨W7,KL,jA,tn,hs7⟩:=Ru (I 7) S0 Z (.slice (some ⟨g0,0,none⟩) (l2.length+1+1) cl) gM.o;have aof:=aO (KU1.o.turn tn (fun g _ h e=>by have h:=h;omega));have aog:=aO (aM aG tn (fun g _ h e=>by have h:=h;omega) KU2.o);have jl:=aO (fU.o.bC tn);have kC:=aO (iW.o.iH tn);have mR:=aO jA;clear tn jA gM KU1 KU2;have KM:=aO KL;clear KL;go_wp2_with fail;have hW:=KM.o;subst hW;clear KM;refine bodyPost_ret (aL rfl rfl mR.o Tryz.underlying80 rfl) rfl ?_;exact bT.done jf.o jl.o ⟨_,rfl,.mk (cZ.nil _ _ _) (aof.o.mono (fun g _ h=>by have h:=h;omega)) (lF (bI aG (fun g _ h=>by have h:=h;omega) aog.o))⟩ kC.o
  ·obtain⟨t7,r7,rfl,ht,hs⟩:=bf hA;rw [hs]at kn;have HY7:=aO ht;have hs7:=tn.size;have mR:=aO (aN HRR.o tn);have aoh:=aO (EO.o.turn aG tn (fun g hg e=>by have:=(EO.o.lt g hg).1;omega) (fun g _ h e=>by have h:=h;omega));have jl:=aO (uR.o.bC tn);have kC:=aO kn;clear tn kn HRR EO hs ht hA;obtain⟨f,rfl⟩:∃f2,f=f2+1:=⟨f - 1,by have:=FK.o _ _ rfl;simp at this;omega⟩
   have xL:bq (av (.good () r7) (aj (lK typ) fun a=>aj (qG typ f (l++[a])) fun l=>aB (iT l))=Q):=aO (aeA HY7.o rR.o);have wQ:=aO kC.o.wf;have H6:=aO (HPR _ bp B L _ kC.o);go_wp2_with fail;refine(H6.o).mono ?_;rintro e w9 ⟨tn,_,y,rfl,⟨z,rfl,hz⟩,hx,kn⟩;clear H6;obtain⟨ky,sy,nU,nV,nW,nZ,og,oh,rfl⟩:=hz.shape';obtain⟨q9,hqq⟩:∃qz,gF (av (.good () r7) (lK typ))=qz:=⟨_,rfl⟩
   have wX:=aO (bA xL.o hx);rw [hqq]at kn wX;have hsz:=He (ael hsf) (u:=()) wQ.o;rw [hqq]at hsz;have HSZ:=aO hsz;have BD:=aO tn;clear hsz;have TJ:=aO hz.iv;have Ba:=tn.size;have iw:=aO (aN mR.o tn);have j5:=aO (jl.o.bC tn);have kV:=aO kn;clear tn kn mR hqq hx hz;obtain⟨ys,hy,hrr⟩:=aoh.o;have hyl:ys.length=l.length*4:=hy.1;have Y3:=dS hy BD.o (fun g hg e=>by have:=(hy.lt g hg).1;omega);have HY:=aO hy;have HRW:=aO hrr;have HYW:=aO Y3;have X6:l.length<=8194:=by have:=xA.o;omega
   have hl5:w.heap.size+1<=w9.heap.size:=by omega
   clear hy hrr Y3;go_wp2_with (at_builtin;go_must (refine dR rfl (.tmp 15) (.tmp 17) _ rfl (w.heap.size+1) vI _ _ rfl rfl ((HYW.o.alloc (.cells #[.int .i64 ky,sv sy,.slice nU nV nW,.slice nZ og oh] 80)).alloc (.cells #[.int .i64 ky,sv sy,.slice nU nV nW,.slice nZ og oh] 80)) (mI (w9.alloc (.cells #[.int .i64 ky,sv sy,.slice nU nV nW,.slice nZ og oh] 80)) #[I ky,sv sy,.slice nU nV nW,.slice nZ og oh] 80 4 1 (w9.heap.size+1) (by simp) rfl (by decide)) (zo ky sy _ _ _ _ _ _) (by simp [maxLen];omega) (by simp;omega) (by simp;omega) (fun va wa nA dI nM iJ=>?_));obtain⟨A9,c9,rfl,_,_⟩:=gI dI;have jr:=aO dI;have G6:=aO nM;have rz:=aO iJ;clear dI nM iJ);have ta:=(Turn.alloc (fun j=>(Value.slice Al l.length cl).ownBlock=some j) w9 (.cells #[I ky,sv sy,.slice nU nV nW,.slice nZ og oh] 80)).trans (Turn.alloc (fun j=>(Value.slice Al l.length cl).ownBlock=some j) _ (.cells #[I ky,sv sy,.slice nU nV nW,.slice nZ og oh] 80)) (fun _ _ h=>h);have t9:=ta.trans (Turn.aZ G6.o (F:=fun j=>(Value.slice Al l.length cl).ownBlock=some j) (fun _ h=>h)) (fun _ _ h=>h);have iZ:=aoh.o.lt;have Ch:=eO.push aG (F:=fun j=>w.heap.size+1<=j) HY.o HRW.o BD.o (TJ.o.mono (fun g _ h=>h.1)) t9 (fun j _ h=>.inl h) (rz.o.imp id fun e=>⟨_,by simp;omega,e⟩) jr.o (by omega) (by omega) (fun j hj=>by omega);have Wq:=kV.o.turn t9 (fun e=>by have:=(iZ _ e).1;omega) (fun k hk e=>by have:=(iZ _ e).1;omega)
   refine⟨⟨f,_,q9,Ch,by simp,wX.o,(fun u ts e=>by have h1:ts.length<=r7.length:=(by have h:=HSZ.o;rwa [e]at h);have h2:r7.length+1<=f+1:=FK.o () (t7 :: r7) rfl;omega),(by have h1:=HSZ.o;have h2:l.length+(r7.length+1)<=8194:=xA.o;rw [List.length_append,List.length_singleton];omega),j5.o.trans t9 (fun i hi e=>by have:=(iZ i e).1;omega),(by have:=t9.size;omega),Wq,ah iw.o t9 (fun e=>by have:=(iZ _ e).1;omega)⟩,?_⟩;rw [Wq.gZ,ni.o.gZ];have h1:=HSZ.o;show qD _<(t7 :: r7).length;simp;omega
section
variable {α:Type}{R:World->(Nat->Prop)->List Value->α->Prop}{k:Nat}{e T:TypeId}{C:Value->Value->Array Value}{tb base:Nat}{l1:List Bt}{l2:List α}{v1 v2:Value}
structure yN (R:World->(Nat->Prop)->List Value->α->Prop) (k:Nat) (e T:TypeId) (C:Value->Value->Array Value) (tb base:Nat) (w:World) (l1:List Bt) (l2:List α) (v1 v2:Value):Prop where
 blk:w.heap[tb]? =some (.cells (C v1 v2) T (0,0))
 sZ:iq w base 9 v1 l1
 kid:eO R k e w base (fun j=>base<=j∧v1.ownBlock≠some j) v2 l2
 ne:∀g,v1.ownBlock=some g->v2.ownBlock≠some g
theorem yN.turn {G:Nat->Prop}{w w':World}(hR:uo R k)(h:yN R k e T C tb base w l1 l2 v1 v2)(t:Turn G w w')(h1:¬G tb)(h2:∀j,base<=j->j<w.heap.size->¬G j):yN R k e T C tb base w' l1 l2 v1 v2:=
 ⟨ah h.blk t h1,h.sZ.turn t (fun g hg=>h2 g (h.sZ.lt g hg).1 (h.sZ.lt g hg).2),h.kid.turn hR t (fun g hg=>h2 g (h.kid.lt g hg).1 (h.kid.lt g hg).2) (fun g hg hF=>h2 g hF.1 hg),h.ne⟩
theorem yN.name {w w6 w7:World}{i:Nat}{s:Bt}{v7:Value}(hR:uo R k)(h:yN R k e T C tb base w l1 l2 v1 v2)(htb:tb<base)(hbs:base<=w.heap.size)(hC:(C v1 v2).setIfInBounds i v7=C v7 v2)
  (t6:Turn (fun _=>False) w w6) (h7:iq w7 base 9 v7 (l1++[s])) (hg:w6.grownBy w7 v1.ownBlock) (hbk:v7.ownBlock=v1.ownBlock∨v7.ownBlock=some w6.heap.size):
  yN R k e T C tb base (w7.setCell ⟨tb,i,none⟩ v7) (l1++[s]) l2 v7 v2∧Turn (fun j=>v1.ownBlock=some j∨j=tb) w (w7.setCell ⟨tb,i,none⟩ v7):=by
 have t7:Turn (fun j=>v1.ownBlock=some j) w w7:=(t6.mono (G:=fun j=>v1.ownBlock=some j) (fun _ _ h=>h.elim)).trans (Turn.aZ hg (fun k h=>h));have t8:=ak w7 tb i v7;have hs:=t6.size;have hlt:=h.sZ.lt;have hk:=h.kid;have hkl:=hk.lt
 have k1:eO R k e w base (fun j=>(base<=j∧v1.ownBlock≠some j)∧v7.ownBlock≠some j) v2 l2:=hk.mono hR fun g hg h=>⟨h,fun e=>by
  rcases hbk with hb |hb
  ·rw [hb]at e;exact h.2 e
  ·rw [hb]at e;injection e with e;omega⟩
 have k7:=k1.turn hR t7 (fun g hg e=>h.ne g e hg) (fun g _ hg e=>hg.1.2 e);have k8:=k7.turn hR t8 (fun g hg e=>by have:=(hkl g hg).1;omega) (fun g _ hg e=>by have:=hg.1.1;omega);have hb:=heap_setCell_same _ _ i _ _ v7 (ah h.blk t7 (fun e=>by have:=(hlt _ e).1;omega));rw [hC]at hb;refine⟨⟨hb,h7.turn t8 (fun g hg e=>by have:=(h7.lt g hg).1;omega),k8.mono hR fun g _ h=>⟨h.1.1,h.2⟩,fun g e=>?_⟩,(t7.mono (G:=fun j=>v1.ownBlock=some j∨j=tb) fun _ _ h=>.inl h).trans t8 (fun _ _ h=>.inr h)⟩;rcases hbk with hb |hb
 ·rw [hb]at e;exact h.ne g e
 ·rw [hb]at e;injection e with e;intro e2;have:=(hkl g e2).2;omega
theorem eO.KN {w w7:World}{F F':Nat->Prop}{v v7:Value}{l:List α}{x:α}{z ys:List Value}{n7:Nat}(hR:uo R k)(h1:w.ownsRow base e k v l.length ys)(h2:fA (R w (tL F v)) k ys l)(hx:R w F' z x)
  (hF:∀j,j<w.heap.size->F' j->F j∧v.ownBlock≠some j) {G:Nat->Prop}(t7:Turn G w w7) (hG:∀j,j<w.heap.size->G j->v.ownBlock=some j∨¬F j) (hbk:v7.ownBlock=v.ownBlock∨∃m,w.heap.size<=m∧v7.ownBlock=some m)
  (h7:w7.ownsRow base e k v7 n7 (ys++z)) (hk:0<k):eO R k e w7 base F v7 (l++[x]):=by
 have hn:n7=(l++[x]).length:=by
  have e1:=h7.1;have e2:=h1.1;have e3:=hR.len hx;rw [List.length_append,e2,e3]at e1;rw [List.length_append,List.length_singleton];have:n7*k=(l.length+1)*k:=by rw [<-e1,Nat.add_mul,Nat.one_mul]
  exact Nat.eq_of_mul_eq_mul_right hk this
 subst hn;have hnew:∀j,j<w.heap.size->v.ownBlock≠some j->v7.ownBlock≠some j:=fun j hj hne e=>by
  rcases hbk with hb |⟨m,hm,hb⟩
  ·rw [hb]at e;exact hne e
  ·rw [hb]at e;injection e with e;omega
 have key:∀{z:List Value}{x:α},R w (fun j=>j<w.heap.size∧F j∧v.ownBlock≠some j) z x->R w7 (tL F v7) z x:=fun h=>
  hR.mono (hR.turn h t7 (fun j _ h e=>by rcases hG j h.1 e with e |e;exact h.2.2 e;exact e h.2.1)) fun j _ h=>⟨hnew j h.1 h.2.2,h.2.1⟩
 exact⟨_,h7,fA.app (EG (hR.len hx) (key (hR.mono hx fun j hj h=>⟨hj,hF j hj h⟩))) (h2.imp fun _ _ h=>key (hR.mono h fun j hj h=>⟨hj,h.2,h.1⟩))⟩
theorem yN.more {i:Nat}{w w6 w7:World}{F':Nat->Prop}{v7:Value}{z ys:List Value}{n7:Nat}{x:α}(hR:uo R k)(hk0:0<k)(h:yN R k e T C tb base w l1 l2 v1 v2)(htb:tb<base)(hC:(C v1 v2).setIfInBounds i v7=C v1 v7)
  (hx:R w F' z x) (hF:∀j,j<w.heap.size->F' j->base<=j∧v1.ownBlock≠some j∧v2.ownBlock≠some j) (t6:Turn (fun _=>False) w w6) (hy:w.ownsRow base e k v2 l2.length ys) (hr:fA (R w (tL (fun j=>base<=j∧v1.ownBlock≠some j) v2)) k ys l2)
  (hg:w6.grownBy w7 v2.ownBlock) (hbk:v7.ownBlock=v2.ownBlock∨v7.ownBlock=some w6.heap.size) (h7:w7.ownsRow base e k v7 n7 (ys++z)):
  yN R k e T C tb base (w7.setCell ⟨tb,i,none⟩ v7) l1 (l2++[x]) v1 v7∧Turn (fun j=>v2.ownBlock=some j∨j=tb) w (w7.setCell ⟨tb,i,none⟩ v7):=by
 have tg:Turn (fun j=>v2.ownBlock=some j) w w7:=(t6.mono (G:=fun j=>v2.ownBlock=some j) (fun _ _ h=>h.elim)).trans (Turn.aZ hg (fun k h=>h));have ts:=ak w7 tb i v7;have hlt:=h.sZ.lt;have hkl:=h.kid.lt;have hs6:=t6.size;have t8:Turn (fun j=>v2.ownBlock=some j∨j=tb) w (w7.setCell ⟨tb,i,none⟩ v7):=(tg.mono (G:=fun j=>v2.ownBlock=some j∨j=tb) fun _ _ h=>.inl h).trans ts (fun _ _ h=>.inr h);have hb:=heap_setCell_same _ _ i _ _ v7 (ah h.blk tg (fun e=>by have:=(hkl _ e).1;omega));rw [hC]at hb;have h8:(w7.setCell ⟨tb,i,none⟩ v7).ownsRow base e k v7 n7 (ys++z):=dS h7 ts (fun g hg e=>by have:=(h7.lt g hg).1;omega);refine⟨⟨hb,h.sZ.turn t8 (fun g hg e=>?_),?_,fun g e=>?_⟩,t8⟩
 ·rcases e with e |e
  ·exact h.ne g hg e
  ·have:=(hlt g hg).1;omega
 ·exact eO.KN hR hy hr hx (fun j hj h=>⟨⟨(hF j hj h).1,(hF j hj h).2.1⟩,(hF j hj h).2.2⟩) t8 (fun j _ e=>by
   rcases e with e |e
   ·exact .inl e
   ·exact .inr fun h=>by have:=h.1;omega) (hbk.imp id fun e=>⟨_,hs6,e⟩) h8 hk0
 ·have hg1:=(hlt g e).2;rcases hbk with hb |hb
  ·rw [hb];exact h.ne g e
  ·rw [hb];intro e2;injection e2 with e2;omega
end
theorem jv {α β:Type}(a:α)(f:α->Ps β):aj (aB a) f=f a:=rfl
theorem zx {α β:Type}{one:Ps α}{q:Pr Unit}{f:Nat}{l:List α}{g:List α->Ps β}{R:Pr β}(h:zK q [44])(hq:av q (aj (pF one f l) g)=R):av q (g l)=R:=by
 cases f with
 |zero=>exact hq
 |succ f=>rw [pF,eZ]at hq;exact o8 h hq
theorem aeC {α β:Type}{one:Ps α}{t:aH}{r:List aH}{f:Nat}{l:List α}{g:List α->Ps β}{R:Pr β}(h:kU t [44]=true)(hq:av (.good () (t :: r)) (aj (pF one (f+1) l) g)=R):
  av (.good () r) (aj one fun a=>aj (pF one f (l++[a])) g)=R:=by
 rw [pF,eZ]at hq;have:=oZ h hq;rwa [if_pos rfl,eZ]at this
def RB {α β:Type}(one:Ps α)(l:List α)(g:List α->Ps β)(R:Pr β)(q:Pr Unit):Prop:=∃f,av q (aj one fun a=>aj (pF one f (l++[a])) g)=R∧qD (gF (av q one))<=f
theorem vU {α β:Type}{one:Ps α}{q:Pr Unit}{g:List α->Ps β}{R:Pr β}(hq:av q (aj (gU one) g)=R):RB one [] g R q:=by
 refine⟨qD (gF (av q one)),?_,Nat.le_refl _⟩;rw [<-hq];unfold gU;rw [eZ,AQ,AQ];rcases h:av q one with g |⟨a,ts⟩ <;> rfl
theorem vV {α β:Type}{one:Ps α}{t:aH}{r:List aH}{f:Nat}{l:List α}{g:List α->Ps β}{R:Pr β}(hsf:Sf one)(hw:Wf r)(h:kU t [44]=true)(hf:(t :: r).length<=f)(hq:av (.good () (t :: r)) (aj (pF one f l) g)=R):RB one l g R (.good () r):=by
 obtain⟨f,rfl⟩:∃f2,f=f2+1:=⟨f - 1,by simp at hf;omega⟩
 exact⟨f,aeC h hq,by have:=He hsf (u:=()) hw;simp at hf;omega⟩
end Go.Proofs.YtncnnedlgofccaaGreatDoor
