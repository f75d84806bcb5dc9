/- FK, FL, FM -/
import Derived.Test.YtfgjkmipfikooaaGreatDoorTEQ
import Derived.Test.YtfgjkmipfikooaaGreatDoorTE06
import Derived.Test.YtfgjkmipfikooaaGreatDoorTE01
set_option linter.unusedSimpArgs false
set_option linter.unusedVariables false
set_option maxRecDepth 100000
set_option maxHeartbeats 8000000
namespace Go.Proofs.YtfgjkmipfikooaaGreatDoor
open Go.RowKit
def z8 (d:Int)(typ:Ps bS):Prop:=∀(w:World) (bp B:Nat) (ts:List aI),bX w bp B ts d->
 Calls Tryz.prog 54 #[.pointer (some ⟨bp,0,none⟩)] w (aL (PTy w.heap.size) bp B d w (typ ts))
structure nR (pb tb base bp:Nat) (w:World) (l1:List Bt) (l2:List bS) (v1 v2:Value):Prop where
 box:w.heap[pb]? =some (.cells #[.pointer (some ⟨bp,0,none⟩)] 91 (0,0))
 blk:w.heap[tb]? =some (.cells #[.int .i64 5,sv [],v1,v2] 57 (0,0))
 qD:gZ w base 9 v1 l1
 kid:fH mJ 4 57 w base (fun j=>base<=j∧v1.ownBlock≠some j) v2 l2
 ne:∀g,v1.ownBlock=some g->v2.ownBlock≠some g
structure Ae (pb tb base bp:Nat) (w:World):Prop where
 Jb:bp<pb
 LC:bp<tb
 Pm:pb<base
 Ur:tb<base
 ne:pb≠tb
 OC:base<=w.heap.size
theorem Ae.turn {pb tb base bp:Nat}{w w':World}{G:Nat->Prop}(h:Ae pb tb base bp w)(t:Turn G w w'):Ae pb tb base bp w':={ h with OC:=Nat.le_trans h.OC t.size}
theorem nR.turn {pb tb base bp:Nat}{w w':World}{l1:List Bt}{l2:List bS}{v1 v2:Value}(h:nR pb tb base bp w l1 l2 v1 v2)(p:Ae pb tb base bp w)(t:Turn (fun k=>k=bp) w w'):nR pb tb base bp w' l1 l2 v1 v2:=by
 have:=p.Jb;have:=p.LC;have:=p.Pm;have:=p.Ur;exact⟨ah h.box t (by omega),ah h.blk t (by omega),h.qD.turn t (fun g hg e=>by have:=(h.qD.lt g hg).1;omega),h.kid.turn aJ t (fun g hg e=>by have:=(h.kid.lt g hg).1;omega) (fun g _ hg e=>by have:=hg.1;omega),h.ne⟩
theorem nR.name {pb tb base bp:Nat}{w w7:World}{l1:List Bt}{l2:List bS}{v1 v2 v7:Value}{o:Obj}{s:Bt}(h:nR pb tb base bp w l1 l2 v1 v2)(p:Ae pb tb base bp w)
  (h7:gZ w7 base 9 v7 (l1++[s])) (hg:(w.alloc o).grownBy w7 v1.ownBlock) (hbk:v7.ownBlock=v1.ownBlock∨v7.ownBlock=some (w.alloc o).heap.size):
  nR pb tb base bp (w7.setCell ⟨tb,2,none⟩ v7) (l1++[s]) l2 v7 v2∧Turn (fun j=>v1.ownBlock=some j∨j=tb) w (w7.setCell ⟨tb,2,none⟩ v7):=by
 have:=p.Pm;have:=p.Ur;have hne:=p.ne;have hbs:=p.OC;have t7:Turn (fun j=>v1.ownBlock=some j) w w7:=(Turn.alloc _ _ _).trans (Turn.bB hg (fun k h=>h)) (fun _ _ h=>h);have t8:=ak w7 tb 2 v7;have hs:(w.alloc o).heap.size=w.heap.size+1:=by simp
 have hlt:=h.qD.lt;have hk:=h.kid;have hkl:=hk.lt
 have k1:fH mJ 4 57 w base (fun j=>(base<=j∧v1.ownBlock≠some j)∧v7.ownBlock≠some j) v2 l2:=hk.mono aJ fun g hg h=>⟨h,fun e=>by
  rcases hbk with hb |hb
  ·rw [hb]at e;exact h.2 e
  ·rw [hb,hs]at e;injection e with e;omega⟩
 have k7:=k1.turn aJ t7 (fun g hg e=>h.ne g e hg) (fun g _ hg e=>hg.1.2 e);have k8:=k7.turn aJ t8 (fun g hg e=>by have:=(hkl g hg).1;omega) (fun g _ hg e=>by have:=hg.1.1;omega);refine⟨⟨ah (ah h.box t7 (fun e=>by have:=(hlt _ e).1;omega)) t8 hne,heap_setCell_same _ _ 2 _ _ _ (ah h.blk t7 (fun e=>by have:=(hlt _ e).1;omega)),h7.turn t8 (fun g hg e=>by have:=(h7.lt g hg).1;omega),k8.mono aJ fun g _ h=>⟨h.1.1,h.2⟩,fun g e=>?_⟩,(t7.mono (G:=fun j=>v1.ownBlock=some j∨j=tb) fun _ _ h=>.inl h).trans t8 (fun _ _ h=>.inr h)⟩;rcases hbk with hb |hb
 ·rw [hb]at e;exact h.ne g e
 ·rw [hb,hs]at e;injection e with e;intro e2;have:=(hkl g e2).2;omega
theorem nR.type {pb tb base bp:Nat}{w w6 w8:World}{l1:List Bt}{l2:List bS}{v1 v2 v7:Value}{z:List Value}{x:bS}(h:nR pb tb base bp w l1 l2 v1 v2)(p:Ae pb tb base bp w)
  (t:Turn (fun k=>k=bp) w w6) (hx:mJ w6 (fun j=>w.heap.size<=j) z x) (t8:Turn (fun j=>v2.ownBlock=some j∨j=tb) w6 w8) {ys:List Value}{n7:Nat}(hy:w.ownsRow base 57 4 v2 l2.length ys) (hr:fC (mJ w (qK (fun j=>base<=j∧v1.ownBlock≠some j) v2)) 4 ys l2)
  (h7:w8.ownsRow base 57 4 v7 n7 (ys++z)) (hbk:v7.ownBlock=v2.ownBlock∨∃m,w6.heap.size<=m∧v7.ownBlock=some m) (hb:w8.heap[tb]? =some (.cells #[.int .i64 5,sv [],v1,v7] 57 (0,0))):
  nR pb tb base bp w8 l1 (l2++[x]) v1 v7:=by
 have:=p.Pm;have:=p.Ur;have hne:=p.ne;have hbs:=p.OC;have:=p.Jb;have:=p.LC;have h6:=h.turn p t;have hlt:=h.qD.lt;have hkl:=h.kid.lt;have hs6:=t.size;refine⟨ah h6.box t8 (fun e=>?_),hb,h6.qD.turn t8 (fun g hg e=>?_),?_,fun g e=>?_⟩
 ·rcases e with e |e
  ·have:=(hkl _ e).1;omega
  ·exact hne e
 ·rcases e with e |e
  ·exact h.ne g hg e
  ·have:=(hlt g hg).1;omega
 ·exact fH.push aJ (F:=fun j=>base<=j∧v1.ownBlock≠some j) hy hr t hx t8 (fun j _ e=>by
   rcases e with e |e
   ·exact .inl e
   ·exact .inr ⟨fun h=>by have:=h.1;omega,by omega⟩) hbk h7 (by omega) (fun h=>by have:=h.1;omega) (fun j hj=>⟨by omega,fun e=>by have:=(hlt j e).2;omega⟩)
 ·have hg1:=(hlt g e).2;rcases hbk with hb |⟨m,hm,hb⟩
  ·rw [hb];exact h.ne g e
  ·rw [hb];intro e2;injection e2 with e2;omega
def Ri (pb tb base bp:Nat)(w:World)(l:List (Bt ×bS)):Prop:=∃v1 v2,nR pb tb base bp w (l.map (·.1)) (l.map (·.2)) v1 v2
theorem nR.ady {pb tb base bp g:Nat}{w w6 w7:World}{l1:List Bt}{l2:List bS}{v1 v2 v7:Value}{z:List Value}{x:bS}(h:nR pb tb base bp w l1 l2 v1 v2)(p:Ae pb tb base bp w)
  (t:Turn (fun k=>k=bp) w w6) (hx:mJ w6 (fun j=>w.heap.size<=j) z x) {ys zs:List Value}{n7:Nat}(hy:w.ownsRow base 57 4 v2 l2.length ys) (hr:fC (mJ w (qK (fun j=>base<=j∧v1.ownBlock≠some j) v2)) 4 ys l2) (hzs:zs.length=4)
  (h7:w7.ownsRow base 57 4 v7 n7 (ys++zs)) (hg:w6.grownBy w7 v2.ownBlock) (hbk:v7.ownBlock=v2.ownBlock∨v7.ownBlock=some w6.heap.size) (hv:v7.ownBlock=some g):
  (nR pb tb base bp ((nQ w7 g (l2.length*4) z).setCell ⟨tb,3,none⟩ v7) l1 (l2++[x]) v1 v7∧Turn (fun k=>k=bp∨tb<=k) w ((nQ w7 g (l2.length*4) z).setCell ⟨tb,3,none⟩ v7))∧
  (nR pb tb base bp (nQ (w7.setCell ⟨tb,3,none⟩ v7) g (l2.length*4) z) l1 (l2++[x]) v1 v7∧Turn (fun k=>k=bp∨tb<=k) w (nQ (w7.setCell ⟨tb,3,none⟩ v7) g (l2.length*4) z)):=by
 have:=p.Pm;have q1:=p.Ur;have hne:=p.ne;have hbs:=p.OC;have:=p.Jb;have:=p.LC;have hz:z.length=4:=by
  obtain⟨_,_,_,_,_,_,_,_,rfl⟩:=hx.shape';rfl
 have hyl:ys.length=l2.length*4:=hy.1;have hs6:=t.size;have jB:=h7.lt g hv;have h6:=h.turn p t;have tg:=Turn.bB hg (F:=fun j=>v2.ownBlock=some j) (fun k h=>h);have hkl:=h.kid.lt;have hgn:∀j,j<w6.heap.size->j=g->v2.ownBlock=some j:=fun j hj e=>by
  subst e;rcases hbk with hb |hb
  ·rw [<-hb];exact hv
  ·rw [hb]at hv;injection hv with hv;omega
 have hbk':v7.ownBlock=v2.ownBlock∨∃m,w6.heap.size<=m∧v7.ownBlock=some m:=hbk.imp id fun e=>⟨_,Nat.le_refl _,e⟩
 have iU:=ah h6.blk tg (fun e=>by have:=(hkl _ e).1;omega);have tp:=fun(w:World)=>fU g z w (l2.length*4);have ts:=fun(w:World)=>ak w tb 3 v7
 have tA:Turn (fun j=>v2.ownBlock=some j∨j=tb) w6 ((nQ w7 g (l2.length*4) z).setCell ⟨tb,3,none⟩ v7):=
  ((tg.mono (G:=fun j=>v2.ownBlock=some j∨j=tb) fun _ _ h=>.inl h).trans (tp w7) (fun i hi e=>.inl (hgn i hi e))).trans (ts _) (fun _ _ h=>.inr h)
 have tB:Turn (fun j=>v2.ownBlock=some j∨j=tb) w6 (nQ (w7.setCell ⟨tb,3,none⟩ v7) g (l2.length*4) z):=
  ((tg.mono (G:=fun j=>v2.ownBlock=some j∨j=tb) fun _ _ h=>.inl h).trans (ts _) (fun _ _ h=>.inr h)).trans (tp _) (fun i hi e=>.inl (hgn i hi e))
 have hw:∀w8,Turn (fun j=>v2.ownBlock=some j∨j=tb) w6 w8->Turn (fun k=>k=bp∨tb<=k) w w8:=fun w8 t8=>(t.mono (G:=fun k=>k=bp∨tb<=k) fun _ _ h=>.inl h).trans t8 (fun i _ e=>by
  rcases e with e |e
  ·have:=(hkl i e).1;exact .inr (by omega)
  ·exact .inr (by omega))
 have hyA:((nQ w7 g (l2.length*4) z).setCell ⟨tb,3,none⟩ v7).ownsRow base 57 4 v7 n7 (ys++z):=dN (Eo h7 hv (by omega) hyl) (ts _) (fun k hk e=>by rw [hv]at hk;injection hk with hk;omega);have hyB:(nQ (w7.setCell ⟨tb,3,none⟩ v7) g (l2.length*4) z).ownsRow base 57 4 v7 n7 (ys++z):=Eo (dN h7 (ts _) (fun k hk e=>by rw [hv]at hk;injection hk with hk;omega)) hv (by omega) hyl;exact⟨⟨h.type p t hx tA hy hr hyA hbk' (heap_setCell_same _ _ 3 _ _ _ (ah iU (tp _) (by omega))),hw _ tA⟩,⟨h.type p t hx tB hy hr hyB hbk' (ah (heap_setCell_same _ _ 3 _ _ _ iU) (tp _) (by omega)),hw _ tB⟩⟩
theorem Us (d:Int)(typ:Ps bS)(qE:z8 d typ)(w:World)(bp B pb tb base:Nat)(ts:List aI)(l:List (Bt ×bS))(hl:l.length<=8193)(h:bX w bp B ts d)(hI:Ri pb tb base bp w l)(hP:Ae pb tb base bp w):
  Calls Tryz.prog 167 #[.pointer (some ⟨tb,0,none⟩),.pointer (some ⟨pb,0,none⟩)] w (dX (Ri pb tb base bp) (fun k=>k=bp∨tb<=k) bp B d w (sU (kM typ) l ts)):=by
 obtain⟨v1,v2,hH⟩:=hI;have p1:=hP.Jb;have p2:=hP.LC;have p3:=hP.Pm;have p4:=hP.Ur;have p5:=hP.ne;have p6:=hP.OC;have HN:=aZ (gL w.drew bp B ts d h);have hbx:=cZ hH.box;obtain⟨t0,t1,t2,t3,tz⟩:=aX hH.blk;obtain⟨A1,c1,hv1,hn1,hm1⟩:=hH.qD.ss.open_;obtain⟨A2,c2,hv2,hn2,hm2⟩:=hH.kid.shape;simp only [List.length_map]at hv1 hn1 hv2 hn2;subst hv1 hv2;have HH:=aZ hH;have HP:=aZ hP;obtain⟨Q,hQ⟩:∃Q,sU (kM typ) l ts=Q:=⟨_,rfl⟩
 rw [hQ];have HQ:bN (aj (kM typ) (fun x=>aF (l++[x])) ts=Q):=aZ hQ;clear hH hP h hm1 hm2 hQ;have P0:=aZ (fun(w':World) (h:Turn (fun j=>j=bp∨base<=j) w w')=>aN hbx h (by omega));have P2:=aZ (fun(w':World) (h:Turn (fun j=>j=bp∨base<=j) w w')=>aN t2 h (by omega));have HD0:bN (Turn (fun j=>j=bp∨base<=j) w w.drew):=aZ ⟨rfl,rfl,rfl,Nat.le_refl _,fun _ _ _=>rfl⟩;have nC:bN (Turn (fun j=>j=bp) w w.drew):=aZ ⟨rfl,rfl,rfl,Nat.le_refl _,fun _ _ _=>rfl⟩;go_enter Tryz.func167,Tryz.ntmps167;go_wp2_with fail;refine bP (S:=fun w'=>Turn (fun j=>j=bp∨base<=j) w w') (x:=9) (by kernel_rfl) ?_
 try simp only [Act.put,sq]
 refine tx 0 (.pointer (some ⟨tb,2,none⟩)) HD0.o ?_;refine jG 1 (.slice A1 l.length c1) P2.o HD0.o ?_;refine jG 2 (.pointer (some ⟨bp,0,none⟩)) P0.o HD0.o ?_;refine tx 3 (.pointer (some ⟨bp,0,none⟩)) HD0.o ?_;refine tx 4 (.pointer (some ⟨bp,0,none⟩)) HD0.o ?_;refine ay (rs:=[5]) (by kernel_rfl) (by simp) ?_;refine av.cons rfl (fun K hK=>?_) (av.nil);go_simp;refine(HN.o).mono ?_;rintro e w2 h2;rcases hq:nameP ts with g |⟨s,r⟩
 ·obtain⟨rfl,t2,b2⟩:=h2.bY hq;have HT:=aZ (((nC.o.trans t2 (fun _ _ h=>h)).mono (G:=fun k=>k=bp∨tb<=k) (fun _ _ h=>.inl h)));have HB:=aZ b2;have mM:=aZ (HQ.o.symm.trans (aC (aC hq)));clear h2 t2 b2 hq;exact⟨rfl,dX.fail mM.o HT.o HB.o⟩
 ·obtain⟨v,rfl,t2w,rfl,k2⟩:=h2.aQ hq;have zD:=nC.o.trans t2w (fun _ _ h=>h);have HT2:=aZ (zD.mono (G:=fun j=>j=bp∨base<=j) (fun _ _ h=>.inl h));have agH:=aZ zD;have gW:=aZ k2;have WS:=aZ (HH.o.turn HP.o zD);have OD:=aZ (HP.o.turn zD);have mM:bN (aj (aj (aH [58]) fun _=>aj typ fun t=>aF (s,t)) (fun x=>aF (l++[x])) r=Q):=aZ ((iC (p:=nameP) hq).symm.trans HQ.o);clear h2 t2w k2 hq zD;refine hK.out _ _ HT2.o ?_;clear hK K
  try simp only [Act.put,sq]
  refine ay (rs:=[6]) (by kernel_rfl) (by simp) ?_;refine av.cons rfl (fun K hK=>?_) (av.nil);go_simp;have HT3:=aZ (HT2.o.trans (Turn.alloc (fun j=>j=bp∨base<=j) w2 (.cells #[sv s] 9)) (fun _ _ h=>h));refine hK.out _ _ HT3.o ?_;clear hK K
  try simp only [Act.put,sq]
  refine ay (rs:=[7]) (by kernel_rfl) (by simp) ?_;refine av.cons rfl (fun K hK=>?_) (av.nil);have eu:=aZ (WS.o.qD.alloc (.cells #[sv s] 9));have DU:=aZ (yU w2 s 9);have hlen:(pU (l.map (·.1))).length=l.length:=by simp [pU]
  refine fT rfl (.tmp 3) (.tmp 8) _ rfl base wC (.slice A1 l.length c1) (.slice (some ⟨w2.heap.size,0,none⟩) 1 1) rfl rfl eu.o.row DU.o (xE _) (by simp [pU,maxLen];omega) (by simp [pU];omega) (by have:=OD.o.OC;simp;omega) (fun v7 w7 n7 aT jB gQ=>?_);obtain⟨A7,c7,rfl,_,_⟩:=iK aT;obtain⟨hH8,ht8⟩:=WS.o.name OD.o (o:= .cells #[sv s] 9) (s:=s) (w7:=w7) ⟨n7,by rw [ni];exact aT⟩ jB gQ;have Pn:=aZ hH8;have mh:=aZ ht8;have iX:=aZ (HT3.o.trans (Turn.bB jB (F:=fun j=>j=bp∨base<=j) (fun k e=>.inr (eu.o.lt k e).1)) (fun _ _ h=>h));have t7:w7.cell? ⟨tb,2,none⟩=some (.slice A1 l.length c1):=P2.o _ iX.o;have z7:∀i,w7.frozen? ⟨tb,i,none⟩=false:=fun i=>by
   have hb:=ah (ah WS.o.blk (Turn.alloc (fun _=>False) w2 (.cells #[sv s] 9)) id) (Turn.bB jB (F:=fun j=>base<=j) (fun k e=>(eu.o.lt k e).1)) (by omega);exact frozen_of_row _ _ _ _ _ hb
  clear hH8 ht8 aT jB gQ hlen;refine hK.out _ _ iX.o ?_;clear hK K
  try simp only [Act.put,sq]
  refine tx 8 (.pointer (some ⟨tb,2,none⟩)) iX.o ?_;refine ay (rs:=[9]) (by kernel_rfl) (by simp) ?_;refine av.past rfl (by kernel_rfl) (fun K hK=>?_) (av.nil);go_simp;refine hK.out _ _ ?_;clear hK K
  try simp only [Act.put,sq]
  refine aR (by kernel_rfl) ?_ _;have WE:=OD.o.turn mh.o
  have vE:=gW.o.turn mh.o (fun e=>by rcases e with e |e;(have:=(WS.o.qD.lt _ e).1;omega);omega) (fun k hk e=>by
   have:=gW.o.1;rcases e with e |e
   ·have:=(WS.o.qD.lt _ e).1;omega
   ·omega)
  have Rj:=aZ ((agH.o.mono (G:=fun k=>k=bp∨tb<=k) (fun _ _ h=>.inl h)).trans mh.o (fun i _ e=>by
   rcases e with e |e
   ·have:=(WS.o.qD.lt i e).1;exact .inr (by omega)
   ·exact .inr (by omega)))
  have Fg:=aZ WE;have qF:=aZ vE;have HW:=aZ (fF _ bp B r d vE [58] 9 _ rfl);generalize w7.setCell ⟨tb,2,none⟩ _=w8 at*
  have ajM:=cZ Pn.o.box;clear WE vE iX mh t7 z7 HT3 DU eu HT2 WS OD gW P0 P2 hbx t0 t1 t2 t3 tz;go_wp2_with fail;refine(HW.o).mono ?_;rintro e w9 h9;rcases hq:aH [58] r with g |⟨u,r9⟩
  ·obtain⟨rfl,t9,b9⟩:=h9.bY hq;have HT:=aZ (Rj.o.trans t9 (fun _ _ h=>.inl h));have HB:=aZ b9;have jI:=aZ (mM.o.symm.trans (aC (aC hq)));clear h9 t9 b9 hq;go_wp2_with fail;exact⟨rfl,dX.fail jI.o HT.o HB.o⟩
  ·obtain⟨v,rfl,t9,-,k9⟩:=h9.aQ hq;have hH9:=Pn.o.turn Fg.o t9;have HH9:=aZ hH9;have HP9:=aZ (Fg.o.turn t9);have lV:=aZ (Rj.o.trans t9 (fun _ _ h=>.inl h));have mO:=aZ k9;have jI:bN (aj (aj typ fun t=>aF (s,t)) (fun x=>aF (l++[x])) r9=Q):=aZ ((iC (p:=aH [58]) hq).symm.trans mM.o);have ajO:=cZ hH9.box;obtain⟨s0,s1,s2,s3,sz⟩:=aX hH9.blk;have P0:=aZ (fun(w':World) (h:Turn (fun j=>j=bp∨base<=j) w9 w')=>aN ajO h (by omega));have P3:=aZ (fun(w':World) (h:Turn (fun j=>j=bp∨base<=j) w9 w')=>aN s3 h (by omega));have HD0:bN (Turn (fun j=>j=bp∨base<=j) w9 w9.drew):=aZ ⟨rfl,rfl,rfl,Nat.le_refl _,fun _ _ _=>rfl⟩;have nC:bN (Turn (fun j=>j=bp) w9 w9.drew):=aZ ⟨rfl,rfl,rfl,Nat.le_refl _,fun _ _ _=>rfl⟩;clear h9 t9 k9 hq hH9 ajM ajO s0 s1 s2 s3 sz;go_wp2_with fail;refine bP (S:=fun w'=>Turn (fun j=>j=bp∨base<=j) w9 w') (x:=10) (by kernel_rfl) ?_
   try simp only [Act.put,sq]
   refine tx 0 (.pointer (some ⟨tb,3,none⟩)) HD0.o ?_;refine jG 1 (.slice A2 l.length c2) P3.o HD0.o ?_;refine jG 2 (.pointer (some ⟨bp,0,none⟩)) P0.o HD0.o ?_;refine tx 4 (.int .i64 l.length) HD0.o ?_;refine ay (rs:=[3,5]) (by kernel_rfl) (by simp) ?_;refine av.cons rfl (fun K hK=>?_) (av.cons rfl (fun K hK=>?_) av.nil)
   ·have oP:=nC;have Ic:=aZ (qE w9.drew bp B r9 mO.o);go_simp;refine(Ic.o).mono ?_;rintro e vC h10;rcases hq:typ r9 with g |⟨x,sW⟩
    ·obtain⟨rfl,t10,b10⟩:=h10.bY hq;have HT:=aZ (lV.o.trans (oP.o.trans t10 (fun _ _ h=>h)) (fun _ _ h=>.inl h));have HB:=aZ b10;have iq:=aZ (jI.o.symm.trans (aC (aC hq)));clear h10 t10 b10 hq;exact⟨rfl,dX.fail iq.o HT.o HB.o⟩
    ·obtain⟨v,rfl,t10,⟨z,rfl,hz⟩,k10⟩:=h10.aQ hq;obtain⟨kz,sz,qh,qj,ql,qm,qo,qp,rfl⟩:=hz.shape';have iW:=aZ (oP.o.trans t10 (fun _ _ h=>h));have zh:=aZ (iW.o.mono (G:=fun j=>j=bp∨base<=j) (fun _ _ h=>.inl h));have lK:=aZ k10;have iq:bN (Pr.good (l++[(s,x)]) sW=Q):=aZ ((iC (p:=typ) hq).symm.trans jI.o);have HZ:=aZ (hz.mono (G:=fun j=>w9.heap.size<=j) (fun _ _ h=>Nat.le_trans oP.o.size h));clear h10 t10 k10 hq hz;refine hK.out _ _ zh.o ?_;clear hK K
     try simp only [Act.put,sq]
     refine ay (rs:=[5]) (by kernel_rfl) (by simp) ?_;refine av.cons rfl (fun K hK=>?_) (av.nil);go_simp;have lM:=aZ (iW.o.trans (Turn.alloc (fun j=>j=bp) vC (.cells #[.int .i64 0,.string ⟨#[]⟩,.slice none 0 0,.slice none 0 0] 57)) (fun _ _ h=>h));have Ut:=aZ (lM.o.mono (G:=fun j=>j=bp∨base<=j) (fun _ _ h=>.inl h));have Po:=aZ (HZ.o.turn (Turn.alloc (fun _=>False) vC (.cells #[.int .i64 0,.string ⟨#[]⟩,.slice none 0 0,.slice none 0 0] 57)) (fun _ _ _=>id));have uM:=aZ (lK.o.below (new1 vC (.cells #[.int .i64 0,.string ⟨#[]⟩,.slice none 0 0,.slice none 0 0] 57)));have HSL:=aZ (gX vC #[.int .i64 0,.string ⟨#[]⟩,.slice none 0 0,.slice none 0 0] 57 4 1 rfl (by decide));refine hK.out _ _ Ut.o ?_;clear hK K
     try simp only [Act.put,sq]
     refine ay (rs:=[6]) (by kernel_rfl) (by simp) ?_;refine av.cons rfl (fun K hK=>?_) (av.nil);obtain⟨ys,hy,hr⟩:=HH9.o.kid;have hyl:ys.length=l.length*4:=by have:=hy.1;simpa using this
     have eu:=aZ (dN hy lM.o (fun g hg e=>by have:=(hy.lt g hg).1;omega));refine fT rfl (.tmp 17) (.tmp 21) _ rfl base vD (.slice A2 l.length c2) _ rfl rfl eu.o HSL.o Ep (by simp [maxLen];omega) (by simp;omega) (by have:=HP9.o.OC;have:=lM.o.size;omega) (fun v7 w7 n7 aT jB gQ=>?_);have Jc:n7=l.length+1:=by have:=aT.1;rw [List.length_append,hyl]at this;simp at this;omega
     subst Jc;obtain⟨g7,c7,rfl,hgb,hgs,hc7,hm7⟩:=iM aT (by omega);have he:=HH9.o.ady HP9.o lM.o Po.o hy hr (by rfl) aT jB gQ rfl;simp only [List.length_map]at he;have HE:=aZ he;have ko:=aZ ((lM.o.mono (G:=fun j=>j=bp∨base<=j) (fun _ _ h=>.inl h)).trans (Turn.bB jB (F:=fun j=>j=bp∨base<=j) (fun k e=>.inr (hy.lt k e).1)) (fun _ _ h=>h));have kr:=aZ (uM.o.turn (Turn.bB jB (F:=fun j=>base<=j) (fun k e=>(hy.lt k e).1)) (by omega) (fun k hk e=>by have:=uM.o.1;omega));have iU:w7.heap[tb]? =some (.cells #[.int .i64 5,sv [],_,.slice A2 l.length c2] 57 (0,0)):=ah HH9.o.blk ko.o (by omega);obtain⟨e0,e1,e2,e3,ez⟩:=aX iU;have o0:=aW aT rfl (i:=l.length*4) (u:= .int .i64 0) (by rw [List.getElem?_append_right (by omega),hyl,Nat.sub_self];rfl);have o1:=aW aT rfl (i:=l.length*4+1) (u:= .string ⟨#[]⟩) (by rw [List.getElem?_append_right (by omega),hyl,Nat.add_sub_cancel_left];rfl);have o2:=aW aT rfl (i:=l.length*4+2) (u:= .slice none 0 0) (by rw [List.getElem?_append_right (by omega),hyl,Nat.add_sub_cancel_left];rfl);have o3:=aW aT rfl (i:=l.length*4+3) (u:= .slice none 0 0) (by rw [List.getElem?_append_right (by omega),hyl,Nat.add_sub_cancel_left];rfl);obtain⟨o0,q0⟩:=o0;obtain⟨o1,q1⟩:=o1;obtain⟨o2,q2⟩:=o2;obtain⟨o3,q3⟩:=o3;have hne1:¬g7=tb:=by omega
     have hne2:¬tb=g7:=by omega
     clear he aT jB gQ iU hy hr e0 e1 e2;refine hK.out _ _ ko.o ?_;clear hK K
     try simp only [Act.put,sq]
     refine tt 7 (.pointer (some ⟨g7,l.length*4,none⟩)) (fun _=>ko.o) (hy:=by intro w' hSw;go_simp <;> (intro h;omega)) ?_;refine tt 9 (.pointer (some ⟨tb,3,none⟩)) (fun _=>ko.o) ?_;refine ay (rs:=[8,10]) (by kernel_rfl) (by simp) ?_;refine av.cons rfl (fun K hK=>?_) (av.past rfl (by kernel_rfl) (fun K hK=>?_) av.nil)
     ·go_simp;have vP:=aZ (ko.o.trans (fU g7 [.int .i64 kz,sv sz,.slice qh qj ql,.slice qm qo qp] w7 (l.length*4)) (fun _ _ h=>.inr (by omega)));refine hK.out _ _ vP.o ?_;clear hK K
      try simp only [Act.put,sq]
      refine ay (rs:=[10]) (by kernel_rfl) (by simp) ?_;refine av.past rfl (by kernel_rfl) (fun K hK=>?_) (av.nil);go_simp;refine hK.out _ _ ?_;clear hK K
      try simp only [Act.put,sq]
      refine aR (by kernel_rfl) ?_ _;have hK8:=kr.o.turn (((fU g7 [.int .i64 kz,sv sz,.slice qh qj ql,.slice qm qo qp] w7 (l.length*4)).mono (G:=fun k=>k=g7∨k=tb) (fun _ _ h=>.inl h)).trans (ak _ tb 3 (.slice (some ⟨g7,0,none⟩) (l.length+1) c7)) (fun _ _ h=>.inr h)) (fun e=>by rcases e with e |e <;> omega) (fun k hk e=>by have:=uM.o.1;rcases e with e |e <;> omega);go_wp2_with fail;go_end0;exact dX.done iq.o.symm (lV.o.trans HE.o.1.2 (fun _ _ h=>h)) ⟨_,_,by rw [List.map_append,List.map_append];exact HE.o.1.1⟩ hK8
     ·go_simp;refine hK.out _ _ ?_;clear hK K
      try simp only [Act.put,sq]
      refine ay (rs:=[8]) (by kernel_rfl) (by simp) ?_;refine av.past rfl (by kernel_rfl) (fun K hK=>?_) (av.nil);go_simp;refine hK.out _ _ ?_;clear hK K
      try simp only [Act.put,sq]
      refine aR (by kernel_rfl) ?_ _;have hK8:=kr.o.turn (((ak w7 tb 3 (.slice (some ⟨g7,0,none⟩) (l.length+1) c7)).mono (G:=fun k=>k=g7∨k=tb) (fun _ _ h=>.inr h)).trans (fU g7 [.int .i64 kz,sv sz,.slice qh qj ql,.slice qm qo qp] _ (l.length*4)) (fun _ _ h=>.inl h)) (fun e=>by rcases e with e |e <;> omega) (fun k hk e=>by have:=uM.o.1;rcases e with e |e <;> omega);go_wp2_with fail;go_end0;exact dX.done iq.o.symm (lV.o.trans HE.o.2.2 (fun _ _ h=>h)) ⟨_,_,by rw [List.map_append,List.map_append];exact HE.o.2.1⟩ hK8
   ·skip
    go_simp;have Pp:=aZ (HD0.o.trans (Turn.alloc (fun j=>j=bp∨base<=j) w9.drew (.cells #[.int .i64 0,.string ⟨#[]⟩,.slice none 0 0,.slice none 0 0] 57)) (fun _ _ h=>h));have Ic:=aZ (qE _ bp B r9 (bX.below (w:=w9.drew) mO.o (new1 w9.drew (.cells #[.int .i64 0,.string ⟨#[]⟩,.slice none 0 0,.slice none 0 0] 57))));have oP:=aZ (nC.o.trans (Turn.alloc (fun j=>j=bp) w9.drew (.cells #[.int .i64 0,.string ⟨#[]⟩,.slice none 0 0,.slice none 0 0] 57)) (fun _ _ h=>h));refine hK.out _ _ Pp.o ?_;clear hK K
    try simp only [Act.put,sq]
    refine ay (rs:=[3]) (by kernel_rfl) (by simp) ?_;refine av.cons rfl (fun K hK=>?_) (av.nil);go_simp;refine(Ic.o).mono ?_;rintro e vC h10;rcases hq:typ r9 with g |⟨x,sW⟩
    ·obtain⟨rfl,t10,b10⟩:=h10.bY hq;have HT:=aZ (lV.o.trans (oP.o.trans t10 (fun _ _ h=>h)) (fun _ _ h=>.inl h));have HB:=aZ b10;have iq:=aZ (jI.o.symm.trans (aC (aC hq)));clear h10 t10 b10 hq;exact⟨rfl,dX.fail iq.o HT.o HB.o⟩
    ·obtain⟨v,rfl,t10,⟨z,rfl,hz⟩,k10⟩:=h10.aQ hq;obtain⟨kz,sz,qh,qj,ql,qm,qo,qp,rfl⟩:=hz.shape';have iW:=aZ (oP.o.trans t10 (fun _ _ h=>h));have zh:=aZ (iW.o.mono (G:=fun j=>j=bp∨base<=j) (fun _ _ h=>.inl h));have lK:=aZ k10;have iq:bN (Pr.good (l++[(s,x)]) sW=Q):=aZ ((iC (p:=typ) hq).symm.trans jI.o);have HZ:=aZ (hz.mono (G:=fun j=>w9.heap.size<=j) (fun _ _ h=>Nat.le_trans oP.o.size h));have lM:=iW;have Po:=HZ;have uM:=lK;have HSL:=aZ (ru w9.drew #[.int .i64 0,.string ⟨#[]⟩,.slice none 0 0,.slice none 0 0] 57 4 1 rfl (by decide) t10 (by have:=HP9.o.OC;have hs:w9.drew.heap.size=w9.heap.size:=rfl;omega));clear h10 t10 k10 hq hz;refine hK.out _ _ zh.o ?_;clear hK K
     try simp only [Act.put,sq]
     refine ay (rs:=[6]) (by kernel_rfl) (by simp) ?_;refine av.cons rfl (fun K hK=>?_) (av.nil);obtain⟨ys,hy,hr⟩:=HH9.o.kid;have hyl:ys.length=l.length*4:=by have:=hy.1;simpa using this
     have eu:=aZ (dN hy lM.o (fun g hg e=>by have:=(hy.lt g hg).1;omega));refine fT rfl (.tmp 17) (.tmp 21) _ rfl base vD (.slice A2 l.length c2) _ rfl rfl eu.o HSL.o Ep (by simp [maxLen];omega) (by simp;omega) (by have:=HP9.o.OC;have:=lM.o.size;omega) (fun v7 w7 n7 aT jB gQ=>?_);have Jc:n7=l.length+1:=by have:=aT.1;rw [List.length_append,hyl]at this;simp at this;omega
     subst Jc;obtain⟨g7,c7,rfl,hgb,hgs,hc7,hm7⟩:=iM aT (by omega);have he:=HH9.o.ady HP9.o lM.o Po.o hy hr (by rfl) aT jB gQ rfl;simp only [List.length_map]at he;have HE:=aZ he;have ko:=aZ ((lM.o.mono (G:=fun j=>j=bp∨base<=j) (fun _ _ h=>.inl h)).trans (Turn.bB jB (F:=fun j=>j=bp∨base<=j) (fun k e=>.inr (hy.lt k e).1)) (fun _ _ h=>h));have kr:=aZ (uM.o.turn (Turn.bB jB (F:=fun j=>base<=j) (fun k e=>(hy.lt k e).1)) (by omega) (fun k hk e=>by have:=uM.o.1;omega));have iU:w7.heap[tb]? =some (.cells #[.int .i64 5,sv [],_,.slice A2 l.length c2] 57 (0,0)):=ah HH9.o.blk ko.o (by omega);obtain⟨e0,e1,e2,e3,ez⟩:=aX iU;have o0:=aW aT rfl (i:=l.length*4) (u:= .int .i64 0) (by rw [List.getElem?_append_right (by omega),hyl,Nat.sub_self];rfl);have o1:=aW aT rfl (i:=l.length*4+1) (u:= .string ⟨#[]⟩) (by rw [List.getElem?_append_right (by omega),hyl,Nat.add_sub_cancel_left];rfl);have o2:=aW aT rfl (i:=l.length*4+2) (u:= .slice none 0 0) (by rw [List.getElem?_append_right (by omega),hyl,Nat.add_sub_cancel_left];rfl);have o3:=aW aT rfl (i:=l.length*4+3) (u:= .slice none 0 0) (by rw [List.getElem?_append_right (by omega),hyl,Nat.add_sub_cancel_left];rfl);obtain⟨o0,q0⟩:=o0;obtain⟨o1,q1⟩:=o1;obtain⟨o2,q2⟩:=o2;obtain⟨o3,q3⟩:=o3;have hne1:¬g7=tb:=by omega
     have hne2:¬tb=g7:=by omega
     clear he aT jB gQ iU hy hr e0 e1 e2;refine hK.out _ _ ko.o ?_;clear hK K
     try simp only [Act.put,sq]
     refine tt 7 (.pointer (some ⟨g7,l.length*4,none⟩)) (fun _=>ko.o) (hy:=by intro w' hSw;go_simp <;> (intro h;omega)) ?_;refine tt 9 (.pointer (some ⟨tb,3,none⟩)) (fun _=>ko.o) ?_;refine ay (rs:=[8,10]) (by kernel_rfl) (by simp) ?_;refine av.cons rfl (fun K hK=>?_) (av.past rfl (by kernel_rfl) (fun K hK=>?_) av.nil)
     ·go_simp;have vP:=aZ (ko.o.trans (fU g7 [.int .i64 kz,sv sz,.slice qh qj ql,.slice qm qo qp] w7 (l.length*4)) (fun _ _ h=>.inr (by omega)));refine hK.out _ _ vP.o ?_;clear hK K
      try simp only [Act.put,sq]
      refine ay (rs:=[10]) (by kernel_rfl) (by simp) ?_;refine av.past rfl (by kernel_rfl) (fun K hK=>?_) (av.nil);go_simp;refine hK.out _ _ ?_;clear hK K
      try simp only [Act.put,sq]
      refine aR (by kernel_rfl) ?_ _;have hK8:=kr.o.turn (((fU g7 [.int .i64 kz,sv sz,.slice qh qj ql,.slice qm qo qp] w7 (l.length*4)).mono (G:=fun k=>k=g7∨k=tb) (fun _ _ h=>.inl h)).trans (ak _ tb 3 (.slice (some ⟨g7,0,none⟩) (l.length+1) c7)) (fun _ _ h=>.inr h)) (fun e=>by rcases e with e |e <;> omega) (fun k hk e=>by have:=uM.o.1;rcases e with e |e <;> omega);go_wp2_with fail;go_end0;exact dX.done iq.o.symm (lV.o.trans HE.o.1.2 (fun _ _ h=>h)) ⟨_,_,by rw [List.map_append,List.map_append];exact HE.o.1.1⟩ hK8
     ·go_simp;refine hK.out _ _ ?_;clear hK K
      try simp only [Act.put,sq]
      refine ay (rs:=[8]) (by kernel_rfl) (by simp) ?_;refine av.past rfl (by kernel_rfl) (fun K hK=>?_) (av.nil);go_simp;refine hK.out _ _ ?_;clear hK K
      try simp only [Act.put,sq]
      refine aR (by kernel_rfl) ?_ _;have hK8:=kr.o.turn (((ak w7 tb 3 (.slice (some ⟨g7,0,none⟩) (l.length+1) c7)).mono (G:=fun k=>k=g7∨k=tb) (fun _ _ h=>.inr h)).trans (fU g7 [.int .i64 kz,sv sz,.slice qh qj ql,.slice qm qo qp] _ (l.length*4)) (fun _ _ h=>.inl h)) (fun e=>by rcases e with e |e <;> omega) (fun k hk e=>by have:=uM.o.1;rcases e with e |e <;> omega);go_wp2_with fail;go_end0;exact dX.done iq.o.symm (lV.o.trans HE.o.2.2 (fun _ _ h=>h)) ⟨_,_,by rw [List.map_append,List.map_append];exact HE.o.2.1⟩ hK8
theorem nS {l:List Bt}{ts r:List aI}{i:Nat}(h:dA l ts=.good (some i) r):i<l.length:=by
 unfold dA at h;split at h
 ·cases h
 ·rename_i j hj
  injection h with h1 _;injection h1 with h1;subst h1;exact(List.findIdx?_eq_some_iff_getElem.1 hj).1
theorem ku {bp a:Nat}{w w1:World}{v0 v1 v2 v3:Value}(h:Turn (fun k=>k=bp) w w1)(ha:w.heap.size<=a):Turn (fun k=>k=bp) w (dK w1 a v0 v1 v2 v3):=h.trans (dD w1 a v0 v1 v2 v3) (fun i hi e=>by omega)
theorem bX.Af {bp B a:Nat}{w1:World}{ts:List aI}{d:Int}{v0 v1 v2 v3:Value}(h:bX w1 bp B ts d)(ha:bp<a):bX (dK w1 a v0 v1 v2 v3) bp B ts d:=h.turn (dD _ _ _ _ _ _) (by omega) (fun k hk e=>by have:=h.1;omega)
theorem Fh {typ:Ps bS}(ht:Sf typ):Sf (kM typ):=Sf.then_ Sf.name fun s=>Sf.then_ (Sf.want _) fun _=>Sf.then_ ht fun t=>Sf.ret _
theorem nR.Rk {pb tb base bp:Nat}{w w':World}{l1:List Bt}{l2:List bS}{v1 v2:Value}(h:nR pb tb base bp w l1 l2 v1 v2)(t:Turn (fun k=>k=bp) w w')(h1:bp<pb)(h2:bp<tb)(h3:bp<base):nR pb tb base bp w' l1 l2 v1 v2:=
 ⟨ah h.box t (by omega),ah h.blk t (by omega),h.qD.turn t (fun g hg e=>by have:=(h.qD.lt g hg).1;omega),h.kid.turn aJ t (fun g hg e=>by have:=(h.kid.lt g hg).1;omega) (fun g _ hg e=>by have:=hg.1;omega),h.ne⟩
theorem LD (d:Int)(typ:Ps bS)(qE:z8 d typ)(hsf:Sf typ)(w:World)(bp B:Nat)(ts:List aI)(h:bX w bp B ts d):
  Calls Tryz.prog 113 #[.pointer (some ⟨bp,0,none⟩)] w (aL (PTy w.heap.size) bp B d w (kE typ ts)):=by
 have hlt:=h.lt;have hB:=h.1;obtain⟨Q,hQ⟩:∃Q,kE typ ts=Q:=⟨_,rfl⟩
 rw [hQ];have HQ:=aZ hQ;have HC:=aZ (qg ((w.alloc (.cells #[.pointer (some ⟨bp,0,none⟩)] 91)).alloc (.cells #[.int .i64 0,.string ⟨#[]⟩,.slice none 0 0,.slice none 0 0] 57)) bp B ts d (h.below (new2 _ _ _)) qc #[.string ⟨#[97,110,121]⟩,.string ⟨#[110,117,108,108]⟩,.string ⟨#[98,111,111,108]⟩,.string ⟨#[105,110,116]⟩,.string ⟨#[115,116,114]⟩] 9 5 (w.heap.size+1+1));clear h hQ;go_enter Tryz.func113,Tryz.ntmps113;go_wp2_with fail;refine(HC.o).mono ?_;rintro e w1 h1;rcases hq:dA qc ts with g |⟨o,r1⟩
 ·obtain⟨rfl,tn,bn⟩:=h1.bY hq;exact(iB hq).elim
 ·obtain⟨v1,rfl,tn,hP,kn⟩:=h1.aQ hq;obtain⟨tm,hsz,hbx,hrs⟩:=iJ tn;have Es:=aZ (hbx (by omega));have OE:=aZ (hrs (by omega));obtain rfl:=hP;have hq1:=aZ hq;clear hbx hrs;have hs1:=tm.size;have HT1:=aZ (tm);have iI:=aZ kn;clear h1 tn kn hq;rcases o with _ |i
  ·have HQa:bN (aj (dA [[40],[123]]) (fun c=>match c with |none=>aj nameP fun s=>aF (.mk 8 s [] []) |some 0=>aj typ fun t=>aj (aH [41]) fun _=>aF t |some _=>aj (bM [125]) fun e=>if e then aF (.mk 5 [] [] [])else aj (iw (kM typ)) fun l=>aj (aH [125]) fun _=>aF (.mk 5 [] (l.map (·.1)) (l.map (·.2)))) r1=Q):=aZ ((au hq1.o).symm.trans HQ.o);have qZ:=aZ (qg w1 bp B r1 d iI.o [[40],[123]] #[.string ⟨#[40]⟩,.string ⟨#[123]⟩] 9 2 w1.heap.size);have hbx:=cZ Es.o;go_wp2_with fail;refine(qZ.o).mono ?_;rintro e w2 h2;rcases hq:dA [[40],[123]] r1 with g |⟨o,r2⟩
   ·obtain⟨rfl,tn,bn⟩:=h2.bY hq;exact(iB hq).elim
   ·obtain⟨v2,rfl,tn,rfl,kn⟩:=h2.aQ hq;have hs2:=tn.size;have HT2:=aZ (aB HT1.o tn);have gW:=aZ kn;have Rl:=aZ (ah Es.o tn (by omega));have sZ:=aZ (ah OE.o tn (by omega));have hq2:=aZ hq;clear h2 tn kn hq;have agK:=cZ Rl.o;clear hbx;rcases o with _ |j
    ·have HQb:bN (aj nameP (fun s=>aF (bS.mk 8 s [] [])) r2=Q):=aZ ((au hq2.o).symm.trans HQa.o);have HN:=aZ (gL w2 bp B r2 d gW.o);go_wp2_with fail;refine(HN.o).mono ?_;rintro e w3 h3;rcases hq:nameP r2 with g |⟨s,r3⟩
     ·obtain⟨rfl,tn,bn⟩:=h3.bY hq;have HB:=aZ (eP.mk2 (aB HT2.o tn) bn);have dP:=aZ (HQb.o.symm.trans (aC hq));clear h3 tn bn hq;go_wp2_with fail;exact⟨rfl,aL.fail dP.o HB.o⟩
     ·obtain⟨v3,rfl,tn,rfl,kn⟩:=h3.aQ hq;have hs3:=tn.size;have HT3:=aZ (aB HT2.o tn);have gD:=aZ kn;have iq:bN (aF (bS.mk 8 s [] []) r3=Q):=aZ ((au hq).symm.trans HQb.o);have aty:=aZ (ah Rl.o tn (by omega));have Jd:=aZ (ah sZ.o tn (by omega));clear h3 tn kn hq;obtain⟨c0,c1,c2,c3,cz⟩:=aX Jd.o;go_wp2_with fail;refine bodyPost_ret (aM rfl rfl (aY Jd.o _ _ _ _) Tryz.underlying57 rfl (by kernel_rfl)) rfl ?_;exact aL.done iq.o.symm (ku HT3.o (by omega)) ⟨_,rfl,sV _ _ 8 s⟩ (gD.o.Af (by omega))
    ·have hj:=nS hq2.o;simp only [List.length_cons,List.length_nil]at hj;obtain rfl |rfl:j=0∨j=1:=by omega
     ·have HQb:bN (aj typ (fun t=>aj (aH [41]) fun _=>aF t) r2=Q):=aZ ((au hq2.o).symm.trans HQa.o);have HN:=aZ (qE w2 bp B r2 gW.o);go_wp2_with fail;refine(HN.o).mono ?_;rintro e w4 h4;rcases hq:typ r2 with g |⟨t,r4⟩
      ·obtain⟨rfl,tn,bn⟩:=h4.bY hq;have HB:=aZ (eP.mk2 (aB HT2.o tn) bn);have dP:=aZ (HQb.o.symm.trans (aC hq));clear h4 tn bn hq;go_wp2_with fail;exact⟨rfl,aL.fail dP.o HB.o⟩
      ·obtain⟨v4,rfl,tn,⟨z,rfl,hz⟩,kn⟩:=h4.aQ hq;obtain⟨kz,sz,qh,qj,ql,qm,qo,qp,rfl⟩:=hz.shape';have abC:=tn.size;have HZ:=aZ hz.iv;clear hz;have hs4:=tn.size;have fD:=aZ (aB HT2.o tn);have iD:=aZ kn;have gq:bN (aj (aH [41]) (fun _=>aF t) r4=Q):=aZ ((au hq).symm.trans HQb.o);have adC:=aZ (ah Rl.o tn (by omega));have wK:=aZ (ah sZ.o tn (by omega));clear h4 tn kn hq;have HN:=aZ (fF (w4.alloc (.cells #[.int .i64 kz,sv sz,.slice qh qj ql,.slice qm qo qp] 57)) bp B r4 d (iD.o.below (new1 _ _)) [41] 9 (w4.heap.size+1));have WT:=cZ adC.o;have av0:=World.block_lt_of_cell? _ _ WT;go_wp2_with fail;refine(HN.o).mono ?_;rintro e w5 h5;rcases hq:aH [41] r4 with g |⟨u,r5⟩
       ·obtain⟨rfl,tn,bn⟩:=h5.bY hq;have tn:=(bR tn).1;have HB:=aZ (eP.mk2 (aB fD.o tn) bn);have dP:=aZ (gq.o.symm.trans (aC hq));clear h5 tn bn hq;go_wp2_with fail;exact⟨rfl,aL.fail dP.o HB.o⟩
       ·obtain⟨v5,rfl,tn,-,kn⟩:=h5.aQ hq;obtain⟨tm,hsz5,hbt⟩:=bR tn;have mg:=aZ (hbt (by omega));have Bz:=aZ (HZ.o.turn tm (fun g _ h e=>by have:=h.1;omega));clear hbt;have hs5:=tm.size;have fG:=aZ (aB fD.o tm);have jw:=aZ kn;have iL:bN (aF t r5=Q):=aZ ((au hq).symm.trans gq.o);have atz:=aZ (ah adC.o tm (by omega));have adD:=aZ (ah wK.o tm (by omega));clear h5 tn kn hq;obtain⟨c0,c1,c2,c3,cz⟩:=aX adD.o;obtain⟨e0,e1,e2,e3,ez⟩:=aX mg.o;go_wp2_with fail;refine bodyPost_ret (aM rfl rfl (aY adD.o _ _ _ _) Tryz.underlying57 rfl (by kernel_rfl)) rfl ?_;exact aL.done iL.o.symm (ku fG.o (by omega)) ⟨_,rfl,(Bz.o.turn (dD _ _ _ _ _ _) (fun g _ h e=>by have:=h.1;omega)).mono (fun g _ h=>by have:=h.1;omega)⟩ (jw.o.Af (by omega))
     ·have HQb:bN (aj (bM [125]) (fun e=>if e then aF (bS.mk 5 [] [] [])else aj (iw (kM typ)) fun l=>aj (aH [125]) fun _=>aF (.mk 5 [] (l.map (·.1)) (l.map (·.2)))) r2=Q):=aZ ((au hq2.o).symm.trans HQa.o);have HN:=aZ (lD (w2.alloc (.cells #[.int .i64 5,.string ⟨#[]⟩,.slice none 0 0,.slice none 0 0] 57)) bp B r2 d (gW.o.below (new1 _ _)) [125]);have av1:=World.block_lt_of_cell? _ _ agK;go_wp2_with fail;refine(HN.o).mono ?_;rintro e w6 h6;rcases hq:bM [125] r2 with g |⟨b,r6⟩
      ·obtain⟨rfl,tn,bn⟩:=h6.bY hq;exact(iN hq).elim
      ·obtain⟨v6,rfl,tn,rfl,kn⟩:=h6.aQ hq;obtain⟨tm,av2,hbt⟩:=bR tn;have mg:=aZ (hbt (by omega));have hq6:=aZ hq;clear hbt;have hs6:=tm.size;have jP:=aZ (aB HT2.o tm);have nT:=aZ kn;have adE:=aZ (ah Rl.o tm (by omega));have WU:=aZ (ah sZ.o tm (by omega));clear h6 tn kn hq;cases b
       ·have HQc:bN (aj (iw (kM typ)) (fun l=>aj (aH [125]) fun _=>aF (.mk 5 [] (l.map (·.1)) (l.map (·.2)))) r6=Q):=aZ ((au hq6.o).symm.trans HQb.o);have hmf:∀(fn:Fn) (first cap:Array Value) (w:World),(Instr.makeFunc fn first cap).run Tryz.prog w=.ok (.func fn first cap) w:=fun _ _ _ _=>rfl;have hpp:Ae w.heap.size w2.heap.size (w2.heap.size+1) bp w6:=⟨by omega,by omega,by omega,by omega,by omega,by omega⟩
        have hpi:Ri w.heap.size w2.heap.size (w2.heap.size+1) bp w6 []:=⟨_,_,adE.o,mg.o,gZ.nil _ _ _,fH.nil _ _ _ _ _ _,fun _ h=>by cases h⟩
        have WV:=aZ (lU (kM typ) (Fh hsf) 167 #[.pointer (some ⟨w2.heap.size,0,none⟩),.pointer (some ⟨w.heap.size,0,none⟩)] (Ri w.heap.size w2.heap.size (w2.heap.size+1) bp) (fun k=>k=bp∨w2.heap.size<=k) d w6 bp B r6 (.inl rfl)
         (fun a b l t h=>by obtain⟨x,y,h⟩:=h;have hs:=t.size;exact⟨x,y,h.Rk t (by omega) (by omega) (by omega)⟩) (fun g h=>.inr (by omega))
         (fun w1 r l hl hw hi hk=>Us d typ qE w1 bp B _ _ _ r l hl hk hi ⟨hpp.Jb,hpp.LC,hpp.Pm,hpp.Ur,hpp.ne,by have:=hpp.OC;omega⟩) (fun _=>by kernel_rfl) nT.o hpi)
        clear hpi;have hbx:=cZ adE.o;go_wp2_with fail;refine(WV.o).mono ?_;rintro e w7 h7;rcases hq:iw (kM typ) r6 with g |⟨l,r7⟩
        ·obtain⟨rfl,tn,bn⟩:=h7.bY hq;have HB:=aZ (eP.mk2 (jP.o.trans tn (fun i hi e=>by rcases e with e |e <;> omega)) bn);have dP:=aZ (HQc.o.symm.trans (aC hq));clear h7 tn bn hq;go_wp2_with fail;exact⟨rfl,aL.fail dP.o HB.o⟩
        ·obtain⟨rfl,tn,⟨x1,x2,hI⟩,kn⟩:=h7.aQ hq;have hs7:=tn.size;have iX:=aZ (jP.o.trans tn (fun i hi e=>by rcases e with e |e <;> omega));have kr:=aZ kn;have zi:bN (aj (aH [125]) (fun _=>aF (.mk 5 [] (l.map (·.1)) (l.map (·.2)))) r7=Q):=aZ ((au hq).symm.trans HQc.o);have HI7:=aZ hI;have zk:=aZ (ah WU.o tn (by omega));have HN:=aZ (fF w7 bp B r7 d kn [125] 9 w7.heap.size);have av4:=cZ hI.box;clear h7 tn kn hq hI hbx;go_wp2_with fail;refine(HN.o).mono ?_;rintro e w8 h8;rcases hq:aH [125] r7 with g |⟨u,r8⟩
         ·obtain⟨rfl,tn,bn⟩:=h8.bY hq;have HB:=aZ (eP.mk2 (aB iX.o tn) bn);have dP:=aZ (zi.o.symm.trans (aC hq));clear h8 tn bn hq;go_wp2_with fail;exact⟨rfl,aL.fail dP.o HB.o⟩
         ·obtain⟨v8,rfl,tn,-,kn⟩:=h8.aQ hq;have hI8:=HI7.o.Rk tn (by omega) (by omega) (by omega);have HI8:=aZ hI8;have vF:=tn.size;have mh:=aZ (aB iX.o tn);have qF:=aZ kn;have zF:bN (aF (.mk 5 [] (l.map (·.1)) (l.map (·.2))) r8=Q):=aZ ((au hq).symm.trans zi.o);have adF:=aZ (ah zk.o tn (by omega));clear h8 tn kn hq;obtain⟨A1,d1,hv1,hd1,_⟩:=iK HI8.o.qD.row;obtain⟨A2,d2,hv2,hd2,_⟩:=HI8.o.kid.shape;rw [List.length_map]at hv1 hv2;subst hv1 hv2;obtain⟨e0,e1,e2,e3,ez⟩:=aX HI8.o.blk;obtain⟨c0,c1,c2,c3,cz⟩:=aX adF.o;go_wp2_with fail;have tF:=dD w8 (w.heap.size+1) (.int .i64 5) (sv []) (.slice A1 l.length d1) (.slice A2 l.length d2);obtain⟨xs,k1,k2⟩:=HI8.o.kid.sl aJ;have kN:=cO.own HI8.o.qD.row (F:=fun j=>w2.heap.size+1<=j) (fun g hg=>(HI8.o.qD.lt g hg).1);refine bodyPost_ret (aM rfl rfl (aY adF.o _ _ _ _) Tryz.underlying57 rfl (by kernel_rfl)) rfl ?_;exact aL.done zF.o.symm (ku mh.o (by omega)) ⟨_,rfl,.mk ((kN.turn tF (fun g _ h e=>by omega)).mono (fun g _ h=>by omega)) ((k1.turn tF (fun g _ h e=>by rcases h with h |h;omega;(have:=h.1;omega))).mono (fun g _ h=>by rcases h with h |h;omega;(have:=h.1;omega))) (lq (cK aJ (fun g _ h=>by rcases h with h |h;omega;(have:=h.1;omega)) (bq aJ tF (fun g _ h e=>by rcases h with h |h;omega;(have:=h.1;omega)) k2)))⟩ (qF.o.Af (by omega))
       ·have HQc:bN (Pr.good (bS.mk 5 [] [] []) r6=Q):=aZ ((au hq6.o).symm.trans HQb.o);obtain⟨c0,c1,c2,c3,cz⟩:=aX WU.o;obtain⟨e0,e1,e2,e3,ez⟩:=aX mg.o;go_wp2_with fail;refine bodyPost_ret (aM rfl rfl (aY WU.o _ _ _ _) Tryz.underlying57 rfl (by kernel_rfl)) rfl ?_;exact aL.done HQc.o.symm (ku jP.o (by omega)) ⟨_,rfl,sV _ _ 5 []⟩ (nT.o.Af (by omega))
  ·have hi:=nS hq1.o;have mM:bN (Pr.good (bS.mk i [] [] []) r1=Q):=aZ ((au hq1.o).symm.trans HQ.o);obtain⟨c0,c1,c2,c3,cz⟩:=aX OE.o;go_wp2_with fail;refine bodyPost_ret (aM rfl rfl (aY OE.o _ _ _ _) Tryz.underlying57 rfl (by kernel_rfl)) rfl ?_;exact aL.done mM.o.symm (ku HT1.o (by omega)) ⟨_,rfl,sV _ _ i []⟩ (iI.o.Af (by omega))
def onP {α β:Type}(q:Pr α)(f:α->Ps β):Pr β:=match q with
 |.good a r=>f a r
 |.bad g=>.bad g
theorem Fj {α β:Type}(p:Ps α)(f:α->Ps β)(ts:List aI):aj p f ts=onP (p ts) f:=by
 unfold aj onP;cases p ts <;> rfl
section
variable {α:Type}{fn:Func}{tmps:Array Value}{P:World->Value->α->Prop}{bp B x:Nat}{d:Int}{w w2:World}{Q:Pr α}
theorem jQ {g:CS}(hb:y9 w2 bp)(hx:w2.cell? ⟨x,0,none⟩=some (.pointer (some ⟨bp,0,none⟩)))(t:Turn (fun k=>k=bp) w w2)(hq:Q=.bad g):
  Leaves Tryz.prog fn tmps (aL P bp B d w Q) [{ target:= .fn (.func 158) #[.pointer (some ⟨x,0,none⟩)],args:= #[]}] (.panicking [{ v:= .iface 146 (.agg #[.int .i64 0,.int .i64 g.1,.int .i64 g.2.1,.int .i64 g.2.2]),recovered:=false}]) w2:=by
 obtain⟨v0,d0,hb⟩:=hb;refine leaves_cons (f:=158) (args:= #[.pointer (some ⟨x,0,none⟩)]) (by simp) (by simp [go_sem]) ?_;refine(I8 w2 bp x v0 d0 _ hb hx).mono ?_;rintro e u3 w3 ⟨rfl,rfl,rfl⟩;exact aL.fail hq ⟨aB t (ak w2 bp 1 _),_,_,heap_setCell_same _ bp 1 _ _ _ hb⟩
theorem iZ {v:Value}{y:α}{r:List aI}(hres:∀w3,Turn (fun k=>k=bp) w2 w3->(results fn tmps).run Tryz.prog w3=.ok v w3)
  (hk:bX w2 bp B r (d+1)) (h0:0<=d) (h1:d<100) (hx:w2.cell? ⟨x,0,none⟩=some (.pointer (some ⟨bp,0,none⟩))) (t:Turn (fun k=>k=bp) w w2) (hq:Q=.good y r) (hP:∀w3,Turn (fun k=>k=bp) w2 w3->P w3 v y):
  Leaves Tryz.prog fn tmps (aL P bp B d w Q) [{ target:= .fn (.func 158) #[.pointer (some ⟨x,0,none⟩)],args:= #[]}] .returning w2:=by
 have hk0:=hk;obtain⟨_,_,_,v0,hb,_⟩:=hk;refine leaves_cons (f:=158) (args:= #[.pointer (some ⟨x,0,none⟩)]) (by simp) (by simp [go_sem]) ?_;refine(I8 w2 bp x v0 (d+1) _ hb hx).mono ?_;rintro e u3 w3 ⟨rfl,rfl,rfl⟩;have e1:wrap64 (d+1 - 1)=d:=by unfold wrap64;omega
 rw [e1];have t3:=ak w2 bp 1 (.int .i64 d);exact⟨_,hres _ t3,aL.done hq (aB t t3) (hP _ t3) (hk0.deep rfl)⟩
end
theorem abD {w:World}{base k:Nat}{e:TypeId}{z:List Value}(hz:z.length=k)(hb:base<=w.heap.size):(w.alloc (.cells z.toArray e)).ownsRow base e k (.slice (some ⟨w.heap.size,0,none⟩) 1 1) 1 z:=
 ⟨by omega,.inr ⟨w.heap.size,1,z.toArray,rfl,hb,heap_alloc_new w _,Nat.le_refl _,by decide,by simp;omega,by simp [<-hz]⟩⟩
theorem row_one {α:Type}{R:World->(Nat->Prop)->List Value->α->Prop}{k:Nat}(hR:qW R k){w:World}{base:Nat}{F G:Nat->Prop}{e:TypeId}{z:List Value}{x:α}(hx:R w F z x)(hb:base<=w.heap.size)(hF:∀g,g<w.heap.size->F g->G g):
  fH R k e (w.alloc (.cells z.toArray e)) base G (.slice (some ⟨w.heap.size,0,none⟩) 1 1) [x]:=by
 refine⟨z,abD (hR.len hx) hb,CW (hR.len hx) ?_⟩;have h1:R w (fun j=>j<w.heap.size∧G j) z x:=hR.mono hx fun g hg h=>⟨hg,hF g hg h⟩
 exact hR.mono (hR.turn h1 (Turn.alloc (fun _=>False) _ _) (fun _ _ _=>id)) fun g _ h=>⟨fun e=>by injection e with e;simp at e;omega,h.2⟩
theorem abE {typ:Ps bS}(ht:Sf typ):Sf (kE typ):=Sf.Lb ht
theorem WW (d:Int)(h0:0<=d)(h1:d<100)(typ:Ps bS)(qE:z8 (d+1) typ)(hsf:Sf typ):z8 d (Ia typ):=by
 intro w bp B ts h;have hlt:=h.lt;have hB:=h.1;obtain⟨Q,hQ⟩:∃Q,Ia typ ts=Q:=⟨_,rfl⟩
 rw [hQ]
 have HQ:bN (aj (kE typ) (fun a=>aj (fun ts=>oH typ ts.length [a] ts) fun l=>aj (bM [45,62]) fun b=>
  if b then aj typ fun r=>aF (.mk 6 [] [] [iy l,r])else aF (iy l)) ts=Q):=aZ hQ
 have HE:=aZ (BM (w.alloc (.cells #[.int .i64 0,.string ⟨#[]⟩,.slice none 0 0,.slice none 0 0] 57)) bp B ts d (h.below (new1 _ _)) h0 h1);clear h hQ
 go_enter_defers Tryz.func54,Tryz.ntmps54
 go_wp2_with fail;refine(HE.o).mono ?_;rintro e w1 ⟨rfl,tn,hbx,hk⟩;obtain⟨tm,hsz,hrs⟩:=bR tn;simp at hbx;have hxb:=World.block_lt_of_cell? _ _ hbx;simp at hxb;have qL:=aZ (hrs (by omega));have HT1:=aZ tm;have iI:=aZ hk;have uN:=aZ hbx;have hs1:=tm.size;have HP:=aZ (LD (d+1) typ qE hsf w1 bp B ts hk);clear tn tm hrs hk hbx;go_wp2_with fail;refine(HP.o).mono ?_;rintro e w2 h2;rcases hq:kE typ ts with g |⟨t,r2⟩
 ·obtain⟨rfl,tn,bn⟩:=h2.bY hq;clear h2;have dP:=aZ (HQ.o.symm.trans (aC hq));have tq:=aZ ((aB HT1.o tn));have hxo:=(aN uN.o tn (by omega))
  have sI:=aZ bn;clear tn bn hq;go_wp2_with fail;exact jQ sI.o hxo tq.o dP.o
 ·obtain⟨v2,rfl,tn,⟨z,rfl,hz⟩,kn⟩:=h2.aQ hq;obtain⟨kz,sz,qh,qj,ql,qm,qo,qp,rfl⟩:=hz.shape';have Pq:=aZ (aN uN.o tn (by omega));have hrow:=row_one aJ (base:=w1.heap.size) (G:=fun j=>w1.heap.size<=j) (e:=57) hz tn.size (fun _ _ h=>h);have eu:=aZ hrow;have WX:=aZ ((Sf.Lb hsf).good iI.o.wf hq).2.length_le;have HLEN:=aZ iI.o.2.1.1;clear hz hrow;have hs2:=tn.size;have HT2:=aZ (aB HT1.o tn);have gW:=aZ kn;have jI:bN (aj (fun ts=>oH typ ts.length [t] ts) (fun l=>aj (bM [45,62]) fun b=>if b then aj typ fun r=>aF (.mk 6 [] [] [iy l,r])else aF (iy l)) r2=Q):=aZ ((au hq).symm.trans HQ.o);have sZ:=aZ (ah qL.o tn (by omega));clear h2 tn kn hq;obtain⟨A,hA⟩:∃A,oH typ r2.length [t] r2=A:=⟨_,rfl⟩
  have HA:=aZ hA
  have LG:bN (onP A (fun l=>aj (bM [45,62]) (fun b=>if b then aj typ fun r=>aF (.mk 6 [] [] [iy l,r])else aF (iy l)))=Q):=aZ (by
   have:=jI.o;rw [Fj]at this;rw [<-HA.o];exact this)
  have gD:=aZ (gW.o.below (new1 w2 (.cells #[.int .i64 kz,sv sz,.slice qh qj ql,.slice qm qo qp] 57)));have HT3:=aZ (aB HT2.o (Turn.alloc (fun k=>k=bp) w2 (.cells #[.int .i64 kz,sv sz,.slice qh qj ql,.slice qm qo qp] 57)));have HRW:=aZ (ah sZ.o (Turn.alloc (fun _=>False) w2 (.cells #[.int .i64 kz,sv sz,.slice qh qj ql,.slice qm qo qp] 57)) id);have HXW:=aZ (aN Pq.o (Turn.alloc (fun _=>False) w2 (.cells #[.int .i64 kz,sv sz,.slice qh qj ql,.slice qm qo qp] 57)) id);clear hA;go_wp2_with fail;go_loopw [3] (fun v3 wr=>∃(f:Nat) (l:List bS) (r:List aI),fH mJ 4 57 wr w1.heap.size (fun j=>w1.heap.size<=j) v3 l∧l≠[]∧oH typ f l r=A∧r.length<=f∧l.length+r.length<=8194∧Turn (fun k=>k=bp) w wr∧w1.heap.size<=wr.heap.size∧bX wr bp B r (d+1)∧wr.cell? ⟨w.heap.size+1,0,none⟩=some (.pointer (some ⟨bp,0,none⟩))∧wr.heap[w.heap.size]? =some (.cells #[.int .i64 0,.string ⟨#[]⟩,.slice none 0 0,.slice none 0 0] 57 (0,0))) (fun _ wr=>leftOf wr bp)
  case atStart=>exact⟨_,[t],r2,eu.o,by simp,HA.o,Nat.le_refl _,by have:=WX.o;have:=HLEN.o;simp;omega,HT3.o,by simp;omega,gD.o,HXW.o,HRW.o⟩
  case round=>
   obtain⟨f,l,r,hrow,hne,ha,hf,hlr,ht,hsw,hk,hx,hr⟩:=hrel;have hwf:=hk.wf;have hpos:=hwf.pos;obtain⟨f,rfl⟩:∃f',f=f'+1:=⟨f - 1,by omega⟩
   have ajP:bN (aj (bM [124]) (fun b=>if b then aj (kE typ) fun a=>oH typ f (l++[a])else aF l) r=A):=aZ ha;have VT:=aZ hk.left;have HF:=aZ hf;have Hz:=aZ hlr;have xJ:=aZ ht;have vG:=aZ hk;have HXR:=aZ hx;have HRR:=aZ hr;have vO:=aZ hwf;have HH:=aZ (lD wr bp B r (d+1) hk [124]);have HPO:=aZ hpos;have adG:=aZ hrow;obtain⟨Al,cl,hvl,hcl,hml⟩:=hrow.shape;subst hvl;clear hrow ha hf hlr ht hk hx hr hwf hpos;go_wp2_with fail;refine(HH.o).mono ?_;rintro e w3 h3;rcases hq:bM [124] r with g |⟨b,r3⟩
   ·obtain⟨rfl,tn,bn⟩:=h3.bY hq;exact(iN hq).elim
   ·obtain⟨v3,rfl,tn,rfl,kn⟩:=h3.aQ hq;have hq3:=aZ hq;have HX3:=aZ (aN HXR.o tn (by omega));have tC:=aZ (adG.o.turn aJ tn (fun g hg e=>by have:=(adG.o.lt g hg).1;omega) (fun g _ hg e=>by omega));have hs3:=tn.size;have HT3:=aZ (aB xJ.o tn);have gD:=aZ kn;have Jd:=aZ (ah HRR.o tn (by omega));clear h3 tn kn hq;cases b
    ·have HA3:bN (Pr.good l r3=A):=aZ ((au hq3.o).symm.trans ajP.o);have iq:bN (aj (bM [45,62]) (fun b=>if b then aj typ fun r=>aF (.mk 6 [] [] [iy l,r])else aF (iy l)) r3=Q):=aZ (by have:=LG.o;rw [<-HA3.o]at this;exact this);have HNE:=aZ hne;obtain⟨ys,hy,hrr⟩:=tC.o;obtain⟨ta,l',rfl⟩:∃a l',l=a :: l':=by cases l with |nil=>exact absurd rfl hne |cons a l'=>exact⟨a,l',rfl⟩
     obtain⟨g0,c9,hg0,hgb,hgs,hc9,hm9⟩:=iM hy (by simp);injection hg0 with hg0 hg1 hg2;subst hg0 hg2;cases hrr with
     | @cons z0 y0 _ _ hz0 hx0 hrt=>
      obtain⟨k0,s0,WY,n10,c10,WZ,n20,c20,rfl⟩:=hx0.shape';have o0:=(aW hy rfl (i:=0) (u:= .int .i64 k0) rfl).1;have o1:=(aW hy rfl (i:=1) (u:=sv s0) rfl).1;have o2:=(aW hy rfl (i:=2) (u:= .slice WY n10 c10) rfl).1;have o3:=(aW hy rfl (i:=3) (u:= .slice WZ n20 c20) rfl).1;have HZ0:=aZ (hx0.mono (G:=fun j=>w1.heap.size<=j) (fun _ _ h=>h.2));have hll:((ta :: l').length:Int)=(l'.length:Int)+1:=by simp
      clear hy hx0 hrt hz0 hne;cases l' with
      |nil=>
       simp only [List.length_nil]at*
       have HN:=aZ (lD (w3.alloc (.cells #[.int .i64 k0,sv s0,.slice WY n10 c10,.slice WZ n20 c20] 57)) bp B r3 (d+1) (gD.o.below (new1 _ _)) [45,62]);go_wp2_with fail;refine(HN.o).mono ?_;rintro e w4 h4;rcases hq:bM [45,62] r3 with g |⟨b,r4⟩
       ·obtain⟨rfl,tn,bn⟩:=h4.bY hq;exact(iN hq).elim
       ·obtain⟨v4,rfl,tn,rfl,kn⟩:=h4.aQ hq;obtain⟨tm,abC,hbt⟩:=bR tn;have mg:=aZ (hbt (by omega));have hq4:=aZ hq;have Fp:=aZ (aN HX3.o tm (by omega));have HTU:bN (mJ w4 (fun j=>w1.heap.size<=j) [.int .i64 k0,sv s0,.slice WY n10 c10,.slice WZ n20 c20] (iy [ta])):=aZ (HZ0.o.turn tm (fun g _ h e=>by omega));clear hbt;have hs4:=tm.size;have fD:=aZ (aB HT3.o tm);have iD:=aZ kn;have wK:=aZ (ah Jd.o tm (by omega));clear h4 tn kn hq;cases b
        ·have gq:bN (Pr.good (iy ([ta])) r4=Q):=aZ ((au hq4.o).symm.trans iq.o);obtain⟨e0,e1,e2,e3,ez⟩:=aX mg.o;obtain⟨c0,c1,c2,c3,cz⟩:=aX wK.o;go_wp2_with fail;have tF:=dD w4 w.heap.size (.int .i64 k0) (sv s0) (.slice WY n10 c10) (.slice WZ n20 c20)
         exact iZ (fun w9 t9=>aM rfl rfl (ah (aY wK.o _ _ _ _) t9 (by omega)) Tryz.underlying57 rfl (by kernel_rfl)) (iD.o.Af (by omega)) h0 h1 (aN Fp.o tF (by omega)) (ku fD.o (by omega)) gq.o.symm
          (fun w9 t9=>⟨[.int .i64 k0,sv s0,.slice WY n10 c10,.slice WZ n20 c20],rfl,((HTU.o.turn tF (fun g _ h e=>by omega)).turn t9 (fun g _ h e=>by omega)).mono (fun g _ h=>by omega)⟩)
        ·have gq:bN (aj typ (fun r=>aF (bS.mk 6 [] [] [iy ([ta]),r])) r4=Q):=aZ ((au hq4.o).symm.trans iq.o);obtain⟨e0,e1,e2,e3,ez⟩:=aX mg.o;have PT:=aZ (fun(w':World) (h:Turn (fun j=>j=bp) w4 w')=>(⟨aN e0 h (by omega),aN e1 h (by omega),aN e2 h (by omega),aN e3 h (by omega)⟩:w'.cell? ⟨w3.heap.size,0,none⟩=some (.int .i64 k0)∧w'.cell? ⟨w3.heap.size,1,none⟩=some (sv s0)∧w'.cell? ⟨w3.heap.size,2,none⟩=some (.slice WY n10 c10)∧w'.cell? ⟨w3.heap.size,3,none⟩=some (.slice WZ n20 c20)));have HD0:bN (Turn (fun j=>j=bp) w4 w4.drew):=aZ ⟨rfl,rfl,rfl,Nat.le_refl _,fun _ _ _=>rfl⟩;have Ic:=aZ (qE w4.drew bp B r4 iD.o);clear e0 e1 e2 e3 ez;go_wp2_with fail;refine bP (S:=fun w'=>Turn (fun j=>j=bp) w4 w') (x:=5) (by kernel_rfl) ?_
         try simp only [Act.put,sq]
         refine jG 0 (.agg #[.int .i64 k0,sv s0,.slice WY n10 c10,.slice WZ n20 c20]) PT.o HD0.o (hQ:=gK rfl (by decide)) ?_;refine tx 1 (.pointer (some ⟨bp,0,none⟩)) HD0.o (hQ:=gK rfl (by decide)) ?_;refine ay (rs:=[2]) (by kernel_rfl) (by simp) ?_;refine av.cons rfl (fun K hK=>?_) (av.nil);go_simp;refine(Ic.o).mono ?_;rintro e w5 h5;rcases hq:typ r4 with g |⟨x5,r5⟩
         ·obtain⟨rfl,tn,bn⟩:=h5.bY hq;have t5:=aB HD0.o tn;exact jQ bn (aN Fp.o t5 (by omega)) (aB fD.o t5) (gq.o.symm.trans (aC hq))
         ·obtain⟨v5,rfl,tn,⟨z5,rfl,Ie⟩,kn⟩:=h5.aQ hq;obtain⟨k5,s5,BO,n15,c15,BP,n25,BQ,rfl⟩:=Ie.shape';have fG:=aZ (aB HD0.o tn);have hs5:=fG.o.size;have jw:=aZ kn;have Bz:=aZ (Ie.mono (G:=fun j=>w1.heap.size<=j) (fun g _ h=>by have h:w4.heap.size<=g:=h;omega));have iL:bN (Pr.good (bS.mk 6 [] [] [iy ([ta]),x5]) r5=Q):=aZ ((au hq).symm.trans gq.o);clear h5 tn Ie kn hq;refine hK.out _ _ fG.o ?_;clear hK K
          try simp only [Act.put,sq]
          refine ay (rs:=[3]) (by kernel_rfl) (by simp) ?_;refine av.cons rfl (fun K hK=>?_) (av.nil);go_simp;have jP:=aZ (aB fG.o (Turn.alloc (fun k=>k=bp) w5 (.cells #[.int .i64 k0,sv s0,.slice WY n10 c10,.slice WZ n20 c20,.int .i64 k5,sv s5,.slice BO n15 c15,.slice BP n25 BQ] 57)));refine hK.out _ _ jP.o ?_;clear hK K
          try simp only [Act.put,sq]
          refine tx 4 (.agg #[.int .i64 6,.string ⟨#[]⟩,.slice none 0 0,.slice (some ⟨w5.heap.size,0,none⟩) 2 2]) jP.o (hQ:=gK rfl (by decide)) ?_;have JZ:=aZ (ah wK.o jP.o (by omega));obtain⟨c0,c1,c2,c3,cz⟩:=aX JZ.o;refine ay (rs:=[5]) (by kernel_rfl) (by simp) ?_;refine av.past rfl (by kernel_rfl) (fun K hK=>?_) (av.nil);go_simp;refine hK.out _ _ ?_;clear hK K
          try simp only [Act.put,sq]
          refine aR (by kernel_rfl) ?_ _;have tA:=Turn.alloc (fun _=>False) w5 (.cells #[.int .i64 k0,sv s0,.slice WY n10 c10,.slice WZ n20 c20,.int .i64 k5,sv s5,.slice BO n15 c15,.slice BP n25 BQ] 57);have tF:=dD (w5.alloc (.cells #[.int .i64 k0,sv s0,.slice WY n10 c10,.slice WZ n20 c20,.int .i64 k5,sv s5,.slice BO n15 c15,.slice BP n25 BQ] 57)) w.heap.size (.int .i64 6) (sv []) (.slice none 0 0) (.slice (some ⟨w5.heap.size,0,none⟩) 2 2);have y1:=((HTU.o.turn fG.o (fun g _ h e=>by omega)).turn tA (fun _ _ _=>id)).turn tF (fun g _ h e=>by omega);have y2:=(Bz.o.turn tA (fun _ _ _=>id)).turn tF (fun g _ h e=>by omega);have y3:=(jO w5 #[.int .i64 k0,sv s0,.slice WY n10 c10,.slice WZ n20 c20,.int .i64 k5,sv s5,.slice BO n15 c15,.slice BP n25 BQ] 57 4 2 rfl (by decide)).turn tF (fun g _ h e=>by omega);go_wp2_with fail
          exact iZ (fun w9 t9=>aM rfl rfl (ah (aY JZ.o _ _ _ _) t9 (by omega)) Tryz.underlying57 rfl (by kernel_rfl)) ((jw.o.below (new1 _ _)).Af (by omega)) h0 h1 (aN (aN Fp.o jP.o (by omega)) tF (by omega)) (ku (aB fD.o jP.o) (by omega)) iL.o.symm
           (fun w9 t9=>⟨_,rfl,.mk (cO.nil _ _ _) ((y3.turn t9 (fun g _ h e=>by omega)).mono (fun g _ h=>by omega)) (.cons ((y1.turn t9 (fun g _ h e=>by omega)).mono (fun g _ h=>by omega)) (.cons ((y2.turn t9 (fun g _ h e=>by omega)).mono (fun g _ h=>by omega)) .nil))⟩)
      |cons zD l2=>
       have hgt:decide ((1:Int)<(l2.length:Int)+1+1)=true:=by simp;omega
       obtain⟨xsu,LH,LJ⟩:=tC.o.sl aJ;have KU1:=aZ LH;have KU2:=aZ LJ;clear LH LJ;have HN:=aZ (lD (w3.alloc (.cells #[.int .i64 7,.string ⟨#[]⟩,.slice none 0 0,.slice (some ⟨g0,0,none⟩) (l2.length+1+1) cl] 57)) bp B r3 (d+1) (gD.o.below (new1 _ _)) [45,62]);go_wp2_with fail;refine(HN.o).mono ?_;rintro e w4 h4;rcases hq:bM [45,62] r3 with g |⟨b,r4⟩
       ·obtain⟨rfl,tn,bn⟩:=h4.bY hq;exact(iN hq).elim
       ·obtain⟨v4,rfl,tn,rfl,kn⟩:=h4.aQ hq;obtain⟨tm,abC,hbt⟩:=bR tn;have mg:=aZ (hbt (by omega));have hq4:=aZ hq;have Fp:=aZ (aN HX3.o tm (by omega));have HTU:bN (mJ w4 (fun j=>w1.heap.size<=j) [.int .i64 7,.string ⟨#[]⟩,.slice none 0 0,.slice (some ⟨g0,0,none⟩) (l2.length+1+1) cl] (iy (ta :: zD :: l2))):=aZ (.mk (cO.nil _ _ _) ((KU1.o.turn tm (fun g _ h e=>by rcases h with h |h <;> omega)).mono (fun g _ h=>by rcases h with h |h <;> omega)) (lq (cK aJ (fun g _ h=>by rcases h with h |h <;> omega) (bq aJ tm (fun g _ h e=>by rcases h with h |h <;> omega) KU2.o))));clear hbt;have hs4:=tm.size;have fD:=aZ (aB HT3.o tm);have iD:=aZ kn;have wK:=aZ (ah Jd.o tm (by omega));clear h4 tn kn hq;cases b
        ·have gq:bN (Pr.good (iy (ta :: zD :: l2)) r4=Q):=aZ ((au hq4.o).symm.trans iq.o);obtain⟨e0,e1,e2,e3,ez⟩:=aX mg.o;obtain⟨c0,c1,c2,c3,cz⟩:=aX wK.o;go_wp2_with fail;have tF:=dD w4 w.heap.size (.int .i64 7) (.string ⟨#[]⟩) (.slice none 0 0) (.slice (some ⟨g0,0,none⟩) (l2.length+1+1) cl)
         exact iZ (fun w9 t9=>aM rfl rfl (ah (aY wK.o _ _ _ _) t9 (by omega)) Tryz.underlying57 rfl (by kernel_rfl)) (iD.o.Af (by omega)) h0 h1 (aN Fp.o tF (by omega)) (ku fD.o (by omega)) gq.o.symm
          (fun w9 t9=>⟨[.int .i64 7,.string ⟨#[]⟩,.slice none 0 0,.slice (some ⟨g0,0,none⟩) (l2.length+1+1) cl],rfl,((HTU.o.turn tF (fun g _ h e=>by omega)).turn t9 (fun g _ h e=>by omega)).mono (fun g _ h=>by omega)⟩)
        ·have gq:bN (aj typ (fun r=>aF (bS.mk 6 [] [] [iy (ta :: zD :: l2),r])) r4=Q):=aZ ((au hq4.o).symm.trans iq.o);obtain⟨e0,e1,e2,e3,ez⟩:=aX mg.o;have PT:=aZ (fun(w':World) (h:Turn (fun j=>j=bp) w4 w')=>(⟨aN e0 h (by omega),aN e1 h (by omega),aN e2 h (by omega),aN e3 h (by omega)⟩:w'.cell? ⟨w3.heap.size,0,none⟩=some (.int .i64 7)∧w'.cell? ⟨w3.heap.size,1,none⟩=some (.string ⟨#[]⟩)∧w'.cell? ⟨w3.heap.size,2,none⟩=some (.slice none 0 0)∧w'.cell? ⟨w3.heap.size,3,none⟩=some (.slice (some ⟨g0,0,none⟩) (l2.length+1+1) cl)));have HD0:bN (Turn (fun j=>j=bp) w4 w4.drew):=aZ ⟨rfl,rfl,rfl,Nat.le_refl _,fun _ _ _=>rfl⟩;have Ic:=aZ (qE w4.drew bp B r4 iD.o);clear e0 e1 e2 e3 ez;go_wp2_with fail;refine bP (S:=fun w'=>Turn (fun j=>j=bp) w4 w') (x:=5) (by kernel_rfl) ?_
         try simp only [Act.put,sq]
         refine jG 0 (.agg #[.int .i64 7,.string ⟨#[]⟩,.slice none 0 0,.slice (some ⟨g0,0,none⟩) (l2.length+1+1) cl]) PT.o HD0.o (hQ:=gK rfl (by decide)) ?_;refine tx 1 (.pointer (some ⟨bp,0,none⟩)) HD0.o (hQ:=gK rfl (by decide)) ?_;refine ay (rs:=[2]) (by kernel_rfl) (by simp) ?_;refine av.cons rfl (fun K hK=>?_) (av.nil);go_simp;refine(Ic.o).mono ?_;rintro e w5 h5;rcases hq:typ r4 with g |⟨x5,r5⟩
         ·obtain⟨rfl,tn,bn⟩:=h5.bY hq;have t5:=aB HD0.o tn;exact jQ bn (aN Fp.o t5 (by omega)) (aB fD.o t5) (gq.o.symm.trans (aC hq))
         ·obtain⟨v5,rfl,tn,⟨z5,rfl,Ie⟩,kn⟩:=h5.aQ hq;obtain⟨k5,s5,BO,n15,c15,BP,n25,BQ,rfl⟩:=Ie.shape';have fG:=aZ (aB HD0.o tn);have hs5:=fG.o.size;have jw:=aZ kn;have Bz:=aZ (Ie.mono (G:=fun j=>w1.heap.size<=j) (fun g _ h=>by have h:w4.heap.size<=g:=h;omega));have iL:bN (Pr.good (bS.mk 6 [] [] [iy (ta :: zD :: l2),x5]) r5=Q):=aZ ((au hq).symm.trans gq.o);clear h5 tn Ie kn hq;refine hK.out _ _ fG.o ?_;clear hK K
          try simp only [Act.put,sq]
          refine ay (rs:=[3]) (by kernel_rfl) (by simp) ?_;refine av.cons rfl (fun K hK=>?_) (av.nil);go_simp;have jP:=aZ (aB fG.o (Turn.alloc (fun k=>k=bp) w5 (.cells #[.int .i64 7,.string ⟨#[]⟩,.slice none 0 0,.slice (some ⟨g0,0,none⟩) (l2.length+1+1) cl,.int .i64 k5,sv s5,.slice BO n15 c15,.slice BP n25 BQ] 57)));refine hK.out _ _ jP.o ?_;clear hK K
          try simp only [Act.put,sq]
          refine tx 4 (.agg #[.int .i64 6,.string ⟨#[]⟩,.slice none 0 0,.slice (some ⟨w5.heap.size,0,none⟩) 2 2]) jP.o (hQ:=gK rfl (by decide)) ?_;have JZ:=aZ (ah wK.o jP.o (by omega));obtain⟨c0,c1,c2,c3,cz⟩:=aX JZ.o;refine ay (rs:=[5]) (by kernel_rfl) (by simp) ?_;refine av.past rfl (by kernel_rfl) (fun K hK=>?_) (av.nil);go_simp;refine hK.out _ _ ?_;clear hK K
          try simp only [Act.put,sq]
          refine aR (by kernel_rfl) ?_ _;have tA:=Turn.alloc (fun _=>False) w5 (.cells #[.int .i64 7,.string ⟨#[]⟩,.slice none 0 0,.slice (some ⟨g0,0,none⟩) (l2.length+1+1) cl,.int .i64 k5,sv s5,.slice BO n15 c15,.slice BP n25 BQ] 57);have tF:=dD (w5.alloc (.cells #[.int .i64 7,.string ⟨#[]⟩,.slice none 0 0,.slice (some ⟨g0,0,none⟩) (l2.length+1+1) cl,.int .i64 k5,sv s5,.slice BO n15 c15,.slice BP n25 BQ] 57)) w.heap.size (.int .i64 6) (sv []) (.slice none 0 0) (.slice (some ⟨w5.heap.size,0,none⟩) 2 2);have y1:=((HTU.o.turn fG.o (fun g _ h e=>by omega)).turn tA (fun _ _ _=>id)).turn tF (fun g _ h e=>by omega);have y2:=(Bz.o.turn tA (fun _ _ _=>id)).turn tF (fun g _ h e=>by omega);have y3:=(jO w5 #[.int .i64 7,.string ⟨#[]⟩,.slice none 0 0,.slice (some ⟨g0,0,none⟩) (l2.length+1+1) cl,.int .i64 k5,sv s5,.slice BO n15 c15,.slice BP n25 BQ] 57 4 2 rfl (by decide)).turn tF (fun g _ h e=>by omega);go_wp2_with fail
          exact iZ (fun w9 t9=>aM rfl rfl (ah (aY JZ.o _ _ _ _) t9 (by omega)) Tryz.underlying57 rfl (by kernel_rfl)) ((jw.o.below (new1 _ _)).Af (by omega)) h0 h1 (aN (aN Fp.o jP.o (by omega)) tF (by omega)) (ku (aB fD.o jP.o) (by omega)) iL.o.symm
           (fun w9 t9=>⟨_,rfl,.mk (cO.nil _ _ _) ((y3.turn t9 (fun g _ h e=>by omega)).mono (fun g _ h=>by omega)) (.cons ((y1.turn t9 (fun g _ h e=>by omega)).mono (fun g _ h=>by omega)) (.cons ((y2.turn t9 (fun g _ h e=>by omega)).mono (fun g _ h=>by omega)) .nil))⟩)
    ·have iq:bN (aj (kE typ) (fun a=>oH typ f (l++[a])) r3=A):=aZ ((au hq3.o).symm.trans ajP.o);have HL3:=aZ (xH hq3.o HPO.o);have HP:=aZ (LD (d+1) typ qE hsf w3 bp B r3 gD.o);go_wp2_with fail;refine(HP.o).mono ?_;rintro e w4 h4;rcases hq:kE typ r3 with g |⟨t4,r4⟩
     ·obtain⟨rfl,tn,bn⟩:=h4.bY hq;clear h4;have dP:=aZ (LG.o.symm.trans (congrArg (fun q=>onP q _) (iq.o.symm.trans (aC hq))));have tq:=aZ ((aB HT3.o tn));have hxo:=(aN HX3.o tn (by omega))
      have sI:=aZ bn;clear tn bn hq;go_wp2_with fail;exact jQ sI.o hxo tq.o dP.o
     ·obtain⟨v4,rfl,tn,⟨z4,rfl,hz⟩,kn⟩:=h4.aQ hq;obtain⟨k4,s4,qG,n14,c14,qH,n24,c24,rfl⟩:=hz.shape';have Fp:=aZ (aN HX3.o tn (by omega));have BA:=aZ hz;have zG:=aZ tn;have WX:=aZ ((Sf.Lb hsf).good gD.o.wf hq).2.length_le;clear hz;have hs4:=tn.size;have fD:=aZ (aB HT3.o tn);have iD:=aZ kn;have gq:bN (oH typ f (l++[t4]) r4=A):=aZ ((au hq).symm.trans iq.o);have wK:=aZ (ah Jd.o tn (by omega));clear h4 tn kn hq;obtain⟨ys,hy,hrr⟩:=tC.o;have hyl:ys.length=l.length*4:=hy.1;have Xa:=dN hy zG.o (fun g hg e=>by have:=(hy.lt g hg).1;omega);have HY:=aZ hy;have HRR:=aZ hrr;have HYW:=aZ Xa;have hl8:l.length<=8194:=by have:=Hz.o;omega
      clear hy hrr Xa;go_wp2_with (at_builtin;go_must (refine eU rfl (.tmp 14) (.tmp 17) _ rfl w1.heap.size vD _ _ rfl rfl (HYW.o.alloc (.cells #[.int .i64 k4,sv s4,.slice qG n14 c14,.slice qH n24 c24] 57)) (gX w4 #[.int .i64 k4,sv s4,.slice qG n14 c14,.slice qH n24 c24] 57 4 1 rfl (by decide)) (zZ k4 s4 _ _ _ _ _ _) (by simp [maxLen];omega) (by simp;omega) (by simp;omega) (fun v9 w9 n9 fI vB kT=>?_));have tH:=aZ fI;have Rm:=aZ vB;have BR:=aZ kT;clear fI vB kT);have ta:=Turn.alloc (fun j=>(Value.slice Al l.length cl).ownBlock=some j) w4 (.cells #[.int .i64 k4,sv s4,.slice qG n14 c14,.slice qH n24 c24] 57);have t9:=ta.trans (Turn.bB Rm.o (F:=fun j=>(Value.slice Al l.length cl).ownBlock=some j) (fun _ h=>h)) (fun _ _ h=>h);have yh:=tC.o.lt;have Ag:=fH.push aJ (F:=fun j=>w1.heap.size<=j) HY.o HRR.o zG.o BA.o t9 (fun j _ h=>.inl h) (BR.o.imp id fun e=>⟨_,by simp,e⟩) tH.o (by omega) (by omega) (fun j hj=>by omega)
      go_roundw
      case rel=>exact⟨f,_,r4,Ag,by simp,gq.o,by have:=WX.o;have:=HL3.o;have:=HF.o;omega,by have:=WX.o;have:=HL3.o;have:=Hz.o;simp;omega,fD.o.trans t9 (fun i hi e=>by have:=(yh i e).1;omega),by have:=t9.size;omega,iD.o.turn t9 (fun e=>by have:=(yh _ e).1;omega) (fun k hk e=>by have:=(yh _ e).1;omega),aN Fp.o t9 (fun e=>by have:=(yh _ e).1;omega),ah wK.o t9 (fun e=>by have:=(yh _ e).1;omega)⟩
      case measure=>rw [(iD.o.turn t9 (fun e=>by have:=(yh _ e).1;omega) (fun k hk e=>by have:=(yh _ e).1;omega)).left,VT.o];have:=WX.o;have:=HL3.o;omega
theorem Xb:z8 100 (jL 6):=by
 intro w bp B ts h;have HE:=aZ (zf (w.alloc (.cells #[.int .i64 0,.string ⟨#[]⟩,.slice none 0 0,.slice none 0 0] 57)) bp B ts (h.below (new1 _ _)));clear h
 go_enter_defers Tryz.func54,Tryz.ntmps54
 go_wp2_with fail;refine(HE.o).mono ?_;rintro e w1 ⟨rfl,hb⟩;go_wp2_with fail;exact aL.fail (P:=PTy w.heap.size) (B:=B) (d:=100) (q:=jL 6 ts) rfl ⟨(bR hb.1).1,hb.2⟩
theorem Et:∀n:Nat,n<=100->z8 (100 - (n:Int)) (cB n).typ
 |0,_=>Xb
 |n+1,h=>by
  have ih:=Et n (by omega);have e:(100:Int) - ((n+1:Nat):Int)+1=100 - (n:Int):=by omega
  refine WW (100 - ((n+1:Nat):Int)) (by omega) (by omega) (cB n).typ ?_ (Sf.O1 n).1;rw [e];exact ih
end Go.Proofs.YtfgjkmipfikooaaGreatDoor
