/- FK, FL, FM -/
import Derived.Test.YtmbppnbekkbibaaGreatDoorPB05
import Derived.Test.YtmbppnbekkbibaaGreatDoorPB01
set_option linter.unusedSimpArgs false
set_option linter.unusedVariables false
section
set_option linter.unusedVariables false
namespace Go.Proofs.YtmbppnbekkbibaaGreatDoor
open Go.RowKit
def sH (d:Int) (typ:Ps bO):Prop:=∀(w:World) (bp B:Nat) (ts:List aF),bE w bp B ts d→
 Calls Tryz.prog 53 #[.pointer (some ⟨bp,0,none⟩)] w (aD (Ux w.heap.size) bp B d w (typ ts))
structure jL (pb tb base bp:Nat) (w:World) (l1:List Bt) (l2:List bO) (v1 v2:Value):Prop where
 box:w.heap[pb]? =some (.cells #[.pointer (some ⟨bp,0,none⟩)] 94 (0,0))
 blk:w.heap[tb]? =some (.cells #[.int .i64 5,sv [],v1,v2] 63 (0,0))
 sI:gD w base 9 v1 l1
 kid:fF kD 4 63 w base (fun j=>base≤j∧v1.ownBlock≠some j) v2 l2
 ne:∀g,v1.ownBlock=some g→v2.ownBlock≠some g
structure sJ (pb tb base bp:Nat) (w:World):Prop where
 zM:bp<pb
 Ct:bp<tb
 EA:pb<base
 Ie:tb<base
 ne:pb≠tb
 DU:base≤w.heap.size
theorem sJ.turn {pb tb base bp:Nat} {w w':World} {G:Nat→Prop} (h:sJ pb tb base bp w) (t:Turn G w w'):sJ pb tb base bp w':={ h with DU:=Nat.le_trans h.DU t.size}
theorem jL.turn {pb tb base bp:Nat} {w w':World} {l1:List Bt} {l2:List bO} {v1 v2:Value} (h:jL pb tb base bp w l1 l2 v1 v2) (p:sJ pb tb base bp w) (t:Turn (fun k=>k=bp) w w'):jL pb tb base bp w' l1 l2 v1 v2:=by
 have:=p.zM;have:=p.Ct;have:=p.EA;have:=p.Ie
 exact⟨ah h.box t (by omega),ah h.blk t (by omega),h.sI.turn t (fun g hg e=>by have:=(h.sI.lt g hg).1;omega),h.kid.turn aX t (fun g hg e=>by have:=(h.kid.lt g hg).1;omega) (fun g _ hg e=>by have:=hg.1;omega),h.ne⟩
theorem jL.name {pb tb base bp:Nat} {w w7:World} {l1:List Bt} {l2:List bO} {v1 v2 v7:Value} {o:Obj} {s:Bt} (h:jL pb tb base bp w l1 l2 v1 v2) (p:sJ pb tb base bp w)
  (h7:gD w7 base 9 v7 (l1++[s])) (hg:(w.alloc o).grownBy w7 v1.ownBlock) (hbk:v7.ownBlock=v1.ownBlock∨v7.ownBlock=some (w.alloc o).heap.size):
  jL pb tb base bp (w7.setCell ⟨tb,2,none⟩ v7) (l1++[s]) l2 v7 v2∧Turn (fun j=>v1.ownBlock=some j∨j=tb) w (w7.setCell ⟨tb,2,none⟩ v7):=by
 have:=p.EA;have:=p.Ie;have hne:=p.ne;have hbs:=p.DU
 have t7:Turn (fun j=>v1.ownBlock=some j) w w7:=(Turn.alloc _ _ _).trans (Turn.bf hg (fun k h=>h)) (fun _ _ h=>h)
 have t8:=ak w7 tb 2 v7
 have hs:(w.alloc o).heap.size=w.heap.size+1:=by simp
 have hlt:=h.sI.lt
 have hk:=h.kid
 have hkl:=hk.lt
 have k1:fF kD 4 63 w base (fun j=>(base≤j∧v1.ownBlock≠some j)∧v7.ownBlock≠some j) v2 l2:=hk.mono aX fun g hg h=>⟨h,fun e=>by
  rcases hbk with hb | hb
  ·rw [hb]at e;exact h.2 e
  ·rw [hb,hs]at e;injection e with e;omega⟩
 have k7:=k1.turn aX t7 (fun g hg e=>h.ne g e hg) (fun g _ hg e=>hg.1.2 e)
 have k8:=k7.turn aX t8 (fun g hg e=>by have:=(hkl g hg).1;omega) (fun g _ hg e=>by have:=hg.1.1;omega)
 refine⟨⟨ah (ah h.box t7 (fun e=>by have:=(hlt _ e).1;omega)) t8 hne,heap_setCell_same _ _ 2 _ _ _ (ah h.blk t7 (fun e=>by have:=(hlt _ e).1;omega)),h7.turn t8 (fun g hg e=>by have:=(h7.lt g hg).1;omega),k8.mono aX fun g _ h=>⟨h.1.1,h.2⟩,fun g e=> ?_⟩,(t7.mono (G:=fun j=>v1.ownBlock=some j∨j=tb) fun _ _ h=> .inl h).trans t8 (fun _ _ h=> .inr h)⟩
 rcases hbk with hb | hb
 ·rw [hb]at e;exact h.ne g e
 ·rw [hb,hs]at e
  injection e with e
  intro e2
  have:=(hkl g e2).2
  omega
theorem jL.type {pb tb base bp:Nat} {w w6 w8:World} {l1:List Bt} {l2:List bO} {v1 v2 v7:Value} {z:List Value} {x:bO} (h:jL pb tb base bp w l1 l2 v1 v2) (p:sJ pb tb base bp w)
  (t:Turn (fun k=>k=bp) w w6) (hx:kD w6 (fun j=>w.heap.size≤j) z x) (t8:Turn (fun j=>v2.ownBlock=some j∨j=tb) w6 w8) {ys:List Value} {n7:Nat} (hy:w.ownsRow base 63 4 v2 l2.length ys) (hr:bU (kD w (oO (fun j=>base≤j∧v1.ownBlock≠some j) v2)) 4 ys l2)
  (h7:w8.ownsRow base 63 4 v7 n7 (ys++z)) (hbk:v7.ownBlock=v2.ownBlock∨∃m,w6.heap.size≤m∧v7.ownBlock=some m) (hb:w8.heap[tb]? =some (.cells #[.int .i64 5,sv [],v1,v7] 63 (0,0))):
  jL pb tb base bp w8 l1 (l2++[x]) v1 v7:=by
 have:=p.EA;have:=p.Ie;have hne:=p.ne;have hbs:=p.DU;have:=p.zM;have:=p.Ct
 have h6:=h.turn p t
 have hlt:=h.sI.lt
 have hkl:=h.kid.lt
 have hs6:=t.size
 refine⟨ah h6.box t8 (fun e=> ?_),hb,h6.sI.turn t8 (fun g hg e=> ?_), ?_,fun g e=> ?_⟩
 ·rcases e with e | e
  ·have:=(hkl _ e).1;omega
  ·exact hne e
 ·rcases e with e | e
  ·exact h.ne g hg e
  ·have:=(hlt g hg).1;omega
 ·exact fF.push aX (F:=fun j=>base≤j∧v1.ownBlock≠some j) hy hr t hx t8 (fun j _ e=>by
   rcases e with e | e
   ·exact .inl e
   ·exact .inr ⟨fun h=>by have:=h.1;omega,by omega⟩) hbk h7 (by omega) (fun h=>by have:=h.1;omega) (fun j hj=>⟨by omega,fun e=>by have:=(hlt j e).2;omega⟩)
 ·have hg1:=(hlt g e).2
  rcases hbk with hb | ⟨m,hm,hb⟩
  ·rw [hb];exact h.ne g e
  ·rw [hb];intro e2
   injection e2 with e2
   omega
def F3 (pb tb base bp:Nat) (w:World) (l:List (Bt ×bO)):Prop:=∃v1 v2,jL pb tb base bp w (l.map (·.1)) (l.map (·.2)) v1 v2
theorem jL.Nv {pb tb base bp g:Nat} {w w6 w7:World} {l1:List Bt} {l2:List bO} {v1 v2 v7:Value} {z:List Value} {x:bO} (h:jL pb tb base bp w l1 l2 v1 v2) (p:sJ pb tb base bp w)
  (t:Turn (fun k=>k=bp) w w6) (hx:kD w6 (fun j=>w.heap.size≤j) z x) {ys zs:List Value} {n7:Nat} (hy:w.ownsRow base 63 4 v2 l2.length ys) (hr:bU (kD w (oO (fun j=>base≤j∧v1.ownBlock≠some j) v2)) 4 ys l2) (hzs:zs.length=4)
  (h7:w7.ownsRow base 63 4 v7 n7 (ys++zs)) (hg:w6.grownBy w7 v2.ownBlock) (hbk:v7.ownBlock=v2.ownBlock∨v7.ownBlock=some w6.heap.size) (hv:v7.ownBlock=some g):
  (jL pb tb base bp ((jK w7 g (l2.length*4) z).setCell ⟨tb,3,none⟩ v7) l1 (l2++[x]) v1 v7∧Turn (fun k=>k=bp∨tb≤k) w ((jK w7 g (l2.length*4) z).setCell ⟨tb,3,none⟩ v7))∧
  (jL pb tb base bp (jK (w7.setCell ⟨tb,3,none⟩ v7) g (l2.length*4) z) l1 (l2++[x]) v1 v7∧Turn (fun k=>k=bp∨tb≤k) w (jK (w7.setCell ⟨tb,3,none⟩ v7) g (l2.length*4) z)):=by
 have:=p.EA;have q1:=p.Ie;have hne:=p.ne;have hbs:=p.DU;have:=p.zM;have:=p.Ct
 have hz:z.length=4:=by
  obtain⟨_, _, _, _, _, _, _, _,rfl⟩:=hx.shape'
  rfl
 have hyl:ys.length=l2.length*4:=hy.1
 have hs6:=t.size
 have fV:=h7.lt g hv
 have h6:=h.turn p t
 have tg:=Turn.bf hg (F:=fun j=>v2.ownBlock=some j) (fun k h=>h)
 have hkl:=h.kid.lt
 have hgn:∀j,j<w6.heap.size→j=g→v2.ownBlock=some j:=fun j hj e=>by
  subst e
  rcases hbk with hb | hb
  ·rw [←hb];exact hv
  ·rw [hb]at hv;injection hv with hv;omega
 have hbk':v7.ownBlock=v2.ownBlock∨∃m,w6.heap.size≤m∧v7.ownBlock=some m:=hbk.imp id fun e=>⟨_,Nat.le_refl _,e⟩
 have gI:=ah h6.blk tg (fun e=>by have:=(hkl _ e).1;omega)
 have tp:=fun(w:World)=>dY g z w (l2.length*4)
 have ts:=fun(w:World)=>ak w tb 3 v7
 have tA:Turn (fun j=>v2.ownBlock=some j∨j=tb) w6 ((jK w7 g (l2.length*4) z).setCell ⟨tb,3,none⟩ v7):=
  ((tg.mono (G:=fun j=>v2.ownBlock=some j∨j=tb) fun _ _ h=> .inl h).trans (tp w7) (fun i hi e=> .inl (hgn i hi e))).trans (ts _) (fun _ _ h=> .inr h)
 have tB:Turn (fun j=>v2.ownBlock=some j∨j=tb) w6 (jK (w7.setCell ⟨tb,3,none⟩ v7) g (l2.length*4) z):=
  ((tg.mono (G:=fun j=>v2.ownBlock=some j∨j=tb) fun _ _ h=> .inl h).trans (ts _) (fun _ _ h=> .inr h)).trans (tp _) (fun i hi e=> .inl (hgn i hi e))
 have hw:∀w8,Turn (fun j=>v2.ownBlock=some j∨j=tb) w6 w8→Turn (fun k=>k=bp∨tb≤k) w w8:=fun w8 t8=>(t.mono (G:=fun k=>k=bp∨tb≤k) fun _ _ h=> .inl h).trans t8 (fun i _ e=>by
  rcases e with e | e
  ·have:=(hkl i e).1;exact .inr (by omega)
  ·exact .inr (by omega))
 have Zm:((jK w7 g (l2.length*4) z).setCell ⟨tb,3,none⟩ v7).ownsRow base 63 4 v7 n7 (ys++z):=bT (wJ h7 hv (by omega) hyl) (ts _) (fun k hk e=>by rw [hv]at hk;injection hk with hk;omega)
 have Zn:(jK (w7.setCell ⟨tb,3,none⟩ v7) g (l2.length*4) z).ownsRow base 63 4 v7 n7 (ys++z):=wJ (bT h7 (ts _) (fun k hk e=>by rw [hv]at hk;injection hk with hk;omega)) hv (by omega) hyl
 exact⟨⟨h.type p t hx tA hy hr Zm hbk' (heap_setCell_same _ _ 3 _ _ _ (ah gI (tp _) (by omega))),hw _ tA⟩,⟨h.type p t hx tB hy hr Zn hbk' (ah (heap_setCell_same _ _ 3 _ _ _ gI) (tp _) (by omega)),hw _ tB⟩⟩
set_option maxRecDepth 100000 in
set_option maxHeartbeats 4000000 in
theorem Ig (d:Int) (typ:Ps bO) (qR:sH d typ) (w:World) (bp B pb tb base:Nat) (ts:List aF) (l:List (Bt ×bO)) (hl:l.length≤8193) (h:bE w bp B ts d) (hI:F3 pb tb base bp w l) (hP:sJ pb tb base bp w):
  Calls Tryz.prog 146 #[.pointer (some ⟨tb,0,none⟩), .pointer (some ⟨pb,0,none⟩)] w (dw (F3 pb tb base bp) (fun k=>k=bp∨tb≤k) bp B d w (mQ (kV typ) l ts)):=by
 obtain⟨v1,v2,hH⟩:=hI
 have p1:=hP.zM;have p2:=hP.Ct;have p3:=hP.EA;have p4:=hP.Ie;have p5:=hP.ne;have p6:=hP.DU
 have HN:=hid (eH w.drew bp B ts d h)
 have hbx:=bG hH.box
 obtain⟨t0,t1,t2,t3,tz⟩:=bK hH.blk
 obtain⟨A1,c1,hv1,hn1,hm1⟩:=hH.sI.ss.open_
 obtain⟨A2,c2,hv2,hn2,hm2⟩:=hH.kid.shape
 simp only [List.length_map]at hv1 hn1 hv2 hn2
 subst hv1 hv2
 have HH:=hid hH
 have HP:=hid hP
 obtain⟨Q,hQ⟩:∃Q,mQ (kV typ) l ts=Q:=⟨_,rfl⟩
 rw [hQ]
 have HQ:Hid (au (kV typ) (fun x=>aG (l++[x])) ts=Q):=hid hQ
 clear hH hP h hm1 hm2 hQ
 have P0:=hid (fun(w':World) (h:Turn (fun j=>j=bp∨base≤j) w w')=>aI hbx h (by omega))
 have P2:=hid (fun(w':World) (h:Turn (fun j=>j=bp∨base≤j) w w')=>aI t2 h (by omega))
 have HD0:Hid (Turn (fun j=>j=bp∨base≤j) w w.drew):=hid ⟨rfl,rfl,rfl,Nat.le_refl _,fun _ _ _=>rfl⟩
 have jX:Hid (Turn (fun j=>j=bp) w w.drew):=hid ⟨rfl,rfl,rfl,Nat.le_refl _,fun _ _ _=>rfl⟩
 go_enter Tryz.func146,Tryz.ntmps146
 go_wp2_with fail
 refine bM (S:=fun w'=>Turn (fun j=>j=bp∨base≤j) w w') (x:=9) (by kernel_rfl) ?_
 try simp only [Act.put,List.getElem_toArray,List.getElem_cons_zero,List.getElem_cons_succ,List.setIfInBounds_toArray,List.set_cons_zero,List.set_cons_succ]
 refine tx 0 (.pointer (some ⟨tb,2,none⟩)) HD0.out ?_
 refine jW 1 (.slice A1 l.length c1) P2.out HD0.out ?_
 refine jW 2 (.pointer (some ⟨bp,0,none⟩)) P0.out HD0.out ?_
 refine tx 3 (.pointer (some ⟨bp,0,none⟩)) HD0.out ?_
 refine tx 4 (.pointer (some ⟨bp,0,none⟩)) HD0.out ?_
 refine ay (rs:=[5]) (by kernel_rfl) (by simp) ?_
 refine av.cons rfl (fun K hK=> ?_) (av.nil)
 go_simp
 refine(HN.out).mono ?_
 rintro e w2 h2
 rcases hq:nameP ts with g | ⟨s,r⟩
 ·obtain⟨rfl,t2,b2⟩:=h2.bF hq
  have HT:=hid (((jX.out.trans t2 (fun _ _ h=>h)).mono (G:=fun k=>k=bp∨tb≤k) (fun _ _ h=> .inl h)))
  have HB:=hid b2
  have kF:=hid (HQ.out.symm.trans (aB (aB hq)))
  clear h2 t2 b2 hq
  exact⟨rfl,dw.fail kF.out HT.out HB.out⟩
 ·obtain⟨v,rfl,Nw,rfl,k2⟩:=h2.aL hq
  have xR:=jX.out.trans Nw (fun _ _ h=>h)
  have HT2:=hid (xR.mono (G:=fun j=>j=bp∨base≤j) (fun _ _ h=> .inl h))
  have OV:=hid xR
  have jV:=hid k2
  have JY:=hid (HH.out.turn HP.out xR)
  have Cu:=hid (HP.out.turn xR)
  have kF:Hid (au (au (aH [58]) fun _=>au typ fun t=>aG (s,t)) (fun x=>aG (l++[x])) r=Q):=hid ((fH (p:=nameP) hq).symm.trans HQ.out)
  clear h2 Nw k2 hq xR
  refine hK.out _ _ HT2.out ?_
  clear hK K
  try simp only [Act.put,List.getElem_toArray,List.getElem_cons_zero,List.getElem_cons_succ,List.setIfInBounds_toArray,List.set_cons_zero,List.set_cons_succ]
  refine ay (rs:=[6]) (by kernel_rfl) (by simp) ?_
  refine av.cons rfl (fun K hK=> ?_) (av.nil)
  go_simp
  have HT3:=hid (HT2.out.trans (Turn.alloc (fun j=>j=bp∨base≤j) w2 (.cells #[sv s] 9)) (fun _ _ h=>h))
  refine hK.out _ _ HT3.out ?_
  clear hK K
  try simp only [Act.put,List.getElem_toArray,List.getElem_cons_zero,List.getElem_cons_succ,List.setIfInBounds_toArray,List.set_cons_zero,List.set_cons_succ]
  refine ay (rs:=[7]) (by kernel_rfl) (by simp) ?_
  refine av.cons rfl (fun K hK=> ?_) (av.nil)
  have dP:=hid (JY.out.sI.alloc (.cells #[sv s] 9))
  have Cg:=hid (qE w2 s 9)
  have hlen:(nC (l.map (·.1))).length=l.length:=by simp [nC]
  refine dX rfl (.tmp 3) (.tmp 8) _ rfl base tT (.slice A1 l.length c1) (.slice (some ⟨w2.heap.size,0,none⟩) 1 1) rfl rfl dP.out.row Cg.out (wD _) (by simp [nC,maxLen];omega) (by simp [nC];omega) (by have:=Cu.out.DU;simp;omega) (fun v7 w7 n7 aK fV dV=> ?_)
  obtain⟨A7,c7,rfl, _, _⟩:=jd aK
  obtain⟨RN,RO⟩:=JY.out.name Cu.out (o:= .cells #[sv s] 9) (s:=s) (w7:=w7) ⟨n7,by rw [nD];exact aK⟩ fV dV
  have EB:=hid RN
  have lH:=hid RO
  have iL:=hid (HT3.out.trans (Turn.bf fV (F:=fun j=>j=bp∨base≤j) (fun k e=> .inr (dP.out.lt k e).1)) (fun _ _ h=>h))
  have t7:w7.cell? ⟨tb,2,none⟩=some (.slice A1 l.length c1):=P2.out _ iL.out
  have z7:∀i,w7.frozen? ⟨tb,i,none⟩=false:=fun i=>by
   have hb:=ah (ah JY.out.blk (Turn.alloc (fun _=>False) w2 (.cells #[sv s] 9)) id) (Turn.bf fV (F:=fun j=>base≤j) (fun k e=>(dP.out.lt k e).1)) (by omega)
   exact frozen_of_row _ _ _ _ _ hb
  clear RN RO aK fV dV hlen
  refine hK.out _ _ iL.out ?_
  clear hK K
  try simp only [Act.put,List.getElem_toArray,List.getElem_cons_zero,List.getElem_cons_succ,List.setIfInBounds_toArray,List.set_cons_zero,List.set_cons_succ]
  refine tx 8 (.pointer (some ⟨tb,2,none⟩)) iL.out ?_
  refine ay (rs:=[9]) (by kernel_rfl) (by simp) ?_
  refine av.past rfl (by kernel_rfl) (fun K hK=> ?_) (av.nil)
  go_simp
  refine hK.out _ _ ?_
  clear hK K
  try simp only [Act.put,List.getElem_toArray,List.getElem_cons_zero,List.getElem_cons_succ,List.setIfInBounds_toArray,List.set_cons_zero,List.set_cons_succ]
  refine aO (by kernel_rfl) ?_ _
  have JM:=Cu.out.turn lH.out
  have oD:=jV.out.turn lH.out (fun e=>by rcases e with e | e;(have:=(JY.out.sI.lt _ e).1;omega);omega) (fun k hk e=>by
   have:=jV.out.1
   rcases e with e | e
   ·have:=(JY.out.sI.lt _ e).1;omega
   ·omega)
  have F4:=hid ((OV.out.mono (G:=fun k=>k=bp∨tb≤k) (fun _ _ h=> .inl h)).trans lH.out (fun i _ e=>by
   rcases e with e | e
   ·have:=(JY.out.sI.lt i e).1;exact .inr (by omega)
   ·exact .inr (by omega)))
  have xS:=hid JM
  have qw:=hid oD
  have HW:=hid (dM _ bp B r d oD [58] 9 _ rfl)
  generalize w7.setCell ⟨tb,2,none⟩ _=w8 at*
  have RP:=bG EB.out.box
  clear JM oD iL lH t7 z7 HT3 Cg dP HT2 JY Cu jV P0 P2 hbx t0 t1 t2 t3 tz
  go_wp2_with fail
  refine(HW.out).mono ?_
  rintro e w9 h9
  rcases hq:aH [58] r with g | ⟨u,r9⟩
  ·obtain⟨rfl,t9,b9⟩:=h9.bF hq
   have HT:=hid (F4.out.trans t9 (fun _ _ h=> .inl h))
   have HB:=hid b9
   have jU:=hid (kF.out.symm.trans (aB (aB hq)))
   clear h9 t9 b9 hq
   go_wp2_with fail
   exact⟨rfl,dw.fail jU.out HT.out HB.out⟩
  ·obtain⟨v,rfl,t9, -,k9⟩:=h9.aL hq
   have Uz:=EB.out.turn xS.out t9
   have Q6:=hid Uz
   have RQ:=hid (xS.out.turn t9)
   have xU:=hid (F4.out.trans t9 (fun _ _ h=> .inl h))
   have Bz:=hid k9
   have jU:Hid (au (au typ fun t=>aG (s,t)) (fun x=>aG (l++[x])) r9=Q):=hid ((fH (p:=aH [58]) hq).symm.trans kF.out)
   have RS:=bG Uz.box
   obtain⟨s0,s1,s2,s3,sz⟩:=bK Uz.blk
   have P0:=hid (fun(w':World) (h:Turn (fun j=>j=bp∨base≤j) w9 w')=>aI RS h (by omega))
   have P3:=hid (fun(w':World) (h:Turn (fun j=>j=bp∨base≤j) w9 w')=>aI s3 h (by omega))
   have HD0:Hid (Turn (fun j=>j=bp∨base≤j) w9 w9.drew):=hid ⟨rfl,rfl,rfl,Nat.le_refl _,fun _ _ _=>rfl⟩
   have jX:Hid (Turn (fun j=>j=bp) w9 w9.drew):=hid ⟨rfl,rfl,rfl,Nat.le_refl _,fun _ _ _=>rfl⟩
   clear h9 t9 k9 hq Uz RP RS s0 s1 s2 s3 sz
   go_wp2_with fail
   refine bM (S:=fun w'=>Turn (fun j=>j=bp∨base≤j) w9 w') (x:=10) (by kernel_rfl) ?_
   try simp only [Act.put,List.getElem_toArray,List.getElem_cons_zero,List.getElem_cons_succ,List.setIfInBounds_toArray,List.set_cons_zero,List.set_cons_succ]
   refine tx 0 (.pointer (some ⟨tb,3,none⟩)) HD0.out ?_
   refine jW 1 (.slice A2 l.length c2) P3.out HD0.out ?_
   refine jW 2 (.pointer (some ⟨bp,0,none⟩)) P0.out HD0.out ?_
   refine tx 4 (.int .i64 (l.length:Int)) HD0.out ?_
   refine ay (rs:=[3,5]) (by kernel_rfl) (by simp) ?_
   refine av.cons rfl (fun K hK=> ?_) (av.cons rfl (fun K hK=> ?_) av.nil)
   ·have oP:=jX
    have zf:=hid (qR w9.drew bp B r9 Bz.out)
    go_simp
    refine(zf.out).mono ?_
    rintro e oC h10
    rcases hq:typ r9 with g | ⟨x,oh⟩
    ·obtain⟨rfl,t10,b10⟩:=h10.bF hq
     have HT:=hid (xU.out.trans (oP.out.trans t10 (fun _ _ h=>h)) (fun _ _ h=> .inl h))
     have HB:=hid b10
     have gU:=hid (jU.out.symm.trans (aB (aB hq)))
     clear h10 t10 b10 hq
     exact⟨rfl,dw.fail gU.out HT.out HB.out⟩
    ·obtain⟨v,rfl,t10,⟨z,rfl,hz⟩,k10⟩:=h10.aL hq
     obtain⟨kz,sz,kZ,lg,lq,lu,lC,lD,rfl⟩:=hz.shape'
     have jM:=hid (oP.out.trans t10 (fun _ _ h=>h))
     have qU:=hid (jM.out.mono (G:=fun j=>j=bp∨base≤j) (fun _ _ h=> .inl h))
     have qV:=hid k10
     have gU:Hid (Pr.good (l++[(s,x)]) oh=Q):=hid ((fH (p:=typ) hq).symm.trans jU.out)
     have HZ:=hid (hz.mono (G:=fun j=>w9.heap.size≤j) (fun _ _ h=>Nat.le_trans oP.out.size h))
     clear h10 t10 k10 hq hz
     refine hK.out _ _ qU.out ?_
     clear hK K
     try simp only [Act.put,List.getElem_toArray,List.getElem_cons_zero,List.getElem_cons_succ,List.setIfInBounds_toArray,List.set_cons_zero,List.set_cons_succ]
     refine ay (rs:=[5]) (by kernel_rfl) (by simp) ?_
     refine av.cons rfl (fun K hK=> ?_) (av.nil)
     go_simp
     have je:=hid (jM.out.trans (Turn.alloc (fun j=>j=bp) oC (.cells #[.int .i64 0, .string ⟨#[]⟩, .slice none 0 0, .slice none 0 0] 63)) (fun _ _ h=>h))
     have OW:=hid (je.out.mono (G:=fun j=>j=bp∨base≤j) (fun _ _ h=> .inl h))
     have EC:=hid (HZ.out.turn (Turn.alloc (fun _=>False) oC (.cells #[.int .i64 0, .string ⟨#[]⟩, .slice none 0 0, .slice none 0 0] 63)) (fun _ _ _=>id))
     have nM:=hid (qV.out.below (new1 oC (.cells #[.int .i64 0, .string ⟨#[]⟩, .slice none 0 0, .slice none 0 0] 63)))
     have HSL:=hid (fD oC #[.int .i64 0, .string ⟨#[]⟩, .slice none 0 0, .slice none 0 0] 63 4 1 rfl (by decide))
     refine hK.out _ _ OW.out ?_
     clear hK K
     try simp only [Act.put,List.getElem_toArray,List.getElem_cons_zero,List.getElem_cons_succ,List.setIfInBounds_toArray,List.set_cons_zero,List.set_cons_succ]
     refine ay (rs:=[6]) (by kernel_rfl) (by simp) ?_
     refine av.cons rfl (fun K hK=> ?_) (av.nil)
     obtain⟨ys,hy,hr⟩:=Q6.out.kid
     have hyl:ys.length=l.length*4:=by have:=hy.1;simpa using this
     have dP:=hid (bT hy je.out (fun g hg e=>by have:=(hy.lt g hg).1;omega))
     refine dX rfl (.tmp 17) (.tmp 21) _ rfl base xP (.slice A2 l.length c2) _ rfl rfl dP.out HSL.out wK (by simp [maxLen];omega) (by simp;omega) (by have:=RQ.out.DU;have:=je.out.size;omega) (fun v7 w7 n7 aK fV dV=> ?_)
     have zN:n7=l.length+1:=by have:=aK.1;rw [List.length_append,hyl]at this;simp at this;omega
     subst zN
     obtain⟨g7,c7,rfl,hgb,hgs,OX,Ny⟩:=gB aK (by omega)
     have he:=Q6.out.Nv RQ.out je.out EC.out hy hr (by rfl) aK fV dV rfl
     simp only [List.length_map]at he
     have HE:=hid he
     have iM:=hid ((je.out.mono (G:=fun j=>j=bp∨base≤j) (fun _ _ h=> .inl h)).trans (Turn.bf fV (F:=fun j=>j=bp∨base≤j) (fun k e=> .inr (hy.lt k e).1)) (fun _ _ h=>h))
     have kP:=hid (nM.out.turn (Turn.bf fV (F:=fun j=>base≤j) (fun k e=>(hy.lt k e).1)) (by omega) (fun k hk e=>by have:=nM.out.1;omega))
     have gI:w7.heap[tb]? =some (.cells #[.int .i64 5,sv [], _, .slice A2 l.length c2] 63 (0,0)):=ah Q6.out.blk iM.out (by omega)
     obtain⟨e0,e1,e2,e3,ez⟩:=bK gI
     have o0:=aR aK rfl (i:=l.length*4) (u:= .int .i64 0) (by rw [List.getElem?_append_right (by omega),hyl,Nat.sub_self];rfl)
     have o1:=aR aK rfl (i:=l.length*4+1) (u:= .string ⟨#[]⟩) (by rw [List.getElem?_append_right (by omega),hyl,Nat.add_sub_cancel_left];rfl)
     have o2:=aR aK rfl (i:=l.length*4+2) (u:= .slice none 0 0) (by rw [List.getElem?_append_right (by omega),hyl,Nat.add_sub_cancel_left];rfl)
     have o3:=aR aK rfl (i:=l.length*4+3) (u:= .slice none 0 0) (by rw [List.getElem?_append_right (by omega),hyl,Nat.add_sub_cancel_left];rfl)
     obtain⟨o0,q0⟩:=o0
     obtain⟨o1,q1⟩:=o1
     obtain⟨o2,q2⟩:=o2
     obtain⟨o3,q3⟩:=o3
     have hne1:¬g7=tb:=by omega
     have hne2:¬tb=g7:=by omega
     clear he aK fV dV gI hy hr e0 e1 e2
     refine hK.out _ _ iM.out ?_
     clear hK K
     try simp only [Act.put,List.getElem_toArray,List.getElem_cons_zero,List.getElem_cons_succ,List.setIfInBounds_toArray,List.set_cons_zero,List.set_cons_succ]
     refine tt 7 (.pointer (some ⟨g7,l.length*4,none⟩)) (fun _=>iM.out) (hy:=by intro w' hSw;go_simp <;> (intro h;omega)) ?_
     refine tt 9 (.pointer (some ⟨tb,3,none⟩)) (fun _=>iM.out) ?_
     refine ay (rs:=[8,10]) (by kernel_rfl) (by simp) ?_
     refine av.cons rfl (fun K hK=> ?_) (av.past rfl (by kernel_rfl) (fun K hK=> ?_) av.nil)
     ·go_simp
      have om:=hid (iM.out.trans (dY g7 [.int .i64 kz,sv sz, .slice kZ lg lq, .slice lu lC lD] w7 (l.length*4)) (fun _ _ h=> .inr (by omega)))
      refine hK.out _ _ om.out ?_
      clear hK K
      try simp only [Act.put,List.getElem_toArray,List.getElem_cons_zero,List.getElem_cons_succ,List.setIfInBounds_toArray,List.set_cons_zero,List.set_cons_succ]
      refine ay (rs:=[10]) (by kernel_rfl) (by simp) ?_
      refine av.past rfl (by kernel_rfl) (fun K hK=> ?_) (av.nil)
      go_simp
      refine hK.out _ _ ?_
      clear hK K
      try simp only [Act.put,List.getElem_toArray,List.getElem_cons_zero,List.getElem_cons_succ,List.setIfInBounds_toArray,List.set_cons_zero,List.set_cons_succ]
      refine aO (by kernel_rfl) ?_ _
      have OY:=kP.out.turn (((dY g7 [.int .i64 kz,sv sz, .slice kZ lg lq, .slice lu lC lD] w7 (l.length*4)).mono (G:=fun k=>k=g7∨k=tb) (fun _ _ h=> .inl h)).trans (ak _ tb 3 (.slice (some ⟨g7,0,none⟩) (l.length+1) c7)) (fun _ _ h=> .inr h)) (fun e=>by rcases e with e | e <;> omega) (fun k hk e=>by have:=nM.out.1;rcases e with e | e <;> omega)
      go_wp2_with fail
      go_end0
      exact dw.done gU.out.symm (xU.out.trans HE.out.1.2 (fun _ _ h=>h)) ⟨_, _,by rw [List.map_append,List.map_append];exact HE.out.1.1⟩ OY
     ·go_simp
      refine hK.out _ _ ?_
      clear hK K
      try simp only [Act.put,List.getElem_toArray,List.getElem_cons_zero,List.getElem_cons_succ,List.setIfInBounds_toArray,List.set_cons_zero,List.set_cons_succ]
      refine ay (rs:=[8]) (by kernel_rfl) (by simp) ?_
      refine av.past rfl (by kernel_rfl) (fun K hK=> ?_) (av.nil)
      go_simp
      refine hK.out _ _ ?_
      clear hK K
      try simp only [Act.put,List.getElem_toArray,List.getElem_cons_zero,List.getElem_cons_succ,List.setIfInBounds_toArray,List.set_cons_zero,List.set_cons_succ]
      refine aO (by kernel_rfl) ?_ _
      have OY:=kP.out.turn (((ak w7 tb 3 (.slice (some ⟨g7,0,none⟩) (l.length+1) c7)).mono (G:=fun k=>k=g7∨k=tb) (fun _ _ h=> .inr h)).trans (dY g7 [.int .i64 kz,sv sz, .slice kZ lg lq, .slice lu lC lD] _ (l.length*4)) (fun _ _ h=> .inl h)) (fun e=>by rcases e with e | e <;> omega) (fun k hk e=>by have:=nM.out.1;rcases e with e | e <;> omega)
      go_wp2_with fail
      go_end0
      exact dw.done gU.out.symm (xU.out.trans HE.out.2.2 (fun _ _ h=>h)) ⟨_, _,by rw [List.map_append,List.map_append];exact HE.out.2.1⟩ OY
   ·skip
    go_simp
    have ED:=hid (HD0.out.trans (Turn.alloc (fun j=>j=bp∨base≤j) w9.drew (.cells #[.int .i64 0, .string ⟨#[]⟩, .slice none 0 0, .slice none 0 0] 63)) (fun _ _ h=>h))
    have zf:=hid (qR _ bp B r9 (bE.below (w:=w9.drew) Bz.out (new1 w9.drew (.cells #[.int .i64 0, .string ⟨#[]⟩, .slice none 0 0, .slice none 0 0] 63))))
    have oP:=hid (jX.out.trans (Turn.alloc (fun j=>j=bp) w9.drew (.cells #[.int .i64 0, .string ⟨#[]⟩, .slice none 0 0, .slice none 0 0] 63)) (fun _ _ h=>h))
    refine hK.out _ _ ED.out ?_
    clear hK K
    try simp only [Act.put,List.getElem_toArray,List.getElem_cons_zero,List.getElem_cons_succ,List.setIfInBounds_toArray,List.set_cons_zero,List.set_cons_succ]
    refine ay (rs:=[3]) (by kernel_rfl) (by simp) ?_
    refine av.cons rfl (fun K hK=> ?_) (av.nil)
    go_simp
    refine(zf.out).mono ?_
    rintro e oC h10
    rcases hq:typ r9 with g | ⟨x,oh⟩
    ·obtain⟨rfl,t10,b10⟩:=h10.bF hq
     have HT:=hid (xU.out.trans (oP.out.trans t10 (fun _ _ h=>h)) (fun _ _ h=> .inl h))
     have HB:=hid b10
     have gU:=hid (jU.out.symm.trans (aB (aB hq)))
     clear h10 t10 b10 hq
     exact⟨rfl,dw.fail gU.out HT.out HB.out⟩
    ·obtain⟨v,rfl,t10,⟨z,rfl,hz⟩,k10⟩:=h10.aL hq
     obtain⟨kz,sz,kZ,lg,lq,lu,lC,lD,rfl⟩:=hz.shape'
     have jM:=hid (oP.out.trans t10 (fun _ _ h=>h))
     have qU:=hid (jM.out.mono (G:=fun j=>j=bp∨base≤j) (fun _ _ h=> .inl h))
     have qV:=hid k10
     have gU:Hid (Pr.good (l++[(s,x)]) oh=Q):=hid ((fH (p:=typ) hq).symm.trans jU.out)
     have HZ:=hid (hz.mono (G:=fun j=>w9.heap.size≤j) (fun _ _ h=>Nat.le_trans oP.out.size h))
     have je:=jM
     have EC:=HZ
     have nM:=qV
     have HSL:=hid (lZ w9.drew #[.int .i64 0, .string ⟨#[]⟩, .slice none 0 0, .slice none 0 0] 63 4 1 rfl (by decide) t10 (by have:=RQ.out.DU;have hs:w9.drew.heap.size=w9.heap.size:=rfl;omega))
     clear h10 t10 k10 hq hz
     refine hK.out _ _ qU.out ?_
     clear hK K
     try simp only [Act.put,List.getElem_toArray,List.getElem_cons_zero,List.getElem_cons_succ,List.setIfInBounds_toArray,List.set_cons_zero,List.set_cons_succ]
     refine ay (rs:=[6]) (by kernel_rfl) (by simp) ?_
     refine av.cons rfl (fun K hK=> ?_) (av.nil)
     obtain⟨ys,hy,hr⟩:=Q6.out.kid
     have hyl:ys.length=l.length*4:=by have:=hy.1;simpa using this
     have dP:=hid (bT hy je.out (fun g hg e=>by have:=(hy.lt g hg).1;omega))
     refine dX rfl (.tmp 17) (.tmp 21) _ rfl base xP (.slice A2 l.length c2) _ rfl rfl dP.out HSL.out wK (by simp [maxLen];omega) (by simp;omega) (by have:=RQ.out.DU;have:=je.out.size;omega) (fun v7 w7 n7 aK fV dV=> ?_)
     have zN:n7=l.length+1:=by have:=aK.1;rw [List.length_append,hyl]at this;simp at this;omega
     subst zN
     obtain⟨g7,c7,rfl,hgb,hgs,OX,Ny⟩:=gB aK (by omega)
     have he:=Q6.out.Nv RQ.out je.out EC.out hy hr (by rfl) aK fV dV rfl
     simp only [List.length_map]at he
     have HE:=hid he
     have iM:=hid ((je.out.mono (G:=fun j=>j=bp∨base≤j) (fun _ _ h=> .inl h)).trans (Turn.bf fV (F:=fun j=>j=bp∨base≤j) (fun k e=> .inr (hy.lt k e).1)) (fun _ _ h=>h))
     have kP:=hid (nM.out.turn (Turn.bf fV (F:=fun j=>base≤j) (fun k e=>(hy.lt k e).1)) (by omega) (fun k hk e=>by have:=nM.out.1;omega))
     have gI:w7.heap[tb]? =some (.cells #[.int .i64 5,sv [], _, .slice A2 l.length c2] 63 (0,0)):=ah Q6.out.blk iM.out (by omega)
     obtain⟨e0,e1,e2,e3,ez⟩:=bK gI
     have o0:=aR aK rfl (i:=l.length*4) (u:= .int .i64 0) (by rw [List.getElem?_append_right (by omega),hyl,Nat.sub_self];rfl)
     have o1:=aR aK rfl (i:=l.length*4+1) (u:= .string ⟨#[]⟩) (by rw [List.getElem?_append_right (by omega),hyl,Nat.add_sub_cancel_left];rfl)
     have o2:=aR aK rfl (i:=l.length*4+2) (u:= .slice none 0 0) (by rw [List.getElem?_append_right (by omega),hyl,Nat.add_sub_cancel_left];rfl)
     have o3:=aR aK rfl (i:=l.length*4+3) (u:= .slice none 0 0) (by rw [List.getElem?_append_right (by omega),hyl,Nat.add_sub_cancel_left];rfl)
     obtain⟨o0,q0⟩:=o0
     obtain⟨o1,q1⟩:=o1
     obtain⟨o2,q2⟩:=o2
     obtain⟨o3,q3⟩:=o3
     have hne1:¬g7=tb:=by omega
     have hne2:¬tb=g7:=by omega
     clear he aK fV dV gI hy hr e0 e1 e2
     refine hK.out _ _ iM.out ?_
     clear hK K
     try simp only [Act.put,List.getElem_toArray,List.getElem_cons_zero,List.getElem_cons_succ,List.setIfInBounds_toArray,List.set_cons_zero,List.set_cons_succ]
     refine tt 7 (.pointer (some ⟨g7,l.length*4,none⟩)) (fun _=>iM.out) (hy:=by intro w' hSw;go_simp <;> (intro h;omega)) ?_
     refine tt 9 (.pointer (some ⟨tb,3,none⟩)) (fun _=>iM.out) ?_
     refine ay (rs:=[8,10]) (by kernel_rfl) (by simp) ?_
     refine av.cons rfl (fun K hK=> ?_) (av.past rfl (by kernel_rfl) (fun K hK=> ?_) av.nil)
     ·go_simp
      have om:=hid (iM.out.trans (dY g7 [.int .i64 kz,sv sz, .slice kZ lg lq, .slice lu lC lD] w7 (l.length*4)) (fun _ _ h=> .inr (by omega)))
      refine hK.out _ _ om.out ?_
      clear hK K
      try simp only [Act.put,List.getElem_toArray,List.getElem_cons_zero,List.getElem_cons_succ,List.setIfInBounds_toArray,List.set_cons_zero,List.set_cons_succ]
      refine ay (rs:=[10]) (by kernel_rfl) (by simp) ?_
      refine av.past rfl (by kernel_rfl) (fun K hK=> ?_) (av.nil)
      go_simp
      refine hK.out _ _ ?_
      clear hK K
      try simp only [Act.put,List.getElem_toArray,List.getElem_cons_zero,List.getElem_cons_succ,List.setIfInBounds_toArray,List.set_cons_zero,List.set_cons_succ]
      refine aO (by kernel_rfl) ?_ _
      have OY:=kP.out.turn (((dY g7 [.int .i64 kz,sv sz, .slice kZ lg lq, .slice lu lC lD] w7 (l.length*4)).mono (G:=fun k=>k=g7∨k=tb) (fun _ _ h=> .inl h)).trans (ak _ tb 3 (.slice (some ⟨g7,0,none⟩) (l.length+1) c7)) (fun _ _ h=> .inr h)) (fun e=>by rcases e with e | e <;> omega) (fun k hk e=>by have:=nM.out.1;rcases e with e | e <;> omega)
      go_wp2_with fail
      go_end0
      exact dw.done gU.out.symm (xU.out.trans HE.out.1.2 (fun _ _ h=>h)) ⟨_, _,by rw [List.map_append,List.map_append];exact HE.out.1.1⟩ OY
     ·go_simp
      refine hK.out _ _ ?_
      clear hK K
      try simp only [Act.put,List.getElem_toArray,List.getElem_cons_zero,List.getElem_cons_succ,List.setIfInBounds_toArray,List.set_cons_zero,List.set_cons_succ]
      refine ay (rs:=[8]) (by kernel_rfl) (by simp) ?_
      refine av.past rfl (by kernel_rfl) (fun K hK=> ?_) (av.nil)
      go_simp
      refine hK.out _ _ ?_
      clear hK K
      try simp only [Act.put,List.getElem_toArray,List.getElem_cons_zero,List.getElem_cons_succ,List.setIfInBounds_toArray,List.set_cons_zero,List.set_cons_succ]
      refine aO (by kernel_rfl) ?_ _
      have OY:=kP.out.turn (((ak w7 tb 3 (.slice (some ⟨g7,0,none⟩) (l.length+1) c7)).mono (G:=fun k=>k=g7∨k=tb) (fun _ _ h=> .inr h)).trans (dY g7 [.int .i64 kz,sv sz, .slice kZ lg lq, .slice lu lC lD] _ (l.length*4)) (fun _ _ h=> .inl h)) (fun e=>by rcases e with e | e <;> omega) (fun k hk e=>by have:=nM.out.1;rcases e with e | e <;> omega)
      go_wp2_with fail
      go_end0
      exact dw.done gU.out.symm (xU.out.trans HE.out.2.2 (fun _ _ h=>h)) ⟨_, _,by rw [List.map_append,List.map_append];exact HE.out.2.1⟩ OY
end Go.Proofs.YtmbppnbekkbibaaGreatDoor
end
section
set_option linter.unusedVariables false
namespace Go.Proofs.YtmbppnbekkbibaaGreatDoor
open Go.RowKit
theorem jN {l:List Bt} {ts r:List aF} {i:Nat} (h:bS l ts= .good (some i) r):i<l.length:=by
 unfold bS at h
 split at h
 ·cases h
 ·rename_i j hj
  injection h with h1 _
  injection h1 with h1
  subst h1
  exact(List.findIdx?_eq_some_iff_getElem.1 hj).1
theorem iN {bp a:Nat} {w w1:World} {v0 v1 v2 v3:Value} (h:Turn (fun k=>k=bp) w w1) (ha:w.heap.size≤a):Turn (fun k=>k=bp) w (cB w1 a v0 v1 v2 v3):=h.trans (dx w1 a v0 v1 v2 v3) (fun i hi e=>by omega)
theorem bE.sK {bp B a:Nat} {w1:World} {ts:List aF} {d:Int} {v0 v1 v2 v3:Value} (h:bE w1 bp B ts d) (ha:bp<a):bE (cB w1 a v0 v1 v2 v3) bp B ts d:=h.turn (dx _ _ _ _ _ _) (by omega) (fun k hk e=>by have:=h.1;omega)
theorem JZ {typ:Ps bO} (ht:Sf typ):Sf (kV typ):=Sf.then_ Sf.name fun s=>Sf.then_ (Sf.want _) fun _=>Sf.then_ ht fun t=>Sf.ret _
theorem jL.F5 {pb tb base bp:Nat} {w w':World} {l1:List Bt} {l2:List bO} {v1 v2:Value} (h:jL pb tb base bp w l1 l2 v1 v2) (t:Turn (fun k=>k=bp) w w') (h1:bp<pb) (h2:bp<tb) (h3:bp<base):jL pb tb base bp w' l1 l2 v1 v2:=
 ⟨ah h.box t (by omega),ah h.blk t (by omega),h.sI.turn t (fun g hg e=>by have:=(h.sI.lt g hg).1;omega),h.kid.turn aX t (fun g hg e=>by have:=(h.kid.lt g hg).1;omega) (fun g _ hg e=>by have:=hg.1;omega),h.ne⟩
set_option maxRecDepth 100000 in
set_option maxHeartbeats 4000000 in
theorem Cv (d:Int) (typ:Ps bO) (qR:sH d typ) (hsf:Sf typ) (w:World) (bp B:Nat) (ts:List aF) (h:bE w bp B ts d):
  Calls Tryz.prog 99 #[.pointer (some ⟨bp,0,none⟩)] w (aD (Ux w.heap.size) bp B d w (lW typ ts)):=by
 have hlt:=h.lt
 have hB:=h.1
 obtain⟨Q,hQ⟩:∃Q,lW typ ts=Q:=⟨_,rfl⟩
 rw [hQ]
 have HQ:=hid hQ
 have HC:=hid (kY ((w.alloc (.cells #[.pointer (some ⟨bp,0,none⟩)] 94)).alloc (.cells #[.int .i64 0, .string ⟨#[]⟩, .slice none 0 0, .slice none 0 0] 63)) bp B ts d (h.below (new2 _ _ _)) Ef #[.string ⟨#[97,110,121]⟩, .string ⟨#[110,117,108,108]⟩, .string ⟨#[98,111,111,108]⟩, .string ⟨#[105,110,116]⟩, .string ⟨#[115,116,114]⟩] 9 5 (w.heap.size+1+1))
 clear h hQ
 go_enter Tryz.func99,Tryz.ntmps99
 go_wp2_with fail
 refine(HC.out).mono ?_
 rintro e w1 h1
 rcases hq:bS Ef ts with g | ⟨o,r1⟩
 ·obtain⟨rfl,tn,bn⟩:=h1.bF hq
  exact(fG hq).elim
 ·obtain⟨v1,rfl,tn,hP,kn⟩:=h1.aL hq
  obtain⟨tm,hsz,hbx,hrs⟩:=fZ tn
  have ug:=hid (hbx (by omega))
  have F6:=hid (hrs (by omega))
  obtain rfl:=hP
  have hq1:=hid hq
  clear hbx hrs
  have hs1:=tm.size
  have HT1:=hid (tm)
  have lN:=hid kn
  clear h1 tn kn hq
  rcases o with _ | i
  ·have Vr:Hid (au (bS [[40],[123]]) (fun c=>match c with | none=>au nameP fun s=>aG (.mk 8 s [] []) | some 0=>au typ fun t=>au (aH [41]) fun _=>aG t | some _=>au (dN [125]) fun e=>if e then aG (.mk 5 [] [] [])else au (iG (kV typ)) fun l=>au (aH [125]) fun _=>aG (.mk 5 [] (l.map (·.1)) (l.map (·.2)))) r1=Q):=hid ((aj hq1.out).symm.trans HQ.out)
   have OQ:=hid (kY w1 bp B r1 d lN.out [[40],[123]] #[.string ⟨#[40]⟩, .string ⟨#[123]⟩] 9 2 w1.heap.size)
   have hbx:=bG ug.out
   go_wp2_with fail
   refine(OQ.out).mono ?_
   rintro e w2 h2
   rcases hq:bS [[40],[123]] r1 with g | ⟨o,r2⟩
   ·obtain⟨rfl,tn,bn⟩:=h2.bF hq
    exact(fG hq).elim
   ·obtain⟨v2,rfl,tn,rfl,kn⟩:=h2.aL hq
    have hs2:=tn.size
    have HT2:=hid (aA HT1.out tn)
    have jV:=hid kn
    have F7:=hid (ah ug.out tn (by omega))
    have mU:=hid (ah F6.out tn (by omega))
    have hq2:=hid hq
    clear h2 tn kn hq
    have OZ:=bG F7.out
    clear hbx
    rcases o with _ | j
    ·have Nz:Hid (au nameP (fun s=>aG (bO.mk 8 s [] [])) r2=Q):=hid ((aj hq2.out).symm.trans Vr.out)
     have HN:=hid (eH w2 bp B r2 d jV.out)
     go_wp2_with fail
     refine(HN.out).mono ?_
     rintro e w3 h3
     rcases hq:nameP r2 with g | ⟨s,r3⟩
     ·obtain⟨rfl,tn,bn⟩:=h3.bF hq
      have HB:=hid (dI.mk2 (aA HT2.out tn) bn)
      have bY:=hid (Nz.out.symm.trans (aB hq))
      clear h3 tn bn hq
      go_wp2_with fail
      exact⟨rfl,aD.fail bY.out HB.out⟩
     ·obtain⟨v3,rfl,tn,rfl,kn⟩:=h3.aL hq
      have hs3:=tn.size
      have HT3:=hid (aA HT2.out tn)
      have jm:=hid kn
      have gU:Hid (aG (bO.mk 8 s [] []) r3=Q):=hid ((aj hq).symm.trans Nz.out)
      have Yr:=hid (ah F7.out tn (by omega))
      have zO:=hid (ah mU.out tn (by omega))
      clear h3 tn kn hq
      obtain⟨c0,c1,c2,c3,cz⟩:=bK zO.out
      go_wp2_with fail
      refine bodyPost_ret (aW rfl rfl (aV zO.out _ _ _ _) Tryz.underlying63 rfl (by kernel_rfl)) rfl ?_
      exact aD.done gU.out.symm (iN HT3.out (by omega)) ⟨_,rfl,mR _ _ 8 s⟩ (jm.out.sK (by omega))
    ·have hj:=jN hq2.out
     simp only [List.length_cons,List.length_nil]at hj
     obtain rfl | rfl:j=0∨j=1:=by omega
     ·have Nz:Hid (au typ (fun t=>au (aH [41]) fun _=>aG t) r2=Q):=hid ((aj hq2.out).symm.trans Vr.out)
      have HN:=hid (qR w2 bp B r2 jV.out)
      go_wp2_with fail
      refine(HN.out).mono ?_
      rintro e w4 h4
      rcases hq:typ r2 with g | ⟨t,r4⟩
      ·obtain⟨rfl,tn,bn⟩:=h4.bF hq
       have HB:=hid (dI.mk2 (aA HT2.out tn) bn)
       have bY:=hid (Nz.out.symm.trans (aB hq))
       clear h4 tn bn hq
       go_wp2_with fail
       exact⟨rfl,aD.fail bY.out HB.out⟩
      ·obtain⟨v4,rfl,tn,⟨z,rfl,hz⟩,kn⟩:=h4.aL hq
       obtain⟨kz,sz,kZ,lg,lq,lu,lC,lD,rfl⟩:=hz.shape'
       have RU:=tn.size
       have HZ:=hid hz.iv
       clear hz
       have hs4:=tn.size
       have fM:=hid (aA HT2.out tn)
       have jB:=hid kn
       have fu:Hid (au (aH [41]) (fun _=>aG t) r4=Q):=hid ((aj hq).symm.trans Nz.out)
       have NA:=hid (ah F7.out tn (by omega))
       have oQ:=hid (ah mU.out tn (by omega))
       clear h4 tn kn hq
       have HN:=hid (dM (w4.alloc (.cells #[.int .i64 kz,sv sz, .slice kZ lg lq, .slice lu lC lD] 63)) bp B r4 d (jB.out.below (new1 _ _)) [41] 9 (w4.heap.size+1))
       have J2:=bG NA.out
       have Zo:=World.block_lt_of_cell? _ _ J2
       go_wp2_with fail
       refine(HN.out).mono ?_
       rintro e w5 h5
       rcases hq:aH [41] r4 with g | ⟨u,r5⟩
       ·obtain⟨rfl,tn,bn⟩:=h5.bF hq
        have tn:=(bq tn).1
        have HB:=hid (dI.mk2 (aA fM.out tn) bn)
        have bY:=hid (fu.out.symm.trans (aB hq))
        clear h5 tn bn hq
        go_wp2_with fail
        exact⟨rfl,aD.fail bY.out HB.out⟩
       ·obtain⟨v5,rfl,tn, -,kn⟩:=h5.aL hq
        obtain⟨tm,hsz5,hbt⟩:=bq tn
        have ko:=hid (hbt (by omega))
        have uW:=hid (HZ.out.turn tm (fun g _ h e=>by have:=h.1;omega))
        clear hbt
        have hs5:=tm.size
        have fI:=hid (aA fM.out tm)
        have lQ:=hid kn
        have gK:Hid (aG t r5=Q):=hid ((aj hq).symm.trans fu.out)
        have Yt:=hid (ah NA.out tm (by omega))
        have NC:=hid (ah oQ.out tm (by omega))
        clear h5 tn kn hq
        obtain⟨c0,c1,c2,c3,cz⟩:=bK NC.out
        obtain⟨e0,e1,e2,e3,ez⟩:=bK ko.out
        go_wp2_with fail
        refine bodyPost_ret (aW rfl rfl (aV NC.out _ _ _ _) Tryz.underlying63 rfl (by kernel_rfl)) rfl ?_
        exact aD.done gK.out.symm (iN fI.out (by omega)) ⟨_,rfl,(uW.out.turn (dx _ _ _ _ _ _) (fun g _ h e=>by have:=h.1;omega)).mono (fun g _ h=>by have:=h.1;omega)⟩ (lQ.out.sK (by omega))
     ·have Nz:Hid (au (dN [125]) (fun e=>if e then aG (bO.mk 5 [] [] [])else au (iG (kV typ)) fun l=>au (aH [125]) fun _=>aG (.mk 5 [] (l.map (·.1)) (l.map (·.2)))) r2=Q):=hid ((aj hq2.out).symm.trans Vr.out)
      have HN:=hid (iX (w2.alloc (.cells #[.int .i64 5, .string ⟨#[]⟩, .slice none 0 0, .slice none 0 0] 63)) bp B r2 d (jV.out.below (new1 _ _)) [125])
      have Zp:=World.block_lt_of_cell? _ _ OZ
      go_wp2_with fail
      refine(HN.out).mono ?_
      rintro e w6 h6
      rcases hq:dN [125] r2 with g | ⟨b,r6⟩
      ·obtain⟨rfl,tn,bn⟩:=h6.bF hq
       exact(fP hq).elim
      ·obtain⟨v6,rfl,tn,rfl,kn⟩:=h6.aL hq
       obtain⟨tm,Zq,hbt⟩:=bq tn
       have ko:=hid (hbt (by omega))
       have Yu:=hid hq
       clear hbt
       have hs6:=tm.size
       have lF:=hid (aA HT2.out tm)
       have uX:=hid kn
       have ND:=hid (ah F7.out tm (by omega))
       have J3:=hid (ah mU.out tm (by omega))
       clear h6 tn kn hq
       cases b
       ·have UA:Hid (au (iG (kV typ)) (fun l=>au (aH [125]) fun _=>aG (.mk 5 [] (l.map (·.1)) (l.map (·.2)))) r6=Q):=hid ((aj Yu.out).symm.trans Nz.out)
        have LZ:∀(fn:Fn) (first cap:Array Value) (w:World),(Instr.makeFunc fn first cap).run Tryz.prog w= .ok (.func fn first cap) w:=fun _ _ _ _=>rfl
        have hpp:sJ w.heap.size w2.heap.size (w2.heap.size+1) bp w6:=⟨by omega,by omega,by omega,by omega,by omega,by omega⟩
        have hpi:F3 w.heap.size w2.heap.size (w2.heap.size+1) bp w6 []:=⟨_, _,ND.out,ko.out,gD.nil _ _ _,fF.nil _ _ _ _ _ _,fun _ h=>by cases h⟩
        have J4:=hid (jl (kV typ) (JZ hsf) 146 #[.pointer (some ⟨w2.heap.size,0,none⟩), .pointer (some ⟨w.heap.size,0,none⟩)] (F3 w.heap.size w2.heap.size (w2.heap.size+1) bp) (fun k=>k=bp∨w2.heap.size≤k) d w6 bp B r6 (.inl rfl)
         (fun a b l t h=>by obtain⟨x,y,h⟩:=h;have hs:=t.size;exact⟨x,y,h.F5 t (by omega) (by omega) (by omega)⟩) (fun g h=> .inr (by omega))
         (fun w1 r l hl hw hi hk=>Ig d typ qR w1 bp B _ _ _ r l hl hk hi ⟨hpp.zM,hpp.Ct,hpp.EA,hpp.Ie,hpp.ne,by have:=hpp.DU;omega⟩) (fun _=>by kernel_rfl) uX.out hpi)
        clear hpi
        have hbx:=bG ND.out
        go_wp2_with fail
        refine(J4.out).mono ?_
        rintro e w7 h7
        rcases hq:iG (kV typ) r6 with g | ⟨l,r7⟩
        ·obtain⟨rfl,tn,bn⟩:=h7.bF hq
         have HB:=hid (dI.mk2 (lF.out.trans tn (fun i hi e=>by rcases e with e | e <;> omega)) bn)
         have bY:=hid (UA.out.symm.trans (aB hq))
         clear h7 tn bn hq
         go_wp2_with fail
         exact⟨rfl,aD.fail bY.out HB.out⟩
        ·obtain⟨rfl,tn,⟨x1,x2,hI⟩,kn⟩:=h7.aL hq
         have hs7:=tn.size
         have iL:=hid (lF.out.trans tn (fun i hi e=>by rcases e with e | e <;> omega))
         have kP:=hid kn
         have vT:Hid (au (aH [125]) (fun _=>aG (.mk 5 [] (l.map (·.1)) (l.map (·.2)))) r7=Q):=hid ((aj hq).symm.trans UA.out)
         have Zr:=hid hI
         have qW:=hid (ah J3.out tn (by omega))
         have HN:=hid (dM w7 bp B r7 d kn [125] 9 w7.heap.size)
         have Zt:=bG hI.box
         clear h7 tn kn hq hI hbx
         go_wp2_with fail
         refine(HN.out).mono ?_
         rintro e w8 h8
         rcases hq:aH [125] r7 with g | ⟨u,r8⟩
         ·obtain⟨rfl,tn,bn⟩:=h8.bF hq
          have HB:=hid (dI.mk2 (aA iL.out tn) bn)
          have bY:=hid (vT.out.symm.trans (aB hq))
          clear h8 tn bn hq
          go_wp2_with fail
          exact⟨rfl,aD.fail bY.out HB.out⟩
         ·obtain⟨v8,rfl,tn, -,kn⟩:=h8.aL hq
          have Zu:=Zr.out.F5 tn (by omega) (by omega) (by omega)
          have Q7:=hid Zu
          have uh:=tn.size
          have lH:=hid (aA iL.out tn)
          have qw:=hid kn
          have L8:Hid (aG (.mk 5 [] (l.map (·.1)) (l.map (·.2))) r8=Q):=hid ((aj hq).symm.trans vT.out)
          have NG:=hid (ah qW.out tn (by omega))
          clear h8 tn kn hq
          obtain⟨A1,d1,hv1,hd1, _⟩:=jd Q7.out.sI.row
          obtain⟨A2,d2,hv2,hd2, _⟩:=Q7.out.kid.shape
          rw [List.length_map]at hv1 hv2
          subst hv1 hv2
          obtain⟨e0,e1,e2,e3,ez⟩:=bK Q7.out.blk
          obtain⟨c0,c1,c2,c3,cz⟩:=bK NG.out
          go_wp2_with fail
          have tF:=dx w8 (w.heap.size+1) (.int .i64 5) (sv []) (.slice A1 l.length d1) (.slice A2 l.length d2)
          obtain⟨xs,k1,k2⟩:=Q7.out.kid.sl aX
          have kN:=dh.own Q7.out.sI.row (F:=fun j=>w2.heap.size+1≤j) (fun g hg=>(Q7.out.sI.lt g hg).1)
          refine bodyPost_ret (aW rfl rfl (aV NG.out _ _ _ _) Tryz.underlying63 rfl (by kernel_rfl)) rfl ?_
          exact aD.done L8.out.symm (iN lH.out (by omega)) ⟨_,rfl, .mk ((kN.turn tF (fun g _ h e=>by omega)).mono (fun g _ h=>by omega)) ((k1.turn tF (fun g _ h e=>by rcases h with h | h;omega;(have:=h.1;omega))).mono (fun g _ h=>by rcases h with h | h;omega;(have:=h.1;omega))) (nK (dB aX (fun g _ h=>by rcases h with h | h;omega;(have:=h.1;omega)) (bA aX tF (fun g _ h e=>by rcases h with h | h;omega;(have:=h.1;omega)) k2)))⟩ (qw.out.sK (by omega))
       ·have UA:Hid (Pr.good (bO.mk 5 [] [] []) r6=Q):=hid ((aj Yu.out).symm.trans Nz.out)
        obtain⟨c0,c1,c2,c3,cz⟩:=bK J3.out
        obtain⟨e0,e1,e2,e3,ez⟩:=bK ko.out
        go_wp2_with fail
        refine bodyPost_ret (aW rfl rfl (aV J3.out _ _ _ _) Tryz.underlying63 rfl (by kernel_rfl)) rfl ?_
        exact aD.done UA.out.symm (iN lF.out (by omega)) ⟨_,rfl,mR _ _ 5 []⟩ (uX.out.sK (by omega))
  ·have hi:=jN hq1.out
   have kF:Hid (Pr.good (bO.mk i [] [] []) r1=Q):=hid ((aj hq1.out).symm.trans HQ.out)
   obtain⟨c0,c1,c2,c3,cz⟩:=bK F6.out
   go_wp2_with fail
   refine bodyPost_ret (aW rfl rfl (aV F6.out _ _ _ _) Tryz.underlying63 rfl (by kernel_rfl)) rfl ?_
   exact aD.done kF.out.symm (iN HT1.out (by omega)) ⟨_,rfl,mR _ _ i []⟩ (lN.out.sK (by omega))
end Go.Proofs.YtmbppnbekkbibaaGreatDoor
end
section
set_option linter.unusedVariables false
namespace Go.Proofs.YtmbppnbekkbibaaGreatDoor
open Go.RowKit
def Q8 {α β:Type} (q:Pr α) (f:α→Ps β):Pr β:=match q with
 | .good a r=>f a r
 | .bad g=> .bad g
theorem xV {α β:Type} (p:Ps α) (f:α→Ps β) (ts:List aF):au p f ts=Q8 (p ts) f:=by
 unfold au Q8
 cases p ts <;> rfl
section
variable {α:Type} {fn:Func} {tmps:Array Value} {P:World→Value→α→Prop} {bp B x:Nat} {d:Int} {w w2:World} {Q:Pr α}
theorem iB {g:vQ} (hb:qO w2 bp) (hx:w2.cell? ⟨x,0,none⟩=some (.pointer (some ⟨bp,0,none⟩))) (t:Turn (fun k=>k=bp) w w2) (hq:Q= .bad g):
  Leaves Tryz.prog fn tmps (aD P bp B d w Q) [{ target:= .fn (.func 137) #[.pointer (some ⟨x,0,none⟩)],args:= #[]}] (.panicking [{ v:= .iface 135 (.agg #[.int .i64 0, .int .i64 (g.1:Nat), .int .i64 (g.2.1:Nat), .int .i64 g.2.2]),recovered:=false}]) w2:=by
 obtain⟨v0,d0,hb⟩:=hb
 refine leaves_cons (f:=137) (args:= #[.pointer (some ⟨x,0,none⟩)]) (by simp) (by simp [go_sem]) ?_
 refine(zK w2 bp x v0 d0 _ hb hx).mono ?_
 rintro e u3 w3 ⟨rfl,rfl,rfl⟩
 exact aD.fail hq ⟨aA t (ak w2 bp 1 _), _, _,heap_setCell_same _ bp 1 _ _ _ hb⟩
theorem gJ {v:Value} {y:α} {r:List aF} (hres:∀w3,Turn (fun k=>k=bp) w2 w3→(results fn tmps).run Tryz.prog w3= .ok v w3)
  (hk:bE w2 bp B r (d+1)) (h0:0≤d) (h1:d<100) (hx:w2.cell? ⟨x,0,none⟩=some (.pointer (some ⟨bp,0,none⟩))) (t:Turn (fun k=>k=bp) w w2) (hq:Q= .good y r) (hP:∀w3,Turn (fun k=>k=bp) w2 w3→P w3 v y):
  Leaves Tryz.prog fn tmps (aD P bp B d w Q) [{ target:= .fn (.func 137) #[.pointer (some ⟨x,0,none⟩)],args:= #[]}] .returning w2:=by
 have hk0:=hk
 obtain⟨_, _, _,v0,hb, _⟩:=hk
 refine leaves_cons (f:=137) (args:= #[.pointer (some ⟨x,0,none⟩)]) (by simp) (by simp [go_sem]) ?_
 refine(zK w2 bp x v0 (d+1) _ hb hx).mono ?_
 rintro e u3 w3 ⟨rfl,rfl,rfl⟩
 have e1:wrap64 (d+1 - 1)=d:=by unfold wrap64;omega
 rw [e1]
 have t3:=ak w2 bp 1 (.int .i64 d)
 exact⟨_,hres _ t3,aD.done hq (aA t t3) (hP _ t3) (hk0.deep rfl)⟩
end
theorem Mw {w:World} {base k:Nat} {e:TypeId} {z:List Value} (hz:z.length=k) (hb:base≤w.heap.size):(w.alloc (.cells z.toArray e)).ownsRow base e k (.slice (some ⟨w.heap.size,0,none⟩) 1 1) 1 z:=
 ⟨by omega, .inr ⟨w.heap.size,1,z.toArray,rfl,hb,heap_alloc_new w _,Nat.le_refl _,by decide,by simp;omega,by simp [←hz]⟩⟩
theorem row_one {α:Type} {R:World→(Nat→Prop)→List Value→α→Prop} {k:Nat} (hR:qp R k) {w:World} {base:Nat} {F G:Nat→Prop} {e:TypeId} {z:List Value} {x:α} (hx:R w F z x) (hb:base≤w.heap.size) (hF:∀g,g<w.heap.size→F g→G g):
  fF R k e (w.alloc (.cells z.toArray e)) base G (.slice (some ⟨w.heap.size,0,none⟩) 1 1) [x]:=by
 refine⟨z,Mw (hR.len hx) hb,uV (hR.len hx) ?_⟩
 have h1:R w (fun j=>j<w.heap.size∧G j) z x:=hR.mono hx fun g hg h=>⟨hg,hF g hg h⟩
 exact hR.mono (hR.turn h1 (Turn.alloc (fun _=>False) _ _) (fun _ _ _=>id)) fun g _ h=>⟨fun e=>by injection e with e;simp at e;omega,h.2⟩
set_option maxRecDepth 100000 in
set_option maxHeartbeats 8000000 in
theorem J5 (d:Int) (h0:0≤d) (h1:d<100) (typ:Ps bO) (qR:sH (d+1) typ) (hsf:Sf typ):sH d (Eh typ):=by
 intro w bp B ts h
 have hlt:=h.lt
 have hB:=h.1
 obtain⟨Q,hQ⟩:∃Q,Eh typ ts=Q:=⟨_,rfl⟩
 rw [hQ]
 have HQ:Hid (au (lW typ) (fun a=>au (fun ts=>mq typ ts.length [a] ts) fun l=>au (dN [45,62]) fun b=>
  if b then au typ fun r=>aG (.mk 6 [] [] [fK l,r])else aG (fK l)) ts=Q):=hid hQ
 have HE:=hid (tZ (w.alloc (.cells #[.int .i64 0, .string ⟨#[]⟩, .slice none 0 0, .slice none 0 0] 63)) bp B ts d (h.below (new1 _ _)) h0 h1)
 clear h hQ
 go_enter_defers Tryz.func53,Tryz.ntmps53
 go_wp2_with fail
 refine(HE.out).mono ?_
 rintro e w1 ⟨rfl,tn,hbx,hk⟩
 obtain⟨tm,hsz,hrs⟩:=bq tn
 simp at hbx
 have hxb:=World.block_lt_of_cell? _ _ hbx
 simp at hxb
 have lS:=hid (hrs (by omega))
 have HT1:=hid tm
 have lN:=hid hk
 have nN:=hid hbx
 have hs1:=tm.size
 have HP:=hid (Cv (d+1) typ qR hsf w1 bp B ts hk)
 clear tn tm hrs hk hbx
 go_wp2_with fail
 refine(HP.out).mono ?_
 rintro e w2 h2
 rcases hq:lW typ ts with g | ⟨t,r2⟩
 ·obtain⟨rfl,tn,bn⟩:=h2.bF hq
  clear h2
  have bY:=hid (HQ.out.symm.trans (aB hq))
  have oq:=hid ((aA HT1.out tn))
  have hxo:=(aI nN.out tn (by omega))
  have nO:=hid bn
  clear tn bn hq
  go_wp2_with fail
  exact iB nO.out hxo oq.out bY.out
 ·obtain⟨v2,rfl,tn,⟨z,rfl,hz⟩,kn⟩:=h2.aL hq
  obtain⟨kz,sz,kZ,lg,lq,lu,lC,lD,rfl⟩:=hz.shape'
  have EF:=hid (aI nN.out tn (by omega))
  have hrow:=row_one aX (base:=w1.heap.size) (G:=fun j=>w1.heap.size≤j) (e:=63) hz tn.size (fun _ _ h=>h)
  have dP:=hid hrow
  have RV:=hid ((Sf.yY hsf).good lN.out.wf hq).2.length_le
  have HLEN:=hid lN.out.2.1.1
  clear hz hrow
  have hs2:=tn.size
  have HT2:=hid (aA HT1.out tn)
  have jV:=hid kn
  have jU:Hid (au (fun ts=>mq typ ts.length [t] ts) (fun l=>au (dN [45,62]) fun b=>if b then au typ fun r=>aG (.mk 6 [] [] [fK l,r])else aG (fK l)) r2=Q):=hid ((aj hq).symm.trans HQ.out)
  have mU:=hid (ah lS.out tn (by omega))
  clear h2 tn kn hq
  obtain⟨A,hA⟩:∃A,mq typ r2.length [t] r2=A:=⟨_,rfl⟩
  have HA:=hid hA
  have Jh:Hid (Q8 A (fun l=>au (dN [45,62]) (fun b=>if b then au typ fun r=>aG (.mk 6 [] [] [fK l,r])else aG (fK l)))=Q):=hid (by
   have:=jU.out
   rw [xV]at this
   rw [←HA.out]
   exact this)
  have jm:=hid (jV.out.below (new1 w2 (.cells #[.int .i64 kz,sv sz, .slice kZ lg lq, .slice lu lC lD] 63)))
  have HT3:=hid (aA HT2.out (Turn.alloc (fun k=>k=bp) w2 (.cells #[.int .i64 kz,sv sz, .slice kZ lg lq, .slice lu lC lD] 63)))
  have HRW:=hid (ah mU.out (Turn.alloc (fun _=>False) w2 (.cells #[.int .i64 kz,sv sz, .slice kZ lg lq, .slice lu lC lD] 63)) id)
  have Zv:=hid (aI EF.out (Turn.alloc (fun _=>False) w2 (.cells #[.int .i64 kz,sv sz, .slice kZ lg lq, .slice lu lC lD] 63)) id)
  clear hA
  go_wp2_with fail
  go_loopw [3] (fun v3 wr=>∃(f:Nat) (l:List bO) (r:List aF),fF kD 4 63 wr w1.heap.size (fun j=>w1.heap.size≤j) v3 l∧l≠[]∧mq typ f l r=A∧r.length≤f∧l.length+r.length≤8194∧Turn (fun k=>k=bp) w wr∧w1.heap.size≤wr.heap.size∧bE wr bp B r (d+1)∧wr.cell? ⟨w.heap.size+1,0,none⟩=some (.pointer (some ⟨bp,0,none⟩))∧wr.heap[w.heap.size]? =some (.cells #[.int .i64 0, .string ⟨#[]⟩, .slice none 0 0, .slice none 0 0] 63 (0,0))) (fun _ wr=>leftOf wr bp)
  case atStart=>exact⟨_,[t],r2,dP.out,by simp,HA.out,Nat.le_refl _,by have:=RV.out;have:=HLEN.out;simp;omega,HT3.out,by simp;omega,jm.out,Zv.out,HRW.out⟩
  case round=>
   obtain⟨f,l,r,hrow,hne,ha,hf,hlr,ht,hsw,hk,hx,hr⟩:=hrel
   have hwf:=hk.wf
   have hpos:=hwf.pos
   obtain⟨f,rfl⟩:∃f',f=f'+1:=⟨f - 1,by omega⟩
   have RX:Hid (au (dN [124]) (fun b=>if b then au (lW typ) fun a=>mq typ f (l++[a])else aG l) r=A):=hid ha
   have Q9:=hid hk.left
   have HF:=hid hf
   have L6:=hid hlr
   have J6:=hid ht
   have Ra:=hid hk
   have Zw:=hid hx
   have HRR:=hid hr
   have ze:=hid hwf
   have HH:=hid (iX wr bp B r (d+1) hk [124])
   have Vs:=hid hpos
   have NH:=hid hrow
   obtain⟨Al,cl,hvl,hcl,hml⟩:=hrow.shape
   subst hvl
   clear hrow ha hf hlr ht hk hx hr hwf hpos
   go_wp2_with fail
   refine(HH.out).mono ?_
   rintro e w3 h3
   rcases hq:dN [124] r with g | ⟨b,r3⟩
   ·obtain⟨rfl,tn,bn⟩:=h3.bF hq
    exact(fP hq).elim
   ·obtain⟨v3,rfl,tn,rfl,kn⟩:=h3.aL hq
    have hq3:=hid hq
    have UC:=hid (aI Zw.out tn (by omega))
    have mV:=hid (NH.out.turn aX tn (fun g hg e=>by have:=(NH.out.lt g hg).1;omega) (fun g _ hg e=>by omega))
    have hs3:=tn.size
    have HT3:=hid (aA J6.out tn)
    have jm:=hid kn
    have zO:=hid (ah HRR.out tn (by omega))
    clear h3 tn kn hq
    cases b
    ·have Zx:Hid (Pr.good l r3=A):=hid ((aj hq3.out).symm.trans RX.out)
     have gU:Hid (au (dN [45,62]) (fun b=>if b then au typ fun r=>aG (.mk 6 [] [] [fK l,r])else aG (fK l)) r3=Q):=hid (by have:=Jh.out;rw [←Zx.out]at this;exact this)
     have O1:=hid hne
     obtain⟨ys,hy,hrr⟩:=mV.out
     obtain⟨ta,l',rfl⟩:∃a l',l=a :: l':=by cases l with | nil=>exact absurd rfl hne | cons a l'=>exact⟨a,l',rfl⟩
     obtain⟨g0,c9,hg0,hgb,hgs,Vt,Yv⟩:=gB hy (by simp)
     injection hg0 with hg0 hg1 hg2
     subst hg0 hg2
     cases hrr with
     | @cons z0 y0 _ _ hz0 hx0 hrt=>
      obtain⟨k0,s0,J7,n10,c10,J8,n20,c20,rfl⟩:=hx0.shape'
      have o0:=(aR hy rfl (i:=0) (u:= .int .i64 k0) rfl).1
      have o1:=(aR hy rfl (i:=1) (u:=sv s0) rfl).1
      have o2:=(aR hy rfl (i:=2) (u:= .slice J7 n10 c10) rfl).1
      have o3:=(aR hy rfl (i:=3) (u:= .slice J8 n20 c20) rfl).1
      have HZ0:=hid (hx0.mono (G:=fun j=>w1.heap.size≤j) (fun _ _ h=>h.2))
      have hll:((ta :: l').length:Int)=(l'.length:Int)+1:=by simp
      clear hy hx0 hrt hz0 hne
      cases l' with
      | nil=>
       simp only [List.length_nil]at*
       have HN:=hid (iX (w3.alloc (.cells #[.int .i64 k0,sv s0, .slice J7 n10 c10, .slice J8 n20 c20] 63)) bp B r3 (d+1) (jm.out.below (new1 _ _)) [45,62])
       go_wp2_with fail
       refine(HN.out).mono ?_
       rintro e w4 h4
       rcases hq:dN [45,62] r3 with g | ⟨b,r4⟩
       ·obtain⟨rfl,tn,bn⟩:=h4.bF hq
        exact(fP hq).elim
       ·obtain⟨v4,rfl,tn,rfl,kn⟩:=h4.aL hq
        obtain⟨tm,RU,hbt⟩:=bq tn
        have ko:=hid (hbt (by omega))
        have hq4:=hid hq
        have xW:=hid (aI UC.out tm (by omega))
        have J9:Hid (kD w4 (fun j=>w1.heap.size≤j) [.int .i64 k0,sv s0, .slice J7 n10 c10, .slice J8 n20 c20] (fK [ta])):=hid (HZ0.out.turn tm (fun g _ h e=>by omega))
        clear hbt
        have hs4:=tm.size
        have fM:=hid (aA HT3.out tm)
        have jB:=hid kn
        have oQ:=hid (ah zO.out tm (by omega))
        clear h4 tn kn hq
        cases b
        ·have fu:Hid (Pr.good (fK ([ta])) r4=Q):=hid ((aj hq4.out).symm.trans gU.out)
         obtain⟨e0,e1,e2,e3,ez⟩:=bK ko.out
         obtain⟨c0,c1,c2,c3,cz⟩:=bK oQ.out
         go_wp2_with fail
         have tF:=dx w4 w.heap.size (.int .i64 k0) (sv s0) (.slice J7 n10 c10) (.slice J8 n20 c20)
         exact gJ (fun w9 t9=>aW rfl rfl (ah (aV oQ.out _ _ _ _) t9 (by omega)) Tryz.underlying63 rfl (by kernel_rfl)) (jB.out.sK (by omega)) h0 h1 (aI xW.out tF (by omega)) (iN fM.out (by omega)) fu.out.symm
          (fun w9 t9=>⟨[.int .i64 k0,sv s0, .slice J7 n10 c10, .slice J8 n20 c20],rfl,((J9.out.turn tF (fun g _ h e=>by omega)).turn t9 (fun g _ h e=>by omega)).mono (fun g _ h=>by omega)⟩)
        ·have fu:Hid (au typ (fun r=>aG (bO.mk 6 [] [] [fK ([ta]),r])) r4=Q):=hid ((aj hq4.out).symm.trans gU.out)
         obtain⟨e0,e1,e2,e3,ez⟩:=bK ko.out
         have PT:=hid (fun(w':World) (h:Turn (fun j=>j=bp) w4 w')=>(⟨aI e0 h (by omega),aI e1 h (by omega),aI e2 h (by omega),aI e3 h (by omega)⟩:w'.cell? ⟨w3.heap.size,0,none⟩=some (.int .i64 k0)∧w'.cell? ⟨w3.heap.size,1,none⟩=some (sv s0)∧w'.cell? ⟨w3.heap.size,2,none⟩=some (.slice J7 n10 c10)∧w'.cell? ⟨w3.heap.size,3,none⟩=some (.slice J8 n20 c20)))
         have HD0:Hid (Turn (fun j=>j=bp) w4 w4.drew):=hid ⟨rfl,rfl,rfl,Nat.le_refl _,fun _ _ _=>rfl⟩
         have zf:=hid (qR w4.drew bp B r4 jB.out)
         clear e0 e1 e2 e3 ez
         go_wp2_with fail
         refine bM (S:=fun w'=>Turn (fun j=>j=bp) w4 w') (x:=5) (by kernel_rfl) ?_
         try simp only [Act.put,List.getElem_toArray,List.getElem_cons_zero,List.getElem_cons_succ,List.setIfInBounds_toArray,List.set_cons_zero,List.set_cons_succ]
         refine jW 0 (.agg #[.int .i64 k0,sv s0, .slice J7 n10 c10, .slice J8 n20 c20]) PT.out HD0.out (hQ:=eO rfl (by decide)) ?_
         refine tx 1 (.pointer (some ⟨bp,0,none⟩)) HD0.out (hQ:=eO rfl (by decide)) ?_
         refine ay (rs:=[2]) (by kernel_rfl) (by simp) ?_
         refine av.cons rfl (fun K hK=> ?_) (av.nil)
         go_simp
         refine(zf.out).mono ?_
         rintro e w5 h5
         rcases hq:typ r4 with g | ⟨x5,r5⟩
         ·obtain⟨rfl,tn,bn⟩:=h5.bF hq
          have t5:=aA HD0.out tn
          exact iB bn (aI xW.out t5 (by omega)) (aA fM.out t5) (fu.out.symm.trans (aB hq))
         ·obtain⟨v5,rfl,tn,⟨z5,rfl,AL⟩,kn⟩:=h5.aL hq
          obtain⟨k5,s5,uj,n15,c15,um,n25,uo,rfl⟩:=AL.shape'
          have fI:=hid (aA HD0.out tn)
          have hs5:=fI.out.size
          have lQ:=hid kn
          have uW:=hid (AL.mono (G:=fun j=>w1.heap.size≤j) (fun g _ h=>by have h:w4.heap.size≤g:=h;omega))
          have gK:Hid (Pr.good (bO.mk 6 [] [] [fK ([ta]),x5]) r5=Q):=hid ((aj hq).symm.trans fu.out)
          clear h5 tn AL kn hq
          refine hK.out _ _ fI.out ?_
          clear hK K
          try simp only [Act.put,List.getElem_toArray,List.getElem_cons_zero,List.getElem_cons_succ,List.setIfInBounds_toArray,List.set_cons_zero,List.set_cons_succ]
          refine ay (rs:=[3]) (by kernel_rfl) (by simp) ?_
          refine av.cons rfl (fun K hK=> ?_) (av.nil)
          go_simp
          have lF:=hid (aA fI.out (Turn.alloc (fun k=>k=bp) w5 (.cells #[.int .i64 k0,sv s0, .slice J7 n10 c10, .slice J8 n20 c20, .int .i64 k5,sv s5, .slice uj n15 c15, .slice um n25 uo] 63)))
          refine hK.out _ _ lF.out ?_
          clear hK K
          try simp only [Act.put,List.getElem_toArray,List.getElem_cons_zero,List.getElem_cons_succ,List.setIfInBounds_toArray,List.set_cons_zero,List.set_cons_succ]
          refine tx 4 (.agg #[.int .i64 6, .string ⟨#[]⟩, .slice none 0 0, .slice (some ⟨w5.heap.size,0,none⟩) 2 2]) lF.out (hQ:=eO rfl (by decide)) ?_
          have AO:=hid (ah oQ.out lF.out (by omega))
          obtain⟨c0,c1,c2,c3,cz⟩:=bK AO.out
          refine ay (rs:=[5]) (by kernel_rfl) (by simp) ?_
          refine av.past rfl (by kernel_rfl) (fun K hK=> ?_) (av.nil)
          go_simp
          refine hK.out _ _ ?_
          clear hK K
          try simp only [Act.put,List.getElem_toArray,List.getElem_cons_zero,List.getElem_cons_succ,List.setIfInBounds_toArray,List.set_cons_zero,List.set_cons_succ]
          refine aO (by kernel_rfl) ?_ _
          have tA:=Turn.alloc (fun _=>False) w5 (.cells #[.int .i64 k0,sv s0, .slice J7 n10 c10, .slice J8 n20 c20, .int .i64 k5,sv s5, .slice uj n15 c15, .slice um n25 uo] 63)
          have tF:=dx (w5.alloc (.cells #[.int .i64 k0,sv s0, .slice J7 n10 c10, .slice J8 n20 c20, .int .i64 k5,sv s5, .slice uj n15 c15, .slice um n25 uo] 63)) w.heap.size (.int .i64 6) (sv []) (.slice none 0 0) (.slice (some ⟨w5.heap.size,0,none⟩) 2 2)
          have y1:=((J9.out.turn fI.out (fun g _ h e=>by omega)).turn tA (fun _ _ _=>id)).turn tF (fun g _ h e=>by omega)
          have y2:=(uW.out.turn tA (fun _ _ _=>id)).turn tF (fun g _ h e=>by omega)
          have y3:=(iA w5 #[.int .i64 k0,sv s0, .slice J7 n10 c10, .slice J8 n20 c20, .int .i64 k5,sv s5, .slice uj n15 c15, .slice um n25 uo] 63 4 2 rfl (by decide)).turn tF (fun g _ h e=>by omega)
          go_wp2_with fail
          exact gJ (fun w9 t9=>aW rfl rfl (ah (aV AO.out _ _ _ _) t9 (by omega)) Tryz.underlying63 rfl (by kernel_rfl)) ((lQ.out.below (new1 _ _)).sK (by omega)) h0 h1 (aI (aI xW.out lF.out (by omega)) tF (by omega)) (iN (aA fM.out lF.out) (by omega)) gK.out.symm
           (fun w9 t9=>⟨_,rfl, .mk (dh.nil _ _ _) ((y3.turn t9 (fun g _ h e=>by omega)).mono (fun g _ h=>by omega)) (.cons ((y1.turn t9 (fun g _ h e=>by omega)).mono (fun g _ h=>by omega)) (.cons ((y2.turn t9 (fun g _ h e=>by omega)).mono (fun g _ h=>by omega)) .nil))⟩)
      | cons xR l2=>
       have hgt:decide ((1:Int)<(l2.length:Int)+1+1)=true:=by simp;omega
       obtain⟨xsu,Yw,Yx⟩:=mV.out.sl aX
       have Zy:=hid Yw
       have Zz:=hid Yx
       clear Yw Yx
       have HN:=hid (iX (w3.alloc (.cells #[.int .i64 7, .string ⟨#[]⟩, .slice none 0 0, .slice (some ⟨g0,0,none⟩) (l2.length+1+1) cl] 63)) bp B r3 (d+1) (jm.out.below (new1 _ _)) [45,62])
       go_wp2_with fail
       refine(HN.out).mono ?_
       rintro e w4 h4
       rcases hq:dN [45,62] r3 with g | ⟨b,r4⟩
       ·obtain⟨rfl,tn,bn⟩:=h4.bF hq
        exact(fP hq).elim
       ·obtain⟨v4,rfl,tn,rfl,kn⟩:=h4.aL hq
        obtain⟨tm,RU,hbt⟩:=bq tn
        have ko:=hid (hbt (by omega))
        have hq4:=hid hq
        have xW:=hid (aI UC.out tm (by omega))
        have J9:Hid (kD w4 (fun j=>w1.heap.size≤j) [.int .i64 7, .string ⟨#[]⟩, .slice none 0 0, .slice (some ⟨g0,0,none⟩) (l2.length+1+1) cl] (fK (ta :: xR :: l2))):=hid (.mk (dh.nil _ _ _) ((Zy.out.turn tm (fun g _ h e=>by rcases h with h | h <;> omega)).mono (fun g _ h=>by rcases h with h | h <;> omega)) (nK (dB aX (fun g _ h=>by rcases h with h | h <;> omega) (bA aX tm (fun g _ h e=>by rcases h with h | h <;> omega) Zz.out))))
        clear hbt
        have hs4:=tm.size
        have fM:=hid (aA HT3.out tm)
        have jB:=hid kn
        have oQ:=hid (ah zO.out tm (by omega))
        clear h4 tn kn hq
        cases b
        ·have fu:Hid (Pr.good (fK (ta :: xR :: l2)) r4=Q):=hid ((aj hq4.out).symm.trans gU.out)
         obtain⟨e0,e1,e2,e3,ez⟩:=bK ko.out
         obtain⟨c0,c1,c2,c3,cz⟩:=bK oQ.out
         go_wp2_with fail
         have tF:=dx w4 w.heap.size (.int .i64 7) (.string ⟨#[]⟩) (.slice none 0 0) (.slice (some ⟨g0,0,none⟩) (l2.length+1+1) cl)
         exact gJ (fun w9 t9=>aW rfl rfl (ah (aV oQ.out _ _ _ _) t9 (by omega)) Tryz.underlying63 rfl (by kernel_rfl)) (jB.out.sK (by omega)) h0 h1 (aI xW.out tF (by omega)) (iN fM.out (by omega)) fu.out.symm
          (fun w9 t9=>⟨[.int .i64 7, .string ⟨#[]⟩, .slice none 0 0, .slice (some ⟨g0,0,none⟩) (l2.length+1+1) cl],rfl,((J9.out.turn tF (fun g _ h e=>by omega)).turn t9 (fun g _ h e=>by omega)).mono (fun g _ h=>by omega)⟩)
        ·have fu:Hid (au typ (fun r=>aG (bO.mk 6 [] [] [fK (ta :: xR :: l2),r])) r4=Q):=hid ((aj hq4.out).symm.trans gU.out)
         obtain⟨e0,e1,e2,e3,ez⟩:=bK ko.out
         have PT:=hid (fun(w':World) (h:Turn (fun j=>j=bp) w4 w')=>(⟨aI e0 h (by omega),aI e1 h (by omega),aI e2 h (by omega),aI e3 h (by omega)⟩:w'.cell? ⟨w3.heap.size,0,none⟩=some (.int .i64 7)∧w'.cell? ⟨w3.heap.size,1,none⟩=some (.string ⟨#[]⟩)∧w'.cell? ⟨w3.heap.size,2,none⟩=some (.slice none 0 0)∧w'.cell? ⟨w3.heap.size,3,none⟩=some (.slice (some ⟨g0,0,none⟩) (l2.length+1+1) cl)))
         have HD0:Hid (Turn (fun j=>j=bp) w4 w4.drew):=hid ⟨rfl,rfl,rfl,Nat.le_refl _,fun _ _ _=>rfl⟩
         have zf:=hid (qR w4.drew bp B r4 jB.out)
         clear e0 e1 e2 e3 ez
         go_wp2_with fail
         refine bM (S:=fun w'=>Turn (fun j=>j=bp) w4 w') (x:=5) (by kernel_rfl) ?_
         try simp only [Act.put,List.getElem_toArray,List.getElem_cons_zero,List.getElem_cons_succ,List.setIfInBounds_toArray,List.set_cons_zero,List.set_cons_succ]
         refine jW 0 (.agg #[.int .i64 7, .string ⟨#[]⟩, .slice none 0 0, .slice (some ⟨g0,0,none⟩) (l2.length+1+1) cl]) PT.out HD0.out (hQ:=eO rfl (by decide)) ?_
         refine tx 1 (.pointer (some ⟨bp,0,none⟩)) HD0.out (hQ:=eO rfl (by decide)) ?_
         refine ay (rs:=[2]) (by kernel_rfl) (by simp) ?_
         refine av.cons rfl (fun K hK=> ?_) (av.nil)
         go_simp
         refine(zf.out).mono ?_
         rintro e w5 h5
         rcases hq:typ r4 with g | ⟨x5,r5⟩
         ·obtain⟨rfl,tn,bn⟩:=h5.bF hq
          have t5:=aA HD0.out tn
          exact iB bn (aI xW.out t5 (by omega)) (aA fM.out t5) (fu.out.symm.trans (aB hq))
         ·obtain⟨v5,rfl,tn,⟨z5,rfl,AL⟩,kn⟩:=h5.aL hq
          obtain⟨k5,s5,uj,n15,c15,um,n25,uo,rfl⟩:=AL.shape'
          have fI:=hid (aA HD0.out tn)
          have hs5:=fI.out.size
          have lQ:=hid kn
          have uW:=hid (AL.mono (G:=fun j=>w1.heap.size≤j) (fun g _ h=>by have h:w4.heap.size≤g:=h;omega))
          have gK:Hid (Pr.good (bO.mk 6 [] [] [fK (ta :: xR :: l2),x5]) r5=Q):=hid ((aj hq).symm.trans fu.out)
          clear h5 tn AL kn hq
          refine hK.out _ _ fI.out ?_
          clear hK K
          try simp only [Act.put,List.getElem_toArray,List.getElem_cons_zero,List.getElem_cons_succ,List.setIfInBounds_toArray,List.set_cons_zero,List.set_cons_succ]
          refine ay (rs:=[3]) (by kernel_rfl) (by simp) ?_
          refine av.cons rfl (fun K hK=> ?_) (av.nil)
          go_simp
          have lF:=hid (aA fI.out (Turn.alloc (fun k=>k=bp) w5 (.cells #[.int .i64 7, .string ⟨#[]⟩, .slice none 0 0, .slice (some ⟨g0,0,none⟩) (l2.length+1+1) cl, .int .i64 k5,sv s5, .slice uj n15 c15, .slice um n25 uo] 63)))
          refine hK.out _ _ lF.out ?_
          clear hK K
          try simp only [Act.put,List.getElem_toArray,List.getElem_cons_zero,List.getElem_cons_succ,List.setIfInBounds_toArray,List.set_cons_zero,List.set_cons_succ]
          refine tx 4 (.agg #[.int .i64 6, .string ⟨#[]⟩, .slice none 0 0, .slice (some ⟨w5.heap.size,0,none⟩) 2 2]) lF.out (hQ:=eO rfl (by decide)) ?_
          have AO:=hid (ah oQ.out lF.out (by omega))
          obtain⟨c0,c1,c2,c3,cz⟩:=bK AO.out
          refine ay (rs:=[5]) (by kernel_rfl) (by simp) ?_
          refine av.past rfl (by kernel_rfl) (fun K hK=> ?_) (av.nil)
          go_simp
          refine hK.out _ _ ?_
          clear hK K
          try simp only [Act.put,List.getElem_toArray,List.getElem_cons_zero,List.getElem_cons_succ,List.setIfInBounds_toArray,List.set_cons_zero,List.set_cons_succ]
          refine aO (by kernel_rfl) ?_ _
          have tA:=Turn.alloc (fun _=>False) w5 (.cells #[.int .i64 7, .string ⟨#[]⟩, .slice none 0 0, .slice (some ⟨g0,0,none⟩) (l2.length+1+1) cl, .int .i64 k5,sv s5, .slice uj n15 c15, .slice um n25 uo] 63)
          have tF:=dx (w5.alloc (.cells #[.int .i64 7, .string ⟨#[]⟩, .slice none 0 0, .slice (some ⟨g0,0,none⟩) (l2.length+1+1) cl, .int .i64 k5,sv s5, .slice uj n15 c15, .slice um n25 uo] 63)) w.heap.size (.int .i64 6) (sv []) (.slice none 0 0) (.slice (some ⟨w5.heap.size,0,none⟩) 2 2)
          have y1:=((J9.out.turn fI.out (fun g _ h e=>by omega)).turn tA (fun _ _ _=>id)).turn tF (fun g _ h e=>by omega)
          have y2:=(uW.out.turn tA (fun _ _ _=>id)).turn tF (fun g _ h e=>by omega)
          have y3:=(iA w5 #[.int .i64 7, .string ⟨#[]⟩, .slice none 0 0, .slice (some ⟨g0,0,none⟩) (l2.length+1+1) cl, .int .i64 k5,sv s5, .slice uj n15 c15, .slice um n25 uo] 63 4 2 rfl (by decide)).turn tF (fun g _ h e=>by omega)
          go_wp2_with fail
          exact gJ (fun w9 t9=>aW rfl rfl (ah (aV AO.out _ _ _ _) t9 (by omega)) Tryz.underlying63 rfl (by kernel_rfl)) ((lQ.out.below (new1 _ _)).sK (by omega)) h0 h1 (aI (aI xW.out lF.out (by omega)) tF (by omega)) (iN (aA fM.out lF.out) (by omega)) gK.out.symm
           (fun w9 t9=>⟨_,rfl, .mk (dh.nil _ _ _) ((y3.turn t9 (fun g _ h e=>by omega)).mono (fun g _ h=>by omega)) (.cons ((y1.turn t9 (fun g _ h e=>by omega)).mono (fun g _ h=>by omega)) (.cons ((y2.turn t9 (fun g _ h e=>by omega)).mono (fun g _ h=>by omega)) .nil))⟩)
    ·have gU:Hid (au (lW typ) (fun a=>mq typ f (l++[a])) r3=A):=hid ((aj hq3.out).symm.trans RX.out)
     have NI:=hid (pR hq3.out Vs.out)
     have HP:=hid (Cv (d+1) typ qR hsf w3 bp B r3 jm.out)
     go_wp2_with fail
     refine(HP.out).mono ?_
     rintro e w4 h4
     rcases hq:lW typ r3 with g | ⟨t4,r4⟩
     ·obtain⟨rfl,tn,bn⟩:=h4.bF hq
      clear h4
      have bY:=hid (Jh.out.symm.trans (congrArg (fun q=>Q8 q _) (gU.out.symm.trans (aB hq))))
      have oq:=hid ((aA HT3.out tn))
      have hxo:=(aI UC.out tn (by omega))
      have nO:=hid bn
      clear tn bn hq
      go_wp2_with fail
      exact iB nO.out hxo oq.out bY.out
     ·obtain⟨v4,rfl,tn,⟨z4,rfl,hz⟩,kn⟩:=h4.aL hq
      obtain⟨k4,s4,lI,n14,c14,lJ,n24,c24,rfl⟩:=hz.shape'
      have xW:=hid (aI UC.out tn (by omega))
      have vU:=hid hz
      have wM:=hid tn
      have RV:=hid ((Sf.yY hsf).good jm.out.wf hq).2.length_le
      clear hz
      have hs4:=tn.size
      have fM:=hid (aA HT3.out tn)
      have jB:=hid kn
      have fu:Hid (mq typ f (l++[t4]) r4=A):=hid ((aj hq).symm.trans gU.out)
      have oQ:=hid (ah zO.out tn (by omega))
      clear h4 tn kn hq
      obtain⟨ys,hy,hrr⟩:=mV.out
      have hyl:ys.length=l.length*4:=hy.1
      have RY:=bT hy wM.out (fun g hg e=>by have:=(hy.lt g hg).1;omega)
      have HY:=hid hy
      have HRR:=hid hrr
      have Vu:=hid RY
      have Vv:l.length≤8194:=by have:=L6.out;omega
      clear hy hrr RY
      go_wp2_with (at_builtin;go_must (refine gN rfl (.tmp 14) (.tmp 17) _ rfl w1.heap.size xP _ _ rfl rfl (Vu.out.alloc (.cells #[.int .i64 k4,sv s4, .slice lI n14 c14, .slice lJ n24 c24] 63)) (fD w4 #[.int .i64 k4,sv s4, .slice lI n14 c14, .slice lJ n24 c24] 63 4 1 rfl (by decide)) (FZ k4 s4 _ _ _ _ _ _) (by simp [maxLen];omega) (by simp;omega) (by simp;omega) (fun v9 w9 n9 gu uU lM=> ?_));have sM:=hid gu;have L9:=hid uU;have AP:=hid lM;clear gu uU lM)
      have ta:=Turn.alloc (fun j=>(Value.slice Al l.length cl).ownBlock=some j) w4 (.cells #[.int .i64 k4,sv s4, .slice lI n14 c14, .slice lJ n24 c24] 63)
      have t9:=ta.trans (Turn.bf L9.out (F:=fun j=>(Value.slice Al l.length cl).ownBlock=some j) (fun _ h=>h)) (fun _ _ h=>h)
      have EG:=mV.out.lt
      have xX:=fF.push aX (F:=fun j=>w1.heap.size≤j) HY.out HRR.out wM.out vU.out t9 (fun j _ h=> .inl h) (AP.out.imp id fun e=>⟨_,by simp,e⟩) sM.out (by omega) (by omega) (fun j hj=>by omega)
      go_roundw
      case rel=>exact⟨f, _,r4,xX,by simp,fu.out,by have:=RV.out;have:=NI.out;have:=HF.out;omega,by have:=RV.out;have:=NI.out;have:=L6.out;simp;omega,fM.out.trans t9 (fun i hi e=>by have:=(EG i e).1;omega),by have:=t9.size;omega,jB.out.turn t9 (fun e=>by have:=(EG _ e).1;omega) (fun k hk e=>by have:=(EG _ e).1;omega),aI xW.out t9 (fun e=>by have:=(EG _ e).1;omega),ah oQ.out t9 (fun e=>by have:=(EG _ e).1;omega)⟩
      case measure=>rw [(jB.out.turn t9 (fun e=>by have:=(EG _ e).1;omega) (fun k hk e=>by have:=(EG _ e).1;omega)).left,Q9.out];have:=RV.out;have:=NI.out;omega
theorem Ka:sH 100 (ji 6):=by
 intro w bp B ts h
 have HE:=hid (qQ (w.alloc (.cells #[.int .i64 0, .string ⟨#[]⟩, .slice none 0 0, .slice none 0 0] 63)) bp B ts (h.below (new1 _ _)))
 clear h
 go_enter_defers Tryz.func53,Tryz.ntmps53
 go_wp2_with fail
 refine(HE.out).mono ?_
 rintro e w1 ⟨rfl,hb⟩
 go_wp2_with fail
 exact aD.fail (P:=Ux w.heap.size) (B:=B) (d:=100) (q:=ji 6 ts) rfl ⟨(bq hb.1).1,hb.2⟩
theorem wN:∀n:Nat,n≤100→sH (100 - (n:Int)) (bg n).typ
 | 0, _=>Ka
 | n+1,h=>by
  have ih:=wN n (by omega)
  have e:(100:Int) - ((n+1:Nat):Int)+1=100 - (n:Int):=by omega
  refine J5 (100 - ((n+1:Nat):Int)) (by omega) (by omega) (bg n).typ ?_ (Sf.xA n).1
  rw [e];exact ih
end Go.Proofs.YtmbppnbekkbibaaGreatDoor
end
