/- FK, FL, FM -/
import Derived.Test.YtfgjkmipfikooaaGreatDoorTTQ
import Derived.Test.YtfgjkmipfikooaaGreatDoorTT05
import Derived.Test.YtfgjkmipfikooaaGreatDoorTT01
set_option linter.unusedSimpArgs false
set_option linter.unusedVariables false
set_option maxRecDepth 100000
set_option maxHeartbeats 8000000
namespace Go.Proofs.YtfgjkmipfikooaaGreatDoor
open Go.RowKit
def uj (d:Int) (typ:Ps bT):Prop:=∀(w:World) (bp B:Nat) (ts:List aD),bK w bp B ts d→
 Calls Tryz.prog 54 #[.pointer (some ⟨bp,0,none⟩)] w (aF (OG w.heap.size) bp B d w (typ ts))
structure ku (pb tb base bp:Nat) (w:World) (l1:List Bt) (l2:List bT) (v1 v2:Value):Prop where
 box:w.heap[pb]? =some (.cells #[.pointer (some ⟨bp,0,none⟩)] 91 (0,0))
 blk:w.heap[tb]? =some (.cells #[.int .i64 5,sv [],v1,v2] 57 (0,0))
 nL:gI w base 9 v1 l1
 kid:fu jR 4 57 w base (fun j=>base≤j∧v1.ownBlock≠some j) v2 l2
 ne:∀g,v1.ownBlock=some g→v2.ownBlock≠some g
structure um (pb tb base bp:Nat) (w:World):Prop where
 Bf:bp<pb
 DZ:bp<tb
 Gf:pb<base
 J2:tb<base
 ne:pb≠tb
 FD:base≤w.heap.size
theorem um.turn {pb tb base bp:Nat} {w w':World} {G:Nat→Prop} (h:um pb tb base bp w) (t:Turn G w w'):um pb tb base bp w':={ h with FD:=Nat.le_trans h.FD t.size}
theorem ku.turn {pb tb base bp:Nat} {w w':World} {l1:List Bt} {l2:List bT} {v1 v2:Value} (h:ku pb tb base bp w l1 l2 v1 v2) (p:um pb tb base bp w) (t:Turn (fun k=>k=bp) w w'):ku pb tb base bp w' l1 l2 v1 v2:=by
 have:=p.Bf;have:=p.DZ;have:=p.Gf;have:=p.J2;exact⟨ah h.box t (by omega),ah h.blk t (by omega),h.nL.turn t (fun g hg e=>by have:=(h.nL.lt g hg).1;omega),h.kid.turn aO t (fun g hg e=>by have:=(h.kid.lt g hg).1;omega) (fun g _ hg e=>by have:=hg.1;omega),h.ne⟩
theorem ku.name {pb tb base bp:Nat} {w w7:World} {l1:List Bt} {l2:List bT} {v1 v2 v7:Value} {o:Obj} {s:Bt} (h:ku pb tb base bp w l1 l2 v1 v2) (p:um pb tb base bp w)
  (h7:gI w7 base 9 v7 (l1++[s])) (hg:(w.alloc o).grownBy w7 v1.ownBlock) (hbk:v7.ownBlock=v1.ownBlock∨v7.ownBlock=some (w.alloc o).heap.size):
  ku pb tb base bp (w7.setCell ⟨tb,2,none⟩ v7) (l1++[s]) l2 v7 v2∧Turn (fun j=>v1.ownBlock=some j∨j=tb) w (w7.setCell ⟨tb,2,none⟩ v7):=by
 have:=p.Gf;have:=p.J2;have hne:=p.ne;have hbs:=p.FD;have t7:Turn (fun j=>v1.ownBlock=some j) w w7:=(Turn.alloc _ _ _).trans (Turn.bA hg (fun k h=>h)) (fun _ _ h=>h);have t8:=ak w7 tb 2 v7;have hs:(w.alloc o).heap.size=w.heap.size+1:=by simp
 have hlt:=h.nL.lt;have hk:=h.kid;have hkl:=hk.lt
 have k1:fu jR 4 57 w base (fun j=>(base≤j∧v1.ownBlock≠some j)∧v7.ownBlock≠some j) v2 l2:=hk.mono aO fun g hg h=>⟨h,fun e=>by
  rcases hbk with hb | hb
  ·rw [hb]at e;exact h.2 e
  ·rw [hb,hs]at e;injection e with e;omega⟩
 have k7:=k1.turn aO t7 (fun g hg e=>h.ne g e hg) (fun g _ hg e=>hg.1.2 e);have k8:=k7.turn aO t8 (fun g hg e=>by have:=(hkl g hg).1;omega) (fun g _ hg e=>by have:=hg.1.1;omega);refine⟨⟨ah (ah h.box t7 (fun e=>by have:=(hlt _ e).1;omega)) t8 hne,heap_setCell_same _ _ 2 _ _ _ (ah h.blk t7 (fun e=>by have:=(hlt _ e).1;omega)),h7.turn t8 (fun g hg e=>by have:=(h7.lt g hg).1;omega),k8.mono aO fun g _ h=>⟨h.1.1,h.2⟩,fun g e=> ?_⟩,(t7.mono (G:=fun j=>v1.ownBlock=some j∨j=tb) fun _ _ h=> .inl h).trans t8 (fun _ _ h=> .inr h)⟩;rcases hbk with hb | hb
 ·rw [hb]at e;exact h.ne g e
 ·rw [hb,hs]at e;injection e with e;intro e2;have:=(hkl g e2).2;omega
theorem ku.type {pb tb base bp:Nat} {w w6 w8:World} {l1:List Bt} {l2:List bT} {v1 v2 v7:Value} {z:List Value} {x:bT} (h:ku pb tb base bp w l1 l2 v1 v2) (p:um pb tb base bp w)
  (t:Turn (fun k=>k=bp) w w6) (hx:jR w6 (fun j=>w.heap.size≤j) z x) (t8:Turn (fun j=>v2.ownBlock=some j∨j=tb) w6 w8) {ys:List Value} {n7:Nat} (hy:w.ownsRow base 57 4 v2 l2.length ys) (hr:eD (jR w (nD (fun j=>base≤j∧v1.ownBlock≠some j) v2)) 4 ys l2)
  (h7:w8.ownsRow base 57 4 v7 n7 (ys++z)) (hbk:v7.ownBlock=v2.ownBlock∨∃m,w6.heap.size≤m∧v7.ownBlock=some m) (hb:w8.heap[tb]? =some (.cells #[.int .i64 5,sv [],v1,v7] 57 (0,0))):
  ku pb tb base bp w8 l1 (l2++[x]) v1 v7:=by
 have:=p.Gf;have:=p.J2;have hne:=p.ne;have hbs:=p.FD;have:=p.Bf;have:=p.DZ;have h6:=h.turn p t;have hlt:=h.nL.lt;have hkl:=h.kid.lt;have hs6:=t.size;refine⟨ah h6.box t8 (fun e=> ?_),hb,h6.nL.turn t8 (fun g hg e=> ?_), ?_,fun g e=> ?_⟩
 ·rcases e with e | e
  ·have:=(hkl _ e).1;omega
  ·exact hne e
 ·rcases e with e | e
  ·exact h.ne g hg e
  ·have:=(hlt g hg).1;omega
 ·exact fu.push aO (F:=fun j=>base≤j∧v1.ownBlock≠some j) hy hr t hx t8 (fun j _ e=>by
   rcases e with e | e
   ·exact .inl e
   ·exact .inr ⟨fun h=>by have:=h.1;omega,by omega⟩) hbk h7 (by omega) (fun h=>by have:=h.1;omega) (fun j hj=>⟨by omega,fun e=>by have:=(hlt j e).2;omega⟩)
 ·have hg1:=(hlt g e).2;rcases hbk with hb | ⟨m,hm,hb⟩
  ·rw [hb];exact h.ne g e
  ·rw [hb];intro e2;injection e2 with e2;omega
def Iq (pb tb base bp:Nat) (w:World) (l:List (Bt ×bT)):Prop:=∃v1 v2,ku pb tb base bp w (l.map (·.1)) (l.map (·.2)) v1 v2
theorem ku.Q9 {pb tb base bp g:Nat} {w w6 w7:World} {l1:List Bt} {l2:List bT} {v1 v2 v7:Value} {z:List Value} {x:bT} (h:ku pb tb base bp w l1 l2 v1 v2) (p:um pb tb base bp w)
  (t:Turn (fun k=>k=bp) w w6) (hx:jR w6 (fun j=>w.heap.size≤j) z x) {ys zs:List Value} {n7:Nat} (hy:w.ownsRow base 57 4 v2 l2.length ys) (hr:eD (jR w (nD (fun j=>base≤j∧v1.ownBlock≠some j) v2)) 4 ys l2) (hzs:zs.length=4)
  (h7:w7.ownsRow base 57 4 v7 n7 (ys++zs)) (hg:w6.grownBy w7 v2.ownBlock) (hbk:v7.ownBlock=v2.ownBlock∨v7.ownBlock=some w6.heap.size) (hv:v7.ownBlock=some g):
  (ku pb tb base bp ((kr w7 g (l2.length*4) z).setCell ⟨tb,3,none⟩ v7) l1 (l2++[x]) v1 v7∧Turn (fun k=>k=bp∨tb≤k) w ((kr w7 g (l2.length*4) z).setCell ⟨tb,3,none⟩ v7))∧
  (ku pb tb base bp (kr (w7.setCell ⟨tb,3,none⟩ v7) g (l2.length*4) z) l1 (l2++[x]) v1 v7∧Turn (fun k=>k=bp∨tb≤k) w (kr (w7.setCell ⟨tb,3,none⟩ v7) g (l2.length*4) z)):=by
 have:=p.Gf;have q1:=p.J2;have hne:=p.ne;have hbs:=p.FD;have:=p.Bf;have:=p.DZ;have hz:z.length=4:=by
  obtain⟨_, _, _, _, _, _, _, _,rfl⟩:=hx.shape';rfl
 have hyl:ys.length=l2.length*4:=hy.1;have hs6:=t.size;have iC:=h7.lt g hv;have h6:=h.turn p t;have tg:=Turn.bA hg (F:=fun j=>v2.ownBlock=some j) (fun k h=>h);have hkl:=h.kid.lt;have hgn:∀j,j<w6.heap.size→j=g→v2.ownBlock=some j:=fun j hj e=>by
  subst e;rcases hbk with hb | hb
  ·rw [←hb];exact hv
  ·rw [hb]at hv;injection hv with hv;omega
 have hbk':v7.ownBlock=v2.ownBlock∨∃m,w6.heap.size≤m∧v7.ownBlock=some m:=hbk.imp id fun e=>⟨_,Nat.le_refl _,e⟩
 have iQ:=ah h6.blk tg (fun e=>by have:=(hkl _ e).1;omega);have tp:=fun(w:World)=>fA g z w (l2.length*4);have ts:=fun(w:World)=>ak w tb 3 v7
 have tA:Turn (fun j=>v2.ownBlock=some j∨j=tb) w6 ((kr w7 g (l2.length*4) z).setCell ⟨tb,3,none⟩ v7):=
  ((tg.mono (G:=fun j=>v2.ownBlock=some j∨j=tb) fun _ _ h=> .inl h).trans (tp w7) (fun i hi e=> .inl (hgn i hi e))).trans (ts _) (fun _ _ h=> .inr h)
 have tB:Turn (fun j=>v2.ownBlock=some j∨j=tb) w6 (kr (w7.setCell ⟨tb,3,none⟩ v7) g (l2.length*4) z):=
  ((tg.mono (G:=fun j=>v2.ownBlock=some j∨j=tb) fun _ _ h=> .inl h).trans (ts _) (fun _ _ h=> .inr h)).trans (tp _) (fun i hi e=> .inl (hgn i hi e))
 have hw:∀w8,Turn (fun j=>v2.ownBlock=some j∨j=tb) w6 w8→Turn (fun k=>k=bp∨tb≤k) w w8:=fun w8 t8=>(t.mono (G:=fun k=>k=bp∨tb≤k) fun _ _ h=> .inl h).trans t8 (fun i _ e=>by
  rcases e with e | e
  ·have:=(hkl i e).1;exact .inr (by omega)
  ·exact .inr (by omega))
 have hyA:((kr w7 g (l2.length*4) z).setCell ⟨tb,3,none⟩ v7).ownsRow base 57 4 v7 n7 (ys++z):=dK (xR h7 hv (by omega) hyl) (ts _) (fun k hk e=>by rw [hv]at hk;injection hk with hk;omega);have hyB:(kr (w7.setCell ⟨tb,3,none⟩ v7) g (l2.length*4) z).ownsRow base 57 4 v7 n7 (ys++z):=xR (dK h7 (ts _) (fun k hk e=>by rw [hv]at hk;injection hk with hk;omega)) hv (by omega) hyl;exact⟨⟨h.type p t hx tA hy hr hyA hbk' (heap_setCell_same _ _ 3 _ _ _ (ah iQ (tp _) (by omega))),hw _ tA⟩,⟨h.type p t hx tB hy hr hyB hbk' (ah (heap_setCell_same _ _ 3 _ _ _ iQ) (tp _) (by omega)),hw _ tB⟩⟩
theorem J3 (d:Int) (typ:Ps bT) (pK:uj d typ) (w:World) (bp B pb tb base:Nat) (ts:List aD) (l:List (Bt ×bT)) (hl:l.length≤8193) (h:bK w bp B ts d) (hI:Iq pb tb base bp w l) (hP:um pb tb base bp w):
  Calls Tryz.prog 167 #[.pointer (some ⟨tb,0,none⟩), .pointer (some ⟨pb,0,none⟩)] w (dM (Iq pb tb base bp) (fun k=>k=bp∨tb≤k) bp B d w (nJ (jd typ) l ts)):=by
 obtain⟨v1,v2,hH⟩:=hI;have p1:=hP.Bf;have p2:=hP.DZ;have p3:=hP.Gf;have p4:=hP.J2;have p5:=hP.ne;have p6:=hP.FD;have HN:=hid (fH w.drew bp B ts d h);have hbx:=bQ hH.box;obtain⟨t0,t1,t2,t3,tz⟩:=aP hH.blk;obtain⟨A1,c1,hv1,hn1,hm1⟩:=hH.nL.ss.open_;obtain⟨A2,c2,hv2,hn2,hm2⟩:=hH.kid.shape;simp only [List.length_map]at hv1 hn1 hv2 hn2;subst hv1 hv2;have HH:=hid hH;have HP:=hid hP;obtain⟨Q,hQ⟩:∃Q,nJ (jd typ) l ts=Q:=⟨_,rfl⟩
 rw [hQ];have HQ:Hid (aj (jd typ) (fun x=>aG (l++[x])) ts=Q):=hid hQ;clear hH hP h hm1 hm2 hQ;have P0:=hid (fun(w':World) (h:Turn (fun j=>j=bp∨base≤j) w w')=>aH hbx h (by omega));have P2:=hid (fun(w':World) (h:Turn (fun j=>j=bp∨base≤j) w w')=>aH t2 h (by omega));have HD0:Hid (Turn (fun j=>j=bp∨base≤j) w w.drew):=hid ⟨rfl,rfl,rfl,Nat.le_refl _,fun _ _ _=>rfl⟩;have jW:Hid (Turn (fun j=>j=bp) w w.drew):=hid ⟨rfl,rfl,rfl,Nat.le_refl _,fun _ _ _=>rfl⟩;go_enter Tryz.func167,Tryz.ntmps167;go_wp2_with fail;refine bO (S:=fun w'=>Turn (fun j=>j=bp∨base≤j) w w') (x:=9) (by kernel_rfl) ?_
 try simp only [Act.put,sq]
 refine tx 0 (.pointer (some ⟨tb,2,none⟩)) HD0.out ?_;refine jq 1 (.slice A1 l.length c1) P2.out HD0.out ?_;refine jq 2 (.pointer (some ⟨bp,0,none⟩)) P0.out HD0.out ?_;refine tx 3 (.pointer (some ⟨bp,0,none⟩)) HD0.out ?_;refine tx 4 (.pointer (some ⟨bp,0,none⟩)) HD0.out ?_;refine ay (rs:=[5]) (by kernel_rfl) (by simp) ?_;refine av.cons rfl (fun K hK=> ?_) (av.nil);go_simp;refine(HN.out).mono ?_;rintro e w2 h2;rcases hq:nameP ts with g | ⟨s,r⟩
 ·obtain⟨rfl,t2,b2⟩:=h2.bM hq;have HT:=hid (((jW.out.trans t2 (fun _ _ h=>h)).mono (G:=fun k=>k=bp∨tb≤k) (fun _ _ h=> .inl h)));have HB:=hid b2;have lq:=hid (HQ.out.symm.trans (aB (aB hq)));clear h2 t2 b2 hq;exact⟨rfl,dM.fail lq.out HT.out HB.out⟩
 ·obtain⟨v,rfl,Ra,rfl,k2⟩:=h2.aL hq;have uo:=jW.out.trans Ra (fun _ _ h=>h);have HT2:=hid (uo.mono (G:=fun j=>j=bp∨base≤j) (fun _ _ h=> .inl h));have Tw:=hid uo;have iR:=hid k2;have LZ:=hid (HH.out.turn HP.out uo);have FE:=hid (HP.out.turn uo);have lq:Hid (aj (aj (aI [58]) fun _=>aj typ fun t=>aG (s,t)) (fun x=>aG (l++[x])) r=Q):=hid ((gD (p:=nameP) hq).symm.trans HQ.out);clear h2 Ra k2 hq uo;refine hK.out _ _ HT2.out ?_;clear hK K
  try simp only [Act.put,sq]
  refine ay (rs:=[6]) (by kernel_rfl) (by simp) ?_;refine av.cons rfl (fun K hK=> ?_) (av.nil);go_simp;have HT3:=hid (HT2.out.trans (Turn.alloc (fun j=>j=bp∨base≤j) w2 (.cells #[sv s] 9)) (fun _ _ h=>h));refine hK.out _ _ HT3.out ?_;clear hK K
  try simp only [Act.put,sq]
  refine ay (rs:=[7]) (by kernel_rfl) (by simp) ?_;refine av.cons rfl (fun K hK=> ?_) (av.nil);have dV:=hid (LZ.out.nL.alloc (.cells #[sv s] 9));have DL:=hid (rP w2 s 9);have hlen:(lG (l.map (·.1))).length=l.length:=by simp [lG]
  refine fq rfl (.tmp 3) (.tmp 8) _ rfl base rX (.slice A1 l.length c1) (.slice (some ⟨w2.heap.size,0,none⟩) 1 1) rfl rfl dV.out.row DL.out (tC _) (by simp [lG,maxLen];omega) (by simp [lG];omega) (by have:=FE.out.FD;simp;omega) (fun v7 w7 n7 aN iC fO=> ?_);obtain⟨A7,c7,rfl, _, _⟩:=iy aN;obtain⟨Wd,Wh⟩:=LZ.out.name FE.out (o:= .cells #[sv s] 9) (s:=s) (w7:=w7) ⟨n7,by rw [lQ];exact aN⟩ iC fO;have Gg:=hid Wd;have kV:=hid Wh;have jg:=hid (HT3.out.trans (Turn.bA iC (F:=fun j=>j=bp∨base≤j) (fun k e=> .inr (dV.out.lt k e).1)) (fun _ _ h=>h));have t7:w7.cell? ⟨tb,2,none⟩=some (.slice A1 l.length c1):=P2.out _ jg.out;have z7:∀i,w7.frozen? ⟨tb,i,none⟩=false:=fun i=>by
   have hb:=ah (ah LZ.out.blk (Turn.alloc (fun _=>False) w2 (.cells #[sv s] 9)) id) (Turn.bA iC (F:=fun j=>base≤j) (fun k e=>(dV.out.lt k e).1)) (by omega);exact frozen_of_row _ _ _ _ _ hb
  clear Wd Wh aN iC fO hlen;refine hK.out _ _ jg.out ?_;clear hK K
  try simp only [Act.put,sq]
  refine tx 8 (.pointer (some ⟨tb,2,none⟩)) jg.out ?_;refine ay (rs:=[9]) (by kernel_rfl) (by simp) ?_;refine av.past rfl (by kernel_rfl) (fun K hK=> ?_) (av.nil);go_simp;refine hK.out _ _ ?_;clear hK K
  try simp only [Act.put,sq]
  refine aM (by kernel_rfl) ?_ _;have LH:=FE.out.turn kV.out
  have oZ:=iR.out.turn kV.out (fun e=>by rcases e with e | e;(have:=(LZ.out.nL.lt _ e).1;omega);omega) (fun k hk e=>by
   have:=iR.out.1;rcases e with e | e
   ·have:=(LZ.out.nL.lt _ e).1;omega
   ·omega)
  have Ir:=hid ((Tw.out.mono (G:=fun k=>k=bp∨tb≤k) (fun _ _ h=> .inl h)).trans kV.out (fun i _ e=>by
   rcases e with e | e
   ·have:=(LZ.out.nL.lt i e).1;exact .inr (by omega)
   ·exact .inr (by omega)))
  have yV:=hid LH;have pO:=hid oZ;have HW:=hid (eG _ bp B r d oZ [58] 9 _ rfl);generalize w7.setCell ⟨tb,2,none⟩ _=w8 at*
  have Wi:=bQ Gg.out.box;clear LH oZ jg kV t7 z7 HT3 DL dV HT2 LZ FE iR P0 P2 hbx t0 t1 t2 t3 tz;go_wp2_with fail;refine(HW.out).mono ?_;rintro e w9 h9;rcases hq:aI [58] r with g | ⟨u,r9⟩
  ·obtain⟨rfl,t9,b9⟩:=h9.bM hq;have HT:=hid (Ir.out.trans t9 (fun _ _ h=> .inl h));have HB:=hid b9;have jO:=hid (lq.out.symm.trans (aB (aB hq)));clear h9 t9 b9 hq;go_wp2_with fail;exact⟨rfl,dM.fail jO.out HT.out HB.out⟩
  ·obtain⟨v,rfl,t9, -,k9⟩:=h9.aL hq;have Zt:=Gg.out.turn yV.out t9;have VA:=hid Zt;have Wj:=hid (yV.out.turn t9);have pQ:=hid (Ir.out.trans t9 (fun _ _ h=> .inl h));have sS:=hid k9;have jO:Hid (aj (aj typ fun t=>aG (s,t)) (fun x=>aG (l++[x])) r9=Q):=hid ((gD (p:=aI [58]) hq).symm.trans lq.out);have Wm:=bQ Zt.box;obtain⟨s0,s1,s2,s3,sz⟩:=aP Zt.blk;have P0:=hid (fun(w':World) (h:Turn (fun j=>j=bp∨base≤j) w9 w')=>aH Wm h (by omega));have P3:=hid (fun(w':World) (h:Turn (fun j=>j=bp∨base≤j) w9 w')=>aH s3 h (by omega));have HD0:Hid (Turn (fun j=>j=bp∨base≤j) w9 w9.drew):=hid ⟨rfl,rfl,rfl,Nat.le_refl _,fun _ _ _=>rfl⟩;have jW:Hid (Turn (fun j=>j=bp) w9 w9.drew):=hid ⟨rfl,rfl,rfl,Nat.le_refl _,fun _ _ _=>rfl⟩;clear h9 t9 k9 hq Zt Wi Wm s0 s1 s2 s3 sz;go_wp2_with fail;refine bO (S:=fun w'=>Turn (fun j=>j=bp∨base≤j) w9 w') (x:=10) (by kernel_rfl) ?_
   try simp only [Act.put,sq]
   refine tx 0 (.pointer (some ⟨tb,3,none⟩)) HD0.out ?_;refine jq 1 (.slice A2 l.length c2) P3.out HD0.out ?_;refine jq 2 (.pointer (some ⟨bp,0,none⟩)) P0.out HD0.out ?_;refine tx 4 (.int .i64 l.length) HD0.out ?_;refine ay (rs:=[3,5]) (by kernel_rfl) (by simp) ?_;refine av.cons rfl (fun K hK=> ?_) (av.cons rfl (fun K hK=> ?_) av.nil)
   ·have nM:=jW;have zW:=hid (pK w9.drew bp B r9 sS.out);go_simp;refine(zW.out).mono ?_;rintro e pJ h10;rcases hq:typ r9 with g | ⟨x,pq⟩
    ·obtain⟨rfl,t10,b10⟩:=h10.bM hq;have HT:=hid (pQ.out.trans (nM.out.trans t10 (fun _ _ h=>h)) (fun _ _ h=> .inl h));have HB:=hid b10;have gQ:=hid (jO.out.symm.trans (aB (aB hq)));clear h10 t10 b10 hq;exact⟨rfl,dM.fail gQ.out HT.out HB.out⟩
    ·obtain⟨v,rfl,t10,⟨z,rfl,hz⟩,k10⟩:=h10.aL hq;obtain⟨kz,sz,lW,lX,lY,lZ,l6,l7,rfl⟩:=hz.shape';have kC:=hid (nM.out.trans t10 (fun _ _ h=>h));have sD:=hid (kC.out.mono (G:=fun j=>j=bp∨base≤j) (fun _ _ h=> .inl h));have sF:=hid k10;have gQ:Hid (Pr.good (l++[(s,x)]) pq=Q):=hid ((gD (p:=typ) hq).symm.trans jO.out);have HZ:=hid (hz.mono (G:=fun j=>w9.heap.size≤j) (fun _ _ h=>Nat.le_trans nM.out.size h));clear h10 t10 k10 hq hz;refine hK.out _ _ sD.out ?_;clear hK K
     try simp only [Act.put,sq]
     refine ay (rs:=[5]) (by kernel_rfl) (by simp) ?_;refine av.cons rfl (fun K hK=> ?_) (av.nil);go_simp;have jA:=hid (kC.out.trans (Turn.alloc (fun j=>j=bp) pJ (.cells #[.int .i64 0, .string ⟨#[]⟩, .slice none 0 0, .slice none 0 0] 57)) (fun _ _ h=>h));have O9:=hid (jA.out.mono (G:=fun j=>j=bp∨base≤j) (fun _ _ h=> .inl h));have Gh:=hid (HZ.out.turn (Turn.alloc (fun _=>False) pJ (.cells #[.int .i64 0, .string ⟨#[]⟩, .slice none 0 0, .slice none 0 0] 57)) (fun _ _ _=>id));have oI:=hid (sF.out.below (new1 pJ (.cells #[.int .i64 0, .string ⟨#[]⟩, .slice none 0 0, .slice none 0 0] 57)));have HSL:=hid (fU pJ #[.int .i64 0, .string ⟨#[]⟩, .slice none 0 0, .slice none 0 0] 57 4 1 rfl (by decide));refine hK.out _ _ O9.out ?_;clear hK K
     try simp only [Act.put,sq]
     refine ay (rs:=[6]) (by kernel_rfl) (by simp) ?_;refine av.cons rfl (fun K hK=> ?_) (av.nil);obtain⟨ys,hy,hr⟩:=VA.out.kid;have hyl:ys.length=l.length*4:=by have:=hy.1;simpa using this
     have dV:=hid (dK hy jA.out (fun g hg e=>by have:=(hy.lt g hg).1;omega));refine fq rfl (.tmp 17) (.tmp 21) _ rfl base uh (.slice A2 l.length c2) _ rfl rfl dV.out HSL.out xS (by simp [maxLen];omega) (by simp;omega) (by have:=Wj.out.FD;have:=jA.out.size;omega) (fun v7 w7 n7 aN iC fO=> ?_);have Bg:n7=l.length+1:=by have:=aN.1;rw [List.length_append,hyl]at this;simp at this;omega
     subst Bg;obtain⟨g7,c7,rfl,hgb,hgs,Tx,Rb⟩:=gH aN (by omega);have he:=VA.out.Q9 Wj.out jA.out Gh.out hy hr (by rfl) aN iC fO rfl;simp only [List.length_map]at he;have HE:=hid he;have iT:=hid ((jA.out.mono (G:=fun j=>j=bp∨base≤j) (fun _ _ h=> .inl h)).trans (Turn.bA iC (F:=fun j=>j=bp∨base≤j) (fun k e=> .inr (hy.lt k e).1)) (fun _ _ h=>h));have kP:=hid (oI.out.turn (Turn.bA iC (F:=fun j=>base≤j) (fun k e=>(hy.lt k e).1)) (by omega) (fun k hk e=>by have:=oI.out.1;omega));have iQ:w7.heap[tb]? =some (.cells #[.int .i64 5,sv [], _, .slice A2 l.length c2] 57 (0,0)):=ah VA.out.blk iT.out (by omega);obtain⟨e0,e1,e2,e3,ez⟩:=aP iQ;have o0:=aR aN rfl (i:=l.length*4) (u:= .int .i64 0) (by rw [List.getElem?_append_right (by omega),hyl,Nat.sub_self];rfl);have o1:=aR aN rfl (i:=l.length*4+1) (u:= .string ⟨#[]⟩) (by rw [List.getElem?_append_right (by omega),hyl,Nat.add_sub_cancel_left];rfl);have o2:=aR aN rfl (i:=l.length*4+2) (u:= .slice none 0 0) (by rw [List.getElem?_append_right (by omega),hyl,Nat.add_sub_cancel_left];rfl);have o3:=aR aN rfl (i:=l.length*4+3) (u:= .slice none 0 0) (by rw [List.getElem?_append_right (by omega),hyl,Nat.add_sub_cancel_left];rfl);obtain⟨o0,q0⟩:=o0;obtain⟨o1,q1⟩:=o1;obtain⟨o2,q2⟩:=o2;obtain⟨o3,q3⟩:=o3;have hne1:¬g7=tb:=by omega
     have hne2:¬tb=g7:=by omega
     clear he aN iC fO iQ hy hr e0 e1 e2;refine hK.out _ _ iT.out ?_;clear hK K
     try simp only [Act.put,sq]
     refine tt 7 (.pointer (some ⟨g7,l.length*4,none⟩)) (fun _=>iT.out) (hy:=by intro w' hSw;go_simp <;> (intro h;omega)) ?_;refine tt 9 (.pointer (some ⟨tb,3,none⟩)) (fun _=>iT.out) ?_;refine ay (rs:=[8,10]) (by kernel_rfl) (by simp) ?_;refine av.cons rfl (fun K hK=> ?_) (av.past rfl (by kernel_rfl) (fun K hK=> ?_) av.nil)
     ·go_simp;have pE:=hid (iT.out.trans (fA g7 [.int .i64 kz,sv sz, .slice lW lX lY, .slice lZ l6 l7] w7 (l.length*4)) (fun _ _ h=> .inr (by omega)));refine hK.out _ _ pE.out ?_;clear hK K
      try simp only [Act.put,sq]
      refine ay (rs:=[10]) (by kernel_rfl) (by simp) ?_;refine av.past rfl (by kernel_rfl) (fun K hK=> ?_) (av.nil);go_simp;refine hK.out _ _ ?_;clear hK K
      try simp only [Act.put,sq]
      refine aM (by kernel_rfl) ?_ _;have Tz:=kP.out.turn (((fA g7 [.int .i64 kz,sv sz, .slice lW lX lY, .slice lZ l6 l7] w7 (l.length*4)).mono (G:=fun k=>k=g7∨k=tb) (fun _ _ h=> .inl h)).trans (ak _ tb 3 (.slice (some ⟨g7,0,none⟩) (l.length+1) c7)) (fun _ _ h=> .inr h)) (fun e=>by rcases e with e | e <;> omega) (fun k hk e=>by have:=oI.out.1;rcases e with e | e <;> omega);go_wp2_with fail;go_end0;exact dM.done gQ.out.symm (pQ.out.trans HE.out.1.2 (fun _ _ h=>h)) ⟨_, _,by rw [List.map_append,List.map_append];exact HE.out.1.1⟩ Tz
     ·go_simp;refine hK.out _ _ ?_;clear hK K
      try simp only [Act.put,sq]
      refine ay (rs:=[8]) (by kernel_rfl) (by simp) ?_;refine av.past rfl (by kernel_rfl) (fun K hK=> ?_) (av.nil);go_simp;refine hK.out _ _ ?_;clear hK K
      try simp only [Act.put,sq]
      refine aM (by kernel_rfl) ?_ _;have Tz:=kP.out.turn (((ak w7 tb 3 (.slice (some ⟨g7,0,none⟩) (l.length+1) c7)).mono (G:=fun k=>k=g7∨k=tb) (fun _ _ h=> .inr h)).trans (fA g7 [.int .i64 kz,sv sz, .slice lW lX lY, .slice lZ l6 l7] _ (l.length*4)) (fun _ _ h=> .inl h)) (fun e=>by rcases e with e | e <;> omega) (fun k hk e=>by have:=oI.out.1;rcases e with e | e <;> omega);go_wp2_with fail;go_end0;exact dM.done gQ.out.symm (pQ.out.trans HE.out.2.2 (fun _ _ h=>h)) ⟨_, _,by rw [List.map_append,List.map_append];exact HE.out.2.1⟩ Tz
   ·skip
    go_simp;have Gi:=hid (HD0.out.trans (Turn.alloc (fun j=>j=bp∨base≤j) w9.drew (.cells #[.int .i64 0, .string ⟨#[]⟩, .slice none 0 0, .slice none 0 0] 57)) (fun _ _ h=>h));have zW:=hid (pK _ bp B r9 (bK.below (w:=w9.drew) sS.out (new1 w9.drew (.cells #[.int .i64 0, .string ⟨#[]⟩, .slice none 0 0, .slice none 0 0] 57))));have nM:=hid (jW.out.trans (Turn.alloc (fun j=>j=bp) w9.drew (.cells #[.int .i64 0, .string ⟨#[]⟩, .slice none 0 0, .slice none 0 0] 57)) (fun _ _ h=>h));refine hK.out _ _ Gi.out ?_;clear hK K
    try simp only [Act.put,sq]
    refine ay (rs:=[3]) (by kernel_rfl) (by simp) ?_;refine av.cons rfl (fun K hK=> ?_) (av.nil);go_simp;refine(zW.out).mono ?_;rintro e pJ h10;rcases hq:typ r9 with g | ⟨x,pq⟩
    ·obtain⟨rfl,t10,b10⟩:=h10.bM hq;have HT:=hid (pQ.out.trans (nM.out.trans t10 (fun _ _ h=>h)) (fun _ _ h=> .inl h));have HB:=hid b10;have gQ:=hid (jO.out.symm.trans (aB (aB hq)));clear h10 t10 b10 hq;exact⟨rfl,dM.fail gQ.out HT.out HB.out⟩
    ·obtain⟨v,rfl,t10,⟨z,rfl,hz⟩,k10⟩:=h10.aL hq;obtain⟨kz,sz,lW,lX,lY,lZ,l6,l7,rfl⟩:=hz.shape';have kC:=hid (nM.out.trans t10 (fun _ _ h=>h));have sD:=hid (kC.out.mono (G:=fun j=>j=bp∨base≤j) (fun _ _ h=> .inl h));have sF:=hid k10;have gQ:Hid (Pr.good (l++[(s,x)]) pq=Q):=hid ((gD (p:=typ) hq).symm.trans jO.out);have HZ:=hid (hz.mono (G:=fun j=>w9.heap.size≤j) (fun _ _ h=>Nat.le_trans nM.out.size h));have jA:=kC;have Gh:=HZ;have oI:=sF;have HSL:=hid (mM w9.drew #[.int .i64 0, .string ⟨#[]⟩, .slice none 0 0, .slice none 0 0] 57 4 1 rfl (by decide) t10 (by have:=Wj.out.FD;have hs:w9.drew.heap.size=w9.heap.size:=rfl;omega));clear h10 t10 k10 hq hz;refine hK.out _ _ sD.out ?_;clear hK K
     try simp only [Act.put,sq]
     refine ay (rs:=[6]) (by kernel_rfl) (by simp) ?_;refine av.cons rfl (fun K hK=> ?_) (av.nil);obtain⟨ys,hy,hr⟩:=VA.out.kid;have hyl:ys.length=l.length*4:=by have:=hy.1;simpa using this
     have dV:=hid (dK hy jA.out (fun g hg e=>by have:=(hy.lt g hg).1;omega));refine fq rfl (.tmp 17) (.tmp 21) _ rfl base uh (.slice A2 l.length c2) _ rfl rfl dV.out HSL.out xS (by simp [maxLen];omega) (by simp;omega) (by have:=Wj.out.FD;have:=jA.out.size;omega) (fun v7 w7 n7 aN iC fO=> ?_);have Bg:n7=l.length+1:=by have:=aN.1;rw [List.length_append,hyl]at this;simp at this;omega
     subst Bg;obtain⟨g7,c7,rfl,hgb,hgs,Tx,Rb⟩:=gH aN (by omega);have he:=VA.out.Q9 Wj.out jA.out Gh.out hy hr (by rfl) aN iC fO rfl;simp only [List.length_map]at he;have HE:=hid he;have iT:=hid ((jA.out.mono (G:=fun j=>j=bp∨base≤j) (fun _ _ h=> .inl h)).trans (Turn.bA iC (F:=fun j=>j=bp∨base≤j) (fun k e=> .inr (hy.lt k e).1)) (fun _ _ h=>h));have kP:=hid (oI.out.turn (Turn.bA iC (F:=fun j=>base≤j) (fun k e=>(hy.lt k e).1)) (by omega) (fun k hk e=>by have:=oI.out.1;omega));have iQ:w7.heap[tb]? =some (.cells #[.int .i64 5,sv [], _, .slice A2 l.length c2] 57 (0,0)):=ah VA.out.blk iT.out (by omega);obtain⟨e0,e1,e2,e3,ez⟩:=aP iQ;have o0:=aR aN rfl (i:=l.length*4) (u:= .int .i64 0) (by rw [List.getElem?_append_right (by omega),hyl,Nat.sub_self];rfl);have o1:=aR aN rfl (i:=l.length*4+1) (u:= .string ⟨#[]⟩) (by rw [List.getElem?_append_right (by omega),hyl,Nat.add_sub_cancel_left];rfl);have o2:=aR aN rfl (i:=l.length*4+2) (u:= .slice none 0 0) (by rw [List.getElem?_append_right (by omega),hyl,Nat.add_sub_cancel_left];rfl);have o3:=aR aN rfl (i:=l.length*4+3) (u:= .slice none 0 0) (by rw [List.getElem?_append_right (by omega),hyl,Nat.add_sub_cancel_left];rfl);obtain⟨o0,q0⟩:=o0;obtain⟨o1,q1⟩:=o1;obtain⟨o2,q2⟩:=o2;obtain⟨o3,q3⟩:=o3;have hne1:¬g7=tb:=by omega
     have hne2:¬tb=g7:=by omega
     clear he aN iC fO iQ hy hr e0 e1 e2;refine hK.out _ _ iT.out ?_;clear hK K
     try simp only [Act.put,sq]
     refine tt 7 (.pointer (some ⟨g7,l.length*4,none⟩)) (fun _=>iT.out) (hy:=by intro w' hSw;go_simp <;> (intro h;omega)) ?_;refine tt 9 (.pointer (some ⟨tb,3,none⟩)) (fun _=>iT.out) ?_;refine ay (rs:=[8,10]) (by kernel_rfl) (by simp) ?_;refine av.cons rfl (fun K hK=> ?_) (av.past rfl (by kernel_rfl) (fun K hK=> ?_) av.nil)
     ·go_simp;have pE:=hid (iT.out.trans (fA g7 [.int .i64 kz,sv sz, .slice lW lX lY, .slice lZ l6 l7] w7 (l.length*4)) (fun _ _ h=> .inr (by omega)));refine hK.out _ _ pE.out ?_;clear hK K
      try simp only [Act.put,sq]
      refine ay (rs:=[10]) (by kernel_rfl) (by simp) ?_;refine av.past rfl (by kernel_rfl) (fun K hK=> ?_) (av.nil);go_simp;refine hK.out _ _ ?_;clear hK K
      try simp only [Act.put,sq]
      refine aM (by kernel_rfl) ?_ _;have Tz:=kP.out.turn (((fA g7 [.int .i64 kz,sv sz, .slice lW lX lY, .slice lZ l6 l7] w7 (l.length*4)).mono (G:=fun k=>k=g7∨k=tb) (fun _ _ h=> .inl h)).trans (ak _ tb 3 (.slice (some ⟨g7,0,none⟩) (l.length+1) c7)) (fun _ _ h=> .inr h)) (fun e=>by rcases e with e | e <;> omega) (fun k hk e=>by have:=oI.out.1;rcases e with e | e <;> omega);go_wp2_with fail;go_end0;exact dM.done gQ.out.symm (pQ.out.trans HE.out.1.2 (fun _ _ h=>h)) ⟨_, _,by rw [List.map_append,List.map_append];exact HE.out.1.1⟩ Tz
     ·go_simp;refine hK.out _ _ ?_;clear hK K
      try simp only [Act.put,sq]
      refine ay (rs:=[8]) (by kernel_rfl) (by simp) ?_;refine av.past rfl (by kernel_rfl) (fun K hK=> ?_) (av.nil);go_simp;refine hK.out _ _ ?_;clear hK K
      try simp only [Act.put,sq]
      refine aM (by kernel_rfl) ?_ _;have Tz:=kP.out.turn (((ak w7 tb 3 (.slice (some ⟨g7,0,none⟩) (l.length+1) c7)).mono (G:=fun k=>k=g7∨k=tb) (fun _ _ h=> .inr h)).trans (fA g7 [.int .i64 kz,sv sz, .slice lW lX lY, .slice lZ l6 l7] _ (l.length*4)) (fun _ _ h=> .inl h)) (fun e=>by rcases e with e | e <;> omega) (fun k hk e=>by have:=oI.out.1;rcases e with e | e <;> omega);go_wp2_with fail;go_end0;exact dM.done gQ.out.symm (pQ.out.trans HE.out.2.2 (fun _ _ h=>h)) ⟨_, _,by rw [List.map_append,List.map_append];exact HE.out.2.1⟩ Tz
theorem kD {l:List Bt} {ts r:List aD} {i:Nat} (h:cK l ts= .good (some i) r):i<l.length:=by
 unfold cK at h;split at h
 ·cases h
 ·rename_i j hj
  injection h with h1 _;injection h1 with h1;subst h1;exact(List.findIdx?_eq_some_iff_getElem.1 hj).1
theorem iU {bp a:Nat} {w w1:World} {v0 v1 v2 v3:Value} (h:Turn (fun k=>k=bp) w w1) (ha:w.heap.size≤a):Turn (fun k=>k=bp) w (dh w1 a v0 v1 v2 v3):=h.trans (bW w1 a v0 v1 v2 v3) (fun i hi e=>by omega)
theorem bK.uq {bp B a:Nat} {w1:World} {ts:List aD} {d:Int} {v0 v1 v2 v3:Value} (h:bK w1 bp B ts d) (ha:bp<a):bK (dh w1 a v0 v1 v2 v3) bp B ts d:=h.turn (bW _ _ _ _ _ _) (by omega) (fun k hk e=>by have:=h.1;omega)
theorem yX {typ:Ps bT} (ht:Sf typ):Sf (jd typ):=Sf.then_ Sf.name fun s=>Sf.then_ (Sf.want _) fun _=>Sf.then_ ht fun t=>Sf.ret _
theorem ku.Iu {pb tb base bp:Nat} {w w':World} {l1:List Bt} {l2:List bT} {v1 v2:Value} (h:ku pb tb base bp w l1 l2 v1 v2) (t:Turn (fun k=>k=bp) w w') (h1:bp<pb) (h2:bp<tb) (h3:bp<base):ku pb tb base bp w' l1 l2 v1 v2:=
 ⟨ah h.box t (by omega),ah h.blk t (by omega),h.nL.turn t (fun g hg e=>by have:=(h.nL.lt g hg).1;omega),h.kid.turn aO t (fun g hg e=>by have:=(h.kid.lt g hg).1;omega) (fun g _ hg e=>by have:=hg.1;omega),h.ne⟩
theorem D8 (d:Int) (typ:Ps bT) (pK:uj d typ) (hsf:Sf typ) (w:World) (bp B:Nat) (ts:List aD) (h:bK w bp B ts d):
  Calls Tryz.prog 113 #[.pointer (some ⟨bp,0,none⟩)] w (aF (OG w.heap.size) bp B d w (iW typ ts)):=by
 have hlt:=h.lt;have hB:=h.1;obtain⟨Q,hQ⟩:∃Q,iW typ ts=Q:=⟨_,rfl⟩
 rw [hQ];have HQ:=hid hQ;have HC:=hid (lV ((w.alloc (.cells #[.pointer (some ⟨bp,0,none⟩)] 91)).alloc (.cells #[.int .i64 0, .string ⟨#[]⟩, .slice none 0 0, .slice none 0 0] 57)) bp B ts d (h.below (new2 _ _ _)) lS #[.string ⟨#[97,110,121]⟩, .string ⟨#[110,117,108,108]⟩, .string ⟨#[98,111,111,108]⟩, .string ⟨#[105,110,116]⟩, .string ⟨#[115,116,114]⟩] 9 5 (w.heap.size+1+1));clear h hQ;go_enter Tryz.func113,Tryz.ntmps113;go_wp2_with fail;refine(HC.out).mono ?_;rintro e w1 h1;rcases hq:cK lS ts with g | ⟨o,r1⟩
 ·obtain⟨rfl,tn,bn⟩:=h1.bM hq;exact(gB hq).elim
 ·obtain⟨v1,rfl,tn,hP,kn⟩:=h1.aL hq;obtain⟨tm,hsz,hbx,hrs⟩:=gG tn;have xW:=hid (hbx (by omega));have Iw:=hid (hrs (by omega));obtain rfl:=hP;have hq1:=hid hq;clear hbx hrs;have hs1:=tm.size;have HT1:=hid (tm);have jP:=hid kn;clear h1 tn kn hq;rcases o with _ | i
  ·have HQa:Hid (aj (cK [[40],[123]]) (fun c=>match c with | none=>aj nameP fun s=>aG (.mk 8 s [] []) | some 0=>aj typ fun t=>aj (aI [41]) fun _=>aG t | some _=>aj (bY [125]) fun e=>if e then aG (.mk 5 [] [] [])else aj (iB (jd typ)) fun l=>aj (aI [125]) fun _=>aG (.mk 5 [] (l.map (·.1)) (l.map (·.2)))) r1=Q):=hid ((au hq1.out).symm.trans HQ.out);have Ip:=hid (lV w1 bp B r1 d jP.out [[40],[123]] #[.string ⟨#[40]⟩, .string ⟨#[123]⟩] 9 2 w1.heap.size);have hbx:=bQ xW.out;go_wp2_with fail;refine(Ip.out).mono ?_;rintro e w2 h2;rcases hq:cK [[40],[123]] r1 with g | ⟨o,r2⟩
   ·obtain⟨rfl,tn,bn⟩:=h2.bM hq;exact(gB hq).elim
   ·obtain⟨v2,rfl,tn,rfl,kn⟩:=h2.aL hq;have hs2:=tn.size;have HT2:=hid (aA HT1.out tn);have iR:=hid kn;have Iy:=hid (ah xW.out tn (by omega));have nN:=hid (ah Iw.out tn (by omega));have hq2:=hid hq;clear h2 tn kn hq;have TA:=bQ Iy.out;clear hbx;rcases o with _ | j
    ·have Rc:Hid (aj nameP (fun s=>aG (bT.mk 8 s [] [])) r2=Q):=hid ((au hq2.out).symm.trans HQa.out);have HN:=hid (fH w2 bp B r2 d iR.out);go_wp2_with fail;refine(HN.out).mono ?_;rintro e w3 h3;rcases hq:nameP r2 with g | ⟨s,r3⟩
     ·obtain⟨rfl,tn,bn⟩:=h3.bM hq;have HB:=hid (dX.mk2 (aA HT2.out tn) bn);have dG:=hid (Rc.out.symm.trans (aB hq));clear h3 tn bn hq;go_wp2_with fail;exact⟨rfl,aF.fail dG.out HB.out⟩
     ·obtain⟨v3,rfl,tn,rfl,kn⟩:=h3.aL hq;have hs3:=tn.size;have HT3:=hid (aA HT2.out tn);have iM:=hid kn;have gQ:Hid (aG (bT.mk 8 s [] []) r3=Q):=hid ((au hq).symm.trans Rc.out);have adH:=hid (ah Iy.out tn (by omega));have Bh:=hid (ah nN.out tn (by omega));clear h3 tn kn hq;obtain⟨c0,c1,c2,c3,cz⟩:=aP Bh.out;go_wp2_with fail;refine bodyPost_ret (aS rfl rfl (aU Bh.out _ _ _ _) Tryz.underlying57 rfl (by kernel_rfl)) rfl ?_;exact aF.done gQ.out.symm (iU HT3.out (by omega)) ⟨_,rfl,nK _ _ 8 s⟩ (iM.out.uq (by omega))
    ·have hj:=kD hq2.out;simp only [List.length_cons,List.length_nil]at hj;obtain rfl | rfl:j=0∨j=1:=by omega
     ·have Rc:Hid (aj typ (fun t=>aj (aI [41]) fun _=>aG t) r2=Q):=hid ((au hq2.out).symm.trans HQa.out);have HN:=hid (pK w2 bp B r2 iR.out);go_wp2_with fail;refine(HN.out).mono ?_;rintro e w4 h4;rcases hq:typ r2 with g | ⟨t,r4⟩
      ·obtain⟨rfl,tn,bn⟩:=h4.bM hq;have HB:=hid (dX.mk2 (aA HT2.out tn) bn);have dG:=hid (Rc.out.symm.trans (aB hq));clear h4 tn bn hq;go_wp2_with fail;exact⟨rfl,aF.fail dG.out HB.out⟩
      ·obtain⟨v4,rfl,tn,⟨z,rfl,hz⟩,kn⟩:=h4.aL hq;obtain⟨kz,sz,lW,lX,lY,lZ,l6,l7,rfl⟩:=hz.shape';have Wn:=tn.size;have HZ:=hid hz.iv;clear hz;have hs4:=tn.size;have fP:=hid (aA HT2.out tn);have jH:=hid kn;have fV:Hid (aj (aI [41]) (fun _=>aG t) r4=Q):=hid ((au hq).symm.trans Rc.out);have Rf:=hid (ah Iy.out tn (by omega));have qo:=hid (ah nN.out tn (by omega));clear h4 tn kn hq;have HN:=hid (eG (w4.alloc (.cells #[.int .i64 kz,sv sz, .slice lW lX lY, .slice lZ l6 l7] 57)) bp B r4 d (jH.out.below (new1 _ _)) [41] 9 (w4.heap.size+1));have L6:=bQ Rf.out;have aeX:=World.block_lt_of_cell? _ _ L6;go_wp2_with fail;refine(HN.out).mono ?_;rintro e w5 h5;rcases hq:aI [41] r4 with g | ⟨u,r5⟩
       ·obtain⟨rfl,tn,bn⟩:=h5.bM hq;have tn:=(bH tn).1;have HB:=hid (dX.mk2 (aA fP.out tn) bn);have dG:=hid (fV.out.symm.trans (aB hq));clear h5 tn bn hq;go_wp2_with fail;exact⟨rfl,aF.fail dG.out HB.out⟩
       ·obtain⟨v5,rfl,tn, -,kn⟩:=h5.aL hq;obtain⟨tm,hsz5,hbt⟩:=bH tn;have jI:=hid (hbt (by omega));have uU:=hid (HZ.out.turn tm (fun g _ h e=>by have:=h.1;omega));clear hbt;have hs5:=tm.size;have fM:=hid (aA fP.out tm);have kW:=hid kn;have gN:Hid (aG t r5=Q):=hid ((au hq).symm.trans fV.out);have adI:=hid (ah Rf.out tm (by omega));have Rh:=hid (ah qo.out tm (by omega));clear h5 tn kn hq;obtain⟨c0,c1,c2,c3,cz⟩:=aP Rh.out;obtain⟨e0,e1,e2,e3,ez⟩:=aP jI.out;go_wp2_with fail;refine bodyPost_ret (aS rfl rfl (aU Rh.out _ _ _ _) Tryz.underlying57 rfl (by kernel_rfl)) rfl ?_;exact aF.done gN.out.symm (iU fM.out (by omega)) ⟨_,rfl,(uU.out.turn (bW _ _ _ _ _ _) (fun g _ h e=>by have:=h.1;omega)).mono (fun g _ h=>by have:=h.1;omega)⟩ (kW.out.uq (by omega))
     ·have Rc:Hid (aj (bY [125]) (fun e=>if e then aG (bT.mk 5 [] [] [])else aj (iB (jd typ)) fun l=>aj (aI [125]) fun _=>aG (.mk 5 [] (l.map (·.1)) (l.map (·.2)))) r2=Q):=hid ((au hq2.out).symm.trans HQa.out);have HN:=hid (jr (w2.alloc (.cells #[.int .i64 5, .string ⟨#[]⟩, .slice none 0 0, .slice none 0 0] 57)) bp B r2 d (iR.out.below (new1 _ _)) [125]);have aeY:=World.block_lt_of_cell? _ _ TA;go_wp2_with fail;refine(HN.out).mono ?_;rintro e w6 h6;rcases hq:bY [125] r2 with g | ⟨b,r6⟩
      ·obtain⟨rfl,tn,bn⟩:=h6.bM hq;exact(gJ hq).elim
      ·obtain⟨v6,rfl,tn,rfl,kn⟩:=h6.aL hq;obtain⟨tm,aeZ,hbt⟩:=bH tn;have jI:=hid (hbt (by omega));have hq6:=hid hq;clear hbt;have hs6:=tm.size;have kQ:=hid (aA HT2.out tm);have sU:=hid kn;have Ri:=hid (ah Iy.out tm (by omega));have L8:=hid (ah nN.out tm (by omega));clear h6 tn kn hq;cases b
       ·have Zu:Hid (aj (iB (jd typ)) (fun l=>aj (aI [125]) fun _=>aG (.mk 5 [] (l.map (·.1)) (l.map (·.2)))) r6=Q):=hid ((au hq6.out).symm.trans Rc.out);have OH:∀(fn:Fn) (first cap:Array Value) (w:World),(Instr.makeFunc fn first cap).run Tryz.prog w= .ok (.func fn first cap) w:=fun _ _ _ _=>rfl;have hpp:um w.heap.size w2.heap.size (w2.heap.size+1) bp w6:=⟨by omega,by omega,by omega,by omega,by omega,by omega⟩
        have hpi:Iq w.heap.size w2.heap.size (w2.heap.size+1) bp w6 []:=⟨_, _,Ri.out,jI.out,gI.nil _ _ _,fu.nil _ _ _ _ _ _,fun _ h=>by cases h⟩
        have L9:=hid (jE (jd typ) (yX hsf) 167 #[.pointer (some ⟨w2.heap.size,0,none⟩), .pointer (some ⟨w.heap.size,0,none⟩)] (Iq w.heap.size w2.heap.size (w2.heap.size+1) bp) (fun k=>k=bp∨w2.heap.size≤k) d w6 bp B r6 (.inl rfl)
         (fun a b l t h=>by obtain⟨x,y,h⟩:=h;have hs:=t.size;exact⟨x,y,h.Iu t (by omega) (by omega) (by omega)⟩) (fun g h=> .inr (by omega))
         (fun w1 r l hl hw hi hk=>J3 d typ pK w1 bp B _ _ _ r l hl hk hi ⟨hpp.Bf,hpp.DZ,hpp.Gf,hpp.J2,hpp.ne,by have:=hpp.FD;omega⟩) (fun _=>by kernel_rfl) sU.out hpi)
        clear hpi;have hbx:=bQ Ri.out;go_wp2_with fail;refine(L9.out).mono ?_;rintro e w7 h7;rcases hq:iB (jd typ) r6 with g | ⟨l,r7⟩
        ·obtain⟨rfl,tn,bn⟩:=h7.bM hq;have HB:=hid (dX.mk2 (kQ.out.trans tn (fun i hi e=>by rcases e with e | e <;> omega)) bn);have dG:=hid (Zu.out.symm.trans (aB hq));clear h7 tn bn hq;go_wp2_with fail;exact⟨rfl,aF.fail dG.out HB.out⟩
        ·obtain⟨rfl,tn,⟨x1,x2,hI⟩,kn⟩:=h7.aL hq;have hs7:=tn.size;have jg:=hid (kQ.out.trans tn (fun i hi e=>by rcases e with e | e <;> omega));have kP:=hid kn;have vD:Hid (aj (aI [125]) (fun _=>aG (.mk 5 [] (l.map (·.1)) (l.map (·.2)))) r7=Q):=hid ((au hq).symm.trans Zu.out);have HI7:=hid hI;have sG:=hid (ah L8.out tn (by omega));have HN:=hid (eG w7 bp B r7 d kn [125] 9 w7.heap.size);have ae1:=bQ hI.box;clear h7 tn kn hq hI hbx;go_wp2_with fail;refine(HN.out).mono ?_;rintro e w8 h8;rcases hq:aI [125] r7 with g | ⟨u,r8⟩
         ·obtain⟨rfl,tn,bn⟩:=h8.bM hq;have HB:=hid (dX.mk2 (aA jg.out tn) bn);have dG:=hid (vD.out.symm.trans (aB hq));clear h8 tn bn hq;go_wp2_with fail;exact⟨rfl,aF.fail dG.out HB.out⟩
         ·obtain⟨v8,rfl,tn, -,kn⟩:=h8.aL hq;have hI8:=HI7.out.Iu tn (by omega) (by omega) (by omega);have VB:=hid hI8;have uw:=tn.size;have kV:=hid (aA jg.out tn);have pO:=hid kn;have Ca:Hid (aG (.mk 5 [] (l.map (·.1)) (l.map (·.2))) r8=Q):=hid ((au hq).symm.trans vD.out);have Rj:=hid (ah sG.out tn (by omega));clear h8 tn kn hq;obtain⟨A1,d1,hv1,hd1, _⟩:=iy VB.out.nL.row;obtain⟨A2,d2,hv2,hd2, _⟩:=VB.out.kid.shape;rw [List.length_map]at hv1 hv2;subst hv1 hv2;obtain⟨e0,e1,e2,e3,ez⟩:=aP VB.out.blk;obtain⟨c0,c1,c2,c3,cz⟩:=aP Rj.out;go_wp2_with fail;have tF:=bW w8 (w.heap.size+1) (.int .i64 5) (sv []) (.slice A1 l.length d1) (.slice A2 l.length d2);obtain⟨xs,k1,k2⟩:=VB.out.kid.sl aO;have kN:=dB.own VB.out.nL.row (F:=fun j=>w2.heap.size+1≤j) (fun g hg=>(VB.out.nL.lt g hg).1);refine bodyPost_ret (aS rfl rfl (aU Rj.out _ _ _ _) Tryz.underlying57 rfl (by kernel_rfl)) rfl ?_;exact aF.done Ca.out.symm (iU kV.out (by omega)) ⟨_,rfl, .mk ((kN.turn tF (fun g _ h e=>by omega)).mono (fun g _ h=>by omega)) ((k1.turn tF (fun g _ h e=>by rcases h with h | h;omega;(have:=h.1;omega))).mono (fun g _ h=>by rcases h with h | h;omega;(have:=h.1;omega))) (kZ (dD aO (fun g _ h=>by rcases h with h | h;omega;(have:=h.1;omega)) (bD aO tF (fun g _ h e=>by rcases h with h | h;omega;(have:=h.1;omega)) k2)))⟩ (pO.out.uq (by omega))
       ·have Zu:Hid (Pr.good (bT.mk 5 [] [] []) r6=Q):=hid ((au hq6.out).symm.trans Rc.out);obtain⟨c0,c1,c2,c3,cz⟩:=aP L8.out;obtain⟨e0,e1,e2,e3,ez⟩:=aP jI.out;go_wp2_with fail;refine bodyPost_ret (aS rfl rfl (aU L8.out _ _ _ _) Tryz.underlying57 rfl (by kernel_rfl)) rfl ?_;exact aF.done Zu.out.symm (iU kQ.out (by omega)) ⟨_,rfl,nK _ _ 5 []⟩ (sU.out.uq (by omega))
  ·have hi:=kD hq1.out;have lq:Hid (Pr.good (bT.mk i [] [] []) r1=Q):=hid ((au hq1.out).symm.trans HQ.out);obtain⟨c0,c1,c2,c3,cz⟩:=aP Iw.out;go_wp2_with fail;refine bodyPost_ret (aS rfl rfl (aU Iw.out _ _ _ _) Tryz.underlying57 rfl (by kernel_rfl)) rfl ?_;exact aF.done lq.out.symm (iU HT1.out (by omega)) ⟨_,rfl,nK _ _ i []⟩ (jP.out.uq (by omega))
def VD {α β:Type} (q:Pr α) (f:α→Ps β):Pr β:=match q with
 | .good a r=>f a r
 | .bad g=> .bad g
theorem yY {α β:Type} (p:Ps α) (f:α→Ps β) (ts:List aD):aj p f ts=VD (p ts) f:=by
 unfold aj VD;cases p ts <;> rfl
section
variable {α:Type} {fn:Func} {tmps:Array Value} {P:World→Value→α→Prop} {bp B x:Nat} {d:Int} {w w2:World} {Q:Pr α}
theorem iI {g:vZ} (hb:rZ w2 bp) (hx:w2.cell? ⟨x,0,none⟩=some (.pointer (some ⟨bp,0,none⟩))) (t:Turn (fun k=>k=bp) w w2) (hq:Q= .bad g):
  Leaves Tryz.prog fn tmps (aF P bp B d w Q) [{ target:= .fn (.func 158) #[.pointer (some ⟨x,0,none⟩)],args:= #[]}] (.panicking [{ v:= .iface 146 (.agg #[.int .i64 0, .int .i64 g.1, .int .i64 g.2.1, .int .i64 g.2.2]),recovered:=false}]) w2:=by
 obtain⟨v0,d0,hb⟩:=hb;refine leaves_cons (f:=158) (args:= #[.pointer (some ⟨x,0,none⟩)]) (by simp) (by simp [go_sem]) ?_;refine(Bc w2 bp x v0 d0 _ hb hx).mono ?_;rintro e u3 w3 ⟨rfl,rfl,rfl⟩;exact aF.fail hq ⟨aA t (ak w2 bp 1 _), _, _,heap_setCell_same _ bp 1 _ _ _ hb⟩
theorem gT {v:Value} {y:α} {r:List aD} (hres:∀w3,Turn (fun k=>k=bp) w2 w3→(results fn tmps).run Tryz.prog w3= .ok v w3)
  (hk:bK w2 bp B r (d+1)) (h0:0≤d) (h1:d<100) (hx:w2.cell? ⟨x,0,none⟩=some (.pointer (some ⟨bp,0,none⟩))) (t:Turn (fun k=>k=bp) w w2) (hq:Q= .good y r) (hP:∀w3,Turn (fun k=>k=bp) w2 w3→P w3 v y):
  Leaves Tryz.prog fn tmps (aF P bp B d w Q) [{ target:= .fn (.func 158) #[.pointer (some ⟨x,0,none⟩)],args:= #[]}] .returning w2:=by
 have hk0:=hk;obtain⟨_, _, _,v0,hb, _⟩:=hk;refine leaves_cons (f:=158) (args:= #[.pointer (some ⟨x,0,none⟩)]) (by simp) (by simp [go_sem]) ?_;refine(Bc w2 bp x v0 (d+1) _ hb hx).mono ?_;rintro e u3 w3 ⟨rfl,rfl,rfl⟩;have e1:wrap64 (d+1 - 1)=d:=by unfold wrap64;omega
 rw [e1];have t3:=ak w2 bp 1 (.int .i64 d);exact⟨_,hres _ t3,aF.done hq (aA t t3) (hP _ t3) (hk0.deep rfl)⟩
end
theorem Pb {w:World} {base k:Nat} {e:TypeId} {z:List Value} (hz:z.length=k) (hb:base≤w.heap.size):(w.alloc (.cells z.toArray e)).ownsRow base e k (.slice (some ⟨w.heap.size,0,none⟩) 1 1) 1 z:=
 ⟨by omega, .inr ⟨w.heap.size,1,z.toArray,rfl,hb,heap_alloc_new w _,Nat.le_refl _,by decide,by simp;omega,by simp [←hz]⟩⟩
theorem row_one {α:Type} {R:World→(Nat→Prop)→List Value→α→Prop} {k:Nat} (hR:mH R k) {w:World} {base:Nat} {F G:Nat→Prop} {e:TypeId} {z:List Value} {x:α} (hx:R w F z x) (hb:base≤w.heap.size) (hF:∀g,g<w.heap.size→F g→G g):
  fu R k e (w.alloc (.cells z.toArray e)) base G (.slice (some ⟨w.heap.size,0,none⟩) 1 1) [x]:=by
 refine⟨z,Pb (hR.len hx) hb,wh (hR.len hx) ?_⟩;have h1:R w (fun j=>j<w.heap.size∧G j) z x:=hR.mono hx fun g hg h=>⟨hg,hF g hg h⟩
 exact hR.mono (hR.turn h1 (Turn.alloc (fun _=>False) _ _) (fun _ _ _=>id)) fun g _ h=>⟨fun e=>by injection e with e;simp at e;omega,h.2⟩
theorem Pf {typ:Ps bT} (ht:Sf typ):Sf (iW typ):=Sf.Dt ht
theorem Ma (d:Int) (h0:0≤d) (h1:d<100) (typ:Ps bT) (pK:uj (d+1) typ) (hsf:Sf typ):uj d (zU typ):=by
 intro w bp B ts h;have hlt:=h.lt;have hB:=h.1;obtain⟨Q,hQ⟩:∃Q,zU typ ts=Q:=⟨_,rfl⟩
 rw [hQ]
 have HQ:Hid (aj (iW typ) (fun a=>aj (fun ts=>kJ typ ts.length [a] ts) fun l=>aj (bY [45,62]) fun b=>
  if b then aj typ fun r=>aG (.mk 6 [] [] [gu l,r])else aG (gu l)) ts=Q):=hid hQ
 have HE:=hid (vB (w.alloc (.cells #[.int .i64 0, .string ⟨#[]⟩, .slice none 0 0, .slice none 0 0] 57)) bp B ts d (h.below (new1 _ _)) h0 h1);clear h hQ
 go_enter_defers Tryz.func54,Tryz.ntmps54
 go_wp2_with fail;refine(HE.out).mono ?_;rintro e w1 ⟨rfl,tn,hbx,hk⟩;obtain⟨tm,hsz,hrs⟩:=bH tn;simp at hbx;have hxb:=World.block_lt_of_cell? _ _ hbx;simp at hxb;have mq:=hid (hrs (by omega));have HT1:=hid tm;have jP:=hid hk;have oJ:=hid hbx;have hs1:=tm.size;have HP:=hid (D8 (d+1) typ pK hsf w1 bp B ts hk);clear tn tm hrs hk hbx;go_wp2_with fail;refine(HP.out).mono ?_;rintro e w2 h2;rcases hq:iW typ ts with g | ⟨t,r2⟩
 ·obtain⟨rfl,tn,bn⟩:=h2.bM hq;clear h2;have dG:=hid (HQ.out.symm.trans (aB hq));have oK:=hid ((aA HT1.out tn));have hxo:=(aH oJ.out tn (by omega))
  have nk:=hid bn;clear tn bn hq;go_wp2_with fail;exact iI nk.out hxo oK.out dG.out
 ·obtain⟨v2,rfl,tn,⟨z,rfl,hz⟩,kn⟩:=h2.aL hq;obtain⟨kz,sz,lW,lX,lY,lZ,l6,l7,rfl⟩:=hz.shape';have Gj:=hid (aH oJ.out tn (by omega));have hrow:=row_one aO (base:=w1.heap.size) (G:=fun j=>w1.heap.size≤j) (e:=57) hz tn.size (fun _ _ h=>h);have dV:=hid hrow;have TB:=hid ((Sf.Dt hsf).good jP.out.wf hq).2.length_le;have HLEN:=hid jP.out.2.1.1;clear hz hrow;have hs2:=tn.size;have HT2:=hid (aA HT1.out tn);have iR:=hid kn;have jO:Hid (aj (fun ts=>kJ typ ts.length [t] ts) (fun l=>aj (bY [45,62]) fun b=>if b then aj typ fun r=>aG (.mk 6 [] [] [gu l,r])else aG (gu l)) r2=Q):=hid ((au hq).symm.trans HQ.out);have nN:=hid (ah mq.out tn (by omega));clear h2 tn kn hq;obtain⟨A,hA⟩:∃A,kJ typ r2.length [t] r2=A:=⟨_,rfl⟩
  have HA:=hid hA
  have KZ:Hid (VD A (fun l=>aj (bY [45,62]) (fun b=>if b then aj typ fun r=>aG (.mk 6 [] [] [gu l,r])else aG (gu l)))=Q):=hid (by
   have:=jO.out;rw [yY]at this;rw [←HA.out];exact this)
  have iM:=hid (iR.out.below (new1 w2 (.cells #[.int .i64 kz,sv sz, .slice lW lX lY, .slice lZ l6 l7] 57)));have HT3:=hid (aA HT2.out (Turn.alloc (fun k=>k=bp) w2 (.cells #[.int .i64 kz,sv sz, .slice lW lX lY, .slice lZ l6 l7] 57)));have HRW:=hid (ah nN.out (Turn.alloc (fun _=>False) w2 (.cells #[.int .i64 kz,sv sz, .slice lW lX lY, .slice lZ l6 l7] 57)) id);have HXW:=hid (aH Gj.out (Turn.alloc (fun _=>False) w2 (.cells #[.int .i64 kz,sv sz, .slice lW lX lY, .slice lZ l6 l7] 57)) id);clear hA;go_wp2_with fail;go_loopw [3] (fun v3 wr=>∃(f:Nat) (l:List bT) (r:List aD),fu jR 4 57 wr w1.heap.size (fun j=>w1.heap.size≤j) v3 l∧l≠[]∧kJ typ f l r=A∧r.length≤f∧l.length+r.length≤8194∧Turn (fun k=>k=bp) w wr∧w1.heap.size≤wr.heap.size∧bK wr bp B r (d+1)∧wr.cell? ⟨w.heap.size+1,0,none⟩=some (.pointer (some ⟨bp,0,none⟩))∧wr.heap[w.heap.size]? =some (.cells #[.int .i64 0, .string ⟨#[]⟩, .slice none 0 0, .slice none 0 0] 57 (0,0))) (fun _ wr=>leftOf wr bp)
  case atStart=>exact⟨_,[t],r2,dV.out,by simp,HA.out,Nat.le_refl _,by have:=TB.out;have:=HLEN.out;simp;omega,HT3.out,by simp;omega,iM.out,HXW.out,HRW.out⟩
  case round=>
   obtain⟨f,l,r,hrow,hne,ha,hf,hlr,ht,hsw,hk,hx,hr⟩:=hrel;have hwf:=hk.wf;have hpos:=hwf.pos;obtain⟨f,rfl⟩:∃f',f=f'+1:=⟨f - 1,by omega⟩
   have Wo:Hid (aj (bY [124]) (fun b=>if b then aj (iW typ) fun a=>kJ typ f (l++[a])else aG l) r=A):=hid ha;have Rk:=hid hk.left;have HF:=hid hf;have FC:=hid hlr;have zX:=hid ht;have FH:=hid hk;have HXR:=hid hx;have HRR:=hid hr;have ru:=hid hwf;have HH:=hid (jr wr bp B r (d+1) hk [124]);have HPO:=hid hpos;have Rl:=hid hrow;obtain⟨Al,cl,hvl,hcl,hml⟩:=hrow.shape;subst hvl;clear hrow ha hf hlr ht hk hx hr hwf hpos;go_wp2_with fail;refine(HH.out).mono ?_;rintro e w3 h3;rcases hq:bY [124] r with g | ⟨b,r3⟩
   ·obtain⟨rfl,tn,bn⟩:=h3.bM hq;exact(gJ hq).elim
   ·obtain⟨v3,rfl,tn,rfl,kn⟩:=h3.aL hq;have hq3:=hid hq;have Rm:=hid (aH HXR.out tn (by omega));have nO:=hid (Rl.out.turn aO tn (fun g hg e=>by have:=(Rl.out.lt g hg).1;omega) (fun g _ hg e=>by omega));have hs3:=tn.size;have HT3:=hid (aA zX.out tn);have iM:=hid kn;have Bh:=hid (ah HRR.out tn (by omega));clear h3 tn kn hq;cases b
    ·have HA3:Hid (Pr.good l r3=A):=hid ((au hq3.out).symm.trans Wo.out);have gQ:Hid (aj (bY [45,62]) (fun b=>if b then aj typ fun r=>aG (.mk 6 [] [] [gu l,r])else aG (gu l)) r3=Q):=hid (by have:=KZ.out;rw [←HA3.out]at this;exact this);have HNE:=hid hne;obtain⟨ys,hy,hrr⟩:=nO.out;obtain⟨ta,l',rfl⟩:∃a l',l=a :: l':=by cases l with | nil=>exact absurd rfl hne | cons a l'=>exact⟨a,l',rfl⟩
     obtain⟨g0,c9,hg0,hgb,hgs,hc9,hm9⟩:=gH hy (by simp);injection hg0 with hg0 hg1 hg2;subst hg0 hg2;cases hrr with
     | @cons z0 y0 _ _ hz0 hx0 hrt=>
      obtain⟨k0,s0,Mc,n10,c10,Md,n20,c20,rfl⟩:=hx0.shape';have o0:=(aR hy rfl (i:=0) (u:= .int .i64 k0) rfl).1;have o1:=(aR hy rfl (i:=1) (u:=sv s0) rfl).1;have o2:=(aR hy rfl (i:=2) (u:= .slice Mc n10 c10) rfl).1;have o3:=(aR hy rfl (i:=3) (u:= .slice Md n20 c20) rfl).1;have HZ0:=hid (hx0.mono (G:=fun j=>w1.heap.size≤j) (fun _ _ h=>h.2));have hll:((ta :: l').length:Int)=(l'.length:Int)+1:=by simp
      clear hy hx0 hrt hz0 hne;cases l' with
      | nil=>
       simp only [List.length_nil]at*
       have HN:=hid (jr (w3.alloc (.cells #[.int .i64 k0,sv s0, .slice Mc n10 c10, .slice Md n20 c20] 57)) bp B r3 (d+1) (iM.out.below (new1 _ _)) [45,62]);go_wp2_with fail;refine(HN.out).mono ?_;rintro e w4 h4;rcases hq:bY [45,62] r3 with g | ⟨b,r4⟩
       ·obtain⟨rfl,tn,bn⟩:=h4.bM hq;exact(gJ hq).elim
       ·obtain⟨v4,rfl,tn,rfl,kn⟩:=h4.aL hq;obtain⟨tm,Wn,hbt⟩:=bH tn;have jI:=hid (hbt (by omega));have hq4:=hid hq;have yZ:=hid (aH Rm.out tm (by omega));have Wp:Hid (jR w4 (fun j=>w1.heap.size≤j) [.int .i64 k0,sv s0, .slice Mc n10 c10, .slice Md n20 c20] (gu [ta])):=hid (HZ0.out.turn tm (fun g _ h e=>by omega));clear hbt;have hs4:=tm.size;have fP:=hid (aA HT3.out tm);have jH:=hid kn;have qo:=hid (ah Bh.out tm (by omega));clear h4 tn kn hq;cases b
        ·have fV:Hid (Pr.good (gu ([ta])) r4=Q):=hid ((au hq4.out).symm.trans gQ.out);obtain⟨e0,e1,e2,e3,ez⟩:=aP jI.out;obtain⟨c0,c1,c2,c3,cz⟩:=aP qo.out;go_wp2_with fail;have tF:=bW w4 w.heap.size (.int .i64 k0) (sv s0) (.slice Mc n10 c10) (.slice Md n20 c20)
         exact gT (fun w9 t9=>aS rfl rfl (ah (aU qo.out _ _ _ _) t9 (by omega)) Tryz.underlying57 rfl (by kernel_rfl)) (jH.out.uq (by omega)) h0 h1 (aH yZ.out tF (by omega)) (iU fP.out (by omega)) fV.out.symm
          (fun w9 t9=>⟨[.int .i64 k0,sv s0, .slice Mc n10 c10, .slice Md n20 c20],rfl,((Wp.out.turn tF (fun g _ h e=>by omega)).turn t9 (fun g _ h e=>by omega)).mono (fun g _ h=>by omega)⟩)
        ·have fV:Hid (aj typ (fun r=>aG (bT.mk 6 [] [] [gu ([ta]),r])) r4=Q):=hid ((au hq4.out).symm.trans gQ.out);obtain⟨e0,e1,e2,e3,ez⟩:=aP jI.out;have PT:=hid (fun(w':World) (h:Turn (fun j=>j=bp) w4 w')=>(⟨aH e0 h (by omega),aH e1 h (by omega),aH e2 h (by omega),aH e3 h (by omega)⟩:w'.cell? ⟨w3.heap.size,0,none⟩=some (.int .i64 k0)∧w'.cell? ⟨w3.heap.size,1,none⟩=some (sv s0)∧w'.cell? ⟨w3.heap.size,2,none⟩=some (.slice Mc n10 c10)∧w'.cell? ⟨w3.heap.size,3,none⟩=some (.slice Md n20 c20)));have HD0:Hid (Turn (fun j=>j=bp) w4 w4.drew):=hid ⟨rfl,rfl,rfl,Nat.le_refl _,fun _ _ _=>rfl⟩;have zW:=hid (pK w4.drew bp B r4 jH.out);clear e0 e1 e2 e3 ez;go_wp2_with fail;refine bO (S:=fun w'=>Turn (fun j=>j=bp) w4 w') (x:=5) (by kernel_rfl) ?_
         try simp only [Act.put,sq]
         refine jq 0 (.agg #[.int .i64 k0,sv s0, .slice Mc n10 c10, .slice Md n20 c20]) PT.out HD0.out (hQ:=fG rfl (by decide)) ?_;refine tx 1 (.pointer (some ⟨bp,0,none⟩)) HD0.out (hQ:=fG rfl (by decide)) ?_;refine ay (rs:=[2]) (by kernel_rfl) (by simp) ?_;refine av.cons rfl (fun K hK=> ?_) (av.nil);go_simp;refine(zW.out).mono ?_;rintro e w5 h5;rcases hq:typ r4 with g | ⟨x5,r5⟩
         ·obtain⟨rfl,tn,bn⟩:=h5.bM hq;have t5:=aA HD0.out tn;exact iI bn (aH yZ.out t5 (by omega)) (aA fP.out t5) (fV.out.symm.trans (aB hq))
         ·obtain⟨v5,rfl,tn,⟨z5,rfl,Bj⟩,kn⟩:=h5.aL hq;obtain⟨k5,s5,vE,n15,c15,vF,n25,vG,rfl⟩:=Bj.shape';have fM:=hid (aA HD0.out tn);have hs5:=fM.out.size;have kW:=hid kn;have uU:=hid (Bj.mono (G:=fun j=>w1.heap.size≤j) (fun g _ h=>by have h:w4.heap.size≤g:=h;omega));have gN:Hid (Pr.good (bT.mk 6 [] [] [gu ([ta]),x5]) r5=Q):=hid ((au hq).symm.trans fV.out);clear h5 tn Bj kn hq;refine hK.out _ _ fM.out ?_;clear hK K
          try simp only [Act.put,sq]
          refine ay (rs:=[3]) (by kernel_rfl) (by simp) ?_;refine av.cons rfl (fun K hK=> ?_) (av.nil);go_simp;have kQ:=hid (aA fM.out (Turn.alloc (fun k=>k=bp) w5 (.cells #[.int .i64 k0,sv s0, .slice Mc n10 c10, .slice Md n20 c20, .int .i64 k5,sv s5, .slice vE n15 c15, .slice vF n25 vG] 57)));refine hK.out _ _ kQ.out ?_;clear hK K
          try simp only [Act.put,sq]
          refine tx 4 (.agg #[.int .i64 6, .string ⟨#[]⟩, .slice none 0 0, .slice (some ⟨w5.heap.size,0,none⟩) 2 2]) kQ.out (hQ:=fG rfl (by decide)) ?_;have Cb:=hid (ah qo.out kQ.out (by omega));obtain⟨c0,c1,c2,c3,cz⟩:=aP Cb.out;refine ay (rs:=[5]) (by kernel_rfl) (by simp) ?_;refine av.past rfl (by kernel_rfl) (fun K hK=> ?_) (av.nil);go_simp;refine hK.out _ _ ?_;clear hK K
          try simp only [Act.put,sq]
          refine aM (by kernel_rfl) ?_ _;have tA:=Turn.alloc (fun _=>False) w5 (.cells #[.int .i64 k0,sv s0, .slice Mc n10 c10, .slice Md n20 c20, .int .i64 k5,sv s5, .slice vE n15 c15, .slice vF n25 vG] 57);have tF:=bW (w5.alloc (.cells #[.int .i64 k0,sv s0, .slice Mc n10 c10, .slice Md n20 c20, .int .i64 k5,sv s5, .slice vE n15 c15, .slice vF n25 vG] 57)) w.heap.size (.int .i64 6) (sv []) (.slice none 0 0) (.slice (some ⟨w5.heap.size,0,none⟩) 2 2);have y1:=((Wp.out.turn fM.out (fun g _ h e=>by omega)).turn tA (fun _ _ _=>id)).turn tF (fun g _ h e=>by omega);have y2:=(uU.out.turn tA (fun _ _ _=>id)).turn tF (fun g _ h e=>by omega);have y3:=(iH w5 #[.int .i64 k0,sv s0, .slice Mc n10 c10, .slice Md n20 c20, .int .i64 k5,sv s5, .slice vE n15 c15, .slice vF n25 vG] 57 4 2 rfl (by decide)).turn tF (fun g _ h e=>by omega);go_wp2_with fail
          exact gT (fun w9 t9=>aS rfl rfl (ah (aU Cb.out _ _ _ _) t9 (by omega)) Tryz.underlying57 rfl (by kernel_rfl)) ((kW.out.below (new1 _ _)).uq (by omega)) h0 h1 (aH (aH yZ.out kQ.out (by omega)) tF (by omega)) (iU (aA fP.out kQ.out) (by omega)) gN.out.symm
           (fun w9 t9=>⟨_,rfl, .mk (dB.nil _ _ _) ((y3.turn t9 (fun g _ h e=>by omega)).mono (fun g _ h=>by omega)) (.cons ((y1.turn t9 (fun g _ h e=>by omega)).mono (fun g _ h=>by omega)) (.cons ((y2.turn t9 (fun g _ h e=>by omega)).mono (fun g _ h=>by omega)) .nil))⟩)
      | cons uo l2=>
       have hgt:decide ((1:Int)<(l2.length:Int)+1+1)=true:=by simp;omega
       obtain⟨xsu,Rn,Ro⟩:=nO.out.sl aO;have TD:=hid Rn;have TF:=hid Ro;clear Rn Ro;have HN:=hid (jr (w3.alloc (.cells #[.int .i64 7, .string ⟨#[]⟩, .slice none 0 0, .slice (some ⟨g0,0,none⟩) (l2.length+1+1) cl] 57)) bp B r3 (d+1) (iM.out.below (new1 _ _)) [45,62]);go_wp2_with fail;refine(HN.out).mono ?_;rintro e w4 h4;rcases hq:bY [45,62] r3 with g | ⟨b,r4⟩
       ·obtain⟨rfl,tn,bn⟩:=h4.bM hq;exact(gJ hq).elim
       ·obtain⟨v4,rfl,tn,rfl,kn⟩:=h4.aL hq;obtain⟨tm,Wn,hbt⟩:=bH tn;have jI:=hid (hbt (by omega));have hq4:=hid hq;have yZ:=hid (aH Rm.out tm (by omega));have Wp:Hid (jR w4 (fun j=>w1.heap.size≤j) [.int .i64 7, .string ⟨#[]⟩, .slice none 0 0, .slice (some ⟨g0,0,none⟩) (l2.length+1+1) cl] (gu (ta :: uo :: l2))):=hid (.mk (dB.nil _ _ _) ((TD.out.turn tm (fun g _ h e=>by rcases h with h | h <;> omega)).mono (fun g _ h=>by rcases h with h | h <;> omega)) (kZ (dD aO (fun g _ h=>by rcases h with h | h <;> omega) (bD aO tm (fun g _ h e=>by rcases h with h | h <;> omega) TF.out))));clear hbt;have hs4:=tm.size;have fP:=hid (aA HT3.out tm);have jH:=hid kn;have qo:=hid (ah Bh.out tm (by omega));clear h4 tn kn hq;cases b
        ·have fV:Hid (Pr.good (gu (ta :: uo :: l2)) r4=Q):=hid ((au hq4.out).symm.trans gQ.out);obtain⟨e0,e1,e2,e3,ez⟩:=aP jI.out;obtain⟨c0,c1,c2,c3,cz⟩:=aP qo.out;go_wp2_with fail;have tF:=bW w4 w.heap.size (.int .i64 7) (.string ⟨#[]⟩) (.slice none 0 0) (.slice (some ⟨g0,0,none⟩) (l2.length+1+1) cl)
         exact gT (fun w9 t9=>aS rfl rfl (ah (aU qo.out _ _ _ _) t9 (by omega)) Tryz.underlying57 rfl (by kernel_rfl)) (jH.out.uq (by omega)) h0 h1 (aH yZ.out tF (by omega)) (iU fP.out (by omega)) fV.out.symm
          (fun w9 t9=>⟨[.int .i64 7, .string ⟨#[]⟩, .slice none 0 0, .slice (some ⟨g0,0,none⟩) (l2.length+1+1) cl],rfl,((Wp.out.turn tF (fun g _ h e=>by omega)).turn t9 (fun g _ h e=>by omega)).mono (fun g _ h=>by omega)⟩)
        ·have fV:Hid (aj typ (fun r=>aG (bT.mk 6 [] [] [gu (ta :: uo :: l2),r])) r4=Q):=hid ((au hq4.out).symm.trans gQ.out);obtain⟨e0,e1,e2,e3,ez⟩:=aP jI.out;have PT:=hid (fun(w':World) (h:Turn (fun j=>j=bp) w4 w')=>(⟨aH e0 h (by omega),aH e1 h (by omega),aH e2 h (by omega),aH e3 h (by omega)⟩:w'.cell? ⟨w3.heap.size,0,none⟩=some (.int .i64 7)∧w'.cell? ⟨w3.heap.size,1,none⟩=some (.string ⟨#[]⟩)∧w'.cell? ⟨w3.heap.size,2,none⟩=some (.slice none 0 0)∧w'.cell? ⟨w3.heap.size,3,none⟩=some (.slice (some ⟨g0,0,none⟩) (l2.length+1+1) cl)));have HD0:Hid (Turn (fun j=>j=bp) w4 w4.drew):=hid ⟨rfl,rfl,rfl,Nat.le_refl _,fun _ _ _=>rfl⟩;have zW:=hid (pK w4.drew bp B r4 jH.out);clear e0 e1 e2 e3 ez;go_wp2_with fail;refine bO (S:=fun w'=>Turn (fun j=>j=bp) w4 w') (x:=5) (by kernel_rfl) ?_
         try simp only [Act.put,sq]
         refine jq 0 (.agg #[.int .i64 7, .string ⟨#[]⟩, .slice none 0 0, .slice (some ⟨g0,0,none⟩) (l2.length+1+1) cl]) PT.out HD0.out (hQ:=fG rfl (by decide)) ?_;refine tx 1 (.pointer (some ⟨bp,0,none⟩)) HD0.out (hQ:=fG rfl (by decide)) ?_;refine ay (rs:=[2]) (by kernel_rfl) (by simp) ?_;refine av.cons rfl (fun K hK=> ?_) (av.nil);go_simp;refine(zW.out).mono ?_;rintro e w5 h5;rcases hq:typ r4 with g | ⟨x5,r5⟩
         ·obtain⟨rfl,tn,bn⟩:=h5.bM hq;have t5:=aA HD0.out tn;exact iI bn (aH yZ.out t5 (by omega)) (aA fP.out t5) (fV.out.symm.trans (aB hq))
         ·obtain⟨v5,rfl,tn,⟨z5,rfl,Bj⟩,kn⟩:=h5.aL hq;obtain⟨k5,s5,vE,n15,c15,vF,n25,vG,rfl⟩:=Bj.shape';have fM:=hid (aA HD0.out tn);have hs5:=fM.out.size;have kW:=hid kn;have uU:=hid (Bj.mono (G:=fun j=>w1.heap.size≤j) (fun g _ h=>by have h:w4.heap.size≤g:=h;omega));have gN:Hid (Pr.good (bT.mk 6 [] [] [gu (ta :: uo :: l2),x5]) r5=Q):=hid ((au hq).symm.trans fV.out);clear h5 tn Bj kn hq;refine hK.out _ _ fM.out ?_;clear hK K
          try simp only [Act.put,sq]
          refine ay (rs:=[3]) (by kernel_rfl) (by simp) ?_;refine av.cons rfl (fun K hK=> ?_) (av.nil);go_simp;have kQ:=hid (aA fM.out (Turn.alloc (fun k=>k=bp) w5 (.cells #[.int .i64 7, .string ⟨#[]⟩, .slice none 0 0, .slice (some ⟨g0,0,none⟩) (l2.length+1+1) cl, .int .i64 k5,sv s5, .slice vE n15 c15, .slice vF n25 vG] 57)));refine hK.out _ _ kQ.out ?_;clear hK K
          try simp only [Act.put,sq]
          refine tx 4 (.agg #[.int .i64 6, .string ⟨#[]⟩, .slice none 0 0, .slice (some ⟨w5.heap.size,0,none⟩) 2 2]) kQ.out (hQ:=fG rfl (by decide)) ?_;have Cb:=hid (ah qo.out kQ.out (by omega));obtain⟨c0,c1,c2,c3,cz⟩:=aP Cb.out;refine ay (rs:=[5]) (by kernel_rfl) (by simp) ?_;refine av.past rfl (by kernel_rfl) (fun K hK=> ?_) (av.nil);go_simp;refine hK.out _ _ ?_;clear hK K
          try simp only [Act.put,sq]
          refine aM (by kernel_rfl) ?_ _;have tA:=Turn.alloc (fun _=>False) w5 (.cells #[.int .i64 7, .string ⟨#[]⟩, .slice none 0 0, .slice (some ⟨g0,0,none⟩) (l2.length+1+1) cl, .int .i64 k5,sv s5, .slice vE n15 c15, .slice vF n25 vG] 57);have tF:=bW (w5.alloc (.cells #[.int .i64 7, .string ⟨#[]⟩, .slice none 0 0, .slice (some ⟨g0,0,none⟩) (l2.length+1+1) cl, .int .i64 k5,sv s5, .slice vE n15 c15, .slice vF n25 vG] 57)) w.heap.size (.int .i64 6) (sv []) (.slice none 0 0) (.slice (some ⟨w5.heap.size,0,none⟩) 2 2);have y1:=((Wp.out.turn fM.out (fun g _ h e=>by omega)).turn tA (fun _ _ _=>id)).turn tF (fun g _ h e=>by omega);have y2:=(uU.out.turn tA (fun _ _ _=>id)).turn tF (fun g _ h e=>by omega);have y3:=(iH w5 #[.int .i64 7, .string ⟨#[]⟩, .slice none 0 0, .slice (some ⟨g0,0,none⟩) (l2.length+1+1) cl, .int .i64 k5,sv s5, .slice vE n15 c15, .slice vF n25 vG] 57 4 2 rfl (by decide)).turn tF (fun g _ h e=>by omega);go_wp2_with fail
          exact gT (fun w9 t9=>aS rfl rfl (ah (aU Cb.out _ _ _ _) t9 (by omega)) Tryz.underlying57 rfl (by kernel_rfl)) ((kW.out.below (new1 _ _)).uq (by omega)) h0 h1 (aH (aH yZ.out kQ.out (by omega)) tF (by omega)) (iU (aA fP.out kQ.out) (by omega)) gN.out.symm
           (fun w9 t9=>⟨_,rfl, .mk (dB.nil _ _ _) ((y3.turn t9 (fun g _ h e=>by omega)).mono (fun g _ h=>by omega)) (.cons ((y1.turn t9 (fun g _ h e=>by omega)).mono (fun g _ h=>by omega)) (.cons ((y2.turn t9 (fun g _ h e=>by omega)).mono (fun g _ h=>by omega)) .nil))⟩)
    ·have gQ:Hid (aj (iW typ) (fun a=>kJ typ f (l++[a])) r3=A):=hid ((au hq3.out).symm.trans Wo.out);have Rp:=hid (qI hq3.out HPO.out);have HP:=hid (D8 (d+1) typ pK hsf w3 bp B r3 iM.out);go_wp2_with fail;refine(HP.out).mono ?_;rintro e w4 h4;rcases hq:iW typ r3 with g | ⟨t4,r4⟩
     ·obtain⟨rfl,tn,bn⟩:=h4.bM hq;clear h4;have dG:=hid (KZ.out.symm.trans (congrArg (fun q=>VD q _) (gQ.out.symm.trans (aB hq))));have oK:=hid ((aA HT3.out tn));have hxo:=(aH Rm.out tn (by omega))
      have nk:=hid bn;clear tn bn hq;go_wp2_with fail;exact iI nk.out hxo oK.out dG.out
     ·obtain⟨v4,rfl,tn,⟨z4,rfl,hz⟩,kn⟩:=h4.aL hq;obtain⟨k4,s4,mg,n14,c14,mh,n24,c24,rfl⟩:=hz.shape';have yZ:=hid (aH Rm.out tn (by omega));have uV:=hid hz;have vH:=hid tn;have TB:=hid ((Sf.Dt hsf).good iM.out.wf hq).2.length_le;clear hz;have hs4:=tn.size;have fP:=hid (aA HT3.out tn);have jH:=hid kn;have fV:Hid (kJ typ f (l++[t4]) r4=A):=hid ((au hq).symm.trans gQ.out);have qo:=hid (ah Bh.out tn (by omega));clear h4 tn kn hq;obtain⟨ys,hy,hrr⟩:=nO.out;have hyl:ys.length=l.length*4:=hy.1;have Rq:=dK hy vH.out (fun g hg e=>by have:=(hy.lt g hg).1;omega);have HY:=hid hy;have HRR:=hid hrr;have Wq:=hid Rq;have Ws:l.length≤8194:=by have:=FC.out;omega
      clear hy hrr Rq;go_wp2_with (at_builtin;go_must (refine gq rfl (.tmp 14) (.tmp 17) _ rfl w1.heap.size uh _ _ rfl rfl (Wq.out.alloc (.cells #[.int .i64 k4,sv s4, .slice mg n14 c14, .slice mh n24 c24] 57)) (fU w4 #[.int .i64 k4,sv s4, .slice mg n14 c14, .slice mh n24 c24] 57 4 1 rfl (by decide)) (xV k4 s4 _ _ _ _ _ _) (by simp [maxLen];omega) (by simp;omega) (by simp;omega) (fun v9 w9 n9 eY qj jL=> ?_));have qp:=hid eY;have K3:=hid qj;have y8:=hid jL;clear eY qj jL);have ta:=Turn.alloc (fun j=>(Value.slice Al l.length cl).ownBlock=some j) w4 (.cells #[.int .i64 k4,sv s4, .slice mg n14 c14, .slice mh n24 c24] 57);have t9:=ta.trans (Turn.bA K3.out (F:=fun j=>(Value.slice Al l.length cl).ownBlock=some j) (fun _ h=>h)) (fun _ _ h=>h);have wV:=nO.out.lt;have uy:=fu.push aO (F:=fun j=>w1.heap.size≤j) HY.out HRR.out vH.out uV.out t9 (fun j _ h=> .inl h) (y8.out.imp id fun e=>⟨_,by simp,e⟩) qp.out (by omega) (by omega) (fun j hj=>by omega)
      go_roundw
      case rel=>exact⟨f, _,r4,uy,by simp,fV.out,by have:=TB.out;have:=Rp.out;have:=HF.out;omega,by have:=TB.out;have:=Rp.out;have:=FC.out;simp;omega,fP.out.trans t9 (fun i hi e=>by have:=(wV i e).1;omega),by have:=t9.size;omega,jH.out.turn t9 (fun e=>by have:=(wV _ e).1;omega) (fun k hk e=>by have:=(wV _ e).1;omega),aH yZ.out t9 (fun e=>by have:=(wV _ e).1;omega),ah qo.out t9 (fun e=>by have:=(wV _ e).1;omega)⟩
      case measure=>rw [(jH.out.turn t9 (fun e=>by have:=(wV _ e).1;omega) (fun k hk e=>by have:=(wV _ e).1;omega)).left,Rk.out];have:=TB.out;have:=Rp.out;omega
theorem Me:uj 100 (jh 6):=by
 intro w bp B ts h;have HE:=hid (su (w.alloc (.cells #[.int .i64 0, .string ⟨#[]⟩, .slice none 0 0, .slice none 0 0] 57)) bp B ts (h.below (new1 _ _)));clear h
 go_enter_defers Tryz.func54,Tryz.ntmps54
 go_wp2_with fail;refine(HE.out).mono ?_;rintro e w1 ⟨rfl,hb⟩;go_wp2_with fail;exact aF.fail (P:=OG w.heap.size) (B:=B) (d:=100) (q:=jh 6 ts) rfl ⟨(bH hb.1).1,hb.2⟩
theorem xX:∀n:Nat,n≤100→uj (100 - (n:Int)) (bR n).typ
 | 0, _=>Me
 | n+1,h=>by
  have ih:=xX n (by omega);have e:(100:Int) - ((n+1:Nat):Int)+1=100 - (n:Int):=by omega
  refine Ma (100 - ((n+1:Nat):Int)) (by omega) (by omega) (bR n).typ ?_ (Sf.Ig n).1;rw [e];exact ih
end Go.Proofs.YtfgjkmipfikooaaGreatDoor
