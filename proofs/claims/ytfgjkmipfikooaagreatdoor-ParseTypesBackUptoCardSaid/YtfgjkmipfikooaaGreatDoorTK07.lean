/- FK, FL, FM -/
import Derived.Test.YtfgjkmipfikooaaGreatDoorTKQ
import Derived.Test.YtfgjkmipfikooaaGreatDoorTK06
import Derived.Test.YtfgjkmipfikooaaGreatDoorTK01
set_option linter.unusedSimpArgs false
set_option linter.unusedVariables false
set_option maxRecDepth 100000
set_option maxHeartbeats 8000000
namespace Go.Proofs.YtfgjkmipfikooaaGreatDoor
open Go.RowKit
def sZ (d:Int) (typ:Ps aZ):Prop:=∀(w:World) (bp B:Nat) (ts:List aF),bF w bp B ts d→
 Calls Tryz.prog 54 #[.pointer (some ⟨bp,0,none⟩)] w (aD (Ve w.heap.size) bp B d w (typ ts))
structure ko (pb tb base bp:Nat) (w:World) (l1:List Bt) (l2:List aZ) (v1 v2:Value):Prop where
 box:w.heap[pb]? =some (.cells #[.pointer (some ⟨bp,0,none⟩)] 91 (0,0))
 blk:w.heap[tb]? =some (.cells #[.int .i64 5,sv [],v1,v2] 57 (0,0))
 tq:gq w base 9 v1 l1
 kid:fP kX 4 57 w base (fun j=>base≤j∧v1.ownBlock≠some j) v2 l2
 ne:∀g,v1.ownBlock=some g→v2.ownBlock≠some g
structure tu (pb tb base bp:Nat) (w:World):Prop where
 AP:bp<pb
 Dj:bp<tb
 FQ:pb<base
 Jl:tb<base
 ne:pb≠tb
 EU:base≤w.heap.size
theorem tu.turn {pb tb base bp:Nat} {w w':World} {G:Nat→Prop} (h:tu pb tb base bp w) (t:Turn G w w'):tu pb tb base bp w':={ h with EU:=Nat.le_trans h.EU t.size}
theorem ko.turn {pb tb base bp:Nat} {w w':World} {l1:List Bt} {l2:List aZ} {v1 v2:Value} (h:ko pb tb base bp w l1 l2 v1 v2) (p:tu pb tb base bp w) (t:Turn (fun k=>k=bp) w w'):ko pb tb base bp w' l1 l2 v1 v2:=by
 have:=p.AP;have:=p.Dj;have:=p.FQ;have:=p.Jl;exact⟨ah h.box t (by omega),ah h.blk t (by omega),h.tq.turn t (fun g hg e=>by have:=(h.tq.lt g hg).1;omega),h.kid.turn bf t (fun g hg e=>by have:=(h.kid.lt g hg).1;omega) (fun g _ hg e=>by have:=hg.1;omega),h.ne⟩
theorem ko.name {pb tb base bp:Nat} {w w7:World} {l1:List Bt} {l2:List aZ} {v1 v2 v7:Value} {o:Obj} {s:Bt} (h:ko pb tb base bp w l1 l2 v1 v2) (p:tu pb tb base bp w)
  (h7:gq w7 base 9 v7 (l1++[s])) (hg:(w.alloc o).grownBy w7 v1.ownBlock) (hbk:v7.ownBlock=v1.ownBlock∨v7.ownBlock=some (w.alloc o).heap.size):
  ko pb tb base bp (w7.setCell ⟨tb,2,none⟩ v7) (l1++[s]) l2 v7 v2∧Turn (fun j=>v1.ownBlock=some j∨j=tb) w (w7.setCell ⟨tb,2,none⟩ v7):=by
 have:=p.FQ;have:=p.Jl;have hne:=p.ne;have hbs:=p.EU;have t7:Turn (fun j=>v1.ownBlock=some j) w w7:=(Turn.alloc _ _ _).trans (Turn.bE hg (fun k h=>h)) (fun _ _ h=>h);have t8:=ak w7 tb 2 v7;have hs:(w.alloc o).heap.size=w.heap.size+1:=by simp
 have hlt:=h.tq.lt;have hk:=h.kid;have hkl:=hk.lt
 have k1:fP kX 4 57 w base (fun j=>(base≤j∧v1.ownBlock≠some j)∧v7.ownBlock≠some j) v2 l2:=hk.mono bf fun g hg h=>⟨h,fun e=>by
  rcases hbk with hb | hb
  ·rw [hb]at e;exact h.2 e
  ·rw [hb,hs]at e;injection e with e;omega⟩
 have k7:=k1.turn bf t7 (fun g hg e=>h.ne g e hg) (fun g _ hg e=>hg.1.2 e);have k8:=k7.turn bf t8 (fun g hg e=>by have:=(hkl g hg).1;omega) (fun g _ hg e=>by have:=hg.1.1;omega);refine⟨⟨ah (ah h.box t7 (fun e=>by have:=(hlt _ e).1;omega)) t8 hne,heap_setCell_same _ _ 2 _ _ _ (ah h.blk t7 (fun e=>by have:=(hlt _ e).1;omega)),h7.turn t8 (fun g hg e=>by have:=(h7.lt g hg).1;omega),k8.mono bf fun g _ h=>⟨h.1.1,h.2⟩,fun g e=> ?_⟩,(t7.mono (G:=fun j=>v1.ownBlock=some j∨j=tb) fun _ _ h=> .inl h).trans t8 (fun _ _ h=> .inr h)⟩;rcases hbk with hb | hb
 ·rw [hb]at e;exact h.ne g e
 ·rw [hb,hs]at e;injection e with e;intro e2;have:=(hkl g e2).2;omega
theorem ko.type {pb tb base bp:Nat} {w w6 w8:World} {l1:List Bt} {l2:List aZ} {v1 v2 v7:Value} {z:List Value} {x:aZ} (h:ko pb tb base bp w l1 l2 v1 v2) (p:tu pb tb base bp w)
  (t:Turn (fun k=>k=bp) w w6) (hx:kX w6 (fun j=>w.heap.size≤j) z x) (t8:Turn (fun j=>v2.ownBlock=some j∨j=tb) w6 w8) {ys:List Value} {n7:Nat} (hy:w.ownsRow base 57 4 v2 l2.length ys) (hr:dh (kX w (pU (fun j=>base≤j∧v1.ownBlock≠some j) v2)) 4 ys l2)
  (h7:w8.ownsRow base 57 4 v7 n7 (ys++z)) (hbk:v7.ownBlock=v2.ownBlock∨∃m,w6.heap.size≤m∧v7.ownBlock=some m) (hb:w8.heap[tb]? =some (.cells #[.int .i64 5,sv [],v1,v7] 57 (0,0))):
  ko pb tb base bp w8 l1 (l2++[x]) v1 v7:=by
 have:=p.FQ;have:=p.Jl;have hne:=p.ne;have hbs:=p.EU;have:=p.AP;have:=p.Dj;have h6:=h.turn p t;have hlt:=h.tq.lt;have hkl:=h.kid.lt;have hs6:=t.size;refine⟨ah h6.box t8 (fun e=> ?_),hb,h6.tq.turn t8 (fun g hg e=> ?_), ?_,fun g e=> ?_⟩
 ·rcases e with e | e
  ·have:=(hkl _ e).1;omega
  ·exact hne e
 ·rcases e with e | e
  ·exact h.ne g hg e
  ·have:=(hlt g hg).1;omega
 ·exact fP.push bf (F:=fun j=>base≤j∧v1.ownBlock≠some j) hy hr t hx t8 (fun j _ e=>by
   rcases e with e | e
   ·exact .inl e
   ·exact .inr ⟨fun h=>by have:=h.1;omega,by omega⟩) hbk h7 (by omega) (fun h=>by have:=h.1;omega) (fun j hj=>⟨by omega,fun e=>by have:=(hlt j e).2;omega⟩)
 ·have hg1:=(hlt g e).2;rcases hbk with hb | ⟨m,hm,hb⟩
  ·rw [hb];exact h.ne g e
  ·rw [hb];intro e2;injection e2 with e2;omega
def Hf (pb tb base bp:Nat) (w:World) (l:List (Bt ×aZ)):Prop:=∃v1 v2,ko pb tb base bp w (l.map (·.1)) (l.map (·.2)) v1 v2
theorem ko.Pg {pb tb base bp g:Nat} {w w6 w7:World} {l1:List Bt} {l2:List aZ} {v1 v2 v7:Value} {z:List Value} {x:aZ} (h:ko pb tb base bp w l1 l2 v1 v2) (p:tu pb tb base bp w)
  (t:Turn (fun k=>k=bp) w w6) (hx:kX w6 (fun j=>w.heap.size≤j) z x) {ys zs:List Value} {n7:Nat} (hy:w.ownsRow base 57 4 v2 l2.length ys) (hr:dh (kX w (pU (fun j=>base≤j∧v1.ownBlock≠some j) v2)) 4 ys l2) (hzs:zs.length=4)
  (h7:w7.ownsRow base 57 4 v7 n7 (ys++zs)) (hg:w6.grownBy w7 v2.ownBlock) (hbk:v7.ownBlock=v2.ownBlock∨v7.ownBlock=some w6.heap.size) (hv:v7.ownBlock=some g):
  (ko pb tb base bp ((kg w7 g (l2.length*4) z).setCell ⟨tb,3,none⟩ v7) l1 (l2++[x]) v1 v7∧Turn (fun k=>k=bp∨tb≤k) w ((kg w7 g (l2.length*4) z).setCell ⟨tb,3,none⟩ v7))∧
  (ko pb tb base bp (kg (w7.setCell ⟨tb,3,none⟩ v7) g (l2.length*4) z) l1 (l2++[x]) v1 v7∧Turn (fun k=>k=bp∨tb≤k) w (kg (w7.setCell ⟨tb,3,none⟩ v7) g (l2.length*4) z)):=by
 have:=p.FQ;have q1:=p.Jl;have hne:=p.ne;have hbs:=p.EU;have:=p.AP;have:=p.Dj;have hz:z.length=4:=by
  obtain⟨_, _, _, _, _, _, _, _,rfl⟩:=hx.shape';rfl
 have hyl:ys.length=l2.length*4:=hy.1;have hs6:=t.size;have iw:=h7.lt g hv;have h6:=h.turn p t;have tg:=Turn.bE hg (F:=fun j=>v2.ownBlock=some j) (fun k h=>h);have hkl:=h.kid.lt;have hgn:∀j,j<w6.heap.size→j=g→v2.ownBlock=some j:=fun j hj e=>by
  subst e;rcases hbk with hb | hb
  ·rw [←hb];exact hv
  ·rw [hb]at hv;injection hv with hv;omega
 have hbk':v7.ownBlock=v2.ownBlock∨∃m,w6.heap.size≤m∧v7.ownBlock=some m:=hbk.imp id fun e=>⟨_,Nat.le_refl _,e⟩
 have jc:=ah h6.blk tg (fun e=>by have:=(hkl _ e).1;omega);have tp:=fun(w:World)=>eD g z w (l2.length*4);have ts:=fun(w:World)=>ak w tb 3 v7
 have tA:Turn (fun j=>v2.ownBlock=some j∨j=tb) w6 ((kg w7 g (l2.length*4) z).setCell ⟨tb,3,none⟩ v7):=
  ((tg.mono (G:=fun j=>v2.ownBlock=some j∨j=tb) fun _ _ h=> .inl h).trans (tp w7) (fun i hi e=> .inl (hgn i hi e))).trans (ts _) (fun _ _ h=> .inr h)
 have tB:Turn (fun j=>v2.ownBlock=some j∨j=tb) w6 (kg (w7.setCell ⟨tb,3,none⟩ v7) g (l2.length*4) z):=
  ((tg.mono (G:=fun j=>v2.ownBlock=some j∨j=tb) fun _ _ h=> .inl h).trans (ts _) (fun _ _ h=> .inr h)).trans (tp _) (fun i hi e=> .inl (hgn i hi e))
 have hw:∀w8,Turn (fun j=>v2.ownBlock=some j∨j=tb) w6 w8→Turn (fun k=>k=bp∨tb≤k) w w8:=fun w8 t8=>(t.mono (G:=fun k=>k=bp∨tb≤k) fun _ _ h=> .inl h).trans t8 (fun i _ e=>by
  rcases e with e | e
  ·have:=(hkl i e).1;exact .inr (by omega)
  ·exact .inr (by omega))
 have ZF:((kg w7 g (l2.length*4) z).setCell ⟨tb,3,none⟩ v7).ownsRow base 57 4 v7 n7 (ys++z):=dK (wZ h7 hv (by omega) hyl) (ts _) (fun k hk e=>by rw [hv]at hk;injection hk with hk;omega);have ZG:(kg (w7.setCell ⟨tb,3,none⟩ v7) g (l2.length*4) z).ownsRow base 57 4 v7 n7 (ys++z):=wZ (dK h7 (ts _) (fun k hk e=>by rw [hv]at hk;injection hk with hk;omega)) hv (by omega) hyl;exact⟨⟨h.type p t hx tA hy hr ZF hbk' (heap_setCell_same _ _ 3 _ _ _ (ah jc (tp _) (by omega))),hw _ tA⟩,⟨h.type p t hx tB hy hr ZG hbk' (ah (heap_setCell_same _ _ 3 _ _ _ jc) (tp _) (by omega)),hw _ tB⟩⟩
theorem Jm (d:Int) (typ:Ps aZ) (rM:sZ d typ) (w:World) (bp B pb tb base:Nat) (ts:List aF) (l:List (Bt ×aZ)) (hl:l.length≤8193) (h:bF w bp B ts d) (hI:Hf pb tb base bp w l) (hP:tu pb tb base bp w):
  Calls Tryz.prog 167 #[.pointer (some ⟨tb,0,none⟩), .pointer (some ⟨pb,0,none⟩)] w (dx (Hf pb tb base bp) (fun k=>k=bp∨tb≤k) bp B d w (nI (jO typ) l ts)):=by
 obtain⟨v1,v2,hH⟩:=hI;have p1:=hP.AP;have p2:=hP.Dj;have p3:=hP.FQ;have p4:=hP.Jl;have p5:=hP.ne;have p6:=hP.EU;have HN:=hid (eX w.drew bp B ts d h);have hbx:=bI hH.box;obtain⟨t0,t1,t2,t3,tz⟩:=bS hH.blk;obtain⟨A1,c1,hv1,hn1,hm1⟩:=hH.tq.ss.open_;obtain⟨A2,c2,hv2,hn2,hm2⟩:=hH.kid.shape;simp only [List.length_map]at hv1 hn1 hv2 hn2;subst hv1 hv2;have HH:=hid hH;have HP:=hid hP;obtain⟨Q,hQ⟩:∃Q,nI (jO typ) l ts=Q:=⟨_,rfl⟩
 rw [hQ];have HQ:Hid (au (jO typ) (fun x=>aG (l++[x])) ts=Q):=hid hQ;clear hH hP h hm1 hm2 hQ;have P0:=hid (fun(w':World) (h:Turn (fun j=>j=bp∨base≤j) w w')=>aJ hbx h (by omega));have P2:=hid (fun(w':World) (h:Turn (fun j=>j=bp∨base≤j) w w')=>aJ t2 h (by omega));have HD0:Hid (Turn (fun j=>j=bp∨base≤j) w w.drew):=hid ⟨rfl,rfl,rfl,Nat.le_refl _,fun _ _ _=>rfl⟩;have kK:Hid (Turn (fun j=>j=bp) w w.drew):=hid ⟨rfl,rfl,rfl,Nat.le_refl _,fun _ _ _=>rfl⟩;go_enter Tryz.func167,Tryz.ntmps167;go_wp2_with fail;refine bO (S:=fun w'=>Turn (fun j=>j=bp∨base≤j) w w') (x:=9) (by kernel_rfl) ?_
 try simp only [Act.put,sq]
 refine tx 0 (.pointer (some ⟨tb,2,none⟩)) HD0.out ?_;refine kJ 1 (.slice A1 l.length c1) P2.out HD0.out ?_;refine kJ 2 (.pointer (some ⟨bp,0,none⟩)) P0.out HD0.out ?_;refine tx 3 (.pointer (some ⟨bp,0,none⟩)) HD0.out ?_;refine tx 4 (.pointer (some ⟨bp,0,none⟩)) HD0.out ?_;refine ay (rs:=[5]) (by kernel_rfl) (by simp) ?_;refine av.cons rfl (fun K hK=> ?_) (av.nil);go_simp;refine(HN.out).mono ?_;rintro e w2 h2;rcases hq:nameP ts with g | ⟨s,r⟩
 ·obtain⟨rfl,t2,b2⟩:=h2.bG hq;have HT:=hid (((kK.out.trans t2 (fun _ _ h=>h)).mono (G:=fun k=>k=bp∨tb≤k) (fun _ _ h=> .inl h)));have HB:=hid b2;have kZ:=hid (HQ.out.symm.trans (aB (aB hq)));clear h2 t2 b2 hq;exact⟨rfl,dx.fail kZ.out HT.out HB.out⟩
 ·obtain⟨v,rfl,Ph,rfl,k2⟩:=h2.aL hq;have yK:=kK.out.trans Ph (fun _ _ h=>h);have HT2:=hid (yK.mono (G:=fun j=>j=bp∨base≤j) (fun _ _ h=> .inl h));have QH:=hid yK;have kI:=hid k2;have K3:=hid (HH.out.turn HP.out yK);have Hg:=hid (HP.out.turn yK);have kZ:Hid (au (au (aI [58]) fun _=>au typ fun t=>aG (s,t)) (fun x=>aG (l++[x])) r=Q):=hid ((fT (p:=nameP) hq).symm.trans HQ.out);clear h2 Ph k2 hq yK;refine hK.out _ _ HT2.out ?_;clear hK K
  try simp only [Act.put,sq]
  refine ay (rs:=[6]) (by kernel_rfl) (by simp) ?_;refine av.cons rfl (fun K hK=> ?_) (av.nil);go_simp;have HT3:=hid (HT2.out.trans (Turn.alloc (fun j=>j=bp∨base≤j) w2 (.cells #[sv s] 9)) (fun _ _ h=>h));refine hK.out _ _ HT3.out ?_;clear hK K
  try simp only [Act.put,sq]
  refine ay (rs:=[7]) (by kernel_rfl) (by simp) ?_;refine av.cons rfl (fun K hK=> ?_) (av.nil);have dU:=hid (K3.out.tq.alloc (.cells #[sv s] 9));have FI:=hid (pE w2 s 9);have hlen:(mD (l.map (·.1))).length=l.length:=by simp [mD]
  refine eB rfl (.tmp 3) (.tmp 8) _ rfl base pI (.slice A1 l.length c1) (.slice (some ⟨w2.heap.size,0,none⟩) 1 1) rfl rfl dU.out.row FI.out (sK _) (by simp [mD,maxLen];omega) (by simp [mD];omega) (by have:=Hg.out.EU;simp;omega) (fun v7 w7 n7 aM iw fF=> ?_);obtain⟨A7,c7,rfl, _, _⟩:=jq aM;obtain⟨Te,Tf⟩:=K3.out.name Hg.out (o:= .cells #[sv s] 9) (s:=s) (w7:=w7) ⟨n7,by rw [jN];exact aM⟩ iw fF;have FR:=hid Te;have l9:=hid Tf;have jD:=hid (HT3.out.trans (Turn.bE iw (F:=fun j=>j=bp∨base≤j) (fun k e=> .inr (dU.out.lt k e).1)) (fun _ _ h=>h));have t7:w7.cell? ⟨tb,2,none⟩=some (.slice A1 l.length c1):=P2.out _ jD.out;have z7:∀i,w7.frozen? ⟨tb,i,none⟩=false:=fun i=>by
   have hb:=ah (ah K3.out.blk (Turn.alloc (fun _=>False) w2 (.cells #[sv s] 9)) id) (Turn.bE iw (F:=fun j=>base≤j) (fun k e=>(dU.out.lt k e).1)) (by omega);exact frozen_of_row _ _ _ _ _ hb
  clear Te Tf aM iw fF hlen;refine hK.out _ _ jD.out ?_;clear hK K
  try simp only [Act.put,sq]
  refine tx 8 (.pointer (some ⟨tb,2,none⟩)) jD.out ?_;refine ay (rs:=[9]) (by kernel_rfl) (by simp) ?_;refine av.past rfl (by kernel_rfl) (fun K hK=> ?_) (av.nil);go_simp;refine hK.out _ _ ?_;clear hK K
  try simp only [Act.put,sq]
  refine aO (by kernel_rfl) ?_ _;have KP:=Hg.out.turn l9.out
  have oZ:=kI.out.turn l9.out (fun e=>by rcases e with e | e;(have:=(K3.out.tq.lt _ e).1;omega);omega) (fun k hk e=>by
   have:=kI.out.1;rcases e with e | e
   ·have:=(K3.out.tq.lt _ e).1;omega
   ·omega)
  have Hl:=hid ((QH.out.mono (G:=fun k=>k=bp∨tb≤k) (fun _ _ h=> .inl h)).trans l9.out (fun i _ e=>by
   rcases e with e | e
   ·have:=(K3.out.tq.lt i e).1;exact .inr (by omega)
   ·exact .inr (by omega)))
  have yL:=hid KP;have qR:=hid oZ;have HW:=hid (dP _ bp B r d oZ [58] 9 _ rfl);generalize w7.setCell ⟨tb,2,none⟩ _=w8 at*
  have Tg:=bI FR.out.box;clear KP oZ jD l9 t7 z7 HT3 FI dU HT2 K3 Hg kI P0 P2 hbx t0 t1 t2 t3 tz;go_wp2_with fail;refine(HW.out).mono ?_;rintro e w9 h9;rcases hq:aI [58] r with g | ⟨u,r9⟩
  ·obtain⟨rfl,t9,b9⟩:=h9.bG hq;have HT:=hid (Hl.out.trans t9 (fun _ _ h=> .inl h));have HB:=hid b9;have kH:=hid (kZ.out.symm.trans (aB (aB hq)));clear h9 t9 b9 hq;go_wp2_with fail;exact⟨rfl,dx.fail kH.out HT.out HB.out⟩
  ·obtain⟨v,rfl,t9, -,k9⟩:=h9.aL hq;have Vf:=FR.out.turn yL.out t9;have Sj:=hid Vf;have Ti:=hid (yL.out.turn t9);have yM:=hid (Hl.out.trans t9 (fun _ _ h=> .inl h));have Cu:=hid k9;have kH:Hid (au (au typ fun t=>aG (s,t)) (fun x=>aG (l++[x])) r9=Q):=hid ((fT (p:=aI [58]) hq).symm.trans kZ.out);have Tj:=bI Vf.box;obtain⟨s0,s1,s2,s3,sz⟩:=bS Vf.blk;have P0:=hid (fun(w':World) (h:Turn (fun j=>j=bp∨base≤j) w9 w')=>aJ Tj h (by omega));have P3:=hid (fun(w':World) (h:Turn (fun j=>j=bp∨base≤j) w9 w')=>aJ s3 h (by omega));have HD0:Hid (Turn (fun j=>j=bp∨base≤j) w9 w9.drew):=hid ⟨rfl,rfl,rfl,Nat.le_refl _,fun _ _ _=>rfl⟩;have kK:Hid (Turn (fun j=>j=bp) w9 w9.drew):=hid ⟨rfl,rfl,rfl,Nat.le_refl _,fun _ _ _=>rfl⟩;clear h9 t9 k9 hq Vf Tg Tj s0 s1 s2 s3 sz;go_wp2_with fail;refine bO (S:=fun w'=>Turn (fun j=>j=bp∨base≤j) w9 w') (x:=10) (by kernel_rfl) ?_
   try simp only [Act.put,sq]
   refine tx 0 (.pointer (some ⟨tb,3,none⟩)) HD0.out ?_;refine kJ 1 (.slice A2 l.length c2) P3.out HD0.out ?_;refine kJ 2 (.pointer (some ⟨bp,0,none⟩)) P0.out HD0.out ?_;refine tx 4 (.int .i64 l.length) HD0.out ?_;refine ay (rs:=[3,5]) (by kernel_rfl) (by simp) ?_;refine av.cons rfl (fun K hK=> ?_) (av.cons rfl (fun K hK=> ?_) av.nil)
   ·have pV:=kK;have zS:=hid (rM w9.drew bp B r9 Cu.out);go_simp;refine(zS.out).mono ?_;rintro e oW h10;rcases hq:typ r9 with g | ⟨x,oP⟩
    ·obtain⟨rfl,t10,b10⟩:=h10.bG hq;have HT:=hid (yM.out.trans (pV.out.trans t10 (fun _ _ h=>h)) (fun _ _ h=> .inl h));have HB:=hid b10;have gX:=hid (kH.out.symm.trans (aB (aB hq)));clear h10 t10 b10 hq;exact⟨rfl,dx.fail gX.out HT.out HB.out⟩
    ·obtain⟨v,rfl,t10,⟨z,rfl,hz⟩,k10⟩:=h10.aL hq;obtain⟨kz,sz,lU,lV,lW,lX,lY,lZ,rfl⟩:=hz.shape';have kr:=hid (pV.out.trans t10 (fun _ _ h=>h));have rO:=hid (kr.out.mono (G:=fun j=>j=bp∨base≤j) (fun _ _ h=> .inl h));have rP:=hid k10;have gX:Hid (Pr.good (l++[(s,x)]) oP=Q):=hid ((fT (p:=typ) hq).symm.trans kH.out);have HZ:=hid (hz.mono (G:=fun j=>w9.heap.size≤j) (fun _ _ h=>Nat.le_trans pV.out.size h));clear h10 t10 k10 hq hz;refine hK.out _ _ rO.out ?_;clear hK K
     try simp only [Act.put,sq]
     refine ay (rs:=[5]) (by kernel_rfl) (by simp) ?_;refine av.cons rfl (fun K hK=> ?_) (av.nil);go_simp;have jr:=hid (kr.out.trans (Turn.alloc (fun j=>j=bp) oW (.cells #[.int .i64 0, .string ⟨#[]⟩, .slice none 0 0, .slice none 0 0] 57)) (fun _ _ h=>h));have QI:=hid (jr.out.mono (G:=fun j=>j=bp∨base≤j) (fun _ _ h=> .inl h));have FT:=hid (HZ.out.turn (Turn.alloc (fun _=>False) oW (.cells #[.int .i64 0, .string ⟨#[]⟩, .slice none 0 0, .slice none 0 0] 57)) (fun _ _ _=>id));have oq:=hid (rP.out.below (new1 oW (.cells #[.int .i64 0, .string ⟨#[]⟩, .slice none 0 0, .slice none 0 0] 57)));have HSL:=hid (gU oW #[.int .i64 0, .string ⟨#[]⟩, .slice none 0 0, .slice none 0 0] 57 4 1 rfl (by decide));refine hK.out _ _ QI.out ?_;clear hK K
     try simp only [Act.put,sq]
     refine ay (rs:=[6]) (by kernel_rfl) (by simp) ?_;refine av.cons rfl (fun K hK=> ?_) (av.nil);obtain⟨ys,hy,hr⟩:=Sj.out.kid;have hyl:ys.length=l.length*4:=by have:=hy.1;simpa using this
     have dU:=hid (dK hy jr.out (fun g hg e=>by have:=(hy.lt g hg).1;omega));refine eB rfl (.tmp 17) (.tmp 21) _ rfl base yI (.slice A2 l.length c2) _ rfl rfl dU.out HSL.out xq (by simp [maxLen];omega) (by simp;omega) (by have:=Ti.out.EU;have:=jr.out.size;omega) (fun v7 w7 n7 aM iw fF=> ?_);have AQ:n7=l.length+1:=by have:=aM.1;rw [List.length_append,hyl]at this;simp at this;omega
     subst AQ;obtain⟨g7,c7,rfl,hgb,hgs,K4,Pj⟩:=gJ aM (by omega);have he:=Sj.out.Pg Ti.out jr.out FT.out hy hr (by rfl) aM iw fF rfl;simp only [List.length_map]at he;have HE:=hid he;have iT:=hid ((jr.out.mono (G:=fun j=>j=bp∨base≤j) (fun _ _ h=> .inl h)).trans (Turn.bE iw (F:=fun j=>j=bp∨base≤j) (fun k e=> .inr (hy.lt k e).1)) (fun _ _ h=>h));have mg:=hid (oq.out.turn (Turn.bE iw (F:=fun j=>base≤j) (fun k e=>(hy.lt k e).1)) (by omega) (fun k hk e=>by have:=oq.out.1;omega));have jc:w7.heap[tb]? =some (.cells #[.int .i64 5,sv [], _, .slice A2 l.length c2] 57 (0,0)):=ah Sj.out.blk iT.out (by omega);obtain⟨e0,e1,e2,e3,ez⟩:=bS jc;have o0:=aR aM rfl (i:=l.length*4) (u:= .int .i64 0) (by rw [List.getElem?_append_right (by omega),hyl,Nat.sub_self];rfl);have o1:=aR aM rfl (i:=l.length*4+1) (u:= .string ⟨#[]⟩) (by rw [List.getElem?_append_right (by omega),hyl,Nat.add_sub_cancel_left];rfl);have o2:=aR aM rfl (i:=l.length*4+2) (u:= .slice none 0 0) (by rw [List.getElem?_append_right (by omega),hyl,Nat.add_sub_cancel_left];rfl);have o3:=aR aM rfl (i:=l.length*4+3) (u:= .slice none 0 0) (by rw [List.getElem?_append_right (by omega),hyl,Nat.add_sub_cancel_left];rfl);obtain⟨o0,q0⟩:=o0;obtain⟨o1,q1⟩:=o1;obtain⟨o2,q2⟩:=o2;obtain⟨o3,q3⟩:=o3;have hne1:¬g7=tb:=by omega
     have hne2:¬tb=g7:=by omega
     clear he aM iw fF jc hy hr e0 e1 e2;refine hK.out _ _ iT.out ?_;clear hK K
     try simp only [Act.put,sq]
     refine tt 7 (.pointer (some ⟨g7,l.length*4,none⟩)) (fun _=>iT.out) (hy:=by intro w' hSw;go_simp <;> (intro h;omega)) ?_;refine tt 9 (.pointer (some ⟨tb,3,none⟩)) (fun _=>iT.out) ?_;refine ay (rs:=[8,10]) (by kernel_rfl) (by simp) ?_;refine av.cons rfl (fun K hK=> ?_) (av.past rfl (by kernel_rfl) (fun K hK=> ?_) av.nil)
     ·go_simp;have oQ:=hid (iT.out.trans (eD g7 [.int .i64 kz,sv sz, .slice lU lV lW, .slice lX lY lZ] w7 (l.length*4)) (fun _ _ h=> .inr (by omega)));refine hK.out _ _ oQ.out ?_;clear hK K
      try simp only [Act.put,sq]
      refine ay (rs:=[10]) (by kernel_rfl) (by simp) ?_;refine av.past rfl (by kernel_rfl) (fun K hK=> ?_) (av.nil);go_simp;refine hK.out _ _ ?_;clear hK K
      try simp only [Act.put,sq]
      refine aO (by kernel_rfl) ?_ _;have QJ:=mg.out.turn (((eD g7 [.int .i64 kz,sv sz, .slice lU lV lW, .slice lX lY lZ] w7 (l.length*4)).mono (G:=fun k=>k=g7∨k=tb) (fun _ _ h=> .inl h)).trans (ak _ tb 3 (.slice (some ⟨g7,0,none⟩) (l.length+1) c7)) (fun _ _ h=> .inr h)) (fun e=>by rcases e with e | e <;> omega) (fun k hk e=>by have:=oq.out.1;rcases e with e | e <;> omega);go_wp2_with fail;go_end0;exact dx.done gX.out.symm (yM.out.trans HE.out.1.2 (fun _ _ h=>h)) ⟨_, _,by rw [List.map_append,List.map_append];exact HE.out.1.1⟩ QJ
     ·go_simp;refine hK.out _ _ ?_;clear hK K
      try simp only [Act.put,sq]
      refine ay (rs:=[8]) (by kernel_rfl) (by simp) ?_;refine av.past rfl (by kernel_rfl) (fun K hK=> ?_) (av.nil);go_simp;refine hK.out _ _ ?_;clear hK K
      try simp only [Act.put,sq]
      refine aO (by kernel_rfl) ?_ _;have QJ:=mg.out.turn (((ak w7 tb 3 (.slice (some ⟨g7,0,none⟩) (l.length+1) c7)).mono (G:=fun k=>k=g7∨k=tb) (fun _ _ h=> .inr h)).trans (eD g7 [.int .i64 kz,sv sz, .slice lU lV lW, .slice lX lY lZ] _ (l.length*4)) (fun _ _ h=> .inl h)) (fun e=>by rcases e with e | e <;> omega) (fun k hk e=>by have:=oq.out.1;rcases e with e | e <;> omega);go_wp2_with fail;go_end0;exact dx.done gX.out.symm (yM.out.trans HE.out.2.2 (fun _ _ h=>h)) ⟨_, _,by rw [List.map_append,List.map_append];exact HE.out.2.1⟩ QJ
   ·skip
    go_simp;have FU:=hid (HD0.out.trans (Turn.alloc (fun j=>j=bp∨base≤j) w9.drew (.cells #[.int .i64 0, .string ⟨#[]⟩, .slice none 0 0, .slice none 0 0] 57)) (fun _ _ h=>h));have zS:=hid (rM _ bp B r9 (bF.below (w:=w9.drew) Cu.out (new1 w9.drew (.cells #[.int .i64 0, .string ⟨#[]⟩, .slice none 0 0, .slice none 0 0] 57))));have pV:=hid (kK.out.trans (Turn.alloc (fun j=>j=bp) w9.drew (.cells #[.int .i64 0, .string ⟨#[]⟩, .slice none 0 0, .slice none 0 0] 57)) (fun _ _ h=>h));refine hK.out _ _ FU.out ?_;clear hK K
    try simp only [Act.put,sq]
    refine ay (rs:=[3]) (by kernel_rfl) (by simp) ?_;refine av.cons rfl (fun K hK=> ?_) (av.nil);go_simp;refine(zS.out).mono ?_;rintro e oW h10;rcases hq:typ r9 with g | ⟨x,oP⟩
    ·obtain⟨rfl,t10,b10⟩:=h10.bG hq;have HT:=hid (yM.out.trans (pV.out.trans t10 (fun _ _ h=>h)) (fun _ _ h=> .inl h));have HB:=hid b10;have gX:=hid (kH.out.symm.trans (aB (aB hq)));clear h10 t10 b10 hq;exact⟨rfl,dx.fail gX.out HT.out HB.out⟩
    ·obtain⟨v,rfl,t10,⟨z,rfl,hz⟩,k10⟩:=h10.aL hq;obtain⟨kz,sz,lU,lV,lW,lX,lY,lZ,rfl⟩:=hz.shape';have kr:=hid (pV.out.trans t10 (fun _ _ h=>h));have rO:=hid (kr.out.mono (G:=fun j=>j=bp∨base≤j) (fun _ _ h=> .inl h));have rP:=hid k10;have gX:Hid (Pr.good (l++[(s,x)]) oP=Q):=hid ((fT (p:=typ) hq).symm.trans kH.out);have HZ:=hid (hz.mono (G:=fun j=>w9.heap.size≤j) (fun _ _ h=>Nat.le_trans pV.out.size h));have jr:=kr;have FT:=HZ;have oq:=rP;have HSL:=hid (mP w9.drew #[.int .i64 0, .string ⟨#[]⟩, .slice none 0 0, .slice none 0 0] 57 4 1 rfl (by decide) t10 (by have:=Ti.out.EU;have hs:w9.drew.heap.size=w9.heap.size:=rfl;omega));clear h10 t10 k10 hq hz;refine hK.out _ _ rO.out ?_;clear hK K
     try simp only [Act.put,sq]
     refine ay (rs:=[6]) (by kernel_rfl) (by simp) ?_;refine av.cons rfl (fun K hK=> ?_) (av.nil);obtain⟨ys,hy,hr⟩:=Sj.out.kid;have hyl:ys.length=l.length*4:=by have:=hy.1;simpa using this
     have dU:=hid (dK hy jr.out (fun g hg e=>by have:=(hy.lt g hg).1;omega));refine eB rfl (.tmp 17) (.tmp 21) _ rfl base yI (.slice A2 l.length c2) _ rfl rfl dU.out HSL.out xq (by simp [maxLen];omega) (by simp;omega) (by have:=Ti.out.EU;have:=jr.out.size;omega) (fun v7 w7 n7 aM iw fF=> ?_);have AQ:n7=l.length+1:=by have:=aM.1;rw [List.length_append,hyl]at this;simp at this;omega
     subst AQ;obtain⟨g7,c7,rfl,hgb,hgs,K4,Pj⟩:=gJ aM (by omega);have he:=Sj.out.Pg Ti.out jr.out FT.out hy hr (by rfl) aM iw fF rfl;simp only [List.length_map]at he;have HE:=hid he;have iT:=hid ((jr.out.mono (G:=fun j=>j=bp∨base≤j) (fun _ _ h=> .inl h)).trans (Turn.bE iw (F:=fun j=>j=bp∨base≤j) (fun k e=> .inr (hy.lt k e).1)) (fun _ _ h=>h));have mg:=hid (oq.out.turn (Turn.bE iw (F:=fun j=>base≤j) (fun k e=>(hy.lt k e).1)) (by omega) (fun k hk e=>by have:=oq.out.1;omega));have jc:w7.heap[tb]? =some (.cells #[.int .i64 5,sv [], _, .slice A2 l.length c2] 57 (0,0)):=ah Sj.out.blk iT.out (by omega);obtain⟨e0,e1,e2,e3,ez⟩:=bS jc;have o0:=aR aM rfl (i:=l.length*4) (u:= .int .i64 0) (by rw [List.getElem?_append_right (by omega),hyl,Nat.sub_self];rfl);have o1:=aR aM rfl (i:=l.length*4+1) (u:= .string ⟨#[]⟩) (by rw [List.getElem?_append_right (by omega),hyl,Nat.add_sub_cancel_left];rfl);have o2:=aR aM rfl (i:=l.length*4+2) (u:= .slice none 0 0) (by rw [List.getElem?_append_right (by omega),hyl,Nat.add_sub_cancel_left];rfl);have o3:=aR aM rfl (i:=l.length*4+3) (u:= .slice none 0 0) (by rw [List.getElem?_append_right (by omega),hyl,Nat.add_sub_cancel_left];rfl);obtain⟨o0,q0⟩:=o0;obtain⟨o1,q1⟩:=o1;obtain⟨o2,q2⟩:=o2;obtain⟨o3,q3⟩:=o3;have hne1:¬g7=tb:=by omega
     have hne2:¬tb=g7:=by omega
     clear he aM iw fF jc hy hr e0 e1 e2;refine hK.out _ _ iT.out ?_;clear hK K
     try simp only [Act.put,sq]
     refine tt 7 (.pointer (some ⟨g7,l.length*4,none⟩)) (fun _=>iT.out) (hy:=by intro w' hSw;go_simp <;> (intro h;omega)) ?_;refine tt 9 (.pointer (some ⟨tb,3,none⟩)) (fun _=>iT.out) ?_;refine ay (rs:=[8,10]) (by kernel_rfl) (by simp) ?_;refine av.cons rfl (fun K hK=> ?_) (av.past rfl (by kernel_rfl) (fun K hK=> ?_) av.nil)
     ·go_simp;have oQ:=hid (iT.out.trans (eD g7 [.int .i64 kz,sv sz, .slice lU lV lW, .slice lX lY lZ] w7 (l.length*4)) (fun _ _ h=> .inr (by omega)));refine hK.out _ _ oQ.out ?_;clear hK K
      try simp only [Act.put,sq]
      refine ay (rs:=[10]) (by kernel_rfl) (by simp) ?_;refine av.past rfl (by kernel_rfl) (fun K hK=> ?_) (av.nil);go_simp;refine hK.out _ _ ?_;clear hK K
      try simp only [Act.put,sq]
      refine aO (by kernel_rfl) ?_ _;have QJ:=mg.out.turn (((eD g7 [.int .i64 kz,sv sz, .slice lU lV lW, .slice lX lY lZ] w7 (l.length*4)).mono (G:=fun k=>k=g7∨k=tb) (fun _ _ h=> .inl h)).trans (ak _ tb 3 (.slice (some ⟨g7,0,none⟩) (l.length+1) c7)) (fun _ _ h=> .inr h)) (fun e=>by rcases e with e | e <;> omega) (fun k hk e=>by have:=oq.out.1;rcases e with e | e <;> omega);go_wp2_with fail;go_end0;exact dx.done gX.out.symm (yM.out.trans HE.out.1.2 (fun _ _ h=>h)) ⟨_, _,by rw [List.map_append,List.map_append];exact HE.out.1.1⟩ QJ
     ·go_simp;refine hK.out _ _ ?_;clear hK K
      try simp only [Act.put,sq]
      refine ay (rs:=[8]) (by kernel_rfl) (by simp) ?_;refine av.past rfl (by kernel_rfl) (fun K hK=> ?_) (av.nil);go_simp;refine hK.out _ _ ?_;clear hK K
      try simp only [Act.put,sq]
      refine aO (by kernel_rfl) ?_ _;have QJ:=mg.out.turn (((ak w7 tb 3 (.slice (some ⟨g7,0,none⟩) (l.length+1) c7)).mono (G:=fun k=>k=g7∨k=tb) (fun _ _ h=> .inr h)).trans (eD g7 [.int .i64 kz,sv sz, .slice lU lV lW, .slice lX lY lZ] _ (l.length*4)) (fun _ _ h=> .inl h)) (fun e=>by rcases e with e | e <;> omega) (fun k hk e=>by have:=oq.out.1;rcases e with e | e <;> omega);go_wp2_with fail;go_end0;exact dx.done gX.out.symm (yM.out.trans HE.out.2.2 (fun _ _ h=>h)) ⟨_, _,by rw [List.map_append,List.map_append];exact HE.out.2.1⟩ QJ
theorem ku {l:List Bt} {ts r:List aF} {i:Nat} (h:bW l ts= .good (some i) r):i<l.length:=by
 unfold bW at h;split at h
 ·cases h
 ·rename_i j hj
  injection h with h1 _;injection h1 with h1;subst h1;exact(List.findIdx?_eq_some_iff_getElem.1 hj).1
theorem iU {bp a:Nat} {w w1:World} {v0 v1 v2 v3:Value} (h:Turn (fun k=>k=bp) w w1) (ha:w.heap.size≤a):Turn (fun k=>k=bp) w (cO w1 a v0 v1 v2 v3):=h.trans (dA w1 a v0 v1 v2 v3) (fun i hi e=>by omega)
theorem bF.tC {bp B a:Nat} {w1:World} {ts:List aF} {d:Int} {v0 v1 v2 v3:Value} (h:bF w1 bp B ts d) (ha:bp<a):bF (cO w1 a v0 v1 v2 v3) bp B ts d:=h.turn (dA _ _ _ _ _ _) (by omega) (fun k hk e=>by have:=h.1;omega)
theorem K5 {typ:Ps aZ} (ht:Sf typ):Sf (jO typ):=Sf.then_ Sf.name fun s=>Sf.then_ (Sf.want _) fun _=>Sf.then_ ht fun t=>Sf.ret _
theorem ko.Ho {pb tb base bp:Nat} {w w':World} {l1:List Bt} {l2:List aZ} {v1 v2:Value} (h:ko pb tb base bp w l1 l2 v1 v2) (t:Turn (fun k=>k=bp) w w') (h1:bp<pb) (h2:bp<tb) (h3:bp<base):ko pb tb base bp w' l1 l2 v1 v2:=
 ⟨ah h.box t (by omega),ah h.blk t (by omega),h.tq.turn t (fun g hg e=>by have:=(h.tq.lt g hg).1;omega),h.kid.turn bf t (fun g hg e=>by have:=(h.kid.lt g hg).1;omega) (fun g _ hg e=>by have:=hg.1;omega),h.ne⟩
theorem Dk (d:Int) (typ:Ps aZ) (rM:sZ d typ) (hsf:Sf typ) (w:World) (bp B:Nat) (ts:List aF) (h:bF w bp B ts d):
  Calls Tryz.prog 113 #[.pointer (some ⟨bp,0,none⟩)] w (aD (Ve w.heap.size) bp B d w (ig typ ts)):=by
 have hlt:=h.lt;have hB:=h.1;obtain⟨Q,hQ⟩:∃Q,ig typ ts=Q:=⟨_,rfl⟩
 rw [hQ];have HQ:=hid hQ;have HC:=hid (lT ((w.alloc (.cells #[.pointer (some ⟨bp,0,none⟩)] 91)).alloc (.cells #[.int .i64 0, .string ⟨#[]⟩, .slice none 0 0, .slice none 0 0] 57)) bp B ts d (h.below (new2 _ _ _)) Fu #[.string ⟨#[97,110,121]⟩, .string ⟨#[110,117,108,108]⟩, .string ⟨#[98,111,111,108]⟩, .string ⟨#[105,110,116]⟩, .string ⟨#[115,116,114]⟩] 9 5 (w.heap.size+1+1));clear h hQ;go_enter Tryz.func113,Tryz.ntmps113;go_wp2_with fail;refine(HC.out).mono ?_;rintro e w1 h1;rcases hq:bW Fu ts with g | ⟨o,r1⟩
 ·obtain⟨rfl,tn,bn⟩:=h1.bG hq;exact(fQ hq).elim
 ·obtain⟨v1,rfl,tn,hP,kn⟩:=h1.aL hq;obtain⟨tm,hsz,hbx,hrs⟩:=gL tn;have qB:=hid (hbx (by omega));have Hq:=hid (hrs (by omega));obtain rfl:=hP;have hq1:=hid hq;clear hbx hrs;have hs1:=tm.size;have HT1:=hid (tm);have mF:=hid kn;clear h1 tn kn hq;rcases o with _ | i
  ·have VT:Hid (au (bW [[40],[123]]) (fun c=>match c with | none=>au nameP fun s=>aG (.mk 8 s [] []) | some 0=>au typ fun t=>au (aI [41]) fun _=>aG t | some _=>au (dO [125]) fun e=>if e then aG (.mk 5 [] [] [])else au (iK (jO typ)) fun l=>au (aI [125]) fun _=>aG (.mk 5 [] (l.map (·.1)) (l.map (·.2)))) r1=Q):=hid ((aj hq1.out).symm.trans HQ.out);have Tc:=hid (lT w1 bp B r1 d mF.out [[40],[123]] #[.string ⟨#[40]⟩, .string ⟨#[123]⟩] 9 2 w1.heap.size);have hbx:=bI qB.out;go_wp2_with fail;refine(Tc.out).mono ?_;rintro e w2 h2;rcases hq:bW [[40],[123]] r1 with g | ⟨o,r2⟩
   ·obtain⟨rfl,tn,bn⟩:=h2.bG hq;exact(fQ hq).elim
   ·obtain⟨v2,rfl,tn,rfl,kn⟩:=h2.aL hq;have hs2:=tn.size;have HT2:=hid (aA HT1.out tn);have kI:=hid kn;have Hr:=hid (ah qB.out tn (by omega));have nK:=hid (ah Hq.out tn (by omega));have hq2:=hid hq;clear h2 tn kn hq;have QK:=bI Hr.out;clear hbx;rcases o with _ | j
    ·have Pk:Hid (au nameP (fun s=>aG (aZ.mk 8 s [] [])) r2=Q):=hid ((aj hq2.out).symm.trans VT.out);have HN:=hid (eX w2 bp B r2 d kI.out);go_wp2_with fail;refine(HN.out).mono ?_;rintro e w3 h3;rcases hq:nameP r2 with g | ⟨s,r3⟩
     ·obtain⟨rfl,tn,bn⟩:=h3.bG hq;have HB:=hid (dL.mk2 (aA HT2.out tn) bn);have cK:=hid (Pk.out.symm.trans (aB hq));clear h3 tn bn hq;go_wp2_with fail;exact⟨rfl,aD.fail cK.out HB.out⟩
     ·obtain⟨v3,rfl,tn,rfl,kn⟩:=h3.aL hq;have hs3:=tn.size;have HT3:=hid (aA HT2.out tn);have jG:=hid kn;have gX:Hid (aG (aZ.mk 8 s [] []) r3=Q):=hid ((aj hq).symm.trans Pk.out);have YQ:=hid (ah Hr.out tn (by omega));have AU:=hid (ah nK.out tn (by omega));clear h3 tn kn hq;obtain⟨c0,c1,c2,c3,cz⟩:=bS AU.out;go_wp2_with fail;refine bodyPost_ret (aY rfl rfl (aU AU.out _ _ _ _) Tryz.underlying57 rfl (by kernel_rfl)) rfl ?_;exact aD.done gX.out.symm (iU HT3.out (by omega)) ⟨_,rfl,nJ _ _ 8 s⟩ (jG.out.tC (by omega))
    ·have hj:=ku hq2.out;simp only [List.length_cons,List.length_nil]at hj;obtain rfl | rfl:j=0∨j=1:=by omega
     ·have Pk:Hid (au typ (fun t=>au (aI [41]) fun _=>aG t) r2=Q):=hid ((aj hq2.out).symm.trans VT.out);have HN:=hid (rM w2 bp B r2 kI.out);go_wp2_with fail;refine(HN.out).mono ?_;rintro e w4 h4;rcases hq:typ r2 with g | ⟨t,r4⟩
      ·obtain⟨rfl,tn,bn⟩:=h4.bG hq;have HB:=hid (dL.mk2 (aA HT2.out tn) bn);have cK:=hid (Pk.out.symm.trans (aB hq));clear h4 tn bn hq;go_wp2_with fail;exact⟨rfl,aD.fail cK.out HB.out⟩
      ·obtain⟨v4,rfl,tn,⟨z,rfl,hz⟩,kn⟩:=h4.aL hq;obtain⟨kz,sz,lU,lV,lW,lX,lY,lZ,rfl⟩:=hz.shape';have Tk:=tn.size;have HZ:=hid hz.iv;clear hz;have hs4:=tn.size;have gB:=hid (aA HT2.out tn);have jX:=hid kn;have fI:Hid (au (aI [41]) (fun _=>aG t) r4=Q):=hid ((aj hq).symm.trans Pk.out);have Pm:=hid (ah Hr.out tn (by omega));have pW:=hid (ah nK.out tn (by omega));clear h4 tn kn hq;have HN:=hid (dP (w4.alloc (.cells #[.int .i64 kz,sv sz, .slice lU lV lW, .slice lX lY lZ] 57)) bp B r4 d (jX.out.below (new1 _ _)) [41] 9 (w4.heap.size+1));have K6:=bI Pm.out;have ZH:=World.block_lt_of_cell? _ _ K6;go_wp2_with fail;refine(HN.out).mono ?_;rintro e w5 h5;rcases hq:aI [41] r4 with g | ⟨u,r5⟩
       ·obtain⟨rfl,tn,bn⟩:=h5.bG hq;have tn:=(bA tn).1;have HB:=hid (dL.mk2 (aA gB.out tn) bn);have cK:=hid (fI.out.symm.trans (aB hq));clear h5 tn bn hq;go_wp2_with fail;exact⟨rfl,aD.fail cK.out HB.out⟩
       ·obtain⟨v5,rfl,tn, -,kn⟩:=h5.aL hq;obtain⟨tm,hsz5,hbt⟩:=bA tn;have kU:=hid (hbt (by omega));have vO:=hid (HZ.out.turn tm (fun g _ h e=>by have:=h.1;omega));clear hbt;have hs5:=tm.size;have fU:=hid (aA gB.out tm);have mG:=hid kn;have gN:Hid (aG t r5=Q):=hid ((aj hq).symm.trans fI.out);have YR:=hid (ah Pm.out tm (by omega));have Pn:=hid (ah pW.out tm (by omega));clear h5 tn kn hq;obtain⟨c0,c1,c2,c3,cz⟩:=bS Pn.out;obtain⟨e0,e1,e2,e3,ez⟩:=bS kU.out;go_wp2_with fail;refine bodyPost_ret (aY rfl rfl (aU Pn.out _ _ _ _) Tryz.underlying57 rfl (by kernel_rfl)) rfl ?_;exact aD.done gN.out.symm (iU fU.out (by omega)) ⟨_,rfl,(vO.out.turn (dA _ _ _ _ _ _) (fun g _ h e=>by have:=h.1;omega)).mono (fun g _ h=>by have:=h.1;omega)⟩ (mG.out.tC (by omega))
     ·have Pk:Hid (au (dO [125]) (fun e=>if e then aG (aZ.mk 5 [] [] [])else au (iK (jO typ)) fun l=>au (aI [125]) fun _=>aG (.mk 5 [] (l.map (·.1)) (l.map (·.2)))) r2=Q):=hid ((aj hq2.out).symm.trans VT.out);have HN:=hid (jk (w2.alloc (.cells #[.int .i64 5, .string ⟨#[]⟩, .slice none 0 0, .slice none 0 0] 57)) bp B r2 d (kI.out.below (new1 _ _)) [125]);have ZI:=World.block_lt_of_cell? _ _ QK;go_wp2_with fail;refine(HN.out).mono ?_;rintro e w6 h6;rcases hq:dO [125] r2 with g | ⟨b,r6⟩
      ·obtain⟨rfl,tn,bn⟩:=h6.bG hq;exact(gD hq).elim
      ·obtain⟨v6,rfl,tn,rfl,kn⟩:=h6.aL hq;obtain⟨tm,ZJ,hbt⟩:=bA tn;have kU:=hid (hbt (by omega));have YS:=hid hq;clear hbt;have hs6:=tm.size;have l6:=hid (aA HT2.out tm);have vP:=hid kn;have Po:=hid (ah Hr.out tm (by omega));have K7:=hid (ah nK.out tm (by omega));clear h6 tn kn hq;cases b
       ·have Vg:Hid (au (iK (jO typ)) (fun l=>au (aI [125]) fun _=>aG (.mk 5 [] (l.map (·.1)) (l.map (·.2)))) r6=Q):=hid ((aj YS.out).symm.trans Pk.out);have KZ:∀(fn:Fn) (first cap:Array Value) (w:World),(Instr.makeFunc fn first cap).run Tryz.prog w= .ok (.func fn first cap) w:=fun _ _ _ _=>rfl;have hpp:tu w.heap.size w2.heap.size (w2.heap.size+1) bp w6:=⟨by omega,by omega,by omega,by omega,by omega,by omega⟩
        have hpi:Hf w.heap.size w2.heap.size (w2.heap.size+1) bp w6 []:=⟨_, _,Po.out,kU.out,gq.nil _ _ _,fP.nil _ _ _ _ _ _,fun _ h=>by cases h⟩
        have K8:=hid (jC (jO typ) (K5 hsf) 167 #[.pointer (some ⟨w2.heap.size,0,none⟩), .pointer (some ⟨w.heap.size,0,none⟩)] (Hf w.heap.size w2.heap.size (w2.heap.size+1) bp) (fun k=>k=bp∨w2.heap.size≤k) d w6 bp B r6 (.inl rfl)
         (fun a b l t h=>by obtain⟨x,y,h⟩:=h;have hs:=t.size;exact⟨x,y,h.Ho t (by omega) (by omega) (by omega)⟩) (fun g h=> .inr (by omega))
         (fun w1 r l hl hw hi hk=>Jm d typ rM w1 bp B _ _ _ r l hl hk hi ⟨hpp.AP,hpp.Dj,hpp.FQ,hpp.Jl,hpp.ne,by have:=hpp.EU;omega⟩) (fun _=>by kernel_rfl) vP.out hpi)
        clear hpi;have hbx:=bI Po.out;go_wp2_with fail;refine(K8.out).mono ?_;rintro e w7 h7;rcases hq:iK (jO typ) r6 with g | ⟨l,r7⟩
        ·obtain⟨rfl,tn,bn⟩:=h7.bG hq;have HB:=hid (dL.mk2 (l6.out.trans tn (fun i hi e=>by rcases e with e | e <;> omega)) bn);have cK:=hid (Vg.out.symm.trans (aB hq));clear h7 tn bn hq;go_wp2_with fail;exact⟨rfl,aD.fail cK.out HB.out⟩
        ·obtain⟨rfl,tn,⟨x1,x2,hI⟩,kn⟩:=h7.aL hq;have hs7:=tn.size;have jD:=hid (l6.out.trans tn (fun i hi e=>by rcases e with e | e <;> omega));have mg:=hid kn;have wF:Hid (au (aI [125]) (fun _=>aG (.mk 5 [] (l.map (·.1)) (l.map (·.2)))) r7=Q):=hid ((aj hq).symm.trans Vg.out);have ZK:=hid hI;have rQ:=hid (ah K7.out tn (by omega));have HN:=hid (dP w7 bp B r7 d kn [125] 9 w7.heap.size);have ZL:=bI hI.box;clear h7 tn kn hq hI hbx;go_wp2_with fail;refine(HN.out).mono ?_;rintro e w8 h8;rcases hq:aI [125] r7 with g | ⟨u,r8⟩
         ·obtain⟨rfl,tn,bn⟩:=h8.bG hq;have HB:=hid (dL.mk2 (aA jD.out tn) bn);have cK:=hid (wF.out.symm.trans (aB hq));clear h8 tn bn hq;go_wp2_with fail;exact⟨rfl,aD.fail cK.out HB.out⟩
         ·obtain⟨v8,rfl,tn, -,kn⟩:=h8.aL hq;have ZM:=ZK.out.Ho tn (by omega) (by omega) (by omega);have Sk:=hid ZM;have uN:=tn.size;have l9:=hid (aA jD.out tn);have qR:=hid kn;have Nu:Hid (aG (.mk 5 [] (l.map (·.1)) (l.map (·.2))) r8=Q):=hid ((aj hq).symm.trans wF.out);have Pp:=hid (ah rQ.out tn (by omega));clear h8 tn kn hq;obtain⟨A1,d1,hv1,hd1, _⟩:=jq Sk.out.tq.row;obtain⟨A2,d2,hv2,hd2, _⟩:=Sk.out.kid.shape;rw [List.length_map]at hv1 hv2;subst hv1 hv2;obtain⟨e0,e1,e2,e3,ez⟩:=bS Sk.out.blk;obtain⟨c0,c1,c2,c3,cz⟩:=bS Pp.out;go_wp2_with fail;have tF:=dA w8 (w.heap.size+1) (.int .i64 5) (sv []) (.slice A1 l.length d1) (.slice A2 l.length d2);obtain⟨xs,k1,k2⟩:=Sk.out.kid.sl bf;have kN:=dw.own Sk.out.tq.row (F:=fun j=>w2.heap.size+1≤j) (fun g hg=>(Sk.out.tq.lt g hg).1);refine bodyPost_ret (aY rfl rfl (aU Pp.out _ _ _ _) Tryz.underlying57 rfl (by kernel_rfl)) rfl ?_;exact aD.done Nu.out.symm (iU l9.out (by omega)) ⟨_,rfl, .mk ((kN.turn tF (fun g _ h e=>by omega)).mono (fun g _ h=>by omega)) ((k1.turn tF (fun g _ h e=>by rcases h with h | h;omega;(have:=h.1;omega))).mono (fun g _ h=>by rcases h with h | h;omega;(have:=h.1;omega))) (oh (dG bf (fun g _ h=>by rcases h with h | h;omega;(have:=h.1;omega)) (bB bf tF (fun g _ h e=>by rcases h with h | h;omega;(have:=h.1;omega)) k2)))⟩ (qR.out.tC (by omega))
       ·have Vg:Hid (Pr.good (aZ.mk 5 [] [] []) r6=Q):=hid ((aj YS.out).symm.trans Pk.out);obtain⟨c0,c1,c2,c3,cz⟩:=bS K7.out;obtain⟨e0,e1,e2,e3,ez⟩:=bS kU.out;go_wp2_with fail;refine bodyPost_ret (aY rfl rfl (aU K7.out _ _ _ _) Tryz.underlying57 rfl (by kernel_rfl)) rfl ?_;exact aD.done Vg.out.symm (iU l6.out (by omega)) ⟨_,rfl,nJ _ _ 5 []⟩ (vP.out.tC (by omega))
  ·have hi:=ku hq1.out;have kZ:Hid (Pr.good (aZ.mk i [] [] []) r1=Q):=hid ((aj hq1.out).symm.trans HQ.out);obtain⟨c0,c1,c2,c3,cz⟩:=bS Hq.out;go_wp2_with fail;refine bodyPost_ret (aY rfl rfl (aU Hq.out _ _ _ _) Tryz.underlying57 rfl (by kernel_rfl)) rfl ?_;exact aD.done kZ.out.symm (iU HT1.out (by omega)) ⟨_,rfl,nJ _ _ i []⟩ (mF.out.tC (by omega))
def Sm {α β:Type} (q:Pr α) (f:α→Ps β):Pr β:=match q with
 | .good a r=>f a r
 | .bad g=> .bad g
theorem yN {α β:Type} (p:Ps α) (f:α→Ps β) (ts:List aF):au p f ts=Sm (p ts) f:=by
 unfold au Sm;cases p ts <;> rfl
section
variable {α:Type} {fn:Func} {tmps:Array Value} {P:World→Value→α→Prop} {bp B x:Nat} {d:Int} {w w2:World} {Q:Pr α}
theorem iG {g:zK} (hb:rH w2 bp) (hx:w2.cell? ⟨x,0,none⟩=some (.pointer (some ⟨bp,0,none⟩))) (t:Turn (fun k=>k=bp) w w2) (hq:Q= .bad g):
  Leaves Tryz.prog fn tmps (aD P bp B d w Q) [{ target:= .fn (.func 158) #[.pointer (some ⟨x,0,none⟩)],args:= #[]}] (.panicking [{ v:= .iface 146 (.agg #[.int .i64 0, .int .i64 g.1, .int .i64 g.2.1, .int .i64 g.2.2]),recovered:=false}]) w2:=by
 obtain⟨v0,d0,hb⟩:=hb;refine leaves_cons (f:=158) (args:= #[.pointer (some ⟨x,0,none⟩)]) (by simp) (by simp [go_sem]) ?_;refine(AL w2 bp x v0 d0 _ hb hx).mono ?_;rintro e u3 w3 ⟨rfl,rfl,rfl⟩;exact aD.fail hq ⟨aA t (ak w2 bp 1 _), _, _,heap_setCell_same _ bp 1 _ _ _ hb⟩
theorem gM {v:Value} {y:α} {r:List aF} (hres:∀w3,Turn (fun k=>k=bp) w2 w3→(results fn tmps).run Tryz.prog w3= .ok v w3)
  (hk:bF w2 bp B r (d+1)) (h0:0≤d) (h1:d<100) (hx:w2.cell? ⟨x,0,none⟩=some (.pointer (some ⟨bp,0,none⟩))) (t:Turn (fun k=>k=bp) w w2) (hq:Q= .good y r) (hP:∀w3,Turn (fun k=>k=bp) w2 w3→P w3 v y):
  Leaves Tryz.prog fn tmps (aD P bp B d w Q) [{ target:= .fn (.func 158) #[.pointer (some ⟨x,0,none⟩)],args:= #[]}] .returning w2:=by
 have hk0:=hk;obtain⟨_, _, _,v0,hb, _⟩:=hk;refine leaves_cons (f:=158) (args:= #[.pointer (some ⟨x,0,none⟩)]) (by simp) (by simp [go_sem]) ?_;refine(AL w2 bp x v0 (d+1) _ hb hx).mono ?_;rintro e u3 w3 ⟨rfl,rfl,rfl⟩;have e1:wrap64 (d+1 - 1)=d:=by unfold wrap64;omega
 rw [e1];have t3:=ak w2 bp 1 (.int .i64 d);exact⟨_,hres _ t3,aD.done hq (aA t t3) (hP _ t3) (hk0.deep rfl)⟩
end
theorem NW {w:World} {base k:Nat} {e:TypeId} {z:List Value} (hz:z.length=k) (hb:base≤w.heap.size):(w.alloc (.cells z.toArray e)).ownsRow base e k (.slice (some ⟨w.heap.size,0,none⟩) 1 1) 1 z:=
 ⟨by omega, .inr ⟨w.heap.size,1,z.toArray,rfl,hb,heap_alloc_new w _,Nat.le_refl _,by decide,by simp;omega,by simp [←hz]⟩⟩
theorem row_one {α:Type} {R:World→(Nat→Prop)→List Value→α→Prop} {k:Nat} (hR:qQ R k) {w:World} {base:Nat} {F G:Nat→Prop} {e:TypeId} {z:List Value} {x:α} (hx:R w F z x) (hb:base≤w.heap.size) (hF:∀g,g<w.heap.size→F g→G g):
  fP R k e (w.alloc (.cells z.toArray e)) base G (.slice (some ⟨w.heap.size,0,none⟩) 1 1) [x]:=by
 refine⟨z,NW (hR.len hx) hb,yG (hR.len hx) ?_⟩;have h1:R w (fun j=>j<w.heap.size∧G j) z x:=hR.mono hx fun g hg h=>⟨hg,hF g hg h⟩
 exact hR.mono (hR.turn h1 (Turn.alloc (fun _=>False) _ _) (fun _ _ _=>id)) fun g _ h=>⟨fun e=>by injection e with e;simp at e;omega,h.2⟩
theorem K9 (d:Int) (h0:0≤d) (h1:d<100) (typ:Ps aZ) (rM:sZ (d+1) typ) (hsf:Sf typ):sZ d (Bv typ):=by
 intro w bp B ts h;have hlt:=h.lt;have hB:=h.1;obtain⟨Q,hQ⟩:∃Q,Bv typ ts=Q:=⟨_,rfl⟩
 rw [hQ]
 have HQ:Hid (au (ig typ) (fun a=>au (fun ts=>mY typ ts.length [a] ts) fun l=>au (dO [45,62]) fun b=>
  if b then au typ fun r=>aG (.mk 6 [] [] [gy l,r])else aG (gy l)) ts=Q):=hid hQ
 have HE:=hid (uL (w.alloc (.cells #[.int .i64 0, .string ⟨#[]⟩, .slice none 0 0, .slice none 0 0] 57)) bp B ts d (h.below (new1 _ _)) h0 h1);clear h hQ
 go_enter_defers Tryz.func54,Tryz.ntmps54
 go_wp2_with fail;refine(HE.out).mono ?_;rintro e w1 ⟨rfl,tn,hbx,hk⟩;obtain⟨tm,hsz,hrs⟩:=bA tn;simp at hbx;have hxb:=World.block_lt_of_cell? _ _ hbx;simp at hxb;have mH:=hid (hrs (by omega));have HT1:=hid tm;have mF:=hid hk;have ou:=hid hbx;have hs1:=tm.size;have HP:=hid (Dk (d+1) typ rM hsf w1 bp B ts hk);clear tn tm hrs hk hbx;go_wp2_with fail;refine(HP.out).mono ?_;rintro e w2 h2;rcases hq:ig typ ts with g | ⟨t,r2⟩
 ·obtain⟨rfl,tn,bn⟩:=h2.bG hq;clear h2;have cK:=hid (HQ.out.symm.trans (aB hq));have oU:=hid ((aA HT1.out tn));have hxo:=(aJ ou.out tn (by omega))
  have nL:=hid bn;clear tn bn hq;go_wp2_with fail;exact iG nL.out hxo oU.out cK.out
 ·obtain⟨v2,rfl,tn,⟨z,rfl,hz⟩,kn⟩:=h2.aL hq;obtain⟨kz,sz,lU,lV,lW,lX,lY,lZ,rfl⟩:=hz.shape';have FV:=hid (aJ ou.out tn (by omega));have hrow:=row_one bf (base:=w1.heap.size) (G:=fun j=>w1.heap.size≤j) (e:=57) hz tn.size (fun _ _ h=>h);have dU:=hid hrow;have Tm:=hid ((Sf.Fw hsf).good mF.out.wf hq).2.length_le;have HLEN:=hid mF.out.2.1.1;clear hz hrow;have hs2:=tn.size;have HT2:=hid (aA HT1.out tn);have kI:=hid kn;have kH:Hid (au (fun ts=>mY typ ts.length [t] ts) (fun l=>au (dO [45,62]) fun b=>if b then au typ fun r=>aG (.mk 6 [] [] [gy l,r])else aG (gy l)) r2=Q):=hid ((aj hq).symm.trans HQ.out);have nK:=hid (ah mH.out tn (by omega));clear h2 tn kn hq;obtain⟨A,hA⟩:∃A,mY typ r2.length [t] r2=A:=⟨_,rfl⟩
  have HA:=hid hA
  have Kg:Hid (Sm A (fun l=>au (dO [45,62]) (fun b=>if b then au typ fun r=>aG (.mk 6 [] [] [gy l,r])else aG (gy l)))=Q):=hid (by
   have:=kH.out;rw [yN]at this;rw [←HA.out];exact this)
  have jG:=hid (kI.out.below (new1 w2 (.cells #[.int .i64 kz,sv sz, .slice lU lV lW, .slice lX lY lZ] 57)));have HT3:=hid (aA HT2.out (Turn.alloc (fun k=>k=bp) w2 (.cells #[.int .i64 kz,sv sz, .slice lU lV lW, .slice lX lY lZ] 57)));have HRW:=hid (ah nK.out (Turn.alloc (fun _=>False) w2 (.cells #[.int .i64 kz,sv sz, .slice lU lV lW, .slice lX lY lZ] 57)) id);have ZN:=hid (aJ FV.out (Turn.alloc (fun _=>False) w2 (.cells #[.int .i64 kz,sv sz, .slice lU lV lW, .slice lX lY lZ] 57)) id);clear hA;go_wp2_with fail;go_loopw [3] (fun v3 wr=>∃(f:Nat) (l:List aZ) (r:List aF),fP kX 4 57 wr w1.heap.size (fun j=>w1.heap.size≤j) v3 l∧l≠[]∧mY typ f l r=A∧r.length≤f∧l.length+r.length≤8194∧Turn (fun k=>k=bp) w wr∧w1.heap.size≤wr.heap.size∧bF wr bp B r (d+1)∧wr.cell? ⟨w.heap.size+1,0,none⟩=some (.pointer (some ⟨bp,0,none⟩))∧wr.heap[w.heap.size]? =some (.cells #[.int .i64 0, .string ⟨#[]⟩, .slice none 0 0, .slice none 0 0] 57 (0,0))) (fun _ wr=>leftOf wr bp)
  case atStart=>exact⟨_,[t],r2,dU.out,by simp,HA.out,Nat.le_refl _,by have:=Tm.out;have:=HLEN.out;simp;omega,HT3.out,by simp;omega,jG.out,ZN.out,HRW.out⟩
  case round=>
   obtain⟨f,l,r,hrow,hne,ha,hf,hlr,ht,hsw,hk,hx,hr⟩:=hrel;have hwf:=hk.wf;have hpos:=hwf.pos;obtain⟨f,rfl⟩:∃f',f=f'+1:=⟨f - 1,by omega⟩
   have Tn:Hid (au (dO [124]) (fun b=>if b then au (ig typ) fun a=>mY typ f (l++[a])else aG l) r=A):=hid ha;have Sn:=hid hk.left;have HF:=hid hf;have Nt:=hid hlr;have La:=hid ht;have Sq:=hid hk;have ZO:=hid hx;have HRR:=hid hr;have zR:=hid hwf;have HH:=hid (jk wr bp B r (d+1) hk [124]);have VU:=hid hpos;have Pq:=hid hrow;obtain⟨Al,cl,hvl,hcl,hml⟩:=hrow.shape;subst hvl;clear hrow ha hf hlr ht hk hx hr hwf hpos;go_wp2_with fail;refine(HH.out).mono ?_;rintro e w3 h3;rcases hq:dO [124] r with g | ⟨b,r3⟩
   ·obtain⟨rfl,tn,bn⟩:=h3.bG hq;exact(gD hq).elim
   ·obtain⟨v3,rfl,tn,rfl,kn⟩:=h3.aL hq;have hq3:=hid hq;have Vh:=hid (aJ ZO.out tn (by omega));have nM:=hid (Pq.out.turn bf tn (fun g hg e=>by have:=(Pq.out.lt g hg).1;omega) (fun g _ hg e=>by omega));have hs3:=tn.size;have HT3:=hid (aA La.out tn);have jG:=hid kn;have AU:=hid (ah HRR.out tn (by omega));clear h3 tn kn hq;cases b
    ·have ZP:Hid (Pr.good l r3=A):=hid ((aj hq3.out).symm.trans Tn.out);have gX:Hid (au (dO [45,62]) (fun b=>if b then au typ fun r=>aG (.mk 6 [] [] [gy l,r])else aG (gy l)) r3=Q):=hid (by have:=Kg.out;rw [←ZP.out]at this;exact this);have VW:=hid hne;obtain⟨ys,hy,hrr⟩:=nM.out;obtain⟨ta,l',rfl⟩:∃a l',l=a :: l':=by cases l with | nil=>exact absurd rfl hne | cons a l'=>exact⟨a,l',rfl⟩
     obtain⟨g0,c9,hg0,hgb,hgs,ZQ,hm9⟩:=gJ hy (by simp);injection hg0 with hg0 hg1 hg2;subst hg0 hg2;cases hrr with
     | @cons z0 y0 _ _ hz0 hx0 hrt=>
      obtain⟨k0,s0,Lb,n10,c10,Lc,n20,c20,rfl⟩:=hx0.shape';have o0:=(aR hy rfl (i:=0) (u:= .int .i64 k0) rfl).1;have o1:=(aR hy rfl (i:=1) (u:=sv s0) rfl).1;have o2:=(aR hy rfl (i:=2) (u:= .slice Lb n10 c10) rfl).1;have o3:=(aR hy rfl (i:=3) (u:= .slice Lc n20 c20) rfl).1;have HZ0:=hid (hx0.mono (G:=fun j=>w1.heap.size≤j) (fun _ _ h=>h.2));have hll:((ta :: l').length:Int)=(l'.length:Int)+1:=by simp
      clear hy hx0 hrt hz0 hne;cases l' with
      | nil=>
       simp only [List.length_nil]at*
       have HN:=hid (jk (w3.alloc (.cells #[.int .i64 k0,sv s0, .slice Lb n10 c10, .slice Lc n20 c20] 57)) bp B r3 (d+1) (jG.out.below (new1 _ _)) [45,62]);go_wp2_with fail;refine(HN.out).mono ?_;rintro e w4 h4;rcases hq:dO [45,62] r3 with g | ⟨b,r4⟩
       ·obtain⟨rfl,tn,bn⟩:=h4.bG hq;exact(gD hq).elim
       ·obtain⟨v4,rfl,tn,rfl,kn⟩:=h4.aL hq;obtain⟨tm,Tk,hbt⟩:=bA tn;have kU:=hid (hbt (by omega));have hq4:=hid hq;have AV:=hid (aJ Vh.out tm (by omega));have Tp:Hid (kX w4 (fun j=>w1.heap.size≤j) [.int .i64 k0,sv s0, .slice Lb n10 c10, .slice Lc n20 c20] (gy [ta])):=hid (HZ0.out.turn tm (fun g _ h e=>by omega));clear hbt;have hs4:=tm.size;have gB:=hid (aA HT3.out tm);have jX:=hid kn;have pW:=hid (ah AU.out tm (by omega));clear h4 tn kn hq;cases b
        ·have fI:Hid (Pr.good (gy ([ta])) r4=Q):=hid ((aj hq4.out).symm.trans gX.out);obtain⟨e0,e1,e2,e3,ez⟩:=bS kU.out;obtain⟨c0,c1,c2,c3,cz⟩:=bS pW.out;go_wp2_with fail;have tF:=dA w4 w.heap.size (.int .i64 k0) (sv s0) (.slice Lb n10 c10) (.slice Lc n20 c20)
         exact gM (fun w9 t9=>aY rfl rfl (ah (aU pW.out _ _ _ _) t9 (by omega)) Tryz.underlying57 rfl (by kernel_rfl)) (jX.out.tC (by omega)) h0 h1 (aJ AV.out tF (by omega)) (iU gB.out (by omega)) fI.out.symm
          (fun w9 t9=>⟨[.int .i64 k0,sv s0, .slice Lb n10 c10, .slice Lc n20 c20],rfl,((Tp.out.turn tF (fun g _ h e=>by omega)).turn t9 (fun g _ h e=>by omega)).mono (fun g _ h=>by omega)⟩)
        ·have fI:Hid (au typ (fun r=>aG (aZ.mk 6 [] [] [gy ([ta]),r])) r4=Q):=hid ((aj hq4.out).symm.trans gX.out);obtain⟨e0,e1,e2,e3,ez⟩:=bS kU.out;have PT:=hid (fun(w':World) (h:Turn (fun j=>j=bp) w4 w')=>(⟨aJ e0 h (by omega),aJ e1 h (by omega),aJ e2 h (by omega),aJ e3 h (by omega)⟩:w'.cell? ⟨w3.heap.size,0,none⟩=some (.int .i64 k0)∧w'.cell? ⟨w3.heap.size,1,none⟩=some (sv s0)∧w'.cell? ⟨w3.heap.size,2,none⟩=some (.slice Lb n10 c10)∧w'.cell? ⟨w3.heap.size,3,none⟩=some (.slice Lc n20 c20)));have HD0:Hid (Turn (fun j=>j=bp) w4 w4.drew):=hid ⟨rfl,rfl,rfl,Nat.le_refl _,fun _ _ _=>rfl⟩;have zS:=hid (rM w4.drew bp B r4 jX.out);clear e0 e1 e2 e3 ez;go_wp2_with fail;refine bO (S:=fun w'=>Turn (fun j=>j=bp) w4 w') (x:=5) (by kernel_rfl) ?_
         try simp only [Act.put,sq]
         refine kJ 0 (.agg #[.int .i64 k0,sv s0, .slice Lb n10 c10, .slice Lc n20 c20]) PT.out HD0.out (hQ:=eY rfl (by decide)) ?_;refine tx 1 (.pointer (some ⟨bp,0,none⟩)) HD0.out (hQ:=eY rfl (by decide)) ?_;refine ay (rs:=[2]) (by kernel_rfl) (by simp) ?_;refine av.cons rfl (fun K hK=> ?_) (av.nil);go_simp;refine(zS.out).mono ?_;rintro e w5 h5;rcases hq:typ r4 with g | ⟨x5,r5⟩
         ·obtain⟨rfl,tn,bn⟩:=h5.bG hq;have t5:=aA HD0.out tn;exact iG bn (aJ AV.out t5 (by omega)) (aA gB.out t5) (fI.out.symm.trans (aB hq))
         ·obtain⟨v5,rfl,tn,⟨z5,rfl,BL⟩,kn⟩:=h5.aL hq;obtain⟨k5,s5,uO,n15,c15,uP,n25,uQ,rfl⟩:=BL.shape';have fU:=hid (aA HD0.out tn);have hs5:=fU.out.size;have mG:=hid kn;have vO:=hid (BL.mono (G:=fun j=>w1.heap.size≤j) (fun g _ h=>by have h:w4.heap.size≤g:=h;omega));have gN:Hid (Pr.good (aZ.mk 6 [] [] [gy ([ta]),x5]) r5=Q):=hid ((aj hq).symm.trans fI.out);clear h5 tn BL kn hq;refine hK.out _ _ fU.out ?_;clear hK K
          try simp only [Act.put,sq]
          refine ay (rs:=[3]) (by kernel_rfl) (by simp) ?_;refine av.cons rfl (fun K hK=> ?_) (av.nil);go_simp;have l6:=hid (aA fU.out (Turn.alloc (fun k=>k=bp) w5 (.cells #[.int .i64 k0,sv s0, .slice Lb n10 c10, .slice Lc n20 c20, .int .i64 k5,sv s5, .slice uO n15 c15, .slice uP n25 uQ] 57)));refine hK.out _ _ l6.out ?_;clear hK K
          try simp only [Act.put,sq]
          refine tx 4 (.agg #[.int .i64 6, .string ⟨#[]⟩, .slice none 0 0, .slice (some ⟨w5.heap.size,0,none⟩) 2 2]) l6.out (hQ:=eY rfl (by decide)) ?_;have BM:=hid (ah pW.out l6.out (by omega));obtain⟨c0,c1,c2,c3,cz⟩:=bS BM.out;refine ay (rs:=[5]) (by kernel_rfl) (by simp) ?_;refine av.past rfl (by kernel_rfl) (fun K hK=> ?_) (av.nil);go_simp;refine hK.out _ _ ?_;clear hK K
          try simp only [Act.put,sq]
          refine aO (by kernel_rfl) ?_ _;have tA:=Turn.alloc (fun _=>False) w5 (.cells #[.int .i64 k0,sv s0, .slice Lb n10 c10, .slice Lc n20 c20, .int .i64 k5,sv s5, .slice uO n15 c15, .slice uP n25 uQ] 57);have tF:=dA (w5.alloc (.cells #[.int .i64 k0,sv s0, .slice Lb n10 c10, .slice Lc n20 c20, .int .i64 k5,sv s5, .slice uO n15 c15, .slice uP n25 uQ] 57)) w.heap.size (.int .i64 6) (sv []) (.slice none 0 0) (.slice (some ⟨w5.heap.size,0,none⟩) 2 2);have y1:=((Tp.out.turn fU.out (fun g _ h e=>by omega)).turn tA (fun _ _ _=>id)).turn tF (fun g _ h e=>by omega);have y2:=(vO.out.turn tA (fun _ _ _=>id)).turn tF (fun g _ h e=>by omega);have y3:=(iF w5 #[.int .i64 k0,sv s0, .slice Lb n10 c10, .slice Lc n20 c20, .int .i64 k5,sv s5, .slice uO n15 c15, .slice uP n25 uQ] 57 4 2 rfl (by decide)).turn tF (fun g _ h e=>by omega);go_wp2_with fail
          exact gM (fun w9 t9=>aY rfl rfl (ah (aU BM.out _ _ _ _) t9 (by omega)) Tryz.underlying57 rfl (by kernel_rfl)) ((mG.out.below (new1 _ _)).tC (by omega)) h0 h1 (aJ (aJ AV.out l6.out (by omega)) tF (by omega)) (iU (aA gB.out l6.out) (by omega)) gN.out.symm
           (fun w9 t9=>⟨_,rfl, .mk (dw.nil _ _ _) ((y3.turn t9 (fun g _ h e=>by omega)).mono (fun g _ h=>by omega)) (.cons ((y1.turn t9 (fun g _ h e=>by omega)).mono (fun g _ h=>by omega)) (.cons ((y2.turn t9 (fun g _ h e=>by omega)).mono (fun g _ h=>by omega)) .nil))⟩)
      | cons yK l2=>
       have hgt:decide ((1:Int)<(l2.length:Int)+1+1)=true:=by simp;omega
       obtain⟨xsu,YT,YU⟩:=nM.out.sl bf;have ZR:=hid YT;have ZT:=hid YU;clear YT YU;have HN:=hid (jk (w3.alloc (.cells #[.int .i64 7, .string ⟨#[]⟩, .slice none 0 0, .slice (some ⟨g0,0,none⟩) (l2.length+1+1) cl] 57)) bp B r3 (d+1) (jG.out.below (new1 _ _)) [45,62]);go_wp2_with fail;refine(HN.out).mono ?_;rintro e w4 h4;rcases hq:dO [45,62] r3 with g | ⟨b,r4⟩
       ·obtain⟨rfl,tn,bn⟩:=h4.bG hq;exact(gD hq).elim
       ·obtain⟨v4,rfl,tn,rfl,kn⟩:=h4.aL hq;obtain⟨tm,Tk,hbt⟩:=bA tn;have kU:=hid (hbt (by omega));have hq4:=hid hq;have AV:=hid (aJ Vh.out tm (by omega));have Tp:Hid (kX w4 (fun j=>w1.heap.size≤j) [.int .i64 7, .string ⟨#[]⟩, .slice none 0 0, .slice (some ⟨g0,0,none⟩) (l2.length+1+1) cl] (gy (ta :: yK :: l2))):=hid (.mk (dw.nil _ _ _) ((ZR.out.turn tm (fun g _ h e=>by rcases h with h | h <;> omega)).mono (fun g _ h=>by rcases h with h | h <;> omega)) (oh (dG bf (fun g _ h=>by rcases h with h | h <;> omega) (bB bf tm (fun g _ h e=>by rcases h with h | h <;> omega) ZT.out))));clear hbt;have hs4:=tm.size;have gB:=hid (aA HT3.out tm);have jX:=hid kn;have pW:=hid (ah AU.out tm (by omega));clear h4 tn kn hq;cases b
        ·have fI:Hid (Pr.good (gy (ta :: yK :: l2)) r4=Q):=hid ((aj hq4.out).symm.trans gX.out);obtain⟨e0,e1,e2,e3,ez⟩:=bS kU.out;obtain⟨c0,c1,c2,c3,cz⟩:=bS pW.out;go_wp2_with fail;have tF:=dA w4 w.heap.size (.int .i64 7) (.string ⟨#[]⟩) (.slice none 0 0) (.slice (some ⟨g0,0,none⟩) (l2.length+1+1) cl)
         exact gM (fun w9 t9=>aY rfl rfl (ah (aU pW.out _ _ _ _) t9 (by omega)) Tryz.underlying57 rfl (by kernel_rfl)) (jX.out.tC (by omega)) h0 h1 (aJ AV.out tF (by omega)) (iU gB.out (by omega)) fI.out.symm
          (fun w9 t9=>⟨[.int .i64 7, .string ⟨#[]⟩, .slice none 0 0, .slice (some ⟨g0,0,none⟩) (l2.length+1+1) cl],rfl,((Tp.out.turn tF (fun g _ h e=>by omega)).turn t9 (fun g _ h e=>by omega)).mono (fun g _ h=>by omega)⟩)
        ·have fI:Hid (au typ (fun r=>aG (aZ.mk 6 [] [] [gy (ta :: yK :: l2),r])) r4=Q):=hid ((aj hq4.out).symm.trans gX.out);obtain⟨e0,e1,e2,e3,ez⟩:=bS kU.out;have PT:=hid (fun(w':World) (h:Turn (fun j=>j=bp) w4 w')=>(⟨aJ e0 h (by omega),aJ e1 h (by omega),aJ e2 h (by omega),aJ e3 h (by omega)⟩:w'.cell? ⟨w3.heap.size,0,none⟩=some (.int .i64 7)∧w'.cell? ⟨w3.heap.size,1,none⟩=some (.string ⟨#[]⟩)∧w'.cell? ⟨w3.heap.size,2,none⟩=some (.slice none 0 0)∧w'.cell? ⟨w3.heap.size,3,none⟩=some (.slice (some ⟨g0,0,none⟩) (l2.length+1+1) cl)));have HD0:Hid (Turn (fun j=>j=bp) w4 w4.drew):=hid ⟨rfl,rfl,rfl,Nat.le_refl _,fun _ _ _=>rfl⟩;have zS:=hid (rM w4.drew bp B r4 jX.out);clear e0 e1 e2 e3 ez;go_wp2_with fail;refine bO (S:=fun w'=>Turn (fun j=>j=bp) w4 w') (x:=5) (by kernel_rfl) ?_
         try simp only [Act.put,sq]
         refine kJ 0 (.agg #[.int .i64 7, .string ⟨#[]⟩, .slice none 0 0, .slice (some ⟨g0,0,none⟩) (l2.length+1+1) cl]) PT.out HD0.out (hQ:=eY rfl (by decide)) ?_;refine tx 1 (.pointer (some ⟨bp,0,none⟩)) HD0.out (hQ:=eY rfl (by decide)) ?_;refine ay (rs:=[2]) (by kernel_rfl) (by simp) ?_;refine av.cons rfl (fun K hK=> ?_) (av.nil);go_simp;refine(zS.out).mono ?_;rintro e w5 h5;rcases hq:typ r4 with g | ⟨x5,r5⟩
         ·obtain⟨rfl,tn,bn⟩:=h5.bG hq;have t5:=aA HD0.out tn;exact iG bn (aJ AV.out t5 (by omega)) (aA gB.out t5) (fI.out.symm.trans (aB hq))
         ·obtain⟨v5,rfl,tn,⟨z5,rfl,BL⟩,kn⟩:=h5.aL hq;obtain⟨k5,s5,uO,n15,c15,uP,n25,uQ,rfl⟩:=BL.shape';have fU:=hid (aA HD0.out tn);have hs5:=fU.out.size;have mG:=hid kn;have vO:=hid (BL.mono (G:=fun j=>w1.heap.size≤j) (fun g _ h=>by have h:w4.heap.size≤g:=h;omega));have gN:Hid (Pr.good (aZ.mk 6 [] [] [gy (ta :: yK :: l2),x5]) r5=Q):=hid ((aj hq).symm.trans fI.out);clear h5 tn BL kn hq;refine hK.out _ _ fU.out ?_;clear hK K
          try simp only [Act.put,sq]
          refine ay (rs:=[3]) (by kernel_rfl) (by simp) ?_;refine av.cons rfl (fun K hK=> ?_) (av.nil);go_simp;have l6:=hid (aA fU.out (Turn.alloc (fun k=>k=bp) w5 (.cells #[.int .i64 7, .string ⟨#[]⟩, .slice none 0 0, .slice (some ⟨g0,0,none⟩) (l2.length+1+1) cl, .int .i64 k5,sv s5, .slice uO n15 c15, .slice uP n25 uQ] 57)));refine hK.out _ _ l6.out ?_;clear hK K
          try simp only [Act.put,sq]
          refine tx 4 (.agg #[.int .i64 6, .string ⟨#[]⟩, .slice none 0 0, .slice (some ⟨w5.heap.size,0,none⟩) 2 2]) l6.out (hQ:=eY rfl (by decide)) ?_;have BM:=hid (ah pW.out l6.out (by omega));obtain⟨c0,c1,c2,c3,cz⟩:=bS BM.out;refine ay (rs:=[5]) (by kernel_rfl) (by simp) ?_;refine av.past rfl (by kernel_rfl) (fun K hK=> ?_) (av.nil);go_simp;refine hK.out _ _ ?_;clear hK K
          try simp only [Act.put,sq]
          refine aO (by kernel_rfl) ?_ _;have tA:=Turn.alloc (fun _=>False) w5 (.cells #[.int .i64 7, .string ⟨#[]⟩, .slice none 0 0, .slice (some ⟨g0,0,none⟩) (l2.length+1+1) cl, .int .i64 k5,sv s5, .slice uO n15 c15, .slice uP n25 uQ] 57);have tF:=dA (w5.alloc (.cells #[.int .i64 7, .string ⟨#[]⟩, .slice none 0 0, .slice (some ⟨g0,0,none⟩) (l2.length+1+1) cl, .int .i64 k5,sv s5, .slice uO n15 c15, .slice uP n25 uQ] 57)) w.heap.size (.int .i64 6) (sv []) (.slice none 0 0) (.slice (some ⟨w5.heap.size,0,none⟩) 2 2);have y1:=((Tp.out.turn fU.out (fun g _ h e=>by omega)).turn tA (fun _ _ _=>id)).turn tF (fun g _ h e=>by omega);have y2:=(vO.out.turn tA (fun _ _ _=>id)).turn tF (fun g _ h e=>by omega);have y3:=(iF w5 #[.int .i64 7, .string ⟨#[]⟩, .slice none 0 0, .slice (some ⟨g0,0,none⟩) (l2.length+1+1) cl, .int .i64 k5,sv s5, .slice uO n15 c15, .slice uP n25 uQ] 57 4 2 rfl (by decide)).turn tF (fun g _ h e=>by omega);go_wp2_with fail
          exact gM (fun w9 t9=>aY rfl rfl (ah (aU BM.out _ _ _ _) t9 (by omega)) Tryz.underlying57 rfl (by kernel_rfl)) ((mG.out.below (new1 _ _)).tC (by omega)) h0 h1 (aJ (aJ AV.out l6.out (by omega)) tF (by omega)) (iU (aA gB.out l6.out) (by omega)) gN.out.symm
           (fun w9 t9=>⟨_,rfl, .mk (dw.nil _ _ _) ((y3.turn t9 (fun g _ h e=>by omega)).mono (fun g _ h=>by omega)) (.cons ((y1.turn t9 (fun g _ h e=>by omega)).mono (fun g _ h=>by omega)) (.cons ((y2.turn t9 (fun g _ h e=>by omega)).mono (fun g _ h=>by omega)) .nil))⟩)
    ·have gX:Hid (au (ig typ) (fun a=>mY typ f (l++[a])) r3=A):=hid ((aj hq3.out).symm.trans Tn.out);have Pt:=hid (qy hq3.out VU.out);have HP:=hid (Dk (d+1) typ rM hsf w3 bp B r3 jG.out);go_wp2_with fail;refine(HP.out).mono ?_;rintro e w4 h4;rcases hq:ig typ r3 with g | ⟨t4,r4⟩
     ·obtain⟨rfl,tn,bn⟩:=h4.bG hq;clear h4;have cK:=hid (Kg.out.symm.trans (congrArg (fun q=>Sm q _) (gX.out.symm.trans (aB hq))));have oU:=hid ((aA HT3.out tn));have hxo:=(aJ Vh.out tn (by omega))
      have nL:=hid bn;clear tn bn hq;go_wp2_with fail;exact iG nL.out hxo oU.out cK.out
     ·obtain⟨v4,rfl,tn,⟨z4,rfl,hz⟩,kn⟩:=h4.aL hq;obtain⟨k4,s4,mh,n14,c14,mq,n24,c24,rfl⟩:=hz.shape';have AV:=hid (aJ Vh.out tn (by omega));have uR:=hid hz;have vQ:=hid tn;have Tm:=hid ((Sf.Fw hsf).good jG.out.wf hq).2.length_le;clear hz;have hs4:=tn.size;have gB:=hid (aA HT3.out tn);have jX:=hid kn;have fI:Hid (mY typ f (l++[t4]) r4=A):=hid ((aj hq).symm.trans gX.out);have pW:=hid (ah AU.out tn (by omega));clear h4 tn kn hq;obtain⟨ys,hy,hrr⟩:=nM.out;have hyl:ys.length=l.length*4:=hy.1;have Tq:=dK hy vQ.out (fun g hg e=>by have:=(hy.lt g hg).1;omega);have HY:=hid hy;have HRR:=hid hrr;have VX:=hid Tq;have VY:l.length≤8194:=by have:=Nt.out;omega
      clear hy hrr Tq;go_wp2_with (at_builtin;go_must (refine jl rfl (.tmp 14) (.tmp 17) _ rfl w1.heap.size yI _ _ rfl rfl (VX.out.alloc (.cells #[.int .i64 k4,sv s4, .slice mh n14 c14, .slice mq n24 c24] 57)) (gU w4 #[.int .i64 k4,sv s4, .slice mh n14 c14, .slice mq n24 c24] 57 4 1 rfl (by decide)) (He k4 s4 _ _ _ _ _ _) (by simp [maxLen];omega) (by simp;omega) (by simp;omega) (fun v9 w9 n9 gH vN mE=> ?_));have tH:=hid gH;have Nv:=hid vN;have BN:=hid mE;clear gH vN mE);have ta:=Turn.alloc (fun j=>(Value.slice Al l.length cl).ownBlock=some j) w4 (.cells #[.int .i64 k4,sv s4, .slice mh n14 c14, .slice mq n24 c24] 57);have t9:=ta.trans (Turn.bE Nv.out (F:=fun j=>(Value.slice Al l.length cl).ownBlock=some j) (fun _ h=>h)) (fun _ _ h=>h);have FW:=nM.out.lt;have yO:=fP.push bf (F:=fun j=>w1.heap.size≤j) HY.out HRR.out vQ.out uR.out t9 (fun j _ h=> .inl h) (BN.out.imp id fun e=>⟨_,by simp,e⟩) tH.out (by omega) (by omega) (fun j hj=>by omega)
      go_roundw
      case rel=>exact⟨f, _,r4,yO,by simp,fI.out,by have:=Tm.out;have:=Pt.out;have:=HF.out;omega,by have:=Tm.out;have:=Pt.out;have:=Nt.out;simp;omega,gB.out.trans t9 (fun i hi e=>by have:=(FW i e).1;omega),by have:=t9.size;omega,jX.out.turn t9 (fun e=>by have:=(FW _ e).1;omega) (fun k hk e=>by have:=(FW _ e).1;omega),aJ AV.out t9 (fun e=>by have:=(FW _ e).1;omega),ah pW.out t9 (fun e=>by have:=(FW _ e).1;omega)⟩
      case measure=>rw [(jX.out.turn t9 (fun e=>by have:=(FW _ e).1;omega) (fun k hk e=>by have:=(FW _ e).1;omega)).left,Sn.out];have:=Tm.out;have:=Pt.out;omega
theorem Ld:sZ 100 (jL 6):=by
 intro w bp B ts h;have HE:=hid (rJ (w.alloc (.cells #[.int .i64 0, .string ⟨#[]⟩, .slice none 0 0, .slice none 0 0] 57)) bp B ts (h.below (new1 _ _)));clear h
 go_enter_defers Tryz.func54,Tryz.ntmps54
 go_wp2_with fail;refine(HE.out).mono ?_;rintro e w1 ⟨rfl,hb⟩;go_wp2_with fail;exact aD.fail (P:=Ve w.heap.size) (B:=B) (d:=100) (q:=jL 6 ts) rfl ⟨(bA hb.1).1,hb.2⟩
theorem xA:∀n:Nat,n≤100→sZ (100 - (n:Int)) (bJ n).typ
 | 0, _=>Ld
 | n+1,h=>by
  have ih:=xA n (by omega);have e:(100:Int) - ((n+1:Nat):Int)+1=100 - (n:Int):=by omega
  refine K9 (100 - ((n+1:Nat):Int)) (by omega) (by omega) (bJ n).typ ?_ (Sf.Kc n).1;rw [e];exact ih
end Go.Proofs.YtfgjkmipfikooaaGreatDoor
