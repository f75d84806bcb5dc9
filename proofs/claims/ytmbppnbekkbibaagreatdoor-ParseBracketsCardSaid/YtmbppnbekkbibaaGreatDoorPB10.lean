/- FW, HC, FY -/
import Derived.Test.YtmbppnbekkbibaaGreatDoorPB09
set_option linter.unusedSimpArgs false
set_option linter.unusedVariables false
section
set_option linter.unusedVariables false
namespace Go.Proofs.YtmbppnbekkbibaaGreatDoor
open Go.RowKit
theorem own_ne {w:World} {b1 b2 k1 k2 n1 n2:Nat} {e1 e2:TypeId} {v1 v2:Value} {xs1 xs2:List Value} (h1:w.ownsRow b1 e1 k1 v1 n1 xs1) (h2:w.ownsRow b2 e2 k2 v2 n2 xs2) (he:e1≠e2) (g:Nat) (hg:v1.ownBlock=some g):v2.ownBlock≠some g:=by
 intro hg2
 rcases h1.2 with⟨rfl, _⟩ | ⟨g1, _,c1,rfl, _,hb1, _⟩
 ·cases hg
 rcases h2.2 with⟨rfl, _⟩ | ⟨g2, _,c2,rfl, _,hb2, _⟩
 ·cases hg2
 injection hg with hg
 injection hg2 with hg2
 simp only at hg hg2
 subst hg hg2
 rw [hb1]at hb2
 injection hb2 with hb2
 injection hb2 with _ hb2
 exact he hb2
structure vX (pb qb nb base bp:Nat) (t:aF) (w:World) (l1:List Bt) (l2:List bD) (v1 v2:Value):Prop where
 box:w.heap[pb]? =some (.cells #[.pointer (some ⟨bp,0,none⟩)] 94 (0,0))
 Il:w.heap[qb]? =some (.cells #[.pointer (some ⟨nb,0,none⟩)] 158 (0,0))
 blk:w.heap[nb]? =some (.cells #[.int .i64 8, .string ⟨#[]⟩, .int .i64 0, .int .i64 (t.line:Nat), .int .i64 (t.col:Nat), .slice none 0 0,v1,v2] 49 (0,0))
 sI:gD w base 9 v1 l1
 kid:O5 base (fun j=>base≤j∧v1.ownBlock≠some j) w v2 l2
structure CO (pb qb nb base bp:Nat) (w:World):Prop where
 zM:bp<pb
 YE:bp<qb
 YF:bp<nb
 YG:nb<pb
 YH:nb<qb
 EA:pb<base
 Z9:qb<base
 DU:base≤w.heap.size
theorem CO.size {pb qb nb base bp:Nat} {w w':World} (h:CO pb qb nb base bp w) (t:w.heap.size≤w'.heap.size):CO pb qb nb base bp w':={ h with DU:=Nat.le_trans h.DU t}
theorem vX.ne {pb qb nb base bp:Nat} {t:aF} {w:World} {l1:List Bt} {l2:List bD} {v1 v2:Value} (h:vX pb qb nb base bp t w l1 l2 v1 v2) (g:Nat) (hg:v1.ownBlock=some g):v2.ownBlock≠some g:=by
 obtain⟨ys,h2, _⟩:=h.kid
 exact own_ne h.sI.row h2 (by decide) g hg
theorem vX.turn {pb qb nb base bp:Nat} {t:aF} {w w':World} {l1:List Bt} {l2:List bD} {v1 v2:Value} (h:vX pb qb nb base bp t w l1 l2 v1 v2) (p:CO pb qb nb base bp w) (tn:Turn (fun k=>k=bp) w w'):vX pb qb nb base bp t w' l1 l2 v1 v2:=by
 obtain⟨p1,p2,p3,p4,p5,p6,p7,p8⟩:=p
 exact⟨ah h.box tn (by omega),ah h.Il tn (by omega),ah h.blk tn (by omega),h.sI.turn tn (fun g hg e=>by have:=(h.sI.lt g hg).1;omega),h.kid.turn aT tn (fun g hg e=>by have:=(h.kid.lt g hg).1;omega) (fun g _ hg e=>by have:=hg.1;omega)⟩
theorem vX.name {pb qb nb base bp:Nat} {t:aF} {w w7:World} {l1:List Bt} {l2:List bD} {v1 v2 v7:Value} {o:Obj} {s:Bt} (h:vX pb qb nb base bp t w l1 l2 v1 v2) (p:CO pb qb nb base bp w)
  (h7:gD w7 base 9 v7 (l1++[s])) (hg:(w.alloc o).grownBy w7 v1.ownBlock) (hbk:v7.ownBlock=v1.ownBlock∨v7.ownBlock=some (w.alloc o).heap.size):
  vX pb qb nb base bp t (w7.setCell ⟨nb,6,none⟩ v7) (l1++[s]) l2 v7 v2∧Turn (fun j=>v1.ownBlock=some j∨j=nb) w (w7.setCell ⟨nb,6,none⟩ v7):=by
 obtain⟨p1,p2,p3,p4,p5,p6,p7,p8⟩:=p
 have t7:Turn (fun j=>v1.ownBlock=some j) w w7:=(Turn.alloc _ _ _).trans (Turn.bf hg (fun k h=>h)) (fun _ _ h=>h)
 have t8:=ak w7 nb 6 v7
 have hs:(w.alloc o).heap.size=w.heap.size+1:=by simp
 have hlt:=h.sI.lt
 have hk:=h.kid
 have hkl:=hk.lt
 have k1:O5 base (fun j=>(base≤j∧v1.ownBlock≠some j)∧v7.ownBlock≠some j) w v2 l2:=hk.mono aT fun g hg h=>⟨h,fun e=>by
  rcases hbk with hb | hb
  ·rw [hb]at e;exact h.2 e
  ·rw [hb,hs]at e;injection e with e;omega⟩
 have k7:=k1.turn aT t7 (fun g hg e=>h.ne g e hg) (fun g _ hg e=>hg.1.2 e)
 have k8:=k7.turn aT t8 (fun g hg e=>by have:=(hkl g hg).1;omega) (fun g _ hg e=>by have:=hg.1.1;omega)
 exact⟨⟨ah (ah h.box t7 (fun e=>by have:=(hlt _ e).1;omega)) t8 (by omega),ah (ah h.Il t7 (fun e=>by have:=(hlt _ e).1;omega)) t8 (by omega),heap_setCell_same _ _ 6 _ _ _ (ah h.blk t7 (fun e=>by have:=(hlt _ e).1;omega)),h7.turn t8 (fun g hg e=>by have:=(h7.lt g hg).1;omega),k8.mono aT fun g _ h=>⟨h.1.1,h.2⟩⟩,
  (t7.mono (G:=fun j=>v1.ownBlock=some j∨j=nb) fun _ _ h=> .inl h).trans t8 (fun _ _ h=> .inr h)⟩
def ML (pb qb nb base bp:Nat) (t:aF) (w:World) (l:List (Bt ×bD)):Prop:=∃v1 v2,vX pb qb nb base bp t w (l.map (·.1)) (l.map (·.2)) v1 v2
theorem Im (expr:Ps bD) (s:Bt) (hs:s≠[]) (l:List bD) (ts:List aF):bJ expr [s] l ts=au (aH s) (fun _=>au expr fun x=>aG (l++[x])) ts:=by
 rw [qX,if_neg hs];rfl
theorem CP (expr:Ps bD) (s:Bt) (l:List (Bt ×bD)) (ts:List aF):au (aH [58]) (fun _=>au expr fun x=>aG (l.map (·.2)++[x])) ts=(match au (au (aH [58]) fun _=>au expr fun x=>aG (s,x)) (fun x=>aG (l++[x])) ts with | .good y r=> .good (y.map (·.2)) r | .bad g=> .bad g):=by
 unfold au
 cases h1:aH [58] ts with
 | bad g=>rfl
 | good u r=>
  simp only
  cases h2:expr r with
  | bad g=>rfl
  | good x r2=>simp [aG]
theorem EP {expr:Ps bD} {s:Bt} {l y:List (Bt ×bD)} {ts r:List aF} (h:au (au (aH [58]) fun _=>au expr fun x=>aG (s,x)) (fun x=>aG (l++[x])) ts= .good y r):∃x,y=l++[(s,x)]:=by
 rcases h1:aH [58] ts with g | ⟨u,r1⟩
 ·rw [pU h1]at h;cases h
 rw [fH h1]at h
 rcases h2:expr r1 with g | ⟨x,r2⟩
 ·rw [pU h2]at h;cases h
 rw [fH h2]at h
 injection h with h _
 exact⟨x,h.symm⟩
set_option maxRecDepth 100000 in
set_option maxHeartbeats 8000000 in
theorem CQ (d:Int) (expr:Ps bD) (yU:sN d expr) (w:World) (bp B pb qb nb base:Nat) (t:aF) (ts:List aF) (l:List (Bt ×bD)) (hl:l.length≤8193) (h:bE w bp B ts d) (hI:ML pb qb nb base bp t w l) (hP:CO pb qb nb base bp w):
  Calls Tryz.prog 219 #[.pointer (some ⟨qb,0,none⟩), .pointer (some ⟨pb,0,none⟩)] w (dw (ML pb qb nb base bp t) (fun k=>k=bp∨k=nb∨base≤k) bp B d w (mQ (iJ expr) l ts)):=by
 obtain⟨v1,v2,hH⟩:=hI
 obtain⟨p1,p2,p3,p4,p5,p6,p7,p8⟩:=hP
 have HN:=hid (eH w.drew bp B ts d h)
 have hbx:=bG hH.box
 have hbq:=bG hH.Il
 obtain⟨t0,t1,t2,t3,t4,t5,t6,t7,tz⟩:=aN hH.blk
 obtain⟨A1,c1,hv1,hn1,hm1⟩:=hH.sI.ss.open_
 simp only [List.length_map]at hv1 hn1
 subst hv1
 have HH:=hid hH
 have HP:Hid (CO pb qb nb base bp w):=hid ⟨p1,p2,p3,p4,p5,p6,p7,p8⟩
 obtain⟨Q,hQ⟩:∃Q,mQ (iJ expr) l ts=Q:=⟨_,rfl⟩
 rw [hQ]
 have HQ:Hid (au (iJ expr) (fun x=>aG (l++[x])) ts=Q):=hid hQ
 have P0:=hid (fun(w':World) (h:Turn (fun j=>j=bp∨base≤j) w w')=>aI hbx h (by omega))
 have P1:=hid (fun(w':World) (h:Turn (fun j=>j=bp∨base≤j) w w')=>aI hbq h (by omega))
 have P2:=hid (fun(w':World) (h:Turn (fun j=>j=bp∨base≤j) w w')=>aI t6 h (by omega))
 have HD0:Hid (Turn (fun j=>j=bp∨base≤j) w w.drew):=hid ⟨rfl,rfl,rfl,Nat.le_refl _,fun _ _ _=>rfl⟩
 have jX:Hid (Turn (fun j=>j=bp) w w.drew):=hid ⟨rfl,rfl,rfl,Nat.le_refl _,fun _ _ _=>rfl⟩
 clear hH h hm1 hQ hbx hbq t0 t1 t2 t3 t4 t5 t6 t7 tz
 go_enter Tryz.func219,Tryz.ntmps219
 go_wp2_with fail
 refine bM (S:=fun w'=>Turn (fun j=>j=bp∨base≤j) w w') (x:=13) (by kernel_rfl) ?_
 try simp only [Act.put,List.getElem_toArray,List.getElem_cons_zero,List.getElem_cons_succ,List.setIfInBounds_toArray,List.set_cons_zero,List.set_cons_succ]
 refine jW 0 (.pointer (some ⟨nb,0,none⟩)) P1.out HD0.out ?_
 refine jW 1 (.pointer (some ⟨nb,0,none⟩)) P1.out HD0.out ?_
 refine tx 2 (.pointer (some ⟨nb,0,none⟩)) HD0.out ?_
 refine tx 3 (.pointer (some ⟨nb,6,none⟩)) HD0.out ?_
 refine jW 4 (.slice A1 l.length c1) P2.out HD0.out ?_
 refine jW 5 (.pointer (some ⟨bp,0,none⟩)) P0.out HD0.out ?_
 refine tx 6 (.pointer (some ⟨bp,0,none⟩)) HD0.out ?_
 refine tx 7 (.pointer (some ⟨bp,0,none⟩)) HD0.out ?_
 refine ay (rs:=[8]) (by kernel_rfl) (by simp) ?_
 refine av.cons rfl (fun K hK=> ?_) (av.nil)
 go_simp
 refine(HN.out).mono ?_
 rintro e w2 h2
 rcases hq:nameP ts with g | ⟨s,r⟩
 ·obtain⟨rfl,tn,bn⟩:=h2.bF hq
  have tn:=jX.out.trans tn (fun _ _ h=>h)
  have bY:=hid (HQ.out.symm.trans (aB (aB hq)))
  exact⟨rfl,dw.fail bY.out (tn.mono fun _ _ h=> .inl h) bn⟩
 ·obtain⟨v,rfl,Nw,rfl,k2⟩:=h2.aL hq
  have xR:=jX.out.trans Nw (fun _ _ h=>h)
  have HT2:=hid (xR.mono (G:=fun j=>j=bp∨base≤j) (fun _ _ h=> .inl h))
  have OV:=hid xR
  have jV:=hid k2
  have JY:=hid (HH.out.turn HP.out xR)
  have Cu:=hid (HP.out.size xR.size)
  have kF:Hid (au (au (aH [58]) fun _=>au expr fun x=>aG (s,x)) (fun x=>aG (l++[x])) r=Q):=hid ((fH (p:=nameP) hq).symm.trans HQ.out)
  clear h2 Nw k2 hq xR
  refine hK.out _ _ HT2.out ?_
  clear hK K
  try simp only [Act.put,List.getElem_toArray,List.getElem_cons_zero,List.getElem_cons_succ,List.setIfInBounds_toArray,List.set_cons_zero,List.set_cons_succ]
  refine ay (rs:=[9]) (by kernel_rfl) (by simp) ?_
  refine av.cons rfl (fun K hK=> ?_) (av.nil)
  go_simp
  have HT3:=hid (HT2.out.trans (Turn.alloc (fun j=>j=bp∨base≤j) w2 (.cells #[sv s] 9)) (fun _ _ h=>h))
  refine hK.out _ _ HT3.out ?_
  clear hK K
  try simp only [Act.put,List.getElem_toArray,List.getElem_cons_zero,List.getElem_cons_succ,List.setIfInBounds_toArray,List.set_cons_zero,List.set_cons_succ]
  refine ay (rs:=[10]) (by kernel_rfl) (by simp) ?_
  refine av.cons rfl (fun K hK=> ?_) (av.nil)
  have dP:=hid (JY.out.sI.alloc (.cells #[sv s] 9))
  have Cg:=hid (qE w2 s 9)
  refine dX rfl (.tmp 6) (.tmp 11) _ rfl base tT (.slice A1 l.length c1) (.slice (some ⟨w2.heap.size,0,none⟩) 1 1) rfl rfl dP.out.row Cg.out (wD _) (by simp [nC,maxLen];omega) (by simp [nC];omega) (by have:=Cu.out.DU;simp;omega) (fun v7 w7 n7 aK fV dV=> ?_)
  obtain⟨A7,c7,rfl, _, _⟩:=jd aK
  obtain⟨RN,RO⟩:=JY.out.name Cu.out (o:= .cells #[sv s] 9) (s:=s) (w7:=w7) ⟨n7,by rw [nD];exact aK⟩ fV dV
  have EB:=hid RN
  have lH:=hid RO
  have iL:=hid (HT3.out.trans (Turn.bf fV (F:=fun j=>j=bp∨base≤j) (fun k e=> .inr (dP.out.lt k e).1)) (fun _ _ h=>h))
  have qZ:=ah HH.out.blk iL.out (by omega)
  obtain⟨t0,t1,t2,t3,t4,t5,t6,t7,tz⟩:=aN qZ
  clear RN RO aK fV dV qZ
  refine hK.out _ _ iL.out ?_
  clear hK K
  try simp only [Act.put,List.getElem_toArray,List.getElem_cons_zero,List.getElem_cons_succ,List.setIfInBounds_toArray,List.set_cons_zero,List.set_cons_succ]
  refine tt 11 (.pointer (some ⟨nb,0,none⟩)) (fun _=>iL.out) ?_
  refine tx 12 (.pointer (some ⟨nb,6,none⟩)) iL.out ?_
  refine ay (rs:=[13]) (by kernel_rfl) (by simp) ?_
  refine av.past rfl (by kernel_rfl) (fun K hK=> ?_) (av.nil)
  go_simp
  refine hK.out _ _ ?_
  clear hK K
  try simp only [Act.put,List.getElem_toArray,List.getElem_cons_zero,List.getElem_cons_succ,List.setIfInBounds_toArray,List.set_cons_zero,List.set_cons_succ]
  refine aO (by kernel_rfl) ?_ _
  have JM:=Cu.out.size lH.out.size
  have hlo2:=JY.out.sI.lt
  have oD:=jV.out.turn lH.out (fun e=>by rcases e with e | e;(have:=(hlo2 _ e).1;omega);omega) (fun k hk e=>by
   have:=jV.out.1
   rcases e with e | e
   ·have:=(hlo2 _ e).1;omega
   ·omega)
  have F4:=hid ((OV.out.mono (G:=fun k=>k=bp∨k=nb∨base≤k) (fun _ _ h=> .inl h)).trans lH.out (fun i _ e=>by
   rcases e with e | e
   ·exact .inr (.inr (hlo2 i e).1)
   ·exact .inr (.inl e)))
  have xS:=hid JM
  have qw:=hid oD
  obtain⟨W8,qY⟩:∃W8,w7.setCell ⟨nb,6,none⟩ (.slice A7 n7 c7)=W8:=⟨_,rfl⟩
  rw [qY]at EB lH F4 xS qw
  have EH:=hid qY
  have RP:=bG EB.out.box
  have aac:=bG EB.out.Il
  have Pw:=EB.out.sI.lt
  have uh:=xS.out.DU
  have YI:=hid ((Im expr [58] (by simp) (l.map (·.2)) r).trans (CP expr s l r))
  rw [kF.out]at YI
  obtain⟨Av,cv,hvv, _, _⟩:=EB.out.kid.shape
  rw [List.length_map]at hvv
  subst hvv
  have Px:=EB.out.kid.lt
  have Vv:(l.map (·.2)).length≤8900:=by rw [List.length_map];omega
  have sV:=hid (iU d expr yU (W8.alloc (.cells #[.string ⟨#[58]⟩] 9)) bp B nb base (fun j=>base≤j∧(Value.slice A7 n7 c7).ownBlock≠some j) r (qw.out.below (new1 _ _)) (.int .i64 8) (.string ⟨#[]⟩) (.int .i64 0) (.int .i64 (t.line:Nat)) (.int .i64 (t.col:Nat)) (.slice none 0 0) (.slice A7 n7 c7) (.slice Av l.length cv) (l.map (·.2)) (bB EB.out.blk) (EB.out.kid.turn aT (Turn.alloc (fun _=>False) W8 (.cells #[.string ⟨#[58]⟩] 9)) (fun _ _=>id) (fun _ _ _=>id)) (.slice (some ⟨W8.heap.size,0,none⟩) 1 1) [[58]] ((iA W8 #[.string ⟨#[58]⟩] 9 1 1 rfl (by decide)).mono (fun g _ h=>⟨by omega,by omega,fun e=>by have:=(Px _ e).2;omega⟩)) (by simp) Vv (by omega) (by omega) (by simp;omega) (fun h=>by have:=h.1;omega) (fun h=>by have:=h.1;omega) (fun j hj=>by simp at hj;exact⟨by omega,fun e=>by have:=(Pw j e).2;omega⟩))
  have zl:=hid (And.intro Pw Px)
  clear Pw Px hlo2 JM oD qY Vv
  rw [EH.out]
  go_wp2_with fail
  refine(sV.out).mono ?_
  rintro e w9 h9
  rw [YI.out]at h9
  rcases Q with g | ⟨y,r9⟩
  ·obtain⟨rfl,tn,bn⟩:=h9.bF rfl
   have wM:=hid (bq tn).1
   have HB:=hid bn
   clear h9 tn bn
   go_wp2_with fail
   exact⟨rfl,dw.fail rfl (F4.out.trans wM.out (fun i _ e=>by rcases e with e | e | e;exact .inl e;exact .inr (.inl e);exact .inr (.inr (zl.out.2 i e).1))) HB.out⟩
  ·obtain⟨rfl,tn,⟨v9,Gf,DR⟩,kn⟩:=h9.aL rfl
   obtain⟨x,hy⟩:=EP kF.out
   have wM:=hid (bq tn).1
   have Py:=hid Gf
   have Kr:=hid DR
   have Bz:=hid kn
   have HY:=hid hy
   clear h9 tn Gf DR kn hy
   go_wp2_with fail
   go_end0
   have hne:=EB.out.ne
   refine dw.done rfl (F4.out.trans wM.out (fun i _ e=>by rcases e with e | e | e;exact .inl e;exact .inr (.inl e);exact .inr (.inr (zl.out.2 i e).1))) ⟨.slice A7 n7 c7,v9, ?_⟩ Bz.out
   have e1:y.map (·.1)=l.map (·.1)++[s]:=by rw [HY.out,List.map_append];rfl
   rw [e1]
   exact⟨ah EB.out.box wM.out (fun e=>by rcases e with e | e | e;omega;omega;(have:=(zl.out.2 _ e).1;omega)),ah EB.out.Il wM.out (fun e=>by rcases e with e | e | e;omega;omega;(have:=(zl.out.2 _ e).1;omega)),Py.out,EB.out.sI.turn wM.out (fun g hg e=>by rcases e with e | e | e;(have:=(zl.out.1 g hg).1;omega);(have:=(zl.out.1 g hg).1;omega);exact hne g hg e),Kr.out⟩
end Go.Proofs.YtmbppnbekkbibaaGreatDoor
end
section
set_option linter.unusedVariables false
namespace Go.Proofs.YtmbppnbekkbibaaGreatDoor
open Go.RowKit
theorem bE.second {w:World} {bp B:Nat} {t1 t2:aF} {r:List aF} {d:Int} (h:bE w bp B (t1 :: t2 :: r) d):
  ∃b o c,r.length+1+1≤c∧w.cell? ⟨bp,0,none⟩=some (.slice (some ⟨b,o,none⟩) (r.length+1+1) c)∧w.cell? ⟨b,o+4,none⟩=some (.int .i64 t2.kind)∧w.cell? ⟨b,o+4+1,none⟩=some (sv t2.text)∧w.cell? ⟨b,o+4+2,none⟩=some (.int .i64 (t2.line:Nat))∧w.cell? ⟨b,o+4+3,none⟩=some (.int .i64 (t2.col:Nat)):=by
 obtain⟨b,o,c,t,r',he,hc,hcm,hl,hB,hb,hbk,hs,d0,d1,z0,c0,c1,c2,c3⟩:=h.open_
 injection he with he1 he2
 subst he1 he2
 obtain⟨A,n,c',hv,hlen,hn,hc',hx⟩:=hs
 injection hv with hv1 hv2 hv3
 subst hv1 hv2 hv3
 obtain⟨b',o',hA,hb',hcell⟩:=hx (by simp)
 injection hA with hA
 injection hA with hA1 hA2
 subst hA1 hA2
 have g:=fun(j:Nat) (u:Value) (hj:(dn (t1 :: t2 :: r))[j]? =some u)=>hcell j u hj
 exact⟨b,o,c,hc,d0,g 4 _ rfl,g 5 _ rfl,g 6 _ rfl,g 7 _ rfl⟩
theorem uF {expr:Ps bD}:∀(a:List Bt) (l:List bD) {ts r:List aF} {y:List bD},bJ expr a l ts= .good y r→y.length=l.length+a.length
 | [],l,ts,r,y,h=>by injection h with h _;rw [←h];rfl
 | s :: a,l,ts,r,y,h=>by
  rw [qX]at h
  rcases h1:(if s=[]then aG ()else aH s) ts with g | ⟨u,r1⟩
  ·rw [aB h1]at h;cases h
  rw [aj h1]at h
  rcases h2:expr r1 with g | ⟨x,r2⟩
  ·rw [aB h2]at h;cases h
  rw [aj h2]at h
  have:=uF a _ h
  simp at this ⊢
  omega
theorem vX.F5 {pb qb nb base bp:Nat} {t:aF} {w w':World} {l1:List Bt} {l2:List bD} {v1 v2:Value} (h:vX pb qb nb base bp t w l1 l2 v1 v2) (tn:Turn (fun k=>k=bp) w w') (p1:bp<pb) (p2:bp<qb) (p3:bp<nb) (p4:bp<base):vX pb qb nb base bp t w' l1 l2 v1 v2:=
 ⟨ah h.box tn (by omega),ah h.Il tn (by omega),ah h.blk tn (by omega),h.sI.turn tn (fun g hg e=>by have:=(h.sI.lt g hg).1;omega),h.kid.turn aT tn (fun g hg e=>by have:=(h.kid.lt g hg).1;omega) (fun g _ hg e=>by have:=hg.1;omega)⟩
def V3 (nb base:Nat) (w:World) (v:Value) (x:bD):Prop:=v= .tuple #[]∧∃z:List Value,w.heap[nb]? =some (.cells z.toArray 49 (0,0))∧jG w (fun j=>base≤j) z x
set_option maxRecDepth 100000 in
set_option maxHeartbeats 8000000 in
theorem ER (d:Int) (expr:Ps bD) (hse:Sf expr) (yU:sN d expr) (w:World) (bp B nb:Nat) (t:aF) (ts:List aF) (h:bE w bp B ts d) (hnb:w.heap[nb]? =some (.cells (mW 0 t) 49 (0,0))) (hbn:bp<nb):
  Calls Tryz.prog 202 #[.pointer (some ⟨bp,0,none⟩), .pointer (some ⟨nb,0,none⟩)] w (eB (V3 nb w.heap.size) (fun k=>k=bp∨k=nb) bp B d w (rX expr t ts)):=by
 have hlt:=h.lt
 have hnl:=block_lt hnb
 have hB:=h.1
 obtain⟨Q,hQ⟩:∃Q,rX expr t ts=Q:=⟨_,rfl⟩
 rw [hQ]
 have hwf:=h.wf
 have t0:=ak w nb 0 (.int .i64 8)
 have hk0:=h.turn t0 (by omega) (fun k hk e=>by omega)
 have hb0:=heap_setCell_same _ _ 0 _ _ (.int .i64 8) hnb
 have hs0:(w.setCell ⟨nb,0,none⟩ (.int .i64 8)).heap.size=w.heap.size:=by simp
 obtain⟨W1,hW1⟩:∃W1,(((w.setCell ⟨nb,0,none⟩ (.int .i64 8)).alloc (.cells #[.pointer (some ⟨bp,0,none⟩)] 94)).alloc (.cells #[.pointer (some ⟨nb,0,none⟩)] 158))=W1:=⟨_,rfl⟩
 obtain⟨t1,hs1,hbx,hbq⟩:=fZ (G:=fun _=>False) (Turn.refl _ (((w.setCell ⟨nb,0,none⟩ (.int .i64 8)).alloc (.cells #[.pointer (some ⟨bp,0,none⟩)] 94)).alloc (.cells #[.pointer (some ⟨nb,0,none⟩)] 158)))
 rw [hs0]at hs1 hbx hbq
 have hk1:=hk0.turn t1 id (fun _ _=>id)
 have hb1:=ah hb0 t1 id
 rw [hW1]at t1 hs1 hbx hbq hk1 hb1
 have HT1:=hid ((t0.mono (G:=fun k=>k=bp∨k=nb) fun _ _ h=> .inr h).trans t1 (fun _ _ h=>h.elim))
 have lN:=hid hk1
 have HB1:=hid hb1
 have nN:=hid (hbx id)
 have MN:=hid (hbq id)
 have HW1:=hid hW1
 have HQ:=hid hQ
 have HN:=hid (fun(w2:World) (hb:Below W1.heap.size W1 w2)=>jq w2 bp B ts d (hk1.below hb))
 have HI:=hid (fun w1 s=>Ev w1 (aU ts) s)
 have hc1:=bG (hbx id)
 have hq1:=bG (hbq id)
 obtain⟨m0,m1,m2,m3,m4,m5,m6,m7,mz⟩:=aN hnb
 clear h hQ t0 hk0 hb0 t1 hk1 hb1 hbx hbq hW1
 go_enter Tryz.func202,Tryz.ntmps202
 go_wp2_with fail
 rw [HW1.out]
 refine(HN.out _ (Below.refl _ _)).mono ?_
 rintro e w2 ⟨rfl,hb2⟩
 have HB2:=hid hb2
 clear hb2
 go_wp2_with fail
 refine(HI.out _ _).mono ?_
 rintro e w3 ⟨rfl,hb3⟩
 have HB3:=hid (HB2.out.trans (hb3.mono HB2.out.size))
 clear hb3
 cases hq:kU (aU ts) [125]
 ·have hs3:=HB3.out.size
  have oW:=hid (ah nN.out (Turn.of_below (F:=fun _=>False) HB3.out) id)
  have V4:=hid (ah MN.out (Turn.of_below (F:=fun _=>False) HB3.out) id)
  have aad:=hid (show w3.heap[nb]? =some (.cells #[.int .i64 8, .string ⟨#[]⟩, .int .i64 0, .int .i64 (t.line:Nat), .int .i64 (t.col:Nat), .slice none 0 0, .slice none 0 0, .slice none 0 0] 49 (0,0))from ah HB1.out (Turn.of_below (F:=fun _=>False) HB3.out) id)
  have gU:Hid (Q=au (jF fun t ts=>t.kind==1 && kU (aU (ts.drop 1)) [58]) (fun c=>if c then au (iG (iJ expr)) fun l=>aG (aJ 8 [] 0 t [] (l.map (·.1)) (l.map (·.2)))else au (bJ expr [[]] []) fun k=>au (aH [119,105,116,104]) fun _=>au nameP fun s=>au (bJ expr [[58]] k) fun m=>aG (aJ 10 s 0 t [] [] m)) ts):=hid (HQ.out.symm.trans (by unfold rX;rw [show(jF fun t _=>kU t [125])=(fun ts=>Pr.good (kU (aU ts) [125]) ts)from rfl];unfold au;simp only [hq];rfl))
  obtain⟨hc3,hq3⟩:=And.intro (bG oW.out) (bG V4.out)
  obtain⟨c,hc⟩:∃c,((aU ts).kind==1 && kU (aU (ts.drop 1)) [58])=c:=⟨_,rfl⟩
  have fu:Hid (Q=(if c then au (iG (iJ expr)) fun l=>aG (aJ 8 [] 0 t [] (l.map (·.1)) (l.map (·.2)))else au (bJ expr [[]] []) fun k=>au (aH [119,105,116,104]) fun _=>au nameP fun s=>au (bJ expr [[58]] k) fun m=>aG (aJ 10 s 0 t [] [] m)) ts):=hid (by
   have e:=gU.out
   unfold au at e
   simp only [jF,hc]at e
   unfold au
   exact e)
  have f0:∀w:World,(Instr.field 70 (nL (aU ts)) 0).run Tryz.prog w= .ok (.int .i64 (aU ts).kind) w:=fun _=>by kernel_rfl
  have HC:=hid hc
  have ze:=hid hwf
  have AQ:=hid (HN.out w3 HB3.out)
  clear hc hwf hq
  by_cases hkd:(aU ts).kind=1
  ·obtain⟨t1,t2,r2,hts⟩:∃t1 t2 r2,ts=t1 :: t2 :: r2:=by
    rcases ze.out.cases with⟨e,rfl,he⟩ | ⟨t1,r,rfl,hk1,aae,hwr⟩
    ·exact absurd hkd (by show ¬e.kind=1;rw [he];decide)
    ·rcases hwr.cases with⟨e,rfl, _⟩ | ⟨t2,r2,rfl, _⟩
     ·exact⟨_, _, _,rfl⟩
     ·exact⟨_, _, _,rfl⟩
   have YJ:=hid hts
   have hk2:bE W1 bp B (t1 :: t2 :: r2) d:=hts▸lN.out
   have jV:=hid hk2
   have OQ:Hid (kU t2 [58]=c):=hid (by have:=HC.out;rw [hkd,hts]at this;exact this)
   have HI2:=hid (fun w1 s=>Ev w1 t2 s)
   have ZI:(aU ts).kind=1:=hkd
   clear hts hk2 hkd
   go_wp2_with fail
   refine(AQ.out).mono ?_
   rintro e w4 ⟨rfl,hb4⟩
   have o9:=hid (HB3.out.trans (hb4.mono HB3.out.size))
   have hc4:=bG (ah nN.out (Turn.of_below (F:=fun _=>False) o9.out) id)
   obtain⟨bb,oo,cc,hcc,d0,g0,g1,g2,g3⟩:=(jV.out.below o9.out).second
   clear hb4
   go_wp2_with fail
   refine(HI2.out _ _).mono ?_
   rintro e w5 ⟨rfl,hb5⟩
   rw [OQ.out]
   have nk:=hid (o9.out.trans (hb5.mono o9.out.size))
   clear hb5 d0 g0 g1 g2 g3 hc4
   cases c
   ·have gK:Hid ((au (bJ expr [[]] []) fun k=>au (aH [119,105,116,104]) fun _=>au nameP fun s=>au (bJ expr [[58]] k) fun m=>aG (aJ 10 s 0 t [] [] m)) ts=Q):=hid fu.out.symm
    have tb:=Turn.of_below (F:=fun _=>False) nk.out
    have Kt:=hid (ah nN.out tb id)
    have Ku:=hid (ah MN.out tb id)
    have Kv:=hid (show w5.heap[nb]? =some (.cells #[.int .i64 8, .string ⟨#[]⟩, .int .i64 0, .int .i64 (t.line:Nat), .int .i64 (t.col:Nat), .slice none 0 0, .slice none 0 0, .slice none 0 0] 49 (0,0))from ah HB1.out tb id)
    have V5:=hid (HT1.out.trans tb (fun _ _ h=>h.elim))
    have V6:=hid (lN.out.below nk.out)
    have hsn:=nk.out.size
    have hcn:=bG Kt.out
    have hqn:=bG Ku.out
    obtain⟨b0,b1,b2,b3,b4,b5,b6,b7,bz⟩:=aN Kv.out
    have t5:=ak w5 nb 0 (.int .i64 10)
    have lQ:=hid (V6.out.turn t5 (by omega) (fun k hk e=>by omega))
    have fI:=hid (V5.out.trans t5 (fun _ _ h=> .inr h))
    have Pz:=hid (heap_setCell_same _ _ 0 _ _ (.int .i64 10) Kv.out)
    have Io:=hid (ah Kt.out t5 (by omega))
    have PE:=hid (ah Ku.out t5 (by omega))
    have hne1:¬nb=w.heap.size:=by omega
    have hne2:¬nb=w.heap.size+1:=by omega
    have hsc:(w5.setCell ⟨nb,0,none⟩ (.int .i64 10)).heap.size=w5.heap.size:=by simp
    have sV:=hid (iU d expr yU ((w5.setCell ⟨nb,0,none⟩ (.int .i64 10)).alloc (.cells #[.string ⟨#[]⟩] 9)) bp B nb (w.heap.size+2) (fun j=>w.heap.size+2≤j) ts (lQ.out.below (new1 _ _)) (.int .i64 10) (.string ⟨#[]⟩) (.int .i64 0) (.int .i64 (t.line:Nat)) (.int .i64 (t.col:Nat)) (.slice none 0 0) (.slice none 0 0) (.slice none 0 0) [] (bB Pz.out) (fF.nil _ _ _ _ _ _) (.slice (some ⟨(w5.setCell ⟨nb,0,none⟩ (.int .i64 10)).heap.size,0,none⟩) 1 1) [[]] ((iA (w5.setCell ⟨nb,0,none⟩ (.int .i64 10)) #[.string ⟨#[]⟩] 9 1 1 rfl (by decide)).mono (fun g _ h=>⟨by omega,by omega,fun e=>by cases e⟩)) (by decide) (by simp) (by omega) (by omega) (by simp;omega) (by omega) (by omega) (fun j hj=>by simp at hj;omega))
    rw [hsc]at sV
    clear tb t5
    go_wp2_with fail
    refine(sV.out).mono ?_
    rintro e w6 h6
    rcases hq:bJ expr [[]] [] ts with g | ⟨ks,r6⟩
    ·obtain⟨rfl,tn,bn⟩:=h6.bF hq
     have tn:=(bq tn).1
     have oq:=hid (fI.out.trans tn (fun i hi e=>by rcases e with e | e | e;exact .inl e;exact .inr e;cases e))
     have bY:=hid (gK.out.symm.trans (aB hq))
     have nO:=hid bn
     clear h6 tn bn hq
     go_wp2_with fail
     exact⟨rfl,eB.fail bY.out oq.out nO.out⟩
    ·obtain⟨rfl,tn,⟨v6,hb6,Gd⟩,kn⟩:=h6.aL hq
     have tk:=(bq tn).1
     have hs6:=tk.size
     have lF:=hid (fI.out.trans tk (fun i hi e=>by rcases e with e | e | e;exact .inl e;exact .inr e;cases e))
     have Kw:=hid (ah Io.out tk (fun e=>by rcases e with e | e | e;omega;omega;cases e))
     have PG:=hid (ah PE.out tk (fun e=>by rcases e with e | e | e;omega;omega;cases e))
     have PI:=hid hb6
     have AO:=hid Gd
     have uX:=hid kn
     have zm:=hid hq
     have rD:Hid ((au (aH [119,105,116,104]) fun _=>au nameP fun s=>au (bJ expr [[58]] ks) fun m=>aG (aJ 10 s 0 t [] [] m)) r6=Q):=hid ((aj hq).symm.trans gK.out)
     have hc6:=bG Kw.out
     have MK:=hid (dM w6 bp B r6 d kn [119,105,116,104] 9 w6.heap.size)
     clear h6 tn tk hb6 Gd kn hq
     go_wp2_with fail
     refine(MK.out).mono ?_
     rintro e w7 h7
     rcases hq:aH [119,105,116,104] r6 with g | ⟨u,r7⟩
     ·obtain⟨rfl,tn,bn⟩:=h7.bF hq
      have oq:=hid (lF.out.trans tn (fun _ _ h=> .inl h))
      have bY:=hid (rD.out.symm.trans (aB hq))
      have nO:=hid bn
      clear h7 tn bn hq
      go_wp2_with fail
      exact⟨rfl,eB.fail bY.out oq.out nO.out⟩
     ·obtain⟨v7,rfl,tn, -,kn⟩:=h7.aL hq
      have iL:=hid (lF.out.trans tn (fun _ _ h=> .inl h))
      have kP:=hid kn
      have hs7:=tn.size
      have yc:=hid (ah Kw.out tn (by omega))
      have Ky:=hid (ah PG.out tn (by omega))
      have Kz:=ah PI.out tn (by omega)
      have PU:=hid Kz
      have Sm:=hid (AO.out.turn aT tn (fun g hg e=>by have:=(AO.out.lt g hg).1;omega) (fun g _ hg e=>by omega))
      obtain⟨A6,q6,hv6, _, _⟩:=AO.out.shape
      subst hv6
      have vT:Hid ((au nameP fun s=>au (bJ expr [[58]] ks) fun m=>aG (aJ 10 s 0 t [] [] m)) r7=Q):=hid ((aj hq).symm.trans rD.out)
      have hx7:=bG yc.out
      have Sn:=bG Ky.out
      have PX:=hid (fun(w':World) (h:Turn (fun j=>j=bp) w7 w')=>aI hx7 h (by omega))
      have PQ:=hid (fun(w':World) (h:Turn (fun j=>j=bp) w7 w')=>aI Sn h (by omega))
      have oV:Hid (Turn (fun j=>j=bp) w7 w7.drew):=hid ⟨rfl,rfl,rfl,Nat.le_refl _,fun _ _ _=>rfl⟩
      have V8:=hid (eH w7.drew bp B r7 d kn)
      clear h7 tn kn hq Kz hx7 Sn
      go_wp2_with fail
      refine bM (S:=fun w'=>Turn (fun j=>j=bp) w7 w') (x:=7) (by kernel_rfl) ?_
      try simp only [Act.put,List.getElem_toArray,List.getElem_cons_zero,List.getElem_cons_succ,List.setIfInBounds_toArray,List.set_cons_zero,List.set_cons_succ]
      refine jW 0 (.pointer (some ⟨nb,0,none⟩)) PQ.out oV.out ?_
      refine jW 1 (.pointer (some ⟨bp,0,none⟩)) PX.out oV.out ?_
      refine tx 2 (.pointer (some ⟨bp,0,none⟩)) oV.out ?_
      refine tx 3 (.pointer (some ⟨bp,0,none⟩)) oV.out ?_
      refine ay (rs:=[4]) (by kernel_rfl) (by simp) ?_
      refine av.cons rfl (fun K hK=> ?_) (av.nil)
      go_simp
      refine(V8.out).mono ?_
      rintro e w8 h8
      rcases hq:nameP r7 with g | ⟨s,r8⟩
      ·obtain⟨rfl,tn,bn⟩:=h8.bF hq
       have bY:=hid (vT.out.symm.trans (aB hq))
       exact⟨rfl,eB.fail bY.out (iL.out.trans (aA oV.out tn) (fun _ _ h=> .inl h)) bn⟩
      ·obtain⟨v8,rfl,tn,rfl,kn⟩:=h8.aL hq
       have nS:=hid (aA oV.out tn)
       have uh:=nS.out.size
       have ES:=ah PU.out nS.out (by omega)
       have t9:=ak w8 nb 1 (sv s)
       have Bz:=hid (kn.turn t9 (by omega) (fun k hk e=>by omega))
       have xU:=hid ((iL.out.trans nS.out (fun _ _ h=> .inl h)).trans t9 (fun _ _ h=> .inr h))
       have KA:=hid (heap_setCell_same _ _ 1 _ _ (sv s) ES)
       have KC:=hid (ah (ah yc.out nS.out (by omega)) t9 (by omega))
       have KD:=hid (ah (ah Ky.out nS.out (by omega)) t9 (by omega))
       have tL:=Sm.out.turn aT nS.out (fun g hg e=>by have:=(Sm.out.lt g hg).1;omega) (fun g _ hg e=>by omega)
       have Kr:=hid (tL.turn aT t9 (fun g hg e=>by have:=(tL.lt g hg).1;omega) (fun g _ hg e=>by omega))
       have Jk:Hid ((au (bJ expr [[58]] ks) fun m=>aG (aJ 10 s 0 t [] [] m)) r8=Q):=hid ((aj hq).symm.trans vT.out)
       obtain⟨x0,x1,x2,x3,x4,x5,x6,x7,xz⟩:=aN ES
       clear h8 tn kn hq ES t9 tL
       refine hK.out _ _ nS.out ?_
       clear hK K
       try simp only [Act.put,List.getElem_toArray,List.getElem_cons_zero,List.getElem_cons_succ,List.setIfInBounds_toArray,List.set_cons_zero,List.set_cons_succ]
       refine tt 5 (.pointer (some ⟨nb,0,none⟩)) (fun _=>nS.out) ?_
       refine tx 6 (.pointer (some ⟨nb,1,none⟩)) nS.out ?_
       refine ay (rs:=[7]) (by kernel_rfl) (by simp) ?_
       refine av.past rfl (by kernel_rfl) (fun K hK=> ?_) (av.nil)
       go_simp
       refine hK.out _ _ ?_
       clear hK K
       try simp only [Act.put,List.getElem_toArray,List.getElem_cons_zero,List.getElem_cons_succ,List.setIfInBounds_toArray,List.set_cons_zero,List.set_cons_succ]
       refine aO (by kernel_rfl) ?_ _
       obtain⟨W9,MO⟩:∃W9,w8.setCell ⟨nb,1,none⟩ (sv s)=W9:=⟨_,rfl⟩
       have YK:w8.heap.size≤W9.heap.size:=by rw [←MO];simp
       rw [MO]at Bz xU KA KC KD Kr
       have oP:=hid MO
       have UM:=bG KC.out
       have MP:=bG KD.out
       have ET:=Kr.out.lt
       have hkn:=uF [[]] [] (zm.out)
       have zl:=hid ET
       have sV:=hid (iU d expr yU (W9.alloc (.cells #[.string ⟨#[58]⟩] 9)) bp B nb (w.heap.size+2) (fun j=>w.heap.size+2≤j) r8 (Bz.out.below (new1 _ _)) (.int .i64 10) (sv s) (.int .i64 0) (.int .i64 (t.line:Nat)) (.int .i64 (t.col:Nat)) (.slice none 0 0) (.slice none 0 0) (.slice A6 ks.length q6) ks (bB KA.out) (Kr.out.turn aT (Turn.alloc (fun _=>False) W9 (.cells #[.string ⟨#[58]⟩] 9)) (fun _ _=>id) (fun _ _ _=>id)) (.slice (some ⟨W9.heap.size,0,none⟩) 1 1) [[58]] ((iA W9 #[.string ⟨#[58]⟩] 9 1 1 rfl (by decide)).mono (fun g _ h=>⟨by omega,by omega,fun e=>by have:=(ET _ e).2;omega⟩)) (by decide) (by simp at hkn;omega) (by omega) (by omega) (by simp;omega) (by omega) (by omega) (fun j hj=>by simp at hj;omega))
       clear MO ET hkn x0 x1 x2 x3 x4 x5 x6 x7 xz
       rw [oP.out]
       go_wp2_with fail
       refine(sV.out).mono ?_
       rintro e oC h10
       rcases hq:bJ expr [[58]] ks r8 with g | ⟨ms,oh⟩
       ·obtain⟨rfl,tn,bn⟩:=h10.bF hq
        have tn:=(bq tn).1
        have oq:=hid (xU.out.trans tn (fun i hi e=>by rcases e with e | e | e;exact .inl e;exact .inr e;(have:=(zl.out _ e).1;omega)))
        have bY:=hid (Jk.out.symm.trans (aB hq))
        have nO:=hid bn
        clear h10 tn bn hq
        go_wp2_with fail
        exact⟨rfl,eB.fail bY.out oq.out nO.out⟩
       ·obtain⟨rfl,tn,⟨v10,vY,KE⟩,kn⟩:=h10.aL hq
        have EU:=hid (xU.out.trans (bq tn).1 (fun i hi e=>by rcases e with e | e | e;exact .inl e;exact .inr e;(have:=(zl.out _ e).1;omega)))
        have Ip:=hid vY
        have V9:=hid KE
        have Rc:=hid kn
        have Jh:Hid (Pr.good (aJ 10 s 0 t [] [] ms) oh=Q):=hid ((aj hq).symm.trans Jk.out)
        clear h10 tn vY KE kn hq
        go_wp2_with fail
        go_end0
        obtain⟨xs,y1,y2⟩:=V9.out.sl aT
        exact eB.done Jh.out.symm EU.out ⟨rfl, _,Ip.out, .mk (dh.nil _ _ _) .nil (dh.nil _ _ _) (y1.mono (fun g _ h=>by rcases h with h | h <;> omega)) (jA (dB aT (fun g _ h=>by rcases h with h | h <;> omega) y2))⟩ Rc.out
   ·have gK:Hid ((au (iG (iJ expr)) fun l=>aG (aJ 8 [] 0 t [] (l.map (·.1)) (l.map (·.2)))) ts=Q):=hid fu.out.symm
    have LZ:∀(fn:Fn) (first cap:Array Value) (w:World),(Instr.makeFunc fn first cap).run Tryz.prog w= .ok (.func fn first cap) w:=fun _ _ _ _=>rfl
    have tb:=Turn.of_below (F:=fun _=>False) nk.out
    have EW:=ah nN.out tb id
    have Sq:=ah MN.out tb id
    have Sr:=ah HB1.out tb id
    have fI:=hid (HT1.out.trans tb (fun _ _ h=>h.elim))
    have hs5:=nk.out.size
    have hpp:CO w.heap.size (w.heap.size+1) nb (w.heap.size+2) bp w5:=⟨by omega,by omega,by omega,by omega,by omega,by omega,by omega,by omega⟩
    have hpi:ML w.heap.size (w.heap.size+1) nb (w.heap.size+2) bp t w5 []:=⟨_, _,EW,Sq,Sr,gD.nil _ _ _,fF.nil _ _ _ _ _ _⟩
    have hc5:=bG EW
    have J4:=hid (jl (iJ expr) (Sf.qK hse) 219 #[.pointer (some ⟨w.heap.size+1,0,none⟩), .pointer (some ⟨w.heap.size,0,none⟩)] (ML w.heap.size (w.heap.size+1) nb (w.heap.size+2) bp t) (fun k=>k=bp∨k=nb∨w.heap.size+2≤k) d w5 bp B ts (.inl rfl)
     (fun a b l tn h=>by obtain⟨x,y,h⟩:=h;exact⟨x,y,h.F5 tn (by omega) (by omega) (by omega) (by omega)⟩) (fun g h=> .inr (.inr (by omega)))
     (fun w1 r l hl hw hi hk=>CQ d expr yU w1 bp B _ _ _ _ t r l hl hk hi (hpp.size hw)) (fun _=>by kernel_rfl) (lN.out.below nk.out) hpi)
    clear tb EW Sq Sr hpi
    go_wp2_with fail
    refine(J4.out).mono ?_
    rintro e w6 h6
    rcases hq:iG (iJ expr) ts with g | ⟨l,r6⟩
    ·obtain⟨rfl,tn,bn⟩:=h6.bF hq
     have oq:=hid (fI.out.trans tn (fun i hi e=>by rcases e with e | e | e;exact .inl e;exact .inr e;omega))
     have bY:=hid (gK.out.symm.trans (aB hq))
     have nO:=hid bn
     clear h6 tn bn hq
     go_wp2_with fail
     exact⟨rfl,eB.fail bY.out oq.out nO.out⟩
    ·obtain⟨rfl,tn,⟨x1,x2,hI⟩,kn⟩:=h6.aL hq
     have lF:=hid (fI.out.trans tn (fun i hi e=>by rcases e with e | e | e;exact .inl e;exact .inr e;omega))
     have UO:=hid hI
     have uX:=hid kn
     have rD:Hid (Pr.good (aJ 8 [] 0 t [] (l.map (·.1)) (l.map (·.2))) r6=Q):=hid ((aj hq).symm.trans gK.out)
     clear h6 tn hI kn hq
     go_wp2_with fail
     go_end0
     obtain⟨xs,y1,y2⟩:=UO.out.kid.sl aT
     have kN:=dh.own UO.out.sI.row (F:=fun j=>w.heap.size≤j) (fun g hg=>by have:=(UO.out.sI.lt g hg).1;omega)
     exact eB.done rD.out.symm lF.out ⟨rfl, _,UO.out.blk, .mk (dh.nil _ _ _) .nil kN (y1.mono (fun g _ h=>by rcases h with h | h;omega;(have:=h.1;omega))) (jA (dB aT (fun g _ h=>by rcases h with h | h;omega;(have:=h.1;omega)) y2))⟩ uX.out
  ·have hkb:((aU ts).kind==1)=false:=by simpa using hkd
   have hc:c=false:=by have:=HC.out;rw [hkb]at this;exact this.symm
   subst hc
   have gK:Hid ((au (bJ expr [[]] []) fun k=>au (aH [119,105,116,104]) fun _=>au nameP fun s=>au (bJ expr [[58]] k) fun m=>aG (aJ 10 s 0 t [] [] m)) ts=Q):=hid fu.out.symm
   go_wp2_with fail
   refine(AQ.out).mono ?_
   rintro e w4 ⟨rfl,hb4⟩
   have o9:=hid (HB3.out.trans (hb4.mono HB3.out.size))
   clear hb4
   have tb:=Turn.of_below (F:=fun _=>False) o9.out
   have Kt:=hid (ah nN.out tb id)
   have Ku:=hid (ah MN.out tb id)
   have Kv:=hid (show w4.heap[nb]? =some (.cells #[.int .i64 8, .string ⟨#[]⟩, .int .i64 0, .int .i64 (t.line:Nat), .int .i64 (t.col:Nat), .slice none 0 0, .slice none 0 0, .slice none 0 0] 49 (0,0))from ah HB1.out tb id)
   have V5:=hid (HT1.out.trans tb (fun _ _ h=>h.elim))
   have V6:=hid (lN.out.below o9.out)
   have hsn:=o9.out.size
   have hcn:=bG Kt.out
   have hqn:=bG Ku.out
   obtain⟨b0,b1,b2,b3,b4,b5,b6,b7,bz⟩:=aN Kv.out
   have t5:=ak w4 nb 0 (.int .i64 10)
   have lQ:=hid (V6.out.turn t5 (by omega) (fun k hk e=>by omega))
   have fI:=hid (V5.out.trans t5 (fun _ _ h=> .inr h))
   have Pz:=hid (heap_setCell_same _ _ 0 _ _ (.int .i64 10) Kv.out)
   have Io:=hid (ah Kt.out t5 (by omega))
   have PE:=hid (ah Ku.out t5 (by omega))
   have hne1:¬nb=w.heap.size:=by omega
   have hne2:¬nb=w.heap.size+1:=by omega
   have hsc:(w4.setCell ⟨nb,0,none⟩ (.int .i64 10)).heap.size=w4.heap.size:=by simp
   have sV:=hid (iU d expr yU ((w4.setCell ⟨nb,0,none⟩ (.int .i64 10)).alloc (.cells #[.string ⟨#[]⟩] 9)) bp B nb (w.heap.size+2) (fun j=>w.heap.size+2≤j) ts (lQ.out.below (new1 _ _)) (.int .i64 10) (.string ⟨#[]⟩) (.int .i64 0) (.int .i64 (t.line:Nat)) (.int .i64 (t.col:Nat)) (.slice none 0 0) (.slice none 0 0) (.slice none 0 0) [] (bB Pz.out) (fF.nil _ _ _ _ _ _) (.slice (some ⟨(w4.setCell ⟨nb,0,none⟩ (.int .i64 10)).heap.size,0,none⟩) 1 1) [[]] ((iA (w4.setCell ⟨nb,0,none⟩ (.int .i64 10)) #[.string ⟨#[]⟩] 9 1 1 rfl (by decide)).mono (fun g _ h=>⟨by omega,by omega,fun e=>by cases e⟩)) (by decide) (by simp) (by omega) (by omega) (by simp;omega) (by omega) (by omega) (fun j hj=>by simp at hj;omega))
   rw [hsc]at sV
   clear tb t5
   go_wp2_with fail
   refine(sV.out).mono ?_
   rintro e w6 h6
   rcases hq:bJ expr [[]] [] ts with g | ⟨ks,r6⟩
   ·obtain⟨rfl,tn,bn⟩:=h6.bF hq
    have tn:=(bq tn).1
    have oq:=hid (fI.out.trans tn (fun i hi e=>by rcases e with e | e | e;exact .inl e;exact .inr e;cases e))
    have bY:=hid (gK.out.symm.trans (aB hq))
    have nO:=hid bn
    clear h6 tn bn hq
    go_wp2_with fail
    exact⟨rfl,eB.fail bY.out oq.out nO.out⟩
   ·obtain⟨rfl,tn,⟨v6,hb6,Gd⟩,kn⟩:=h6.aL hq
    have tk:=(bq tn).1
    have hs6:=tk.size
    have lF:=hid (fI.out.trans tk (fun i hi e=>by rcases e with e | e | e;exact .inl e;exact .inr e;cases e))
    have Kw:=hid (ah Io.out tk (fun e=>by rcases e with e | e | e;omega;omega;cases e))
    have PG:=hid (ah PE.out tk (fun e=>by rcases e with e | e | e;omega;omega;cases e))
    have PI:=hid hb6
    have AO:=hid Gd
    have uX:=hid kn
    have zm:=hid hq
    have rD:Hid ((au (aH [119,105,116,104]) fun _=>au nameP fun s=>au (bJ expr [[58]] ks) fun m=>aG (aJ 10 s 0 t [] [] m)) r6=Q):=hid ((aj hq).symm.trans gK.out)
    have hc6:=bG Kw.out
    have MK:=hid (dM w6 bp B r6 d kn [119,105,116,104] 9 w6.heap.size)
    clear h6 tn tk hb6 Gd kn hq
    go_wp2_with fail
    refine(MK.out).mono ?_
    rintro e w7 h7
    rcases hq:aH [119,105,116,104] r6 with g | ⟨u,r7⟩
    ·obtain⟨rfl,tn,bn⟩:=h7.bF hq
     have oq:=hid (lF.out.trans tn (fun _ _ h=> .inl h))
     have bY:=hid (rD.out.symm.trans (aB hq))
     have nO:=hid bn
     clear h7 tn bn hq
     go_wp2_with fail
     exact⟨rfl,eB.fail bY.out oq.out nO.out⟩
    ·obtain⟨v7,rfl,tn, -,kn⟩:=h7.aL hq
     have iL:=hid (lF.out.trans tn (fun _ _ h=> .inl h))
     have kP:=hid kn
     have hs7:=tn.size
     have yc:=hid (ah Kw.out tn (by omega))
     have Ky:=hid (ah PG.out tn (by omega))
     have Kz:=ah PI.out tn (by omega)
     have PU:=hid Kz
     have Sm:=hid (AO.out.turn aT tn (fun g hg e=>by have:=(AO.out.lt g hg).1;omega) (fun g _ hg e=>by omega))
     obtain⟨A6,q6,hv6, _, _⟩:=AO.out.shape
     subst hv6
     have vT:Hid ((au nameP fun s=>au (bJ expr [[58]] ks) fun m=>aG (aJ 10 s 0 t [] [] m)) r7=Q):=hid ((aj hq).symm.trans rD.out)
     have hx7:=bG yc.out
     have Sn:=bG Ky.out
     have PX:=hid (fun(w':World) (h:Turn (fun j=>j=bp) w7 w')=>aI hx7 h (by omega))
     have PQ:=hid (fun(w':World) (h:Turn (fun j=>j=bp) w7 w')=>aI Sn h (by omega))
     have oV:Hid (Turn (fun j=>j=bp) w7 w7.drew):=hid ⟨rfl,rfl,rfl,Nat.le_refl _,fun _ _ _=>rfl⟩
     have V8:=hid (eH w7.drew bp B r7 d kn)
     clear h7 tn kn hq Kz hx7 Sn
     go_wp2_with fail
     refine bM (S:=fun w'=>Turn (fun j=>j=bp) w7 w') (x:=7) (by kernel_rfl) ?_
     try simp only [Act.put,List.getElem_toArray,List.getElem_cons_zero,List.getElem_cons_succ,List.setIfInBounds_toArray,List.set_cons_zero,List.set_cons_succ]
     refine jW 0 (.pointer (some ⟨nb,0,none⟩)) PQ.out oV.out ?_
     refine jW 1 (.pointer (some ⟨bp,0,none⟩)) PX.out oV.out ?_
     refine tx 2 (.pointer (some ⟨bp,0,none⟩)) oV.out ?_
     refine tx 3 (.pointer (some ⟨bp,0,none⟩)) oV.out ?_
     refine ay (rs:=[4]) (by kernel_rfl) (by simp) ?_
     refine av.cons rfl (fun K hK=> ?_) (av.nil)
     go_simp
     refine(V8.out).mono ?_
     rintro e w8 h8
     rcases hq:nameP r7 with g | ⟨s,r8⟩
     ·obtain⟨rfl,tn,bn⟩:=h8.bF hq
      have bY:=hid (vT.out.symm.trans (aB hq))
      exact⟨rfl,eB.fail bY.out (iL.out.trans (aA oV.out tn) (fun _ _ h=> .inl h)) bn⟩
     ·obtain⟨v8,rfl,tn,rfl,kn⟩:=h8.aL hq
      have nS:=hid (aA oV.out tn)
      have uh:=nS.out.size
      have ES:=ah PU.out nS.out (by omega)
      have t9:=ak w8 nb 1 (sv s)
      have Bz:=hid (kn.turn t9 (by omega) (fun k hk e=>by omega))
      have xU:=hid ((iL.out.trans nS.out (fun _ _ h=> .inl h)).trans t9 (fun _ _ h=> .inr h))
      have KA:=hid (heap_setCell_same _ _ 1 _ _ (sv s) ES)
      have KC:=hid (ah (ah yc.out nS.out (by omega)) t9 (by omega))
      have KD:=hid (ah (ah Ky.out nS.out (by omega)) t9 (by omega))
      have tL:=Sm.out.turn aT nS.out (fun g hg e=>by have:=(Sm.out.lt g hg).1;omega) (fun g _ hg e=>by omega)
      have Kr:=hid (tL.turn aT t9 (fun g hg e=>by have:=(tL.lt g hg).1;omega) (fun g _ hg e=>by omega))
      have Jk:Hid ((au (bJ expr [[58]] ks) fun m=>aG (aJ 10 s 0 t [] [] m)) r8=Q):=hid ((aj hq).symm.trans vT.out)
      obtain⟨x0,x1,x2,x3,x4,x5,x6,x7,xz⟩:=aN ES
      clear h8 tn kn hq ES t9 tL
      refine hK.out _ _ nS.out ?_
      clear hK K
      try simp only [Act.put,List.getElem_toArray,List.getElem_cons_zero,List.getElem_cons_succ,List.setIfInBounds_toArray,List.set_cons_zero,List.set_cons_succ]
      refine tt 5 (.pointer (some ⟨nb,0,none⟩)) (fun _=>nS.out) ?_
      refine tx 6 (.pointer (some ⟨nb,1,none⟩)) nS.out ?_
      refine ay (rs:=[7]) (by kernel_rfl) (by simp) ?_
      refine av.past rfl (by kernel_rfl) (fun K hK=> ?_) (av.nil)
      go_simp
      refine hK.out _ _ ?_
      clear hK K
      try simp only [Act.put,List.getElem_toArray,List.getElem_cons_zero,List.getElem_cons_succ,List.setIfInBounds_toArray,List.set_cons_zero,List.set_cons_succ]
      refine aO (by kernel_rfl) ?_ _
      obtain⟨W9,MO⟩:∃W9,w8.setCell ⟨nb,1,none⟩ (sv s)=W9:=⟨_,rfl⟩
      have YK:w8.heap.size≤W9.heap.size:=by rw [←MO];simp
      rw [MO]at Bz xU KA KC KD Kr
      have oP:=hid MO
      have UM:=bG KC.out
      have MP:=bG KD.out
      have ET:=Kr.out.lt
      have hkn:=uF [[]] [] (zm.out)
      have zl:=hid ET
      have sV:=hid (iU d expr yU (W9.alloc (.cells #[.string ⟨#[58]⟩] 9)) bp B nb (w.heap.size+2) (fun j=>w.heap.size+2≤j) r8 (Bz.out.below (new1 _ _)) (.int .i64 10) (sv s) (.int .i64 0) (.int .i64 (t.line:Nat)) (.int .i64 (t.col:Nat)) (.slice none 0 0) (.slice none 0 0) (.slice A6 ks.length q6) ks (bB KA.out) (Kr.out.turn aT (Turn.alloc (fun _=>False) W9 (.cells #[.string ⟨#[58]⟩] 9)) (fun _ _=>id) (fun _ _ _=>id)) (.slice (some ⟨W9.heap.size,0,none⟩) 1 1) [[58]] ((iA W9 #[.string ⟨#[58]⟩] 9 1 1 rfl (by decide)).mono (fun g _ h=>⟨by omega,by omega,fun e=>by have:=(ET _ e).2;omega⟩)) (by decide) (by simp at hkn;omega) (by omega) (by omega) (by simp;omega) (by omega) (by omega) (fun j hj=>by simp at hj;omega))
      clear MO ET hkn x0 x1 x2 x3 x4 x5 x6 x7 xz
      rw [oP.out]
      go_wp2_with fail
      refine(sV.out).mono ?_
      rintro e oC h10
      rcases hq:bJ expr [[58]] ks r8 with g | ⟨ms,oh⟩
      ·obtain⟨rfl,tn,bn⟩:=h10.bF hq
       have tn:=(bq tn).1
       have oq:=hid (xU.out.trans tn (fun i hi e=>by rcases e with e | e | e;exact .inl e;exact .inr e;(have:=(zl.out _ e).1;omega)))
       have bY:=hid (Jk.out.symm.trans (aB hq))
       have nO:=hid bn
       clear h10 tn bn hq
       go_wp2_with fail
       exact⟨rfl,eB.fail bY.out oq.out nO.out⟩
      ·obtain⟨rfl,tn,⟨v10,vY,KE⟩,kn⟩:=h10.aL hq
       have EU:=hid (xU.out.trans (bq tn).1 (fun i hi e=>by rcases e with e | e | e;exact .inl e;exact .inr e;(have:=(zl.out _ e).1;omega)))
       have Ip:=hid vY
       have V9:=hid KE
       have Rc:=hid kn
       have Jh:Hid (Pr.good (aJ 10 s 0 t [] [] ms) oh=Q):=hid ((aj hq).symm.trans Jk.out)
       clear h10 tn vY KE kn hq
       go_wp2_with fail
       go_end0
       obtain⟨xs,y1,y2⟩:=V9.out.sl aT
       exact eB.done Jh.out.symm EU.out ⟨rfl, _,Ip.out, .mk (dh.nil _ _ _) .nil (dh.nil _ _ _) (y1.mono (fun g _ h=>by rcases h with h | h <;> omega)) (jA (dB aT (fun g _ h=>by rcases h with h | h <;> omega) y2))⟩ Rc.out
 ·have gU:Hid (Q=Pr.good (aJ 8 [] 0 t [] [] []) ts):=hid (HQ.out.symm.trans (by unfold rX au jF;simp only [hq,if_true];rfl))
  have Vy:=hid (ah HB1.out (Turn.of_below (F:=fun _=>False) HB3.out) id)
  go_wp2_with fail
  go_end0
  exact eB.done gU.out (HT1.out.trans (Turn.of_below (F:=fun k=>k=bp∨k=nb) HB3.out) (fun _ _ h=>h)) ⟨rfl, _,Vy.out, .mk (dh.nil _ _ _) .nil (dh.nil _ _ _) (dh.nil _ _ _) .nil⟩ (lN.out.below HB3.out)
end Go.Proofs.YtmbppnbekkbibaaGreatDoor
end
section
set_option linter.unusedVariables false
namespace Go.Proofs.YtmbppnbekkbibaaGreatDoor
open Go.RowKit
set_option maxRecDepth 100000 in
set_option maxHeartbeats 8000000 in
theorem Iq (d:Int) (h0:0≤d) (h1:d<100) (typ:Ps bO) (expr unary:Ps bD) (hst:Sf typ) (qR:sH (d+1) typ) (yU:sN (d+1) expr) (HR:mZ (d+1) 0 (gG typ unary 6)):sN d (nX typ expr unary):=by
 intro w bp B ts h
 have hlt:=h.lt
 have hB:=h.1
 obtain⟨Q,hQ⟩:∃Q,nX typ expr unary ts=Q:=⟨_,rfl⟩
 rw [hQ]
 obtain⟨t0,ht0⟩:∃t0,aU ts=t0:=⟨_,rfl⟩
 have HQ:Hid (au (bS [[108,101,116],[105,102],[102,110]]) (fun i=>match i with
  | none=>gG typ unary 6
  | some 0=>au nameP fun s=>au (gY typ [] []) fun t=>au (bJ expr [[61],[59]] []) fun k=>aG (aJ 5 s 0 t0 t [] k)
  | some 1=>au (bJ expr [[],[116,104,101,110],[101,108,115,101]] []) fun k=>aG (aJ 11 [] 0 t0 [] [] k)
  | some _=>au (jE typ []) fun s=>au (bJ expr [[61,62]] []) fun k=>aG (aJ 6 s.1 0 t0 s.2 [] k)) ts=Q):=hid (by subst ht0;exact hQ)
 have HE:=hid (tZ (w.alloc (.cells #[.int .i64 0, .string ⟨#[]⟩, .int .i64 0, .int .i64 0, .int .i64 0, .slice none 0 0, .slice none 0 0, .slice none 0 0] 49)) bp B ts d (h.below (new1 _ _)) h0 h1)
 clear h hQ
 go_enter_defers Tryz.func49,Tryz.ntmps49
 go_wp2_with fail
 refine(HE.out).mono ?_
 rintro e w1 ⟨rfl,tn,hbx,hk⟩
 obtain⟨tm,hsz,hrs⟩:=bq tn
 simp at hbx
 have hxb:=World.block_lt_of_cell? _ _ hbx
 simp at hxb
 have lS:=hid (hrs (by omega))
 have HT1:=hid tm
 have lN:=hid hk
 have nN:=hid hbx
 have HH:=hid (mX (d+1) w1 bp B ts hk 0)
 rw [ht0]at HH
 clear tn tm hrs hk hbx ht0
 go_wp2_with fail
 refine(HH.out).mono ?_
 rintro e w2 ⟨rfl,hb2⟩
 have hs2:=hb2.size
 have t2:=Turn.of_below (F:=fun k=>k=bp) hb2
 have HT2:=hid (aA HT1.out t2)
 have jV:=hid (lN.out.below hb2)
 have EF:=hid (aI nN.out t2 (by omega))
 have sQ:=hid (ah lS.out t2 (by omega))
 have HC:=hid (kY (w2.alloc (.cells (mW 0 t0) 49)) bp B ts (d+1) (jV.out.below (new1 _ _)) [[108,101,116],[105,102],[102,110]] #[.string ⟨#[108,101,116]⟩, .string ⟨#[105,102]⟩, .string ⟨#[102,110]⟩] 9 3 (w2.heap.size+1))
 clear hb2 t2
 go_wp2_with fail
 refine(HC.out).mono ?_
 rintro e w3 h3
 rcases hq:bS [[108,101,116],[105,102],[102,110]] ts with g | ⟨o,r3⟩
 ·exact(fG hq).elim
 ·obtain⟨v3,rfl,tn,rfl,kn⟩:=h3.aL hq
  obtain⟨tm,hs3,hnb⟩:=bq tn
  have HT3:=hid (aA HT2.out tm)
  have jm:=hid kn
  have oW:=hid (aI EF.out tm (by omega))
  have iR:=hid (ah sQ.out tm (by omega))
  have sS:=hnb (by omega)
  have kG:=hid sS
  have gU:=hid hq
  have Ph:¬w2.heap.size=w.heap.size:=by omega
  have Pj:¬w.heap.size=w2.heap.size:=by omega
  obtain⟨m0,m1,m2,m3,m4,m5,m6,m7,mz⟩:=aN sS
  clear h3 tn tm kn hnb hq sS
  rcases o with _ | i
  ·have fu:Hid (gG typ unary 6 r3=Q):=hid ((aj gU.out).symm.trans HQ.out)
   have HP:=hid (HR w3 bp B r3 jm.out)
   go_wp2_with fail
   refine(HP.out).mono ?_
   rintro e w4 h4
   rcases hq:gG typ unary 6 r3 with g | ⟨x,r4⟩
   ·obtain⟨rfl,tn,bn⟩:=h4.bF hq
    have oq:=hid (aA HT3.out tn)
    have bY:=hid (fu.out.symm.trans hq)
    have hxo:=aI oW.out tn (by omega)
    have nO:=hid bn
    clear h4 tn bn hq
    go_wp2_with fail
    exact iB nO.out hxo oq.out bY.out
   ·obtain⟨v4,rfl,tn,⟨z4,rfl,hz⟩,kn⟩:=h4.aL hq
    obtain⟨k4,s4,n4,l4,o4,lI,n14,c14,lJ,n24,c24,nQ,n34,c34,rfl⟩:=hz.shape'
    have hs4:=tn.size
    have fM:=hid (aA HT3.out tn)
    have jB:=hid kn
    have ru:=hid (aI oW.out tn (by omega))
    have ig:=hid (ah iR.out tn (by omega))
    have vU:=hid hz.iv
    have gK:=hid (fu.out.symm.trans hq)
    obtain⟨c0,c1,c2,c3,c4,c5,c6,c7,cz⟩:=aN ig.out
    clear h4 tn hz kn hq
    go_wp2_with fail
    have tF:=aY w4 w.heap.size (.int .i64 k4) (sv s4) (.int .i64 n4) (.int .i64 l4) (.int .i64 o4) (.slice lI n14 c14) (.slice lJ n24 c24) (.slice nQ n34 c34)
    exact gJ (fun w9 t9=>aW rfl rfl (ah (aP ig.out _ _ _ _ _ _ _ _) t9 (by omega)) Tryz.underlying49 rfl (by kernel_rfl)) (jB.out.eY (by omega)) h0 h1 (aI ru.out tF (by omega)) (bC fM.out (by omega)) gK.out
     (fun w9 t9=>⟨[.int .i64 k4,sv s4, .int .i64 n4, .int .i64 l4, .int .i64 o4, .slice lI n14 c14, .slice lJ n24 c24, .slice nQ n34 c34],rfl,((vU.out.turn tF (fun g _ h e=>by have:=h.1;omega)).turn t9 (fun g _ h e=>by have:=h.1;omega)).mono (fun g _ h=>by have:=h.1;omega)⟩)
  ·have hi:=jN gU.out
   simp only [List.length_cons,List.length_nil]at hi
   obtain rfl | rfl | rfl:i=0∨i=1∨i=2:=by omega
   ·have fu:Hid (au nameP (fun s=>au (gY typ [] []) fun t=>au (bJ expr [[61],[59]] []) fun k=>aG (aJ 5 s 0 t0 t [] k)) r3=Q):=hid ((aj gU.out).symm.trans HQ.out)
    have HN:=hid (eH w3 bp B r3 (d+1) jm.out)
    go_wp2_with fail
    refine(HN.out).mono ?_
    rintro e w4 h4
    rcases hq:nameP r3 with g | ⟨s,r4⟩
    ·obtain⟨rfl,tn,bn⟩:=h4.bF hq
     have oq:=hid (aA HT3.out tn)
     have bY:=hid (fu.out.symm.trans (aB hq))
     have hxo:=aI oW.out tn (by omega)
     have nO:=hid bn
     clear h4 tn bn hq
     go_wp2_with fail
     exact iB nO.out hxo oq.out bY.out
    ·obtain⟨v4,rfl,tn,rfl,kn⟩:=h4.aL hq
     have hs4:=tn.size
     have oZ:=ah kG.out tn (by omega)
     have t5:=(ak w4 w2.heap.size 0 (.int .i64 5)).trans (ak _ w2.heap.size 1 (sv s)) (fun _ _ h=>h)
     have lU:=hid (heap_setCell_same _ _ 1 _ _ (sv s) (heap_setCell_same _ _ 0 _ _ (.int .i64 5) oZ))
     have lQ:=hid (kn.turn t5 (by omega) (fun k hk e=>by have:=jm.out.1;omega))
     have fI:=hid ((aA HT3.out tn).trans t5 (fun i hi e=>by omega))
     have Io:=hid (aI (aI oW.out tn (by omega)) t5 (by omega))
     have iw:=hid (ah (ah iR.out tn (by omega)) t5 (by omega))
     have hs5:=t5.size
     have gK:Hid (au (gY typ [] []) (fun t=>au (bJ expr [[61],[59]] []) fun k=>aG (aJ 5 s 0 t0 t [] k)) r4=Q):=hid ((aj hq).symm.trans fu.out)
     have HNT:=hid (uq (d+1) typ qR hst _ bp B (w2.heap.size+1) r4 lQ.out (.slice none 0 0) (.slice none 0 0) [] [] [] (fF.nil _ _ _ _ _ _) (dh.nil _ _ _) .nil (by simp) (by simp) (by omega) (by omega))
     obtain⟨n0,n1,n2,n3,n4,n5,n6,n7,nz⟩:=aN oZ
     clear h4 tn kn hq oZ t5
     go_wp2_with fail
     refine(HNT.out).mono ?_
     rintro e w6 h6
     rcases hq:gY typ [] [] r4 with g | ⟨lt,r6⟩
     ·obtain⟨rfl,tn,bn⟩:=h6.bF hq
      have tn:=tn.mono (G:=fun k=>k=bp) (fun k _ h=>by rcases h with h | h;exact h;cases h)
      have oq:=hid (aA fI.out tn)
      have bY:=hid (gK.out.symm.trans (aB hq))
      have hxo:=aI Io.out tn (by omega)
      have nO:=hid bn
      clear h6 tn bn hq
      go_wp2_with fail
      exact iB nO.out hxo oq.out bY.out
     ·obtain⟨v6,rfl,tn,Gd,kn⟩:=h6.aL hq
      have tn:=tn.mono (G:=fun k=>k=bp) (fun k _ h=>by rcases h with h | h;exact h;cases h)
      have hs6:=tn.size
      obtain⟨A6,cq,hv6, _, _⟩:=Gd.shape
      subst hv6
      have zk:=ah lU.out tn (by omega)
      have t7:=ak w6 w2.heap.size 5 (.slice A6 lt.length cq)
      have Kl:=hid (show(w6.setCell ⟨w2.heap.size,5,none⟩ (.slice A6 lt.length cq)).heap[w2.heap.size]? =some (.cells #[.int .i64 5,sv s, .int .i64 0, .int .i64 (t0.line:Nat), .int .i64 (t0.col:Nat), .slice A6 lt.length cq, .slice none 0 0, .slice none 0 0] 49 (0,0))from heap_setCell_same _ _ 5 _ _ (.slice A6 lt.length cq) zk)
      have kP:=hid (kn.turn t7 (by omega) (fun k hk e=>by have:=jm.out.1;omega))
      have iL:=hid ((aA fI.out tn).trans t7 (fun i hi e=>by omega))
      have yc:=hid (aI (aI Io.out tn (by omega)) t7 (by omega))
      have qW:=hid (ah (ah iw.out tn (by omega)) t7 (by omega))
      have KF:=hid (Gd.turn aX t7 (fun g hg e=>by have:=(Gd.lt g hg).1;omega) (fun g _ hg e=>by omega))
      have hs7:=t7.size
      have vT:Hid (au (bJ expr [[61],[59]] []) (fun k=>aG (aJ 5 s 0 t0 lt [] k)) r6=Q):=hid ((aj hq).symm.trans gK.out)
      obtain⟨n0,n1,n2,n3,n4,n5,n6,n7,nz⟩:=aN (show w6.heap[w2.heap.size]? =some (.cells #[.int .i64 5,sv s, .int .i64 0, .int .i64 (t0.line:Nat), .int .i64 (t0.col:Nat), .slice none 0 0, .slice none 0 0, .slice none 0 0] 49 (0,0))from zk)
      clear h6 tn Gd kn hq zk t7
      have hsc:(w6.setCell ⟨w2.heap.size,5,none⟩ (.slice A6 lt.length cq)).heap.size=w6.heap.size:=by simp
      have sV:=hid (iU (d+1) expr yU ((w6.setCell ⟨w2.heap.size,5,none⟩ (.slice A6 lt.length cq)).alloc (.cells #[.string ⟨#[61]⟩, .string ⟨#[59]⟩] 9)) bp B w2.heap.size (w2.heap.size+1) (fun j=>w2.heap.size+1≤j) r6 (kP.out.below (new1 _ _)) (.int .i64 5) (sv s) (.int .i64 0) (.int .i64 (t0.line:Nat)) (.int .i64 (t0.col:Nat)) (.slice A6 lt.length cq) (.slice none 0 0) (.slice none 0 0) [] (bB Kl.out) (fF.nil _ _ _ _ _ _) (.slice (some ⟨(w6.setCell ⟨w2.heap.size,5,none⟩ (.slice A6 lt.length cq)).heap.size,0,none⟩) 2 2) [[61],[59]] ((iA (w6.setCell ⟨w2.heap.size,5,none⟩ (.slice A6 lt.length cq)) #[.string ⟨#[61]⟩, .string ⟨#[59]⟩] 9 1 2 rfl (by decide)).mono (fun g _ h=>⟨by omega,by omega,fun e=>by cases e⟩)) (by decide) (by simp) (by omega) (by omega) (by simp;omega) (by omega) (by omega) (fun j hj=>by simp at hj;omega))
      rw [hsc]at sV
      go_wp2_with fail
      refine(sV.out).mono ?_
      rintro e w8 h8
      rcases hq:bJ expr [[61],[59]] [] r6 with g | ⟨ks,r8⟩
      ·obtain⟨rfl,tn,bn⟩:=h8.bF hq
       have tn:=(bq tn).1
       have hxo:=aI yc.out tn (fun e=>by rcases e with e | e | e;omega;omega;cases e)
       have oq:=hid (iL.out.trans tn (fun i hi e=>by rcases e with e | e | e;exact e;omega;cases e))
       have bY:=hid (vT.out.symm.trans (aB hq))
       have nO:=hid bn
       clear h8 tn bn hq
       go_wp2_with fail
       exact iB nO.out hxo oq.out bY.out
      ·obtain⟨rfl,tn,⟨vk,mD,tL⟩,kn⟩:=h8.aL hq
       have tk:=(bq tn).1
       have uh:=tk.size
       have lH:=hid (iL.out.trans tk (fun i hi e=>by rcases e with e | e | e;exact e;omega;cases e))
       have o8:=hid (aI yc.out tk (fun e=>by rcases e with e | e | e;omega;omega;cases e))
       have iV:=hid (ah qW.out tk (fun e=>by rcases e with e | e | e;omega;omega;cases e))
       have qw:=hid kn
       have NS:=hid tL
       have YL:=hid mD
       have PV:=hid (KF.out.turn aX tk (fun g hg e=>by have:=(KF.out.lt g hg).1;rcases e with e | e | e;omega;omega;cases e) (fun g _ hg e=>by rcases e with e | e | e;omega;omega;cases e))
       obtain⟨yst,y1,y2⟩:=PV.out.sl aX
       have Sv:=hid y1
       have Sw:=hid y2
       clear y1 y2
       have L8:Hid (Pr.good (aJ 5 s 0 t0 lt [] ks) r8=Q):=hid ((aj hq).symm.trans vT.out)
       obtain⟨A8,c8,PW, _, _⟩:=tL.shape
       subst PW
       obtain⟨f0,f1,f2,f3,f4,f5,f6,f7,fz⟩:=aN mD
       obtain⟨c0,c1,c2,c3,c4,c5,c6,c7,cz⟩:=aN iV.out
       clear h8 tn tk mD tL kn hq
       go_wp2_with fail
       have tF:=aY w8 w.heap.size (.int .i64 5) (sv s) (.int .i64 0) (.int .i64 (t0.line:Nat)) (.int .i64 (t0.col:Nat)) (.slice A6 lt.length cq) (.slice none 0 0) (.slice A8 ks.length c8)
       obtain⟨xs,q1,q2⟩:=NS.out.sl aT
       exact gJ (fun w9 t9=>aW rfl rfl (ah (aP iV.out _ _ _ _ _ _ _ _) t9 (by omega)) Tryz.underlying49 rfl (by kernel_rfl)) (qw.out.eY (by omega)) h0 h1 (aI o8.out tF (by omega)) (bC lH.out (by omega)) L8.out.symm
        (fun w9 t9=>⟨_,rfl, .mk (((Sv.out.turn tF (fun g _ h e=>by rcases h with h | h <;> omega)).turn t9 (fun g _ h e=>by rcases h with h | h <;> omega)).mono (fun g _ h=>by rcases h with h | h <;> omega)) (nK (dB aX (fun g _ h=>by rcases h with h | h <;> omega) (bA aX t9 (fun g _ h e=>by rcases h with h | h <;> omega) (bA aX tF (fun g _ h e=>by rcases h with h | h <;> omega) Sw.out)))) (dh.nil _ _ _) (((q1.turn tF (fun g _ h e=>by rcases h with h | h <;> omega)).turn t9 (fun g _ h e=>by rcases h with h | h <;> omega)).mono (fun g _ h=>by rcases h with h | h <;> omega)) (jA (dB aT (fun g _ h=>by rcases h with h | h <;> omega) (bA aT t9 (fun g _ h e=>by rcases h with h | h <;> omega) (bA aT tF (fun g _ h e=>by rcases h with h | h <;> omega) q2))))⟩)
   ·have fu:Hid (au (bJ expr [[],[116,104,101,110],[101,108,115,101]] []) (fun k=>aG (aJ 11 [] 0 t0 [] [] k)) r3=Q):=hid ((aj gU.out).symm.trans HQ.out)
    have t4:=ak w3 w2.heap.size 0 (.int .i64 11)
    have jB:=hid (jm.out.turn t4 (by omega) (fun k hk e=>by have:=jm.out.1;omega))
    have fM:=hid (HT3.out.trans t4 (fun i hi e=>by omega))
    have ru:=hid (aI oW.out t4 (by omega))
    have ig:=hid (ah iR.out t4 (by omega))
    have lT:=hid (heap_setCell_same _ _ 0 _ _ (.int .i64 11) kG.out)
    clear t4
    have hsc:(w3.setCell ⟨w2.heap.size,0,none⟩ (.int .i64 11)).heap.size=w3.heap.size:=by simp
    have sV:=hid (iU (d+1) expr yU ((w3.setCell ⟨w2.heap.size,0,none⟩ (.int .i64 11)).alloc (.cells #[.string ⟨#[]⟩, .string ⟨#[116,104,101,110]⟩, .string ⟨#[101,108,115,101]⟩] 9)) bp B w2.heap.size (w2.heap.size+1) (fun j=>w2.heap.size+1≤j) r3 (jB.out.below (new1 _ _)) (.int .i64 11) (.string ⟨#[]⟩) (.int .i64 0) (.int .i64 (t0.line:Nat)) (.int .i64 (t0.col:Nat)) (.slice none 0 0) (.slice none 0 0) (.slice none 0 0) [] (bB lT.out) (fF.nil _ _ _ _ _ _) (.slice (some ⟨(w3.setCell ⟨w2.heap.size,0,none⟩ (.int .i64 11)).heap.size,0,none⟩) 3 3) [[],[116,104,101,110],[101,108,115,101]] ((iA (w3.setCell ⟨w2.heap.size,0,none⟩ (.int .i64 11)) #[.string ⟨#[]⟩, .string ⟨#[116,104,101,110]⟩, .string ⟨#[101,108,115,101]⟩] 9 1 3 rfl (by decide)).mono (fun g _ h=>⟨by omega,by omega,fun e=>by cases e⟩)) (by decide) (by simp) (by omega) (by omega) (by simp;omega) (by omega) (by omega) (fun j hj=>by simp at hj;omega))
    rw [hsc]at sV
    go_wp2_with fail
    refine(sV.out).mono ?_
    rintro e w8 h8
    rcases hq:bJ expr [[],[116,104,101,110],[101,108,115,101]] [] r3 with g | ⟨ks,r8⟩
    ·obtain⟨rfl,tn,bn⟩:=h8.bF hq
     have tn:=(bq tn).1
     have hxo:=aI ru.out tn (fun e=>by rcases e with e | e | e;omega;omega;cases e)
     have oq:=hid (fM.out.trans tn (fun i hi e=>by rcases e with e | e | e;exact e;omega;cases e))
     have bY:=hid (fu.out.symm.trans (aB hq))
     have nO:=hid bn
     clear h8 tn bn hq
     go_wp2_with fail
     exact iB nO.out hxo oq.out bY.out
    ·obtain⟨rfl,tn,⟨vk,mD,tL⟩,kn⟩:=h8.aL hq
     have tk:=(bq tn).1
     have uh:=tk.size
     have lH:=hid (fM.out.trans tk (fun i hi e=>by rcases e with e | e | e;exact e;omega;cases e))
     have o8:=hid (aI ru.out tk (fun e=>by rcases e with e | e | e;omega;omega;cases e))
     have iV:=hid (ah ig.out tk (fun e=>by rcases e with e | e | e;omega;omega;cases e))
     have qw:=hid kn
     have NS:=hid tL
     have YL:=hid mD
     skip
     have L8:Hid (Pr.good (aJ 11 [] 0 t0 [] [] ks) r8=Q):=hid ((aj hq).symm.trans fu.out)
     obtain⟨A8,c8,PW, _, _⟩:=tL.shape
     subst PW
     obtain⟨f0,f1,f2,f3,f4,f5,f6,f7,fz⟩:=aN mD
     obtain⟨c0,c1,c2,c3,c4,c5,c6,c7,cz⟩:=aN iV.out
     clear h8 tn tk mD tL kn hq
     go_wp2_with fail
     have tF:=aY w8 w.heap.size (.int .i64 11) (.string ⟨#[]⟩) (.int .i64 0) (.int .i64 (t0.line:Nat)) (.int .i64 (t0.col:Nat)) (.slice none 0 0) (.slice none 0 0) (.slice A8 ks.length c8)
     obtain⟨xs,q1,q2⟩:=NS.out.sl aT
     exact gJ (fun w9 t9=>aW rfl rfl (ah (aP iV.out _ _ _ _ _ _ _ _) t9 (by omega)) Tryz.underlying49 rfl (by kernel_rfl)) (qw.out.eY (by omega)) h0 h1 (aI o8.out tF (by omega)) (bC lH.out (by omega)) L8.out.symm
      (fun w9 t9=>⟨_,rfl, .mk (dh.nil _ _ _) .nil (dh.nil _ _ _) (((q1.turn tF (fun g _ h e=>by rcases h with h | h <;> omega)).turn t9 (fun g _ h e=>by rcases h with h | h <;> omega)).mono (fun g _ h=>by rcases h with h | h <;> omega)) (jA (dB aT (fun g _ h=>by rcases h with h | h <;> omega) (bA aT t9 (fun g _ h e=>by rcases h with h | h <;> omega) (bA aT tF (fun g _ h e=>by rcases h with h | h <;> omega) q2))))⟩)
   ·have fu:Hid (au (jE typ []) (fun s=>au (bJ expr [[61,62]] []) fun k=>aG (aJ 6 s.1 0 t0 s.2 [] k)) r3=Q):=hid ((aj gU.out).symm.trans HQ.out)
    have t4:=ak w3 w2.heap.size 0 (.int .i64 6)
    have jB:=hid (jm.out.turn t4 (by omega) (fun k hk e=>by have:=jm.out.1;omega))
    have fM:=hid (HT3.out.trans t4 (fun i hi e=>by omega))
    have ru:=hid (aI oW.out t4 (by omega))
    have ig:=hid (ah iR.out t4 (by omega))
    have lT:=hid (heap_setCell_same _ _ 0 _ _ (.int .i64 6) kG.out)
    have hs4:=t4.size
    have HHD:=hid (Cx (d+1) typ qR hst (w3.setCell ⟨w2.heap.size,0,none⟩ (.int .i64 6)) bp B r3 jB.out (.slice none 0 0) [] [] (dh.nil _ _ _) (fun _ _=> .nil) (by simp))
    clear t4
    go_wp2_with fail
    refine(HHD.out).mono ?_
    rintro e w5 h5
    rcases hq:jE typ [] r3 with g | ⟨x5,r5⟩
    ·obtain⟨rfl,tn,bn⟩:=h5.bF hq
     have oq:=hid (aA fM.out tn)
     have bY:=hid (fu.out.symm.trans (aB hq))
     have hxo:=aI ru.out tn (by omega)
     have nO:=hid bn
     clear h5 tn bn hq
     go_wp2_with fail
     exact iB nO.out hxo oq.out bY.out
    ·obtain⟨v5,rfl,tn,⟨u5,rfl,F8⟩,kn⟩:=h5.aL hq
     obtain⟨s5,l5⟩:=x5
     simp only at F8
     have F8:O4 w3.heap.size w5 u5 l5:=by simpa using F8
     have hs5:=tn.size
     obtain⟨A6,cq,hv6, _, _⟩:=F8.shape
     subst hv6
     have kH:=ah lT.out tn (by omega)
     have t7:=(ak w5 w2.heap.size 1 (sv s5)).trans (ak _ w2.heap.size 5 (.slice A6 l5.length cq)) (fun _ _ h=>h)
     have Kl:=hid (show((w5.setCell ⟨w2.heap.size,1,none⟩ (sv s5)).setCell ⟨w2.heap.size,5,none⟩ (.slice A6 l5.length cq)).heap[w2.heap.size]? =some (.cells #[.int .i64 6,sv s5, .int .i64 0, .int .i64 (t0.line:Nat), .int .i64 (t0.col:Nat), .slice A6 l5.length cq, .slice none 0 0, .slice none 0 0] 49 (0,0))from heap_setCell_same _ _ 5 _ _ (.slice A6 l5.length cq) (heap_setCell_same _ _ 1 _ _ (sv s5) kH))
     have kP:=hid (kn.turn t7 (by omega) (fun k hk e=>by have:=jm.out.1;omega))
     have iL:=hid ((aA fM.out tn).trans t7 (fun i hi e=>by omega))
     have yc:=hid (aI (aI ru.out tn (by omega)) t7 (by omega))
     have qW:=hid (ah (ah ig.out tn (by omega)) t7 (by omega))
     have KF:=hid (F8.turn aX t7 (fun g hg e=>by have:=(F8.lt g hg).1;omega) (fun g _ hg e=>by omega))
     have hs7:=t7.size
     have vT:Hid (au (bJ expr [[61,62]] []) (fun k=>aG (aJ 6 s5 0 t0 l5 [] k)) r5=Q):=hid ((aj hq).symm.trans fu.out)
     obtain⟨n0,n1,n2,n3,n4,n5,n6,n7,nz⟩:=aN (show w5.heap[w2.heap.size]? =some (.cells #[.int .i64 6, .string ⟨#[]⟩, .int .i64 0, .int .i64 (t0.line:Nat), .int .i64 (t0.col:Nat), .slice none 0 0, .slice none 0 0, .slice none 0 0] 49 (0,0))from kH)
     clear h5 tn F8 kn hq kH t7
     have hsc:((w5.setCell ⟨w2.heap.size,1,none⟩ (sv s5)).setCell ⟨w2.heap.size,5,none⟩ (.slice A6 l5.length cq)).heap.size=w5.heap.size:=by simp
     have sV:=hid (iU (d+1) expr yU (((w5.setCell ⟨w2.heap.size,1,none⟩ (sv s5)).setCell ⟨w2.heap.size,5,none⟩ (.slice A6 l5.length cq)).alloc (.cells #[.string ⟨#[61,62]⟩] 9)) bp B w2.heap.size (w2.heap.size+1) (fun j=>w2.heap.size+1≤j) r5 (kP.out.below (new1 _ _)) (.int .i64 6) (sv s5) (.int .i64 0) (.int .i64 (t0.line:Nat)) (.int .i64 (t0.col:Nat)) (.slice A6 l5.length cq) (.slice none 0 0) (.slice none 0 0) [] (bB Kl.out) (fF.nil _ _ _ _ _ _) (.slice (some ⟨((w5.setCell ⟨w2.heap.size,1,none⟩ (sv s5)).setCell ⟨w2.heap.size,5,none⟩ (.slice A6 l5.length cq)).heap.size,0,none⟩) 1 1) [[61,62]] ((iA ((w5.setCell ⟨w2.heap.size,1,none⟩ (sv s5)).setCell ⟨w2.heap.size,5,none⟩ (.slice A6 l5.length cq)) #[.string ⟨#[61,62]⟩] 9 1 1 rfl (by decide)).mono (fun g _ h=>⟨by omega,by omega,fun e=>by cases e⟩)) (by decide) (by simp) (by omega) (by omega) (by simp;omega) (by omega) (by omega) (fun j hj=>by simp at hj;omega))
     rw [hsc]at sV
     go_wp2_with fail
     refine(sV.out).mono ?_
     rintro e w8 h8
     rcases hq:bJ expr [[61,62]] [] r5 with g | ⟨ks,r8⟩
     ·obtain⟨rfl,tn,bn⟩:=h8.bF hq
      have tn:=(bq tn).1
      have hxo:=aI yc.out tn (fun e=>by rcases e with e | e | e;omega;omega;cases e)
      have oq:=hid (iL.out.trans tn (fun i hi e=>by rcases e with e | e | e;exact e;omega;cases e))
      have bY:=hid (vT.out.symm.trans (aB hq))
      have nO:=hid bn
      clear h8 tn bn hq
      go_wp2_with fail
      exact iB nO.out hxo oq.out bY.out
     ·obtain⟨rfl,tn,⟨vk,mD,tL⟩,kn⟩:=h8.aL hq
      have tk:=(bq tn).1
      have uh:=tk.size
      have lH:=hid (iL.out.trans tk (fun i hi e=>by rcases e with e | e | e;exact e;omega;cases e))
      have o8:=hid (aI yc.out tk (fun e=>by rcases e with e | e | e;omega;omega;cases e))
      have iV:=hid (ah qW.out tk (fun e=>by rcases e with e | e | e;omega;omega;cases e))
      have qw:=hid kn
      have NS:=hid tL
      have YL:=hid mD
      have PV:=hid (KF.out.turn aX tk (fun g hg e=>by have:=(KF.out.lt g hg).1;rcases e with e | e | e;omega;omega;cases e) (fun g _ hg e=>by rcases e with e | e | e;omega;omega;cases e))
      obtain⟨yst,y1,y2⟩:=PV.out.sl aX
      have Sv:=hid y1
      have Sw:=hid y2
      clear y1 y2
      have L8:Hid (Pr.good (aJ 6 s5 0 t0 l5 [] ks) r8=Q):=hid ((aj hq).symm.trans vT.out)
      obtain⟨A8,c8,PW, _, _⟩:=tL.shape
      subst PW
      obtain⟨f0,f1,f2,f3,f4,f5,f6,f7,fz⟩:=aN mD
      obtain⟨c0,c1,c2,c3,c4,c5,c6,c7,cz⟩:=aN iV.out
      clear h8 tn tk mD tL kn hq
      go_wp2_with fail
      have tF:=aY w8 w.heap.size (.int .i64 6) (sv s5) (.int .i64 0) (.int .i64 (t0.line:Nat)) (.int .i64 (t0.col:Nat)) (.slice A6 l5.length cq) (.slice none 0 0) (.slice A8 ks.length c8)
      obtain⟨xs,q1,q2⟩:=NS.out.sl aT
      exact gJ (fun w9 t9=>aW rfl rfl (ah (aP iV.out _ _ _ _ _ _ _ _) t9 (by omega)) Tryz.underlying49 rfl (by kernel_rfl)) (qw.out.eY (by omega)) h0 h1 (aI o8.out tF (by omega)) (bC lH.out (by omega)) L8.out.symm
       (fun w9 t9=>⟨_,rfl, .mk (((Sv.out.turn tF (fun g _ h e=>by rcases h with h | h <;> omega)).turn t9 (fun g _ h e=>by rcases h with h | h <;> omega)).mono (fun g _ h=>by rcases h with h | h <;> omega)) (nK (dB aX (fun g _ h=>by rcases h with h | h <;> omega) (bA aX t9 (fun g _ h e=>by rcases h with h | h <;> omega) (bA aX tF (fun g _ h e=>by rcases h with h | h <;> omega) Sw.out)))) (dh.nil _ _ _) (((q1.turn tF (fun g _ h e=>by rcases h with h | h <;> omega)).turn t9 (fun g _ h e=>by rcases h with h | h <;> omega)).mono (fun g _ h=>by rcases h with h | h <;> omega)) (jA (dB aT (fun g _ h=>by rcases h with h | h <;> omega) (bA aT t9 (fun g _ h e=>by rcases h with h | h <;> omega) (bA aT tF (fun g _ h e=>by rcases h with h | h <;> omega) q2))))⟩)
end Go.Proofs.YtmbppnbekkbibaaGreatDoor
end
