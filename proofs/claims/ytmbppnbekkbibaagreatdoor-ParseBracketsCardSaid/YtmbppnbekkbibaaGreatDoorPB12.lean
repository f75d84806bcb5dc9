/- HG, HH -/
import Derived.Test.YtmbppnbekkbibaaGreatDoorPB11
set_option linter.unusedSimpArgs false
set_option linter.unusedVariables false
section
set_option linter.unusedVariables false
namespace Go.Proofs.YtmbppnbekkbibaaGreatDoor
open Go.RowKit
def AU (pb ib base bp:Nat) (s0:Bt) (t:aF) (w:World) (l:List Bt):Prop:=
 w.heap[pb]? =some (.cells #[.pointer (some ⟨bp,0,none⟩)] 94 (0,0))∧∃v,w.heap[ib]? =some (.cells #[sv s0,v, .int .i64 (t.line:Nat), .int .i64 (t.col:Nat)] 88 (0,0))∧gD w base 9 v l
theorem AU.turn {pb ib base bp:Nat} {s0:Bt} {t:aF} {w w':World} {l:List Bt} {G:Nat→Prop} (h:AU pb ib base bp s0 t w l) (tn:Turn G w w') (h1:¬G pb) (h2:¬G ib) (h3:∀j,base≤j→j<w.heap.size→¬G j):AU pb ib base bp s0 t w' l:=by
 obtain⟨hb,v,hn,hr⟩:=h
 exact⟨ah hb tn h1,v,ah hn tn h2,hr.turn tn (fun g hg=>h3 g (hr.lt g hg).1 (hr.lt g hg).2)⟩
set_option maxRecDepth 100000 in
set_option maxHeartbeats 8000000 in
theorem qx (d:Int) (w:World) (bp B pb ib base:Nat) (s0:Bt) (t:aF) (ts:List aF) (l:List Bt) (hl:l.length≤8193) (h:bE w bp B ts d) (hI:AU pb ib base bp s0 t w l) (p1:bp<pb) (p2:bp<ib) (p3:pb<base) (p4:ib<base) (p5:pb≠ib) (p6:base≤w.heap.size):
  Calls Tryz.prog 131 #[.pointer (some ⟨ib,0,none⟩), .pointer (some ⟨pb,0,none⟩)] w (dw (AU pb ib base bp s0 t) (fun k=>k=bp∨k=ib∨base≤k) bp B d w (mQ nameP l ts)):=by
 have hlt:=h.lt
 obtain⟨Q,hQ⟩:∃Q,mQ nameP l ts=Q:=⟨_,rfl⟩
 rw [hQ]
 have HQ:Hid (au nameP (fun x=>aG (l++[x])) ts=Q):=hid hQ
 have HN:=hid (eH w.drew bp B ts d h)
 obtain⟨EN,vk,hblk,hrow⟩:=hI
 obtain⟨A1,c1,rfl,hn1,hm1⟩:=hrow.ss.open_
 have hbx:=bG EN
 obtain⟨t0,t1,t2,t3,tz⟩:=bK hblk
 have Ik:=hid EN
 have uw:=hid hblk
 have Wo:=hid hrow
 have zl:=hid hrow.lt
 have P0:=hid (fun(w':World) (h:Turn (fun j=>j=bp∨base≤j) w w')=>aI hbx h (by omega))
 have P2:=hid (fun(w':World) (h:Turn (fun j=>j=bp∨base≤j) w w')=>aI t1 h (by omega))
 have HD0:Hid (Turn (fun j=>j=bp∨base≤j) w w.drew):=hid ⟨rfl,rfl,rfl,Nat.le_refl _,fun _ _ _=>rfl⟩
 have jX:Hid (Turn (fun j=>j=bp) w w.drew):=hid ⟨rfl,rfl,rfl,Nat.le_refl _,fun _ _ _=>rfl⟩
 clear h hQ EN hblk hrow hbx t0 t1 t2 t3 tz hm1
 go_enter Tryz.func131,Tryz.ntmps131
 go_wp2_with fail
 refine bM (S:=fun w'=>Turn (fun j=>j=bp∨base≤j) w w') (x:=9) (by kernel_rfl) ?_
 try simp only [Act.put,List.getElem_toArray,List.getElem_cons_zero,List.getElem_cons_succ,List.setIfInBounds_toArray,List.set_cons_zero,List.set_cons_succ]
 refine tx 0 (.pointer (some ⟨ib,1,none⟩)) HD0.out ?_
 refine jW 1 (.slice A1 l.length c1) P2.out HD0.out ?_
 refine jW 2 (.pointer (some ⟨bp,0,none⟩)) P0.out HD0.out ?_
 refine tx 3 (.pointer (some ⟨bp,0,none⟩)) HD0.out ?_
 refine tx 4 (.pointer (some ⟨bp,0,none⟩)) HD0.out ?_
 refine ay (rs:=[5]) (by kernel_rfl) (by simp) ?_
 refine av.cons rfl (fun K hK=> ?_) (av.nil)
 go_simp
 refine(HN.out).mono ?_
 rintro e w2 h2
 rcases hq:nameP ts with g | ⟨s,r⟩
 ·obtain⟨rfl,t2,b2⟩:=h2.bF hq
  exact⟨rfl,dw.fail (HQ.out.symm.trans (aB hq)) (((jX.out.trans t2 (fun _ _ h=>h)).mono (G:=fun k=>k=bp∨k=ib∨base≤k) (fun _ _ h=> .inl h))) b2⟩
 ·obtain⟨v,rfl,Nw,rfl,k2⟩:=h2.aL hq
  have xR:=jX.out.trans Nw (fun _ _ h=>h)
  have HT2:=hid (xR.mono (G:=fun j=>j=bp∨base≤j) (fun _ _ h=> .inl h))
  have jV:=hid k2
  have hs2:=xR.size
  have dP:=hid ((Wo.out.turn xR (fun g hg e=>by have:=(zl.out g hg).1;omega)).alloc (.cells #[sv s] 9))
  have SF:=hid (bB (o':= .cells #[sv s] 9) (ah uw.out xR (by omega)))
  have SG:=hid (bB (o':= .cells #[sv s] 9) (ah Ik.out xR (by omega)))
  have kF:Hid (Pr.good (l++[s]) r=Q):=hid ((aj hq).symm.trans HQ.out)
  clear h2 Nw k2 hq xR
  refine hK.out _ _ HT2.out ?_
  clear hK K
  try simp only [Act.put,List.getElem_toArray,List.getElem_cons_zero,List.getElem_cons_succ,List.setIfInBounds_toArray,List.set_cons_zero,List.set_cons_succ]
  refine ay (rs:=[6]) (by kernel_rfl) (by simp) ?_
  refine av.cons rfl (fun K hK=> ?_) (av.nil)
  go_simp
  have HT3:=hid (HT2.out.trans (Turn.alloc (fun j=>j=bp∨base≤j) w2 (.cells #[sv s] 9)) (fun _ _ h=>h))
  refine hK.out _ _ HT3.out ?_
  clear hK K
  try simp only [Act.put,List.getElem_toArray,List.getElem_cons_zero,List.getElem_cons_succ,List.setIfInBounds_toArray,List.set_cons_zero,List.set_cons_succ]
  refine ay (rs:=[7]) (by kernel_rfl) (by simp) ?_
  refine av.cons rfl (fun K hK=> ?_) (av.nil)
  have Cg:=hid (qE w2 s 9)
  have hlen:(nC l).length=l.length:=by simp [nC]
  refine dX rfl (.tmp 3) (.tmp 8) _ rfl base tT (.slice A1 l.length c1) (.slice (some ⟨w2.heap.size,0,none⟩) 1 1) rfl rfl dP.out.row Cg.out (wD _) (by simp [nC,maxLen];omega) (by simp [nC];omega) (by simp;omega) (fun v7 w7 n7 aK fV dV=> ?_)
  obtain⟨A7,c7,rfl, _, _⟩:=jd aK
  have tg:=Turn.bf fV (F:=fun j=>base≤j) (fun k e=>(zl.out k e).1)
  have iL:=hid (HT3.out.trans (tg.mono (G:=fun j=>j=bp∨base≤j) (fun _ _ h=> .inr h)) (fun _ _ h=>h))
  have gI:=ah SF.out tg (by omega)
  have SH:=hid (ah SG.out tg (by omega))
  have kP:=hid ((jV.out.below (new1 _ _)).turn tg (by omega) (fun k hk e=>by have:=jV.out.1;omega))
  have t7:w7.cell? ⟨ib,1,none⟩=some (.slice A1 l.length c1):=(cell_of_row _ _ _ _ _ _ gI).trans rfl
  have z7:∀i,w7.frozen? ⟨ib,i,none⟩=false:=fun i=>frozen_of_row _ _ _ _ _ gI
  have tK:=hid gI
  have UQ:Hid (gD w7 base 9 (.slice A7 n7 c7) (l++[s])):=hid ⟨n7,by rw [nD];exact aK⟩
  clear aK fV dV hlen tg gI
  refine hK.out _ _ iL.out ?_
  clear hK K
  try simp only [Act.put,List.getElem_toArray,List.getElem_cons_zero,List.getElem_cons_succ,List.setIfInBounds_toArray,List.set_cons_zero,List.set_cons_succ]
  refine tx 8 (.pointer (some ⟨ib,1,none⟩)) iL.out ?_
  refine ay (rs:=[9]) (by kernel_rfl) (by simp) ?_
  refine av.past rfl (by kernel_rfl) (fun K hK=> ?_) (av.nil)
  go_simp
  refine hK.out _ _ ?_
  clear hK K
  try simp only [Act.put,List.getElem_toArray,List.getElem_cons_zero,List.getElem_cons_succ,List.setIfInBounds_toArray,List.set_cons_zero,List.set_cons_succ]
  refine aO (by kernel_rfl) ?_ _
  have tl:=ak w7 ib 1 (.slice A7 n7 c7)
  go_end0
  exact dw.done kF.out.symm ((iL.out.mono (G:=fun k=>k=bp∨k=ib∨base≤k) (fun _ _ h=>by rcases h with h | h;exact .inl h;exact .inr (.inr h))).trans tl (fun i hi e=> .inr (.inl e))) ⟨ah SH.out tl p5, _,heap_setCell_same _ _ 1 _ _ _ tK.out,UQ.out.turn tl (fun g hg e=>by have:=(UQ.out.lt g hg).1;omega)⟩ (kP.out.turn tl (by omega) (fun k hk e=>by have:=kP.out.1;omega))
def Wp (base:Nat) (w:World) (v:Value) (i:pO):Prop:=∃z:List Value,v= .agg z.toArray∧CV w (fun j=>base≤j) z i
theorem yg {bp a:Nat} {w w1:World} {v0 v1 v2 v3:Value} (h:Turn (fun k=>k=bp) w w1) (ha:w.heap.size≤a):Turn (fun k=>k=bp) w (cB w1 a v0 v1 v2 v3):=h.trans (dx w1 a v0 v1 v2 v3) (fun i hi e=>by omega)
set_option maxRecDepth 100000 in
set_option maxHeartbeats 8000000 in
theorem AV (w:World) (bp B:Nat) (ts:List aF) (h:bE w bp B ts 0) (t:aF):Calls Tryz.prog 77 #[.pointer (some ⟨bp,0,none⟩),nL t] w (aD (Wp w.heap.size) bp B 0 w (kC t ts)):=by
 unfold nL
 have hlt:=h.lt
 have hB:=h.1
 obtain⟨Q,hQ⟩:∃Q,kC t ts=Q:=⟨_,rfl⟩
 rw [hQ]
 have HQ:Hid (au nameP (fun s=>au (aH [58]) fun _=>au (iG nameP) fun l=>au (aH [59]) fun _=>aG (⟨s,l,t.line,t.col⟩:pO)) ts=Q):=hid hQ
 obtain⟨W0,hW0⟩:∃W0,(((w.alloc (.cells #[.pointer (some ⟨bp,0,none⟩)] 94)).alloc (.cells #[.int .i64 t.kind,sv t.text, .int .i64 (t.line:Nat), .int .i64 (t.col:Nat)] 70)).alloc (.cells #[.string ⟨#[]⟩, .slice none 0 0, .int .i64 0, .int .i64 0] 88))=W0:=⟨_,rfl⟩
 obtain⟨tw,hs0,hb0,KM,Qd⟩:=uf (G:=fun _=>False) (Turn.refl _ (((w.alloc (.cells #[.pointer (some ⟨bp,0,none⟩)] 94)).alloc (.cells #[.int .i64 t.kind,sv t.text, .int .i64 (t.line:Nat), .int .i64 (t.col:Nat)] 70)).alloc (.cells #[.string ⟨#[]⟩, .slice none 0 0, .int .i64 0, .int .i64 0] 88)))
 rw [hW0]at tw hs0 hb0 KM Qd
 have hs0:W0.heap.size=w.heap.size+3:=by rw [←hW0];simp
 have hb0:=hb0 id
 have KM:=KM id
 have hbx:=bG hb0
 obtain⟨t0,t1,t2,t3,tz⟩:=bK KM
 have ug:=hid hb0
 have F6:=hid (Qd id)
 have Iy:=hid (tw.mono (G:=fun k=>k=bp) (fun _ _ h=>h.elim))
 have CB:=hid (h.turn tw id (fun _ _=>id))
 have P0:=hid (fun(w':World) (h:Turn (fun j=>j=bp) W0 w')=>aI hbx h (by omega))
 have PL:=hid (fun(w':World) (h:Turn (fun j=>j=bp) W0 w')=>aI t2 h (by omega))
 have PC:=hid (fun(w':World) (h:Turn (fun j=>j=bp) W0 w')=>aI t3 h (by omega))
 have HD0:Hid (Turn (fun j=>j=bp) W0 W0.drew):=hid ⟨rfl,rfl,rfl,Nat.le_refl _,fun _ _ _=>rfl⟩
 have HW0:=hid hW0
 have LZ:∀(fn:Fn) (first cap:Array Value) (w:World),(Instr.makeFunc fn first cap).run Tryz.prog w= .ok (.func fn first cap) w:=fun _ _ _ _=>rfl
 clear h hQ tw hb0 KM Qd hbx t0 t1 t2 t3 tz hW0
 go_enter Tryz.func77,Tryz.ntmps77
 go_wp2_with fail
 rw [HW0.out]
 refine bM (S:=fun w'=>Turn (fun j=>j=bp) W0 w') (x:=10) (by kernel_rfl) ?_
 try simp only [Act.put,List.getElem_toArray,List.getElem_cons_zero,List.getElem_cons_succ,List.setIfInBounds_toArray,List.set_cons_zero,List.set_cons_succ]
 refine jW 0 (.pointer (some ⟨bp,0,none⟩)) P0.out HD0.out ?_
 refine tx 1 (.pointer (some ⟨bp,0,none⟩)) HD0.out ?_
 refine tx 2 (.pointer (some ⟨bp,0,none⟩)) HD0.out ?_
 refine tx 4 (.pointer (some ⟨w.heap.size+1,2,none⟩)) HD0.out ?_
 refine jW 5 (.int .i64 (t.line:Nat)) PL.out HD0.out ?_
 refine tx 6 (.pointer (some ⟨w.heap.size+1,3,none⟩)) HD0.out ?_
 refine jW 7 (.int .i64 (t.col:Nat)) PC.out HD0.out ?_
 refine ay (rs:=[3,9]) (by kernel_rfl) (by simp) ?_
 refine av.cons rfl (fun K hK=> ?_) (av.cons rfl (fun K hK=> ?_) av.nil)
 ·go_simp
  refine(eH W0.drew bp B ts 0 CB.out).mono ?_
  rintro e w1 h1
  rcases hq:nameP ts with g | ⟨s,r1⟩
  ·obtain⟨rfl,tn,bn⟩:=h1.bF hq
   have bY:=hid (HQ.out.symm.trans (aB hq))
   exact⟨rfl,aD.fail bY.out (dI.mk2 (aA Iy.out (aA HD0.out tn)) bn)⟩
  ·obtain⟨v1,rfl,tn,rfl,kn⟩:=h1.aL hq
   have og:=hid (aA HD0.out tn)
   have hs1:=tn.size
   simp at hs1
   have kF:Hid (au (aH [58]) (fun _=>au (iG nameP) fun l=>au (aH [59]) fun _=>aG (⟨s,l,t.line,t.col⟩:pO)) r1=Q):=hid ((aj hq).symm.trans HQ.out)
   have HT1:=hid (aA (aA Iy.out og.out) (Turn.alloc (fun k=>k=bp) w1 (.cells #[sv s, .slice none 0 0, .int .i64 (t.line:Nat), .int .i64 (t.col:Nat)] 88)))
   have lN:=hid (kn.below (new1 w1 (.cells #[sv s, .slice none 0 0, .int .i64 (t.line:Nat), .int .i64 (t.col:Nat)] 88)))
   have lS:=hid (bB (o':=(.cells #[sv s, .slice none 0 0, .int .i64 (t.line:Nat), .int .i64 (t.col:Nat)] 88)) (ah F6.out og.out (by omega)))
   have nN:=hid (bB (o':=(.cells #[sv s, .slice none 0 0, .int .i64 (t.line:Nat), .int .i64 (t.col:Nat)] 88)) (ah ug.out og.out (by omega)))
   have Qe:=hid (yT w1 (.cells #[sv s, .slice none 0 0, .int .i64 (t.line:Nat), .int .i64 (t.col:Nat)] 88))
   have Iu:=bG (ah ug.out og.out (by omega))
   have Wq:w.heap.size<w1.heap.size:=by omega
   clear h1 tn kn hq
   refine hK.out _ _ og.out ?_
   clear hK K
   try simp only [Act.put,List.getElem_toArray,List.getElem_cons_zero,List.getElem_cons_succ,List.setIfInBounds_toArray,List.set_cons_zero,List.set_cons_succ]
   refine tt 8 (.agg #[sv s, .slice none 0 0, .int .i64 (t.line:Nat), .int .i64 (t.col:Nat)]) (fun _=>og.out) ?_
   refine ay (rs:=[9]) (by kernel_rfl) (by simp) ?_
   refine av.cons rfl (fun K hK=> ?_) (av.nil)
   go_simp
   have HS2:=hid (aA og.out (Turn.alloc (fun k=>k=bp) w1 (.cells #[.string ⟨#[]⟩, .slice none 0 0, .int .i64 0, .int .i64 0] 88)))
   refine hK.out _ _ HS2.out ?_
   clear hK K
   try simp only [Act.put,List.getElem_toArray,List.getElem_cons_zero,List.getElem_cons_succ,List.setIfInBounds_toArray,List.set_cons_zero,List.set_cons_succ]
   refine ay (rs:=[10]) (by kernel_rfl) (by simp) ?_
   refine av.past rfl (by kernel_rfl) (fun K hK=> ?_) (av.nil)
   go_simp
   refine hK.out _ _ ?_
   clear hK K
   try simp only [Act.put,List.getElem_toArray,List.getElem_cons_zero,List.getElem_cons_succ,List.setIfInBounds_toArray,List.set_cons_zero,List.set_cons_succ]
   refine aO (by kernel_rfl) ?_ _
   have HN:=hid (dM (w1.alloc (.cells #[sv s, .slice none 0 0, .int .i64 (t.line:Nat), .int .i64 (t.col:Nat)] 88)) bp B r1 0 lN.out [58] 9 (w1.heap.size+1))
   go_wp2_with fail
   refine(HN.out).mono ?_
   rintro e w4 h4
   rcases hq:aH [58] r1 with g | ⟨u,r4⟩
   ·obtain⟨rfl,tn,bn⟩:=h4.bF hq
    have HB:=hid (dI.mk2 (aA HT1.out tn) bn)
    have bY:=hid (kF.out.symm.trans (aB hq))
    clear h4 tn bn hq
    go_wp2_with fail
    exact⟨rfl,aD.fail bY.out HB.out⟩
   ·obtain⟨v4,rfl,tn, -,kn⟩:=h4.aL hq
    have hs4:=tn.size
    simp at hs4
    have fM:=hid (aA HT1.out tn)
    have hb4:=ah nN.out tn (by omega)
    have hi4:=ah Qe.out tn (by omega)
    have HI4:Hid (AU w.heap.size (w1.heap.size) w4.heap.size bp s t w4 []):=hid ⟨hb4, _,hi4,gD.nil _ _ _⟩
    have ig:=hid (ah lS.out tn (by omega))
    have J2:=bG hb4
    have fu:Hid (au (iG nameP) (fun l=>au (aH [59]) fun _=>aG (⟨s,l,t.line,t.col⟩:pO)) r4=Q):=hid ((aj hq).symm.trans kF.out)
    have J4:=hid (jl nameP Sf.name 131 #[.pointer (some ⟨w1.heap.size,0,none⟩), .pointer (some ⟨w.heap.size,0,none⟩)] (AU w.heap.size (w1.heap.size) w4.heap.size bp s t) (fun k=>k=bp∨k=w1.heap.size∨w4.heap.size≤k) 0 w4 bp B r4 (.inl rfl)
     (fun a b l tn h=>h.turn tn (by omega) (by omega) (fun j hj _ e=>by omega)) (fun g h=> .inr (.inr h))
     (fun w1 r l hl hw hi hk=>qx 0 w1 bp B _ _ _ s t r l hl hk hi (by omega) (by omega) (by omega) (by omega) (by omega) hw) (fun _=>by kernel_rfl) kn HI4.out)
    clear h4 tn kn hq hb4 hi4
    go_wp2_with fail
    refine(J4.out).mono ?_
    rintro e w5 h5
    rcases hq:iG nameP r4 with g | ⟨l,r5⟩
    ·obtain⟨rfl,tn,bn⟩:=h5.bF hq
     have HB:=hid (dI.mk2 (fM.out.trans tn (fun i hi e=>by rcases e with e | e | e;exact e;omega;omega)) bn)
     have bY:=hid (fu.out.symm.trans (aB hq))
     clear h5 tn bn hq
     go_wp2_with fail
     exact⟨rfl,aD.fail bY.out HB.out⟩
    ·obtain⟨rfl,tn,Kq,kn⟩:=h5.aL hq
     have hs5:=tn.size
     have fI:=hid (fM.out.trans tn (fun i hi e=>by rcases e with e | e | e;exact e;omega;omega))
     have iw:=hid (ah ig.out tn (fun e=>by rcases e with e | e | e <;> omega))
     have Jj:=hid Kq
     have EW:=bG Kq.1
     have gK:Hid (au (aH [59]) (fun _=>aG (⟨s,l,t.line,t.col⟩:pO)) r5=Q):=hid ((aj hq).symm.trans fu.out)
     have Ji:=hid (dM w5 bp B r5 0 kn [59] 9 w5.heap.size)
     clear h5 tn Kq kn hq J2
     go_wp2_with fail
     refine(Ji.out).mono ?_
     rintro e w6 h6
     rcases hq:aH [59] r5 with g | ⟨u,r6⟩
     ·obtain⟨rfl,tn,bn⟩:=h6.bF hq
      have HB:=hid (dI.mk2 (aA fI.out tn) bn)
      have bY:=hid (gK.out.symm.trans (aB hq))
      clear h6 tn bn hq
      go_wp2_with fail
      exact⟨rfl,aD.fail bY.out HB.out⟩
     ·obtain⟨v6,rfl,tn, -,kn⟩:=h6.aL hq
      have hs6:=tn.size
      have lF:=hid (aA fI.out tn)
      have uX:=hid kn
      have mE:=hid (ah iw.out tn (by omega))
      have rD:Hid (Pr.good (⟨s,l,t.line,t.col⟩:pO) r6=Q):=hid ((aj hq).symm.trans gK.out)
      obtain⟨_,v,SI,Md⟩:=Jj.out.turn tn (by omega) (by omega) (fun j hj hl e=>by omega)
      obtain⟨A6,c6,rfl, _, _⟩:=Md.ss.open_
      have MK:=hid Md
      obtain⟨f0,f1,f2,f3,fz⟩:=bK SI
      obtain⟨c0',c1',c2',c3',cz'⟩:=bK mE.out
      clear h6 tn kn hq SI Md EW
      go_wp2_with fail
      have tF:=dx w6 (w.heap.size+2) (sv s) (.slice A6 l.length c6) (.int .i64 (t.line:Nat)) (.int .i64 (t.col:Nat))
      refine bodyPost_ret (aW rfl rfl (aV mE.out _ _ _ _) Tryz.underlying88 rfl (by kernel_rfl)) rfl ?_
      obtain⟨n6,SK⟩:=MK.out
      have Qf:=SK.lt
      exact aD.done rD.out.symm (yg lF.out (by omega)) ⟨_,rfl, _,rfl,(dh.own (F:=fun j=>w4.heap.size≤j) SK (fun g hg=>(Qf g hg).1)).turn tF (fun g _ h e=>by omega) |>.mono (fun g _ h=>by omega)⟩ (uX.out.turn tF (by omega) (fun k hk e=>by have:=uX.out.1;omega))
 ·go_simp
  have zn:=hid (aA HD0.out (Turn.alloc (fun k=>k=bp) W0.drew (.cells #[.string ⟨#[]⟩, .slice none 0 0, .int .i64 0, .int .i64 0] 88)))
  have Ws:=hid (bE.below (w:=W0.drew) CB.out (new1 W0.drew (.cells #[.string ⟨#[]⟩, .slice none 0 0, .int .i64 0, .int .i64 0] 88)))
  refine hK.out _ _ zn.out ?_
  clear hK K
  try simp only [Act.put,List.getElem_toArray,List.getElem_cons_zero,List.getElem_cons_succ,List.setIfInBounds_toArray,List.set_cons_zero,List.set_cons_succ]
  refine ay (rs:=[3]) (by kernel_rfl) (by simp) ?_
  refine av.cons rfl (fun K hK=> ?_) (av.nil)
  go_simp
  refine(eH _ bp B ts 0 Ws.out).mono ?_
  rintro e w1 h1
  rcases hq:nameP ts with g | ⟨s,r1⟩
  ·obtain⟨rfl,tn,bn⟩:=h1.bF hq
   have bY:=hid (HQ.out.symm.trans (aB hq))
   exact⟨rfl,aD.fail bY.out (dI.mk2 (aA Iy.out (aA zn.out tn)) bn)⟩
  ·obtain⟨v1,rfl,tn,rfl,kn⟩:=h1.aL hq
   have og:=hid (aA zn.out tn)
   have hs1:=tn.size
   simp at hs1
   have kF:Hid (au (aH [58]) (fun _=>au (iG nameP) fun l=>au (aH [59]) fun _=>aG (⟨s,l,t.line,t.col⟩:pO)) r1=Q):=hid ((aj hq).symm.trans HQ.out)
   have hi1:w1.heap[w.heap.size+3]? =some (.cells #[.string ⟨#[]⟩, .slice none 0 0, .int .i64 0, .int .i64 0] 88 (0,0)):=by
    have:=ah (yT W0.drew _) tn (by show ¬W0.heap.size=bp;omega)
    rwa [show W0.drew.heap.size=w.heap.size+3 from hs0]at this
   have tP:=dx w1 (w.heap.size+3) (sv s) (.slice none 0 0) (.int .i64 (t.line:Nat)) (.int .i64 (t.col:Nat))
   have HT1:=hid ((aA Iy.out og.out).trans tP (fun i hi e=>by omega))
   have lN:=hid (kn.turn tP (by omega) (fun k hk e=>by have:=CB.out.1;omega))
   have lS:=hid (ah (ah F6.out og.out (by omega)) tP (by omega))
   have hb1:=ah ug.out og.out (by omega)
   have nN:=hid (ah hb1 tP (by omega))
   have Qe:=hid (aV hi1 (sv s) (.slice none 0 0) (.int .i64 (t.line:Nat)) (.int .i64 (t.col:Nat)))
   obtain⟨i0,i1,i2,i3,iz⟩:=bK hi1
   have Iu:=bG hb1
   have Wq:w.heap.size<w1.heap.size:=by omega
   have hne1:¬w.heap.size+3=w.heap.size:=by omega
   have hne2:¬w.heap.size=w.heap.size+3:=by omega
   clear h1 tn kn hq hi1 tP hb1
   refine hK.out _ _ og.out ?_
   clear hK K
   try simp only [Act.put,List.getElem_toArray,List.getElem_cons_zero,List.getElem_cons_succ,List.setIfInBounds_toArray,List.set_cons_zero,List.set_cons_succ]
   refine tt 8 (.agg #[sv s, .slice none 0 0, .int .i64 (t.line:Nat), .int .i64 (t.col:Nat)]) (fun _=>og.out) ?_
   refine ay (rs:=[10]) (by kernel_rfl) (by simp) ?_
   refine av.past rfl (by kernel_rfl) (fun K hK=> ?_) (av.nil)
   go_simp
   refine hK.out _ _ ?_
   clear hK K
   try simp only [Act.put,List.getElem_toArray,List.getElem_cons_zero,List.getElem_cons_succ,List.setIfInBounds_toArray,List.set_cons_zero,List.set_cons_succ]
   refine aO (by kernel_rfl) ?_ _
   have HN:=hid (dM (cB w1 (w.heap.size+3) (sv s) (.slice none 0 0) (.int .i64 (t.line:Nat)) (.int .i64 (t.col:Nat))) bp B r1 0 lN.out [58] 9 (w1.heap.size))
   go_wp2_with fail
   refine(HN.out).mono ?_
   rintro e w4 h4
   rcases hq:aH [58] r1 with g | ⟨u,r4⟩
   ·obtain⟨rfl,tn,bn⟩:=h4.bF hq
    have HB:=hid (dI.mk2 (aA HT1.out tn) bn)
    have bY:=hid (kF.out.symm.trans (aB hq))
    clear h4 tn bn hq
    go_wp2_with fail
    exact⟨rfl,aD.fail bY.out HB.out⟩
   ·obtain⟨v4,rfl,tn, -,kn⟩:=h4.aL hq
    have hs4:=tn.size
    simp at hs4
    have fM:=hid (aA HT1.out tn)
    have hb4:=ah nN.out tn (by omega)
    have hi4:=ah Qe.out tn (by omega)
    have HI4:Hid (AU w.heap.size (w.heap.size+3) w4.heap.size bp s t w4 []):=hid ⟨hb4, _,hi4,gD.nil _ _ _⟩
    have ig:=hid (ah lS.out tn (by omega))
    have J2:=bG hb4
    have fu:Hid (au (iG nameP) (fun l=>au (aH [59]) fun _=>aG (⟨s,l,t.line,t.col⟩:pO)) r4=Q):=hid ((aj hq).symm.trans kF.out)
    have J4:=hid (jl nameP Sf.name 131 #[.pointer (some ⟨w.heap.size+3,0,none⟩), .pointer (some ⟨w.heap.size,0,none⟩)] (AU w.heap.size (w.heap.size+3) w4.heap.size bp s t) (fun k=>k=bp∨k=w.heap.size+3∨w4.heap.size≤k) 0 w4 bp B r4 (.inl rfl)
     (fun a b l tn h=>h.turn tn (by omega) (by omega) (fun j hj _ e=>by omega)) (fun g h=> .inr (.inr h))
     (fun w1 r l hl hw hi hk=>qx 0 w1 bp B _ _ _ s t r l hl hk hi (by omega) (by omega) (by omega) (by omega) (by omega) hw) (fun _=>by kernel_rfl) kn HI4.out)
    clear h4 tn kn hq hb4 hi4
    go_wp2_with fail
    refine(J4.out).mono ?_
    rintro e w5 h5
    rcases hq:iG nameP r4 with g | ⟨l,r5⟩
    ·obtain⟨rfl,tn,bn⟩:=h5.bF hq
     have HB:=hid (dI.mk2 (fM.out.trans tn (fun i hi e=>by rcases e with e | e | e;exact e;omega;omega)) bn)
     have bY:=hid (fu.out.symm.trans (aB hq))
     clear h5 tn bn hq
     go_wp2_with fail
     exact⟨rfl,aD.fail bY.out HB.out⟩
    ·obtain⟨rfl,tn,Kq,kn⟩:=h5.aL hq
     have hs5:=tn.size
     have fI:=hid (fM.out.trans tn (fun i hi e=>by rcases e with e | e | e;exact e;omega;omega))
     have iw:=hid (ah ig.out tn (fun e=>by rcases e with e | e | e <;> omega))
     have Jj:=hid Kq
     have EW:=bG Kq.1
     have gK:Hid (au (aH [59]) (fun _=>aG (⟨s,l,t.line,t.col⟩:pO)) r5=Q):=hid ((aj hq).symm.trans fu.out)
     have Ji:=hid (dM w5 bp B r5 0 kn [59] 9 w5.heap.size)
     clear h5 tn Kq kn hq J2
     go_wp2_with fail
     refine(Ji.out).mono ?_
     rintro e w6 h6
     rcases hq:aH [59] r5 with g | ⟨u,r6⟩
     ·obtain⟨rfl,tn,bn⟩:=h6.bF hq
      have HB:=hid (dI.mk2 (aA fI.out tn) bn)
      have bY:=hid (gK.out.symm.trans (aB hq))
      clear h6 tn bn hq
      go_wp2_with fail
      exact⟨rfl,aD.fail bY.out HB.out⟩
     ·obtain⟨v6,rfl,tn, -,kn⟩:=h6.aL hq
      have hs6:=tn.size
      have lF:=hid (aA fI.out tn)
      have uX:=hid kn
      have mE:=hid (ah iw.out tn (by omega))
      have rD:Hid (Pr.good (⟨s,l,t.line,t.col⟩:pO) r6=Q):=hid ((aj hq).symm.trans gK.out)
      obtain⟨_,v,SI,Md⟩:=Jj.out.turn tn (by omega) (by omega) (fun j hj hl e=>by omega)
      obtain⟨A6,c6,rfl, _, _⟩:=Md.ss.open_
      have MK:=hid Md
      obtain⟨f0,f1,f2,f3,fz⟩:=bK SI
      obtain⟨c0',c1',c2',c3',cz'⟩:=bK mE.out
      clear h6 tn kn hq SI Md EW
      go_wp2_with fail
      have tF:=dx w6 (w.heap.size+2) (sv s) (.slice A6 l.length c6) (.int .i64 (t.line:Nat)) (.int .i64 (t.col:Nat))
      refine bodyPost_ret (aW rfl rfl (aV mE.out _ _ _ _) Tryz.underlying88 rfl (by kernel_rfl)) rfl ?_
      obtain⟨n6,SK⟩:=MK.out
      have Qf:=SK.lt
      exact aD.done rD.out.symm (yg lF.out (by omega)) ⟨_,rfl, _,rfl,(dh.own (F:=fun j=>w4.heap.size≤j) SK (fun g hg=>(Qf g hg).1)).turn tF (fun g _ h e=>by omega) |>.mono (fun g _ h=>by omega)⟩ (uX.out.turn tF (by omega) (fun k hk e=>by have:=uX.out.1;omega))
end Go.Proofs.YtmbppnbekkbibaaGreatDoor
end
section
set_option linter.unusedVariables false
namespace Go.Proofs.YtmbppnbekkbibaaGreatDoor
open Go.RowKit
abbrev KN (w:World) (b:Nat) (v0 v1 v2 v3 v4 v5 v6 v7 v8 v9 v10 v11 v12 v13 v14:Value):World:=((((((((((((((w.setCell ⟨b,0,none⟩ v0).setCell ⟨b,1,none⟩ v1).setCell ⟨b,2,none⟩ v2).setCell ⟨b,3,none⟩ v3).setCell ⟨b,4,none⟩ v4).setCell ⟨b,5,none⟩ v5).setCell ⟨b,6,none⟩ v6).setCell ⟨b,7,none⟩ v7).setCell ⟨b,8,none⟩ v8).setCell ⟨b,9,none⟩ v9).setCell ⟨b,10,none⟩ v10).setCell ⟨b,11,none⟩ v11).setCell ⟨b,12,none⟩ v12).setCell ⟨b,13,none⟩ v13).setCell ⟨b,14,none⟩ v14
theorem yh (w:World) (b:Nat) (v0 v1 v2 v3 v4 v5 v6 v7 v8 v9 v10 v11 v12 v13 v14:Value):Turn (fun k=>k=b) w (KN w b v0 v1 v2 v3 v4 v5 v6 v7 v8 v9 v10 v11 v12 v13 v14):=
 ((((((((((((((ak w b 0 v0).trans (ak _ b 1 v1) (fun _ _ h=>h)).trans (ak _ b 2 v2) (fun _ _ h=>h)).trans (ak _ b 3 v3) (fun _ _ h=>h)).trans (ak _ b 4 v4) (fun _ _ h=>h)).trans (ak _ b 5 v5) (fun _ _ h=>h)).trans (ak _ b 6 v6) (fun _ _ h=>h)).trans (ak _ b 7 v7) (fun _ _ h=>h)).trans (ak _ b 8 v8) (fun _ _ h=>h)).trans (ak _ b 9 v9) (fun _ _ h=>h)).trans (ak _ b 10 v10) (fun _ _ h=>h)).trans (ak _ b 11 v11) (fun _ _ h=>h)).trans (ak _ b 12 v12) (fun _ _ h=>h)).trans (ak _ b 13 v13) (fun _ _ h=>h)).trans (ak _ b 14 v14) (fun _ _ h=>h)
theorem CY {w:World} {b:Nat} {a0 a1 a2 a3 a4 a5 a6 a7 a8 a9 BD AX a12 zP zo:Value} {t:TypeId} (h:w.heap[b]? =some (.cells #[a0,a1,a2,a3,a4,a5,a6,a7,a8,a9,BD,AX,a12,zP,zo] t (0,0))) (v0 v1 v2 v3 v4 v5 v6 v7 v8 v9 v10 v11 v12 v13 v14:Value):(KN w b v0 v1 v2 v3 v4 v5 v6 v7 v8 v9 v10 v11 v12 v13 v14).heap[b]? =some (.cells #[v0,v1,v2,v3,v4,v5,v6,v7,v8,v9,v10,v11,v12,v13,v14] t (0,0)):=by
 have h0:(w.setCell ⟨b,0,none⟩ v0).heap[b]? =some (.cells #[v0,a1,a2,a3,a4,a5,a6,a7,a8,a9,BD,AX,a12,zP,zo] t (0,0)):=heap_setCell_same _ b 0 _ _ v0 h
 have h1:((w.setCell ⟨b,0,none⟩ v0).setCell ⟨b,1,none⟩ v1).heap[b]? =some (.cells #[v0,v1,a2,a3,a4,a5,a6,a7,a8,a9,BD,AX,a12,zP,zo] t (0,0)):=heap_setCell_same _ b 1 _ _ v1 h0
 have h2:(((w.setCell ⟨b,0,none⟩ v0).setCell ⟨b,1,none⟩ v1).setCell ⟨b,2,none⟩ v2).heap[b]? =some (.cells #[v0,v1,v2,a3,a4,a5,a6,a7,a8,a9,BD,AX,a12,zP,zo] t (0,0)):=heap_setCell_same _ b 2 _ _ v2 h1
 have h3:((((w.setCell ⟨b,0,none⟩ v0).setCell ⟨b,1,none⟩ v1).setCell ⟨b,2,none⟩ v2).setCell ⟨b,3,none⟩ v3).heap[b]? =some (.cells #[v0,v1,v2,v3,a4,a5,a6,a7,a8,a9,BD,AX,a12,zP,zo] t (0,0)):=heap_setCell_same _ b 3 _ _ v3 h2
 have h4:(((((w.setCell ⟨b,0,none⟩ v0).setCell ⟨b,1,none⟩ v1).setCell ⟨b,2,none⟩ v2).setCell ⟨b,3,none⟩ v3).setCell ⟨b,4,none⟩ v4).heap[b]? =some (.cells #[v0,v1,v2,v3,v4,a5,a6,a7,a8,a9,BD,AX,a12,zP,zo] t (0,0)):=heap_setCell_same _ b 4 _ _ v4 h3
 have h5:((((((w.setCell ⟨b,0,none⟩ v0).setCell ⟨b,1,none⟩ v1).setCell ⟨b,2,none⟩ v2).setCell ⟨b,3,none⟩ v3).setCell ⟨b,4,none⟩ v4).setCell ⟨b,5,none⟩ v5).heap[b]? =some (.cells #[v0,v1,v2,v3,v4,v5,a6,a7,a8,a9,BD,AX,a12,zP,zo] t (0,0)):=heap_setCell_same _ b 5 _ _ v5 h4
 have h6:(((((((w.setCell ⟨b,0,none⟩ v0).setCell ⟨b,1,none⟩ v1).setCell ⟨b,2,none⟩ v2).setCell ⟨b,3,none⟩ v3).setCell ⟨b,4,none⟩ v4).setCell ⟨b,5,none⟩ v5).setCell ⟨b,6,none⟩ v6).heap[b]? =some (.cells #[v0,v1,v2,v3,v4,v5,v6,a7,a8,a9,BD,AX,a12,zP,zo] t (0,0)):=heap_setCell_same _ b 6 _ _ v6 h5
 have h7:((((((((w.setCell ⟨b,0,none⟩ v0).setCell ⟨b,1,none⟩ v1).setCell ⟨b,2,none⟩ v2).setCell ⟨b,3,none⟩ v3).setCell ⟨b,4,none⟩ v4).setCell ⟨b,5,none⟩ v5).setCell ⟨b,6,none⟩ v6).setCell ⟨b,7,none⟩ v7).heap[b]? =some (.cells #[v0,v1,v2,v3,v4,v5,v6,v7,a8,a9,BD,AX,a12,zP,zo] t (0,0)):=heap_setCell_same _ b 7 _ _ v7 h6
 have h8:(((((((((w.setCell ⟨b,0,none⟩ v0).setCell ⟨b,1,none⟩ v1).setCell ⟨b,2,none⟩ v2).setCell ⟨b,3,none⟩ v3).setCell ⟨b,4,none⟩ v4).setCell ⟨b,5,none⟩ v5).setCell ⟨b,6,none⟩ v6).setCell ⟨b,7,none⟩ v7).setCell ⟨b,8,none⟩ v8).heap[b]? =some (.cells #[v0,v1,v2,v3,v4,v5,v6,v7,v8,a9,BD,AX,a12,zP,zo] t (0,0)):=heap_setCell_same _ b 8 _ _ v8 h7
 have h9:((((((((((w.setCell ⟨b,0,none⟩ v0).setCell ⟨b,1,none⟩ v1).setCell ⟨b,2,none⟩ v2).setCell ⟨b,3,none⟩ v3).setCell ⟨b,4,none⟩ v4).setCell ⟨b,5,none⟩ v5).setCell ⟨b,6,none⟩ v6).setCell ⟨b,7,none⟩ v7).setCell ⟨b,8,none⟩ v8).setCell ⟨b,9,none⟩ v9).heap[b]? =some (.cells #[v0,v1,v2,v3,v4,v5,v6,v7,v8,v9,BD,AX,a12,zP,zo] t (0,0)):=heap_setCell_same _ b 9 _ _ v9 h8
 have h10:(((((((((((w.setCell ⟨b,0,none⟩ v0).setCell ⟨b,1,none⟩ v1).setCell ⟨b,2,none⟩ v2).setCell ⟨b,3,none⟩ v3).setCell ⟨b,4,none⟩ v4).setCell ⟨b,5,none⟩ v5).setCell ⟨b,6,none⟩ v6).setCell ⟨b,7,none⟩ v7).setCell ⟨b,8,none⟩ v8).setCell ⟨b,9,none⟩ v9).setCell ⟨b,10,none⟩ v10).heap[b]? =some (.cells #[v0,v1,v2,v3,v4,v5,v6,v7,v8,v9,v10,AX,a12,zP,zo] t (0,0)):=heap_setCell_same _ b 10 _ _ v10 h9
 have h11:((((((((((((w.setCell ⟨b,0,none⟩ v0).setCell ⟨b,1,none⟩ v1).setCell ⟨b,2,none⟩ v2).setCell ⟨b,3,none⟩ v3).setCell ⟨b,4,none⟩ v4).setCell ⟨b,5,none⟩ v5).setCell ⟨b,6,none⟩ v6).setCell ⟨b,7,none⟩ v7).setCell ⟨b,8,none⟩ v8).setCell ⟨b,9,none⟩ v9).setCell ⟨b,10,none⟩ v10).setCell ⟨b,11,none⟩ v11).heap[b]? =some (.cells #[v0,v1,v2,v3,v4,v5,v6,v7,v8,v9,v10,v11,a12,zP,zo] t (0,0)):=heap_setCell_same _ b 11 _ _ v11 h10
 have h12:(((((((((((((w.setCell ⟨b,0,none⟩ v0).setCell ⟨b,1,none⟩ v1).setCell ⟨b,2,none⟩ v2).setCell ⟨b,3,none⟩ v3).setCell ⟨b,4,none⟩ v4).setCell ⟨b,5,none⟩ v5).setCell ⟨b,6,none⟩ v6).setCell ⟨b,7,none⟩ v7).setCell ⟨b,8,none⟩ v8).setCell ⟨b,9,none⟩ v9).setCell ⟨b,10,none⟩ v10).setCell ⟨b,11,none⟩ v11).setCell ⟨b,12,none⟩ v12).heap[b]? =some (.cells #[v0,v1,v2,v3,v4,v5,v6,v7,v8,v9,v10,v11,v12,zP,zo] t (0,0)):=heap_setCell_same _ b 12 _ _ v12 h11
 have h13:((((((((((((((w.setCell ⟨b,0,none⟩ v0).setCell ⟨b,1,none⟩ v1).setCell ⟨b,2,none⟩ v2).setCell ⟨b,3,none⟩ v3).setCell ⟨b,4,none⟩ v4).setCell ⟨b,5,none⟩ v5).setCell ⟨b,6,none⟩ v6).setCell ⟨b,7,none⟩ v7).setCell ⟨b,8,none⟩ v8).setCell ⟨b,9,none⟩ v9).setCell ⟨b,10,none⟩ v10).setCell ⟨b,11,none⟩ v11).setCell ⟨b,12,none⟩ v12).setCell ⟨b,13,none⟩ v13).heap[b]? =some (.cells #[v0,v1,v2,v3,v4,v5,v6,v7,v8,v9,v10,v11,v12,v13,zo] t (0,0)):=heap_setCell_same _ b 13 _ _ v13 h12
 have h14:(((((((((((((((w.setCell ⟨b,0,none⟩ v0).setCell ⟨b,1,none⟩ v1).setCell ⟨b,2,none⟩ v2).setCell ⟨b,3,none⟩ v3).setCell ⟨b,4,none⟩ v4).setCell ⟨b,5,none⟩ v5).setCell ⟨b,6,none⟩ v6).setCell ⟨b,7,none⟩ v7).setCell ⟨b,8,none⟩ v8).setCell ⟨b,9,none⟩ v9).setCell ⟨b,10,none⟩ v10).setCell ⟨b,11,none⟩ v11).setCell ⟨b,12,none⟩ v12).setCell ⟨b,13,none⟩ v13).setCell ⟨b,14,none⟩ v14).heap[b]? =some (.cells #[v0,v1,v2,v3,v4,v5,v6,v7,v8,v9,v10,v11,v12,v13,v14] t (0,0)):=heap_setCell_same _ b 14 _ _ v14 h13
 exact h14
theorem pW {w:World} {b:Nat} {a0 a1 a2 a3 a4 a5 a6 a7 a8 a9 BD AX a12 zP zo:Value} {t:TypeId} (h:w.heap[b]? =some (.cells #[a0,a1,a2,a3,a4,a5,a6,a7,a8,a9,BD,AX,a12,zP,zo] t (0,0))):w.cell? ⟨b,0,none⟩=some a0∧w.cell? ⟨b,1,none⟩=some a1∧w.cell? ⟨b,2,none⟩=some a2∧w.cell? ⟨b,3,none⟩=some a3∧w.cell? ⟨b,4,none⟩=some a4∧w.cell? ⟨b,5,none⟩=some a5∧w.cell? ⟨b,6,none⟩=some a6∧w.cell? ⟨b,7,none⟩=some a7∧w.cell? ⟨b,8,none⟩=some a8∧w.cell? ⟨b,9,none⟩=some a9∧w.cell? ⟨b,10,none⟩=some BD∧w.cell? ⟨b,11,none⟩=some AX∧w.cell? ⟨b,12,none⟩=some a12∧w.cell? ⟨b,13,none⟩=some zP∧w.cell? ⟨b,14,none⟩=some zo∧∀i,w.frozen? ⟨b,i,none⟩=false:=
 ⟨(cell_of_row _ _ _ _ _ _ h).trans rfl,(cell_of_row _ _ _ _ _ _ h).trans rfl,(cell_of_row _ _ _ _ _ _ h).trans rfl,(cell_of_row _ _ _ _ _ _ h).trans rfl,(cell_of_row _ _ _ _ _ _ h).trans rfl,(cell_of_row _ _ _ _ _ _ h).trans rfl,(cell_of_row _ _ _ _ _ _ h).trans rfl,(cell_of_row _ _ _ _ _ _ h).trans rfl,(cell_of_row _ _ _ _ _ _ h).trans rfl,(cell_of_row _ _ _ _ _ _ h).trans rfl,(cell_of_row _ _ _ _ _ _ h).trans rfl,(cell_of_row _ _ _ _ _ _ h).trans rfl,(cell_of_row _ _ _ _ _ _ h).trans rfl,(cell_of_row _ _ _ _ _ _ h).trans rfl,(cell_of_row _ _ _ _ _ _ h).trans rfl,fun i=>frozen_of_row _ _ _ _ _ h⟩
theorem Fe {bp a:Nat} {w w1:World} {v0 v1 v2 v3 v4 v5 v6 v7 v8 v9 v10 v11 v12 v13 v14:Value} (h:Turn (fun k=>k=bp) w w1) (ha:w.heap.size≤a):Turn (fun k=>k=bp) w (KN w1 a v0 v1 v2 v3 v4 v5 v6 v7 v8 v9 v10 v11 v12 v13 v14):=h.trans (yh w1 a _ _ _ _ _ _ _ _ _ _ _ _ _ _ _) (fun i hi e=>by omega)
def Wt (base:Nat) (w:World) (v:Value) (i:kg):Prop:=∃z:List Value,v= .agg z.toArray∧DV w (fun j=>base≤j) z i
set_option maxRecDepth 100000 in
set_option maxHeartbeats 16000000 in
theorem KO (w:World) (bp B:Nat) (ts:List aF) (h:bE w bp B ts 0):Calls Tryz.prog 78 #[.pointer (some ⟨bp,0,none⟩)] w (aD (Wt w.heap.size) bp B 0 w (nY ts)):=by
 have hlt:=h.lt
 have hB:=h.1
 obtain⟨Q,hQ⟩:∃Q,nY ts=Q:=⟨_,rfl⟩
 rw [hQ]
 have HQ:Hid (au (dN [101,120,112,111,114,116]) (fun b=>au gF fun h=>au (aH [102,110]) fun _=>au nameP fun s=>au oI fun v=>au (jE (bg 100).typ [lK]) fun p=>au (aH [61]) fun _=>au (bg 100).expr fun x=>au (aH [59]) fun _=>aG (⟨s,b,v,p.1,p.2,x,h.line,h.col⟩:kg)) ts=Q):=hid hQ
 have HH:=hid (iX (w.alloc (.cells #[.string ⟨#[]⟩, .bool false, .slice none 0 0, .string ⟨#[]⟩, .slice none 0 0, .int .i64 0, .string ⟨#[]⟩, .int .i64 0, .int .i64 0, .int .i64 0, .slice none 0 0, .slice none 0 0, .slice none 0 0, .int .i64 0, .int .i64 0] 51)) bp B ts 0 (h.below (new1 _ _)) [101,120,112,111,114,116])
 clear h hQ
 go_enter Tryz.func78,Tryz.ntmps78
 go_wp2_with fail
 refine(HH.out).mono ?_
 rintro e w1 h1
 rcases hq:dN [101,120,112,111,114,116] ts with g | ⟨b,r1⟩
 ·exact(fP hq).elim
 ·obtain⟨v1,rfl,tn,rfl,kn⟩:=h1.aL hq
  obtain⟨tm,hs1,hrs⟩:=bq tn
  have HT1:=hid (aA tm (Turn.alloc (fun k=>k=bp) w1 (.cells #[.string ⟨#[]⟩, .bool b, .slice none 0 0, .string ⟨#[]⟩, .slice none 0 0, .int .i64 0, .string ⟨#[]⟩, .int .i64 0, .int .i64 0, .int .i64 0, .slice none 0 0, .slice none 0 0, .slice none 0 0, .int .i64 0, .int .i64 0] 51)))
  have lS:=hid (bB (o':=(.cells #[.string ⟨#[]⟩, .bool b, .slice none 0 0, .string ⟨#[]⟩, .slice none 0 0, .int .i64 0, .string ⟨#[]⟩, .int .i64 0, .int .i64 0, .int .i64 0, .slice none 0 0, .slice none 0 0, .slice none 0 0, .int .i64 0, .int .i64 0] 51)) (hrs (by omega)))
  obtain⟨W1,hW1⟩:∃W1,w1.alloc (.cells #[.string ⟨#[]⟩, .bool b, .slice none 0 0, .string ⟨#[]⟩, .slice none 0 0, .int .i64 0, .string ⟨#[]⟩, .int .i64 0, .int .i64 0, .int .i64 0, .slice none 0 0, .slice none 0 0, .slice none 0 0, .int .i64 0, .int .i64 0] 51)=W1:=⟨_,rfl⟩
  have ZH:W1.heap.size=w1.heap.size+1:=by rw [←hW1];simp
  have SL:=hid (yT w1 (.cells #[.string ⟨#[]⟩, .bool b, .slice none 0 0, .string ⟨#[]⟩, .slice none 0 0, .int .i64 0, .string ⟨#[]⟩, .int .i64 0, .int .i64 0, .int .i64 0, .slice none 0 0, .slice none 0 0, .slice none 0 0, .int .i64 0, .int .i64 0] 51))
  have lN:=hid (kn.below (new1 w1 (.cells #[.string ⟨#[]⟩, .bool b, .slice none 0 0, .string ⟨#[]⟩, .slice none 0 0, .int .i64 0, .string ⟨#[]⟩, .int .i64 0, .int .i64 0, .int .i64 0, .slice none 0 0, .slice none 0 0, .slice none 0 0, .int .i64 0, .int .i64 0] 51)))
  rw [hW1]at HT1 lS SL lN
  obtain⟨t0,ht0⟩:∃t0,aU r1=t0:=⟨_,rfl⟩
  have kF:Hid (au (aH [102,110]) (fun _=>au nameP fun s=>au oI fun v=>au (jE (bg 100).typ [lK]) fun p=>au (aH [61]) fun _=>au (bg 100).expr fun x=>au (aH [59]) fun _=>aG (⟨s,b,v,p.1,p.2,x,t0.line,t0.col⟩:kg)) r1=Q):=hid (by subst ht0;exact(aj hq).symm.trans HQ.out)
  have BX:=hid (fun(w':World) (h:bE w' bp B r1 0)=>jq w' bp B r1 0 h)
  rw [ht0]at BX
  have jX:Hid (Turn (fun j=>j=bp) W1 W1.drew):=hid ⟨rfl,rfl,rfl,Nat.le_refl _,fun _ _ _=>rfl⟩
  have HD0:=hid (jX.out.mono (G:=fun j=>j=bp∨j=w1.heap.size) (fun _ _ h=> .inl h))
  have HW1:=hid hW1
  have hrb:w.heap.size<w1.heap.size:=by omega
  clear h1 tn tm kn hrs hq ht0 hW1
  unfold nL at BX
  have hfl:∀w:World,(Instr.field 70 (.agg #[.int .i64 t0.kind,sv t0.text, .int .i64 (t0.line:Nat), .int .i64 (t0.col:Nat)]) 2).run Tryz.prog w= .ok (.int .i64 (t0.line:Nat)) w:=fun _=>rfl
  have hfc:∀w:World,(Instr.field 70 (.agg #[.int .i64 t0.kind,sv t0.text, .int .i64 (t0.line:Nat), .int .i64 (t0.col:Nat)]) 3).run Tryz.prog w= .ok (.int .i64 (t0.col:Nat)) w:=fun _=>rfl
  go_wp2_with fail
  rw [HW1.out]
  refine bM (S:=fun w'=>Turn (fun j=>j=bp∨j=w1.heap.size) W1 w') (x:=13) (by kernel_rfl) ?_
  try simp only [Act.put,List.getElem_toArray,List.getElem_cons_zero,List.getElem_cons_succ,List.setIfInBounds_toArray,List.set_cons_zero,List.set_cons_succ]
  refine tx 0 (.pointer (some ⟨bp,0,none⟩)) HD0.out ?_
  refine tx 1 (.pointer (some ⟨bp,0,none⟩)) HD0.out ?_
  refine tx 2 (.pointer (some ⟨bp,0,none⟩)) HD0.out ?_
  refine tx 5 (.pointer (some ⟨bp,0,none⟩)) HD0.out ?_
  refine tx 6 (.pointer (some ⟨bp,0,none⟩)) HD0.out ?_
  refine tx 7 (.pointer (some ⟨bp,0,none⟩)) HD0.out ?_
  refine ay (rs:=[3]) (by kernel_rfl) (by simp) ?_
  refine av.cons rfl (fun K hK=> ?_) (av.nil)
  go_simp
  refine(BX.out W1.drew lN.out).mono ?_
  rintro e wa ⟨rfl,hba⟩
  have EU:=hid (aA jX.out (Turn.of_below (F:=fun k=>k=bp) hba))
  have om:=hid (EU.out.mono (G:=fun j=>j=bp∨j=w1.heap.size) (fun _ _ h=> .inl h))
  have Rc:=hid (bE.below (w:=W1.drew) lN.out hba)
  clear hba
  refine hK.out _ _ om.out ?_
  clear hK K
  try simp only [Act.put,List.getElem_toArray,List.getElem_cons_zero,List.getElem_cons_succ,List.setIfInBounds_toArray,List.set_cons_zero,List.set_cons_succ]
  refine tt 4 (.int .i64 (t0.line:Nat)) (fun _=>om.out) ?_
  refine tt 10 (.pointer (some ⟨w1.heap.size,13,none⟩)) (fun _=>om.out) ?_
  refine ay (rs:=[8]) (by kernel_rfl) (by simp) ?_
  refine av.cons rfl (fun K hK=> ?_) (av.nil)
  go_simp
  refine(BX.out wa Rc.out).mono ?_
  rintro e wb ⟨rfl,hbb⟩
  have ko:=hid (aA EU.out (Turn.of_below (F:=fun k=>k=bp) hbb))
  have Rh:=hid (ko.out.mono (G:=fun j=>j=bp∨j=w1.heap.size) (fun _ _ h=> .inl h))
  have Ws:=hid (Rc.out.below hbb)
  have hdb:=ah SL.out ko.out (by omega)
  have t3:=ak wb w1.heap.size 13 (.int .i64 (t0.line:Nat))
  have Rb:=hid (Rh.out.trans t3 (fun _ _ h=> .inr h))
  have t4:=t3.trans (ak _ w1.heap.size 14 (.int .i64 (t0.col:Nat))) (fun _ _ h=>h)
  obtain⟨m0,m1,m2,m3,m4,m5,m6,m7,m8,m9,m10,m11,m12,m13,m14,mz⟩:=pW hdb
  clear hbb m0 m1 m2 m3 m4 m5 m6 m7 m8 m9 m10 m11 m12
  refine hK.out _ _ Rh.out ?_
  clear hK K
  try simp only [Act.put,List.getElem_toArray,List.getElem_cons_zero,List.getElem_cons_succ,List.setIfInBounds_toArray,List.set_cons_zero,List.set_cons_succ]
  refine tt 9 (.int .i64 (t0.col:Nat)) (fun _=>Rh.out) ?_
  refine ay (rs:=[11]) (by kernel_rfl) (by simp) ?_
  refine av.cons rfl (fun K hK=> ?_) (av.nil)
  go_simp
  refine hK.out _ _ Rb.out ?_
  clear hK K
  try simp only [Act.put,List.getElem_toArray,List.getElem_cons_zero,List.getElem_cons_succ,List.setIfInBounds_toArray,List.set_cons_zero,List.set_cons_succ]
  refine tt 12 (.pointer (some ⟨w1.heap.size,14,none⟩)) (fun _=>Rb.out) ?_
  refine ay (rs:=[13]) (by kernel_rfl) (by simp) ?_
  refine av.past rfl (by kernel_rfl) (fun K hK=> ?_) (av.nil)
  go_simp
  refine hK.out _ _ ?_
  clear hK K
  try simp only [Act.put,List.getElem_toArray,List.getElem_cons_zero,List.getElem_cons_succ,List.setIfInBounds_toArray,List.set_cons_zero,List.set_cons_succ]
  refine aO (by kernel_rfl) ?_ _
  have Wu:=hid (show((wb.setCell ⟨w1.heap.size,13,none⟩ (.int .i64 (t0.line:Nat))).setCell ⟨w1.heap.size,14,none⟩ (.int .i64 (t0.col:Nat))).heap[w1.heap.size]? =some (.cells #[.string ⟨#[]⟩, .bool b, .slice none 0 0, .string ⟨#[]⟩, .slice none 0 0, .int .i64 0, .string ⟨#[]⟩, .int .i64 0, .int .i64 0, .int .i64 0, .slice none 0 0, .slice none 0 0, .slice none 0 0, .int .i64 (t0.line:Nat), .int .i64 (t0.col:Nat)] 51 (0,0))from heap_setCell_same _ _ 14 _ _ (.int .i64 (t0.col:Nat)) (heap_setCell_same _ _ 13 _ _ (.int .i64 (t0.line:Nat)) hdb))
  have jm:=hid (Ws.out.turn t4 (by omega) (fun k hk e=>by omega))
  have HT3:=hid ((aA HT1.out ko.out).trans t4 (fun i hi e=>by omega))
  have iR:=hid (ah (ah lS.out ko.out (by omega)) t4 (by omega))
  have hs3:=ko.out.size
  have HN:=hid (dM ((wb.setCell ⟨w1.heap.size,13,none⟩ (.int .i64 (t0.line:Nat))).setCell ⟨w1.heap.size,14,none⟩ (.int .i64 (t0.col:Nat))) bp B r1 0 jm.out [102,110] 9 wb.heap.size)
  clear hdb t3 t4
  go_wp2_with fail
  refine(HN.out).mono ?_
  rintro e w4 h5
  rcases hq:aH [102,110] r1 with g | ⟨u,r4⟩
  ·obtain⟨rfl,tn,bn⟩:=h5.bF hq
   have HB:=hid (dI.mk2 (aA HT3.out tn) bn)
   have bY:=hid (kF.out.symm.trans (aB hq))
   clear h5 tn bn hq
   go_wp2_with fail
   exact⟨rfl,aD.fail bY.out HB.out⟩
  ·obtain⟨v4,rfl,tn, -,kn⟩:=h5.aL hq
   have hs4:=tn.size
   simp at hs4
   have fM:=hid (aA HT3.out tn)
   have jB:=hid kn
   have Wv:=hid (ah Wu.out tn (by omega))
   have ig:=hid (ah iR.out tn (by omega))
   have fu:Hid (au nameP (fun s=>au oI fun v=>au (jE (bg 100).typ [lK]) fun p=>au (aH [61]) fun _=>au (bg 100).expr fun x=>au (aH [59]) fun _=>aG (⟨s,b,v,p.1,p.2,x,t0.line,t0.col⟩:kg)) r4=Q):=hid ((aj hq).symm.trans kF.out)
   have HP:=hid (eH w4 bp B r4 0 kn)
   clear h5 tn kn hq m13 m14 mz
   go_wp2_with fail
   refine(HP.out).mono ?_
   rintro e w5 h5
   rcases hq:nameP r4 with g | ⟨s,r5⟩
   ·obtain⟨rfl,tn,bn⟩:=h5.bF hq
    have HB:=hid (dI.mk2 (aA fM.out tn) bn)
    have bY:=hid (fu.out.symm.trans (aB hq))
    clear h5 tn bn hq
    go_wp2_with fail
    exact⟨rfl,aD.fail bY.out HB.out⟩
   ·obtain⟨v5,rfl,tn,rfl,kn⟩:=h5.aL hq
    have hs5:=tn.size
    have fI:=hid (aA fM.out tn)
    have Ww:=hid (ah Wv.out tn (by omega))
    have iw:=hid (ah ig.out tn (by omega))
    have gK:Hid (au oI (fun v=>au (jE (bg 100).typ [lK]) fun p=>au (aH [61]) fun _=>au (bg 100).expr fun x=>au (aH [59]) fun _=>aG (⟨s,b,v,p.1,p.2,x,t0.line,t0.col⟩:kg)) r5=Q):=hid ((aj hq).symm.trans fu.out)
    have HP5:=hid (Iw w5 bp B r5 kn)
    clear h5 tn kn hq
    go_wp2_with fail
    refine(HP5.out).mono ?_
    rintro e w6 h5
    rcases hq:oI r5 with g | ⟨v,r6⟩
    ·obtain⟨rfl,tn,bn⟩:=h5.bF hq
     have HB:=hid (dI.mk2 (aA fI.out tn) bn)
     have bY:=hid (gK.out.symm.trans (aB hq))
     clear h5 tn bn hq
     go_wp2_with fail
     exact⟨rfl,aD.fail bY.out HB.out⟩
    ·obtain⟨v6,rfl,tn,⟨xs,hv1,hv2⟩,kn⟩:=h5.aL hq
     have Wx:=hv1
     obtain⟨A6,n6,c6,rfl, _⟩:=Wx
     have hs6:=tn.size
     have hdb:=ah Ww.out tn (by omega)
     have t7:=(ak w6 w1.heap.size 0 (sv s)).trans (ak _ w1.heap.size 2 (.slice A6 n6 c6)) (fun _ _ h=>h)
     have Wy:=hid (show((w6.setCell ⟨w1.heap.size,0,none⟩ (sv s)).setCell ⟨w1.heap.size,2,none⟩ (.slice A6 n6 c6)).heap[w1.heap.size]? =some (.cells #[sv s, .bool b, .slice A6 n6 c6, .string ⟨#[]⟩, .slice none 0 0, .int .i64 0, .string ⟨#[]⟩, .int .i64 0, .int .i64 0, .int .i64 0, .slice none 0 0, .slice none 0 0, .slice none 0 0, .int .i64 (t0.line:Nat), .int .i64 (t0.col:Nat)] 51 (0,0))from heap_setCell_same _ _ 2 _ _ (.slice A6 n6 c6) (heap_setCell_same _ _ 0 _ _ (sv s) hdb))
     have kP:=hid (kn.turn t7 (by omega) (fun k hk e=>by omega))
     have iL:=hid ((aA fI.out tn).trans t7 (fun i hi e=>by omega))
     have qW:=hid (ah (ah iw.out tn (by omega)) t7 (by omega))
     have NJ:=hid (hv1.turn t7 (fun g _ h e=>by omega))
     have Wj:=hid (bA fQ t7 (fun g _ h e=>by omega) hv2)
     have Wz:((w6.setCell ⟨w1.heap.size,0,none⟩ (sv s)).setCell ⟨w1.heap.size,2,none⟩ (.slice A6 n6 c6)).heap.size=w6.heap.size:=by simp
     have vT:Hid (au (jE (bg 100).typ [lK]) (fun p=>au (aH [61]) fun _=>au (bg 100).expr fun x=>au (aH [59]) fun _=>aG (⟨s,b,v,p.1,p.2,x,t0.line,t0.col⟩:kg)) r6=Q):=hid ((aj hq).symm.trans gK.out)
     have hm:=iA ((w6.setCell ⟨w1.heap.size,0,none⟩ (sv s)).setCell ⟨w1.heap.size,2,none⟩ (.slice A6 n6 c6)) #[.int .i64 0, .string ⟨#[]⟩, .slice none 0 0, .slice none 0 0] 63 4 1 rfl (by decide)
     rw [Wz]at hm
     have HP7:=hid (Cx 0 (bg 100).typ (wN 100 (Nat.le_refl _)) (Sf.xA 100).1 (((w6.setCell ⟨w1.heap.size,0,none⟩ (sv s)).setCell ⟨w1.heap.size,2,none⟩ (.slice A6 n6 c6)).alloc (.cells #[.int .i64 0, .string ⟨#[]⟩, .slice none 0 0, .slice none 0 0] 63)) bp B r6 (kP.out.below (new1 _ _)) (.slice (some ⟨w6.heap.size,0,none⟩) 1 1) [lK] _ (hm.mono (fun g _ h=>by omega)) (fun w F=>uV rfl (mR w F 0 [])) (by simp))
     obtain⟨m0,m1,m2,m3,m4,m5,m6,m7,m8,m9,m10,m11,m12,m13,m14,mz⟩:=pW hdb
     clear h5 tn kn hq hv1 hv2 hdb t7 hm m1 m3 m4 m5 m6 m7 m8 m9 m10 m11 m12 m13 m14
     go_wp2_with fail
     refine(HP7.out).mono ?_
     rintro e w8 h5
     rcases hq:jE (bg 100).typ [lK] r6 with g | ⟨p,r8⟩
     ·obtain⟨rfl,tn,bn⟩:=h5.bF hq
      have tn:=(bq tn).1
      have HB:=hid (dI.mk2 (aA iL.out tn) bn)
      have bY:=hid (vT.out.symm.trans (aB hq))
      clear h5 tn bn hq
      go_wp2_with fail
      exact⟨rfl,aD.fail bY.out HB.out⟩
     ·obtain⟨v8,rfl,tn,⟨u,rfl,tL⟩,kn⟩:=h5.aL hq
      obtain⟨A8,c8,rfl, _, _⟩:=tL.shape
      have tm:=(bq tn).1
      have uh:=tn.size
      simp at uh
      have hdb:=ah Wy.out tm (by omega)
      have t9:=(ak w8 w1.heap.size 3 (sv p.1)).trans (ak _ w1.heap.size 4 (.slice A8 p.2.length c8)) (fun _ _ h=>h)
      have WA:=hid (show((w8.setCell ⟨w1.heap.size,3,none⟩ (sv p.1)).setCell ⟨w1.heap.size,4,none⟩ (.slice A8 p.2.length c8)).heap[w1.heap.size]? =some (.cells #[sv s, .bool b, .slice A6 n6 c6,sv p.1, .slice A8 p.2.length c8, .int .i64 0, .string ⟨#[]⟩, .int .i64 0, .int .i64 0, .int .i64 0, .slice none 0 0, .slice none 0 0, .slice none 0 0, .int .i64 (t0.line:Nat), .int .i64 (t0.col:Nat)] 51 (0,0))from heap_setCell_same _ _ 4 _ _ (.slice A8 p.2.length c8) (heap_setCell_same _ _ 3 _ _ (sv p.1) hdb))
      have Bz:=hid (kn.turn t9 (by omega) (fun k hk e=>by omega))
      have xU:=hid ((aA iL.out tm).trans t9 (fun i hi e=>by omega))
      have CS:=hid (ah (ah qW.out tm (by omega)) t9 (by omega))
      have WB:=hid ((NJ.out.turn tm (fun g _ h e=>by omega)).turn t9 (fun g _ h e=>by omega))
      have WC:=hid (bA fQ t9 (fun g _ h e=>by omega) (bA fQ tm (fun g _ h e=>by omega) Wj.out))
      rw [show(((w6.setCell ⟨w1.heap.size,0,none⟩ (sv s)).setCell ⟨w1.heap.size,2,none⟩ (.slice A6 n6 c6)).alloc (.cells #[.int .i64 0, .string ⟨#[]⟩, .slice none 0 0, .slice none 0 0] 63)).heap.size=w6.heap.size+1 by simp]at tL
      obtain⟨ys,y1,y2⟩:=tL.sl aX
      have Sv:=hid ((y1.turn t9 (fun g _ h e=>by rcases h with h | h <;> omega)).mono (G:=fun j=>w6.heap.size≤j) (fun g _ h=>by rcases h with h | h <;> omega))
      have Sw:=hid (dB aX (G:=fun j=>w6.heap.size≤j) (fun g _ h=>by rcases h with h | h <;> omega) (bA aX t9 (fun g _ h e=>by rcases h with h | h <;> omega) y2))
      have Jk:Hid (au (aH [61]) (fun _=>au (bg 100).expr fun x=>au (aH [59]) fun _=>aG (⟨s,b,v,p.1,p.2,x,t0.line,t0.col⟩:kg)) r8=Q):=hid ((aj hq).symm.trans vT.out)
      have UR:=hid (dM ((w8.setCell ⟨w1.heap.size,3,none⟩ (sv p.1)).setCell ⟨w1.heap.size,4,none⟩ (.slice A8 p.2.length c8)) bp B r8 0 Bz.out [61] 9 w8.heap.size)
      clear m0 m2 mz
      obtain⟨m0,m1,m2,m3,m4,m5,m6,m7,m8,m9,m10,m11,m12,m13,m14,mz⟩:=pW hdb
      clear h5 tn tm kn hq tL y1 y2 hdb t9 m0 m1 m2 m5 m6 m7 m8 m9 m10 m11 m12 m13 m14
      go_wp2_with fail
      refine(UR.out).mono ?_
      rintro e oC h5
      rcases hq:aH [61] r8 with g | ⟨u,oh⟩
      ·obtain⟨rfl,tn,bn⟩:=h5.bF hq
       have HB:=hid (dI.mk2 (aA xU.out tn) bn)
       have bY:=hid (Jk.out.symm.trans (aB hq))
       clear h5 tn bn hq
       go_wp2_with fail
       exact⟨rfl,aD.fail bY.out HB.out⟩
      ·obtain⟨v10,rfl,tn, -,kn⟩:=h5.aL hq
       have Qg:=tn.size
       simp at Qg
       have jM:=hid (aA xU.out tn)
       have SN:=hid (ah WA.out tn (by omega))
       have SQ:=hid (ah CS.out tn (by omega))
       have WE:=hid (WB.out.turn tn (fun g _ h e=>by omega))
       have WG:=hid (bA fQ tn (fun g _ h e=>by omega) WC.out)
       have WH:=hid (Sv.out.turn tn (fun g _ h e=>by omega))
       have WI:=hid (bA aX tn (fun g _ h e=>by omega) Sw.out)
       have SS:Hid (au (bg 100).expr (fun x=>au (aH [59]) fun _=>aG (⟨s,b,v,p.1,p.2,x,t0.line,t0.col⟩:kg)) oh=Q):=hid ((aj hq).symm.trans Jk.out)
       have WJ:=hid (CU oC bp B oh kn)
       clear h5 tn kn hq m3 m4 mz
       go_wp2_with fail
       refine(WJ.out).mono ?_
       rintro e Nr h5
       rcases hq:(bg 100).expr oh with g | ⟨x,WK⟩
       ·obtain⟨rfl,tn,bn⟩:=h5.bF hq
        have HB:=hid (dI.mk2 (aA jM.out tn) bn)
        have bY:=hid (SS.out.symm.trans (aB hq))
        clear h5 tn bn hq
        go_wp2_with fail
        exact⟨rfl,aD.fail bY.out HB.out⟩
       ·obtain⟨v11,rfl,tn,⟨z,rfl,hz⟩,kn⟩:=h5.aL hq
        obtain⟨kz,sz,nz,lz,oz,kZ,lg,lq,lu,lC,lD,wO,wP,wQ,rfl⟩:=hz.shape'
        have aau:=tn.size
        have hdb:=ah SN.out tn (by omega)
        have t12:=(((((((ak Nr w1.heap.size 5 (.int .i64 kz)).trans (ak _ w1.heap.size 6 (sv sz)) (fun _ _ h=>h)).trans (ak _ w1.heap.size 7 (.int .i64 nz)) (fun _ _ h=>h)).trans (ak _ w1.heap.size 8 (.int .i64 lz)) (fun _ _ h=>h)).trans (ak _ w1.heap.size 9 (.int .i64 oz)) (fun _ _ h=>h)).trans (ak _ w1.heap.size 10 (.slice kZ lg lq)) (fun _ _ h=>h)).trans (ak _ w1.heap.size 11 (.slice lu lC lD)) (fun _ _ h=>h)).trans (ak _ w1.heap.size 12 (.slice wO wP wQ)) (fun _ _ h=>h)
        have SV:=hid (show((((((((Nr.setCell ⟨w1.heap.size,5,none⟩ (.int .i64 kz)).setCell ⟨w1.heap.size,6,none⟩ (sv sz)).setCell ⟨w1.heap.size,7,none⟩ (.int .i64 nz)).setCell ⟨w1.heap.size,8,none⟩ (.int .i64 lz)).setCell ⟨w1.heap.size,9,none⟩ (.int .i64 oz)).setCell ⟨w1.heap.size,10,none⟩ (.slice kZ lg lq)).setCell ⟨w1.heap.size,11,none⟩ (.slice lu lC lD)).setCell ⟨w1.heap.size,12,none⟩ (.slice wO wP wQ)).heap[w1.heap.size]? =some (.cells #[sv s, .bool b, .slice A6 n6 c6,sv p.1, .slice A8 p.2.length c8, .int .i64 kz,sv sz, .int .i64 nz, .int .i64 lz, .int .i64 oz, .slice kZ lg lq, .slice lu lC lD, .slice wO wP wQ, .int .i64 (t0.line:Nat), .int .i64 (t0.col:Nat)] 51 (0,0))from(heap_setCell_same _ _ 12 _ _ (.slice wO wP wQ) (heap_setCell_same _ _ 11 _ _ (.slice lu lC lD) (heap_setCell_same _ _ 10 _ _ (.slice kZ lg lq) (heap_setCell_same _ _ 9 _ _ (.int .i64 oz) (heap_setCell_same _ _ 8 _ _ (.int .i64 lz) (heap_setCell_same _ _ 7 _ _ (.int .i64 nz) (heap_setCell_same _ _ 6 _ _ (sv sz) (heap_setCell_same _ _ 5 _ _ (.int .i64 kz) hdb)))))))))
        have WL:=hid (kn.turn t12 (by omega) (fun k hk e=>by omega))
        have SX:=hid ((aA jM.out tn).trans t12 (fun i hi e=>by omega))
        have SY:=hid (ah (ah SQ.out tn (by omega)) t12 (by omega))
        have WM:=hid (WE.out.turn tn (fun g _ h e=>by omega))
        have WO:=hid (bA fQ tn (fun g _ h e=>by omega) WG.out)
        have WQ:=hid (WH.out.turn tn (fun g _ h e=>by omega))
        have WR:=hid (bA aX tn (fun g _ h e=>by omega) WI.out)
        have WS:=hid (WM.out.turn t12 (fun g _ h e=>by omega))
        have WT:=hid (bA fQ t12 (fun g _ h e=>by omega) WO.out)
        have WU:=hid (WQ.out.turn t12 (fun g _ h e=>by omega))
        have WV:=hid (bA aX t12 (fun g _ h e=>by omega) WR.out)
        have WW:=hid (hz.turn t12 (fun g _ h e=>by omega))
        have S9:Hid (au (aH [59]) (fun _=>aG (⟨s,b,v,p.1,p.2,x,t0.line,t0.col⟩:kg)) WK=Q):=hid ((aj hq).symm.trans SS.out)
        have WX:=hid (dM ((((((((Nr.setCell ⟨w1.heap.size,5,none⟩ (.int .i64 kz)).setCell ⟨w1.heap.size,6,none⟩ (sv sz)).setCell ⟨w1.heap.size,7,none⟩ (.int .i64 nz)).setCell ⟨w1.heap.size,8,none⟩ (.int .i64 lz)).setCell ⟨w1.heap.size,9,none⟩ (.int .i64 oz)).setCell ⟨w1.heap.size,10,none⟩ (.slice kZ lg lq)).setCell ⟨w1.heap.size,11,none⟩ (.slice lu lC lD)).setCell ⟨w1.heap.size,12,none⟩ (.slice wO wP wQ)) bp B WK 0 WL.out [59] 9 Nr.heap.size)
        obtain⟨m0,m1,m2,m3,m4,m5,m6,m7,m8,m9,m10,m11,m12,m13,m14,mz⟩:=pW hdb
        clear h5 tn kn hq hz hdb t12 m0 m1 m2 m3 m4 m13 m14
        go_wp2_with fail
        refine(WX.out).mono ?_
        rintro e w13 h5
        rcases hq:aH [59] WK with g | ⟨u,r13⟩
        ·obtain⟨rfl,tn,bn⟩:=h5.bF hq
         have HB:=hid (dI.mk2 (aA SX.out tn) bn)
         have bY:=hid (S9.out.symm.trans (aB hq))
         clear h5 tn bn hq
         go_wp2_with fail
         exact⟨rfl,aD.fail bY.out HB.out⟩
        ·obtain⟨v13,rfl,tn, -,kn⟩:=h5.aL hq
         have WY:=tn.size
         simp at WY
         have WZ:=hid (aA SX.out tn)
         have Xa:=hid kn
         have hdb:=ah SV.out tn (by omega)
         have NV:=hid (ah SY.out tn (by omega))
         have Xb:=hid (WS.out.turn tn (fun g _ h e=>by omega))
         have Xc:=hid (bA fQ tn (fun g _ h e=>by omega) WT.out)
         have Xd:=hid (WU.out.turn tn (fun g _ h e=>by omega))
         have Xe:=hid (bA aX tn (fun g _ h e=>by omega) WV.out)
         have Xf:=hid (WW.out.turn tn (fun g _ h e=>by omega))
         have Xg:Hid (Pr.good (⟨s,b,v,p.1,p.2,x,t0.line,t0.col⟩:kg) r13=Q):=hid ((aj hq).symm.trans S9.out)
         clear m5 m6 m7 m8 m9 m10 m11 m12 mz
         obtain⟨m0,m1,m2,m3,m4,m5,m6,m7,m8,m9,m10,m11,m12,m13,m14,mz⟩:=pW hdb
         obtain⟨f0,f1,f2,f3,f4,f5,f6,f7,f8,f9,f10,f11,f12,f13,f14,fz⟩:=pW NV.out
         have hne1:¬w1.heap.size=w.heap.size:=by omega
         have hne2:¬w.heap.size=w1.heap.size:=by omega
         clear h5 tn kn hq hdb
         go_wp2_with fail
         have tF:=yh w13 w.heap.size (sv s) (.bool b) (.slice A6 n6 c6) (sv p.1) (.slice A8 p.2.length c8) (.int .i64 kz) (sv sz) (.int .i64 nz) (.int .i64 lz) (.int .i64 oz) (.slice kZ lg lq) (.slice lu lC lD) (.slice wO wP wQ) (.int .i64 (t0.line:Nat)) (.int .i64 (t0.col:Nat))
         refine bodyPost_ret (aW rfl rfl (CY NV.out _ _ _ _ _ _ _ _ _ _ _ _ _ _ _) Tryz.underlying51 rfl (by kernel_rfl)) rfl ?_
         exact aD.done Xg.out.symm (Fe WZ.out (by omega)) ⟨_,rfl, _, _, _, _, _,rfl,(Xb.out.turn tF (fun g _ h e=>by omega)).mono (fun g _ h=>by omega),dB fQ (fun g _ h=>by omega) (bA fQ tF (fun g _ h e=>by omega) Xc.out),(Xd.out.turn tF (fun g _ h e=>by omega)).mono (fun g _ h=>by omega),nK (dB aX (fun g _ h=>by omega) (bA aX tF (fun g _ h e=>by omega) Xe.out)),(Xf.out.turn tF (fun g _ h e=>by omega)).mono (fun g _ h=>by omega)⟩ (Xa.out.turn tF (by omega) (fun k hk e=>by omega))
end Go.Proofs.YtmbppnbekkbibaaGreatDoor
end
