/- HI, RS, RT, RU -/
import Derived.Test.YtmbppnbekkbibaaGreatDoorPB12
import Derived.Test.YtmbppnbekkbibaaGreatDoorPB02
import Derived.Test.YtmbppnbekkbibaaGreatDoorPB01
set_option linter.unusedSimpArgs false
set_option linter.unusedVariables false
section
set_option linter.unusedVariables false
namespace Go.Proofs.YtmbppnbekkbibaaGreatDoor
open Go.RowKit
theorem yj {w:World} {b:Nat} {a0 a1:Value} {t:TypeId} (h:w.heap[b]? =some (.cells #[a0,a1] t (0,0))):w.cell? ⟨b,0,none⟩=some a0∧w.cell? ⟨b,1,none⟩=some a1∧∀i,w.frozen? ⟨b,i,none⟩=false:=
 ⟨(cell_of_row _ _ _ _ _ _ h).trans rfl,(cell_of_row _ _ _ _ _ _ h).trans rfl,fun i=>frozen_of_row _ _ _ _ _ h⟩
theorem Ta:iP Tryz.prog 37 88 (.agg #[.string ⟨#[]⟩, .slice none 0 0, .int .i64 0, .int .i64 0]) 4 56:=⟨Tryz.underlying37,by kernel_rfl,rfl,by omega⟩
theorem Tc:iP Tryz.prog 38 51 (.agg #[.string ⟨#[]⟩, .bool false, .slice none 0 0, .string ⟨#[]⟩, .slice none 0 0, .int .i64 0, .string ⟨#[]⟩, .int .i64 0, .int .i64 0, .int .i64 0, .slice none 0 0, .slice none 0 0, .slice none 0 0, .int .i64 0, .int .i64 0]) 15 224:=⟨Tryz.underlying38,by kernel_rfl,rfl,by omega⟩
theorem Gm {s:Bt} {ts r:List aF} {b:Bool} (h:dN s ts= .good b r):r.length≤ts.length:=by
 unfold dN at h
 split at h
 ·injection h with _ h;subst h;simp
 ·injection h with _ h;subst h;exact Nat.le_refl _
theorem Fg {s:Bt} {ts r:List aF} {u:Unit} (h:aH s ts= .good u r) (hw:1≤ts.length):r.length<ts.length:=by
 unfold aH at h
 rcases hq:dN s ts with g | ⟨b,r1⟩
 ·exact(fP hq).elim
 rw [aj hq]at h
 cases b
 ·cases h
 ·injection h with _ h;subst h;exact pR hq hw
theorem Fh {ts r:List aF} {d:kg} (h:nY ts= .good d r) (hw:Wf ts):r.length<ts.length:=by
 unfold nY at h
 rcases h1:dN [101,120,112,111,114,116] ts with g | ⟨b,r1⟩
 ·exact(fP h1).elim
 rw [aj h1]at h
 have w1:=((Sf.has _).good hw h1).1
 have l1:=Gm h1
 rw [aj (show gF r1= .good (aU r1) r1 from rfl)]at h
 rcases h2:aH [102,110] r1 with g | ⟨u,r2⟩
 ·rw [aB h2]at h;cases h
 rw [aj h2]at h
 have w2:=((Sf.want _).good w1 h2).1
 have l2:=Fg h2 w1.pos
 have l3:=((show Sf _ from Sf.then_ Sf.name fun s=>Sf.then_ Sf.vars fun v=>Sf.then_ (Sf.head (Sf.xA 100).1 [lK]) fun p=>Sf.then_ (Sf.want [61]) fun _=>Sf.then_ (Sf.xA 100).2.1 fun x=>Sf.then_ (Sf.want [59]) fun _=>Sf.ret (⟨s,b,v,p.1,p.2,x,(aU r1).line,(aU r1).col⟩:kg)).good w2 h).2.length_le
 omega
def Xh (base:Nat) (w:World) (v:Value) (m:tO):Prop:=∃z:List Value,v= .agg z.toArray∧Gj w (fun j=>base≤j) z m
structure KP (w:World) (bp B tb:Nat) (wr:World) (l:List pO) (r:List aF):Prop where
 turn:Turn (fun k=>k=bp) w wr
 tk:bE wr bp B r 0
 res:wr.heap[w.heap.size]? =some (.cells #[.slice none 0 0, .slice none 0 0] 40 (0,0))
 tok:wr.heap[tb]? =some (.cells #[.int .i64 (aU r).kind,sv (aU r).text, .int .i64 ((aU r).line:Nat), .int .i64 ((aU r).col:Nat)] 70 (0,0))
 lo:w.heap.size+2≤tb
 row:∃v,wr.heap[w.heap.size+1]? =some (.cells #[v, .slice none 0 0] 40 (0,0))∧fF CV 4 88 wr (w.heap.size+2) (fun j=>w.heap.size+2≤j) v l∧v.ownBlock≠some tb
structure Gn (w:World) (bp B base:Nat) (vi:Value) (xi:List Value) (li:List pO) (wr:World) (l:List kg) (r:List aF):Prop where
 turn:Turn (fun k=>k=bp) w wr
 tk:bE wr bp B r 0
 bs:base≤wr.heap.size
 res:wr.heap[w.heap.size]? =some (.cells #[.slice none 0 0, .slice none 0 0] 40 (0,0))
 sl:dh wr (Iv (w.heap.size+2) base) 4 vi xi
 imps:bU (CV wr (Iv (w.heap.size+2) base)) 4 xi li
 row:∃v,wr.heap[w.heap.size+1]? =some (.cells #[vi,v] 40 (0,0))∧fF DV 15 51 wr base (fun j=>base≤j) v l
set_option maxRecDepth 100000 in
set_option maxHeartbeats 16000000 in
theorem Fj (w:World) (bp B:Nat) (ts:List aF) (h:bE w bp B ts 0):Calls Tryz.prog 44 #[.pointer (some ⟨bp,0,none⟩)] w (aD (Xh w.heap.size) bp B 0 w (dG ts)):=by
 have hlt:=h.lt
 have hB:=h.1
 have hlen:=h.2.1.1
 obtain⟨Q,hQ⟩:∃Q,dG ts=Q:=⟨_,rfl⟩
 rw [hQ]
 obtain⟨A,hA⟩:∃A,lX ts.length [] ts=A:=⟨_,rfl⟩
 have HQ:Hid (Q8 A (fun i=>au Ei fun d=>aG (⟨i,d⟩:tO))=Q):=hid (by
  rw [←hQ, ←hA]
  exact(xV FU _ ts).symm)
 have HA:=hid hA
 have HN:=hid (jq ((w.alloc (.cells #[.slice none 0 0, .slice none 0 0] 40)).alloc (.cells #[.slice none 0 0, .slice none 0 0] 40)) bp B ts 0 (h.below (new2 _ _ _)))
 have CB:=hid (h.below (new2 w (.cells #[.slice none 0 0, .slice none 0 0] 40) (.cells #[.slice none 0 0, .slice none 0 0] 40)))
 clear h hQ hA
 go_enter Tryz.func44,Tryz.ntmps44
 go_wp2_with fail
 refine(HN.out).mono ?_
 rintro e w1 ⟨rfl,hb1⟩
 obtain⟨tm,hs1,hrs,hmb⟩:=fZ (Turn.of_below (F:=fun k=>k=bp) hb1)
 obtain⟨t0,ht0⟩:∃t0,aU ts=t0:=⟨_,rfl⟩
 have lN:=hid ((CB.out.below hb1).below (new1 w1 (.cells #[.int .i64 t0.kind,sv t0.text, .int .i64 (t0.line:Nat), .int .i64 (t0.col:Nat)] 70)))
 have HI1:Hid (KP w bp B w1.heap.size (w1.alloc (.cells #[.int .i64 t0.kind,sv t0.text, .int .i64 (t0.line:Nat), .int .i64 (t0.col:Nat)] 70)) [] ts):=hid ⟨aA tm (Turn.alloc _ _ _),lN.out,bB (hrs (by omega)),by rw [ht0];exact yT _ _,by omega, _,bB (hmb (by omega)),fF.nil _ _ _ _ _ _,fun e=>by cases e⟩
 rw [ht0]
 unfold nL
 clear hb1 tm hrs hmb
 go_wp2_with fail
 go_loopw [4] (fun v4 wr=>∃(tb f:Nat) (l:List pO) (r:List aF),v4= .pointer (some ⟨tb,0,none⟩)∧lX f l r=A∧r.length≤f∧l.length+r.length≤8193∧KP w bp B tb wr l r) (fun _ wr=>leftOf wr bp)
 case atStart=>exact⟨_, _,[],ts,rfl,HA.out,Nat.le_refl _,by simpa using hlen,HI1.out⟩
 case round=>
  obtain⟨tb,f,l,r,rfl,hinv,hf,hlr,ow⟩:=hrel
  have hwf:=ow.tk.wf
  have hpos:=hwf.pos
  obtain⟨f,rfl⟩:∃f',f=f'+1:=⟨f - 1,by omega⟩
  obtain⟨t,ht⟩:∃t,aU r=t:=⟨_,rfl⟩
  have HL:Hid (au (dN [105,109,112,111,114,116]) (fun b=>if b then au (kC t) fun i=>lX f (l++[i])else aG l) r=A):=hid (by subst ht;exact hinv)
  have HLEN:=hid ow.tk.left
  have HF:=hid hf
  have L6:=hid hlr
  have vV:=hid ow
  have ze:=hid hwf
  have EY:=ow.tok
  rw [ht]at EY
  have PY:=hid EY
  have hsr:=ow.turn.size
  have hlo:=ow.lo
  have aax:=block_lt EY
  have aay:=block_lt ow.row.choose_spec.1
  have HH:=hid (iX wr bp B r 0 ow.tk [105,109,112,111,114,116])
  clear hinv hf hlr ow hwf ht EY
  go_wp2_with fail
  refine(HH.out).mono ?_
  rintro e w2 h2
  rcases hq:dN [105,109,112,111,114,116] r with g | ⟨b,r2⟩
  ·exact(fP hq).elim
  ·obtain⟨v2,rfl,tn,rfl,kn⟩:=h2.aL hq
   have hs2:=tn.size
   have HT2:=hid (aA vV.out.turn tn)
   have jV:=hid kn
   have sQ:=hid (ah vV.out.res tn (by omega))
   have NW:=hid (ah PY.out tn (by omega))
   obtain⟨vi,hmb,hrow,hnt⟩:=vV.out.row
   obtain⟨Ai,ci,rfl,hci,hcm⟩:=hrow.shape
   have Qh:=hid (ah hmb tn (by omega))
   have CZ:=hid (hrow.turn iC tn (fun g hg e=>by have:=(hrow.lt g hg).1;omega) (fun g _ h e=>by omega))
   have jU:=hid hq
   clear h2 tn kn hq hmb hrow
   cases b
   ·have HA2:Hid (Pr.good l r2=A):=hid ((aj jU.out).symm.trans HL.out)
    obtain⟨A2,hA2⟩:∃A2,fE r2.length [] r2=A2:=⟨_,rfl⟩
    have HD2:Hid (Q8 A2 (fun d=>aG (⟨l,d⟩:tO))=Q):=hid (by
     rw [←HQ.out, ←HA2.out, ←hA2]
     exact(xV Ei _ r2).symm)
    have HDA:=hid hA2
    have hr2:=Gm jU.out
    obtain⟨xi,q1,q2⟩:=CZ.out.sl iC
    have HI2:Hid (Gn w bp B w2.heap.size (.slice Ai l.length ci) xi l w2 [] r2):=hid ⟨HT2.out,jV.out,Nat.le_refl _,sQ.out,q1.mono (fun g hg h=>by rcases h with h | h <;> exact⟨h,hg⟩),dB iC (fun g hg h=>by rcases h with h | h <;> exact⟨h,hg⟩) q2, _,Qh.out,fF.nil _ _ _ _ _ _⟩
    clear hA2 q1 q2
    go_wp2_with fail
    go_loopw [26] (fun _ wr=>∃(f:Nat) (m:List kg) (r:List aF),fE f m r=A2∧r.length≤f∧m.length+r.length≤8193∧Gn w bp B w2.heap.size (.slice Ai l.length ci) xi l wr m r) (fun _ wr=>leftOf wr bp)
    case atStart=>exact⟨_,[],r2,HDA.out,Nat.le_refl _,by have:=L6.out;simp;omega,HI2.out⟩
    case round=>
     obtain⟨f,m,r,hinv,hf,hmr,ow⟩:=hrel
     have hwf:=ow.tk.wf
     have hpos:=hwf.pos
     obtain⟨f,rfl⟩:∃f',f=f'+1:=⟨f - 1,by omega⟩
     obtain⟨t,ht⟩:∃t,aU r=t:=⟨_,rfl⟩
     have Ri:Hid (∀b,(t.kind==0)=b→(if b then aG m else au nY fun d=>fE f (m++[d])) r=A2):=hid (fun b hb=>by rw [←hinv, ←hb, ←ht];rfl)
     have Td:=hid ow.tk.left
     have HF3:=hid hf
     have R4:=hid hmr
     have vW:=hid ow
     have Xi:=hid hwf
     have VW:=ow.turn.size
     have aaB:=block_lt ow.row.choose_spec.1
     have AQ:=hid (jq wr bp B r 0 ow.tk)
     rw [ht]at AQ
     have hfk:∀w:World,(Instr.field 70 (.agg #[.int .i64 t.kind,sv t.text, .int .i64 (t.line:Nat), .int .i64 (t.col:Nat)]) 0).run Tryz.prog w= .ok (.int .i64 t.kind) w:=fun _=>rfl
     clear hinv hf hmr ow hwf ht
     unfold nL at AQ
     go_wp2_with fail
     refine(AQ.out).mono ?_
     rintro e w3 ⟨rfl,hb3⟩
     have t3:=Turn.of_below (F:=fun k=>k=bp) hb3
     have hs3:=hb3.size
     have HT3:=hid (aA vW.out.turn t3)
     have jm:=hid (vW.out.tk.below hb3)
     have iR:=hid (ah vW.out.res t3 (by omega))
     have Te:=hid (vW.out.sl.turn t3 (fun g _ h e=>by have:=h.1;omega))
     have Tf:=hid (bA iC t3 (fun g _ h e=>by have:=h.1;omega) vW.out.imps)
     obtain⟨vd,hmb,hrow⟩:=vW.out.row
     obtain⟨Ad,cd,rfl,hcd,aaC⟩:=hrow.shape
     have hbw2:=vW.out.bs
     have Qi:=hid (ah hmb t3 (by omega))
     have mV:=hid (hrow.turn l9 t3 (fun g hg e=>by have:=(hrow.lt g hg).1;omega) (fun g _ h e=>by omega))
     have Tg:=hid hrow.lt
     clear hb3 t3 hmb hrow
     cases hk0:(t.kind==0)
     ·have hk1:(t.kind != 0)=true:=by simp only [bne,hk0,Bool.not_false]
      have NI:Hid (au nY (fun d=>fE f (m++[d])) r=A2):=hid (Ri.out false hk0)
      have Ti:=yj Qi.out
      have P1:=hid (fun(w':World) (h:Turn (fun j=>j=bp∨w2.heap.size≤j) w3 w')=>aI Ti.2.1 h (by omega))
      have HD0:Hid (Turn (fun j=>j=bp∨w2.heap.size≤j) w3 w3.drew):=hid ⟨rfl,rfl,rfl,Nat.le_refl _,fun _ _ _=>rfl⟩
      have jX:Hid (Turn (fun j=>j=bp) w3 w3.drew):=hid ⟨rfl,rfl,rfl,Nat.le_refl _,fun _ _ _=>rfl⟩
      clear Ti hk0
      go_wp2_with fail
      refine bM (S:=fun w'=>Turn (fun j=>j=bp∨w2.heap.size≤j) w3 w') (x:=7) (by kernel_rfl) ?_
      try simp only [Act.put,List.getElem_toArray,List.getElem_cons_zero,List.getElem_cons_succ,List.setIfInBounds_toArray,List.set_cons_zero,List.set_cons_succ]
      refine tx 0 (.pointer (some ⟨w.heap.size+1,1,none⟩)) HD0.out ?_
      refine jW 1 (.slice Ad m.length cd) P1.out HD0.out ?_
      refine tx 2 (.pointer (some ⟨bp,0,none⟩)) HD0.out ?_
      refine ay (rs:=[3]) (by kernel_rfl) (by simp) ?_
      refine av.cons rfl (fun K hK=> ?_) (av.nil)
      go_simp
      refine(KO w3.drew bp B r jm.out).mono ?_
      rintro e w4 h4
      rcases hq:nY r with g | ⟨x,r4⟩
      ·obtain⟨rfl,tn,bn⟩:=h4.bF hq
       have e1:Pr.bad g=A2:=(aB hq).symm.trans NI.out
       exact⟨rfl,aD.fail (by rw [←HD2.out, ←e1];rfl) (dI.mk2 (aA HT3.out (aA jX.out tn)) bn)⟩
      ·obtain⟨v4,rfl,tn,⟨z,rfl,hz⟩,kn⟩:=h4.aL hq
       obtain⟨A1,n1,c1,Xj,n2,c2,k4,s4,a4,b4,o4,A3,n3,c3,A4,n4,c4,A5,n5,c5,rfl⟩:=hz.shape'
       have t4:=aA jX.out tn
       have hs4:=t4.size
       have fM:=hid t4
       have vZ:=hid (t4.mono (G:=fun j=>j=bp∨w2.heap.size≤j) (fun _ _ h=> .inl h))
       have jB:=hid kn
       have vU:=hid (hz.mono (G:=fun j=>w3.heap.size≤j) (fun _ _ h=>h))
       have HR4:=hid (mV.out.turn l9 t4 (fun g hg e=>by have:=(Tg.out g hg).1;omega) (fun g _ h e=>by omega))
       have Qj:=hid (ah Qi.out t4 (by omega))
       have ig:=hid (ah iR.out t4 (by omega))
       have Xk:=hid (Te.out.turn t4 (fun g _ h e=>by have:=h.1;omega))
       have Xl:=hid (bA iC t4 (fun g _ h e=>by have:=h.1;omega) Tf.out)
       have Qm:=hid (Fh hq Xi.out)
       have fu:Hid (fE f (m++[x]) r4=A2):=hid ((aj hq).symm.trans NI.out)
       clear h4 tn hz kn hq t4
       refine hK.out _ _ vZ.out ?_
       clear hK K
       try simp only [Act.put,List.getElem_toArray,List.getElem_cons_zero,List.getElem_cons_succ,List.setIfInBounds_toArray,List.set_cons_zero,List.set_cons_succ]
       refine ay (rs:=[4]) (by kernel_rfl) (by simp) ?_
       refine av.cons rfl (fun K hK=> ?_) (av.nil)
       go_simp
       have BA:=hid (vZ.out.trans (Turn.alloc (fun j=>j=bp∨w2.heap.size≤j) w4 (.cells #[sv x.name, .bool x.exp, .slice A1 n1 c1,sv x.param, .slice Xj n2 c2, .int .i64 k4,sv s4, .int .i64 a4, .int .i64 b4, .int .i64 o4, .slice A3 n3 c3, .slice A4 n4 c4, .slice A5 n5 c5, .int .i64 x.line, .int .i64 x.col] 51)) (fun _ _ h=>h))
       refine hK.out _ _ BA.out ?_
       clear hK K
       try simp only [Act.put,List.getElem_toArray,List.getElem_cons_zero,List.getElem_cons_succ,List.setIfInBounds_toArray,List.set_cons_zero,List.set_cons_succ]
       refine ay (rs:=[5]) (by kernel_rfl) (by simp) ?_
       refine av.cons rfl (fun K hK=> ?_) (av.nil)
       obtain⟨ys,hy,hr⟩:=HR4.out
       have hyl:ys.length=m.length*15:=by have:=hy.1;simpa using this
       refine dX rfl (.tmp 33) (.tmp 36) _ rfl w2.heap.size Tc (.slice Ad m.length cd) (.slice (some ⟨w4.heap.size,0,none⟩) 1 1) rfl rfl (hy.alloc (.cells #[sv x.name, .bool x.exp, .slice A1 n1 c1,sv x.param, .slice Xj n2 c2, .int .i64 k4,sv s4, .int .i64 a4, .int .i64 b4, .int .i64 o4, .slice A3 n3 c3, .slice A4 n4 c4, .slice A5 n5 c5, .int .i64 x.line, .int .i64 x.col] 51)) (fD w4 #[sv x.name, .bool x.exp, .slice A1 n1 c1,sv x.param, .slice Xj n2 c2, .int .i64 k4,sv s4, .int .i64 a4, .int .i64 b4, .int .i64 o4, .slice A3 n3 c3, .slice A4 n4 c4, .slice A5 n5 c5, .int .i64 x.line, .int .i64 x.col] 51 15 1 rfl (by decide)) (l9.one vU.out) (by have:=R4.out;simp [maxLen];omega) (by have:=R4.out;simp;omega) (by simp;omega) (fun v7 w7 n7 aK fV dV=> ?_)
       obtain⟨A7,c7,rfl, _, _⟩:=jd aK
       obtain⟨vg,zN,t7⟩:=sZ (x:=x) l9 hy hr (vU.out.mono (fun g _ h=>⟨fun e=>by have:=(Tg.out g e).2;omega,by omega⟩)) fV dV aK (by omega)
       have rz:=hy.lt
       have vo:=hid vg
       have iL:=hid t7
       have iM:=hid (vZ.out.trans (t7.mono (G:=fun j=>j=bp∨w2.heap.size≤j) (fun j _ e=> .inr (rz j e).1)) (fun _ _ h=>h))
       have Qo:=hid rz
       have gI:=ah Qj.out t7 (fun e=>by have:=(rz _ e).1;omega)
       have Qp:=hid gI
       have t17:w7.cell? ⟨w.heap.size+1,1,none⟩=some (.slice Ad m.length cd):=(cell_of_row _ _ _ _ _ _ gI).trans rfl
       have z17:∀i,w7.frozen? ⟨w.heap.size+1,i,none⟩=false:=fun i=>frozen_of_row _ _ _ _ _ gI
       subst zN
       clear aK fV dV vg t7 hy hr gI
       refine hK.out _ _ iM.out ?_
       clear hK K
       try simp only [Act.put,List.getElem_toArray,List.getElem_cons_zero,List.getElem_cons_succ,List.setIfInBounds_toArray,List.set_cons_zero,List.set_cons_succ]
       refine tx 6 (.pointer (some ⟨w.heap.size+1,1,none⟩)) iM.out ?_
       refine ay (rs:=[7]) (by kernel_rfl) (by simp) ?_
       refine av.past rfl (by kernel_rfl) (fun K hK=> ?_) (av.nil)
       go_simp
       refine hK.out _ _ ?_
       clear hK K
       try simp only [Act.put,List.getElem_toArray,List.getElem_cons_zero,List.getElem_cons_succ,List.setIfInBounds_toArray,List.set_cons_zero,List.set_cons_succ]
       refine aO (by kernel_rfl) ?_ _
       have tl:=ak w7 (w.heap.size+1) 1 (.slice A7 (m.length+1) c7)
       have rz:=Qo.out
       have hLS:=Qm.out
       have hF:=HF3.out
       have hMR:=R4.out
       have CK:Gn w bp B w2.heap.size (.slice Ai l.length ci) xi l (w7.setCell ⟨w.heap.size+1,1,none⟩ (.slice A7 (m.length+1) c7)) (m++[x]) r4:=
        ⟨((aA HT3.out fM.out).trans iL.out (fun i hi e=>by have:=(rz i e).1;omega)).trans tl (fun i hi e=>by omega),
         (jB.out.turn iL.out (fun e=>by have:=(rz _ e).1;omega) (fun k hk e=>by have:=(rz _ e).1;omega)).turn tl (by omega) (fun k hk e=>by omega),by have:=iL.out.size;simp;omega,
         ah (ah ig.out iL.out (fun e=>by have:=(rz _ e).1;omega)) tl (by omega),
         (Xk.out.turn iL.out (fun g _ h e=>by have:=(rz _ e).1;have:=h.2;omega)).turn tl (fun g _ h e=>by have:=h.1;omega),
         bA iC tl (fun g _ h e=>by have:=h.1;omega) (bA iC iL.out (fun g _ h e=>by have:=(rz _ e).1;have:=h.2;omega) Xl.out),
         _,heap_setCell_same _ _ 1 _ _ _ Qp.out,by
          have:=vo.out.turn l9 tl (fun g hg e=>by have:=(vo.out.lt g hg).1;omega) (fun g _ h e=>by omega)
          simpa using this⟩
       have Xm:∃(f:Nat) (m':List kg) (r:List aF),fE f m' r=A2∧r.length≤f∧m'.length+r.length≤8193∧Gn w bp B w2.heap.size (.slice Ai l.length ci) xi l (w7.setCell ⟨w.heap.size+1,1,none⟩ (.slice A7 (m.length+1) c7)) m' r:=⟨f, _,r4,fu.out,by omega,by simp;omega,CK⟩
       go_roundw
       case rel=>(repeat apply Exists.intro);exact⟨Xm,rfl⟩
       case measure=>rw [CK.tk.left,Td.out];omega
     ·have hk1:(t.kind != 0)=false:=by simp only [bne,hk0,Bool.not_true]
      have NI:Hid (Pr.good m r=A2):=hid (Ri.out true hk0)
      have Jk:Hid (Pr.good (⟨l,m⟩:tO) r=Q):=hid (by rw [←HD2.out, ←NI.out];rfl)
      obtain⟨m0,m1,mz⟩:=yj Qi.out
      obtain⟨c0,c1,cz⟩:=yj iR.out
      clear hk0
      go_wp2_with fail
      have tF:=(ak w3 w.heap.size 0 (.slice Ai l.length ci)).trans (ak _ w.heap.size 1 (.slice Ad m.length cd)) (fun _ _ h=>h)
      refine bodyPost_ret (aW rfl rfl (heap_setCell_same _ _ 1 _ _ (.slice Ad m.length cd) (heap_setCell_same _ _ 0 _ _ (.slice Ai l.length ci) iR.out)) Tryz.underlying40 rfl (by kernel_rfl)) rfl ?_
      obtain⟨xd,d1,d2⟩:=mV.out.sl l9
      exact aD.done Jk.out.symm (HT3.out.trans tF (fun i hi e=>by omega)) ⟨_,rfl, _, _, _, _,rfl,(Te.out.turn tF (fun g _ h e=>by have:=h.1;omega)).mono (fun g _ h=>by have:=h.1;omega),dB iC (fun g _ h=>by have:=h.1;omega) (bA iC tF (fun g _ h e=>by have:=h.1;omega) Tf.out),(d1.turn tF (fun g _ h e=>by rcases h with h | h <;> omega)).mono (fun g _ h=>by rcases h with h | h <;> omega),dB l9 (fun g _ h=>by rcases h with h | h <;> omega) (bA l9 tF (fun g _ h e=>by rcases h with h | h <;> omega) d2)⟩ (jm.out.turn tF (by omega) (fun k hk e=>by omega))
   ·have HL2:Hid (au (kC t) (fun i=>lX f (l++[i])) r2=A):=hid ((aj jU.out).symm.trans HL.out)
    have Tj:=yj Qh.out
    have KQ:=bK NW.out
    have P1:=hid (fun(w':World) (h:Turn (fun j=>j=bp∨w2.heap.size≤j∨(Value.slice Ai l.length ci).ownBlock=some j) w2 w')=>aI Tj.1 h (fun e=>by rcases e with e | e | e;omega;omega;have:=(CZ.out.lt _ e).1;omega))
    have jX:Hid (Turn (fun j=>j=bp) w2 w2.drew):=hid ⟨rfl,rfl,rfl,Nat.le_refl _,fun _ _ _=>rfl⟩
    have HD0:=hid (jX.out.mono (G:=fun j=>j=bp∨w2.heap.size≤j∨(Value.slice Ai l.length ci).ownBlock=some j) (fun _ _ h=> .inl h))
    have KR:¬(tb=bp∨w2.heap.size≤tb∨(Value.slice Ai l.length ci).ownBlock=some tb):=fun e=>by rcases e with e | e | e;omega;omega;exact hnt e
    have PT:=hid (fun(w':World) (h:Turn (fun j=>j=bp∨w2.heap.size≤j∨(Value.slice Ai l.length ci).ownBlock=some j) w2 w')=>(⟨aI KQ.1 h KR,aI KQ.2.1 h KR,aI KQ.2.2.1 h KR,aI KQ.2.2.2.1 h KR⟩:w'.cell? ⟨tb,0,none⟩=some (.int .i64 t.kind)∧w'.cell? ⟨tb,1,none⟩=some (sv t.text)∧w'.cell? ⟨tb,2,none⟩=some (.int .i64 (t.line:Nat))∧w'.cell? ⟨tb,3,none⟩=some (.int .i64 (t.col:Nat))))
    clear Tj KQ KR
    go_wp2_with fail
    refine bM (S:=fun w'=>Turn (fun j=>j=bp∨w2.heap.size≤j∨(Value.slice Ai l.length ci).ownBlock=some j) w2 w') (x:=8) (by kernel_rfl) ?_
    try simp only [Act.put,List.getElem_toArray,List.getElem_cons_zero,List.getElem_cons_succ,List.setIfInBounds_toArray,List.set_cons_zero,List.set_cons_succ]
    refine tx 0 (.pointer (some ⟨w.heap.size+1,0,none⟩)) HD0.out ?_
    refine jW 1 (.slice Ai l.length ci) P1.out HD0.out ?_
    refine tx 2 (.pointer (some ⟨bp,0,none⟩)) HD0.out ?_
    refine jW 3 (.agg #[.int .i64 t.kind,sv t.text, .int .i64 (t.line:Nat), .int .i64 (t.col:Nat)]) PT.out HD0.out ?_
    refine ay (rs:=[4]) (by kernel_rfl) (by simp) ?_
    refine av.cons rfl (fun K hK=> ?_) (av.nil)
    go_simp
    refine(AV w2.drew bp B r2 jV.out t).mono ?_
    rintro e w4 h4
    rcases hq:kC t r2 with g | ⟨x,r4⟩
    ·obtain⟨rfl,tn,bn⟩:=h4.bF hq
     have e1:Pr.bad g=A:=(aB hq).symm.trans HL2.out
     exact⟨rfl,aD.fail (by rw [←HQ.out, ←e1];rfl) (dI.mk2 (aA HT2.out (aA jX.out tn)) bn)⟩
    ·obtain⟨v4,rfl,tn,⟨z,rfl,hz⟩,kn⟩:=h4.aL hq
     obtain⟨A1,n1,c1,rfl⟩:=hz.shape'
     have t4:=aA jX.out tn
     have hs4:=t4.size
     have fM:=hid t4
     have vZ:=hid (t4.mono (G:=fun j=>j=bp∨w2.heap.size≤j∨(Value.slice Ai l.length ci).ownBlock=some j) (fun _ _ h=> .inl h))
     have jB:=hid kn
     have vU:=hid (hz.mono (G:=fun j=>w2.heap.size≤j) (fun _ _ h=>h))
     have HR4:=hid (CZ.out.turn iC t4 (fun g hg e=>by have:=(CZ.out.lt g hg).1;omega) (fun g _ h e=>by omega))
     have Qj:=hid (ah Qh.out t4 (by omega))
     have ig:=hid (ah sQ.out t4 (by omega))
     have Qm:=hid (show r4.length<r.length from Nat.lt_of_le_of_lt ((Sf.import_ t).good jV.out.wf hq).2.length_le (pR jU.out ze.out.pos))
     have fu:Hid (lX f (l++[x]) r4=A):=hid ((aj hq).symm.trans HL2.out)
     have Xn:=hid CZ.out.lt
     have Qq:=hid (ah NW.out t4 (by omega))
     clear h4 tn hz kn hq t4
     refine hK.out _ _ vZ.out ?_
     clear hK K
     try simp only [Act.put,List.getElem_toArray,List.getElem_cons_zero,List.getElem_cons_succ,List.setIfInBounds_toArray,List.set_cons_zero,List.set_cons_succ]
     refine ay (rs:=[5]) (by kernel_rfl) (by simp) ?_
     refine av.cons rfl (fun K hK=> ?_) (av.nil)
     go_simp
     have BA:=hid (vZ.out.trans (Turn.alloc (fun j=>j=bp∨w2.heap.size≤j∨(Value.slice Ai l.length ci).ownBlock=some j) w4 (.cells #[sv x.from_, .slice A1 n1 c1, .int .i64 x.line, .int .i64 x.col] 88)) (fun _ _ h=>h))
     refine hK.out _ _ BA.out ?_
     clear hK K
     try simp only [Act.put,List.getElem_toArray,List.getElem_cons_zero,List.getElem_cons_succ,List.setIfInBounds_toArray,List.set_cons_zero,List.set_cons_succ]
     refine ay (rs:=[6]) (by kernel_rfl) (by simp) ?_
     refine av.cons rfl (fun K hK=> ?_) (av.nil)
     obtain⟨ys,hy,hr⟩:=HR4.out
     have hyl:ys.length=l.length*4:=by have:=hy.1;simpa using this
     refine dX rfl (.tmp 18) (.tmp 22) _ rfl (w.heap.size+2) Ta (.slice Ai l.length ci) (.slice (some ⟨w4.heap.size,0,none⟩) 1 1) rfl rfl (hy.alloc (.cells #[sv x.from_, .slice A1 n1 c1, .int .i64 x.line, .int .i64 x.col] 88)) (fD w4 #[sv x.from_, .slice A1 n1 c1, .int .i64 x.line, .int .i64 x.col] 88 4 1 rfl (by decide)) (iC.one vU.out) (by have:=L6.out;simp [maxLen];omega) (by have:=L6.out;simp;omega) (by simp;omega) (fun v7 w7 n7 aK fV dV=> ?_)
     obtain⟨A7,c7,rfl, _, _⟩:=jd aK
     obtain⟨vg,zN,t7⟩:=sZ (x:=x) iC hy hr (vU.out.mono (fun g _ h=>⟨fun e=>by have:=(Xn.out g e).2;omega,by omega⟩)) fV dV aK (by omega)
     have vo:=hid vg
     have iL:=hid t7
     have iM:=hid (vZ.out.trans (t7.mono (G:=fun j=>j=bp∨w2.heap.size≤j∨(Value.slice Ai l.length ci).ownBlock=some j) (fun j _ e=> .inr (.inr e))) (fun _ _ h=>h))
     have Qo:=hid hy.lt
     have gI:=ah Qj.out t7 (fun e=>by have:=(hy.lt _ e).1;omega)
     have Qp:=hid gI
     have t17:w7.cell? ⟨w.heap.size+1,0,none⟩=some (.slice Ai l.length ci):=(cell_of_row _ _ _ _ _ _ gI).trans rfl
     have z17:∀i,w7.frozen? ⟨w.heap.size+1,i,none⟩=false:=fun i=>frozen_of_row _ _ _ _ _ gI
     subst zN
     clear aK fV dV vg t7 hy hr gI
     refine hK.out _ _ iM.out ?_
     clear hK K
     try simp only [Act.put,List.getElem_toArray,List.getElem_cons_zero,List.getElem_cons_succ,List.setIfInBounds_toArray,List.set_cons_zero,List.set_cons_succ]
     refine tx 7 (.pointer (some ⟨w.heap.size+1,0,none⟩)) iM.out ?_
     refine ay (rs:=[8]) (by kernel_rfl) (by simp) ?_
     refine av.past rfl (by kernel_rfl) (fun K hK=> ?_) (av.nil)
     go_simp
     refine hK.out _ _ ?_
     clear hK K
     try simp only [Act.put,List.getElem_toArray,List.getElem_cons_zero,List.getElem_cons_succ,List.setIfInBounds_toArray,List.set_cons_zero,List.set_cons_succ]
     refine aO (by kernel_rfl) ?_ _
     have rz:=Qo.out
     have hs7:=iL.out.size
     have tl:=ak w7 (w.heap.size+1) 0 (.slice A7 (l.length+1) c7)
     have tk7:=ah (ah Qq.out iL.out hnt) tl (by omega)
     have uh:(w7.setCell ⟨w.heap.size+1,0,none⟩ (.slice A7 (l.length+1) c7)).heap.size=w7.heap.size:=by simp
     have lH:=hid (((aA HT2.out fM.out).trans iL.out (fun i hi e=>by have:=(rz i e).1;omega)).trans tl (fun i hi e=>by omega))
     have qw:=hid ((jB.out.turn iL.out (fun e=>by have:=(rz _ e).1;omega) (fun k hk e=>by have:=(rz _ e).1;omega)).turn tl (by omega) (fun k hk e=>by omega))
     have iV:=hid (ah (ah ig.out iL.out (fun e=>by have:=(rz _ e).1;omega)) tl (by omega))
     have Xo:=hid (show(w7.setCell ⟨w.heap.size+1,0,none⟩ (.slice A7 (l.length+1) c7)).heap[w.heap.size+1]? =some (.cells #[.slice A7 (l.length+1) c7, .slice none 0 0] 40 (0,0))from heap_setCell_same _ _ 0 _ _ _ Qp.out)
     have Qr:=vo.out.turn iC tl (fun g hg e=>by have:=(vo.out.lt g hg).1;omega) (fun g _ h e=>by omega)
     have Xp:=hid Qr
     have Tk:=Qr.lt
     have Xq:=yT (w7.setCell ⟨w.heap.size+1,0,none⟩ (.slice A7 (l.length+1) c7)) (.cells #[.int .i64 t.kind,sv t.text, .int .i64 (t.line:Nat), .int .i64 (t.col:Nat)] 70)
     rw [uh]at Xq
     have Xr:=hid Xq
     have UR:=hid (jq ((w7.setCell ⟨w.heap.size+1,0,none⟩ (.slice A7 (l.length+1) c7)).alloc (.cells #[.int .i64 t.kind,sv t.text, .int .i64 (t.line:Nat), .int .i64 (t.col:Nat)] 70)) bp B r4 0 (qw.out.below (new1 _ _)))
     obtain⟨k0,k1,k2,k3,kz⟩:=bK (ah Qq.out iL.out hnt)
     have aaF:tb<w7.heap.size:=block_lt (ah Qq.out iL.out hnt)
     have aaG:¬tb=w.heap.size+1:=by omega
     have aaH:¬w.heap.size+1=tb:=by omega
     clear tk7 Qr tl Xq
     unfold nL at UR
     go_wp2_with fail
     refine(UR.out).mono ?_
     rintro e oC ⟨rfl,vY⟩
     have Qg:=vY.size
     simp at Qg
     have vY:=vY
     have t10:Turn (fun _=>False) (w7.setCell ⟨w.heap.size+1,0,none⟩ (.slice A7 (l.length+1) c7)) oC:=(Turn.alloc _ _ _).trans (Turn.of_below (F:=fun _=>False) vY) (fun _ _ h=>h)
     have hb0:=ah Xr.out (Turn.of_below (F:=fun _=>False) vY) id
     obtain⟨n0,n1,n2,n3,nz⟩:=bK hb0
     have tP:=dx oC w7.heap.size (.int .i64 (aU r4).kind) (sv (aU r4).text) (.int .i64 ((aU r4).line:Nat)) (.int .i64 ((aU r4).col:Nat))
     have t11:Turn (fun _=>False) (w7.setCell ⟨w.heap.size+1,0,none⟩ (.slice A7 (l.length+1) c7)) (cB oC w7.heap.size (.int .i64 (aU r4).kind) (sv (aU r4).text) (.int .i64 ((aU r4).line:Nat)) (.int .i64 ((aU r4).col:Nat))):=t10.trans tP (fun i hi e=>by rw [uh]at hi;omega)
     have CK:KP w bp B w7.heap.size (cB oC w7.heap.size (.int .i64 (aU r4).kind) (sv (aU r4).text) (.int .i64 ((aU r4).line:Nat)) (.int .i64 ((aU r4).col:Nat))) (l++[x]) r4:=
      ⟨lH.out.trans t11 (fun _ _ h=>h.elim),qw.out.turn t11 id (fun _ _=>id),ah iV.out t11 id,aV hb0 _ _ _ _,by omega, _,ah Xo.out t11 id,by
       have:=Xp.out.turn iC t11 (fun _ _=>id) (fun _ _ _=>id)
       simpa using this,fun e=>by have:=(Tk _ e).2;rw [uh]at this;omega⟩
     have YO:=hid CK
     have hLS:=Qm.out
     have hF:=HF.out
     have hLR:=L6.out
     clear t10 tP t11 CK hb0 vY
     go_wp2_with fail
     go_roundw
     case rel=>exact⟨w7.heap.size,f,l++[x],r4,rfl,fu.out,by omega,by simp;omega,YO.out⟩
     case measure=>rw [YO.out.tk.left,HLEN.out];omega
end Go.Proofs.YtmbppnbekkbibaaGreatDoor
end
section
set_option linter.unusedVariables false
namespace Go.Proofs.YtmbppnbekkbibaaGreatDoor
def rE (k:Nat) (t:aF):aF:={ t with line:=t.line+k}
mutual
def yV (k:Nat):bD→bD
 | .mk kd t n l c ts ns ks=> .mk kd t n (l+k) c ts ns (Fp k ks)
def Fp (k:Nat):List bD→List bD
 | []=>[]
 | x :: l=>yV k x :: Fp k l
end
theorem C8 (k:Nat):∀l:List bD,Fp k l=l.map (yV k)
 | []=>by simp [Fp]
 | t :: l=>by simp [Fp,C8 k l]
theorem mg (k:Nat) (kd:Int) (text:Bt) (n:Int) (h:aF) (types:List bO) (names:List Bt) (kids:List bD):aJ kd text n (rE k h) types names (kids.map (yV k))=yV k (aJ kd text n h types names kids):=by
 unfold aJ
 rw [yV,C8]
 simp [rE]
theorem kI (k:Nat) (kd:Int) (text:Bt) (n:Int) (h:aF) (types:List bO) (names:List Bt):aJ kd text n (rE k h) types names []=yV k (aJ kd text n h types names []):=mg k kd text n h types names []
def yu (X:List aF):Prop:=∃x r,X=x :: r∧(x.kind=0∨(x.kind=5∧x.text=[41]))
theorem KS (k:Nat) (t:aF) (s:Bt):kU (rE k t) s=kU t s:=rfl
theorem nT {E:aF} (hE:E.kind=0) (s:Bt):kU E s=false:=by unfold kU;rw [hE];rfl
theorem tq {x:aF} (h:x.kind=0∨(x.kind=5∧x.text=[41])) {s:Bt} (hs:s≠[41]):kU x s=false:=by
 rcases h with h | ⟨h,h2⟩
 ·exact nT h s
 ·unfold kU;rw [h2,beq_false_of_ne (Ne.symm hs),Bool.and_false]
section
variable {α β:Type} (k:Nat) (D:Prop) (E:aF) (X:List aF)
def aC (R:α→α→List aF→Prop) (p q:Ps α) (u:List aF):Prop:=∀a r,p (u++[E])= .good a r→
 (∃v b,r=v++[E]∧v<:+u∧q (u.map (rE k)++X)= .good b (v.map (rE k)++X)∧R a b v)∨(D∧∃l c,q (u.map (rE k)++X)= .bad (l,c,6))
end
section
variable {α β:Type} {k:Nat} {D:Prop} {E:aF} {X:List aF} {R:α→α→List aF→Prop} {S:β→β→List aF→Prop} {u:List aF}
theorem aC.ret {a b:α} (h:R a b u):aC k D E X R (aG a) (aG b) u:=by
 intro x r hx
 injection hx with h1 h2
 subst h1 h2
 exact .inl ⟨u,b,rfl,List.suffix_refl _,rfl,h⟩
theorem aC.then_ {p q:Ps α} {f g:α→Ps β} (h:aC k D E X R p q u) (hf:∀a b v,v<:+u→R a b v→aC k D E X S (f a) (g b) v):aC k D E X S (au p f) (au q g) u:=by
 intro x r hx
 unfold au at hx
 rcases hp:p (u++[E])with d | ⟨a,r1⟩
 ·rw [hp]at hx;cases hx
 ·rw [hp]at hx
  rcases h a r1 hp with⟨v,b,rfl,hv,hq,hR⟩ | ⟨hD,l,c,hq⟩
  ·rcases hf a b v hv hR x r hx with⟨v2,b2,e2,hv2,hq2,hS⟩ | ⟨hD,l,c,hq2⟩
   ·exact .inl ⟨v2,b2,e2,hv2.trans hv,by rw [aj hq];exact hq2,hS⟩
   ·exact .inr ⟨hD,l,c,by rw [aj hq];exact hq2⟩
  ·exact .inr ⟨hD,l,c,aB hq⟩
theorem aC.bad {p q:Ps α} (h:∀a r,p (u++[E])≠ .good a r):aC k D E X R p q u:=fun a r hx=>absurd hx (h a r)
theorem aC.fail {e:Int} {q:Ps α}:aC k D E X R (ji e) q u:= .bad fun a r h=>by cases h
theorem aC.mono {p q:Ps α} {R':α→α→List aF→Prop} (h:aC k D E X R p q u) (hR:∀a b v,R a b v→R' a b v):aC k D E X R' p q u:=fun a r hx=>by
 rcases h a r hx with⟨v,b,h1,h2,h3,h4⟩ | h
 ·exact .inl ⟨v,b,h1,h2,h3,hR _ _ _ h4⟩
 ·exact .inr h
theorem aC.fuel {p q:Nat→Ps α} (h:∀f g,u.length<f→u.length<g→aC k D E X R (p f) (q g) u) (hX:yu X):aC k D E X R (fun ts=>p ts.length ts) (fun ts=>q ts.length ts) u:=by
 obtain⟨x,X',rfl, _⟩:=hX
 have:=h (u++[E]).length (u.map (rE k)++x :: X').length (by simp) (by simp)
 exact this
variable (hE:E.kind=0) (hX:yu X)
include hE hX
theorem aC.dO {l:List Bt} (hl:∀s∈l,s≠[41]):aC k D E X (fun i j v=>i=j∧((i=none∧v=u)∨(∃t n,i=some n∧u=t :: v))) (bS l) (bS l) u:=by
 obtain⟨x,X',rfl,hx⟩:=hX
 intro a r h
 cases u with
 | nil=>
  have h1:l.findIdx? (kU E)=none:=List.findIdx?_eq_none_iff.2 fun s _=>nT hE s
  have h2:l.findIdx? (kU x)=none:=List.findIdx?_eq_none_iff.2 fun s hs=>tq hx (hl s hs)
  rw [List.nil_append,ku h1]at h
  injection h with e1 e2
  subst e1 e2
  exact .inl ⟨[],none,rfl,List.suffix_refl _,ku h2 _,rfl, .inl ⟨rfl,rfl⟩⟩
 | cons t u=>
  rw [List.cons_append]at h
  rcases hf:l.findIdx? (kU t)with _ | i
  ·rw [ku hf]at h
   injection h with e1 e2
   subst e1 e2
   exact .inl ⟨t :: u,none,rfl,List.suffix_refl _,ku (t:=rE k t) hf _,rfl, .inl ⟨rfl,rfl⟩⟩
  ·rw [rV hf]at h
   injection h with e1 e2
   subst e1 e2
   exact .inl ⟨u,some i,rfl,List.suffix_cons _ _,rV (t:=rE k t) hf _,rfl, .inr ⟨t,i,rfl,rfl⟩⟩
theorem aC.has {s:Bt} (hs:s≠[41]):aC k D E X (fun i j v=>i=j∧((i=false∧v=u)∨(∃t,i=true∧u=t :: v))) (dN s) (dN s) u:=by
 obtain⟨x,X',rfl,hx⟩:=hX
 intro a r h
 cases u with
 | nil=>
  rw [List.nil_append,tQ (nT hE s)]at h
  injection h with e1 e2
  subst e1 e2
  exact .inl ⟨[],false,rfl,List.suffix_refl _,tQ (tq hx hs) _,rfl, .inl ⟨rfl,rfl⟩⟩
 | cons t u=>
  rw [List.cons_append]at h
  cases hb:kU t s
  ·rw [tQ hb]at h
   injection h with e1 e2
   subst e1 e2
   exact .inl ⟨t :: u,false,rfl,List.suffix_refl _,tQ (t:=rE k t) hb _,rfl, .inl ⟨rfl,rfl⟩⟩
  ·rw [rU hb]at h
   injection h with e1 e2
   subst e1 e2
   exact .inl ⟨u,true,rfl,List.suffix_cons _ _,rU (t:=rE k t) hb _,rfl, .inr ⟨t,rfl,rfl⟩⟩
omit hX in
theorem aC.want {s:Bt}:aC k D E X (fun _ _ v=>∃t,u=t :: v) (aH s) (aH s) u:=by
 intro a r h
 unfold aH at h ⊢
 cases u with
 | nil=>
  rw [List.nil_append,aj (tQ (nT hE s) _)]at h
  cases h
 | cons t u=>
  rw [List.cons_append]at h
  cases hb:kU t s
  ·rw [aj (tQ hb _)]at h
   cases h
  ·rw [aj (rU hb _)]at h
   injection h with e1 e2
   subst e2
   exact .inl ⟨u,(),rfl,List.suffix_cons _ _,aj (rU (t:=rE k t) hb _),t,rfl⟩
omit hX in
theorem aC.wants:∀(l:List Bt) {u:List aF},aC k D E X (fun _ _ _=>True) (iZ l) (iZ l) u
 | [],u=> .ret trivial
 | s :: l,u=>(aC.want hE).then_ fun _ _ v _ _=>aC.wants l
omit hX in
theorem aC.kind {n:Int} (hn:n≠0):aC k D E X (fun a b v=>a=b∧∃t,u=t :: v∧a=t.text) (dH n) (dH n) u:=by
 intro a r h
 unfold dH at h ⊢
 cases u with
 | nil=>
  simp only [List.nil_append,aU,List.headD_cons]at h
  rw [if_neg (by rw [hE];exact fun e=>hn e.symm)]at h
  cases h
 | cons t u=>
  simp only [List.cons_append,aU,List.headD_cons,List.map_cons]at h ⊢
  by_cases hk:t.kind=n
  ·rw [if_pos hk,if_neg hn]at h
   injection h with e1 e2
   subst e1 e2
   refine .inl ⟨u,t.text,rfl,List.suffix_cons _ _, ?_,rfl,t,rfl,rfl⟩
   rw [if_pos (show(rE k t).kind=n from hk),if_neg hn];rfl
  ·rw [if_neg hk]at h;cases h
omit hX in
theorem aC.name:aC k D E X (fun a b v=>a=b) nameP nameP u:=(aC.kind hE (by decide)).mono fun _ _ _ h=>h.1
omit hX hE in
theorem aC.here:aC k D E X (fun h h' v=>v=u∧∀t r,u=t :: r→h=t∧h'=rE k t) gF gF u:=by
 intro a r h
 unfold gF at h ⊢
 injection h with e1 e2
 subst e1 e2
 refine .inl ⟨u, _,rfl,List.suffix_refl _,rfl,rfl, ?_⟩
 rintro t r rfl
 exact⟨rfl,rfl⟩
omit hX hE in
theorem iD {v u:List aF} (h:v<:+u):v.length≤u.length:=h.length_le
theorem aC.Ej {one two:Ps α} {Q:α→α→Prop} (h1:∀u,aC k D E X (fun a b _=>Q a b) one two u) (n:Nat):∀(u:List aF) (f g:Nat) (l m:List α),u.length≤n→u.length<f→u.length<g→l.length=m.length→(∀x∈l.zip m,Q x.1 x.2)→
  aC k D E X (fun a b _=>a.length=b.length∧∀x∈a.zip b,Q x.1 x.2) (qI one f l) (qI two g m) u:=by
 induction n with
 | zero=>
  intro u f g l m hn hf hg hl hz
  obtain⟨f,rfl⟩:∃f',f=f'+1:=⟨f - 1,by omega⟩
  obtain⟨g,rfl⟩:∃f',g=f'+1:=⟨g - 1,by omega⟩
  refine(aC.has hE hX (by decide)).then_ fun a b v hv ⟨e,h⟩=> ?_
  subst e
  rcases h with⟨rfl,rfl⟩ | ⟨t,rfl,rfl⟩
  ·exact .ret ⟨hl,hz⟩
  ·simp at hn
 | succ n ih=>
  intro u f g l m hn hf hg hl hz
  obtain⟨f,rfl⟩:∃f',f=f'+1:=⟨f - 1,by omega⟩
  obtain⟨g,rfl⟩:∃f',g=f'+1:=⟨g - 1,by omega⟩
  refine(aC.has hE hX (by decide)).then_ fun a b v hv ⟨e,h⟩=> ?_
  subst e
  rcases h with⟨rfl,rfl⟩ | ⟨t,rfl,rfl⟩
  ·exact .ret ⟨hl,hz⟩
  ·refine(h1 v).then_ fun a b v2 hv2 hab=> ?_
   have:=iD hv2
   simp only [List.length_cons]at hn hf hg
   refine ih v2 f g _ _ (by omega) (by omega) (by omega) (by simp [hl]) ?_
   rw [List.zip_append hl]
   intro x hx
   rcases List.mem_append.1 hx with hx | hx
   ·exact hz x hx
   ·simp only [List.zip_cons_cons,List.zip_nil_right,List.mem_singleton]at hx
    subst hx;exact hab
theorem aC.sep {one two:Ps α} {Q:α→α→Prop} (h1:∀u,aC k D E X (fun a b _=>Q a b) one two u):aC k D E X (fun a b _=>a.length=b.length∧∀x∈a.zip b,Q x.1 x.2) (iG one) (iG two) u:=
 (h1 u).then_ fun a b v _ hab=>aC.fuel (p:=fun n=>qI one n [a]) (q:=fun n=>qI two n [b]) (fun f g hf hg=>aC.Ej hE hX h1 v.length v f g _ _ (Nat.le_refl _) hf hg rfl (by simpa using hab)) hX
omit hX hE in
theorem AY {a b:List α} (hl:a.length=b.length) (h:∀x∈a.zip b,x.2=x.1):b=a:=by
 induction a generalizing b with
 | nil=>cases b with | nil=>rfl | cons y b=>simp at hl
 | cons x a ih=>
  cases b with
  | nil=>simp at hl
  | cons y b=>
   have h1:=h (x,y) (by simp)
   simp only at h1
   rw [h1,ih (b:=b) (by simpa using hl) (fun z hz=>h z (by simp [hz]))]
omit hX hE in
theorem zip_map {a b:List α} {φ:α→α} (hl:a.length=b.length) (h:∀x∈a.zip b,x.2=φ x.1):b=a.map φ:=by
 induction a generalizing b with
 | nil=>cases b with | nil=>rfl | cons y b=>simp at hl
 | cons x a ih=>
  cases b with
  | nil=>simp at hl
  | cons y b=>
   have h1:=h (x,y) (by simp)
   simp only at h1
   rw [h1,ih (b:=b) (by simpa using hl) (fun z hz=>h z (by simp [hz]))];rfl
end
section
variable {k:Nat} {D:Prop} {E:aF} {X:List aF} {u:List aF} (hE:E.kind=0) (hX:yu X)
abbrev Tm:bO→bO→List aF→Prop:=fun a b _=>b=a
abbrev AZ (k:Nat):bD→bD→List aF→Prop:=fun a b _=>b=yV k a
variable {typ tu:Ps bO} (ht:∀u,aC k D E X Tm typ tu u) {expr expr' unary Ba:Ps bD} (he:∀u,aC k D E X (AZ k) expr expr' u) (hu:∀u,aC k D E X (AZ k) unary Ba u)
include hE hX ht
theorem aC.yY:aC k D E X Tm (lW typ) (lW tu) u:=by
 refine(aC.dO hE hX (by decide)).then_ fun a b v hv ⟨e,h⟩=> ?_
 subst e
 rcases a with _ | n
 ·refine(aC.dO hE hX (by decide)).then_ fun a b v hv ⟨e,h⟩=> ?_
  subst e
  rcases a with _ | _ | n
  ·exact(aC.name hE).then_ fun a b v hv e=>by subst e;exact .ret rfl
  ·exact(ht _).then_ fun a b v hv e=>by subst e;exact(aC.want hE).then_ fun _ _ v _ _=> .ret rfl
  ·refine(aC.has hE hX (by decide)).then_ fun a b v hv ⟨e,h⟩=> ?_
   subst e
   cases a
   ·refine(aC.sep (Q:=fun a b=>b=a) hE hX fun u=> ?_).then_ fun a b v hv h=> ?_
    ·exact(aC.name hE).then_ fun a b v hv e=>by subst e;exact(aC.want hE).then_ fun _ _ v _ _=>(ht _).then_ fun a b v hv e=>by subst e;exact .ret rfl
    ·obtain rfl:=AY h.1 h.2
     exact(aC.want hE).then_ fun _ _ v _ _=> .ret rfl
   ·exact .ret rfl
 ·exact .ret rfl
theorem aC.alt (n:Nat):∀(u:List aF) (f g:Nat) (l:List bO),u.length≤n→u.length<f→u.length<g→
  aC k D E X (fun a b _=>b=a) (mq typ f l) (mq tu g l) u:=by
 induction n with
 | zero=>
  intro u f g l hn hf hg
  obtain⟨f,rfl⟩:∃f',f=f'+1:=⟨f - 1,by omega⟩
  obtain⟨g,rfl⟩:∃f',g=f'+1:=⟨g - 1,by omega⟩
  refine(aC.has hE hX (by decide)).then_ fun a b v hv ⟨e,h⟩=> ?_
  subst e
  rcases h with⟨rfl,rfl⟩ | ⟨t,rfl,rfl⟩
  ·exact .ret rfl
  ·simp at hn
 | succ n ih=>
  intro u f g l hn hf hg
  obtain⟨f,rfl⟩:∃f',f=f'+1:=⟨f - 1,by omega⟩
  obtain⟨g,rfl⟩:∃f',g=f'+1:=⟨g - 1,by omega⟩
  refine(aC.has hE hX (by decide)).then_ fun a b v hv ⟨e,h⟩=> ?_
  subst e
  rcases h with⟨rfl,rfl⟩ | ⟨t,rfl,rfl⟩
  ·exact .ret rfl
  ·refine(aC.yY hE hX ht).then_ fun a b v2 hv2 hab=> ?_
   subst hab
   have:=iD hv2
   simp only [List.length_cons]at hn hf hg
   exact ih v2 f g _ (by omega) (by omega) (by omega)
theorem aC.Jw:aC k D E X Tm (Eh typ) (Eh tu) u:=by
 refine(aC.yY hE hX ht).then_ fun a b v hv e=> ?_
 subst e
 refine(aC.fuel (p:=fun n=>mq typ n [b]) (q:=fun n=>mq tu n [b]) (fun f g hf hg=>aC.alt hE hX ht v.length v f g _ (Nat.le_refl _) hf hg) hX).then_ fun a b v hv e=> ?_
 subst e
 refine(aC.has hE hX (by decide)).then_ fun a b v hv ⟨e,h⟩=> ?_
 subst e
 cases a
 ·exact .ret rfl
 ·exact(ht _).then_ fun a b v hv e=>by subst e;exact .ret rfl
theorem aC.note (l n:List bO):aC k D E X (fun a b _=>b=a) (gY typ l n) (gY tu l n) u:=by
 refine(aC.has hE hX (by decide)).then_ fun a b v hv ⟨e,h⟩=> ?_
 subst e
 cases a
 ·exact .ret rfl
 ·exact(ht _).then_ fun a b v hv e=>by subst e;exact .ret rfl
theorem aC.head (n:List bO):aC k D E X (fun a b _=>b=a) (jE typ n) (jE tu n) u:=by
 refine(aC.want hE).then_ fun _ _ v _ _=>(aC.name hE).then_ fun a b v hv e=> ?_
 subst e
 refine(aC.note hE hX ht _ _).then_ fun a b v hv e=> ?_
 subst e
 refine(aC.want hE).then_ fun _ _ v _ _=>(aC.note hE hX ht _ _).then_ fun a b v hv e=> ?_
 subst e
 exact .ret rfl
omit ht hX
include he
theorem aC.kids:∀(a:List Bt) (l:List bD) {u:List aF},aC k D E X (fun a b _=>b=a.map (yV k)) (bJ expr a l) (bJ expr' a (l.map (yV k))) u
 | [],l,u=> .ret rfl
 | s :: r,l,u=>by
  refine aC.then_ (R:=fun _ _ _=>True) ?_ fun _ _ v _ _=> ?_
  ·by_cases hs:s=[]
   ·rw [if_pos hs];exact .ret trivial
   ·rw [if_neg hs];exact(aC.want hE).mono fun _ _ _ _=>trivial
  ·refine(he _).then_ fun a b v hv e=> ?_
   subst e
   have:=aC.kids r (l++[a]) (u:=v)
   rwa [List.map_append]at this
omit he
include hX
theorem aC.left {sub sub':Ps bD} (hs:∀u,aC k D E X (AZ k) sub sub' u) {ops:List Bt} (ho:∀s∈ops,s≠[41]) (n:Nat):∀(u:List aF) (f g:Nat) (a:bD),u.length≤n→u.length<f→u.length<g→
  aC k D E X (AZ k) (iT ops sub f a) (iT ops sub' g (yV k a)) u:=by
 induction n with
 | zero=>
  intro u f g l hn hf hg
  obtain⟨f,rfl⟩:∃f',f=f'+1:=⟨f - 1,by omega⟩
  obtain⟨g,rfl⟩:∃f',g=f'+1:=⟨g - 1,by omega⟩
  refine aC.here.then_ fun a b v hv ⟨e,h1⟩=> ?_
  subst e
  refine(aC.dO hE hX ho).then_ fun a b v hv ⟨e,h⟩=> ?_
  subst e
  rcases h with⟨rfl,rfl⟩ | ⟨t,i,rfl,rfl⟩
  ·exact .ret rfl
  ·simp at hn
 | succ n ih=>
  intro u f g l hn hf hg
  obtain⟨f,rfl⟩:∃f',f=f'+1:=⟨f - 1,by omega⟩
  obtain⟨g,rfl⟩:∃f',g=f'+1:=⟨g - 1,by omega⟩
  refine aC.here.then_ fun a b v hv ⟨e,h1⟩=> ?_
  subst e
  refine(aC.dO hE hX ho).then_ fun a b v hv ⟨e,h⟩=> ?_
  subst e
  rcases h with⟨rfl,rfl⟩ | ⟨t,i,rfl,rfl⟩
  ·exact .ret rfl
  ·obtain⟨rfl,rfl⟩:=h1 t v rfl
   refine(hs v).then_ fun a b v2 hv2 hab=> ?_
   subst hab
   have:=iD hv2
   simp only [List.length_cons]at hn hf hg
   exact ih v2 f g (aJ 14 (ops.getD i []) 0 _ [] [] [l,a]) (by omega) (by omega) (by omega)
theorem aC.BO {sub sub':Ps bD} (hs:∀u,aC k D E X (AZ k) sub sub' u) {ops:List Bt} (ho:∀s∈ops,s≠[41]):aC k D E X (AZ k) (rW ops sub) (rW ops sub') u:=
 (hs u).then_ fun a b v hv e=>by
  subst e
  exact aC.fuel (p:=fun n=>iT ops sub n a) (q:=fun n=>iT ops sub' n (yV k a)) (fun f g hf hg=>aC.left hE hX hs ho v.length v f g a (Nat.le_refl _) hf hg) hX
include ht
theorem aC.cmp {sub sub':Ps bD} (hs:∀u,aC k D E X (AZ k) sub sub' u):aC k D E X (AZ k) (Ag typ sub) (Ag tu sub') u:=by
 refine(hs u).then_ fun x b v hv e=> ?_
 subst e
 refine aC.here.then_ fun a b v hv ⟨e,h1⟩=> ?_
 subst e
 refine(aC.dO hE hX (by decide)).then_ fun a b v hv ⟨e,h⟩=> ?_
 subst e
 rcases h with⟨rfl,rfl⟩ | ⟨t,i,rfl,rfl⟩
 ·exact .ret rfl
 ·obtain⟨rfl,rfl⟩:=h1 t v rfl
  simp only
  by_cases h3:i=3
  ·rw [if_pos h3,if_pos h3]
   refine(aC.dO hE hX (by decide)).then_ fun a b v hv ⟨e,h⟩=> ?_
   subst e
   rcases a with _ | n
   ·exact aC.fail
   ·exact .ret rfl
  ·rw [if_neg h3,if_neg h3]
   by_cases h4:i=4
   ·rw [if_pos h4,if_pos h4]
    exact(ht _).then_ fun a b v hv e=>by subst e;exact .ret rfl
   ·rw [if_neg h4,if_neg h4]
    exact(hs _).then_ fun a b v hv e=>by subst e;exact .ret rfl
include hu
theorem aC.rank:∀(f:Nat) {u:List aF},f≤6→aC k D E X (AZ k) (gG typ unary f) (gG tu Ba f) u
 | 0,u, _=>hu u
 | f+1,u,hf=>by
  unfold gG
  by_cases h3:f=3
  ·rw [if_pos h3,if_pos h3]
   exact aC.cmp hE hX ht fun u=>aC.rank f (by omega)
  ·rw [if_neg h3,if_neg h3]
   refine aC.BO hE hX (fun u=>aC.rank f (by omega)) ?_
   have:f=0∨f=1∨f=2∨f=4∨f=5:=by omega
   rcases this with rfl | rfl | rfl | rfl | rfl <;> decide
include he
theorem aC.xw:aC k D E X (AZ k) (nX typ expr unary) (nX tu expr' Ba) u:=by
 refine aC.here.then_ fun a b v hv ⟨e,h1⟩=> ?_
 subst e
 refine(aC.dO hE hX (by decide)).then_ fun a b v hv ⟨e,h⟩=> ?_
 subst e
 rcases h with⟨rfl,rfl⟩ | ⟨t,i,rfl,rfl⟩
 ·exact aC.rank hE hX ht hu 6 (Nat.le_refl _)
 ·obtain⟨rfl,rfl⟩:=h1 t v rfl
  rcases i with _ | _ | i
  ·refine(aC.name hE).then_ fun a b v hv e=> ?_
   subst e
   refine(aC.note hE hX ht _ _).then_ fun a b v hv e=> ?_
   subst e
   exact(aC.kids hE he _ []).then_ fun a b v hv e=>by subst e;exact .ret (mg ..)
  ·exact(aC.kids hE he _ []).then_ fun a b v hv e=>by subst e;exact .ret (mg ..)
  ·refine(aC.head hE hX ht _).then_ fun a b v hv e=> ?_
   subst e
   exact(aC.kids hE he _ []).then_ fun a b v hv e=>by subst e;exact .ret (mg ..)
omit hu ht hX
theorem aC.qK:aC k D E X (fun a b _=>b=(a.1,yV k a.2)) (iJ expr) (iJ expr') u:=by
 refine(aC.name hE).then_ fun a b v hv e=> ?_
 subst e
 refine(aC.want hE).then_ fun _ _ v _ _=>(he _).then_ fun a b v hv e=> ?_
 subst e
 exact .ret rfl
include hX
theorem aC.G7 (t:aF):aC k D E X (AZ k) (rX expr t) (rX expr' (rE k t)) u:=by
 have Xt:=hX
 obtain⟨x,X',rfl,hx⟩:=Xt
 refine aC.then_ (R:=fun a b v=>a=b∧v=u) ?_ fun a b v hv ⟨e,h⟩=> ?_
 ·intro a r h
  unfold jF at h ⊢
  injection h with e1 e2
  subst e1 e2
  refine .inl ⟨u, _,rfl,List.suffix_refl _,rfl, ?_,rfl⟩
  cases u with
  | nil=>simp [aU,nT hE,tq hx (s:=[125]) (by decide)]
  | cons t u=>simp [aU,KS]
 ·subst e h
  cases a
  ·rw [if_neg Bool.false_ne_true,if_neg Bool.false_ne_true]
   refine aC.then_ (R:=fun a b w=>a=b∧w=v) ?_ fun a b v hv ⟨e,h⟩=> ?_
   ·intro a r h
    unfold jF at h ⊢
    injection h with e1 e2
    subst e1 e2
    refine .inl ⟨v, _,rfl,List.suffix_refl _,rfl, ?_,rfl⟩
    rcases v with _ | ⟨t, _ | ⟨t2,v⟩⟩
    ·have hk:(x.kind==1)=false:=by rcases hx with hx | hx <;> simp [hx]
     simp [aU,hE,hk]
    ·simp [aU,nT hE,tq hx (s:=[58]) (by decide)]
    ·simp [aU,KS];rfl
   ·subst e h
    cases a
    ·rw [if_neg Bool.false_ne_true,if_neg Bool.false_ne_true]
     refine(aC.kids hE he _ []).then_ fun m b v hv e=> ?_
     subst e
     refine(aC.want hE).then_ fun _ _ v _ _=>(aC.name hE).then_ fun a b v hv e=> ?_
     subst e
     exact(aC.kids hE he _ m).then_ fun a b v hv e=>by subst e;exact .ret (mg ..)
    ·rw [if_pos rfl,if_pos rfl]
     refine(aC.sep (Q:=fun a b=>b=(a.1,yV k a.2)) hE hX fun u=>aC.qK hE he).then_ fun a b v hv h=> ?_
     obtain rfl:=zip_map (φ:=fun a:Bt ×bD=>(a.1,yV k a.2)) h.1 h.2
     exact .ret (by have:=mg k 8 [] 0 t [] (a.map (·.1)) (a.map (·.2));simpa [Function.comp_def]using this)
  ·exact .ret (kI ..)
omit he
include ht
theorem aC.named {h h':aF} (hh:∀t r,u=t :: r→h=t∧h'=rE k t):aC k D E X (AZ k) (j4 typ h) (j4 tu h') u:=by
 refine(aC.kind hE (by decide)).then_ fun a b v hv ⟨e,t,hu, _⟩=> ?_
 subst e
 obtain⟨rfl,rfl⟩:=hh t v hu
 refine(aC.has hE hX (by decide)).then_ fun a b v hv ⟨e,h⟩=> ?_
 subst e
 cases a
 ·exact .ret (kI ..)
 ·refine(aC.sep (Q:=fun a b=>b=a) hE hX fun u=>ht u).then_ fun a b v hv h=> ?_
  obtain rfl:=AY h.1 h.2
  exact(aC.want hE).then_ fun _ _ v _ _=> .ret (kI ..)
include he
theorem aC.atom:aC k D E X (AZ k) (kW typ expr) (kW tu expr') u:=by
 have Xt:=hX
 obtain⟨x,X',rfl,hx⟩:=Xt
 have hxk:∀n:Int,n=3∨n=4→x.kind≠n:=by
  intro n hn h
  rcases hx with h1 | ⟨h1, _⟩ <;> omega
 refine aC.then_ (R:=fun h h' v=>v=u∧(∀t r,u=t :: r→h=t∧h'=rE k t)∧(u=[]→h=E∧h'=x)) ?_ fun h h' v hv ⟨e,hh,hn⟩=> ?_
 ·intro a r h
  unfold gF at h ⊢
  injection h with e1 e2
  subst e1 e2
  refine .inl ⟨u, _,rfl,List.suffix_refl _,rfl,rfl, ?_, ?_⟩
  ·rintro t r rfl
   exact⟨rfl,rfl⟩
  ·rintro rfl
   exact⟨rfl,rfl⟩
 ·subst e
  have hk:(h.kind=3↔h'.kind=3)∧(h.kind=4↔h'.kind=4):=by
   cases v with
   | nil=>
    obtain⟨rfl,rfl⟩:=hn rfl
    have h3:=hxk 3 (.inl rfl)
    have h4:=hxk 4 (.inr rfl)
    rw [hE]
    exact⟨⟨fun h=>(by cases h),fun h=>absurd h h3⟩,⟨fun h=>(by cases h),fun h=>absurd h h4⟩⟩
   | cons t r=>
    obtain⟨rfl,rfl⟩:=hh t r rfl
    exact⟨Iff.rfl,Iff.rfl⟩
  by_cases h3:h.kind=3
  ·rw [if_pos h3,if_pos (hk.1.1 h3)]
   refine(aC.kind hE (by decide)).then_ fun a b w hv ⟨e,t,hu, _⟩=> ?_
   subst e
   obtain⟨rfl,rfl⟩:=hh t w hu
   exact .ret (kI ..)
  ·rw [if_neg h3,if_neg (fun h=>h3 (hk.1.2 h))]
   by_cases h4:h.kind=4
   ·rw [if_pos h4,if_pos (hk.2.1 h4)]
    refine(aC.kind hE (by decide)).then_ fun a b w hv ⟨e,t,hu, _⟩=> ?_
    subst e
    obtain⟨rfl,rfl⟩:=hh t w hu
    exact .ret (kI ..)
   ·rw [if_neg h4,if_neg (fun h=>h4 (hk.2.2 h))]
    refine(aC.dO hE hX (by decide)).then_ fun a b w hv ⟨e,h1⟩=> ?_
    subst e
    rcases h1 with⟨rfl,rfl⟩ | ⟨t,i,rfl,rfl⟩
    ·exact aC.named hE hX ht hh
    ·obtain⟨rfl,rfl⟩:=hh t w rfl
     rcases i with _ | _ | _ | _ | _ | _ | i
     ·exact .ret (kI ..)
     ·exact .ret (kI ..)
     ·exact .ret (kI ..)
     ·exact(aC.wants hE _).then_ fun _ _ v _ _=> .ret (kI ..)
     ·exact(aC.kids hE he _ []).then_ fun a b v hv e=>by subst e;exact(aC.want hE).then_ fun _ _ v _ _=> .ret (mg ..)
     ·exact(he _).then_ fun a b v hv e=>by subst e;exact(aC.want hE).then_ fun _ _ v _ _=> .ret rfl
     ·exact(aC.G7 hE hX he _).then_ fun a b v hv e=>by subst e;exact(aC.want hE).then_ fun _ _ v _ _=> .ret rfl
omit ht
theorem aC.mJ (n:Nat):∀(u:List aF) (f g:Nat) (a:bD),u.length≤n→u.length<f→u.length<g→
  aC k D E X (AZ k) (gH expr f a) (gH expr' g (yV k a)) u:=by
 induction n with
 | zero=>
  intro u f g l hn hf hg
  obtain⟨f,rfl⟩:∃f',f=f'+1:=⟨f - 1,by omega⟩
  obtain⟨g,rfl⟩:∃f',g=f'+1:=⟨g - 1,by omega⟩
  refine aC.here.then_ fun a b v hv ⟨e,h1⟩=> ?_
  subst e
  refine(aC.dO hE hX (by decide)).then_ fun a b v hv ⟨e,h⟩=> ?_
  subst e
  rcases h with⟨rfl,rfl⟩ | ⟨t,i,rfl,rfl⟩
  ·exact .ret rfl
  ·simp at hn
 | succ n ih=>
  intro u f g l hn hf hg
  obtain⟨f,rfl⟩:∃f',f=f'+1:=⟨f - 1,by omega⟩
  obtain⟨g,rfl⟩:∃f',g=f'+1:=⟨g - 1,by omega⟩
  refine aC.here.then_ fun a b v hv ⟨e,h1⟩=> ?_
  subst e
  refine(aC.dO hE hX (by decide)).then_ fun a b v hv ⟨e,h⟩=> ?_
  subst e
  rcases h with⟨rfl,rfl⟩ | ⟨t,i,rfl,rfl⟩
  ·exact .ret rfl
  ·obtain⟨rfl,rfl⟩:=h1 t v rfl
   simp only [List.length_cons]at hn hf hg
   rcases i with _ | i
   ·refine(aC.kids hE he _ [l]).then_ fun a b v1 hv1 e=> ?_
    subst e
    refine(aC.want hE).then_ fun _ _ v2 hv2 _=> ?_
    have:=iD hv2
    have:=iD hv1
    have h:=fun x:aF=>ih v2 f g (aJ 7 [] 0 x [] [] a) (by omega) (by omega) (by omega)
    simp only [←mg]at h
    exact h _
   ·refine(aC.name hE).then_ fun a b v2 hv2 e=> ?_
    subst e
    have:=iD hv2
    exact ih v2 f g (aJ 9 a 0 _ [] [] [l]) (by omega) (by omega) (by omega)
include ht
theorem aC.post:aC k D E X (AZ k) (kX typ expr) (kX tu expr') u:=
 (aC.atom hE hX ht he).then_ fun a b v hv e=>by
  subst e
  exact aC.fuel (p:=fun n=>gH expr n a) (q:=fun n=>gH expr' n (yV k a)) (fun f g hf hg=>aC.mJ hE hX he v.length v f g a (Nat.le_refl _) hf hg) hX
include hu
theorem aC.qL:aC k D E X (AZ k) (j5 typ expr unary) (j5 tu expr' Ba) u:=by
 refine aC.here.then_ fun a b v hv ⟨e,h1⟩=> ?_
 subst e
 refine(aC.dO hE hX (by decide)).then_ fun a b v hv ⟨e,h⟩=> ?_
 subst e
 rcases h with⟨rfl,rfl⟩ | ⟨t,i,rfl,rfl⟩
 ·exact aC.post hE hX ht he
 ·obtain⟨rfl,rfl⟩:=h1 t v rfl
  rcases i with _ | i
  ·exact(hu _).then_ fun a b v hv e=>by subst e;exact .ret rfl
  ·exact(hu _).then_ fun a b v hv e=>by subst e;exact .ret rfl
end
theorem aC.xA {k:Nat} {E:aF} {X:List aF} (hE:E.kind=0) (hX:yu X):∀(m n:Nat),m≤n→
  (∀u,aC k (m<n) E X Tm (bg n).typ (bg m).typ u)∧(∀u,aC k (m<n) E X (AZ k) (bg n).expr (bg m).expr u)∧(∀u,aC k (m<n) E X (AZ k) (bg n).unary (bg m).unary u)
 | 0,0, _=>⟨fun u=>aC.fail,fun u=>aC.fail,fun u=>aC.fail⟩
 | 0,n+1, _=>⟨fun u a r h=> .inr ⟨by omega, _, _,rfl⟩,fun u a r h=> .inr ⟨by omega, _, _,rfl⟩,fun u a r h=> .inr ⟨by omega, _, _,rfl⟩⟩
 | m+1,0,h=>absurd h (by omega)
 | m+1,n+1,h=>by
  have h1:=aC.xA (k:=k) hE hX m n (by omega)
  have e:(m+1<n+1)=(m<n):=by simp
  rw [e]
  obtain⟨h1,h2,h3⟩:=h1
  exact⟨fun u=>aC.Jw hE hX h1,fun u=>aC.xw hE hX h1 h2 h3,fun u=>aC.qL hE hX h1 h2 h3⟩
end Go.Proofs.YtmbppnbekkbibaaGreatDoor
end
section
set_option linter.unusedVariables false
namespace Go.Proofs.YtmbppnbekkbibaaGreatDoor
theorem Bb (k:Nat):∀(s:Bt) (p:Nat ×Nat),cO (p.1+k,p.2) s=((cO p s).1+k,(cO p s).2)
 | [],p=>rfl
 | c :: s,p=>by
  have e:∀q:Nat ×Nat,cO q (c :: s)=cO (jY q c) s:=fun q=>rfl
  rw [e,e]
  have h:jY (p.1+k,p.2) c=((jY p c).1+k,(jY p c).2):=by
   unfold jY
   split
   ·simp only [Prod.mk.injEq,and_true];omega
   ·rfl
  rw [h]
  exact Bb k s _
theorem Gp (k:Nat):∀(f:Nat) (s:Bt) (p:Nat ×Nat) (out l:List aF),fC f s p out=(l,(0,0,0))→fC f s (p.1+k,p.2) (out.map (rE k))=(l.map (rE k),(0,0,0))
 | 0,s,p,out,l,h=>by
  rw [fC]at h ⊢
  injection h with h1 _
  subst h1;rfl
 | f+1,s,p,out,l,h=>by
  rw [fC]at h ⊢
  rw [Bb]
  by_cases hnil:s.drop (aS s)=[]
  ·rw [if_pos hnil]at h ⊢
   injection h with h1 _
   subst h1
   rw [List.map_append];rfl
  ·rw [if_neg hnil]at h ⊢
   cases hn:eF (s.drop (aS s))with
   | inl e=>
    rw [hn]at h
    have h2:=congrArg (fun x=>x.2.2.2) h
    exact absurd h2 (kK hn)
   | inr x=>
    obtain⟨kd,t,n⟩:=x
    rw [hn]at h
    simp only at h ⊢
    rw [List.length_map]
    by_cases h8:out.length=8192
    ·rw [if_pos h8]at h
     have h2:=congrArg (fun x=>x.2.2.2) h
     exact absurd (show(19:Int)=0 from h2) (by decide)
    ·rw [if_neg h8]at h ⊢
     have:=Gp k f _ _ _ _ h
     rw [List.map_append, ←Bb]at this
     exact this
theorem Iz {t:Bt} {kd:Int} (h:wX kd t):kd≠0∧(kd=2→t≠[58]):=by
 obtain⟨h1, _,h2, _⟩:=h
 refine⟨by omega,fun e=> ?_⟩
 have:=h2 e
 rintro rfl
 exact absurd this (by decide)
theorem zQ:∀(f:Nat) (s:Bt) (p:Nat ×Nat) (out:List aF),(fC f s p out).2.2.2=0→(fC f s p out).2=(0,0,0)
 | 0,s,p,out,h=>rfl
 | f+1,s,p,out,h=>by
  rw [fC]at h ⊢
  by_cases hnil:s.drop (aS s)=[]
  ·rw [if_pos hnil]
  ·rw [if_neg hnil]at h ⊢
   cases hn:eF (s.drop (aS s))with
   | inl e=>
    rw [hn]at h
    exact absurd h (kK hn)
   | inr x=>
    obtain⟨kd,t,n⟩:=x
    rw [hn]at h
    simp only at h ⊢
    by_cases h8:out.length=8192
    ·rw [if_pos h8]at h
     exact absurd (show(19:Int)=0 from h) (by decide)
    ·rw [if_neg h8]at h ⊢
     exact zQ f _ _ _ h
theorem pX {s:Bt} (h:(dQ s).2.2.2=0):(dQ s).2=(0,0,0):=by
 by_cases hs:65536<s.length
 ·unfold dQ at h
  rw [if_pos hs]at h
  exact absurd (show(2:Int)=0 from h) (by decide)
 ·rw [wY s (by omega)]at h ⊢
  exact zQ _ _ _ _ h
theorem wR {s:Bt} {l:List aF} (h:dQ s=(l,(0,0,0))):∃m e,l=m++[e]∧e.kind=0∧(∀t∈m,wX t.kind t.text)∧m.length≤s.length∧Wf l:=by
 by_cases hs:65536<s.length
 ·unfold dQ at h;rw [if_pos hs]at h;cases h
 ·rw [wY s (by omega)]at h
  obtain⟨m,e,h1,h2, _,h3,h4, _⟩:=pJ _ s (1,1) [] (Nat.lt_succ_self _) (by rw [h])
  rw [h]at h1
  injection h1 with h1 _
  rw [List.nil_append]at h1
  exact⟨m,e,h1,h2,h4,h3,m,e,h1,h2,fun t ht=>Iz (h4 t ht)⟩
theorem zR:∀(f:Nat) (s:Bt) (p:Nat ×Nat) (out l:List aF),fC f s p out=(l,(0,0,0))→(∃m e,l=out++m++[e])∨l=[]
 | 0,s,p,out,l,h=>by
  rw [fC]at h
  injection h with h1 _
  exact .inr h1.symm
 | f+1,s,p,out,l,h=>by
  rw [fC]at h
  by_cases hnil:s.drop (aS s)=[]
  ·rw [if_pos hnil]at h
   injection h with h1 _
   exact .inl ⟨[], _,by rw [List.append_nil];exact h1.symm⟩
  ·rw [if_neg hnil]at h
   cases hn:eF (s.drop (aS s))with
   | inl e=>
    rw [hn]at h
    injection h with h1 _
    exact .inr h1.symm
   | inr x=>
    obtain⟨kd,t,n⟩:=x
    rw [hn]at h
    simp only at h
    by_cases h8:out.length=8192
    ·rw [if_pos h8]at h
     injection h with h1 _
     exact .inr h1.symm
    ·rw [if_neg h8]at h
     rcases zR f _ _ _ _ h with⟨m,e,rfl⟩ | h
     ·exact .inl ⟨_ :: m,e,by rw [List.append_assoc out,List.singleton_append]⟩
     ·exact .inr h
theorem zS:∀(f:Nat) (s:Bt) (p:Nat ×Nat) (out IB m:List aF) (e:aF),fC f s p out=(out++m++[e],(0,0,0))→IB.length+m.length≤8192→fC f s p IB=(IB++m++[e],(0,0,0))
 | 0,s,p,out,IB,m,e,h, _=>by
  rw [fC]at h
  injection h with h1 _
  simp at h1
 | f+1,s,p,out,IB,m,e,h,h8=>by
  rw [fC]at h ⊢
  by_cases hnil:s.drop (aS s)=[]
  ·rw [if_pos hnil]at h ⊢
   injection h with h1 _
   have h2:=List.append_inj' h1 rfl
   have h3:m=[]:=by
    have:=congrArg List.length h2.1
    rw [List.length_append]at this
    exact List.eq_nil_of_length_eq_zero (by omega)
   rw [h3,List.append_nil,h2.2]
  ·rw [if_neg hnil]at h ⊢
   cases hn:eF (s.drop (aS s))with
   | inl e=>
    rw [hn]at h
    have h2:=congrArg (fun x=>x.2.2.2) h
    exact absurd h2 (kK hn)
   | inr x=>
    obtain⟨kd,t,n⟩:=x
    rw [hn]at h
    simp only at h ⊢
    by_cases YP:out.length=8192
    ·rw [if_pos YP]at h
     have h2:=congrArg (fun x=>x.2.2.2) h
     exact absurd (show(19:Int)=0 from h2) (by decide)
    ·rw [if_neg YP]at h
     generalize hx:(⟨kd,t,(cO p (s.take (aS s))).1,(cO p (s.take (aS s))).2⟩:aF)=x at h ⊢
     obtain⟨m1,e1,g1⟩:∃m1 e1,fC f ((s.drop (aS s)).drop n) (cO (cO p (s.take (aS s))) ((s.drop (aS s)).take n)) (out++[x])=(out++[x]++m1++[e1],(0,0,0)):=by
      rcases zR f ((s.drop (aS s)).drop n) (cO (cO p (s.take (aS s))) ((s.drop (aS s)).take n)) (out++[x]) _ h with⟨m1,e1,g⟩ | g
      ·exact⟨m1,e1,by rw [h,g]⟩
      ·simp at g
     rw [h]at g1
     injection g1 with g1 _
     have g2:=List.append_inj' g1 rfl
     have g3:m=x :: m1:=by
      have:=g2.1
      rw [List.append_assoc]at this
      exact List.append_cancel_left this
     have g4:e=e1:=by simpa using g2.2
     subst g3 g4
     rw [List.length_cons]at h8
     rw [if_neg (by omega)]
     have:=zS f _ _ (out++[x]) (IB++[x]) m1 e (by rw [h];simp) (by simp;omega)
     rw [this];simp
theorem IC {s:Bt} (h8:s.length+4≤8192) {m:List aF} {e:aF} (h:dQ s=(m++[e],(0,0,0))):
  ∃o c e',o.kind=5∧o.text=[40]∧c.kind=5∧c.text=[41]∧e'.kind=0∧dQ (40 :: 10 :: (s++[10,41]))=(o :: (m.map (rE 1)++[c,e']),(0,0,0)):=by
 rw [wY s (by omega)]at h
 have hsh:=Gp 1 _ _ _ _ _ h
 obtain⟨m0,e0,g1, _, _,g3, _, _⟩:=pJ _ s (1,1) [] (Nat.lt_succ_self _) (by rw [h])
 rw [h]at g1
 injection g1 with g1 _
 rw [List.nil_append]at g1
 obtain⟨rfl, _⟩:=List.append_inj' g1 rfl
 have Tn:=zS (s.length+1) s (2,1) [] [⟨5,[40],1,1⟩] (m.map (rE 1)) (rE 1 e) (by simpa using hsh) (by simp;omega)
 obtain⟨m',e1,h1,h2, _,h3, _,h5⟩:=pJ _ s (2,1) [⟨5,[40],1,1⟩] (Nat.lt_succ_self _) (by rw [Tn])
 rw [Tn]at h1
 injection h1 with h1 _
 have h1:=List.append_cancel_left (List.append_inj' h1 rfl).1
 subst h1
 obtain⟨F',q,hF,h6⟩:=h5 10 [41] (s.length+3+1) rfl (by simp)
 rw [wY _ (by simp;omega)]
 have e4:(40 :: 10 :: (s++[10,41]):Bt).length+1=s.length+3+1+1:=by simp
 rw [e4]
 have f1:fC (s.length+3+1+1) (40 :: 10 :: (s++[10,41])) (1,1) []=fC (s.length+3+1) (10 :: (s++[10,41])) (1,2) [⟨5,[40],1,1⟩]:=by
  rw [fC]
  have hk:aS (40 :: 10 :: (s++[10,41]):Bt)=0:=by unfold aS;rw [dW,if_neg (by decide),if_neg (by decide)]
  have hn:eF (40 :: 10 :: (s++[10,41]):Bt)= .inr (5,[40],1):=by
   rw [eF,if_neg (by decide),if_neg (by decide),if_neg (by decide),if_neg (show ¬List.take 2 (40 :: 10 :: (s++[10,41]))∈cZ from(by decide:¬([40,10]:Bt)∈cZ)),if_pos (by decide)]
  rw [hk,List.drop_zero,if_neg (by simp),hn]
  rfl
 have f2:∀(f:Nat) (x:Bt) (p:Nat ×Nat) (out:List aF),fC (f+1) (10 :: x) p out=fC (f+1) x (jY p 10) out:=by
  intro f x p out
  have hk:aS (10 :: x:Bt)=aS x+1:=by unfold aS;rw [dW,if_pos (by decide)]
  rw [fC,fC,hk]
  rfl
 rw [f1,f2]
 have e5:s++[10,41]=s++10 :: [41]:=rfl
 rw [e5]
 have e6:jY (1,2) 10=(2,1):=rfl
 rw [e6,h6]
 obtain⟨F0,rfl⟩:∃F0,F'=F0+1+1:=⟨F' - 2,by simp at hF;omega⟩
 rw [fC]
 have hk:aS [41]=0:=rfl
 have hn:eF [41]= .inr (5,[41],1):=rfl
 rw [hk,List.drop_zero,if_neg (by simp),hn]
 simp only
 rw [if_neg (by simp;omega),fC,if_pos (by rfl)]
 exact⟨⟨5,[40],1,1⟩,⟨5,[41],(cO q (List.take 0 [41])).1,(cO q (List.take 0 [41])).2⟩,⟨0,[],(cO (cO (cO q (List.take 0 [41])) (List.take 1 [41])) (List.take (aS (List.drop 1 [41])) (List.drop 1 [41]))).1,(cO (cO (cO q (List.take 0 [41])) (List.take 1 [41])) (List.take (aS (List.drop 1 [41])) (List.drop 1 [41]))).2⟩,rfl,rfl,rfl,rfl,rfl,by simp⟩
end Go.Proofs.YtmbppnbekkbibaaGreatDoor
end
section
set_option linter.unusedVariables false
namespace Go.Proofs.YtmbppnbekkbibaaGreatDoor
theorem yw {E:aF} (hE:E.kind=0) (l:List Bt) (r:List aF):bS l (E :: r)= .good none (E :: r):=ku (List.findIdx?_eq_none_iff.2 fun s _=>nT hE s) r
theorem KT {E:aF} (hE:E.kind=0) (ops:List Bt) (sub:Ps bD) (f:Nat) (a:bD):iT ops sub (f+1) a [E]= .good a [E]:=by
 unfold iT
 rw [aj (show gF [E]= .good E [E]from rfl),aj (yw hE ops [])];rfl
theorem yx {E:aF} (hE:E.kind=0) {typ:Ps bO} {unary:Ps bD} {ts:List aF} {a:bD} (h:unary ts= .good a [E]):∀f:Nat,gG typ unary f ts= .good a [E]
 | 0=>h
 | f+1=>by
  unfold gG
  split
  ·unfold Ag
   rw [aj (yx hE h f),aj (show gF [E]= .good E [E]from rfl),aj (yw hE nW [])];rfl
  ·unfold rW
   rw [aj (yx hE h f)]
   exact KT hE _ _ 0 a
theorem KU {E:aF} (hE:E.kind=0) (expr:Ps bD) (a:bD):gH expr [E].length a [E]= .good a [E]:=by
 show gH expr (0+1) a [E]= _
 unfold gH
 rw [aj (show gF [E]= .good E [E]from rfl),aj (yw hE [[40],[46]] [])];rfl
theorem C9 {o:aF} {t:Bt} (hk:o.kind=5) (ht:o.text=t) (s:Bt):kU o s=(t==s):=by unfold kU;rw [hk,ht];rfl
theorem kQ {o:aF} {t:Bt} (hk:o.kind=5) (ht:o.text=t) (l:List Bt):l.findIdx? (kU o)=l.findIdx? (fun s=>t==s):=by
 have:kU o=fun s=>t==s:=funext fun s=>C9 hk ht s
 rw [this]
theorem Fq {n:Nat} {o c e':aF} {ts:List aF} (ho:o.kind=5) (ho2:o.text=[40]) (hc:c.kind=5) (hc2:c.text=[41]) (he:e'.kind=0) {b:bD} (h:(bg n).expr (ts++[c,e'])= .good b [c,e']):(bg (n+2)).expr (o :: (ts++[c,e']))= .good b [e']:=by
 have ha:kW (bg n).typ (bg n).expr (o :: (ts++[c,e']))= .good b [e']:=by
  unfold kW
  rw [aj (show gF (o :: (ts++[c,e']))= .good o (o :: (ts++[c,e']))from rfl),if_neg (by rw [ho];decide),if_neg (by rw [ho];decide),
   aj (rV (i:=5) (by rw [kQ ho ho2];rfl) _)]
  show au (bg n).expr _ _= _
  rw [aj h]
  unfold aH
  rw [aj (a:=()) (r:=[e']) (by rw [aj (rU (by rw [C9 hc hc2];rfl) _)];rfl)]
  rfl
 have hu:(bg (n+1)).unary (o :: (ts++[c,e']))= .good b [e']:=by
  show j5 _ _ _ _= _
  unfold j5
  rw [aj (show gF (o :: (ts++[c,e']))= .good o (o :: (ts++[c,e']))from rfl),aj (ku (by rw [kQ ho ho2];rfl) _)]
  show kX _ _ _= _
  unfold kX
  rw [aj ha]
  exact KU he _ b
 show nX _ _ _ _= _
 unfold nX
 rw [aj (show gF (o :: (ts++[c,e']))= .good o (o :: (ts++[c,e']))from rfl),aj (ku (by rw [kQ ho ho2];rfl) _)]
 exact yx he hu 6
theorem Fu {n:Nat} {o c e':aF} {ts:List aF} (ho:o.kind=5) (ho2:o.text=[40]) {l k:Nat} (h:(bg n).expr (ts++[c,e'])= .bad (l,k,6)):(bg (n+2)).expr (o :: (ts++[c,e']))= .bad (l,k,6):=by
 have ha:kW (bg n).typ (bg n).expr (o :: (ts++[c,e']))= .bad (l,k,6):=by
  unfold kW
  rw [aj (show gF (o :: (ts++[c,e']))= .good o (o :: (ts++[c,e']))from rfl),if_neg (by rw [ho];decide),if_neg (by rw [ho];decide),
   aj (rV (i:=5) (by rw [kQ ho ho2];rfl) _)]
  show au (bg n).expr _ _= _
  rw [aB h]
 have hu:(bg (n+1)).unary (o :: (ts++[c,e']))= .bad (l,k,6):=by
  show j5 _ _ _ _= _
  unfold j5
  rw [aj (show gF (o :: (ts++[c,e']))= .good o (o :: (ts++[c,e']))from rfl),aj (ku (by rw [kQ ho ho2];rfl) _)]
  show kX _ _ _= _
  unfold kX
  rw [aB ha]
 show nX _ _ _ _= _
 unfold nX
 rw [aj (show gF (o :: (ts++[c,e']))= .good o (o :: (ts++[c,e']))from rfl),aj (ku (by rw [kQ ho ho2];rfl) _)]
 have hr:∀f:Nat,gG (bg (n+1)).typ (bg (n+1)).unary f (o :: (ts++[c,e']))= .bad (l,k,6):=by
  intro f
  induction f with
  | zero=>exact hu
  | succ f ih=>
   unfold gG
   split
   ·unfold Ag;rw [aB ih]
   ·unfold rW;rw [aB ih]
 exact hr 6
mutual
theorem Gq (k:Nat):∀x:bD,oH (yV k x)=oH x
 | .mk kd t n l c ts ns ks=>by rw [yV,oH,oH,Da k ks]
theorem Da (k:Nat):∀l:List bD,jr (Fp k l)=jr l
 | []=>rfl
 | x :: l=>by rw [Fp,jr,jr,Gq k x,Da k l]
end
def bD.line:bD→Int | .mk _ _ _ l _ _ _ _=>l
def bD.col:bD→Int | .mk _ _ _ _ c _ _ _=>c
theorem vF {α:Type} {p:Ps α} (hp:Sf p) {s:Bt} {a:α} (h:(aZ p s).1=some a):
  aZ p s=(some a,(0,0,0))∧∃m e,dQ s=(m++[e],(0,0,0))∧e.kind=0∧(∀t∈m,wX t.kind t.text)∧m.length≤s.length∧p (m++[e])= .good a [e]:=by
 unfold aZ at h ⊢
 by_cases h0:(dQ s).2.2.2=0
 ·rw [if_pos h0]at h ⊢
  have hz:(dQ s).2=(0,0,0):=pX h0
  obtain⟨m,e,h1,h2,h3,h4,h5⟩:=wR (l:=(dQ s).1) (by rw [←hz])
  have hl:dQ s=(m++[e],(0,0,0)):=by rw [←h1, ←hz]
  rw [h1]at h ⊢
  rw [h1]at h5
  rcases hq:p (m++[e])with d | ⟨x,r⟩
  ·rw [aB hq]at h;cases h
  ·rw [aj hq]at h ⊢
   obtain⟨hr,hs⟩:=hp.good h5 hq
   by_cases hk:(aU r).kind=0
   ·have e1:dH 0 r= .good (aU r).text r:=by unfold dH;rw [if_pos hk,if_pos rfl]
    rw [aj e1]at h ⊢
    simp only [aG]at h ⊢
    injection h with h
    subst h
    refine⟨rfl,m,e,hl,h2,h3,h4, ?_⟩
    rw [hq]
    have:r=[e]:=by
     rcases hr.cases with⟨e1,rfl, _⟩ | ⟨t,r,rfl,ht, _⟩
     ·obtain⟨z,hz⟩:=hs
      rw [(List.append_inj' hz rfl).2]
     ·exact absurd hk ht
    rw [this]
   ·have e1:dH 0 r= .bad ((aU r).line,(aU r).col,7):=by unfold dH;rw [if_neg hk]
    rw [aB e1]at h
    cases h
 ·rw [if_neg h0]at h;cases h
theorem IE {α:Type} {p:Ps α} {s:Bt} {m:List aF} {e:aF} {a:α} (hl:dQ s=(m++[e],(0,0,0))) (he:e.kind=0) (h:p (m++[e])= .good a [e]):aZ p s=(some a,(0,0,0)):=by
 unfold aZ
 rw [hl,if_pos rfl,aj h,aj (a:=e.text) (r:=[e]) (by unfold dH;rw [if_pos (show(aU [e]).kind=0 from he),if_pos rfl];rfl)]
 rfl
theorem Fv {α:Type} {p:Ps α} {s:Bt} {l:List aF} {d:vQ} (hl:dQ s=(l,(0,0,0))) (h:p l= .bad d):aZ p s=(none,d):=by
 unfold aZ
 rw [hl,if_pos rfl,aB h]
theorem Bc {s:Bt} (hs:s.length≤2000) {a:bD} (h:(aZ (bg 100).expr s).1=some a):
  (∃l c,aZ (bg 100).expr (40 :: 10 :: (s++[10,41]))=(none,(l,c,6)))∨aZ (bg 100).expr (40 :: 10 :: (s++[10,41]))=(some (yV 1 a),(0,0,0)):=by
 obtain⟨_,m,e,h1,h2,h3,h4,h5⟩:=vF (Sf.xA 100).2.1 h
 obtain⟨o,c,e',g1,g2,g3,g4,g5,g6⟩:=IC (by omega) h1
 have hX:yu [c,e']:=⟨c,[e'],rfl, .inr ⟨g3,g4⟩⟩
 rcases(aC.xA (k:=1) h2 hX 98 100 (by omega)).2.1 m a [e] h5 with⟨v,b,k1,k2,k3,k4⟩ | ⟨_,l,k,k1⟩
 ·obtain rfl:v=[]:=by
   have:=congrArg List.length k1
   simp at this;exact this
  right
  subst k4
  have:=Fq (n:=98) g1 g2 g3 g4 g5 k3
  have e1:o :: (m.map (rE 1)++[c,e'])=(o :: (m.map (rE 1)++[c]))++[e']:=by simp
  rw [e1]at g6 this
  exact IE g6 g5 this
 ·left
  exact⟨l,k,Fv g6 (Fu (n:=98) g1 g2 k1)⟩
end Go.Proofs.YtmbppnbekkbibaaGreatDoor
end
