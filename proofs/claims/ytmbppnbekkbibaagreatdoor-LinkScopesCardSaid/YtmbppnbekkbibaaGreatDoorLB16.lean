/- HI, RV, PT -/
import Derived.Test.YtmbppnbekkbibaaGreatDoorLB15
import Derived.Test.YtmbppnbekkbibaaGreatDoorLB07
import Derived.Test.YtmbppnbekkbibaaGreatDoorLB01
set_option linter.unusedSimpArgs false
set_option linter.unusedVariables false
set_option maxRecDepth 100000
set_option maxHeartbeats 16000000
namespace Go.Proofs.YtmbppnbekkbibaaGreatDoor
open Go.RowKit
theorem UH:iF Tryz.prog 37 88 (.agg #[.string ⟨#[]⟩, .slice none 0 0, .int .i64 0, .int .i64 0]) 4 56:=⟨Tryz.underlying37,by kernel_rfl,rfl,by omega⟩
theorem UJ:iF Tryz.prog 38 51 (.agg #[.string ⟨#[]⟩, .bool false, .slice none 0 0, .string ⟨#[]⟩, .slice none 0 0, .int .i64 0, .string ⟨#[]⟩, .int .i64 0, .int .i64 0, .int .i64 0, .slice none 0 0, .slice none 0 0, .slice none 0 0, .int .i64 0, .int .i64 0]) 15 224:=⟨Tryz.underlying38,by kernel_rfl,rfl,by omega⟩
theorem GV {s:Bt} {ts r:List aF} {b:Bool} (h:dI s ts= .good b r):r.length≤ts.length:=by
 unfold dI at h;split at h
 ·injection h with _ h;subst h;simp
 ·injection h with _ h;subst h;exact Nat.le_refl _
theorem FL {s:Bt} {ts r:List aF} {u:Unit} (h:aI s ts= .good u r) (hw:1≤ts.length):r.length<ts.length:=by
 unfold aI at h;rcases hq:dI s ts with g | ⟨b,r1⟩
 ·exact(gu hq).elim
 rw [aj hq]at h;cases b
 ·cases h
 ·injection h with _ h;subst h;exact qB hq hw
theorem FM {ts r:List aF} {d:jJ} (h:mG ts= .good d r) (hw:Wf ts):r.length<ts.length:=by
 unfold mG at h;rcases h1:dI [101,120,112,111,114,116] ts with g | ⟨b,r1⟩
 ·exact(gu h1).elim
 rw [aj h1]at h;have w1:=((Sf.has _).good hw h1).1;have l1:=GV h1;rw [aj (show jK r1= .good (aS r1) r1 from rfl)]at h;rcases h2:aI [102,110] r1 with g | ⟨u,r2⟩
 ·rw [aB h2]at h;cases h
 rw [aj h2]at h;have w2:=((Sf.want _).good w1 h2).1;have l2:=FL h2 w1.pos;have l3:=((show Sf _ from Sf.then_ Sf.name fun s=>Sf.then_ Sf.vars fun v=>Sf.then_ (Sf.head (Sf.zG 100).1 [l7]) fun p=>Sf.then_ (Sf.want [61]) fun _=>Sf.then_ (Sf.zG 100).2.1 fun x=>Sf.then_ (Sf.want [59]) fun _=>Sf.ret (⟨s,b,v,p.1,p.2,x,(aS r1).line,(aS r1).col⟩:jJ)).good w2 h).2.length_le;omega
def YI (base:Nat) (w:World) (v:Value) (m:eH):Prop:=∃z:List Value,v= .agg z.toArray∧sO w (fun j=>base≤j) z m
structure LP (w:World) (bp B tb:Nat) (wr:World) (l:List kG) (r:List aF):Prop where
 turn:Turn (fun k=>k=bp) w wr
 tk:bB wr bp B r 0
 res:wr.heap[w.heap.size]? =some (.cells #[.slice none 0 0, .slice none 0 0] 40 (0,0))
 tok:wr.heap[tb]? =some (.cells #[.int .i64 (aS r).kind,sv (aS r).text, .int .i64 ((aS r).line:Nat), .int .i64 ((aS r).col:Nat)] 70 (0,0))
 lo:w.heap.size+2≤tb
 row:∃v,wr.heap[w.heap.size+1]? =some (.cells #[v, .slice none 0 0] 40 (0,0))∧dN Ba 4 88 wr (w.heap.size+2) (fun j=>w.heap.size+2≤j) v l∧v.ownBlock≠some tb
structure GX (w:World) (bp B base:Nat) (vi:Value) (xi:List Value) (li:List kG) (wr:World) (l:List jJ) (r:List aF):Prop where
 turn:Turn (fun k=>k=bp) w wr
 tk:bB wr bp B r 0
 bs:base≤wr.heap.size
 res:wr.heap[w.heap.size]? =some (.cells #[.slice none 0 0, .slice none 0 0] 40 (0,0))
 sl:dx wr (Iv (w.heap.size+2) base) 4 vi xi
 imps:bQ (Ba wr (Iv (w.heap.size+2) base)) 4 xi li
 row:∃v,wr.heap[w.heap.size+1]? =some (.cells #[vi,v] 40 (0,0))∧dN Cc 15 51 wr base (fun j=>base≤j) v l
theorem FN (w:World) (bp B:Nat) (ts:List aF) (h:bB w bp B ts 0):Calls Tryz.prog 44 #[.pointer (some ⟨bp,0,none⟩)] w (aD (YI w.heap.size) bp B 0 w (bC ts)):=by
 have hlt:=h.lt;have hB:=h.1;have hlen:=h.2.1.1;obtain⟨Q,hQ⟩:∃Q,bC ts=Q:=⟨_,rfl⟩
 rw [hQ];obtain⟨A,hA⟩:∃A,jy ts.length [] ts=A:=⟨_,rfl⟩
 have HQ:Hid (R7 A (fun i=>ak Eu fun d=>aG (⟨i,d⟩:eH))=Q):=hid (by
  rw [←hQ, ←hA];exact(yP Gg _ ts).symm)
 have HA:=hid hA;have HN:=hid (jA ((w.alloc (.cells #[.slice none 0 0, .slice none 0 0] 40)).alloc (.cells #[.slice none 0 0, .slice none 0 0] 40)) bp B ts 0 (h.below (new2 _ _ _)));have EX:=hid (h.below (new2 w (.cells #[.slice none 0 0, .slice none 0 0] 40) (.cells #[.slice none 0 0, .slice none 0 0] 40)));clear h hQ hA;go_enter Tryz.func44,Tryz.ntmps44;go_wp2_with fail;refine(HN.out).mono ?_;rintro e w1 ⟨rfl,hb1⟩;obtain⟨tm,hs1,hrs,hmb⟩:=kK (Turn.of_below (F:=fun k=>k=bp) hb1);obtain⟨t0,ht0⟩:∃t0,aS ts=t0:=⟨_,rfl⟩
 have lF:=hid ((EX.out.below hb1).below (new1 w1 (.cells #[.int .i64 t0.kind,sv t0.text, .int .i64 t0.line, .int .i64 t0.col] 70)));have HI1:Hid (LP w bp B w1.heap.size (w1.alloc (.cells #[.int .i64 t0.kind,sv t0.text, .int .i64 t0.line, .int .i64 t0.col] 70)) [] ts):=hid ⟨aA tm (Turn.alloc _ _ _),lF.out,bJ (hrs (by omega)),by rw [ht0];exact oF _ _,by omega, _,bJ (hmb (by omega)),dN.nil _ _ _ _ _ _,fun e=>by cases e⟩;rw [ht0];unfold nV;clear hb1 tm hrs hmb;go_wp2_with fail;go_loopw [4] (fun v4 wr=>∃(tb f:Nat) (l:List kG) (r:List aF),v4= .pointer (some ⟨tb,0,none⟩)∧jy f l r=A∧r.length≤f∧l.length+r.length≤8193∧LP w bp B tb wr l r) (fun _ wr=>leftOf wr bp)
 case atStart=>exact⟨_, _,[],ts,rfl,HA.out,Nat.le_refl _,by simpa using hlen,HI1.out⟩
 case round=>
  obtain⟨tb,f,l,r,rfl,hinv,hf,hlr,oM⟩:=hrel;have hwf:=oM.tk.wf;have hpos:=hwf.pos;obtain⟨f,rfl⟩:∃f',f=f'+1:=⟨f - 1,by omega⟩
  obtain⟨t,ht⟩:∃t,aS r=t:=⟨_,rfl⟩
  have HL:Hid (ak (dI [105,109,112,111,114,116]) (fun b=>if b then ak (jw t) fun i=>jy f (l++[i])else aG l) r=A):=hid (by subst ht;exact hinv);have HLEN:=hid oM.tk.left;have HF:=hid hf;have MC:=hid hlr;have wP:=hid oM;have CB:=hid hwf;have Fv:=oM.tok;rw [ht]at Fv;have QE:=hid Fv;have hsr:=oM.turn.size;have hlo:=oM.lo;have acB:=block_lt Fv;have acC:=block_lt oM.row.choose_spec.1;have HH:=hid (jc wr bp B r 0 oM.tk [105,109,112,111,114,116]);clear hinv hf hlr oM hwf ht Fv;go_wp2_with fail;refine(HH.out).mono ?_;rintro e w2 h2;rcases hq:dI [105,109,112,111,114,116] r with g | ⟨b,r2⟩
  ·exact(gu hq).elim
  ·obtain⟨v2,rfl,tn,rfl,kn⟩:=h2.aL hq;have hs2:=tn.size;have HT2:=hid (aA wP.out.turn tn);have kH:=hid kn;have uF:=hid (ah wP.out.res tn (by omega));have OU:=hid (ah QE.out tn (by omega));obtain⟨vi,hmb,hrow,hnt⟩:=wP.out.row;obtain⟨Ai,ci,rfl,hci,hcm⟩:=hrow.shape;have QY:=hid (ah hmb tn (by omega));have DI:=hid (hrow.turn gY tn (fun g hg e=>by have:=(hrow.lt g hg).1;omega) (fun g _ h e=>by omega));have lg:=hid hq;clear h2 tn kn hq hmb hrow;cases b
   ·have HA2:Hid (Pr.good l r2=A):=hid ((aj lg.out).symm.trans HL.out);obtain⟨A2,hA2⟩:∃A2,dV r2.length [] r2=A2:=⟨_,rfl⟩
    have HD2:Hid (R7 A2 (fun d=>aG (⟨l,d⟩:eH))=Q):=hid (by
     rw [←HQ.out, ←HA2.out, ←hA2];exact(yP Eu _ r2).symm)
    have HDA:=hid hA2;have hr2:=GV lg.out;obtain⟨xi,q1,q2⟩:=DI.out.sl gY;have HI2:Hid (GX w bp B w2.heap.size (.slice Ai l.length ci) xi l w2 [] r2):=hid ⟨HT2.out,kH.out,Nat.le_refl _,uF.out,q1.mono (fun g hg h=>by rcases h with h | h <;> exact⟨h,hg⟩),dn gY (fun g hg h=>by rcases h with h | h <;> exact⟨h,hg⟩) q2, _,QY.out,dN.nil _ _ _ _ _ _⟩;clear hA2 q1 q2;go_wp2_with fail;go_loopw [26] (fun _ wr=>∃(f:Nat) (m:List jJ) (r:List aF),dV f m r=A2∧r.length≤f∧m.length+r.length≤8193∧GX w bp B w2.heap.size (.slice Ai l.length ci) xi l wr m r) (fun _ wr=>leftOf wr bp)
    case atStart=>exact⟨_,[],r2,HDA.out,Nat.le_refl _,by have:=MC.out;simp;omega,HI2.out⟩
    case round=>
     obtain⟨f,m,r,hinv,hf,hmr,oM⟩:=hrel;have hwf:=oM.tk.wf;have hpos:=hwf.pos;obtain⟨f,rfl⟩:∃f',f=f'+1:=⟨f - 1,by omega⟩
     obtain⟨t,ht⟩:∃t,aS r=t:=⟨_,rfl⟩
     have HLT:Hid (∀b,(t.kind==0)=b→(if b then aG m else ak mG fun d=>dV f (m++[d])) r=A2):=hid (fun b hb=>by rw [←hinv, ←hb, ←ht];rfl);have UK:=hid oM.tk.left;have UL:=hid hf;have TH:=hid hmr;have wQ:=hid oM;have YJ:=hid hwf;have Xr:=oM.turn.size;have acE:=block_lt oM.row.choose_spec.1;have EW:=hid (jA wr bp B r 0 oM.tk);rw [ht]at EW;have YK:∀w:World,(Instr.field 70 (.agg #[.int .i64 t.kind,sv t.text, .int .i64 t.line, .int .i64 t.col]) 0).run Tryz.prog w= .ok (.int .i64 t.kind) w:=fun _=>rfl;clear hinv hf hmr oM hwf ht;unfold nV at EW;go_wp2_with fail;refine(EW.out).mono ?_;rintro e w3 ⟨rfl,hb3⟩;have t3:=Turn.of_below (F:=fun k=>k=bp) hb3;have hs3:=hb3.size;have HT3:=hid (aA wQ.out.turn t3);have jg:=hid (wQ.out.tk.below hb3);have iT:=hid (ah wQ.out.res t3 (by omega));have UM:=hid (wQ.out.sl.turn t3 (fun g _ h e=>by have:=h.1;omega));have UN:=hid (bg gY t3 (fun g _ h e=>by have:=h.1;omega) wQ.out.imps);obtain⟨vd,hmb,hrow⟩:=wQ.out.row;obtain⟨Ad,cd,rfl,hcd,acF⟩:=hrow.shape;have hbw2:=wQ.out.bs;have QZ:=hid (ah hmb t3 (by omega));have uw:=hid (hrow.turn mE t3 (fun g hg e=>by have:=(hrow.lt g hg).1;omega) (fun g _ h e=>by omega));have UO:=hid hrow.lt;clear hb3 t3 hmb hrow;cases hk0:(t.kind==0)
     ·have hk1:(t.kind != 0)=true:=by simp only [bne,hk0,Bool.not_false]
      have OA:Hid (ak mG (fun d=>dV f (m++[d])) r=A2):=hid (HLT.out false hk0);have UQ:=eD QZ.out;have P1:=hid (fun(w':World) (h:Turn (fun j=>j=bp∨w2.heap.size≤j) w3 w')=>aM UQ.2.1 h (by omega));have HD0:Hid (Turn (fun j=>j=bp∨w2.heap.size≤j) w3 w3.drew):=hid ⟨rfl,rfl,rfl,Nat.le_refl _,fun _ _ _=>rfl⟩;have mX:Hid (Turn (fun j=>j=bp) w3 w3.drew):=hid ⟨rfl,rfl,rfl,Nat.le_refl _,fun _ _ _=>rfl⟩;clear UQ hk0;go_wp2_with fail;refine bH (S:=fun w'=>Turn (fun j=>j=bp∨w2.heap.size≤j) w3 w') (x:=7) (by kernel_rfl) ?_
      try simp only [Act.put,List.getElem_toArray,List.getElem_cons_zero,List.getElem_cons_succ,List.setIfInBounds_toArray,List.set_cons_zero,List.set_cons_succ]
      refine tx 0 (.pointer (some ⟨w.heap.size+1,1,none⟩)) HD0.out ?_;refine jO 1 (.slice Ad m.length cd) P1.out HD0.out ?_;refine tx 2 (.pointer (some ⟨bp,0,none⟩)) HD0.out ?_;refine av (rs:=[3]) (by kernel_rfl) (by simp) ?_;refine au.cons rfl (fun K hK=> ?_) (au.nil);go_simp;refine(LM w3.drew bp B r jg.out).mono ?_;rintro e w4 h4;rcases hq:mG r with g | ⟨x,r4⟩
      ·obtain⟨rfl,tn,bn⟩:=h4.bD hq;have e1:Pr.bad g=A2:=(aB hq).symm.trans OA.out;exact⟨rfl,aD.fail (by rw [←HD2.out, ←e1];rfl) (dB.mk2 (aA HT3.out (aA mX.out tn)) bn)⟩
      ·obtain⟨v4,rfl,tn,⟨z,rfl,hz⟩,kn⟩:=h4.aL hq;obtain⟨A1,n1,c1,OM,n2,c2,k4,s4,a4,b4,o4,A3,n3,c3,A4,n4,c4,A5,n5,c5,rfl⟩:=hz.shape';have t4:=aA mX.out tn;have hs4:=t4.size;have gG:=hid t4;have Gr:=hid (t4.mono (G:=fun j=>j=bp∨w2.heap.size≤j) (fun _ _ h=> .inl h));have kQ:=hid kn;have yQ:=hid (hz.mono (G:=fun j=>w3.heap.size≤j) (fun _ _ h=>h));have HR4:=hid (uw.out.turn mE t4 (fun g hg e=>by have:=(UO.out g hg).1;omega) (fun g _ h e=>by omega));have Q0:=hid (ah QZ.out t4 (by omega));have gU:=hid (ah iT.out t4 (by omega));have YL:=hid (UM.out.turn t4 (fun g _ h e=>by have:=h.1;omega));have YM:=hid (bg gY t4 (fun g _ h e=>by have:=h.1;omega) UN.out);have Q5:=hid (FM hq YJ.out);have fD:Hid (dV f (m++[x]) r4=A2):=hid ((aj hq).symm.trans OA.out);clear h4 tn hz kn hq t4;refine hK.out _ _ Gr.out ?_;clear hK K
       try simp only [Act.put,List.getElem_toArray,List.getElem_cons_zero,List.getElem_cons_succ,List.setIfInBounds_toArray,List.set_cons_zero,List.set_cons_succ]
       refine av (rs:=[4]) (by kernel_rfl) (by simp) ?_;refine au.cons rfl (fun K hK=> ?_) (au.nil);go_simp;have u6:=hid (Gr.out.trans (Turn.alloc (fun j=>j=bp∨w2.heap.size≤j) w4 (.cells #[sv x.name, .bool x.exp, .slice A1 n1 c1,sv x.param, .slice OM n2 c2, .int .i64 k4,sv s4, .int .i64 a4, .int .i64 b4, .int .i64 o4, .slice A3 n3 c3, .slice A4 n4 c4, .slice A5 n5 c5, .int .i64 x.line, .int .i64 x.col] 51)) (fun _ _ h=>h));refine hK.out _ _ u6.out ?_;clear hK K
       try simp only [Act.put,List.getElem_toArray,List.getElem_cons_zero,List.getElem_cons_succ,List.setIfInBounds_toArray,List.set_cons_zero,List.set_cons_succ]
       refine av (rs:=[5]) (by kernel_rfl) (by simp) ?_;refine au.cons rfl (fun K hK=> ?_) (au.nil);obtain⟨ys,hy,hr⟩:=HR4.out;have hyl:ys.length=m.length*15:=by have:=hy.1;simpa using this
       refine cu rfl (.tmp 33) (.tmp 36) _ rfl w2.heap.size UJ (.slice Ad m.length cd) (.slice (some ⟨w4.heap.size,0,none⟩) 1 1) rfl rfl (hy.alloc (.cells #[sv x.name, .bool x.exp, .slice A1 n1 c1,sv x.param, .slice OM n2 c2, .int .i64 k4,sv s4, .int .i64 a4, .int .i64 b4, .int .i64 o4, .slice A3 n3 c3, .slice A4 n4 c4, .slice A5 n5 c5, .int .i64 x.line, .int .i64 x.col] 51)) (fT w4 #[sv x.name, .bool x.exp, .slice A1 n1 c1,sv x.param, .slice OM n2 c2, .int .i64 k4,sv s4, .int .i64 a4, .int .i64 b4, .int .i64 o4, .slice A3 n3 c3, .slice A4 n4 c4, .slice A5 n5 c5, .int .i64 x.line, .int .i64 x.col] 51 15 1 rfl (by decide)) (mE.one yQ.out) (by have:=TH.out;simp [maxLen];omega) (by have:=TH.out;simp;omega) (by simp;omega) (fun v7 w7 n7 aK gD dK=> ?_);obtain⟨A7,c7,rfl, _, _⟩:=eu aK;obtain⟨qh,yO,t7⟩:=qo (x:=x) mE hy hr (yQ.out.mono (fun g _ h=>⟨fun e=>by have:=(UO.out g e).2;omega,by omega⟩)) gD dK aK (by omega);have rX:=hy.lt;have qP:=hid qh;have iE:=hid t7;have fQ:=hid (Gr.out.trans (t7.mono (G:=fun j=>j=bp∨w2.heap.size≤j) (fun j _ e=> .inr (rX j e).1)) (fun _ _ h=>h));have Q6:=hid rX;have fI:=ah Q0.out t7 (fun e=>by have:=(rX _ e).1;omega);have Q7:=hid fI;have t17:w7.cell? ⟨w.heap.size+1,1,none⟩=some (.slice Ad m.length cd):=(cell_of_row _ _ _ _ _ _ fI).trans rfl;have z17:∀i,w7.frozen? ⟨w.heap.size+1,i,none⟩=false:=fun i=>frozen_of_row _ _ _ _ _ fI;subst yO;clear aK gD dK qh t7 hy hr fI;refine hK.out _ _ fQ.out ?_;clear hK K
       try simp only [Act.put,List.getElem_toArray,List.getElem_cons_zero,List.getElem_cons_succ,List.setIfInBounds_toArray,List.set_cons_zero,List.set_cons_succ]
       refine tx 6 (.pointer (some ⟨w.heap.size+1,1,none⟩)) fQ.out ?_;refine av (rs:=[7]) (by kernel_rfl) (by simp) ?_;refine au.past rfl (by kernel_rfl) (fun K hK=> ?_) (au.nil);go_simp;refine hK.out _ _ ?_;clear hK K
       try simp only [Act.put,List.getElem_toArray,List.getElem_cons_zero,List.getElem_cons_succ,List.setIfInBounds_toArray,List.set_cons_zero,List.set_cons_succ]
       refine aN (by kernel_rfl) ?_ _;have tl:=ay w7 (w.heap.size+1) 1 (.slice A7 (m.length+1) c7);have rX:=Q6.out;have hLS:=Q5.out;have hF:=UL.out;have hMR:=TH.out
       have Dn:GX w bp B w2.heap.size (.slice Ai l.length ci) xi l (w7.setCell ⟨w.heap.size+1,1,none⟩ (.slice A7 (m.length+1) c7)) (m++[x]) r4:=
        ⟨((aA HT3.out gG.out).trans iE.out (fun i hi e=>by have:=(rX i e).1;omega)).trans tl (fun i hi e=>by omega),
         (kQ.out.turn iE.out (fun e=>by have:=(rX _ e).1;omega) (fun k hk e=>by have:=(rX _ e).1;omega)).turn tl (by omega) (fun k hk e=>by omega),by have:=iE.out.size;simp;omega,
         ah (ah gU.out iE.out (fun e=>by have:=(rX _ e).1;omega)) tl (by omega),
         (YL.out.turn iE.out (fun g _ h e=>by have:=(rX _ e).1;have:=h.2;omega)).turn tl (fun g _ h e=>by have:=h.1;omega),
         bg gY tl (fun g _ h e=>by have:=h.1;omega) (bg gY iE.out (fun g _ h e=>by have:=(rX _ e).1;have:=h.2;omega) YM.out),
         _,heap_setCell_same _ _ 1 _ _ _ Q7.out,by
          have:=qP.out.turn mE tl (fun g hg e=>by have:=(qP.out.lt g hg).1;omega) (fun g _ h e=>by omega);simpa using this⟩
       have YN:∃(f:Nat) (m':List jJ) (r:List aF),dV f m' r=A2∧r.length≤f∧m'.length+r.length≤8193∧GX w bp B w2.heap.size (.slice Ai l.length ci) xi l (w7.setCell ⟨w.heap.size+1,1,none⟩ (.slice A7 (m.length+1) c7)) m' r:=⟨f, _,r4,fD.out,by omega,by simp;omega,Dn⟩
       go_roundw
       case rel=>(repeat apply Exists.intro);exact⟨YN,rfl⟩
       case measure=>rw [Dn.tk.left,UK.out];omega
     ·have hk1:(t.kind != 0)=false:=by simp only [bne,hk0,Bool.not_true]
      have OA:Hid (Pr.good m r=A2):=hid (HLT.out true hk0);have JG:Hid (Pr.good (⟨l,m⟩:eH) r=Q):=hid (by rw [←HD2.out, ←OA.out];rfl);obtain⟨m0,m1,mz⟩:=eD QZ.out;obtain⟨c0,c1,cz⟩:=eD iT.out;clear hk0;go_wp2_with fail;have tF:=(ay w3 w.heap.size 0 (.slice Ai l.length ci)).trans (ay _ w.heap.size 1 (.slice Ad m.length cd)) (fun _ _ h=>h);refine bodyPost_ret (aV rfl rfl (heap_setCell_same _ _ 1 _ _ (.slice Ad m.length cd) (heap_setCell_same _ _ 0 _ _ (.slice Ai l.length ci) iT.out)) Tryz.underlying40 rfl (by kernel_rfl)) rfl ?_;obtain⟨xd,d1,d2⟩:=uw.out.sl mE;exact aD.done JG.out.symm (HT3.out.trans tF (fun i hi e=>by omega)) ⟨_,rfl, _, _, _, _,rfl,(UM.out.turn tF (fun g _ h e=>by have:=h.1;omega)).mono (fun g _ h=>by have:=h.1;omega),dn gY (fun g _ h=>by have:=h.1;omega) (bg gY tF (fun g _ h e=>by have:=h.1;omega) UN.out),(d1.turn tF (fun g _ h e=>by rcases h with h | h <;> omega)).mono (fun g _ h=>by rcases h with h | h <;> omega),dn mE (fun g _ h=>by rcases h with h | h <;> omega) (bg mE tF (fun g _ h e=>by rcases h with h | h <;> omega) d2)⟩ (jg.out.turn tF (by omega) (fun k hk e=>by omega))
   ·have HL2:Hid (ak (jw t) (fun i=>jy f (l++[i])) r2=A):=hid ((aj lg.out).symm.trans HL.out);have UR:=eD QY.out;have LQ:=bM OU.out;have P1:=hid (fun(w':World) (h:Turn (fun j=>j=bp∨w2.heap.size≤j∨(Value.slice Ai l.length ci).ownBlock=some j) w2 w')=>aM UR.1 h (fun e=>by rcases e with e | e | e;omega;omega;have:=(DI.out.lt _ e).1;omega));have mX:Hid (Turn (fun j=>j=bp) w2 w2.drew):=hid ⟨rfl,rfl,rfl,Nat.le_refl _,fun _ _ _=>rfl⟩;have HD0:=hid (mX.out.mono (G:=fun j=>j=bp∨w2.heap.size≤j∨(Value.slice Ai l.length ci).ownBlock=some j) (fun _ _ h=> .inl h));have LU:¬(tb=bp∨w2.heap.size≤tb∨(Value.slice Ai l.length ci).ownBlock=some tb):=fun e=>by rcases e with e | e | e;omega;omega;exact hnt e
    have PT:=hid (fun(w':World) (h:Turn (fun j=>j=bp∨w2.heap.size≤j∨(Value.slice Ai l.length ci).ownBlock=some j) w2 w')=>(⟨aM LQ.1 h LU,aM LQ.2.1 h LU,aM LQ.2.2.1 h LU,aM LQ.2.2.2.1 h LU⟩:w'.cell? ⟨tb,0,none⟩=some (.int .i64 t.kind)∧w'.cell? ⟨tb,1,none⟩=some (sv t.text)∧w'.cell? ⟨tb,2,none⟩=some (.int .i64 t.line)∧w'.cell? ⟨tb,3,none⟩=some (.int .i64 t.col)));clear UR LQ LU;go_wp2_with fail;refine bH (S:=fun w'=>Turn (fun j=>j=bp∨w2.heap.size≤j∨(Value.slice Ai l.length ci).ownBlock=some j) w2 w') (x:=8) (by kernel_rfl) ?_
    try simp only [Act.put,List.getElem_toArray,List.getElem_cons_zero,List.getElem_cons_succ,List.setIfInBounds_toArray,List.set_cons_zero,List.set_cons_succ]
    refine tx 0 (.pointer (some ⟨w.heap.size+1,0,none⟩)) HD0.out ?_;refine jO 1 (.slice Ai l.length ci) P1.out HD0.out ?_;refine tx 2 (.pointer (some ⟨bp,0,none⟩)) HD0.out ?_;refine jO 3 (.agg #[.int .i64 t.kind,sv t.text, .int .i64 t.line, .int .i64 t.col]) PT.out HD0.out ?_;refine av (rs:=[4]) (by kernel_rfl) (by simp) ?_;refine au.cons rfl (fun K hK=> ?_) (au.nil);go_simp;refine(BH w2.drew bp B r2 kH.out t).mono ?_;rintro e w4 h4;rcases hq:jw t r2 with g | ⟨x,r4⟩
    ·obtain⟨rfl,tn,bn⟩:=h4.bD hq;have e1:Pr.bad g=A:=(aB hq).symm.trans HL2.out;exact⟨rfl,aD.fail (by rw [←HQ.out, ←e1];rfl) (dB.mk2 (aA HT2.out (aA mX.out tn)) bn)⟩
    ·obtain⟨v4,rfl,tn,⟨z,rfl,hz⟩,kn⟩:=h4.aL hq;obtain⟨A1,n1,c1,rfl⟩:=hz.shape';have t4:=aA mX.out tn;have hs4:=t4.size;have gG:=hid t4;have Gr:=hid (t4.mono (G:=fun j=>j=bp∨w2.heap.size≤j∨(Value.slice Ai l.length ci).ownBlock=some j) (fun _ _ h=> .inl h));have kQ:=hid kn;have yQ:=hid (hz.mono (G:=fun j=>w2.heap.size≤j) (fun _ _ h=>h));have HR4:=hid (DI.out.turn gY t4 (fun g hg e=>by have:=(DI.out.lt g hg).1;omega) (fun g _ h e=>by omega));have Q0:=hid (ah QY.out t4 (by omega));have gU:=hid (ah uF.out t4 (by omega));have Q5:=hid (show r4.length<r.length from Nat.lt_of_le_of_lt ((Sf.import_ t).good kH.out.wf hq).2.length_le (qB lg.out CB.out.pos));have fD:Hid (jy f (l++[x]) r4=A):=hid ((aj hq).symm.trans HL2.out);have YO:=hid DI.out.lt;have Q8:=hid (ah OU.out t4 (by omega));clear h4 tn hz kn hq t4;refine hK.out _ _ Gr.out ?_;clear hK K
     try simp only [Act.put,List.getElem_toArray,List.getElem_cons_zero,List.getElem_cons_succ,List.setIfInBounds_toArray,List.set_cons_zero,List.set_cons_succ]
     refine av (rs:=[5]) (by kernel_rfl) (by simp) ?_;refine au.cons rfl (fun K hK=> ?_) (au.nil);go_simp;have u6:=hid (Gr.out.trans (Turn.alloc (fun j=>j=bp∨w2.heap.size≤j∨(Value.slice Ai l.length ci).ownBlock=some j) w4 (.cells #[sv x.from_, .slice A1 n1 c1, .int .i64 x.line, .int .i64 x.col] 88)) (fun _ _ h=>h));refine hK.out _ _ u6.out ?_;clear hK K
     try simp only [Act.put,List.getElem_toArray,List.getElem_cons_zero,List.getElem_cons_succ,List.setIfInBounds_toArray,List.set_cons_zero,List.set_cons_succ]
     refine av (rs:=[6]) (by kernel_rfl) (by simp) ?_;refine au.cons rfl (fun K hK=> ?_) (au.nil);obtain⟨ys,hy,hr⟩:=HR4.out;have hyl:ys.length=l.length*4:=by have:=hy.1;simpa using this
     refine cu rfl (.tmp 18) (.tmp 22) _ rfl (w.heap.size+2) UH (.slice Ai l.length ci) (.slice (some ⟨w4.heap.size,0,none⟩) 1 1) rfl rfl (hy.alloc (.cells #[sv x.from_, .slice A1 n1 c1, .int .i64 x.line, .int .i64 x.col] 88)) (fT w4 #[sv x.from_, .slice A1 n1 c1, .int .i64 x.line, .int .i64 x.col] 88 4 1 rfl (by decide)) (gY.one yQ.out) (by have:=MC.out;simp [maxLen];omega) (by have:=MC.out;simp;omega) (by simp;omega) (fun v7 w7 n7 aK gD dK=> ?_);obtain⟨A7,c7,rfl, _, _⟩:=eu aK;obtain⟨qh,yO,t7⟩:=qo (x:=x) gY hy hr (yQ.out.mono (fun g _ h=>⟨fun e=>by have:=(YO.out g e).2;omega,by omega⟩)) gD dK aK (by omega);have qP:=hid qh;have iE:=hid t7;have fQ:=hid (Gr.out.trans (t7.mono (G:=fun j=>j=bp∨w2.heap.size≤j∨(Value.slice Ai l.length ci).ownBlock=some j) (fun j _ e=> .inr (.inr e))) (fun _ _ h=>h));have Q6:=hid hy.lt;have fI:=ah Q0.out t7 (fun e=>by have:=(hy.lt _ e).1;omega);have Q7:=hid fI;have t17:w7.cell? ⟨w.heap.size+1,0,none⟩=some (.slice Ai l.length ci):=(cell_of_row _ _ _ _ _ _ fI).trans rfl;have z17:∀i,w7.frozen? ⟨w.heap.size+1,i,none⟩=false:=fun i=>frozen_of_row _ _ _ _ _ fI;subst yO;clear aK gD dK qh t7 hy hr fI;refine hK.out _ _ fQ.out ?_;clear hK K
     try simp only [Act.put,List.getElem_toArray,List.getElem_cons_zero,List.getElem_cons_succ,List.setIfInBounds_toArray,List.set_cons_zero,List.set_cons_succ]
     refine tx 7 (.pointer (some ⟨w.heap.size+1,0,none⟩)) fQ.out ?_;refine av (rs:=[8]) (by kernel_rfl) (by simp) ?_;refine au.past rfl (by kernel_rfl) (fun K hK=> ?_) (au.nil);go_simp;refine hK.out _ _ ?_;clear hK K
     try simp only [Act.put,List.getElem_toArray,List.getElem_cons_zero,List.getElem_cons_succ,List.setIfInBounds_toArray,List.set_cons_zero,List.set_cons_succ]
     refine aN (by kernel_rfl) ?_ _;have rX:=Q6.out;have hs7:=iE.out.size;have tl:=ay w7 (w.heap.size+1) 0 (.slice A7 (l.length+1) c7);have tk7:=ah (ah Q8.out iE.out hnt) tl (by omega);have uq:(w7.setCell ⟨w.heap.size+1,0,none⟩ (.slice A7 (l.length+1) c7)).heap.size=w7.heap.size:=by simp
     have lY:=hid (((aA HT2.out gG.out).trans iE.out (fun i hi e=>by have:=(rX i e).1;omega)).trans tl (fun i hi e=>by omega));have qG:=hid ((kQ.out.turn iE.out (fun e=>by have:=(rX _ e).1;omega) (fun k hk e=>by have:=(rX _ e).1;omega)).turn tl (by omega) (fun k hk e=>by omega));have iY:=hid (ah (ah gU.out iE.out (fun e=>by have:=(rX _ e).1;omega)) tl (by omega));have YP:=hid (show(w7.setCell ⟨w.heap.size+1,0,none⟩ (.slice A7 (l.length+1) c7)).heap[w.heap.size+1]? =some (.cells #[.slice A7 (l.length+1) c7, .slice none 0 0] 40 (0,0))from heap_setCell_same _ _ 0 _ _ _ Q7.out);have Q9:=qP.out.turn gY tl (fun g hg e=>by have:=(qP.out.lt g hg).1;omega) (fun g _ h e=>by omega);have YQ:=hid Q9;have UU:=Q9.lt;have YR:=oF (w7.setCell ⟨w.heap.size+1,0,none⟩ (.slice A7 (l.length+1) c7)) (.cells #[.int .i64 t.kind,sv t.text, .int .i64 t.line, .int .i64 t.col] 70);rw [uq]at YR;have YS:=hid YR;have V5:=hid (jA ((w7.setCell ⟨w.heap.size+1,0,none⟩ (.slice A7 (l.length+1) c7)).alloc (.cells #[.int .i64 t.kind,sv t.text, .int .i64 t.line, .int .i64 t.col] 70)) bp B r4 0 (qG.out.below (new1 _ _)));obtain⟨k0,k1,k2,k3,kz⟩:=bM (ah Q8.out iE.out hnt);have acI:tb<w7.heap.size:=block_lt (ah Q8.out iE.out hnt);have acJ:¬tb=w.heap.size+1:=by omega
     have acK:¬w.heap.size+1=tb:=by omega
     clear tk7 Q9 tl YR;unfold nV at V5;go_wp2_with fail;refine(V5.out).mono ?_;rintro e kR ⟨rfl,wS⟩;have QX:=wS.size;simp at QX;have wS:=wS;have t10:Turn (fun _=>False) (w7.setCell ⟨w.heap.size+1,0,none⟩ (.slice A7 (l.length+1) c7)) kR:=(Turn.alloc _ _ _).trans (Turn.of_below (F:=fun _=>False) wS) (fun _ _ h=>h);have hb0:=ah YS.out (Turn.of_below (F:=fun _=>False) wS) id;obtain⟨n0,n1,n2,n3,nz⟩:=bM hb0;have tP:=dR kR w7.heap.size (.int .i64 (aS r4).kind) (sv (aS r4).text) (.int .i64 ((aS r4).line:Nat)) (.int .i64 ((aS r4).col:Nat));have t11:Turn (fun _=>False) (w7.setCell ⟨w.heap.size+1,0,none⟩ (.slice A7 (l.length+1) c7)) (jB kR w7.heap.size (.int .i64 (aS r4).kind) (sv (aS r4).text) (.int .i64 ((aS r4).line:Nat)) (.int .i64 ((aS r4).col:Nat))):=t10.trans tP (fun i hi e=>by rw [uq]at hi;omega)
     have Dn:LP w bp B w7.heap.size (jB kR w7.heap.size (.int .i64 (aS r4).kind) (sv (aS r4).text) (.int .i64 ((aS r4).line:Nat)) (.int .i64 ((aS r4).col:Nat))) (l++[x]) r4:=
      ⟨lY.out.trans t11 (fun _ _ h=>h.elim),qG.out.turn t11 id (fun _ _=>id),ah iY.out t11 id,bZ hb0 _ _ _ _,by omega, _,ah YP.out t11 id,by
       have:=YQ.out.turn gY t11 (fun _ _=>id) (fun _ _ _=>id);simpa using this,fun e=>by have:=(UU _ e).2;rw [uq]at this;omega⟩
     have HRF:=hid Dn;have hLS:=Q5.out;have hF:=HF.out;have hLR:=MC.out;clear t10 tP t11 Dn hb0 wS;go_wp2_with fail
     go_roundw
     case rel=>exact⟨w7.heap.size,f,l++[x],r4,rfl,fD.out,by omega,by simp;omega,HRF.out⟩
     case measure=>rw [HRF.out.tk.left,HLEN.out];omega
def NC (k:Nat) (i:kG):kG:={ i with line:=i.line+k}
def JJ (k:Nat) (d:jJ):jJ:={ d with line:=d.line+k,body:=Bo k d.body}
def V6 (k:Nat) (m:eH):eH:=⟨m.imps.map (NC k),m.decls.map (JJ k)⟩
mutual
theorem DJ:∀x:bT,Bo 0 x=x
 | .mk kd t n l c ts ns ks=>by rw [Bo,AL ks];simp
theorem AL:∀l:List bT,EN 0 l=l
 | []=>rfl
 | x :: l=>by rw [EN,DJ x,AL l]
end
theorem LV (m:eH):V6 0 m=m:=by
 have h1:(fun i:kG=>NC 0 i)=id:=by funext i;unfold NC;simp
 have h2:(fun d:jJ=>JJ 0 d)=id:=by funext d;unfold JJ;rw [DJ];simp
 unfold V6;rw [show NC 0=id from h1,show JJ 0=id from h2];simp
section
variable {k:Nat} {E x:aF} (hE:E.kind=0) (hx:x.kind=0) {u:List aF}
include hE hx
theorem aC.Ra:(∀u,aC k False E [x] Ta (dU 100).typ (dU 100).typ u)∧(∀u,aC k False E [x] (Bq k) (dU 100).expr (dU 100).expr u):=by
 have h:=aC.zG (k:=k) hE ⟨x,[],rfl, .inl hx⟩ 100 100 (Nat.le_refl _);have e:(100<100)=False:=by simp
 rw [e]at h;exact⟨h.1,h.2.1⟩
theorem aC.var:aC k False E [x] (fun a b _=>b=a) xY xY u:=by
 have hX:zJ [x]:=⟨x,[],rfl, .inl hx⟩
 refine(aC.name hE).then_ fun a b v hv e=> ?_;subst e;refine(aC.has hE hX (by decide)).then_ fun c b v hv ⟨e,h⟩=> ?_;subst e;cases c
 ·exact .ret rfl
 ·exact((aC.Ra hE hx).1 _).then_ fun a b v hv e=>by subst e;exact .ret rfl
theorem aC.vars:aC k False E [x] (fun a b _=>b=a) o8 o8 u:=by
 have hX:zJ [x]:=⟨x,[],rfl, .inl hx⟩
 refine(aC.has hE hX (by decide)).then_ fun c b v hv ⟨e,h⟩=> ?_;subst e;cases c
 ·exact .ret rfl
 ·refine(aC.sep (Q:=fun a b=>b=a) hE hX fun u=>aC.var hE hx).then_ fun a b v hv h=> ?_;obtain rfl:=Bp h.1 h.2;exact(aC.want hE).then_ fun _ _ v _ _=> .ret rfl
theorem aC.import_ (t:aF):aC k False E [x] (fun a b _=>b=NC k a) (jw t) (jw (wM k t)) u:=by
 have hX:zJ [x]:=⟨x,[],rfl, .inl hx⟩
 refine(aC.name hE).then_ fun a b v hv e=> ?_;subst e;refine(aC.want hE).then_ fun _ _ v _ _=>(aC.sep (Q:=fun a b=>b=a) hE hX fun u=>(aC.name hE).mono fun _ _ _ e=>e.symm).then_ fun a b v hv h=> ?_;obtain rfl:=Bp h.1 h.2;exact(aC.want hE).then_ fun _ _ v _ _=> .ret (by simp [NC,wM])
theorem aC.decl:aC k False E [x] (fun a b v=>b=JJ k a∧v.length<u.length) mG mG u:=by
 have hX:zJ [x]:=⟨x,[],rfl, .inl hx⟩
 refine(aC.has hE hX (by decide)).then_ fun c b v0 hv0 ⟨e, _⟩=> ?_;subst e;refine aC.here.then_ fun h h' v hv ⟨e,h1⟩=> ?_;subst e;refine(aC.want hE).then_ fun _ _ v1 _ ⟨t,ht⟩=> ?_;obtain⟨rfl,rfl⟩:=h1 _ _ ht;have hlt:v1.length<u.length:=by have:=iy hv0;rw [ht]at this;simp at this;omega
 refine(aC.name hE).then_ fun a b v2 hv2 e=> ?_;subst e;refine(aC.vars hE hx).then_ fun a b v3 hv3 e=> ?_;subst e;refine(aC.head hE hX (aC.Ra hE hx).1 _).then_ fun a b v4 hv4 e=> ?_;subst e;refine(aC.want hE).then_ fun _ _ v5 hv5 _=>((aC.Ra hE hx).2 _).then_ fun a b v6 hv6 e=> ?_;subst e;refine(aC.want hE).then_ fun _ _ v7 hv7 _=> .ret ⟨by simp [JJ,wM], ?_⟩;have:=iy hv2;have:=iy hv3;have:=iy hv4;have:=iy hv5;have:=iy hv6;have:=iy hv7;omega
theorem aC.imps (n:Nat):∀(u:List aF) (f g:Nat) (l:List kG),u.length≤n→u.length<f→u.length<g→
  aC k False E [x] (fun a b _=>b=a.map (NC k)) (jy f l) (jy g (l.map (NC k))) u:=by
 have hX:zJ [x]:=⟨x,[],rfl, .inl hx⟩
 induction n with
 | zero=>
  intro u f g l hn hf hg;obtain⟨f,rfl⟩:∃f',f=f'+1:=⟨f - 1,by omega⟩
  obtain⟨g,rfl⟩:∃f',g=f'+1:=⟨g - 1,by omega⟩
  refine aC.here.then_ fun a b v hv ⟨e,h1⟩=> ?_;subst e;refine(aC.has hE hX (by decide)).then_ fun a b v hv ⟨e,h⟩=> ?_;subst e;rcases h with⟨rfl,rfl⟩ | ⟨t,rfl,rfl⟩
  ·exact .ret rfl
  ·simp at hn
 | succ n ih=>
  intro u f g l hn hf hg;obtain⟨f,rfl⟩:∃f',f=f'+1:=⟨f - 1,by omega⟩
  obtain⟨g,rfl⟩:∃f',g=f'+1:=⟨g - 1,by omega⟩
  refine aC.here.then_ fun a b v hv ⟨e,h1⟩=> ?_;subst e;refine(aC.has hE hX (by decide)).then_ fun a b v hv ⟨e,h⟩=> ?_;subst e;rcases h with⟨rfl,rfl⟩ | ⟨t,rfl,rfl⟩
  ·exact .ret rfl
  ·obtain⟨rfl,rfl⟩:=h1 t v rfl;refine(aC.import_ hE hx _).then_ fun a b v2 hv2 hab=> ?_;subst hab;have:=iy hv2;simp only [List.length_cons]at hn hf hg;have h:=ih v2 f g (l++[a]) (by omega) (by omega) (by omega);rwa [List.map_append]at h
theorem aC.decls (n:Nat):∀(u:List aF) (f g:Nat) (l:List jJ),Wf (u++[E])→u.length≤n→u.length<f→u.length<g→
  aC k False E [x] (fun a b _=>b=a.map (JJ k)) (dV f l) (dV g (l.map (JJ k))) u:=by
 induction n with
 | zero=>
  intro u f g l hw hn hf hg;obtain⟨f,rfl⟩:∃f',f=f'+1:=⟨f - 1,by omega⟩
  obtain⟨g,rfl⟩:∃f',g=f'+1:=⟨g - 1,by omega⟩
  obtain rfl:u=[]:=List.eq_nil_of_length_eq_zero (by omega);have e1:dV (f+1) l [E]= .good l [E]:=by unfold dV;rw [aj (show jW (fun t _=>t.kind==0) [E]= .good (E.kind==0) [E]from rfl),hE];rfl
  have e2:dV (g+1) (l.map (JJ k)) [x]= .good (l.map (JJ k)) [x]:=by unfold dV;rw [aj (show jW (fun t _=>t.kind==0) [x]= .good (x.kind==0) [x]from rfl),hx];rfl
  intro a r h;rw [List.nil_append,e1]at h;injection h with h1 h2;subst h1 h2;exact .inl ⟨[], _,rfl,List.suffix_refl _,e2,rfl⟩
 | succ n ih=>
  intro u f g l hw hn hf hg;obtain⟨f,rfl⟩:∃f',f=f'+1:=⟨f - 1,by omega⟩
  obtain⟨g,rfl⟩:∃f',g=f'+1:=⟨g - 1,by omega⟩
  cases u with
  | nil=>
   have e1:dV (f+1) l [E]= .good l [E]:=by unfold dV;rw [aj (show jW (fun t _=>t.kind==0) [E]= .good (E.kind==0) [E]from rfl),hE];rfl
   have e2:dV (g+1) (l.map (JJ k)) [x]= .good (l.map (JJ k)) [x]:=by unfold dV;rw [aj (show jW (fun t _=>t.kind==0) [x]= .good (x.kind==0) [x]from rfl),hx];rfl
   intro a r h;rw [List.nil_append,e1]at h;injection h with h1 h2;subst h1 h2;exact .inl ⟨[], _,rfl,List.suffix_refl _,e2,rfl⟩
  | cons t u=>
   have ht:t.kind≠0:=by
    rcases hw.cases with⟨e,he, _⟩ | ⟨t',r,he,h1, _⟩
    ·simp at he
    ·injection he with he _;rw [he];exact h1
   intro a r h;unfold dV at h ⊢;rw [aj (show jW (fun t _=>t.kind==0) (t :: u++[E])= .good (t.kind==0) (t :: u++[E])from rfl),beq_false_of_ne ht]at h;rw [aj (show jW (fun t _=>t.kind==0) ((t :: u).map (wM k)++[x])= .good (t.kind==0) ((t :: u).map (wM k)++[x])from rfl),beq_false_of_ne ht];simp only [Bool.false_eq_true,if_false]at h ⊢;rcases hp:mG (t :: u++[E])with d | ⟨d,r1⟩
   ·rw [aB hp]at h;cases h
   ·obtain⟨hr1, _⟩:=Sf.decl.good hw hp;rw [aj hp]at h;rcases aC.decl (k:=k) hE hx (u:=t :: u) d r1 hp with⟨v,b,rfl,hv,hq,rfl,hlt⟩ | ⟨hD, _⟩
    ·have:=ih v f g (l++[d]) hr1 (by simp only [List.length_cons]at*;omega) (by simp only [List.length_cons]at*;omega) (by simp only [List.length_cons]at*;omega);rcases this a r h with⟨v2,b2,e1,e2,e3,e4⟩ | ⟨hD, _⟩
     ·refine .inl ⟨v2,b2,e1,e2.trans hv, ?_,e4⟩;rw [aj hq];rw [List.map_append]at e3;exact e3
     ·exact hD.elim
    ·exact hD.elim
theorem aC.module (hw:Wf (u++[E])):aC k False E [x] (fun a b _=>b=V6 k a) bC bC u:=by
 have hX:zJ [x]:=⟨x,[],rfl, .inl hx⟩
 intro a r h;unfold bC at h ⊢;rcases hp:Gg (u++[E])with d | ⟨i,r1⟩
 ·rw [aB hp]at h;cases h
 ·obtain⟨hr1, _⟩:=(Sf.fuel (p:=fun ts=>jy ts.length []) fun ts=>Sf.imps _ _).good hw hp;rw [aj hp]at h;rcases(aC.fuel (p:=fun n=>jy n []) (q:=fun n=>jy n []) (fun f g hf hg=>aC.imps (k:=k) hE hx u.length u f g [] (Nat.le_refl _) hf hg) hX) i r1 hp with⟨v,b,rfl,hv,hq,rfl⟩ | ⟨hD, _⟩
  ·have h3:=(aC.fuel (p:=fun n=>dV n []) (q:=fun n=>dV n []) (fun f g hf hg=>aC.decls (k:=k) hE hx v.length v f g [] hr1 (Nat.le_refl _) hf hg) hX).then_ (f:=fun d=>aG (eH.mk i d)) (g:=fun d=>aG (eH.mk (i.map (NC k)) d)) (S:=fun a b _=>b=V6 k a) (fun a b w hw e=>by subst e;exact .ret rfl);rcases h3 a r h with⟨v2,b2,e1,e2,e3,e4⟩ | ⟨hD, _⟩
   ·refine .inl ⟨v2,b2,e1,e2.trans hv, ?_,e4⟩;rw [aj (show Gg _= _ from hq)];exact e3
   ·exact hD.elim
  ·exact hD.elim
end
theorem DK {back:Bool} {out:Bt} {i:Nat} {s:Bt} (h:dZ back out i s=none) (x:Bt):dZ back out i (s++10 :: x)=none:=by
 induction s generalizing back out i with
 | nil=>rw [List.nil_append,dZ,if_pos (by decide)]
 | cons c s ih=>
  rw [List.cons_append];rw [dZ]at h ⊢;split
  ·rfl
  ·rename_i h1
   rw [if_neg h1]at h;split
   ·rename_i h2
    rw [if_pos h2]at h;split
    ·rename_i e he
     rw [he]at h;exact ih h
    ·rfl
   ·rename_i h2
    rw [if_neg h2]at h;split
    ·rename_i h3
     rw [if_pos h3]at h;exact ih h
    ·rename_i h3
     rw [if_neg h3]at h;split
     ·rename_i h4
      rw [if_pos h4]at h;cases h
     ·rename_i h4
      rw [if_neg h4]at h;exact ih h
theorem DL {c:UInt8} {r:Bt} {e:Int} (x:Bt) (h:fZ (c :: r)= .inl e):fZ (c :: r++10 :: x)= .inl e:=by
 have hi:bE 10=false:=by decide
 have hd:bY 10=false:=by decide
 have h1:bN bE (c :: (r++10 :: x))=bN bE (c :: r):=qx hi (c :: r) x;have h2:bN bY (c :: (r++10 :: x))=bN bY (c :: r):=qx hd (c :: r) x;have t1:(c :: (r++10 :: x)).take (bN bE (c :: r))=(c :: r).take (bN bE (c :: r)):=List.take_append_of_le_length (l₁:=c :: r) (iL _ _);have t2:(c :: (r++10 :: x)).take (bN bY (c :: r))=(c :: r).take (bN bY (c :: r)):=List.take_append_of_le_length (l₁:=c :: r) (iL _ _);rw [List.cons_append];rw [fZ]at h ⊢;rw [h1,h2,t1,t2];split
 ·rename_i g1
  rw [if_pos g1]at h;exact h
 ·rename_i g1
  rw [if_neg g1]at h;split
  ·rename_i g2
   rw [if_pos g2]at h;exact h
  ·rename_i g2
   rw [if_neg g2]at h;split
   ·rename_i g3
    rw [if_pos g3]at h;have e1:mQ (c :: (r++10 :: x))=dZ false [] 0 (r++10 :: x):=rfl;have e2:mQ (c :: r)=dZ false [] 0 r:=rfl;rw [e2]at h;rw [e1];rcases hq:dZ false [] 0 r with _ | ⟨t,n⟩
    ·rw [hq]at h;rw [DK hq x];exact h
    ·rw [hq]at h;rw [vL hq];exact h
   ·rename_i g3
    rw [if_neg g3]at h;have e3:(c :: (r++10 :: x)).take 2∈bU↔(c :: r).take 2∈bU:=by
     cases r with
     | nil=>
      have p1:=vO c 10 (by decide);have p2:(c :: ([]:Bt)).take 2 ∉ bU:=fun h=>by have:=zT _ h;simp at this
      exact⟨fun h=>absurd h p1,fun h=>absurd h p2⟩
     | cons d r=>exact Iff.rfl
    by_cases g4:(c :: r).take 2∈bU
    ·rw [if_pos g4]at h;cases h
    ·rw [if_neg g4]at h;rw [if_neg (fun h=>g4 (e3.1 h))];exact h
theorem y8:∀(f:Nat) (s:Bt) (p:Nat ×Nat) (out:List aF),s.length<f→(kI f s p out).2.2.2≠0→∀(x:Bt) (F:Nat),s.length+1+x.length<F→(kI F (s++10 :: x) p out).2.2.2≠0
 | 0,s,p,out,hf, _,x,F, _=>absurd hf (by omega)
 | f+1,s,p,out,hf,h,x,F,hF=>by
  have hsk:aW s≤s.length:=sH false s;obtain⟨F,rfl⟩:∃F0,F=F0+1:=⟨F - 1,by omega⟩
  rw [kI]at h ⊢;by_cases hnil:s.drop (aW s)=[]
  ·rw [if_pos hnil]at h;exact absurd rfl h
  ·rw [if_neg hnil]at h;have hlt:aW s<s.length:=by
    rcases Nat.lt_or_ge (aW s) s.length with h | h
    ·exact h
    ·exact absurd (List.drop_eq_nil_of_le h) hnil
   have e1:aW (s++10 :: x)=aW s:=xU hlt _;rw [e1,List.drop_append_of_le_length hsk,List.take_append_of_le_length hsk,if_neg (by simp)];obtain⟨c,r,hcr⟩:∃c r,s.drop (aW s)=c :: r:=by
    cases hd:s.drop (aW s)with
    | nil=>exact absurd hd hnil
    | cons c r=>exact⟨c,r,rfl⟩
   cases hn:fZ (s.drop (aW s))with
   | inl e=>
    rw [hcr]at hn ⊢;rw [DL x hn];exact qw hn
   | inr y=>
    obtain⟨kd,t,n⟩:=y;rw [hn]at h;obtain⟨n1,n2⟩:=sJ hn;rw [xS x (by decide) hn];simp only at h ⊢;by_cases h8:out.length=8192
    ·rw [if_pos h8];exact(by decide:(19:Int)≠0)
    ·rw [if_neg h8]at h ⊢;rw [List.drop_append_of_le_length n2,List.take_append_of_le_length n2];have hl:(s.drop (aW s)).length=s.length - aW s:=List.length_drop;exact y8 f _ _ _ (by simp only [List.length_drop]at n2 ⊢;omega) h x F (by simp only [List.length_drop]at n2 ⊢;omega)
theorem BI (l:List aF):l.map (wM 0)=l:=by
 have:wM 0=id:=rfl;rw [this];simp
theorem LW {s:Bt} (hs:s.length+12≤65536):(cK bC (s++jE)).1=(cK bC s).1:=by
 by_cases h0:(dS s).2.2.2=0
 ·have hz:(dS s).2=(0,0,0):=tO h0;obtain⟨m,e,h1,h2,h3,h4,h5⟩:=tQ (l:=(dS s).1) (by rw [←hz]);have hl:dS s=(m++[e],(0,0,0)):=by rw [←h1, ←hz]
  obtain⟨e',he',hl'⟩:=KA hs hl;rw [h1]at h5;have h5':Wf (m++[e']):=⟨m,e',rfl,he',fun t ht=>Aq (h3 t ht)⟩
  have key:∀(e e':aF) (s s':Bt),e.kind=0→e'.kind=0→Wf (m++[e])→dS s=(m++[e],(0,0,0))→dS s'=(m++[e'],(0,0,0))→∀a,(cK bC s).1=some a→(cK bC s').1=some a:=by
   intro e e' s s' k1 k2 k3 k4 k5 a ha;obtain⟨_,m1,e1,g1,g2, _, _,g5⟩:=pW Sf.module ha;rw [k4]at g1;have g1:=congrArg Prod.fst g1;obtain⟨rfl,g1⟩:=List.append_inj' g1 rfl;obtain rfl:e=e1:=by simpa using g1
   rcases aC.module (k:=0) k1 k2 k3 a [e] g5 with⟨v,b,j1,j2,j3,j4⟩ | ⟨hD, _⟩
   ·obtain rfl:v=[]:=by
     have:=congrArg List.length j1;simp at this;exact this
    rw [LV]at j4;subst j4;rw [BI]at j3;rw [IJ k5 k2 j3]
   ·exact hD.elim
  rcases hq:(cK bC s).1 with _ | a
  ·rcases hq':(cK bC (s++jE)).1 with _ | a
   ·rfl
   ·rw [key e' e _ _ he' h2 h5' hl' hl a hq']at hq;cases hq
  ·exact key e e' _ _ h2 he' h5 hl hl' a hq
 ·have h1:(dS (s++jE)).2.2.2≠0:=by
   rw [uN s (by omega)]at h0;rw [uN _ (by rw [List.length_append];show s.length+12≤65536;omega)];exact y8 _ s (1,1) [] (Nat.lt_succ_self _) h0 (jE.drop 1) _ (by rw [List.length_append];show s.length+1+11<s.length+12+1;omega)
  unfold cK;rw [if_neg h0,if_neg h1]
theorem FP {α:Type} {p:Ps α} (hp:Sf p) {s:Bt} {d:zx} (h:cK p s=(none,d)):((dS s).2.2.2≠0∧d=(dS s).2)∨(dS s).2=(0,0,0)∧(∃t∈(dS s).1,d.1=t.line∧d.2.1=t.col)∧(d.2.2=6∨d.2.2=7):=by
 unfold cK at h;by_cases h0:(dS s).2.2.2=0
 ·right;rw [if_pos h0]at h;have hz:(dS s).2=(0,0,0):=tO h0;obtain⟨m,e,h1,h2,h3,h4,h5⟩:=tQ (l:=(dS s).1) (by rw [←hz]);refine⟨hz, ?_⟩;have h6:=(hp.then_ fun x=>(Sf.kind 0).then_ fun _=>Sf.ret x) (dS s).1 h5;rcases hq:ak p (fun x=>ak (dL 0) fun _=>aG x) (dS s).1 with d' | ⟨x,r⟩
  ·rw [hq]at h h6;injection h with _ h;subst h;exact h6
  ·rw [hq]at h;cases h
 ·left;rw [if_neg h0]at h;injection h with _ h;exact⟨h0,h.symm⟩
theorem DN:∀(f:Nat) (s:Bt) (p:Nat ×Nat) (out:List aF),out.length≤8192→(kI f s p out).1.length≤8193
 | 0,s,p,out,h=>by simp [kI]
 | f+1,s,p,out,h=>by
  rw [kI];split
  ·simp;omega
  ·split
   ·simp
   ·split
    ·simp
    ·rename_i h8
     exact DN f _ _ _ (by simp;omega)
theorem LX (s:Bt):(dS s).1.length≤8193:=by
 unfold dS;split
 ·simp
 ·exact DN _ _ _ _ (by simp)
end Go.Proofs.YtmbppnbekkbibaaGreatDoor
