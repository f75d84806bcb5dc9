/- HI, RS, RT, RU, RV, PT -/
import Derived.Test.YtfgjkmipfikooaaGreatDoorEB19
set_option linter.unusedSimpArgs false
set_option linter.unusedVariables false
set_option maxRecDepth 100000
set_option maxHeartbeats 16000000
namespace Go.Proofs.YtfgjkmipfikooaaGreatDoor
open Go.RowKit
theorem Dt {w:World}{b:Nat}{a0 a1:Value}{t:TypeId}(h:w.heap[b]? =some (.cells #[a0,a1] t (0,0))):w.cell? ⟨b,0,none⟩=some a0∧w.cell? ⟨b,1,none⟩=some a1∧∀i,w.frozen? ⟨b,i,none⟩=false:=
 ⟨(cell_of_row _ _ _ _ _ _ h).trans rfl,(cell_of_row _ _ _ _ _ _ h).trans rfl,fun i=>frozen_of_row _ _ _ _ _ h⟩
theorem aay:ku Tryz.prog 37 85 (.agg #[.string ⟨#[]⟩,.slice none 0 0,.int .i64 0,.int .i64 0]) 4 56:=⟨Tryz.underlying37,by kernel_rfl,rfl,by omega⟩
theorem aaz:ku Tryz.prog 38 64 (.agg #[.string ⟨#[]⟩,.bool false,.slice none 0 0,.string ⟨#[]⟩,.slice none 0 0,.int .i64 0,.string ⟨#[]⟩,.int .i64 0,.int .i64 0,.int .i64 0,.slice none 0 0,.slice none 0 0,.slice none 0 0,.int .i64 0,.int .i64 0]) 15 224:=⟨Tryz.underlying38,by kernel_rfl,rfl,by omega⟩
theorem MU {s:Bt}{ts r:List aD}{b:Bool}(h:fF s ts=.good b r):r.length<=ts.length:=by
 unfold fF at h;split at h
 ·injection h with _ h;subst h;simp
 ·injection h with _ h;subst h;exact Nat.le_refl _
theorem Ld {s:Bt}{ts r:List aD}{u:Unit}(h:aN s ts=.good u r)(hw:1<=ts.length):r.length<ts.length:=by
 unfold aN at h;rcases hq:fF s ts with g |⟨b,r1⟩
 ·exact(je hq).elim
 rw [aj hq]at h;cases b
 ·cases h
 ·injection h with _ h;subst h;exact vD hq hw
theorem Le {ts r:List aD}{d:nV}(h:tJ ts=.good d r)(hw:Wf ts):r.length<ts.length:=by
 unfold tJ at h;rcases h1:fF [101,120,112,111,114,116] ts with g |⟨b,r1⟩
 ·exact(je h1).elim
 rw [aj h1]at h;have w1:=((Sf.has _).good hw h1).1;have l1:=MU h1;rw [aj (show fH r1=.good (aW r1) r1 from rfl)]at h;rcases h2:aN [102,110] r1 with g |⟨u,r2⟩
 ·rw [aB h2]at h;cases h
 rw [aj h2]at h;have w2:=((Sf.want _).good w1 h2).1;have l2:=Ld h2 w1.pos;have l3:=((show Sf _ from Sf.then_ Sf.name fun s=>Sf.then_ Sf.vars fun v=>Sf.then_ (Sf.head (Sf.O8 100).1 [sH]) fun p=>Sf.then_ (Sf.want [61]) fun _=>Sf.then_ (Sf.O8 100).2.1 fun x=>Sf.then_ (Sf.want [59]) fun _=>Sf.ret (⟨s,b,v,p.1,p.2,x,(aW r1).line,(aW r1).col⟩:nV)).good w2 h).2.length_le;omega
def ad8 (base:Nat)(w:World)(v:Value)(m:yS):Prop:=∃z:List Value,v=.agg z.toArray∧MR w (fun j=>base<=j) z m
structure R7 (w:World) (bp B tb:Nat) (wr:World) (l:List uU) (r:List aD):Prop where
 turn:Turn (fun k=>k=bp) w wr
 tk:bX wr bp B r 0
 res:wr.heap[w.heap.size]? =some (.cells #[.slice none 0 0,.slice none 0 0] 40 (0,0))
 tok:wr.heap[tb]? =some (.cells #[.int .i64 (aW r).kind,sv (aW r).text,.int .i64 ((aW r).line:Nat),.int .i64 ((aW r).col:Nat)] 154 (0,0))
 lo:w.heap.size+2<=tb
 row:∃v,wr.heap[w.heap.size+1]? =some (.cells #[v,.slice none 0 0] 40 (0,0))∧iN I7 4 85 wr (w.heap.size+2) (fun j=>w.heap.size+2<=j) v l∧v.ownBlock≠some tb
structure MV (w:World) (bp B base:Nat) (vi:Value) (xi:List Value) (li:List uU) (wr:World) (l:List nV) (r:List aD):Prop where
 turn:Turn (fun k=>k=bp) w wr
 tk:bX wr bp B r 0
 bs:base<=wr.heap.size
 res:wr.heap[w.heap.size]? =some (.cells #[.slice none 0 0,.slice none 0 0] 40 (0,0))
 sl:eD wr (Iv (w.heap.size+2) base) 4 vi xi
 imps:dH (I7 wr (Iv (w.heap.size+2) base)) 4 xi li
 row:∃v,wr.heap[w.heap.size+1]? =some (.cells #[vi,v] 40 (0,0))∧iN JW 15 64 wr base (fun j=>base<=j) v l
theorem Lg (w:World)(bp B:Nat)(ts:List aD)(h:bX w bp B ts 0):Calls Tryz.prog 45 #[.pointer (some ⟨bp,0,none⟩)] w (aG (ad8 w.heap.size) bp B 0 w (fq ts)):=by
 have hlt:=h.lt;have hB:=h.1;have hlen:=h.2.1.1;obtain⟨Q,hQ⟩:∃Q,fq ts=Q:=⟨_,rfl⟩
 rw [hQ];obtain⟨A,hA⟩:∃A,qD ts.length [] ts=A:=⟨_,rfl⟩
 have HQ:bR (YE A (fun i=>au KD fun d=>aJ (⟨i,d⟩:yS))=Q):=aZ (by
  rw [<-hQ,<-hA];exact(Dk Mw _ ts).symm)
 have HA:=aZ hA;have HN:=aZ (l8 ((w.alloc (.cells #[.slice none 0 0,.slice none 0 0] 40)).alloc (.cells #[.slice none 0 0,.slice none 0 0] 40)) bp B ts 0 (h.below (new2 _ _ _)));have Ih:=aZ (h.below (new2 w (.cells #[.slice none 0 0,.slice none 0 0] 40) (.cells #[.slice none 0 0,.slice none 0 0] 40)));clear h hQ hA;go_enter Tryz.func45,Tryz.ntmps45;go_wp2_with fail;refine(HN.o).mono ?_;rintro e w1 ⟨rfl,hb1⟩;obtain⟨tm,hs1,hrs,hmb⟩:=jC (Turn.of_below (F:=fun k=>k=bp) hb1);obtain⟨t0,ht0⟩:∃t0,aW ts=t0:=⟨_,rfl⟩
 have qj:=aZ ((Ih.o.below hb1).below (new1 w1 (.cells #[.int .i64 t0.kind,sv t0.text,.int .i64 t0.line,.int .i64 t0.col] 154)));have HI1:bR (R7 w bp B w1.heap.size (w1.alloc (.cells #[.int .i64 t0.kind,sv t0.text,.int .i64 t0.line,.int .i64 t0.col] 154)) [] ts):=aZ ⟨aA tm (Turn.alloc _ _ _),qj.o,bV (hrs (by omega)),by rw [ht0];exact Dc _ _,by omega,_,bV (hmb (by omega)),iN.nil _ _ _ _ _ _,fun e=>by cases e⟩;rw [ht0];unfold sJ;clear hb1 tm hrs hmb;go_wp2_with fail;go_loopw [4] (fun v4 wr=>∃(tb f:Nat) (l:List uU) (r:List aD),v4=.pointer (some ⟨tb,0,none⟩)∧qD f l r=A∧r.length<=f∧l.length+r.length<=8193∧R7 w bp B tb wr l r) (fun _ wr=>leftOf wr bp)
 case atStart=>exact⟨_,_,[],ts,rfl,HA.o,Nat.le_refl _,by simpa using hlen,HI1.o⟩
 case round=>
  obtain⟨tb,f,l,r,rfl,hinv,hf,hlr,tq⟩:=hrel;have hwf:=tq.tk.wf;have hpos:=hwf.pos;obtain⟨f,rfl⟩:∃f',f=f'+1:=⟨f - 1,by omega⟩
  obtain⟨t,ht⟩:∃t,aW r=t:=⟨_,rfl⟩
  have HL:bR (au (fF [105,109,112,111,114,116]) (fun b=>if b then au (oh t) fun i=>qD f (l++[i])else aJ l) r=A):=aZ (by subst ht;exact hinv);have HLEN:=aZ tq.tk.left;have HF:=aZ hf;have Tn:=aZ hlr;have Bj:=aZ tq;have Ej:=aZ hwf;have K8:=tq.tok;rw [ht]at K8;have XF:=aZ K8;have hsr:=tq.turn.size;have hlo:=tq.lo;have ahT:=block_lt K8;have ahU:=block_lt tq.row.choose_spec.1;have HH:=aZ (lF wr bp B r 0 tq.tk [105,109,112,111,114,116]);clear hinv hf hlr tq hwf ht K8;go_wp2_with fail;refine(HH.o).mono ?_;rintro e w2 h2;rcases hq:fF [105,109,112,111,114,116] r with g |⟨b,r2⟩
  ·exact(je hq).elim
  ·obtain⟨v2,rfl,tn,rfl,kn⟩:=h2.aR hq;have hs2:=tn.size;have HT2:=aZ (aA Bj.o.turn tn);have nL:=aZ kn;have yw:=aZ (ah Bj.o.res tn (by omega));have VJ:=aZ (ah XF.o tn (by omega));obtain⟨vi,hmb,hrow,hnt⟩:=Bj.o.row;obtain⟨Ai,ci,rfl,hci,hcm⟩:=hrow.shape;have XR:=aZ (ah hmb tn (by omega));have Jb:=aZ (hrow.turn j6 tn (fun g hg e=>by have:=(hrow.lt g hg).1;omega) (fun g _ h e=>by omega));have nK:=aZ hq;clear h2 tn kn hq hmb hrow;cases b
   ·have HA2:bR (Pr.good l r2=A):=aZ ((aj nK.o).symm.trans HL.o);obtain⟨A2,hA2⟩:∃A2,iM r2.length [] r2=A2:=⟨_,rfl⟩
    have HD2:bR (YE A2 (fun d=>aJ (⟨l,d⟩:yS))=Q):=aZ (by
     rw [<-HQ.o,<-HA2.o,<-hA2];exact(Dk KD _ r2).symm)
    have HDA:=aZ hA2;have hr2:=MU nK.o;obtain⟨xi,q1,q2⟩:=Jb.o.sl j6;have HI2:bR (MV w bp B w2.heap.size (.slice Ai l.length ci) xi l w2 [] r2):=aZ ⟨HT2.o,nL.o,Nat.le_refl _,yw.o,q1.mono (fun g hg h=>by rcases h with h |h <;> exact⟨h,hg⟩),eX j6 (fun g hg h=>by rcases h with h |h <;> exact⟨h,hg⟩) q2,_,XR.o,iN.nil _ _ _ _ _ _⟩;clear hA2 q1 q2;go_wp2_with fail;go_loopw [26] (fun _ wr=>∃(f:Nat) (m:List nV) (r:List aD),iM f m r=A2∧r.length<=f∧m.length+r.length<=8193∧MV w bp B w2.heap.size (.slice Ai l.length ci) xi l wr m r) (fun _ wr=>leftOf wr bp)
    case atStart=>exact⟨_,[],r2,HDA.o,Nat.le_refl _,by have:=Tn.o;simp;omega,HI2.o⟩
    case round=>
     obtain⟨f,m,r,hinv,hf,hmr,tq⟩:=hrel;have hwf:=tq.tk.wf;have hpos:=hwf.pos;obtain⟨f,rfl⟩:∃f',f=f'+1:=⟨f - 1,by omega⟩
     obtain⟨t,ht⟩:∃t,aW r=t:=⟨_,rfl⟩
     have Yw:bR (∀b,(t.kind==0)=b->(if b then aJ m else au tJ fun d=>iM f (m++[d])) r=A2):=aZ (fun b hb=>by rw [<-hinv,<-hb,<-ht];rfl);have aaA:=aZ tq.tk.left;have HF3:=aZ hf;have ZN:=aZ hmr;have Bl:=aZ tq;have ad9:=aZ hwf;have ada:=tq.turn.size;have ahX:=block_lt tq.row.choose_spec.1;have IJ:=aZ (l8 wr bp B r 0 tq.tk);rw [ht]at IJ;have hfk:∀w:World,(Instr.field 154 (.agg #[.int .i64 t.kind,sv t.text,.int .i64 t.line,.int .i64 t.col]) 0).run Tryz.prog w=.ok (.int .i64 t.kind) w:=fun _=>rfl;clear hinv hf hmr tq hwf ht;unfold sJ at IJ;go_wp2_with fail;refine(IJ.o).mono ?_;rintro e w3 ⟨rfl,hb3⟩;have t3:=Turn.of_below (F:=fun k=>k=bp) hb3;have hs3:=hb3.size;have HT3:=aZ (aA Bl.o.turn t3);have lZ:=aZ (Bl.o.tk.below hb3);have kV:=aZ (ah Bl.o.res t3 (by omega));have aaB:=aZ (Bl.o.sl.turn t3 (fun g _ h e=>by have:=h.1;omega));have aaC:=aZ (bU j6 t3 (fun g _ h e=>by have:=h.1;omega) Bl.o.imps);obtain⟨vd,hmb,hrow⟩:=Bl.o.row;obtain⟨Ad,cd,rfl,hcd,ahY⟩:=hrow.shape;have hbw2:=Bl.o.bs;have XT:=aZ (ah hmb t3 (by omega));have ru:=aZ (hrow.turn qG t3 (fun g hg e=>by have:=(hrow.lt g hg).1;omega) (fun g _ h e=>by omega));have aaD:=aZ hrow.lt;clear hb3 t3 hmb hrow;cases hk0:(t.kind==0)
     ·have hk1:(t.kind != 0)=true:=by simp only [bne,hk0,Bool.not_false]
      have VB:bR (au tJ (fun d=>iM f (m++[d])) r=A2):=aZ (Yw.o false hk0);have aaE:=Dt XT.o;have P1:=aZ (fun(w':World) (h:Turn (fun j=>j=bp∨w2.heap.size<=j) w3 w')=>aO aaE.2.1 h (by omega));have HD0:bR (Turn (fun j=>j=bp∨w2.heap.size<=j) w3 w3.drew):=aZ ⟨rfl,rfl,rfl,Nat.le_refl _,fun _ _ _=>rfl⟩;have mP:bR (Turn (fun j=>j=bp) w3 w3.drew):=aZ ⟨rfl,rfl,rfl,Nat.le_refl _,fun _ _ _=>rfl⟩;clear aaE hk0;go_wp2_with fail;refine dn (S:=fun w'=>Turn (fun j=>j=bp∨w2.heap.size<=j) w3 w') (x:=7) (by kernel_rfl) ?_
      try simp only [Act.put,sq]
      refine tx 0 (.pointer (some ⟨w.heap.size+1,1,none⟩)) HD0.o ?_;refine nM 1 (.slice Ad m.length cd) P1.o HD0.o ?_;refine tx 2 (.pointer (some ⟨bp,0,none⟩)) HD0.o ?_;refine ay (rs:=[3]) (by kernel_rfl) (by simp) ?_;refine av.cons rfl (fun K hK=>?_) (av.nil);go_simp;refine(R6 w3.drew bp B r lZ.o).mono ?_;rintro e w4 h4;rcases hq:tJ r with g |⟨x,r4⟩
      ·obtain⟨rfl,tn,bn⟩:=h4.bY hq;have e1:Pr.bad g=A2:=(aB hq).symm.trans VB.o;exact⟨rfl,aG.fail (by rw [<-HD2.o,<-e1];rfl) (fA.mk2 (aA HT3.o (aA mP.o tn)) bn)⟩
      ·obtain⟨v4,rfl,tn,⟨z,rfl,hz⟩,kn⟩:=h4.aR hq;obtain⟨A1,n1,c1,A2',n2,c2,k4,s4,a4,b4,o4,A3,n3,c3,A4,n4,c4,A5,n5,c5,rfl⟩:=hz.shape';have t4:=aA mP.o tn;have hs4:=t4.size;have iX:=aZ t4;have Bc:=aZ (t4.mono (G:=fun j=>j=bp∨w2.heap.size<=j) (fun _ _ h=>.inl h));have mR:=aZ kn;have zu:=aZ (hz.mono (G:=fun j=>w3.heap.size<=j) (fun _ _ h=>h));have HR4:=aZ (ru.o.turn qG t4 (fun g hg e=>by have:=(aaD.o g hg).1;omega) (fun g _ h e=>by omega));have XU:=aZ (ah XT.o t4 (by omega));have jU:=aZ (ah kV.o t4 (by omega));have aeb:=aZ (aaB.o.turn t4 (fun g _ h e=>by have:=h.1;omega));have aec:=aZ (bU j6 t4 (fun g _ h e=>by have:=h.1;omega) aaC.o);have XV:=aZ (Le hq ad9.o);have iF:bR (iM f (m++[x]) r4=A2):=aZ ((aj hq).symm.trans VB.o);clear h4 tn hz kn hq t4;refine hK.out _ _ Bc.o ?_;clear hK K
       try simp only [Act.put,sq]
       refine ay (rs:=[4]) (by kernel_rfl) (by simp) ?_;refine av.cons rfl (fun K hK=>?_) (av.nil);go_simp;have Gy:=aZ (Bc.o.trans (Turn.alloc (fun j=>j=bp∨w2.heap.size<=j) w4 (.cells #[sv x.name,.bool x.exp,.slice A1 n1 c1,sv x.param,.slice A2' n2 c2,.int .i64 k4,sv s4,.int .i64 a4,.int .i64 b4,.int .i64 o4,.slice A3 n3 c3,.slice A4 n4 c4,.slice A5 n5 c5,.int .i64 x.line,.int .i64 x.col] 64)) (fun _ _ h=>h));refine hK.out _ _ Gy.o ?_;clear hK K
       try simp only [Act.put,sq]
       refine ay (rs:=[5]) (by kernel_rfl) (by simp) ?_;refine av.cons rfl (fun K hK=>?_) (av.nil);obtain⟨ys,hy,hr⟩:=HR4.o;have hyl:ys.length=m.length*15:=by have:=hy.1;simpa using this
       refine gG rfl (.tmp 33) (.tmp 36) _ rfl w2.heap.size aaz (.slice Ad m.length cd) (.slice (some ⟨w4.heap.size,0,none⟩) 1 1) rfl rfl (hy.alloc (.cells #[sv x.name,.bool x.exp,.slice A1 n1 c1,sv x.param,.slice A2' n2 c2,.int .i64 k4,sv s4,.int .i64 a4,.int .i64 b4,.int .i64 o4,.slice A3 n3 c3,.slice A4 n4 c4,.slice A5 n5 c5,.int .i64 x.line,.int .i64 x.col] 64)) (iB w4 #[sv x.name,.bool x.exp,.slice A1 n1 c1,sv x.param,.slice A2' n2 c2,.int .i64 k4,sv s4,.int .i64 a4,.int .i64 b4,.int .i64 o4,.slice A3 n3 c3,.slice A4 n4 c4,.slice A5 n5 c5,.int .i64 x.line,.int .i64 x.col] 64 15 1 rfl (by decide)) (qG.one zu.o) (by have:=ZN.o;simp [maxLen];omega) (by have:=ZN.o;simp;omega) (by simp;omega) (fun v7 w7 n7 aQ ji gq=>?_);obtain⟨A7,c7,rfl,_,_⟩:=lM aQ;obtain⟨Ae,EW,t7⟩:=yB (x:=x) qG hy hr (zu.o.mono (fun g _ h=>⟨fun e=>by have:=(aaD.o g e).2;omega,by omega⟩)) ji gq aQ (by omega);have wW:=hy.lt;have Af:=aZ Ae;have kQ:=aZ t7;have kR:=aZ (Bc.o.trans (t7.mono (G:=fun j=>j=bp∨w2.heap.size<=j) (fun j _ e=>.inr (wW j e).1)) (fun _ _ h=>h));have XW:=aZ wW;have jq:=ah XU.o t7 (fun e=>by have:=(wW _ e).1;omega);have XY:=aZ jq;have t17:w7.cell? ⟨w.heap.size+1,1,none⟩=some (.slice Ad m.length cd):=(cell_of_row _ _ _ _ _ _ jq).trans rfl;have z17:∀i,w7.frozen? ⟨w.heap.size+1,i,none⟩=false:=fun i=>frozen_of_row _ _ _ _ _ jq;subst EW;clear aQ ji gq Ae t7 hy hr jq;refine hK.out _ _ kR.o ?_;clear hK K
       try simp only [Act.put,sq]
       refine tx 6 (.pointer (some ⟨w.heap.size+1,1,none⟩)) kR.o ?_;refine ay (rs:=[7]) (by kernel_rfl) (by simp) ?_;refine av.past rfl (by kernel_rfl) (fun K hK=>?_) (av.nil);go_simp;refine hK.out _ _ ?_;clear hK K
       try simp only [Act.put,sq]
       refine aV (by kernel_rfl) ?_ _;have tl:=ak w7 (w.heap.size+1) 1 (.slice A7 (m.length+1) c7);have wW:=XW.o;have hLS:=XV.o;have hF:=HF3.o;have hMR:=ZN.o
       have IX:MV w bp B w2.heap.size (.slice Ai l.length ci) xi l (w7.setCell ⟨w.heap.size+1,1,none⟩ (.slice A7 (m.length+1) c7)) (m++[x]) r4:=
        ⟨((aA HT3.o iX.o).trans kQ.o (fun i hi e=>by have:=(wW i e).1;omega)).trans tl (fun i hi e=>by omega),
         (mR.o.turn kQ.o (fun e=>by have:=(wW _ e).1;omega) (fun k hk e=>by have:=(wW _ e).1;omega)).turn tl (by omega) (fun k hk e=>by omega),by have:=kQ.o.size;simp;omega,
         ah (ah jU.o kQ.o (fun e=>by have:=(wW _ e).1;omega)) tl (by omega),
         (aeb.o.turn kQ.o (fun g _ h e=>by have:=(wW _ e).1;have:=h.2;omega)).turn tl (fun g _ h e=>by have:=h.1;omega),
         bU j6 tl (fun g _ h e=>by have:=h.1;omega) (bU j6 kQ.o (fun g _ h e=>by have:=(wW _ e).1;have:=h.2;omega) aec.o),
         _,heap_setCell_same _ _ 1 _ _ _ XY.o,by
          have:=Af.o.turn qG tl (fun g hg e=>by have:=(Af.o.lt g hg).1;omega) (fun g _ h e=>by omega);simpa using this⟩
       have aed:∃(f:Nat) (m':List nV) (r:List aD),iM f m' r=A2∧r.length<=f∧m'.length+r.length<=8193∧MV w bp B w2.heap.size (.slice Ai l.length ci) xi l (w7.setCell ⟨w.heap.size+1,1,none⟩ (.slice A7 (m.length+1) c7)) m' r:=⟨f,_,r4,iF.o,by omega,by simp;omega,IX⟩
       go_roundw
       case rel=>(repeat apply Exists.intro);exact⟨aed,rfl⟩
       case measure=>rw [IX.tk.left,aaA.o];omega
     ·have hk1:(t.kind != 0)=false:=by simp only [bne,hk0,Bool.not_true]
      have VB:bR (Pr.good m r=A2):=aZ (Yw.o true hk0);have Pg:bR (Pr.good (⟨l,m⟩:yS) r=Q):=aZ (by rw [<-HD2.o,<-VB.o];rfl);obtain⟨m0,m1,mz⟩:=Dt XT.o;obtain⟨c0,c1,cz⟩:=Dt kV.o;clear hk0;go_wp2_with fail;have tF:=(ak w3 w.heap.size 0 (.slice Ai l.length ci)).trans (ak _ w.heap.size 1 (.slice Ad m.length cd)) (fun _ _ h=>h);refine bodyPost_ret (bD rfl rfl (heap_setCell_same _ _ 1 _ _ (.slice Ad m.length cd) (heap_setCell_same _ _ 0 _ _ (.slice Ai l.length ci) kV.o)) Tryz.underlying40 rfl (by kernel_rfl)) rfl ?_;obtain⟨xd,d1,d2⟩:=ru.o.sl qG;exact aG.done Pg.o.symm (HT3.o.trans tF (fun i hi e=>by omega)) ⟨_,rfl,_,_,_,_,rfl,(aaB.o.turn tF (fun g _ h e=>by have:=h.1;omega)).mono (fun g _ h=>by have:=h.1;omega),eX j6 (fun g _ h=>by have:=h.1;omega) (bU j6 tF (fun g _ h e=>by have:=h.1;omega) aaC.o),(d1.turn tF (fun g _ h e=>by rcases h with h |h <;> omega)).mono (fun g _ h=>by rcases h with h |h <;> omega),eX qG (fun g _ h=>by rcases h with h |h <;> omega) (bU qG tF (fun g _ h e=>by rcases h with h |h <;> omega) d2)⟩ (lZ.o.turn tF (by omega) (fun k hk e=>by omega))
   ·have HL2:bR (au (oh t) (fun i=>qD f (l++[i])) r2=A):=aZ ((aj nK.o).symm.trans HL.o);have aaF:=Dt XR.o;have R8:=dA VJ.o;have P1:=aZ (fun(w':World) (h:Turn (fun j=>j=bp∨w2.heap.size<=j∨(Value.slice Ai l.length ci).ownBlock=some j) w2 w')=>aO aaF.1 h (fun e=>by rcases e with e |e |e;omega;omega;have:=(Jb.o.lt _ e).1;omega));have mP:bR (Turn (fun j=>j=bp) w2 w2.drew):=aZ ⟨rfl,rfl,rfl,Nat.le_refl _,fun _ _ _=>rfl⟩;have HD0:=aZ (mP.o.mono (G:=fun j=>j=bp∨w2.heap.size<=j∨(Value.slice Ai l.length ci).ownBlock=some j) (fun _ _ h=>.inl h));have R9:¬(tb=bp∨w2.heap.size<=tb∨(Value.slice Ai l.length ci).ownBlock=some tb):=fun e=>by rcases e with e |e |e;omega;omega;exact hnt e
    have PT:=aZ (fun(w':World) (h:Turn (fun j=>j=bp∨w2.heap.size<=j∨(Value.slice Ai l.length ci).ownBlock=some j) w2 w')=>(⟨aO R8.1 h R9,aO R8.2.1 h R9,aO R8.2.2.1 h R9,aO R8.2.2.2.1 h R9⟩:w'.cell? ⟨tb,0,none⟩=some (.int .i64 t.kind)∧w'.cell? ⟨tb,1,none⟩=some (sv t.text)∧w'.cell? ⟨tb,2,none⟩=some (.int .i64 t.line)∧w'.cell? ⟨tb,3,none⟩=some (.int .i64 t.col)));clear aaF R8 R9;go_wp2_with fail;refine dn (S:=fun w'=>Turn (fun j=>j=bp∨w2.heap.size<=j∨(Value.slice Ai l.length ci).ownBlock=some j) w2 w') (x:=8) (by kernel_rfl) ?_
    try simp only [Act.put,sq]
    refine tx 0 (.pointer (some ⟨w.heap.size+1,0,none⟩)) HD0.o ?_;refine nM 1 (.slice Ai l.length ci) P1.o HD0.o ?_;refine tx 2 (.pointer (some ⟨bp,0,none⟩)) HD0.o ?_;refine nM 3 (.agg #[.int .i64 t.kind,sv t.text,.int .i64 t.line,.int .i64 t.col]) PT.o HD0.o ?_;refine ay (rs:=[4]) (by kernel_rfl) (by simp) ?_;refine av.cons rfl (fun K hK=>?_) (av.nil);go_simp;refine(F7 w2.drew bp B r2 nL.o t).mono ?_;rintro e w4 h4;rcases hq:oh t r2 with g |⟨x,r4⟩
    ·obtain⟨rfl,tn,bn⟩:=h4.bY hq;have e1:Pr.bad g=A:=(aB hq).symm.trans HL2.o;exact⟨rfl,aG.fail (by rw [<-HQ.o,<-e1];rfl) (fA.mk2 (aA HT2.o (aA mP.o tn)) bn)⟩
    ·obtain⟨v4,rfl,tn,⟨z,rfl,hz⟩,kn⟩:=h4.aR hq;obtain⟨A1,n1,c1,rfl⟩:=hz.shape';have t4:=aA mP.o tn;have hs4:=t4.size;have iX:=aZ t4;have Bc:=aZ (t4.mono (G:=fun j=>j=bp∨w2.heap.size<=j∨(Value.slice Ai l.length ci).ownBlock=some j) (fun _ _ h=>.inl h));have mR:=aZ kn;have zu:=aZ (hz.mono (G:=fun j=>w2.heap.size<=j) (fun _ _ h=>h));have HR4:=aZ (Jb.o.turn j6 t4 (fun g hg e=>by have:=(Jb.o.lt g hg).1;omega) (fun g _ h e=>by omega));have XU:=aZ (ah XR.o t4 (by omega));have jU:=aZ (ah yw.o t4 (by omega));have XV:=aZ (show r4.length<r.length from Nat.lt_of_le_of_lt ((Sf.import_ t).good nL.o.wf hq).2.length_le (vD nK.o Ej.o.pos));have iF:bR (qD f (l++[x]) r4=A):=aZ ((aj hq).symm.trans HL2.o);have aee:=aZ Jb.o.lt;have XZ:=aZ (ah VJ.o t4 (by omega));clear h4 tn hz kn hq t4;refine hK.out _ _ Bc.o ?_;clear hK K
     try simp only [Act.put,sq]
     refine ay (rs:=[5]) (by kernel_rfl) (by simp) ?_;refine av.cons rfl (fun K hK=>?_) (av.nil);go_simp;have Gy:=aZ (Bc.o.trans (Turn.alloc (fun j=>j=bp∨w2.heap.size<=j∨(Value.slice Ai l.length ci).ownBlock=some j) w4 (.cells #[sv x.from_,.slice A1 n1 c1,.int .i64 x.line,.int .i64 x.col] 85)) (fun _ _ h=>h));refine hK.out _ _ Gy.o ?_;clear hK K
     try simp only [Act.put,sq]
     refine ay (rs:=[6]) (by kernel_rfl) (by simp) ?_;refine av.cons rfl (fun K hK=>?_) (av.nil);obtain⟨ys,hy,hr⟩:=HR4.o;have hyl:ys.length=l.length*4:=by have:=hy.1;simpa using this
     refine gG rfl (.tmp 18) (.tmp 22) _ rfl (w.heap.size+2) aay (.slice Ai l.length ci) (.slice (some ⟨w4.heap.size,0,none⟩) 1 1) rfl rfl (hy.alloc (.cells #[sv x.from_,.slice A1 n1 c1,.int .i64 x.line,.int .i64 x.col] 85)) (iB w4 #[sv x.from_,.slice A1 n1 c1,.int .i64 x.line,.int .i64 x.col] 85 4 1 rfl (by decide)) (j6.one zu.o) (by have:=Tn.o;simp [maxLen];omega) (by have:=Tn.o;simp;omega) (by simp;omega) (fun v7 w7 n7 aQ ji gq=>?_);obtain⟨A7,c7,rfl,_,_⟩:=lM aQ;obtain⟨Ae,EW,t7⟩:=yB (x:=x) j6 hy hr (zu.o.mono (fun g _ h=>⟨fun e=>by have:=(aee.o g e).2;omega,by omega⟩)) ji gq aQ (by omega);have Af:=aZ Ae;have kQ:=aZ t7;have kR:=aZ (Bc.o.trans (t7.mono (G:=fun j=>j=bp∨w2.heap.size<=j∨(Value.slice Ai l.length ci).ownBlock=some j) (fun j _ e=>.inr (.inr e))) (fun _ _ h=>h));have XW:=aZ hy.lt;have jq:=ah XU.o t7 (fun e=>by have:=(hy.lt _ e).1;omega);have XY:=aZ jq;have t17:w7.cell? ⟨w.heap.size+1,0,none⟩=some (.slice Ai l.length ci):=(cell_of_row _ _ _ _ _ _ jq).trans rfl;have z17:∀i,w7.frozen? ⟨w.heap.size+1,i,none⟩=false:=fun i=>frozen_of_row _ _ _ _ _ jq;subst EW;clear aQ ji gq Ae t7 hy hr jq;refine hK.out _ _ kR.o ?_;clear hK K
     try simp only [Act.put,sq]
     refine tx 7 (.pointer (some ⟨w.heap.size+1,0,none⟩)) kR.o ?_;refine ay (rs:=[8]) (by kernel_rfl) (by simp) ?_;refine av.past rfl (by kernel_rfl) (fun K hK=>?_) (av.nil);go_simp;refine hK.out _ _ ?_;clear hK K
     try simp only [Act.put,sq]
     refine aV (by kernel_rfl) ?_ _;have wW:=XW.o;have hs7:=kQ.o.size;have tl:=ak w7 (w.heap.size+1) 0 (.slice A7 (l.length+1) c7);have tk7:=ah (ah XZ.o kQ.o hnt) tl (by omega);have zm:(w7.setCell ⟨w.heap.size+1,0,none⟩ (.slice A7 (l.length+1) c7)).heap.size=w7.heap.size:=by simp
     have qc:=aZ (((aA HT2.o iX.o).trans kQ.o (fun i hi e=>by have:=(wW i e).1;omega)).trans tl (fun i hi e=>by omega));have vV:=aZ ((mR.o.turn kQ.o (fun e=>by have:=(wW _ e).1;omega) (fun k hk e=>by have:=(wW _ e).1;omega)).turn tl (by omega) (fun k hk e=>by omega));have lu:=aZ (ah (ah jU.o kQ.o (fun e=>by have:=(wW _ e).1;omega)) tl (by omega));have aef:=aZ (show(w7.setCell ⟨w.heap.size+1,0,none⟩ (.slice A7 (l.length+1) c7)).heap[w.heap.size+1]? =some (.cells #[.slice A7 (l.length+1) c7,.slice none 0 0] 40 (0,0))from heap_setCell_same _ _ 0 _ _ _ XY.o);have X0:=Af.o.turn j6 tl (fun g hg e=>by have:=(Af.o.lt g hg).1;omega) (fun g _ h e=>by omega);have aeg:=aZ X0;have aaG:=X0.lt;have tb9:=Dc (w7.setCell ⟨w.heap.size+1,0,none⟩ (.slice A7 (l.length+1) c7)) (.cells #[.int .i64 t.kind,sv t.text,.int .i64 t.line,.int .i64 t.col] 154);rw [zm]at tb9;have aei:=aZ tb9;have HN9:=aZ (l8 ((w7.setCell ⟨w.heap.size+1,0,none⟩ (.slice A7 (l.length+1) c7)).alloc (.cells #[.int .i64 t.kind,sv t.text,.int .i64 t.line,.int .i64 t.col] 154)) bp B r4 0 (vV.o.below (new1 _ _)));obtain⟨k0,k1,k2,k3,kz⟩:=dA (ah XZ.o kQ.o hnt);have ah1:tb<w7.heap.size:=block_lt (ah XZ.o kQ.o hnt);have ah2:¬tb=w.heap.size+1:=by omega
     have ah3:¬w.heap.size+1=tb:=by omega
     clear tk7 X0 tl tb9;unfold sJ at HN9;go_wp2_with fail;refine(HN9.o).mono ?_;rintro e oU ⟨rfl,vO⟩;have XQ:=vO.size;simp at XQ;have vO:=vO;have t10:Turn (fun _=>False) (w7.setCell ⟨w.heap.size+1,0,none⟩ (.slice A7 (l.length+1) c7)) oU:=(Turn.alloc _ _ _).trans (Turn.of_below (F:=fun _=>False) vO) (fun _ _ h=>h);have hb0:=ah aei.o (Turn.of_below (F:=fun _=>False) vO) id;obtain⟨n0,n1,n2,n3,nz⟩:=dA hb0;have tP:=eO oU w7.heap.size (.int .i64 (aW r4).kind) (sv (aW r4).text) (.int .i64 ((aW r4).line:Nat)) (.int .i64 ((aW r4).col:Nat));have t11:Turn (fun _=>False) (w7.setCell ⟨w.heap.size+1,0,none⟩ (.slice A7 (l.length+1) c7)) (dW oU w7.heap.size (.int .i64 (aW r4).kind) (sv (aW r4).text) (.int .i64 ((aW r4).line:Nat)) (.int .i64 ((aW r4).col:Nat))):=t10.trans tP (fun i hi e=>by rw [zm]at hi;omega)
     have IX:R7 w bp B w7.heap.size (dW oU w7.heap.size (.int .i64 (aW r4).kind) (sv (aW r4).text) (.int .i64 ((aW r4).line:Nat)) (.int .i64 ((aW r4).col:Nat))) (l++[x]) r4:=
      ⟨qc.o.trans t11 (fun _ _ h=>h.elim),vV.o.turn t11 id (fun _ _=>id),ah lu.o t11 id,bA hb0 _ _ _ _,by omega,_,ah aef.o t11 id,by
       have:=aeg.o.turn j6 t11 (fun _ _=>id) (fun _ _ _=>id);simpa using this,fun e=>by have:=(aaG _ e).2;rw [zm]at this;omega⟩
     have HRF:=aZ IX;have hLS:=XV.o;have hF:=HF.o;have hLR:=Tn.o;clear t10 tP t11 IX hb0 vO;go_wp2_with fail
     go_roundw
     case rel=>exact⟨w7.heap.size,f,l++[x],r4,rfl,iF.o,by omega,by simp;omega,HRF.o⟩
     case measure=>rw [HRF.o.tk.left,HLEN.o];omega
def Du (k:Nat)(t:aD):aD:={ t with line:=t.line+k}
mutual
def Jc (k:Nat):bF->bF
 |.mk kd t n l c ts ns ks=>.mk kd t n (l+k) c ts ns (Sb k ks)
def Sb (k:Nat):List bF->List bF
 | []=>[]
 |x :: l=>Jc k x :: Sb k l
end
theorem Jd (k:Nat):∀l:List bF,Sb k l=l.map (Jc k)
 | []=>by simp [Sb]
 |t :: l=>by simp [Sb,Jd k l]
theorem qH (k:Nat)(kd:Int)(text:Bt)(n:Int)(h:aD)(types:List bC)(names:List Bt)(kids:List bF):aL kd text n (Du k h) types names (kids.map (Jc k))=Jc k (aL kd text n h types names kids):=by
 unfold aL;rw [Jc,Jd];simp [Du]
theorem ow (k:Nat)(kd:Int)(text:Bt)(n:Int)(h:aD)(types:List bC)(names:List Bt):aL kd text n (Du k h) types names []=Jc k (aL kd text n h types names []):=qH k kd text n h types names []
def Er (X:List aD):Prop:=∃x r,X=x :: r∧(x.kind=0∨(x.kind=5∧x.text=[41]))
theorem Sc (k:Nat)(t:aD)(s:Bt):lV (Du k t) s=lV t s:=rfl
theorem sQ {E:aD}(hE:E.kind=0)(s:Bt):lV E s=false:=by unfold lV;rw [hE];rfl
theorem yC {x:aD}(h:x.kind=0∨(x.kind=5∧x.text=[41])){s:Bt}(hs:s≠[41]):lV x s=false:=by
 rcases h with h |⟨h,h2⟩
 ·exact sQ h s
 ·unfold lV;rw [h2,beq_false_of_ne (Ne.symm hs),Bool.and_false]
section
variable {α β:Type}(k:Nat) (D:Prop) (E:aD) (X:List aD)
def aC (R:α->α->List aD->Prop)(p q:Ps α)(u:List aD):Prop:=∀a r,p (u++[E])=.good a r->
 (∃v b,r=v++[E]∧v<:+u∧q (u.map (Du k)++X)=.good b (v.map (Du k)++X)∧R a b v)∨(D∧∃l c,q (u.map (Du k)++X)=.bad (l,c,6))
end
section
variable {α β:Type}{k:Nat}{D:Prop}{E:aD}{X:List aD}{R:α->α->List aD->Prop}{S:β->β->List aD->Prop}{u:List aD}
theorem aC.ret {a b:α}(h:R a b u):aC k D E X R (aJ a) (aJ b) u:=by
 intro x r hx;injection hx with h1 h2;subst h1 h2;exact .inl ⟨u,b,rfl,List.suffix_refl _,rfl,h⟩
theorem aC.then_ {p q:Ps α}{f g:α->Ps β}(h:aC k D E X R p q u)(hf:∀a b v,v<:+u->R a b v->aC k D E X S (f a) (g b) v):aC k D E X S (au p f) (au q g) u:=by
 intro x r hx;unfold au at hx;rcases hp:p (u++[E])with d |⟨a,r1⟩
 ·rw [hp]at hx;cases hx
 ·rw [hp]at hx;rcases h a r1 hp with⟨v,b,rfl,hv,hq,hR⟩ |⟨hD,l,c,hq⟩
  ·rcases hf a b v hv hR x r hx with⟨v2,b2,e2,hv2,hq2,hS⟩ |⟨hD,l,c,hq2⟩
   ·exact .inl ⟨v2,b2,e2,hv2.trans hv,by rw [aj hq];exact hq2,hS⟩
   ·exact .inr ⟨hD,l,c,by rw [aj hq];exact hq2⟩
  ·exact .inr ⟨hD,l,c,aB hq⟩
theorem aC.bad {p q:Ps α}(h:∀a r,p (u++[E])≠ .good a r):aC k D E X R p q u:=fun a r hx=>absurd hx (h a r)
theorem aC.fail {e:Int}{q:Ps α}:aC k D E X R (mh e) q u:= .bad fun a r h=>by cases h
theorem aC.mono {p q:Ps α}{R':α->α->List aD->Prop}(h:aC k D E X R p q u)(hR:∀a b v,R a b v->R' a b v):aC k D E X R' p q u:=fun a r hx=>by
 rcases h a r hx with⟨v,b,h1,h2,h3,h4⟩ |h
 ·exact .inl ⟨v,b,h1,h2,h3,hR _ _ _ h4⟩
 ·exact .inr h
theorem aC.fuel {p q:Nat->Ps α}(h:∀f g,u.length<f->u.length<g->aC k D E X R (p f) (q g) u)(hX:Er X):aC k D E X R (fun ts=>p ts.length ts) (fun ts=>q ts.length ts) u:=by
 obtain⟨x,X',rfl,_⟩:=hX;have:=h (u++[E]).length (u.map (Du k)++x :: X').length (by simp) (by simp);exact this
variable (hE:E.kind=0) (hX:Er X)
include hE hX
theorem aC.jZ {l:List Bt}(hl:∀s∈l,s≠[41]):aC k D E X (fun i j v=>i=j∧((i=none∧v=u)∨(∃t n,i=some n∧u=t :: v))) (dJ l) (dJ l) u:=by
 obtain⟨x,X',rfl,hx⟩:=hX;intro a r h;cases u with
 |nil=>
  have h1:l.findIdx? (lV E)=none:=List.findIdx?_eq_none_iff.2 fun s _=>sQ hE s;have h2:l.findIdx? (lV x)=none:=List.findIdx?_eq_none_iff.2 fun s hs=>yC hx (hl s hs);rw [List.nil_append,BG h1]at h;injection h with e1 e2;subst e1 e2;exact .inl ⟨[],none,rfl,List.suffix_refl _,BG h2 _,rfl,.inl ⟨rfl,rfl⟩⟩
 |cons t u=>
  rw [List.cons_append]at h;rcases hf:l.findIdx? (lV t)with _ |i
  ·rw [BG hf]at h;injection h with e1 e2;subst e1 e2;exact .inl ⟨t :: u,none,rfl,List.suffix_refl _,BG (t:=Du k t) hf _,rfl,.inl ⟨rfl,rfl⟩⟩
  ·rw [xV hf]at h;injection h with e1 e2;subst e1 e2;exact .inl ⟨u,some i,rfl,List.suffix_cons _ _,xV (t:=Du k t) hf _,rfl,.inr ⟨t,i,rfl,rfl⟩⟩
theorem aC.has {s:Bt}(hs:s≠[41]):aC k D E X (fun i j v=>i=j∧((i=false∧v=u)∨(∃t,i=true∧u=t :: v))) (fF s) (fF s) u:=by
 obtain⟨x,X',rfl,hx⟩:=hX;intro a r h;cases u with
 |nil=>
  rw [List.nil_append,zh (sQ hE s)]at h;injection h with e1 e2;subst e1 e2;exact .inl ⟨[],false,rfl,List.suffix_refl _,zh (yC hx hs) _,rfl,.inl ⟨rfl,rfl⟩⟩
 |cons t u=>
  rw [List.cons_append]at h;cases hb:lV t s
  ·rw [zh hb]at h;injection h with e1 e2;subst e1 e2;exact .inl ⟨t :: u,false,rfl,List.suffix_refl _,zh (t:=Du k t) hb _,rfl,.inl ⟨rfl,rfl⟩⟩
  ·rw [vB hb]at h;injection h with e1 e2;subst e1 e2;exact .inl ⟨u,true,rfl,List.suffix_cons _ _,vB (t:=Du k t) hb _,rfl,.inr ⟨t,rfl,rfl⟩⟩
omit hX in
theorem aC.want {s:Bt}:aC k D E X (fun _ _ v=>∃t,u=t :: v) (aN s) (aN s) u:=by
 intro a r h;unfold aN at h ⊢;cases u with
 |nil=>
  rw [List.nil_append,aj (zh (sQ hE s) _)]at h;cases h
 |cons t u=>
  rw [List.cons_append]at h;cases hb:lV t s
  ·rw [aj (zh hb _)]at h;cases h
  ·rw [aj (vB hb _)]at h;injection h with e1 e2;subst e2;exact .inl ⟨u,(),rfl,List.suffix_cons _ _,aj (vB (t:=Du k t) hb _),t,rfl⟩
omit hX in
theorem aC.wants:∀(l:List Bt) {u:List aD},aC k D E X (fun _ _ _=>True) (jX l) (jX l) u
 | [],u=>.ret trivial
 |s :: l,u=>(aC.want hE).then_ fun _ _ v _ _=>aC.wants l
omit hX in
theorem aC.kind {n:Int}(hn:n≠0):aC k D E X (fun a b v=>a=b∧∃t,u=t :: v∧a=t.text) (fK n) (fK n) u:=by
 intro a r h;unfold fK at h ⊢;cases u with
 |nil=>
  simp only [List.nil_append,aW,List.headD_cons]at h;rw [if_neg (by rw [hE];exact fun e=>hn e.symm)]at h;cases h
 |cons t u=>
  simp only [List.cons_append,aW,List.headD_cons,List.map_cons]at h ⊢;by_cases hk:t.kind=n
  ·rw [if_pos hk,if_neg hn]at h;injection h with e1 e2;subst e1 e2;refine .inl ⟨u,t.text,rfl,List.suffix_cons _ _,?_,rfl,t,rfl,rfl⟩;rw [if_pos (show(Du k t).kind=n from hk),if_neg hn];rfl
  ·rw [if_neg hk]at h;cases h
omit hX in
theorem aC.name:aC k D E X (fun a b v=>a=b) nameP nameP u:=(aC.kind hE (by decide)).mono fun _ _ _ h=>h.1
omit hX hE in
theorem aC.here:aC k D E X (fun h h' v=>v=u∧∀t r,u=t :: r->h=t∧h'=Du k t) fH fH u:=by
 intro a r h;unfold fH at h ⊢;injection h with e1 e2;subst e1 e2;refine .inl ⟨u,_,rfl,List.suffix_refl _,rfl,rfl,?_⟩;rintro t r rfl;exact⟨rfl,rfl⟩
omit hX hE in
theorem kg {v u:List aD}(h:v<:+u):v.length<=u.length:=h.length_le
theorem aC.Un {one two:Ps α}{Q:α->α->Prop}(h1:∀u,aC k D E X (fun a b _=>Q a b) one two u)(n:Nat):∀(u:List aD) (f g:Nat) (l m:List α),u.length<=n->u.length<f->u.length<g->l.length=m.length->(∀x∈l.zip m,Q x.1 x.2)->
  aC k D E X (fun a b _=>a.length=b.length∧∀x∈a.zip b,Q x.1 x.2) (sG one f l) (sG two g m) u:=by
 induction n with
 |zero=>
  intro u f g l m hn hf hg hl hz;obtain⟨f,rfl⟩:∃f',f=f'+1:=⟨f - 1,by omega⟩
  obtain⟨g,rfl⟩:∃f',g=f'+1:=⟨g - 1,by omega⟩
  refine(aC.has hE hX (by decide)).then_ fun a b v hv ⟨e,h⟩=>?_;subst e;rcases h with⟨rfl,rfl⟩ |⟨t,rfl,rfl⟩
  ·exact .ret ⟨hl,hz⟩
  ·simp at hn
 |succ n ih=>
  intro u f g l m hn hf hg hl hz;obtain⟨f,rfl⟩:∃f',f=f'+1:=⟨f - 1,by omega⟩
  obtain⟨g,rfl⟩:∃f',g=f'+1:=⟨g - 1,by omega⟩
  refine(aC.has hE hX (by decide)).then_ fun a b v hv ⟨e,h⟩=>?_;subst e;rcases h with⟨rfl,rfl⟩ |⟨t,rfl,rfl⟩
  ·exact .ret ⟨hl,hz⟩
  ·refine(h1 v).then_ fun a b v2 hv2 hab=>?_;have:=kg hv2;simp only [List.length_cons]at hn hf hg;refine ih v2 f g _ _ (by omega) (by omega) (by omega) (by simp [hl]) ?_;rw [List.zip_append hl];intro x hx;rcases List.mem_append.1 hx with hx |hx
   ·exact hz x hx
   ·simp only [List.zip_cons_cons,List.zip_nil_right,List.mem_singleton]at hx;subst hx;exact hab
theorem aC.sep {one two:Ps α}{Q:α->α->Prop}(h1:∀u,aC k D E X (fun a b _=>Q a b) one two u):aC k D E X (fun a b _=>a.length=b.length∧∀x∈a.zip b,Q x.1 x.2) (jN one) (jN two) u:=
 (h1 u).then_ fun a b v _ hab=>aC.fuel (p:=fun n=>sG one n [a]) (q:=fun n=>sG two n [b]) (fun f g hf hg=>aC.Un hE hX h1 v.length v f g _ _ (Nat.le_refl _) hf hg rfl (by simpa using hab)) hX
omit hX hE in
theorem F8 {a b:List α}(hl:a.length=b.length)(h:∀x∈a.zip b,x.2=x.1):b=a:=by
 induction a generalizing b with
 |nil=>cases b with |nil=>rfl |cons y b=>simp at hl
 |cons x a ih=>
  cases b with
  |nil=>simp at hl
  |cons y b=>
   have h1:=h (x,y) (by simp);simp only at h1;rw [h1,ih (b:=b) (by simpa using hl) (fun z hz=>h z (by simp [hz]))]
omit hX hE in
theorem zip_map {a b:List α}{φ:α->α}(hl:a.length=b.length)(h:∀x∈a.zip b,x.2=φ x.1):b=a.map φ:=by
 induction a generalizing b with
 |nil=>cases b with |nil=>rfl |cons y b=>simp at hl
 |cons x a ih=>
  cases b with
  |nil=>simp at hl
  |cons y b=>
   have h1:=h (x,y) (by simp);simp only at h1;rw [h1,ih (b:=b) (by simpa using hl) (fun z hz=>h z (by simp [hz]))];rfl
end
section
variable {k:Nat}{D:Prop}{E:aD}{X:List aD}{u:List aD}(hE:E.kind=0) (hX:Er X)
abbrev EqT:bC->bC->List aD->Prop:=fun a b _=>b=a
abbrev F9 (k:Nat):bF->bF->List aD->Prop:=fun a b _=>b=Jc k a
variable {typ yD:Ps bC}(ht:∀u,aC k D E X EqT typ yD u) {expr expr' unary Ga:Ps bF}(he:∀u,aC k D E X (F9 k) expr expr' u) (hu:∀u,aC k D E X (F9 k) unary Ga u)
include hE hX ht
theorem aC.KE:aC k D E X EqT (jT typ) (jT yD) u:=by
 refine(aC.jZ hE hX (by decide)).then_ fun a b v hv ⟨e,h⟩=>?_;subst e;rcases a with _ |n
 ·refine(aC.jZ hE hX (by decide)).then_ fun a b v hv ⟨e,h⟩=>?_;subst e;rcases a with _ |_ |n
  ·exact(aC.name hE).then_ fun a b v hv e=>by subst e;exact .ret rfl
  ·exact(ht _).then_ fun a b v hv e=>by subst e;exact(aC.want hE).then_ fun _ _ v _ _=>.ret rfl
  ·refine(aC.has hE hX (by decide)).then_ fun a b v hv ⟨e,h⟩=>?_;subst e;cases a
   ·refine(aC.sep (Q:=fun a b=>b=a) hE hX fun u=>?_).then_ fun a b v hv h=>?_
    ·exact(aC.name hE).then_ fun a b v hv e=>by subst e;exact(aC.want hE).then_ fun _ _ v _ _=>(ht _).then_ fun a b v hv e=>by subst e;exact .ret rfl
    ·obtain rfl:=F8 h.1 h.2;exact(aC.want hE).then_ fun _ _ v _ _=>.ret rfl
   ·exact .ret rfl
 ·exact .ret rfl
theorem aC.alt (n:Nat):∀(u:List aD) (f g:Nat) (l:List bC),u.length<=n->u.length<f->u.length<g->
  aC k D E X (fun a b _=>b=a) (qP typ f l) (qP yD g l) u:=by
 induction n with
 |zero=>
  intro u f g l hn hf hg;obtain⟨f,rfl⟩:∃f',f=f'+1:=⟨f - 1,by omega⟩
  obtain⟨g,rfl⟩:∃f',g=f'+1:=⟨g - 1,by omega⟩
  refine(aC.has hE hX (by decide)).then_ fun a b v hv ⟨e,h⟩=>?_;subst e;rcases h with⟨rfl,rfl⟩ |⟨t,rfl,rfl⟩
  ·exact .ret rfl
  ·simp at hn
 |succ n ih=>
  intro u f g l hn hf hg;obtain⟨f,rfl⟩:∃f',f=f'+1:=⟨f - 1,by omega⟩
  obtain⟨g,rfl⟩:∃f',g=f'+1:=⟨g - 1,by omega⟩
  refine(aC.has hE hX (by decide)).then_ fun a b v hv ⟨e,h⟩=>?_;subst e;rcases h with⟨rfl,rfl⟩ |⟨t,rfl,rfl⟩
  ·exact .ret rfl
  ·refine(aC.KE hE hX ht).then_ fun a b v2 hv2 hab=>?_;subst hab;have:=kg hv2;simp only [List.length_cons]at hn hf hg;exact ih v2 f g _ (by omega) (by omega) (by omega)
theorem aC.WU:aC k D E X EqT (FZ typ) (FZ yD) u:=by
 refine(aC.KE hE hX ht).then_ fun a b v hv e=>?_;subst e;refine(aC.fuel (p:=fun n=>qP typ n [b]) (q:=fun n=>qP yD n [b]) (fun f g hf hg=>aC.alt hE hX ht v.length v f g _ (Nat.le_refl _) hf hg) hX).then_ fun a b v hv e=>?_;subst e;refine(aC.has hE hX (by decide)).then_ fun a b v hv ⟨e,h⟩=>?_;subst e;cases a
 ·exact .ret rfl
 ·exact(ht _).then_ fun a b v hv e=>by subst e;exact .ret rfl
theorem aC.note (l n:List bC):aC k D E X (fun a b _=>b=a) (jd typ l n) (jd yD l n) u:=by
 refine(aC.has hE hX (by decide)).then_ fun a b v hv ⟨e,h⟩=>?_;subst e;cases a
 ·exact .ret rfl
 ·exact(ht _).then_ fun a b v hv e=>by subst e;exact .ret rfl
theorem aC.head (n:List bC):aC k D E X (fun a b _=>b=a) (kZ typ n) (kZ yD n) u:=by
 refine(aC.want hE).then_ fun _ _ v _ _=>(aC.name hE).then_ fun a b v hv e=>?_;subst e;refine(aC.note hE hX ht _ _).then_ fun a b v hv e=>?_;subst e;refine(aC.want hE).then_ fun _ _ v _ _=>(aC.note hE hX ht _ _).then_ fun a b v hv e=>?_;subst e;exact .ret rfl
omit ht hX
include he
theorem aC.kids:∀(a:List Bt) (l:List bF) {u:List aD},aC k D E X (fun a b _=>b=a.map (Jc k)) (bK expr a l) (bK expr' a (l.map (Jc k))) u
 | [],l,u=>.ret rfl
 |s :: r,l,u=>by
  refine aC.then_ (R:=fun _ _ _=>True) ?_ fun _ _ v _ _=>?_
  ·by_cases hs:s=[]
   ·rw [if_pos hs];exact .ret trivial
   ·rw [if_neg hs];exact(aC.want hE).mono fun _ _ _ _=>trivial
  ·refine(he _).then_ fun a b v hv e=>?_;subst e;have:=aC.kids r (l++[a]) (u:=v);rwa [List.map_append]at this
omit he
include hX
theorem aC.left {sub sub':Ps bF}(hs:∀u,aC k D E X (F9 k) sub sub' u){ops:List Bt}(ho:∀s∈ops,s≠[41])(n:Nat):∀(u:List aD) (f g:Nat) (a:bF),u.length<=n->u.length<f->u.length<g->
  aC k D E X (F9 k) (mq ops sub f a) (mq ops sub' g (Jc k a)) u:=by
 induction n with
 |zero=>
  intro u f g l hn hf hg;obtain⟨f,rfl⟩:∃f',f=f'+1:=⟨f - 1,by omega⟩
  obtain⟨g,rfl⟩:∃f',g=f'+1:=⟨g - 1,by omega⟩
  refine aC.here.then_ fun a b v hv ⟨e,h1⟩=>?_;subst e;refine(aC.jZ hE hX ho).then_ fun a b v hv ⟨e,h⟩=>?_;subst e;rcases h with⟨rfl,rfl⟩ |⟨t,i,rfl,rfl⟩
  ·exact .ret rfl
  ·simp at hn
 |succ n ih=>
  intro u f g l hn hf hg;obtain⟨f,rfl⟩:∃f',f=f'+1:=⟨f - 1,by omega⟩
  obtain⟨g,rfl⟩:∃f',g=f'+1:=⟨g - 1,by omega⟩
  refine aC.here.then_ fun a b v hv ⟨e,h1⟩=>?_;subst e;refine(aC.jZ hE hX ho).then_ fun a b v hv ⟨e,h⟩=>?_;subst e;rcases h with⟨rfl,rfl⟩ |⟨t,i,rfl,rfl⟩
  ·exact .ret rfl
  ·obtain⟨rfl,rfl⟩:=h1 t v rfl;refine(hs v).then_ fun a b v2 hv2 hab=>?_;subst hab;have:=kg hv2;simp only [List.length_cons]at hn hf hg;exact ih v2 f g (aL 14 (ops.getD i []) 0 _ [] [] [l,a]) (by omega) (by omega) (by omega)
theorem aC.Ra {sub sub':Ps bF}(hs:∀u,aC k D E X (F9 k) sub sub' u){ops:List Bt}(ho:∀s∈ops,s≠[41]):aC k D E X (F9 k) (zY ops sub) (zY ops sub') u:=
 (hs u).then_ fun a b v hv e=>by
  subst e;exact aC.fuel (p:=fun n=>mq ops sub n a) (q:=fun n=>mq ops sub' n (Jc k a)) (fun f g hf hg=>aC.left hE hX hs ho v.length v f g a (Nat.le_refl _) hf hg) hX
include ht
theorem aC.cmp {sub sub':Ps bF}(hs:∀u,aC k D E X (F9 k) sub sub' u):aC k D E X (F9 k) (Ei typ sub) (Ei yD sub') u:=by
 refine(hs u).then_ fun x b v hv e=>?_;subst e;refine aC.here.then_ fun a b v hv ⟨e,h1⟩=>?_;subst e;refine(aC.jZ hE hX (by decide)).then_ fun a b v hv ⟨e,h⟩=>?_;subst e;rcases h with⟨rfl,rfl⟩ |⟨t,i,rfl,rfl⟩
 ·exact .ret rfl
 ·obtain⟨rfl,rfl⟩:=h1 t v rfl;simp only;by_cases h3:i=3
  ·rw [if_pos h3,if_pos h3];refine(aC.jZ hE hX (by decide)).then_ fun a b v hv ⟨e,h⟩=>?_;subst e;rcases a with _ |n
   ·exact aC.fail
   ·exact .ret rfl
  ·rw [if_neg h3,if_neg h3];by_cases h4:i=4
   ·rw [if_pos h4,if_pos h4];exact(ht _).then_ fun a b v hv e=>by subst e;exact .ret rfl
   ·rw [if_neg h4,if_neg h4];exact(hs _).then_ fun a b v hv e=>by subst e;exact .ret rfl
include hu
theorem aC.rank:∀(f:Nat) {u:List aD},f<=6->aC k D E X (F9 k) (jl typ unary f) (jl yD Ga f) u
 |0,u,_=>hu u
 |f+1,u,hf=>by
  unfold jl;by_cases h3:f=3
  ·rw [if_pos h3,if_pos h3];exact aC.cmp hE hX ht fun u=>aC.rank f (by omega)
  ·rw [if_neg h3,if_neg h3];refine aC.Ra hE hX (fun u=>aC.rank f (by omega)) ?_;have:f=0∨f=1∨f=2∨f=4∨f=5:=by omega
   rcases this with rfl |rfl |rfl |rfl |rfl <;> decide
include he
theorem aC.Rb:aC k D E X (F9 k) (rA typ expr unary) (rA yD expr' Ga) u:=by
 refine aC.here.then_ fun a b v hv ⟨e,h1⟩=>?_;subst e;refine(aC.jZ hE hX (by decide)).then_ fun a b v hv ⟨e,h⟩=>?_;subst e;rcases h with⟨rfl,rfl⟩ |⟨t,i,rfl,rfl⟩
 ·exact aC.rank hE hX ht hu 6 (Nat.le_refl _)
 ·obtain⟨rfl,rfl⟩:=h1 t v rfl;rcases i with _ |_ |i
  ·refine(aC.name hE).then_ fun a b v hv e=>?_;subst e;refine(aC.note hE hX ht _ _).then_ fun a b v hv e=>?_;subst e;exact(aC.kids hE he _ []).then_ fun a b v hv e=>by subst e;exact .ret (qH ..)
  ·exact(aC.kids hE he _ []).then_ fun a b v hv e=>by subst e;exact .ret (qH ..)
  ·refine(aC.head hE hX ht _).then_ fun a b v hv e=>?_;subst e;exact(aC.kids hE he _ []).then_ fun a b v hv e=>by subst e;exact .ret (qH ..)
omit hu ht hX
theorem aC.F3:aC k D E X (fun a b _=>b=(a.1,Jc k a.2)) (iE expr) (iE expr') u:=by
 refine(aC.name hE).then_ fun a b v hv e=>?_;subst e;refine(aC.want hE).then_ fun _ _ v _ _=>(he _).then_ fun a b v hv e=>?_;subst e;exact .ret rfl
include hX
theorem aC.wM (t:aD):aC k D E X (F9 k) (rC expr t) (rC expr' (Du k t)) u:=by
 have hX':=hX;obtain⟨x,X',rfl,hx⟩:=hX';refine aC.then_ (R:=fun a b v=>a=b∧v=u) ?_ fun a b v hv ⟨e,h⟩=>?_
 ·intro a r h;unfold lg at h ⊢;injection h with e1 e2;subst e1 e2;refine .inl ⟨u,_,rfl,List.suffix_refl _,rfl,?_,rfl⟩;cases u with
  |nil=>simp [aW,sQ hE,yC hx (s:=[125]) (by decide)]
  |cons t u=>simp [aW,Sc]
 ·subst e h;cases a
  ·rw [if_neg Bool.false_ne_true,if_neg Bool.false_ne_true];refine aC.then_ (R:=fun a b w=>a=b∧w=v) ?_ fun a b v hv ⟨e,h⟩=>?_
   ·intro a r h;unfold lg at h ⊢;injection h with e1 e2;subst e1 e2;refine .inl ⟨v,_,rfl,List.suffix_refl _,rfl,?_,rfl⟩;rcases v with _ |⟨t,_ |⟨t2,v⟩⟩
    ·have hk:(x.kind==1)=false:=by rcases hx with hx |hx <;> simp [hx]
     simp [aW,hE,hk]
    ·simp [aW,sQ hE,yC hx (s:=[58]) (by decide)]
    ·simp [aW,Sc];rfl
   ·subst e h;cases a
    ·rw [if_neg Bool.false_ne_true,if_neg Bool.false_ne_true];refine(aC.kids hE he _ []).then_ fun m b v hv e=>?_;subst e;refine(aC.want hE).then_ fun _ _ v _ _=>(aC.name hE).then_ fun a b v hv e=>?_;subst e;exact(aC.kids hE he _ m).then_ fun a b v hv e=>by subst e;exact .ret (qH ..)
    ·rw [if_pos rfl,if_pos rfl];refine(aC.sep (Q:=fun a b=>b=(a.1,Jc k a.2)) hE hX fun u=>aC.F3 hE he).then_ fun a b v hv h=>?_;obtain rfl:=zip_map (φ:=fun a:Bt ×bF=>(a.1,Jc k a.2)) h.1 h.2;exact .ret (by have:=qH k 8 [] 0 t [] (a.map (·.1)) (a.map (·.2));simpa [Function.comp_def]using this)
  ·exact .ret (ow ..)
omit he
include ht
theorem aC.named {h h':aD}(hh:∀t r,u=t :: r->h=t∧h'=Du k t):aC k D E X (F9 k) (lK typ h) (lK yD h') u:=by
 refine(aC.kind hE (by decide)).then_ fun a b v hv ⟨e,t,hu,_⟩=>?_;subst e;obtain⟨rfl,rfl⟩:=hh t v hu;refine(aC.has hE hX (by decide)).then_ fun a b v hv ⟨e,h⟩=>?_;subst e;cases a
 ·exact .ret (ow ..)
 ·refine(aC.sep (Q:=fun a b=>b=a) hE hX fun u=>ht u).then_ fun a b v hv h=>?_;obtain rfl:=F8 h.1 h.2;exact(aC.want hE).then_ fun _ _ v _ _=>.ret (ow ..)
include he
theorem aC.atom:aC k D E X (F9 k) (iJ typ expr) (iJ yD expr') u:=by
 have hX':=hX;obtain⟨x,X',rfl,hx⟩:=hX';have hxk:∀n:Int,n=3∨n=4->x.kind≠n:=by
  intro n hn h;rcases hx with h1 |⟨h1,_⟩ <;> omega
 refine aC.then_ (R:=fun h h' v=>v=u∧(∀t r,u=t :: r->h=t∧h'=Du k t)∧(u=[]->h=E∧h'=x)) ?_ fun h h' v hv ⟨e,hh,hn⟩=>?_
 ·intro a r h;unfold fH at h ⊢;injection h with e1 e2;subst e1 e2;refine .inl ⟨u,_,rfl,List.suffix_refl _,rfl,rfl,?_,?_⟩
  ·rintro t r rfl;exact⟨rfl,rfl⟩
  ·rintro rfl;exact⟨rfl,rfl⟩
 ·subst e;have hk:(h.kind=3↔h'.kind=3)∧(h.kind=4↔h'.kind=4):=by
   cases v with
   |nil=>
    obtain⟨rfl,rfl⟩:=hn rfl;have h3:=hxk 3 (.inl rfl);have h4:=hxk 4 (.inr rfl);rw [hE];exact⟨⟨fun h=>(by cases h),fun h=>absurd h h3⟩,⟨fun h=>(by cases h),fun h=>absurd h h4⟩⟩
   |cons t r=>
    obtain⟨rfl,rfl⟩:=hh t r rfl;exact⟨Iff.rfl,Iff.rfl⟩
  by_cases h3:h.kind=3
  ·rw [if_pos h3,if_pos (hk.1.1 h3)];refine(aC.kind hE (by decide)).then_ fun a b w hv ⟨e,t,hu,_⟩=>?_;subst e;obtain⟨rfl,rfl⟩:=hh t w hu;exact .ret (ow ..)
  ·rw [if_neg h3,if_neg (fun h=>h3 (hk.1.2 h))];by_cases h4:h.kind=4
   ·rw [if_pos h4,if_pos (hk.2.1 h4)];refine(aC.kind hE (by decide)).then_ fun a b w hv ⟨e,t,hu,_⟩=>?_;subst e;obtain⟨rfl,rfl⟩:=hh t w hu;exact .ret (ow ..)
   ·rw [if_neg h4,if_neg (fun h=>h4 (hk.2.2 h))];refine(aC.jZ hE hX (by decide)).then_ fun a b w hv ⟨e,h1⟩=>?_;subst e;rcases h1 with⟨rfl,rfl⟩ |⟨t,i,rfl,rfl⟩
    ·exact aC.named hE hX ht hh
    ·obtain⟨rfl,rfl⟩:=hh t w rfl;rcases i with _ |_ |_ |_ |_ |_ |i
     ·exact .ret (ow ..)
     ·exact .ret (ow ..)
     ·exact .ret (ow ..)
     ·exact(aC.wants hE _).then_ fun _ _ v _ _=>.ret (ow ..)
     ·exact(aC.kids hE he _ []).then_ fun a b v hv e=>by subst e;exact(aC.want hE).then_ fun _ _ v _ _=>.ret (qH ..)
     ·exact(he _).then_ fun a b v hv e=>by subst e;exact(aC.want hE).then_ fun _ _ v _ _=>.ret rfl
     ·exact(aC.wM hE hX he _).then_ fun a b v hv e=>by subst e;exact(aC.want hE).then_ fun _ _ v _ _=>.ret rfl
omit ht
theorem aC.Ir (n:Nat):∀(u:List aD) (f g:Nat) (a:bF),u.length<=n->u.length<f->u.length<g->
  aC k D E X (F9 k) (jB expr f a) (jB expr' g (Jc k a)) u:=by
 induction n with
 |zero=>
  intro u f g l hn hf hg;obtain⟨f,rfl⟩:∃f',f=f'+1:=⟨f - 1,by omega⟩
  obtain⟨g,rfl⟩:∃f',g=f'+1:=⟨g - 1,by omega⟩
  refine aC.here.then_ fun a b v hv ⟨e,h1⟩=>?_;subst e;refine(aC.jZ hE hX (by decide)).then_ fun a b v hv ⟨e,h⟩=>?_;subst e;rcases h with⟨rfl,rfl⟩ |⟨t,i,rfl,rfl⟩
  ·exact .ret rfl
  ·simp at hn
 |succ n ih=>
  intro u f g l hn hf hg;obtain⟨f,rfl⟩:∃f',f=f'+1:=⟨f - 1,by omega⟩
  obtain⟨g,rfl⟩:∃f',g=f'+1:=⟨g - 1,by omega⟩
  refine aC.here.then_ fun a b v hv ⟨e,h1⟩=>?_;subst e;refine(aC.jZ hE hX (by decide)).then_ fun a b v hv ⟨e,h⟩=>?_;subst e;rcases h with⟨rfl,rfl⟩ |⟨t,i,rfl,rfl⟩
  ·exact .ret rfl
  ·obtain⟨rfl,rfl⟩:=h1 t v rfl;simp only [List.length_cons]at hn hf hg;rcases i with _ |i
   ·refine(aC.kids hE he _ [l]).then_ fun a b v1 hv1 e=>?_;subst e;refine(aC.want hE).then_ fun _ _ v2 hv2 _=>?_;have:=kg hv2;have:=kg hv1;have h:=fun x:aD=>ih v2 f g (aL 7 [] 0 x [] [] a) (by omega) (by omega) (by omega);simp only [<-qH]at h;exact h _
   ·refine(aC.name hE).then_ fun a b v2 hv2 e=>?_;subst e;have:=kg hv2;exact ih v2 f g (aL 9 a 0 _ [] [] [l]) (by omega) (by omega) (by omega)
include ht
theorem aC.post:aC k D E X (F9 k) (nW typ expr) (nW yD expr') u:=
 (aC.atom hE hX ht he).then_ fun a b v hv e=>by
  subst e;exact aC.fuel (p:=fun n=>jB expr n a) (q:=fun n=>jB expr' n (Jc k a)) (fun f g hf hg=>aC.Ir hE hX he v.length v f g a (Nat.le_refl _) hf hg) hX
include hu
theorem aC.KF:aC k D E X (F9 k) (nR typ expr unary) (nR yD expr' Ga) u:=by
 refine aC.here.then_ fun a b v hv ⟨e,h1⟩=>?_;subst e;refine(aC.jZ hE hX (by decide)).then_ fun a b v hv ⟨e,h⟩=>?_;subst e;rcases h with⟨rfl,rfl⟩ |⟨t,i,rfl,rfl⟩
 ·exact aC.post hE hX ht he
 ·obtain⟨rfl,rfl⟩:=h1 t v rfl;rcases i with _ |i
  ·exact(hu _).then_ fun a b v hv e=>by subst e;exact .ret rfl
  ·exact(hu _).then_ fun a b v hv e=>by subst e;exact .ret rfl
end
theorem aC.O8 {k:Nat}{E:aD}{X:List aD}(hE:E.kind=0)(hX:Er X):∀(m n:Nat),m<=n->
  (∀u,aC k (m<n) E X EqT (aU n).typ (aU m).typ u)∧(∀u,aC k (m<n) E X (F9 k) (aU n).expr (aU m).expr u)∧(∀u,aC k (m<n) E X (F9 k) (aU n).unary (aU m).unary u)
 |0,0,_=>⟨fun u=>aC.fail,fun u=>aC.fail,fun u=>aC.fail⟩
 |0,n+1,_=>⟨fun u a r h=>.inr ⟨by omega,_,_,rfl⟩,fun u a r h=>.inr ⟨by omega,_,_,rfl⟩,fun u a r h=>.inr ⟨by omega,_,_,rfl⟩⟩
 |m+1,0,h=>absurd h (by omega)
 |m+1,n+1,h=>by
  have h1:=aC.O8 (k:=k) hE hX m n (by omega);have e:(m+1<n+1)=(m<n):=by simp
  rw [e];obtain⟨h1,h2,h3⟩:=h1;exact⟨fun u=>aC.WU hE hX h1,fun u=>aC.Rb hE hX h1 h2 h3,fun u=>aC.KF hE hX h1 h2 h3⟩
theorem OO {t:Bt}{kd:Int}(h:Fx kd t):kd≠0∧(kd=2->t≠[58]):=by
 obtain⟨h1,_,h2,_⟩:=h;refine⟨by omega,fun e=>?_⟩;have:=h2 e;rintro rfl;exact absurd this (by decide)
theorem EY:∀(f:Nat) (s:Bt) (p:Nat ×Nat) (out:List aD),(nO f s p out).2.2.2=0->(nO f s p out).2=(0,0,0)
 |0,s,p,out,h=>rfl
 |f+1,s,p,out,h=>by
  rw [nO]at h ⊢;by_cases hnil:s.drop (bB s)=[]
  ·rw [if_pos hnil]
  ·rw [if_neg hnil]at h ⊢;cases hn:fu (s.drop (bB s))with
   |inl e=>
    rw [hn]at h;exact absurd h (yP hn)
   |inr x=>
    obtain⟨kd,t,n⟩:=x;rw [hn]at h;simp only at h ⊢;by_cases h8:out.length=8192
    ·rw [if_pos h8]at h;exact absurd (show(19:Int)=0 from h) (by decide)
    ·rw [if_neg h8]at h ⊢;exact EY f _ _ _ h
theorem BO {s:Bt}(h:(iU s).2.2.2=0):(iU s).2=(0,0,0):=by
 by_cases hs:65536<s.length
 ·unfold iU at h;rw [if_pos hs]at h;exact absurd (show(2:Int)=0 from h) (by decide)
 ·rw [BZ s (by omega)]at h ⊢;exact EY _ _ _ _ h
theorem UH {s:Bt}{l:List aD}(h:iU s=(l,(0,0,0))):∃m e,l=m++[e]∧e.kind=0∧(∀t∈m,Fx t.kind t.text)∧m.length<=s.length∧Wf l:=by
 by_cases hs:65536<s.length
 ·unfold iU at h;rw [if_pos hs]at h;cases h
 ·rw [BZ s (by omega)]at h;obtain⟨m,e,h1,h2,_,h3,h4,_⟩:=Ey _ s (1,1) [] (Nat.lt_succ_self _) (by rw [h]);rw [h]at h1;injection h1 with h1 _;rw [List.nil_append]at h1;exact⟨m,e,h1,h2,h4,h3,m,e,h1,h2,fun t ht=>OO (h4 t ht)⟩
def bF.line:bF->Int |.mk _ _ _ l _ _ _ _=>l
def bF.col:bF->Int |.mk _ _ _ _ c _ _ _=>c
theorem OP {α:Type}{p:Ps α}{s:Bt}{m:List aD}{e:aD}{a:α}(hl:iU s=(m++[e],(0,0,0)))(he:e.kind=0)(h:p (m++[e])=.good a [e]):bZ p s=(some a,(0,0,0)):=by
 unfold bZ;rw [hl,if_pos rfl,aj h,aj (a:=e.text) (r:=[e]) (by unfold fK;rw [if_pos (show(aW [e]).kind=0 from he),if_pos rfl];rfl)];rfl
def YK (k:Nat)(i:uU):uU:={ i with line:=i.line+k}
def UJ (k:Nat)(d:nV):nV:={ d with line:=d.line+k,body:=Jc k d.body}
def shM (k:Nat)(m:yS):yS:=⟨m.imps.map (YK k),m.decls.map (UJ k)⟩
section
variable {k:Nat}{E x:aD}(hE:E.kind=0) (hx:x.kind=0) {u:List aD}
include hE hx
theorem aC.X4:(∀u,aC k False E [x] EqT (aU 100).typ (aU 100).typ u)∧(∀u,aC k False E [x] (F9 k) (aU 100).expr (aU 100).expr u):=by
 have h:=aC.O8 (k:=k) hE ⟨x,[],rfl,.inl hx⟩ 100 100 (Nat.le_refl _);have e:(100<100)=False:=by simp
 rw [e]at h;exact⟨h.1,h.2.1⟩
theorem aC.var:aC k False E [x] (fun a b _=>b=a) CX CX u:=by
 have hX:Er [x]:=⟨x,[],rfl,.inl hx⟩
 refine(aC.name hE).then_ fun a b v hv e=>?_;subst e;refine(aC.has hE hX (by decide)).then_ fun c b v hv ⟨e,h⟩=>?_;subst e;cases c
 ·exact .ret rfl
 ·exact((aC.X4 hE hx).1 _).then_ fun a b v hv e=>by subst e;exact .ret rfl
theorem aC.vars:aC k False E [x] (fun a b _=>b=a) uH uH u:=by
 have hX:Er [x]:=⟨x,[],rfl,.inl hx⟩
 refine(aC.has hE hX (by decide)).then_ fun c b v hv ⟨e,h⟩=>?_;subst e;cases c
 ·exact .ret rfl
 ·refine(aC.sep (Q:=fun a b=>b=a) hE hX fun u=>aC.var hE hx).then_ fun a b v hv h=>?_;obtain rfl:=F8 h.1 h.2;exact(aC.want hE).then_ fun _ _ v _ _=>.ret rfl
theorem aC.import_ (t:aD):aC k False E [x] (fun a b _=>b=YK k a) (oh t) (oh (Du k t)) u:=by
 have hX:Er [x]:=⟨x,[],rfl,.inl hx⟩
 refine(aC.name hE).then_ fun a b v hv e=>?_;subst e;refine(aC.want hE).then_ fun _ _ v _ _=>(aC.sep (Q:=fun a b=>b=a) hE hX fun u=>(aC.name hE).mono fun _ _ _ e=>e.symm).then_ fun a b v hv h=>?_;obtain rfl:=F8 h.1 h.2;exact(aC.want hE).then_ fun _ _ v _ _=>.ret (by simp [YK,Du])
theorem aC.decl:aC k False E [x] (fun a b v=>b=UJ k a∧v.length<u.length) tJ tJ u:=by
 have hX:Er [x]:=⟨x,[],rfl,.inl hx⟩
 refine(aC.has hE hX (by decide)).then_ fun c b v0 hv0 ⟨e,_⟩=>?_;subst e;refine aC.here.then_ fun h h' v hv ⟨e,h1⟩=>?_;subst e;refine(aC.want hE).then_ fun _ _ v1 _ ⟨t,ht⟩=>?_;obtain⟨rfl,rfl⟩:=h1 _ _ ht;have hlt:v1.length<u.length:=by have:=kg hv0;rw [ht]at this;simp at this;omega
 refine(aC.name hE).then_ fun a b v2 hv2 e=>?_;subst e;refine(aC.vars hE hx).then_ fun a b v3 hv3 e=>?_;subst e;refine(aC.head hE hX (aC.X4 hE hx).1 _).then_ fun a b v4 hv4 e=>?_;subst e;refine(aC.want hE).then_ fun _ _ v5 hv5 _=>((aC.X4 hE hx).2 _).then_ fun a b v6 hv6 e=>?_;subst e;refine(aC.want hE).then_ fun _ _ v7 hv7 _=>.ret ⟨by simp [UJ,Du],?_⟩;have:=kg hv2;have:=kg hv3;have:=kg hv4;have:=kg hv5;have:=kg hv6;have:=kg hv7;omega
theorem aC.imps (n:Nat):∀(u:List aD) (f g:Nat) (l:List uU),u.length<=n->u.length<f->u.length<g->
  aC k False E [x] (fun a b _=>b=a.map (YK k)) (qD f l) (qD g (l.map (YK k))) u:=by
 have hX:Er [x]:=⟨x,[],rfl,.inl hx⟩
 induction n with
 |zero=>
  intro u f g l hn hf hg;obtain⟨f,rfl⟩:∃f',f=f'+1:=⟨f - 1,by omega⟩
  obtain⟨g,rfl⟩:∃f',g=f'+1:=⟨g - 1,by omega⟩
  refine aC.here.then_ fun a b v hv ⟨e,h1⟩=>?_;subst e;refine(aC.has hE hX (by decide)).then_ fun a b v hv ⟨e,h⟩=>?_;subst e;rcases h with⟨rfl,rfl⟩ |⟨t,rfl,rfl⟩
  ·exact .ret rfl
  ·simp at hn
 |succ n ih=>
  intro u f g l hn hf hg;obtain⟨f,rfl⟩:∃f',f=f'+1:=⟨f - 1,by omega⟩
  obtain⟨g,rfl⟩:∃f',g=f'+1:=⟨g - 1,by omega⟩
  refine aC.here.then_ fun a b v hv ⟨e,h1⟩=>?_;subst e;refine(aC.has hE hX (by decide)).then_ fun a b v hv ⟨e,h⟩=>?_;subst e;rcases h with⟨rfl,rfl⟩ |⟨t,rfl,rfl⟩
  ·exact .ret rfl
  ·obtain⟨rfl,rfl⟩:=h1 t v rfl;refine(aC.import_ hE hx _).then_ fun a b v2 hv2 hab=>?_;subst hab;have:=kg hv2;simp only [List.length_cons]at hn hf hg;have h:=ih v2 f g (l++[a]) (by omega) (by omega) (by omega);rwa [List.map_append]at h
theorem aC.decls (n:Nat):∀(u:List aD) (f g:Nat) (l:List nV),Wf (u++[E])->u.length<=n->u.length<f->u.length<g->
  aC k False E [x] (fun a b _=>b=a.map (UJ k)) (iM f l) (iM g (l.map (UJ k))) u:=by
 induction n with
 |zero=>
  intro u f g l hw hn hf hg;obtain⟨f,rfl⟩:∃f',f=f'+1:=⟨f - 1,by omega⟩
  obtain⟨g,rfl⟩:∃f',g=f'+1:=⟨g - 1,by omega⟩
  obtain rfl:u=[]:=List.eq_nil_of_length_eq_zero (by omega);have e1:iM (f+1) l [E]=.good l [E]:=by unfold iM;rw [aj (show lg (fun t _=>t.kind==0) [E]=.good (E.kind==0) [E]from rfl),hE];rfl
  have e2:iM (g+1) (l.map (UJ k)) [x]=.good (l.map (UJ k)) [x]:=by unfold iM;rw [aj (show lg (fun t _=>t.kind==0) [x]=.good (x.kind==0) [x]from rfl),hx];rfl
  intro a r h;rw [List.nil_append,e1]at h;injection h with h1 h2;subst h1 h2;exact .inl ⟨[],_,rfl,List.suffix_refl _,e2,rfl⟩
 |succ n ih=>
  intro u f g l hw hn hf hg;obtain⟨f,rfl⟩:∃f',f=f'+1:=⟨f - 1,by omega⟩
  obtain⟨g,rfl⟩:∃f',g=f'+1:=⟨g - 1,by omega⟩
  cases u with
  |nil=>
   have e1:iM (f+1) l [E]=.good l [E]:=by unfold iM;rw [aj (show lg (fun t _=>t.kind==0) [E]=.good (E.kind==0) [E]from rfl),hE];rfl
   have e2:iM (g+1) (l.map (UJ k)) [x]=.good (l.map (UJ k)) [x]:=by unfold iM;rw [aj (show lg (fun t _=>t.kind==0) [x]=.good (x.kind==0) [x]from rfl),hx];rfl
   intro a r h;rw [List.nil_append,e1]at h;injection h with h1 h2;subst h1 h2;exact .inl ⟨[],_,rfl,List.suffix_refl _,e2,rfl⟩
  |cons t u=>
   have ht:t.kind≠0:=by
    rcases hw.cases with⟨e,he,_⟩ |⟨t',r,he,h1,_⟩
    ·simp at he
    ·injection he with he _;rw [he];exact h1
   intro a r h;unfold iM at h ⊢;rw [aj (show lg (fun t _=>t.kind==0) (t :: u++[E])=.good (t.kind==0) (t :: u++[E])from rfl),beq_false_of_ne ht]at h;rw [aj (show lg (fun t _=>t.kind==0) ((t :: u).map (Du k)++[x])=.good (t.kind==0) ((t :: u).map (Du k)++[x])from rfl),beq_false_of_ne ht];simp only [Bool.false_eq_true,if_false]at h ⊢;rcases hp:tJ (t :: u++[E])with d |⟨d,r1⟩
   ·rw [aB hp]at h;cases h
   ·obtain⟨hr1,_⟩:=Sf.decl.good hw hp;rw [aj hp]at h;rcases aC.decl (k:=k) hE hx (u:=t :: u) d r1 hp with⟨v,b,rfl,hv,hq,rfl,hlt⟩ |⟨hD,_⟩
    ·have:=ih v f g (l++[d]) hr1 (by simp only [List.length_cons]at*;omega) (by simp only [List.length_cons]at*;omega) (by simp only [List.length_cons]at*;omega);rcases this a r h with⟨v2,b2,e1,e2,e3,e4⟩ |⟨hD,_⟩
     ·refine .inl ⟨v2,b2,e1,e2.trans hv,?_,e4⟩;rw [aj hq];rw [List.map_append]at e3;exact e3
     ·exact hD.elim
    ·exact hD.elim
theorem aC.module (hw:Wf (u++[E])):aC k False E [x] (fun a b _=>b=shM k a) fq fq u:=by
 have hX:Er [x]:=⟨x,[],rfl,.inl hx⟩
 intro a r h;unfold fq at h ⊢;rcases hp:Mw (u++[E])with d |⟨i,r1⟩
 ·rw [aB hp]at h;cases h
 ·obtain⟨hr1,_⟩:=(Sf.fuel (p:=fun ts=>qD ts.length []) fun ts=>Sf.imps _ _).good hw hp;rw [aj hp]at h;rcases(aC.fuel (p:=fun n=>qD n []) (q:=fun n=>qD n []) (fun f g hf hg=>aC.imps (k:=k) hE hx u.length u f g [] (Nat.le_refl _) hf hg) hX) i r1 hp with⟨v,b,rfl,hv,hq,rfl⟩ |⟨hD,_⟩
  ·have h3:=(aC.fuel (p:=fun n=>iM n []) (q:=fun n=>iM n []) (fun f g hf hg=>aC.decls (k:=k) hE hx v.length v f g [] hr1 (Nat.le_refl _) hf hg) hX).then_ (f:=fun d=>aJ (yS.mk i d)) (g:=fun d=>aJ (yS.mk (i.map (YK k)) d)) (S:=fun a b _=>b=shM k a) (fun a b w hw e=>by subst e;exact .ret rfl);rcases h3 a r h with⟨v2,b2,e1,e2,e3,e4⟩ |⟨hD,_⟩
   ·refine .inl ⟨v2,b2,e1,e2.trans hv,?_,e4⟩;rw [aj (show Mw _= _ from hq)];exact e3
   ·exact hD.elim
  ·exact hD.elim
end
theorem Je:∀(f:Nat) (s:Bt) (p:Nat ×Nat) (out:List aD),out.length<=8192->(nO f s p out).1.length<=8193
 |0,s,p,out,h=>by simp [nO]
 |f+1,s,p,out,h=>by
  rw [nO];split
  ·simp;omega
  ·split
   ·simp
   ·split
    ·simp
    ·rename_i h8
     exact Je f _ _ _ (by simp;omega)
theorem Sd (s:Bt):(iU s).1.length<=8193:=by
 unfold iU;split
 ·simp
 ·exact Je _ _ _ _ (by simp)
end Go.Proofs.YtfgjkmipfikooaaGreatDoor
