/- HI, RS, RT, RU, RV, PT -/
import Derived.Test.YtfgjkmipfikooaaGreatDoorTKQ
import Derived.Test.YtfgjkmipfikooaaGreatDoorTK13
import Derived.Test.YtfgjkmipfikooaaGreatDoorTK02
import Derived.Test.YtfgjkmipfikooaaGreatDoorTK01
set_option linter.unusedSimpArgs false
set_option linter.unusedVariables false
set_option maxRecDepth 100000
set_option maxHeartbeats 16000000
namespace Go.Proofs.YtfgjkmipfikooaaGreatDoor
open Go.RowKit
theorem yU {w:World} {b:Nat} {a0 a1:Value} {t:TypeId} (h:w.heap[b]? =some (.cells #[a0,a1] t (0,0))):w.cell? ⟨b,0,none⟩=some a0∧w.cell? ⟨b,1,none⟩=some a1∧∀i,w.frozen? ⟨b,i,none⟩=false:=
 ⟨(cell_of_row _ _ _ _ _ _ h).trans rfl,(cell_of_row _ _ _ _ _ _ h).trans rfl,fun i=>frozen_of_row _ _ _ _ _ h⟩
theorem Um:jH Tryz.prog 37 85 (.agg #[.string ⟨#[]⟩, .slice none 0 0, .int .i64 0, .int .i64 0]) 4 56:=⟨Tryz.underlying37,by kernel_rfl,rfl,by omega⟩
theorem Un:jH Tryz.prog 38 64 (.agg #[.string ⟨#[]⟩, .bool false, .slice none 0 0, .string ⟨#[]⟩, .slice none 0 0, .int .i64 0, .string ⟨#[]⟩, .int .i64 0, .int .i64 0, .int .i64 0, .slice none 0 0, .slice none 0 0, .slice none 0 0, .int .i64 0, .int .i64 0]) 15 224:=⟨Tryz.underlying38,by kernel_rfl,rfl,by omega⟩
theorem Ih {s:Bt} {ts r:List aF} {b:Bool} (h:dO s ts= .good b r):r.length≤ts.length:=by
 unfold dO at h;split at h
 ·injection h with _ h;subst h;simp
 ·injection h with _ h;subst h;exact Nat.le_refl _
theorem Gn {s:Bt} {ts r:List aF} {u:Unit} (h:aI s ts= .good u r) (hw:1≤ts.length):r.length<ts.length:=by
 unfold aI at h;rcases hq:dO s ts with g | ⟨b,r1⟩
 ·exact(gD hq).elim
 rw [aj hq]at h;cases b
 ·cases h
 ·injection h with _ h;subst h;exact qy hq hw
theorem Gp {ts r:List aF} {d:oV} (h:oL ts= .good d r) (hw:Wf ts):r.length<ts.length:=by
 unfold oL at h;rcases h1:dO [101,120,112,111,114,116] ts with g | ⟨b,r1⟩
 ·exact(gD h1).elim
 rw [aj h1]at h;have w1:=((Sf.has _).good hw h1).1;have l1:=Ih h1;rw [aj (show kS r1= .good (aS r1) r1 from rfl)]at h;rcases h2:aI [102,110] r1 with g | ⟨u,r2⟩
 ·rw [aB h2]at h;cases h
 rw [aj h2]at h;have w2:=((Sf.want _).good w1 h2).1;have l2:=Gn h2 w1.pos;have l3:=((show Sf _ from Sf.then_ Sf.name fun s=>Sf.then_ Sf.vars fun v=>Sf.then_ (Sf.head (Sf.Kc 100).1 [nY]) fun p=>Sf.then_ (Sf.want [61]) fun _=>Sf.then_ (Sf.Kc 100).2.1 fun x=>Sf.then_ (Sf.want [59]) fun _=>Sf.ret (⟨s,b,v,p.1,p.2,x,(aS r1).line,(aS r1).col⟩:oV)).good w2 h).2.length_le;omega
def XH (base:Nat) (w:World) (v:Value) (m:zJ):Prop:=∃z:List Value,v= .agg z.toArray∧Ie w (fun j=>base≤j) z m
structure L6 (w:World) (bp B tb:Nat) (wr:World) (l:List rD) (r:List aF):Prop where
 turn:Turn (fun k=>k=bp) w wr
 tk:bF wr bp B r 0
 res:wr.heap[w.heap.size]? =some (.cells #[.slice none 0 0, .slice none 0 0] 40 (0,0))
 tok:wr.heap[tb]? =some (.cells #[.int .i64 (aS r).kind,sv (aS r).text, .int .i64 ((aS r).line:Nat), .int .i64 ((aS r).col:Nat)] 154 (0,0))
 lo:w.heap.size+2≤tb
 row:∃v,wr.heap[w.heap.size+1]? =some (.cells #[v, .slice none 0 0] 40 (0,0))∧fP DI 4 85 wr (w.heap.size+2) (fun j=>w.heap.size+2≤j) v l∧v.ownBlock≠some tb
structure Ii (w:World) (bp B base:Nat) (vi:Value) (xi:List Value) (li:List rD) (wr:World) (l:List oV) (r:List aF):Prop where
 turn:Turn (fun k=>k=bp) w wr
 tk:bF wr bp B r 0
 bs:base≤wr.heap.size
 res:wr.heap[w.heap.size]? =some (.cells #[.slice none 0 0, .slice none 0 0] 40 (0,0))
 sl:dw wr (Iv (w.heap.size+2) base) 4 vi xi
 imps:dh (DI wr (Iv (w.heap.size+2) base)) 4 xi li
 row:∃v,wr.heap[w.heap.size+1]? =some (.cells #[vi,v] 40 (0,0))∧fP EX 15 64 wr base (fun j=>base≤j) v l
theorem Gq (w:World) (bp B:Nat) (ts:List aF) (h:bF w bp B ts 0):Calls Tryz.prog 45 #[.pointer (some ⟨bp,0,none⟩)] w (aD (XH w.heap.size) bp B 0 w (dJ ts)):=by
 have hlt:=h.lt;have hB:=h.1;have hlen:=h.2.1.1;obtain⟨Q,hQ⟩:∃Q,dJ ts=Q:=⟨_,rfl⟩
 rw [hQ];obtain⟨A,hA⟩:∃A,mM ts.length [] ts=A:=⟨_,rfl⟩
 have HQ:Hid (Sm A (fun i=>au Fv fun d=>aG (⟨i,d⟩:zJ))=Q):=hid (by
  rw [←hQ, ←hA];exact(yN GZ _ ts).symm)
 have HA:=hid hA;have HN:=hid (jJ ((w.alloc (.cells #[.slice none 0 0, .slice none 0 0] 40)).alloc (.cells #[.slice none 0 0, .slice none 0 0] 40)) bp B ts 0 (h.below (new2 _ _ _)));have Dr:=hid (h.below (new2 w (.cells #[.slice none 0 0, .slice none 0 0] 40) (.cells #[.slice none 0 0, .slice none 0 0] 40)));clear h hQ hA;go_enter Tryz.func45,Tryz.ntmps45;go_wp2_with fail;refine(HN.out).mono ?_;rintro e w1 ⟨rfl,hb1⟩;obtain⟨tm,hs1,hrs,hmb⟩:=gL (Turn.of_below (F:=fun k=>k=bp) hb1);obtain⟨t0,ht0⟩:∃t0,aS ts=t0:=⟨_,rfl⟩
 have mF:=hid ((Dr.out.below hb1).below (new1 w1 (.cells #[.int .i64 t0.kind,sv t0.text, .int .i64 t0.line, .int .i64 t0.col] 154)));have HI1:Hid (L6 w bp B w1.heap.size (w1.alloc (.cells #[.int .i64 t0.kind,sv t0.text, .int .i64 t0.line, .int .i64 t0.col] 154)) [] ts):=hid ⟨aA tm (Turn.alloc _ _ _),mF.out,bC (hrs (by omega)),by rw [ht0];exact wY _ _,by omega, _,bC (hmb (by omega)),fP.nil _ _ _ _ _ _,fun e=>by cases e⟩;rw [ht0];unfold om;clear hb1 tm hrs hmb;go_wp2_with fail;go_loopw [4] (fun v4 wr=>∃(tb f:Nat) (l:List rD) (r:List aF),v4= .pointer (some ⟨tb,0,none⟩)∧mM f l r=A∧r.length≤f∧l.length+r.length≤8193∧L6 w bp B tb wr l r) (fun _ wr=>leftOf wr bp)
 case atStart=>exact⟨_, _,[],ts,rfl,HA.out,Nat.le_refl _,by simpa using hlen,HI1.out⟩
 case round=>
  obtain⟨tb,f,l,r,rfl,hinv,hf,hlr,oK⟩:=hrel;have hwf:=oK.tk.wf;have hpos:=hwf.pos;obtain⟨f,rfl⟩:∃f',f=f'+1:=⟨f - 1,by omega⟩
  obtain⟨t,ht⟩:∃t,aS r=t:=⟨_,rfl⟩
  have HL:Hid (au (dO [105,109,112,111,114,116]) (fun b=>if b then au (kW t) fun i=>mM f (l++[i])else aG l) r=A):=hid (by subst ht;exact hinv);have HLEN:=hid oK.tk.left;have HF:=hid hf;have Nt:=hid hlr;have wG:=hid oK;have zR:=hid hwf;have Gg:=oK.tok;rw [ht]at Gg;have Rm:=hid Gg;have hsr:=oK.turn.size;have hlo:=oK.lo;have aaQ:=block_lt Gg;have aaR:=block_lt oK.row.choose_spec.1;have HH:=hid (jk wr bp B r 0 oK.tk [105,109,112,111,114,116]);clear hinv hf hlr oK hwf ht Gg;go_wp2_with fail;refine(HH.out).mono ?_;rintro e w2 h2;rcases hq:dO [105,109,112,111,114,116] r with g | ⟨b,r2⟩
  ·exact(gD hq).elim
  ·obtain⟨v2,rfl,tn,rfl,kn⟩:=h2.aL hq;have hs2:=tn.size;have HT2:=hid (aA wG.out.turn tn);have kI:=hid kn;have tN:=hid (ah wG.out.res tn (by omega));have PU:=hid (ah Rm.out tn (by omega));obtain⟨vi,hmb,hrow,hnt⟩:=wG.out.row;obtain⟨Ai,ci,rfl,hci,hcm⟩:=hrow.shape;have Ry:=hid (ah hmb tn (by omega));have DR:=hid (hrow.turn iH tn (fun g hg e=>by have:=(hrow.lt g hg).1;omega) (fun g _ h e=>by omega));have kH:=hid hq;clear h2 tn kn hq hmb hrow;cases b
   ·have HA2:Hid (Pr.good l r2=A):=hid ((aj kH.out).symm.trans HL.out);obtain⟨A2,hA2⟩:∃A2,fO r2.length [] r2=A2:=⟨_,rfl⟩
    have HD2:Hid (Sm A2 (fun d=>aG (⟨l,d⟩:zJ))=Q):=hid (by
     rw [←HQ.out, ←HA2.out, ←hA2];exact(yN Fv _ r2).symm)
    have HDA:=hid hA2;have hr2:=Ih kH.out;obtain⟨xi,q1,q2⟩:=DR.out.sl iH;have HI2:Hid (Ii w bp B w2.heap.size (.slice Ai l.length ci) xi l w2 [] r2):=hid ⟨HT2.out,kI.out,Nat.le_refl _,tN.out,q1.mono (fun g hg h=>by rcases h with h | h <;> exact⟨h,hg⟩),dG iH (fun g hg h=>by rcases h with h | h <;> exact⟨h,hg⟩) q2, _,Ry.out,fP.nil _ _ _ _ _ _⟩;clear hA2 q1 q2;go_wp2_with fail;go_loopw [26] (fun _ wr=>∃(f:Nat) (m:List oV) (r:List aF),fO f m r=A2∧r.length≤f∧m.length+r.length≤8193∧Ii w bp B w2.heap.size (.slice Ai l.length ci) xi l wr m r) (fun _ wr=>leftOf wr bp)
    case atStart=>exact⟨_,[],r2,HDA.out,Nat.le_refl _,by have:=Nt.out;simp;omega,HI2.out⟩
    case round=>
     obtain⟨f,m,r,hinv,hf,hmr,oK⟩:=hrel;have hwf:=oK.tk.wf;have hpos:=hwf.pos;obtain⟨f,rfl⟩:∃f',f=f'+1:=⟨f - 1,by omega⟩
     obtain⟨t,ht⟩:∃t,aS r=t:=⟨_,rfl⟩
     have Sy:Hid (∀b,(t.kind==0)=b→(if b then aG m else au oL fun d=>fO f (m++[d])) r=A2):=hid (fun b hb=>by rw [←hinv, ←hb, ←ht];rfl);have Uo:=hid oK.tk.left;have HF3:=hid hf;have Tw:=hid hmr;have wH:=hid oK;have XI:=hid hwf;have Wx:=oK.turn.size;have aaU:=block_lt oK.row.choose_spec.1;have Dn:=hid (jJ wr bp B r 0 oK.tk);rw [ht]at Dn;have hfk:∀w:World,(Instr.field 154 (.agg #[.int .i64 t.kind,sv t.text, .int .i64 t.line, .int .i64 t.col]) 0).run Tryz.prog w= .ok (.int .i64 t.kind) w:=fun _=>rfl;clear hinv hf hmr oK hwf ht;unfold om at Dn;go_wp2_with fail;refine(Dn.out).mono ?_;rintro e w3 ⟨rfl,hb3⟩;have t3:=Turn.of_below (F:=fun k=>k=bp) hb3;have hs3:=hb3.size;have HT3:=hid (aA wH.out.turn t3);have jG:=hid (wH.out.tk.below hb3);have iZ:=hid (ah wH.out.res t3 (by omega));have Uq:=hid (wH.out.sl.turn t3 (fun g _ h e=>by have:=h.1;omega));have Ur:=hid (bB iH t3 (fun g _ h e=>by have:=h.1;omega) wH.out.imps);obtain⟨vd,hmb,hrow⟩:=wH.out.row;obtain⟨Ad,cd,rfl,hcd,aaV⟩:=hrow.shape;have hbw2:=wH.out.bs;have Rz:=hid (ah hmb t3 (by omega));have nM:=hid (hrow.turn mR t3 (fun g hg e=>by have:=(hrow.lt g hg).1;omega) (fun g _ h e=>by omega));have Us:=hid hrow.lt;clear hb3 t3 hmb hrow;cases hk0:(t.kind==0)
     ·have hk1:(t.kind != 0)=true:=by simp only [bne,hk0,Bool.not_false]
      have Pt:Hid (au oL (fun d=>fO f (m++[d])) r=A2):=hid (Sy.out false hk0);have Ut:=yU Rz.out;have P1:=hid (fun(w':World) (h:Turn (fun j=>j=bp∨w2.heap.size≤j) w3 w')=>aJ Ut.2.1 h (by omega));have HD0:Hid (Turn (fun j=>j=bp∨w2.heap.size≤j) w3 w3.drew):=hid ⟨rfl,rfl,rfl,Nat.le_refl _,fun _ _ _=>rfl⟩;have kK:Hid (Turn (fun j=>j=bp) w3 w3.drew):=hid ⟨rfl,rfl,rfl,Nat.le_refl _,fun _ _ _=>rfl⟩;clear Ut hk0;go_wp2_with fail;refine bO (S:=fun w'=>Turn (fun j=>j=bp∨w2.heap.size≤j) w3 w') (x:=7) (by kernel_rfl) ?_
      try simp only [Act.put,sq]
      refine tx 0 (.pointer (some ⟨w.heap.size+1,1,none⟩)) HD0.out ?_;refine kJ 1 (.slice Ad m.length cd) P1.out HD0.out ?_;refine tx 2 (.pointer (some ⟨bp,0,none⟩)) HD0.out ?_;refine ay (rs:=[3]) (by kernel_rfl) (by simp) ?_;refine av.cons rfl (fun K hK=> ?_) (av.nil);go_simp;refine(LZ w3.drew bp B r jG.out).mono ?_;rintro e w4 h4;rcases hq:oL r with g | ⟨x,r4⟩
      ·obtain⟨rfl,tn,bn⟩:=h4.bG hq;have e1:Pr.bad g=A2:=(aB hq).symm.trans Pt.out;exact⟨rfl,aD.fail (by rw [←HD2.out, ←e1];rfl) (dL.mk2 (aA HT3.out (aA kK.out tn)) bn)⟩
      ·obtain⟨v4,rfl,tn,⟨z,rfl,hz⟩,kn⟩:=h4.aL hq;obtain⟨A1,n1,c1,XJ,n2,c2,k4,s4,a4,b4,o4,A3,n3,c3,A4,n4,c4,A5,n5,c5,rfl⟩:=hz.shape';have t4:=aA kK.out tn;have hs4:=t4.size;have gB:=hid t4;have DT:=hid (t4.mono (G:=fun j=>j=bp∨w2.heap.size≤j) (fun _ _ h=> .inl h));have jX:=hid kn;have uR:=hid (hz.mono (G:=fun j=>w3.heap.size≤j) (fun _ _ h=>h));have HR4:=hid (nM.out.turn mR t4 (fun g hg e=>by have:=(Us.out g hg).1;omega) (fun g _ h e=>by omega));have RA:=hid (ah Rz.out t4 (by omega));have iy:=hid (ah iZ.out t4 (by omega));have XK:=hid (Uq.out.turn t4 (fun g _ h e=>by have:=h.1;omega));have XL:=hid (bB iH t4 (fun g _ h e=>by have:=h.1;omega) Ur.out);have RB:=hid (Gp hq XI.out);have fI:Hid (fO f (m++[x]) r4=A2):=hid ((aj hq).symm.trans Pt.out);clear h4 tn hz kn hq t4;refine hK.out _ _ DT.out ?_;clear hK K
       try simp only [Act.put,sq]
       refine ay (rs:=[4]) (by kernel_rfl) (by simp) ?_;refine av.cons rfl (fun K hK=> ?_) (av.nil);go_simp;have Cv:=hid (DT.out.trans (Turn.alloc (fun j=>j=bp∨w2.heap.size≤j) w4 (.cells #[sv x.name, .bool x.exp, .slice A1 n1 c1,sv x.param, .slice XJ n2 c2, .int .i64 k4,sv s4, .int .i64 a4, .int .i64 b4, .int .i64 o4, .slice A3 n3 c3, .slice A4 n4 c4, .slice A5 n5 c5, .int .i64 x.line, .int .i64 x.col] 64)) (fun _ _ h=>h));refine hK.out _ _ Cv.out ?_;clear hK K
       try simp only [Act.put,sq]
       refine ay (rs:=[5]) (by kernel_rfl) (by simp) ?_;refine av.cons rfl (fun K hK=> ?_) (av.nil);obtain⟨ys,hy,hr⟩:=HR4.out;have hyl:ys.length=m.length*15:=by have:=hy.1;simpa using this
       refine eB rfl (.tmp 33) (.tmp 36) _ rfl w2.heap.size Un (.slice Ad m.length cd) (.slice (some ⟨w4.heap.size,0,none⟩) 1 1) rfl rfl (hy.alloc (.cells #[sv x.name, .bool x.exp, .slice A1 n1 c1,sv x.param, .slice XJ n2 c2, .int .i64 k4,sv s4, .int .i64 a4, .int .i64 b4, .int .i64 o4, .slice A3 n3 c3, .slice A4 n4 c4, .slice A5 n5 c5, .int .i64 x.line, .int .i64 x.col] 64)) (gU w4 #[sv x.name, .bool x.exp, .slice A1 n1 c1,sv x.param, .slice XJ n2 c2, .int .i64 k4,sv s4, .int .i64 a4, .int .i64 b4, .int .i64 o4, .slice A3 n3 c3, .slice A4 n4 c4, .slice A5 n5 c5, .int .i64 x.line, .int .i64 x.col] 64 15 1 rfl (by decide)) (mR.one uR.out) (by have:=Tw.out;simp [maxLen];omega) (by have:=Tw.out;simp;omega) (by simp;omega) (fun v7 w7 n7 aM iw fF=> ?_);obtain⟨A7,c7,rfl, _, _⟩:=jq aM;obtain⟨vT,AQ,t7⟩:=tT (x:=x) mR hy hr (uR.out.mono (fun g _ h=>⟨fun e=>by have:=(Us.out g e).2;omega,by omega⟩)) iw fF aM (by omega);have rX:=hy.lt;have vU:=hid vT;have jD:=hid t7;have iT:=hid (DT.out.trans (t7.mono (G:=fun j=>j=bp∨w2.heap.size≤j) (fun j _ e=> .inr (rX j e).1)) (fun _ _ h=>h));have RD:=hid rX;have jc:=ah RA.out t7 (fun e=>by have:=(rX _ e).1;omega);have RF:=hid jc;have t17:w7.cell? ⟨w.heap.size+1,1,none⟩=some (.slice Ad m.length cd):=(cell_of_row _ _ _ _ _ _ jc).trans rfl;have z17:∀i,w7.frozen? ⟨w.heap.size+1,i,none⟩=false:=fun i=>frozen_of_row _ _ _ _ _ jc;subst AQ;clear aM iw fF vT t7 hy hr jc;refine hK.out _ _ iT.out ?_;clear hK K
       try simp only [Act.put,sq]
       refine tx 6 (.pointer (some ⟨w.heap.size+1,1,none⟩)) iT.out ?_;refine ay (rs:=[7]) (by kernel_rfl) (by simp) ?_;refine av.past rfl (by kernel_rfl) (fun K hK=> ?_) (av.nil);go_simp;refine hK.out _ _ ?_;clear hK K
       try simp only [Act.put,sq]
       refine aO (by kernel_rfl) ?_ _;have tl:=ak w7 (w.heap.size+1) 1 (.slice A7 (m.length+1) c7);have rX:=RD.out;have hLS:=RB.out;have hF:=HF3.out;have hMR:=Tw.out
       have Dw:Ii w bp B w2.heap.size (.slice Ai l.length ci) xi l (w7.setCell ⟨w.heap.size+1,1,none⟩ (.slice A7 (m.length+1) c7)) (m++[x]) r4:=
        ⟨((aA HT3.out gB.out).trans jD.out (fun i hi e=>by have:=(rX i e).1;omega)).trans tl (fun i hi e=>by omega),
         (jX.out.turn jD.out (fun e=>by have:=(rX _ e).1;omega) (fun k hk e=>by have:=(rX _ e).1;omega)).turn tl (by omega) (fun k hk e=>by omega),by have:=jD.out.size;simp;omega,
         ah (ah iy.out jD.out (fun e=>by have:=(rX _ e).1;omega)) tl (by omega),
         (XK.out.turn jD.out (fun g _ h e=>by have:=(rX _ e).1;have:=h.2;omega)).turn tl (fun g _ h e=>by have:=h.1;omega),
         bB iH tl (fun g _ h e=>by have:=h.1;omega) (bB iH jD.out (fun g _ h e=>by have:=(rX _ e).1;have:=h.2;omega) XL.out),
         _,heap_setCell_same _ _ 1 _ _ _ RF.out,by
          have:=vU.out.turn mR tl (fun g hg e=>by have:=(vU.out.lt g hg).1;omega) (fun g _ h e=>by omega);simpa using this⟩
       have XM:∃(f:Nat) (m':List oV) (r:List aF),fO f m' r=A2∧r.length≤f∧m'.length+r.length≤8193∧Ii w bp B w2.heap.size (.slice Ai l.length ci) xi l (w7.setCell ⟨w.heap.size+1,1,none⟩ (.slice A7 (m.length+1) c7)) m' r:=⟨f, _,r4,fI.out,by omega,by simp;omega,Dw⟩
       go_roundw
       case rel=>(repeat apply Exists.intro);exact⟨XM,rfl⟩
       case measure=>rw [Dw.tk.left,Uo.out];omega
     ·have hk1:(t.kind != 0)=false:=by simp only [bne,hk0,Bool.not_true]
      have Pt:Hid (Pr.good m r=A2):=hid (Sy.out true hk0);have Kj:Hid (Pr.good (⟨l,m⟩:zJ) r=Q):=hid (by rw [←HD2.out, ←Pt.out];rfl);obtain⟨m0,m1,mz⟩:=yU Rz.out;obtain⟨c0,c1,cz⟩:=yU iZ.out;clear hk0;go_wp2_with fail;have tF:=(ak w3 w.heap.size 0 (.slice Ai l.length ci)).trans (ak _ w.heap.size 1 (.slice Ad m.length cd)) (fun _ _ h=>h);refine bodyPost_ret (aY rfl rfl (heap_setCell_same _ _ 1 _ _ (.slice Ad m.length cd) (heap_setCell_same _ _ 0 _ _ (.slice Ai l.length ci) iZ.out)) Tryz.underlying40 rfl (by kernel_rfl)) rfl ?_;obtain⟨xd,d1,d2⟩:=nM.out.sl mR;exact aD.done Kj.out.symm (HT3.out.trans tF (fun i hi e=>by omega)) ⟨_,rfl, _, _, _, _,rfl,(Uq.out.turn tF (fun g _ h e=>by have:=h.1;omega)).mono (fun g _ h=>by have:=h.1;omega),dG iH (fun g _ h=>by have:=h.1;omega) (bB iH tF (fun g _ h e=>by have:=h.1;omega) Ur.out),(d1.turn tF (fun g _ h e=>by rcases h with h | h <;> omega)).mono (fun g _ h=>by rcases h with h | h <;> omega),dG mR (fun g _ h=>by rcases h with h | h <;> omega) (bB mR tF (fun g _ h e=>by rcases h with h | h <;> omega) d2)⟩ (jG.out.turn tF (by omega) (fun k hk e=>by omega))
   ·have HL2:Hid (au (kW t) (fun i=>mM f (l++[i])) r2=A):=hid ((aj kH.out).symm.trans HL.out);have Uu:=yU Ry.out;have L8:=bS PU.out;have P1:=hid (fun(w':World) (h:Turn (fun j=>j=bp∨w2.heap.size≤j∨(Value.slice Ai l.length ci).ownBlock=some j) w2 w')=>aJ Uu.1 h (fun e=>by rcases e with e | e | e;omega;omega;have:=(DR.out.lt _ e).1;omega));have kK:Hid (Turn (fun j=>j=bp) w2 w2.drew):=hid ⟨rfl,rfl,rfl,Nat.le_refl _,fun _ _ _=>rfl⟩;have HD0:=hid (kK.out.mono (G:=fun j=>j=bp∨w2.heap.size≤j∨(Value.slice Ai l.length ci).ownBlock=some j) (fun _ _ h=> .inl h));have L9:¬(tb=bp∨w2.heap.size≤tb∨(Value.slice Ai l.length ci).ownBlock=some tb):=fun e=>by rcases e with e | e | e;omega;omega;exact hnt e
    have PT:=hid (fun(w':World) (h:Turn (fun j=>j=bp∨w2.heap.size≤j∨(Value.slice Ai l.length ci).ownBlock=some j) w2 w')=>(⟨aJ L8.1 h L9,aJ L8.2.1 h L9,aJ L8.2.2.1 h L9,aJ L8.2.2.2.1 h L9⟩:w'.cell? ⟨tb,0,none⟩=some (.int .i64 t.kind)∧w'.cell? ⟨tb,1,none⟩=some (sv t.text)∧w'.cell? ⟨tb,2,none⟩=some (.int .i64 t.line)∧w'.cell? ⟨tb,3,none⟩=some (.int .i64 t.col)));clear Uu L8 L9;go_wp2_with fail;refine bO (S:=fun w'=>Turn (fun j=>j=bp∨w2.heap.size≤j∨(Value.slice Ai l.length ci).ownBlock=some j) w2 w') (x:=8) (by kernel_rfl) ?_
    try simp only [Act.put,sq]
    refine tx 0 (.pointer (some ⟨w.heap.size+1,0,none⟩)) HD0.out ?_;refine kJ 1 (.slice Ai l.length ci) P1.out HD0.out ?_;refine tx 2 (.pointer (some ⟨bp,0,none⟩)) HD0.out ?_;refine kJ 3 (.agg #[.int .i64 t.kind,sv t.text, .int .i64 t.line, .int .i64 t.col]) PT.out HD0.out ?_;refine ay (rs:=[4]) (by kernel_rfl) (by simp) ?_;refine av.cons rfl (fun K hK=> ?_) (av.nil);go_simp;refine(BP w2.drew bp B r2 kI.out t).mono ?_;rintro e w4 h4;rcases hq:kW t r2 with g | ⟨x,r4⟩
    ·obtain⟨rfl,tn,bn⟩:=h4.bG hq;have e1:Pr.bad g=A:=(aB hq).symm.trans HL2.out;exact⟨rfl,aD.fail (by rw [←HQ.out, ←e1];rfl) (dL.mk2 (aA HT2.out (aA kK.out tn)) bn)⟩
    ·obtain⟨v4,rfl,tn,⟨z,rfl,hz⟩,kn⟩:=h4.aL hq;obtain⟨A1,n1,c1,rfl⟩:=hz.shape';have t4:=aA kK.out tn;have hs4:=t4.size;have gB:=hid t4;have DT:=hid (t4.mono (G:=fun j=>j=bp∨w2.heap.size≤j∨(Value.slice Ai l.length ci).ownBlock=some j) (fun _ _ h=> .inl h));have jX:=hid kn;have uR:=hid (hz.mono (G:=fun j=>w2.heap.size≤j) (fun _ _ h=>h));have HR4:=hid (DR.out.turn iH t4 (fun g hg e=>by have:=(DR.out.lt g hg).1;omega) (fun g _ h e=>by omega));have RA:=hid (ah Ry.out t4 (by omega));have iy:=hid (ah tN.out t4 (by omega));have RB:=hid (show r4.length<r.length from Nat.lt_of_le_of_lt ((Sf.import_ t).good kI.out.wf hq).2.length_le (qy kH.out zR.out.pos));have fI:Hid (mM f (l++[x]) r4=A):=hid ((aj hq).symm.trans HL2.out);have XO:=hid DR.out.lt;have RG:=hid (ah PU.out t4 (by omega));clear h4 tn hz kn hq t4;refine hK.out _ _ DT.out ?_;clear hK K
     try simp only [Act.put,sq]
     refine ay (rs:=[5]) (by kernel_rfl) (by simp) ?_;refine av.cons rfl (fun K hK=> ?_) (av.nil);go_simp;have Cv:=hid (DT.out.trans (Turn.alloc (fun j=>j=bp∨w2.heap.size≤j∨(Value.slice Ai l.length ci).ownBlock=some j) w4 (.cells #[sv x.from_, .slice A1 n1 c1, .int .i64 x.line, .int .i64 x.col] 85)) (fun _ _ h=>h));refine hK.out _ _ Cv.out ?_;clear hK K
     try simp only [Act.put,sq]
     refine ay (rs:=[6]) (by kernel_rfl) (by simp) ?_;refine av.cons rfl (fun K hK=> ?_) (av.nil);obtain⟨ys,hy,hr⟩:=HR4.out;have hyl:ys.length=l.length*4:=by have:=hy.1;simpa using this
     refine eB rfl (.tmp 18) (.tmp 22) _ rfl (w.heap.size+2) Um (.slice Ai l.length ci) (.slice (some ⟨w4.heap.size,0,none⟩) 1 1) rfl rfl (hy.alloc (.cells #[sv x.from_, .slice A1 n1 c1, .int .i64 x.line, .int .i64 x.col] 85)) (gU w4 #[sv x.from_, .slice A1 n1 c1, .int .i64 x.line, .int .i64 x.col] 85 4 1 rfl (by decide)) (iH.one uR.out) (by have:=Nt.out;simp [maxLen];omega) (by have:=Nt.out;simp;omega) (by simp;omega) (fun v7 w7 n7 aM iw fF=> ?_);obtain⟨A7,c7,rfl, _, _⟩:=jq aM;obtain⟨vT,AQ,t7⟩:=tT (x:=x) iH hy hr (uR.out.mono (fun g _ h=>⟨fun e=>by have:=(XO.out g e).2;omega,by omega⟩)) iw fF aM (by omega);have vU:=hid vT;have jD:=hid t7;have iT:=hid (DT.out.trans (t7.mono (G:=fun j=>j=bp∨w2.heap.size≤j∨(Value.slice Ai l.length ci).ownBlock=some j) (fun j _ e=> .inr (.inr e))) (fun _ _ h=>h));have RD:=hid hy.lt;have jc:=ah RA.out t7 (fun e=>by have:=(hy.lt _ e).1;omega);have RF:=hid jc;have t17:w7.cell? ⟨w.heap.size+1,0,none⟩=some (.slice Ai l.length ci):=(cell_of_row _ _ _ _ _ _ jc).trans rfl;have z17:∀i,w7.frozen? ⟨w.heap.size+1,i,none⟩=false:=fun i=>frozen_of_row _ _ _ _ _ jc;subst AQ;clear aM iw fF vT t7 hy hr jc;refine hK.out _ _ iT.out ?_;clear hK K
     try simp only [Act.put,sq]
     refine tx 7 (.pointer (some ⟨w.heap.size+1,0,none⟩)) iT.out ?_;refine ay (rs:=[8]) (by kernel_rfl) (by simp) ?_;refine av.past rfl (by kernel_rfl) (fun K hK=> ?_) (av.nil);go_simp;refine hK.out _ _ ?_;clear hK K
     try simp only [Act.put,sq]
     refine aO (by kernel_rfl) ?_ _;have rX:=RD.out;have hs7:=jD.out.size;have tl:=ak w7 (w.heap.size+1) 0 (.slice A7 (l.length+1) c7);have tk7:=ah (ah RG.out jD.out hnt) tl (by omega);have uN:(w7.setCell ⟨w.heap.size+1,0,none⟩ (.slice A7 (l.length+1) c7)).heap.size=w7.heap.size:=by simp
     have l9:=hid (((aA HT2.out gB.out).trans jD.out (fun i hi e=>by have:=(rX i e).1;omega)).trans tl (fun i hi e=>by omega));have qR:=hid ((jX.out.turn jD.out (fun e=>by have:=(rX _ e).1;omega) (fun k hk e=>by have:=(rX _ e).1;omega)).turn tl (by omega) (fun k hk e=>by omega));have jg:=hid (ah (ah iy.out jD.out (fun e=>by have:=(rX _ e).1;omega)) tl (by omega));have XP:=hid (show(w7.setCell ⟨w.heap.size+1,0,none⟩ (.slice A7 (l.length+1) c7)).heap[w.heap.size+1]? =some (.cells #[.slice A7 (l.length+1) c7, .slice none 0 0] 40 (0,0))from heap_setCell_same _ _ 0 _ _ _ RF.out);have RH:=vU.out.turn iH tl (fun g hg e=>by have:=(vU.out.lt g hg).1;omega) (fun g _ h e=>by omega);have XQ:=hid RH;have Uv:=RH.lt;have XR:=wY (w7.setCell ⟨w.heap.size+1,0,none⟩ (.slice A7 (l.length+1) c7)) (.cells #[.int .i64 t.kind,sv t.text, .int .i64 t.line, .int .i64 t.col] 154);rw [uN]at XR;have XT:=hid XR;have Vr:=hid (jJ ((w7.setCell ⟨w.heap.size+1,0,none⟩ (.slice A7 (l.length+1) c7)).alloc (.cells #[.int .i64 t.kind,sv t.text, .int .i64 t.line, .int .i64 t.col] 154)) bp B r4 0 (qR.out.below (new1 _ _)));obtain⟨k0,k1,k2,k3,kz⟩:=bS (ah RG.out jD.out hnt);have aaY:tb<w7.heap.size:=block_lt (ah RG.out jD.out hnt);have aaZ:¬tb=w.heap.size+1:=by omega
     have aa0:¬w.heap.size+1=tb:=by omega
     clear tk7 RH tl XR;unfold om at Vr;go_wp2_with fail;refine(Vr.out).mono ?_;rintro e oW ⟨rfl,wJ⟩;have Rx:=wJ.size;simp at Rx;have wJ:=wJ;have t10:Turn (fun _=>False) (w7.setCell ⟨w.heap.size+1,0,none⟩ (.slice A7 (l.length+1) c7)) oW:=(Turn.alloc _ _ _).trans (Turn.of_below (F:=fun _=>False) wJ) (fun _ _ h=>h);have hb0:=ah XT.out (Turn.of_below (F:=fun _=>False) wJ) id;obtain⟨n0,n1,n2,n3,nz⟩:=bS hb0;have tP:=dA oW w7.heap.size (.int .i64 (aS r4).kind) (sv (aS r4).text) (.int .i64 ((aS r4).line:Nat)) (.int .i64 ((aS r4).col:Nat));have t11:Turn (fun _=>False) (w7.setCell ⟨w.heap.size+1,0,none⟩ (.slice A7 (l.length+1) c7)) (cO oW w7.heap.size (.int .i64 (aS r4).kind) (sv (aS r4).text) (.int .i64 ((aS r4).line:Nat)) (.int .i64 ((aS r4).col:Nat))):=t10.trans tP (fun i hi e=>by rw [uN]at hi;omega)
     have Dw:L6 w bp B w7.heap.size (cO oW w7.heap.size (.int .i64 (aS r4).kind) (sv (aS r4).text) (.int .i64 ((aS r4).line:Nat)) (.int .i64 ((aS r4).col:Nat))) (l++[x]) r4:=
      ⟨l9.out.trans t11 (fun _ _ h=>h.elim),qR.out.turn t11 id (fun _ _=>id),ah jg.out t11 id,aU hb0 _ _ _ _,by omega, _,ah XP.out t11 id,by
       have:=XQ.out.turn iH t11 (fun _ _=>id) (fun _ _ _=>id);simpa using this,fun e=>by have:=(Uv _ e).2;rw [uN]at this;omega⟩
     have Ze:=hid Dw;have hLS:=RB.out;have hF:=HF.out;have hLR:=Nt.out;clear t10 tP t11 Dw hb0 wJ;go_wp2_with fail
     go_roundw
     case rel=>exact⟨w7.heap.size,f,l++[x],r4,rfl,fI.out,by omega,by simp;omega,Ze.out⟩
     case measure=>rw [Ze.out.tk.left,HLEN.out];omega
def yV (k:Nat) (t:aF):aF:={ t with line:=t.line+k}
mutual
def DU (k:Nat):bR→bR
 | .mk kd t n l c ts ns ks=> .mk kd t n (l+k) c ts ns (Ma k ks)
def Ma (k:Nat):List bR→List bR
 | []=>[]
 | x :: l=>DU k x :: Ma k l
end
theorem DV (k:Nat):∀l:List bR,Ma k l=l.map (DU k)
 | []=>by simp [Ma]
 | t :: l=>by simp [Ma,DV k l]
theorem mU (k:Nat) (kd:Int) (text:Bt) (n:Int) (h:aF) (types:List aZ) (names:List Bt) (kids:List bR):aK kd text n (yV k h) types names (kids.map (DU k))=DU k (aK kd text n h types names kids):=by
 unfold aK;rw [DU,DV];simp [yV]
theorem lu (k:Nat) (kd:Int) (text:Bt) (n:Int) (h:aF) (types:List aZ) (names:List Bt):aK kd text n (yV k h) types names []=DU k (aK kd text n h types names []):=mU k kd text n h types names []
def z8 (X:List aF):Prop:=∃x r,X=x :: r∧(x.kind=0∨(x.kind=5∧x.text=[41]))
theorem Mc (k:Nat) (t:aF) (s:Bt):kP (yV k t) s=kP t s:=rfl
theorem oF {E:aF} (hE:E.kind=0) (s:Bt):kP E s=false:=by unfold kP;rw [hE];rfl
theorem tX {x:aF} (h:x.kind=0∨(x.kind=5∧x.text=[41])) {s:Bt} (hs:s≠[41]):kP x s=false:=by
 rcases h with h | ⟨h,h2⟩
 ·exact oF h s
 ·unfold kP;rw [h2,beq_false_of_ne (Ne.symm hs),Bool.and_false]
section
variable {α β:Type} (k:Nat) (D:Prop) (E:aF) (X:List aF)
def aC (R:α→α→List aF→Prop) (p q:Ps α) (u:List aF):Prop:=∀a r,p (u++[E])= .good a r→
 (∃v b,r=v++[E]∧v<:+u∧q (u.map (yV k)++X)= .good b (v.map (yV k)++X)∧R a b v)∨(D∧∃l c,q (u.map (yV k)++X)= .bad (l,c,6))
end
section
variable {α β:Type} {k:Nat} {D:Prop} {E:aF} {X:List aF} {R:α→α→List aF→Prop} {S:β→β→List aF→Prop} {u:List aF}
theorem aC.ret {a b:α} (h:R a b u):aC k D E X R (aG a) (aG b) u:=by
 intro x r hx;injection hx with h1 h2;subst h1 h2;exact .inl ⟨u,b,rfl,List.suffix_refl _,rfl,h⟩
theorem aC.then_ {p q:Ps α} {f g:α→Ps β} (h:aC k D E X R p q u) (hf:∀a b v,v<:+u→R a b v→aC k D E X S (f a) (g b) v):aC k D E X S (au p f) (au q g) u:=by
 intro x r hx;unfold au at hx;rcases hp:p (u++[E])with d | ⟨a,r1⟩
 ·rw [hp]at hx;cases hx
 ·rw [hp]at hx;rcases h a r1 hp with⟨v,b,rfl,hv,hq,hR⟩ | ⟨hD,l,c,hq⟩
  ·rcases hf a b v hv hR x r hx with⟨v2,b2,e2,hv2,hq2,hS⟩ | ⟨hD,l,c,hq2⟩
   ·exact .inl ⟨v2,b2,e2,hv2.trans hv,by rw [aj hq];exact hq2,hS⟩
   ·exact .inr ⟨hD,l,c,by rw [aj hq];exact hq2⟩
  ·exact .inr ⟨hD,l,c,aB hq⟩
theorem aC.bad {p q:Ps α} (h:∀a r,p (u++[E])≠ .good a r):aC k D E X R p q u:=fun a r hx=>absurd hx (h a r)
theorem aC.fail {e:Int} {q:Ps α}:aC k D E X R (jL e) q u:= .bad fun a r h=>by cases h
theorem aC.mono {p q:Ps α} {R':α→α→List aF→Prop} (h:aC k D E X R p q u) (hR:∀a b v,R a b v→R' a b v):aC k D E X R' p q u:=fun a r hx=>by
 rcases h a r hx with⟨v,b,h1,h2,h3,h4⟩ | h
 ·exact .inl ⟨v,b,h1,h2,h3,hR _ _ _ h4⟩
 ·exact .inr h
theorem aC.fuel {p q:Nat→Ps α} (h:∀f g,u.length<f→u.length<g→aC k D E X R (p f) (q g) u) (hX:z8 X):aC k D E X R (fun ts=>p ts.length ts) (fun ts=>q ts.length ts) u:=by
 obtain⟨x,X',rfl, _⟩:=hX;have:=h (u++[E]).length (u.map (yV k)++x :: X').length (by simp) (by simp);exact this
variable (hE:E.kind=0) (hX:z8 X)
include hE hX
theorem aC.iD {l:List Bt} (hl:∀s∈l,s≠[41]):aC k D E X (fun i j v=>i=j∧((i=none∧v=u)∨(∃t n,i=some n∧u=t :: v))) (bW l) (bW l) u:=by
 obtain⟨x,X',rfl,hx⟩:=hX;intro a r h;cases u with
 | nil=>
  have h1:l.findIdx? (kP E)=none:=List.findIdx?_eq_none_iff.2 fun s _=>oF hE s;have h2:l.findIdx? (kP x)=none:=List.findIdx?_eq_none_iff.2 fun s hs=>tX hx (hl s hs);rw [List.nil_append,wU h1]at h;injection h with e1 e2;subst e1 e2;exact .inl ⟨[],none,rfl,List.suffix_refl _,wU h2 _,rfl, .inl ⟨rfl,rfl⟩⟩
 | cons t u=>
  rw [List.cons_append]at h;rcases hf:l.findIdx? (kP t)with _ | i
  ·rw [wU hf]at h;injection h with e1 e2;subst e1 e2;exact .inl ⟨t :: u,none,rfl,List.suffix_refl _,wU (t:=yV k t) hf _,rfl, .inl ⟨rfl,rfl⟩⟩
  ·rw [xZ hf]at h;injection h with e1 e2;subst e1 e2;exact .inl ⟨u,some i,rfl,List.suffix_cons _ _,xZ (t:=yV k t) hf _,rfl, .inr ⟨t,i,rfl,rfl⟩⟩
theorem aC.has {s:Bt} (hs:s≠[41]):aC k D E X (fun i j v=>i=j∧((i=false∧v=u)∨(∃t,i=true∧u=t :: v))) (dO s) (dO s) u:=by
 obtain⟨x,X',rfl,hx⟩:=hX;intro a r h;cases u with
 | nil=>
  rw [List.nil_append,uF (oF hE s)]at h;injection h with e1 e2;subst e1 e2;exact .inl ⟨[],false,rfl,List.suffix_refl _,uF (tX hx hs) _,rfl, .inl ⟨rfl,rfl⟩⟩
 | cons t u=>
  rw [List.cons_append]at h;cases hb:kP t s
  ·rw [uF hb]at h;injection h with e1 e2;subst e1 e2;exact .inl ⟨t :: u,false,rfl,List.suffix_refl _,uF (t:=yV k t) hb _,rfl, .inl ⟨rfl,rfl⟩⟩
  ·rw [qw hb]at h;injection h with e1 e2;subst e1 e2;exact .inl ⟨u,true,rfl,List.suffix_cons _ _,qw (t:=yV k t) hb _,rfl, .inr ⟨t,rfl,rfl⟩⟩
omit hX in
theorem aC.want {s:Bt}:aC k D E X (fun _ _ v=>∃t,u=t :: v) (aI s) (aI s) u:=by
 intro a r h;unfold aI at h ⊢;cases u with
 | nil=>
  rw [List.nil_append,aj (uF (oF hE s) _)]at h;cases h
 | cons t u=>
  rw [List.cons_append]at h;cases hb:kP t s
  ·rw [aj (uF hb _)]at h;cases h
  ·rw [aj (qw hb _)]at h;injection h with e1 e2;subst e2;exact .inl ⟨u,(),rfl,List.suffix_cons _ _,aj (qw (t:=yV k t) hb _),t,rfl⟩
omit hX in
theorem aC.wants:∀(l:List Bt) {u:List aF},aC k D E X (fun _ _ _=>True) (jo l) (jo l) u
 | [],u=> .ret trivial
 | s :: l,u=>(aC.want hE).then_ fun _ _ v _ _=>aC.wants l
omit hX in
theorem aC.kind {n:Int} (hn:n≠0):aC k D E X (fun a b v=>a=b∧∃t,u=t :: v∧a=t.text) (dY n) (dY n) u:=by
 intro a r h;unfold dY at h ⊢;cases u with
 | nil=>
  simp only [List.nil_append,aS,List.headD_cons]at h;rw [if_neg (by rw [hE];exact fun e=>hn e.symm)]at h;cases h
 | cons t u=>
  simp only [List.cons_append,aS,List.headD_cons,List.map_cons]at h ⊢;by_cases hk:t.kind=n
  ·rw [if_pos hk,if_neg hn]at h;injection h with e1 e2;subst e1 e2;refine .inl ⟨u,t.text,rfl,List.suffix_cons _ _, ?_,rfl,t,rfl,rfl⟩;rw [if_pos (show(yV k t).kind=n from hk),if_neg hn];rfl
  ·rw [if_neg hk]at h;cases h
omit hX in
theorem aC.name:aC k D E X (fun a b v=>a=b) nameP nameP u:=(aC.kind hE (by decide)).mono fun _ _ _ h=>h.1
omit hX hE in
theorem aC.here:aC k D E X (fun h h' v=>v=u∧∀t r,u=t :: r→h=t∧h'=yV k t) kS kS u:=by
 intro a r h;unfold kS at h ⊢;injection h with e1 e2;subst e1 e2;refine .inl ⟨u, _,rfl,List.suffix_refl _,rfl,rfl, ?_⟩;rintro t r rfl;exact⟨rfl,rfl⟩
omit hX hE in
theorem iI {v u:List aF} (h:v<:+u):v.length≤u.length:=h.length_le
theorem aC.NK {one two:Ps α} {Q:α→α→Prop} (h1:∀u,aC k D E X (fun a b _=>Q a b) one two u) (n:Nat):∀(u:List aF) (f g:Nat) (l m:List α),u.length≤n→u.length<f→u.length<g→l.length=m.length→(∀x∈l.zip m,Q x.1 x.2)→
  aC k D E X (fun a b _=>a.length=b.length∧∀x∈a.zip b,Q x.1 x.2) (qI one f l) (qI two g m) u:=by
 induction n with
 | zero=>
  intro u f g l m hn hf hg hl hz;obtain⟨f,rfl⟩:∃f',f=f'+1:=⟨f - 1,by omega⟩
  obtain⟨g,rfl⟩:∃f',g=f'+1:=⟨g - 1,by omega⟩
  refine(aC.has hE hX (by decide)).then_ fun a b v hv ⟨e,h⟩=> ?_;subst e;rcases h with⟨rfl,rfl⟩ | ⟨t,rfl,rfl⟩
  ·exact .ret ⟨hl,hz⟩
  ·simp at hn
 | succ n ih=>
  intro u f g l m hn hf hg hl hz;obtain⟨f,rfl⟩:∃f',f=f'+1:=⟨f - 1,by omega⟩
  obtain⟨g,rfl⟩:∃f',g=f'+1:=⟨g - 1,by omega⟩
  refine(aC.has hE hX (by decide)).then_ fun a b v hv ⟨e,h⟩=> ?_;subst e;rcases h with⟨rfl,rfl⟩ | ⟨t,rfl,rfl⟩
  ·exact .ret ⟨hl,hz⟩
  ·refine(h1 v).then_ fun a b v2 hv2 hab=> ?_;have:=iI hv2;simp only [List.length_cons]at hn hf hg;refine ih v2 f g _ _ (by omega) (by omega) (by omega) (by simp [hl]) ?_;rw [List.zip_append hl];intro x hx;rcases List.mem_append.1 hx with hx | hx
   ·exact hz x hx
   ·simp only [List.zip_cons_cons,List.zip_nil_right,List.mem_singleton]at hx;subst hx;exact hab
theorem aC.sep {one two:Ps α} {Q:α→α→Prop} (h1:∀u,aC k D E X (fun a b _=>Q a b) one two u):aC k D E X (fun a b _=>a.length=b.length∧∀x∈a.zip b,Q x.1 x.2) (iK one) (iK two) u:=
 (h1 u).then_ fun a b v _ hab=>aC.fuel (p:=fun n=>qI one n [a]) (q:=fun n=>qI two n [b]) (fun f g hf hg=>aC.NK hE hX h1 v.length v f g _ _ (Nat.le_refl _) hf hg rfl (by simpa using hab)) hX
omit hX hE in
theorem BQ {a b:List α} (hl:a.length=b.length) (h:∀x∈a.zip b,x.2=x.1):b=a:=by
 induction a generalizing b with
 | nil=>cases b with | nil=>rfl | cons y b=>simp at hl
 | cons x a ih=>
  cases b with
  | nil=>simp at hl
  | cons y b=>
   have h1:=h (x,y) (by simp);simp only at h1;rw [h1,ih (b:=b) (by simpa using hl) (fun z hz=>h z (by simp [hz]))]
omit hX hE in
theorem zip_map {a b:List α} {φ:α→α} (hl:a.length=b.length) (h:∀x∈a.zip b,x.2=φ x.1):b=a.map φ:=by
 induction a generalizing b with
 | nil=>cases b with | nil=>rfl | cons y b=>simp at hl
 | cons x a ih=>
  cases b with
  | nil=>simp at hl
  | cons y b=>
   have h1:=h (x,y) (by simp);simp only at h1;rw [h1,ih (b:=b) (by simpa using hl) (fun z hz=>h z (by simp [hz]))];rfl
end
section
variable {k:Nat} {D:Prop} {E:aF} {X:List aF} {u:List aF} (hE:E.kind=0) (hX:z8 X)
abbrev Uw:aZ→aZ→List aF→Prop:=fun a b _=>b=a
abbrev BR (k:Nat):bR→bR→List aF→Prop:=fun a b _=>b=DU k a
variable {typ tY:Ps aZ} (ht:∀u,aC k D E X Uw typ tY u) {expr expr' unary BS:Ps bR} (he:∀u,aC k D E X (BR k) expr expr' u) (hu:∀u,aC k D E X (BR k) unary BS u)
include hE hX ht
theorem aC.Fw:aC k D E X Uw (ig typ) (ig tY) u:=by
 refine(aC.iD hE hX (by decide)).then_ fun a b v hv ⟨e,h⟩=> ?_;subst e;rcases a with _ | n
 ·refine(aC.iD hE hX (by decide)).then_ fun a b v hv ⟨e,h⟩=> ?_;subst e;rcases a with _ | _ | n
  ·exact(aC.name hE).then_ fun a b v hv e=>by subst e;exact .ret rfl
  ·exact(ht _).then_ fun a b v hv e=>by subst e;exact(aC.want hE).then_ fun _ _ v _ _=> .ret rfl
  ·refine(aC.has hE hX (by decide)).then_ fun a b v hv ⟨e,h⟩=> ?_;subst e;cases a
   ·refine(aC.sep (Q:=fun a b=>b=a) hE hX fun u=> ?_).then_ fun a b v hv h=> ?_
    ·exact(aC.name hE).then_ fun a b v hv e=>by subst e;exact(aC.want hE).then_ fun _ _ v _ _=>(ht _).then_ fun a b v hv e=>by subst e;exact .ret rfl
    ·obtain rfl:=BQ h.1 h.2;exact(aC.want hE).then_ fun _ _ v _ _=> .ret rfl
   ·exact .ret rfl
 ·exact .ret rfl
theorem aC.alt (n:Nat):∀(u:List aF) (f g:Nat) (l:List aZ),u.length≤n→u.length<f→u.length<g→
  aC k D E X (fun a b _=>b=a) (mY typ f l) (mY tY g l) u:=by
 induction n with
 | zero=>
  intro u f g l hn hf hg;obtain⟨f,rfl⟩:∃f',f=f'+1:=⟨f - 1,by omega⟩
  obtain⟨g,rfl⟩:∃f',g=f'+1:=⟨g - 1,by omega⟩
  refine(aC.has hE hX (by decide)).then_ fun a b v hv ⟨e,h⟩=> ?_;subst e;rcases h with⟨rfl,rfl⟩ | ⟨t,rfl,rfl⟩
  ·exact .ret rfl
  ·simp at hn
 | succ n ih=>
  intro u f g l hn hf hg;obtain⟨f,rfl⟩:∃f',f=f'+1:=⟨f - 1,by omega⟩
  obtain⟨g,rfl⟩:∃f',g=f'+1:=⟨g - 1,by omega⟩
  refine(aC.has hE hX (by decide)).then_ fun a b v hv ⟨e,h⟩=> ?_;subst e;rcases h with⟨rfl,rfl⟩ | ⟨t,rfl,rfl⟩
  ·exact .ret rfl
  ·refine(aC.Fw hE hX ht).then_ fun a b v2 hv2 hab=> ?_;subst hab;have:=iI hv2;simp only [List.length_cons]at hn hf hg;exact ih v2 f g _ (by omega) (by omega) (by omega)
theorem aC.Qs:aC k D E X Uw (Bv typ) (Bv tY) u:=by
 refine(aC.Fw hE hX ht).then_ fun a b v hv e=> ?_;subst e;refine(aC.fuel (p:=fun n=>mY typ n [b]) (q:=fun n=>mY tY n [b]) (fun f g hf hg=>aC.alt hE hX ht v.length v f g _ (Nat.le_refl _) hf hg) hX).then_ fun a b v hv e=> ?_;subst e;refine(aC.has hE hX (by decide)).then_ fun a b v hv ⟨e,h⟩=> ?_;subst e;cases a
 ·exact .ret rfl
 ·exact(ht _).then_ fun a b v hv e=>by subst e;exact .ret rfl
theorem aC.note (l n:List aZ):aC k D E X (fun a b _=>b=a) (iE typ l n) (iE tY l n) u:=by
 refine(aC.has hE hX (by decide)).then_ fun a b v hv ⟨e,h⟩=> ?_;subst e;cases a
 ·exact .ret rfl
 ·exact(ht _).then_ fun a b v hv e=>by subst e;exact .ret rfl
theorem aC.head (n:List aZ):aC k D E X (fun a b _=>b=a) (kR typ n) (kR tY n) u:=by
 refine(aC.want hE).then_ fun _ _ v _ _=>(aC.name hE).then_ fun a b v hv e=> ?_;subst e;refine(aC.note hE hX ht _ _).then_ fun a b v hv e=> ?_;subst e;refine(aC.want hE).then_ fun _ _ v _ _=>(aC.note hE hX ht _ _).then_ fun a b v hv e=> ?_;subst e;exact .ret rfl
omit ht hX
include he
theorem aC.kids:∀(a:List Bt) (l:List bR) {u:List aF},aC k D E X (fun a b _=>b=a.map (DU k)) (bN expr a l) (bN expr' a (l.map (DU k))) u
 | [],l,u=> .ret rfl
 | s :: r,l,u=>by
  refine aC.then_ (R:=fun _ _ _=>True) ?_ fun _ _ v _ _=> ?_
  ·by_cases hs:s=[]
   ·rw [if_pos hs];exact .ret trivial
   ·rw [if_neg hs];exact(aC.want hE).mono fun _ _ _ _=>trivial
  ·refine(he _).then_ fun a b v hv e=> ?_;subst e;have:=aC.kids r (l++[a]) (u:=v);rwa [List.map_append]at this
omit he
include hX
theorem aC.left {sub sub':Ps bR} (hs:∀u,aC k D E X (BR k) sub sub' u) {ops:List Bt} (ho:∀s∈ops,s≠[41]) (n:Nat):∀(u:List aF) (f g:Nat) (a:bR),u.length≤n→u.length<f→u.length<g→
  aC k D E X (BR k) (lQ ops sub f a) (lQ ops sub' g (DU k a)) u:=by
 induction n with
 | zero=>
  intro u f g l hn hf hg;obtain⟨f,rfl⟩:∃f',f=f'+1:=⟨f - 1,by omega⟩
  obtain⟨g,rfl⟩:∃f',g=f'+1:=⟨g - 1,by omega⟩
  refine aC.here.then_ fun a b v hv ⟨e,h1⟩=> ?_;subst e;refine(aC.iD hE hX ho).then_ fun a b v hv ⟨e,h⟩=> ?_;subst e;rcases h with⟨rfl,rfl⟩ | ⟨t,i,rfl,rfl⟩
  ·exact .ret rfl
  ·simp at hn
 | succ n ih=>
  intro u f g l hn hf hg;obtain⟨f,rfl⟩:∃f',f=f'+1:=⟨f - 1,by omega⟩
  obtain⟨g,rfl⟩:∃f',g=f'+1:=⟨g - 1,by omega⟩
  refine aC.here.then_ fun a b v hv ⟨e,h1⟩=> ?_;subst e;refine(aC.iD hE hX ho).then_ fun a b v hv ⟨e,h⟩=> ?_;subst e;rcases h with⟨rfl,rfl⟩ | ⟨t,i,rfl,rfl⟩
  ·exact .ret rfl
  ·obtain⟨rfl,rfl⟩:=h1 t v rfl;refine(hs v).then_ fun a b v2 hv2 hab=> ?_;subst hab;have:=iI hv2;simp only [List.length_cons]at hn hf hg;exact ih v2 f g (aK 14 (ops.getD i []) 0 _ [] [] [l,a]) (by omega) (by omega) (by omega)
theorem aC.Ky {sub sub':Ps bR} (hs:∀u,aC k D E X (BR k) sub sub' u) {ops:List Bt} (ho:∀s∈ops,s≠[41]):aC k D E X (BR k) (Ar ops sub) (Ar ops sub') u:=
 (hs u).then_ fun a b v hv e=>by
  subst e;exact aC.fuel (p:=fun n=>lQ ops sub n a) (q:=fun n=>lQ ops sub' n (DU k a)) (fun f g hf hg=>aC.left hE hX hs ho v.length v f g a (Nat.le_refl _) hf hg) hX
include ht
theorem aC.cmp {sub sub':Ps bR} (hs:∀u,aC k D E X (BR k) sub sub' u):aC k D E X (BR k) (IW typ sub) (IW tY sub') u:=by
 refine(hs u).then_ fun x b v hv e=> ?_;subst e;refine aC.here.then_ fun a b v hv ⟨e,h1⟩=> ?_;subst e;refine(aC.iD hE hX (by decide)).then_ fun a b v hv ⟨e,h⟩=> ?_;subst e;rcases h with⟨rfl,rfl⟩ | ⟨t,i,rfl,rfl⟩
 ·exact .ret rfl
 ·obtain⟨rfl,rfl⟩:=h1 t v rfl;simp only;by_cases h3:i=3
  ·rw [if_pos h3,if_pos h3];refine(aC.iD hE hX (by decide)).then_ fun a b v hv ⟨e,h⟩=> ?_;subst e;rcases a with _ | n
   ·exact aC.fail
   ·exact .ret rfl
  ·rw [if_neg h3,if_neg h3];by_cases h4:i=4
   ·rw [if_pos h4,if_pos h4];exact(ht _).then_ fun a b v hv e=>by subst e;exact .ret rfl
   ·rw [if_neg h4,if_neg h4];exact(hs _).then_ fun a b v hv e=>by subst e;exact .ret rfl
include hu
theorem aC.rank:∀(f:Nat) {u:List aF},f≤6→aC k D E X (BR k) (jI typ unary f) (jI tY BS f) u
 | 0,u, _=>hu u
 | f+1,u,hf=>by
  unfold jI;by_cases h3:f=3
  ·rw [if_pos h3,if_pos h3];exact aC.cmp hE hX ht fun u=>aC.rank f (by omega)
  ·rw [if_neg h3,if_neg h3];refine aC.Ky hE hX (fun u=>aC.rank f (by omega)) ?_;have:f=0∨f=1∨f=2∨f=4∨f=5:=by omega
   rcases this with rfl | rfl | rfl | rfl | rfl <;> decide
include he
theorem aC.Kz:aC k D E X (BR k) (Au typ expr unary) (Au tY expr' BS) u:=by
 refine aC.here.then_ fun a b v hv ⟨e,h1⟩=> ?_;subst e;refine(aC.iD hE hX (by decide)).then_ fun a b v hv ⟨e,h⟩=> ?_;subst e;rcases h with⟨rfl,rfl⟩ | ⟨t,i,rfl,rfl⟩
 ·exact aC.rank hE hX ht hu 6 (Nat.le_refl _)
 ·obtain⟨rfl,rfl⟩:=h1 t v rfl;rcases i with _ | _ | i
  ·refine(aC.name hE).then_ fun a b v hv e=> ?_;subst e;refine(aC.note hE hX ht _ _).then_ fun a b v hv e=> ?_;subst e;exact(aC.kids hE he _ []).then_ fun a b v hv e=>by subst e;exact .ret (mU ..)
  ·exact(aC.kids hE he _ []).then_ fun a b v hv e=>by subst e;exact .ret (mU ..)
  ·refine(aC.head hE hX ht _).then_ fun a b v hv e=> ?_;subst e;exact(aC.kids hE he _ []).then_ fun a b v hv e=>by subst e;exact .ret (mU ..)
omit hu ht hX
theorem aC.Bz:aC k D E X (fun a b _=>b=(a.1,DU k a.2)) (jh expr) (jh expr') u:=by
 refine(aC.name hE).then_ fun a b v hv e=> ?_;subst e;refine(aC.want hE).then_ fun _ _ v _ _=>(he _).then_ fun a b v hv e=> ?_;subst e;exact .ret rfl
include hX
theorem aC.zP (t:aF):aC k D E X (BR k) (uG expr t) (uG expr' (yV k t)) u:=by
 have XU:=hX;obtain⟨x,X',rfl,hx⟩:=XU;refine aC.then_ (R:=fun a b v=>a=b∧v=u) ?_ fun a b v hv ⟨e,h⟩=> ?_
 ·intro a r h;unfold kT at h ⊢;injection h with e1 e2;subst e1 e2;refine .inl ⟨u, _,rfl,List.suffix_refl _,rfl, ?_,rfl⟩;cases u with
  | nil=>simp [aS,oF hE,tX hx (s:=[125]) (by decide)]
  | cons t u=>simp [aS,Mc]
 ·subst e h;cases a
  ·rw [if_neg Bool.false_ne_true,if_neg Bool.false_ne_true];refine aC.then_ (R:=fun a b w=>a=b∧w=v) ?_ fun a b v hv ⟨e,h⟩=> ?_
   ·intro a r h;unfold kT at h ⊢;injection h with e1 e2;subst e1 e2;refine .inl ⟨v, _,rfl,List.suffix_refl _,rfl, ?_,rfl⟩;rcases v with _ | ⟨t, _ | ⟨t2,v⟩⟩
    ·have hk:(x.kind==1)=false:=by rcases hx with hx | hx <;> simp [hx]
     simp [aS,hE,hk]
    ·simp [aS,oF hE,tX hx (s:=[58]) (by decide)]
    ·simp [aS,Mc];rfl
   ·subst e h;cases a
    ·rw [if_neg Bool.false_ne_true,if_neg Bool.false_ne_true];refine(aC.kids hE he _ []).then_ fun m b v hv e=> ?_;subst e;refine(aC.want hE).then_ fun _ _ v _ _=>(aC.name hE).then_ fun a b v hv e=> ?_;subst e;exact(aC.kids hE he _ m).then_ fun a b v hv e=>by subst e;exact .ret (mU ..)
    ·rw [if_pos rfl,if_pos rfl];refine(aC.sep (Q:=fun a b=>b=(a.1,DU k a.2)) hE hX fun u=>aC.Bz hE he).then_ fun a b v hv h=> ?_;obtain rfl:=zip_map (φ:=fun a:Bt ×bR=>(a.1,DU k a.2)) h.1 h.2;exact .ret (by have:=mU k 8 [] 0 t [] (a.map (·.1)) (a.map (·.2));simpa [Function.comp_def]using this)
  ·exact .ret (lu ..)
omit he
include ht
theorem aC.named {h h':aF} (hh:∀t r,u=t :: r→h=t∧h'=yV k t):aC k D E X (BR k) (lS typ h) (lS tY h') u:=by
 refine(aC.kind hE (by decide)).then_ fun a b v hv ⟨e,t,hu, _⟩=> ?_;subst e;obtain⟨rfl,rfl⟩:=hh t v hu;refine(aC.has hE hX (by decide)).then_ fun a b v hv ⟨e,h⟩=> ?_;subst e;cases a
 ·exact .ret (lu ..)
 ·refine(aC.sep (Q:=fun a b=>b=a) hE hX fun u=>ht u).then_ fun a b v hv h=> ?_;obtain rfl:=BQ h.1 h.2;exact(aC.want hE).then_ fun _ _ v _ _=> .ret (lu ..)
include he
theorem aC.atom:aC k D E X (BR k) (sO typ expr) (sO tY expr') u:=by
 have XU:=hX;obtain⟨x,X',rfl,hx⟩:=XU;have hxk:∀n:Int,n=3∨n=4→x.kind≠n:=by
  intro n hn h;rcases hx with h1 | ⟨h1, _⟩ <;> omega
 refine aC.then_ (R:=fun h h' v=>v=u∧(∀t r,u=t :: r→h=t∧h'=yV k t)∧(u=[]→h=E∧h'=x)) ?_ fun h h' v hv ⟨e,hh,hn⟩=> ?_
 ·intro a r h;unfold kS at h ⊢;injection h with e1 e2;subst e1 e2;refine .inl ⟨u, _,rfl,List.suffix_refl _,rfl,rfl, ?_, ?_⟩
  ·rintro t r rfl;exact⟨rfl,rfl⟩
  ·rintro rfl;exact⟨rfl,rfl⟩
 ·subst e;have hk:(h.kind=3↔h'.kind=3)∧(h.kind=4↔h'.kind=4):=by
   cases v with
   | nil=>
    obtain⟨rfl,rfl⟩:=hn rfl;have h3:=hxk 3 (.inl rfl);have h4:=hxk 4 (.inr rfl);rw [hE];exact⟨⟨fun h=>(by cases h),fun h=>absurd h h3⟩,⟨fun h=>(by cases h),fun h=>absurd h h4⟩⟩
   | cons t r=>
    obtain⟨rfl,rfl⟩:=hh t r rfl;exact⟨Iff.rfl,Iff.rfl⟩
  by_cases h3:h.kind=3
  ·rw [if_pos h3,if_pos (hk.1.1 h3)];refine(aC.kind hE (by decide)).then_ fun a b w hv ⟨e,t,hu, _⟩=> ?_;subst e;obtain⟨rfl,rfl⟩:=hh t w hu;exact .ret (lu ..)
  ·rw [if_neg h3,if_neg (fun h=>h3 (hk.1.2 h))];by_cases h4:h.kind=4
   ·rw [if_pos h4,if_pos (hk.2.1 h4)];refine(aC.kind hE (by decide)).then_ fun a b w hv ⟨e,t,hu, _⟩=> ?_;subst e;obtain⟨rfl,rfl⟩:=hh t w hu;exact .ret (lu ..)
   ·rw [if_neg h4,if_neg (fun h=>h4 (hk.2.2 h))];refine(aC.iD hE hX (by decide)).then_ fun a b w hv ⟨e,h1⟩=> ?_;subst e;rcases h1 with⟨rfl,rfl⟩ | ⟨t,i,rfl,rfl⟩
    ·exact aC.named hE hX ht hh
    ·obtain⟨rfl,rfl⟩:=hh t w rfl;rcases i with _ | _ | _ | _ | _ | _ | i
     ·exact .ret (lu ..)
     ·exact .ret (lu ..)
     ·exact .ret (lu ..)
     ·exact(aC.wants hE _).then_ fun _ _ v _ _=> .ret (lu ..)
     ·exact(aC.kids hE he _ []).then_ fun a b v hv e=>by subst e;exact(aC.want hE).then_ fun _ _ v _ _=> .ret (mU ..)
     ·exact(he _).then_ fun a b v hv e=>by subst e;exact(aC.want hE).then_ fun _ _ v _ _=> .ret rfl
     ·exact(aC.zP hE hX he _).then_ fun a b v hv e=>by subst e;exact(aC.want hE).then_ fun _ _ v _ _=> .ret rfl
omit ht
theorem aC.CJ (n:Nat):∀(u:List aF) (f g:Nat) (a:bR),u.length≤n→u.length<f→u.length<g→
  aC k D E X (BR k) (jB expr f a) (jB expr' g (DU k a)) u:=by
 induction n with
 | zero=>
  intro u f g l hn hf hg;obtain⟨f,rfl⟩:∃f',f=f'+1:=⟨f - 1,by omega⟩
  obtain⟨g,rfl⟩:∃f',g=f'+1:=⟨g - 1,by omega⟩
  refine aC.here.then_ fun a b v hv ⟨e,h1⟩=> ?_;subst e;refine(aC.iD hE hX (by decide)).then_ fun a b v hv ⟨e,h⟩=> ?_;subst e;rcases h with⟨rfl,rfl⟩ | ⟨t,i,rfl,rfl⟩
  ·exact .ret rfl
  ·simp at hn
 | succ n ih=>
  intro u f g l hn hf hg;obtain⟨f,rfl⟩:∃f',f=f'+1:=⟨f - 1,by omega⟩
  obtain⟨g,rfl⟩:∃f',g=f'+1:=⟨g - 1,by omega⟩
  refine aC.here.then_ fun a b v hv ⟨e,h1⟩=> ?_;subst e;refine(aC.iD hE hX (by decide)).then_ fun a b v hv ⟨e,h⟩=> ?_;subst e;rcases h with⟨rfl,rfl⟩ | ⟨t,i,rfl,rfl⟩
  ·exact .ret rfl
  ·obtain⟨rfl,rfl⟩:=h1 t v rfl;simp only [List.length_cons]at hn hf hg;rcases i with _ | i
   ·refine(aC.kids hE he _ [l]).then_ fun a b v1 hv1 e=> ?_;subst e;refine(aC.want hE).then_ fun _ _ v2 hv2 _=> ?_;have:=iI hv2;have:=iI hv1;have h:=fun x:aF=>ih v2 f g (aK 7 [] 0 x [] [] a) (by omega) (by omega) (by omega);simp only [←mU]at h;exact h _
   ·refine(aC.name hE).then_ fun a b v2 hv2 e=> ?_;subst e;have:=iI hv2;exact ih v2 f g (aK 9 a 0 _ [] [] [l]) (by omega) (by omega) (by omega)
include ht
theorem aC.post:aC k D E X (BR k) (qO typ expr) (qO tY expr') u:=
 (aC.atom hE hX ht he).then_ fun a b v hv e=>by
  subst e;exact aC.fuel (p:=fun n=>jB expr n a) (q:=fun n=>jB expr' n (DU k a)) (fun f g hf hg=>aC.CJ hE hX he v.length v f g a (Nat.le_refl _) hf hg) hX
include hu
theorem aC.Fx:aC k D E X (BR k) (uH typ expr unary) (uH tY expr' BS) u:=by
 refine aC.here.then_ fun a b v hv ⟨e,h1⟩=> ?_;subst e;refine(aC.iD hE hX (by decide)).then_ fun a b v hv ⟨e,h⟩=> ?_;subst e;rcases h with⟨rfl,rfl⟩ | ⟨t,i,rfl,rfl⟩
 ·exact aC.post hE hX ht he
 ·obtain⟨rfl,rfl⟩:=h1 t v rfl;rcases i with _ | i
  ·exact(hu _).then_ fun a b v hv e=>by subst e;exact .ret rfl
  ·exact(hu _).then_ fun a b v hv e=>by subst e;exact .ret rfl
end
theorem aC.Kc {k:Nat} {E:aF} {X:List aF} (hE:E.kind=0) (hX:z8 X):∀(m n:Nat),m≤n→
  (∀u,aC k (m<n) E X Uw (bJ n).typ (bJ m).typ u)∧(∀u,aC k (m<n) E X (BR k) (bJ n).expr (bJ m).expr u)∧(∀u,aC k (m<n) E X (BR k) (bJ n).unary (bJ m).unary u)
 | 0,0, _=>⟨fun u=>aC.fail,fun u=>aC.fail,fun u=>aC.fail⟩
 | 0,n+1, _=>⟨fun u a r h=> .inr ⟨by omega, _, _,rfl⟩,fun u a r h=> .inr ⟨by omega, _, _,rfl⟩,fun u a r h=> .inr ⟨by omega, _, _,rfl⟩⟩
 | m+1,0,h=>absurd h (by omega)
 | m+1,n+1,h=>by
  have h1:=aC.Kc (k:=k) hE hX m n (by omega);have e:(m+1<n+1)=(m<n):=by simp
  rw [e];obtain⟨h1,h2,h3⟩:=h1;exact⟨fun u=>aC.Qs hE hX h1,fun u=>aC.Kz hE hX h1 h2 h3,fun u=>aC.Fx hE hX h1 h2 h3⟩
theorem JC {t:Bt} {kd:Int} (h:Bq kd t):kd≠0∧(kd=2→t≠[58]):=by
 obtain⟨h1, _,h2, _⟩:=h;refine⟨by omega,fun e=> ?_⟩;have:=h2 e;rintro rfl;exact absurd this (by decide)
theorem AX:∀(f:Nat) (s:Bt) (p:Nat ×Nat) (out:List aF),(kL f s p out).2.2.2=0→(kL f s p out).2=(0,0,0)
 | 0,s,p,out,h=>rfl
 | f+1,s,p,out,h=>by
  rw [kL]at h ⊢;by_cases hnil:s.drop (aV s)=[]
  ·rw [if_pos hnil]
  ·rw [if_neg hnil]at h ⊢;cases hn:dQ (s.drop (aV s))with
   | inl e=>
    rw [hn]at h;exact absurd h (uD hn)
   | inr x=>
    obtain⟨kd,t,n⟩:=x;rw [hn]at h;simp only at h ⊢;by_cases h8:out.length=8192
    ·rw [if_pos h8]at h;exact absurd (show(19:Int)=0 from h) (by decide)
    ·rw [if_neg h8]at h ⊢;exact AX f _ _ _ h
theorem xE {s:Bt} (h:(fZ s).2.2.2=0):(fZ s).2=(0,0,0):=by
 by_cases hs:65536<s.length
 ·unfold fZ at h;rw [if_pos hs]at h;exact absurd (show(2:Int)=0 from h) (by decide)
 ·rw [xW s (by omega)]at h ⊢;exact AX _ _ _ _ h
theorem Oo {s:Bt} {l:List aF} (h:fZ s=(l,(0,0,0))):∃m e,l=m++[e]∧e.kind=0∧(∀t∈m,Bq t.kind t.text)∧m.length≤s.length∧Wf l:=by
 by_cases hs:65536<s.length
 ·unfold fZ at h;rw [if_pos hs]at h;cases h
 ·rw [xW s (by omega)]at h;obtain⟨m,e,h1,h2, _,h3,h4, _⟩:=Ag _ s (1,1) [] (Nat.lt_succ_self _) (by rw [h]);rw [h]at h1;injection h1 with h1 _;rw [List.nil_append]at h1;exact⟨m,e,h1,h2,h4,h3,m,e,h1,h2,fun t ht=>JC (h4 t ht)⟩
def bR.line:bR→Int | .mk _ _ _ l _ _ _ _=>l
def bR.col:bR→Int | .mk _ _ _ _ c _ _ _=>c
theorem JD {α:Type} {p:Ps α} {s:Bt} {m:List aF} {e:aF} {a:α} (hl:fZ s=(m++[e],(0,0,0))) (he:e.kind=0) (h:p (m++[e])= .good a [e]):bH p s=(some a,(0,0,0)):=by
 unfold bH;rw [hl,if_pos rfl,aj h,aj (a:=e.text) (r:=[e]) (by unfold dY;rw [if_pos (show(aS [e]).kind=0 from he),if_pos rfl];rfl)];rfl
def Sz (k:Nat) (i:rD):rD:={ i with line:=i.line+k}
def Oq (k:Nat) (d:oV):oV:={ d with line:=d.line+k,body:=DU k d.body}
def Zf (k:Nat) (m:zJ):zJ:=⟨m.imps.map (Sz k),m.decls.map (Oq k)⟩
section
variable {k:Nat} {E x:aF} (hE:E.kind=0) (hx:x.kind=0) {u:List aF}
include hE hx
theorem aC.RI:(∀u,aC k False E [x] Uw (bJ 100).typ (bJ 100).typ u)∧(∀u,aC k False E [x] (BR k) (bJ 100).expr (bJ 100).expr u):=by
 have h:=aC.Kc (k:=k) hE ⟨x,[],rfl, .inl hx⟩ 100 100 (Nat.le_refl _);have e:(100<100)=False:=by simp
 rw [e]at h;exact⟨h.1,h.2.1⟩
theorem aC.var:aC k False E [x] (fun a b _=>b=a) x9 x9 u:=by
 have hX:z8 [x]:=⟨x,[],rfl, .inl hx⟩
 refine(aC.name hE).then_ fun a b v hv e=> ?_;subst e;refine(aC.has hE hX (by decide)).then_ fun c b v hv ⟨e,h⟩=> ?_;subst e;cases c
 ·exact .ret rfl
 ·exact((aC.RI hE hx).1 _).then_ fun a b v hv e=>by subst e;exact .ret rfl
theorem aC.vars:aC k False E [x] (fun a b _=>b=a) pG pG u:=by
 have hX:z8 [x]:=⟨x,[],rfl, .inl hx⟩
 refine(aC.has hE hX (by decide)).then_ fun c b v hv ⟨e,h⟩=> ?_;subst e;cases c
 ·exact .ret rfl
 ·refine(aC.sep (Q:=fun a b=>b=a) hE hX fun u=>aC.var hE hx).then_ fun a b v hv h=> ?_;obtain rfl:=BQ h.1 h.2;exact(aC.want hE).then_ fun _ _ v _ _=> .ret rfl
theorem aC.import_ (t:aF):aC k False E [x] (fun a b _=>b=Sz k a) (kW t) (kW (yV k t)) u:=by
 have hX:z8 [x]:=⟨x,[],rfl, .inl hx⟩
 refine(aC.name hE).then_ fun a b v hv e=> ?_;subst e;refine(aC.want hE).then_ fun _ _ v _ _=>(aC.sep (Q:=fun a b=>b=a) hE hX fun u=>(aC.name hE).mono fun _ _ _ e=>e.symm).then_ fun a b v hv h=> ?_;obtain rfl:=BQ h.1 h.2;exact(aC.want hE).then_ fun _ _ v _ _=> .ret (by simp [Sz,yV])
theorem aC.decl:aC k False E [x] (fun a b v=>b=Oq k a∧v.length<u.length) oL oL u:=by
 have hX:z8 [x]:=⟨x,[],rfl, .inl hx⟩
 refine(aC.has hE hX (by decide)).then_ fun c b v0 hv0 ⟨e, _⟩=> ?_;subst e;refine aC.here.then_ fun h h' v hv ⟨e,h1⟩=> ?_;subst e;refine(aC.want hE).then_ fun _ _ v1 _ ⟨t,ht⟩=> ?_;obtain⟨rfl,rfl⟩:=h1 _ _ ht;have hlt:v1.length<u.length:=by have:=iI hv0;rw [ht]at this;simp at this;omega
 refine(aC.name hE).then_ fun a b v2 hv2 e=> ?_;subst e;refine(aC.vars hE hx).then_ fun a b v3 hv3 e=> ?_;subst e;refine(aC.head hE hX (aC.RI hE hx).1 _).then_ fun a b v4 hv4 e=> ?_;subst e;refine(aC.want hE).then_ fun _ _ v5 hv5 _=>((aC.RI hE hx).2 _).then_ fun a b v6 hv6 e=> ?_;subst e;refine(aC.want hE).then_ fun _ _ v7 hv7 _=> .ret ⟨by simp [Oq,yV], ?_⟩;have:=iI hv2;have:=iI hv3;have:=iI hv4;have:=iI hv5;have:=iI hv6;have:=iI hv7;omega
theorem aC.imps (n:Nat):∀(u:List aF) (f g:Nat) (l:List rD),u.length≤n→u.length<f→u.length<g→
  aC k False E [x] (fun a b _=>b=a.map (Sz k)) (mM f l) (mM g (l.map (Sz k))) u:=by
 have hX:z8 [x]:=⟨x,[],rfl, .inl hx⟩
 induction n with
 | zero=>
  intro u f g l hn hf hg;obtain⟨f,rfl⟩:∃f',f=f'+1:=⟨f - 1,by omega⟩
  obtain⟨g,rfl⟩:∃f',g=f'+1:=⟨g - 1,by omega⟩
  refine aC.here.then_ fun a b v hv ⟨e,h1⟩=> ?_;subst e;refine(aC.has hE hX (by decide)).then_ fun a b v hv ⟨e,h⟩=> ?_;subst e;rcases h with⟨rfl,rfl⟩ | ⟨t,rfl,rfl⟩
  ·exact .ret rfl
  ·simp at hn
 | succ n ih=>
  intro u f g l hn hf hg;obtain⟨f,rfl⟩:∃f',f=f'+1:=⟨f - 1,by omega⟩
  obtain⟨g,rfl⟩:∃f',g=f'+1:=⟨g - 1,by omega⟩
  refine aC.here.then_ fun a b v hv ⟨e,h1⟩=> ?_;subst e;refine(aC.has hE hX (by decide)).then_ fun a b v hv ⟨e,h⟩=> ?_;subst e;rcases h with⟨rfl,rfl⟩ | ⟨t,rfl,rfl⟩
  ·exact .ret rfl
  ·obtain⟨rfl,rfl⟩:=h1 t v rfl;refine(aC.import_ hE hx _).then_ fun a b v2 hv2 hab=> ?_;subst hab;have:=iI hv2;simp only [List.length_cons]at hn hf hg;have h:=ih v2 f g (l++[a]) (by omega) (by omega) (by omega);rwa [List.map_append]at h
theorem aC.decls (n:Nat):∀(u:List aF) (f g:Nat) (l:List oV),Wf (u++[E])→u.length≤n→u.length<f→u.length<g→
  aC k False E [x] (fun a b _=>b=a.map (Oq k)) (fO f l) (fO g (l.map (Oq k))) u:=by
 induction n with
 | zero=>
  intro u f g l hw hn hf hg;obtain⟨f,rfl⟩:∃f',f=f'+1:=⟨f - 1,by omega⟩
  obtain⟨g,rfl⟩:∃f',g=f'+1:=⟨g - 1,by omega⟩
  obtain rfl:u=[]:=List.eq_nil_of_length_eq_zero (by omega);have e1:fO (f+1) l [E]= .good l [E]:=by unfold fO;rw [aj (show kT (fun t _=>t.kind==0) [E]= .good (E.kind==0) [E]from rfl),hE];rfl
  have e2:fO (g+1) (l.map (Oq k)) [x]= .good (l.map (Oq k)) [x]:=by unfold fO;rw [aj (show kT (fun t _=>t.kind==0) [x]= .good (x.kind==0) [x]from rfl),hx];rfl
  intro a r h;rw [List.nil_append,e1]at h;injection h with h1 h2;subst h1 h2;exact .inl ⟨[], _,rfl,List.suffix_refl _,e2,rfl⟩
 | succ n ih=>
  intro u f g l hw hn hf hg;obtain⟨f,rfl⟩:∃f',f=f'+1:=⟨f - 1,by omega⟩
  obtain⟨g,rfl⟩:∃f',g=f'+1:=⟨g - 1,by omega⟩
  cases u with
  | nil=>
   have e1:fO (f+1) l [E]= .good l [E]:=by unfold fO;rw [aj (show kT (fun t _=>t.kind==0) [E]= .good (E.kind==0) [E]from rfl),hE];rfl
   have e2:fO (g+1) (l.map (Oq k)) [x]= .good (l.map (Oq k)) [x]:=by unfold fO;rw [aj (show kT (fun t _=>t.kind==0) [x]= .good (x.kind==0) [x]from rfl),hx];rfl
   intro a r h;rw [List.nil_append,e1]at h;injection h with h1 h2;subst h1 h2;exact .inl ⟨[], _,rfl,List.suffix_refl _,e2,rfl⟩
  | cons t u=>
   have ht:t.kind≠0:=by
    rcases hw.cases with⟨e,he, _⟩ | ⟨t',r,he,h1, _⟩
    ·simp at he
    ·injection he with he _;rw [he];exact h1
   intro a r h;unfold fO at h ⊢;rw [aj (show kT (fun t _=>t.kind==0) (t :: u++[E])= .good (t.kind==0) (t :: u++[E])from rfl),beq_false_of_ne ht]at h;rw [aj (show kT (fun t _=>t.kind==0) ((t :: u).map (yV k)++[x])= .good (t.kind==0) ((t :: u).map (yV k)++[x])from rfl),beq_false_of_ne ht];simp only [Bool.false_eq_true,if_false]at h ⊢;rcases hp:oL (t :: u++[E])with d | ⟨d,r1⟩
   ·rw [aB hp]at h;cases h
   ·obtain⟨hr1, _⟩:=Sf.decl.good hw hp;rw [aj hp]at h;rcases aC.decl (k:=k) hE hx (u:=t :: u) d r1 hp with⟨v,b,rfl,hv,hq,rfl,hlt⟩ | ⟨hD, _⟩
    ·have:=ih v f g (l++[d]) hr1 (by simp only [List.length_cons]at*;omega) (by simp only [List.length_cons]at*;omega) (by simp only [List.length_cons]at*;omega);rcases this a r h with⟨v2,b2,e1,e2,e3,e4⟩ | ⟨hD, _⟩
     ·refine .inl ⟨v2,b2,e1,e2.trans hv, ?_,e4⟩;rw [aj hq];rw [List.map_append]at e3;exact e3
     ·exact hD.elim
    ·exact hD.elim
theorem aC.module (hw:Wf (u++[E])):aC k False E [x] (fun a b _=>b=Zf k a) dJ dJ u:=by
 have hX:z8 [x]:=⟨x,[],rfl, .inl hx⟩
 intro a r h;unfold dJ at h ⊢;rcases hp:GZ (u++[E])with d | ⟨i,r1⟩
 ·rw [aB hp]at h;cases h
 ·obtain⟨hr1, _⟩:=(Sf.fuel (p:=fun ts=>mM ts.length []) fun ts=>Sf.imps _ _).good hw hp;rw [aj hp]at h;rcases(aC.fuel (p:=fun n=>mM n []) (q:=fun n=>mM n []) (fun f g hf hg=>aC.imps (k:=k) hE hx u.length u f g [] (Nat.le_refl _) hf hg) hX) i r1 hp with⟨v,b,rfl,hv,hq,rfl⟩ | ⟨hD, _⟩
  ·have h3:=(aC.fuel (p:=fun n=>fO n []) (q:=fun n=>fO n []) (fun f g hf hg=>aC.decls (k:=k) hE hx v.length v f g [] hr1 (Nat.le_refl _) hf hg) hX).then_ (f:=fun d=>aG (zJ.mk i d)) (g:=fun d=>aG (zJ.mk (i.map (Sz k)) d)) (S:=fun a b _=>b=Zf k a) (fun a b w hw e=>by subst e;exact .ret rfl);rcases h3 a r h with⟨v2,b2,e1,e2,e3,e4⟩ | ⟨hD, _⟩
   ·refine .inl ⟨v2,b2,e1,e2.trans hv, ?_,e4⟩;rw [aj (show GZ _= _ from hq)];exact e3
   ·exact hD.elim
  ·exact hD.elim
end
theorem DW:∀(f:Nat) (s:Bt) (p:Nat ×Nat) (out:List aF),out.length≤8192→(kL f s p out).1.length≤8193
 | 0,s,p,out,h=>by simp [kL]
 | f+1,s,p,out,h=>by
  rw [kL];split
  ·simp;omega
  ·split
   ·simp
   ·split
    ·simp
    ·rename_i h8
     exact DW f _ _ _ (by simp;omega)
theorem Md (s:Bt):(fZ s).1.length≤8193:=by
 unfold fZ;split
 ·simp
 ·exact DW _ _ _ _ (by simp)
end Go.Proofs.YtfgjkmipfikooaaGreatDoor
