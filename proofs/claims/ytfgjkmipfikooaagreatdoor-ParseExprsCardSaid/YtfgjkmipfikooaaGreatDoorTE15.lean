/- HZ, IA, WHP -/
import Derived.Test.YtfgjkmipfikooaaGreatDoorTE13
import Derived.Test.YtfgjkmipfikooaaGreatDoorTE03
set_option linter.unusedSimpArgs false
set_option linter.unusedVariables false
set_option maxRecDepth 100000
set_option maxHeartbeats 8000000
namespace Go.Proofs.YtfgjkmipfikooaaGreatDoor
open Go.RowKit
theorem Ze {expr:Ps bI}{q:Pr Unit}{f:Nat}{a:bI}{R:Pr bI}(h1:yc q [40])(h2:yc q [46])(hq:aA q (gJ expr f a)=R):aA q (aF a)=R:=by
 cases f with
 |zero=>exact hq
 |succ f=>
  rw [<-hq];cases q with
  |bad g=>rfl
  |good u ts=>
   have h:=ze (l:=[[40],[46]]) (EA h1 h2) (f:=fun i=>match i with
    |none=>aF a
    |some 0=>aj (bH expr [[]] [a]) fun k=>aj (aH [41]) fun _=>gJ expr f (aK 7 [] 0 (aS ts) [] [] k)
    |some _=>aj nameP fun s=>gJ expr f (aK 9 s 0 (aS ts) [] [] [a]))
   exact h.symm
theorem Qi {expr:Ps bI}{t:aI}{r:List aI}{f:Nat}{a:bI}{R:Pr bI}(h:jA t [40]=true)(hq:aA (.good () (t :: r)) (gJ expr (f+1) a)=R):
  aA (.good () r) (aj expr fun x=>aj (aH [41]) fun _=>gJ expr f (aK 7 [] 0 t [] [] [a,x]))=R:=by
 have h2:=uR (t:=t) (show aA (.good () (t :: r)) (aj jM _)=R from hq) (fun u ts e=>by injection e with _ e;subst e;rfl);have h3:=eT (l:=[[40],[46]]) (i:=0) h rfl h2;rw [<-h3];show _=aA (.good () r) (aj (bH expr [[]] [a]) fun k=>aj (aH [41]) fun _=>gJ expr f (aK 7 [] 0 t [] [] k));simp only [bH,if_true,jh,kV];rfl
theorem UZ {expr:Ps bI}{t:aI}{r:List aI}{f:Nat}{a:bI}{R:Pr bI}(h:jA t [46]=true)(hq:aA (.good () (t :: r)) (gJ expr (f+1) a)=R):
  aA (.good () r) (aj nameP fun s=>gJ expr f (aK 9 s 0 t [] [] [a]))=R:=by
 have h2:=uR (t:=t) (show aA (.good () (t :: r)) (aj jM _)=R from hq) (fun u ts e=>by injection e with _ e;subst e;rfl);exact eT (l:=[[40],[46]]) (i:=1) h rfl h2
theorem U0 (d:Int)(typ:Ps bS)(expr:Ps bI)(hse:Sf expr)(sJ:REx d expr)(HAT:RC 226 En d (qU typ expr)):ad6 d (oO typ expr):=by
 intro w bp B L q h;have hlt:=h.lt;have hB:=h.1;have H0:=aZ h;obtain⟨Q,hQ⟩:∃Q,aA q (oO typ expr)=Q:=⟨_,rfl⟩
 rw [hQ];have vw:bN (aA q (aj (qU typ expr) fun a=>aj (fun ts=>gJ expr ts.length a ts) aF)=Q):=aZ (by rw [<-hQ];simp only [kZ];rfl);clear h hQ;obtain⟨W1,hW1,hb1,tn,hs1⟩:=iO (G:=fun _=>False) w (.cells #[.int .i64 0,.string ⟨#[]⟩,.int .i64 0,.int .i64 0,.int .i64 0,.slice none 0 0,.slice none 0 0,.slice none 0 0] 52) (w.heap.size) rfl;have HT1:bN (Turn (fun j=>j=bp) w W1):=aZ (tn.mono (fun _ _ h=>h.elim));have iI:=aZ (H0.o.turn tn id (fun _ _=>id));have iQ:=aZ hb1;clear tn hb1;have HW1:=aZ hW1;clear hW1;have qZ:=aZ (HAT _ bp B L _ iI.o);go_enter Tryz.func216,Tryz.ntmps216;go_wp2_with fail;have hW:=HW1.o;subst hW;clear HW1;refine(qZ.o).mono ?_;rintro e w2 ⟨tn,_,x,rfl,⟨z,rfl,hz⟩,hx,kn⟩;clear qZ;obtain⟨kx,sx,mx,lx,ox,lY,lZ,l6,l7,l8,l9,pI,pJ,pK,rfl⟩:=hz.shape';obtain⟨q2,hqq⟩:∃qz,ig (aA q (qU typ expr))=qz:=⟨_,rfl⟩
 have jI:=aZ (bW vw.o hx);rw [hqq]at kn jI;have abS:=aZ (hz.iv.mono (G:=Iv (w.heap.size+1) w2.heap.size) (fun g _ h=>⟨by have h1:=h.1;omega,h.2⟩));have hs2:=tn.size;have fV:=aZ (aO iQ.o tn);have HT2:=aZ (HT1.o.bO tn);have gW:=aZ kn;have hz2:w.heap.size+1<=w2.heap.size:=by omega
 clear hs1 hs2;clear tn kn iQ hqq hx hz;obtain⟨f0,hf0,hq0⟩:=Cc (F:=fun n=>gJ expr n x) jI.o;have HQS:bN (aA q2 (gJ expr f0 x)=Q):=aZ (by rw [kZ]at hq0;exact hq0);have HFS:=aZ hf0;clear hf0 hq0;obtain⟨W3,hW3,hb3,tn,hs3⟩:=iO (G:=fun _=>False) w2 (.cells #[.int .i64 kx,sv sx,.int .i64 mx,.int .i64 lx,.int .i64 ox,.slice lY lZ l6,.slice l7 l8 l9,.slice pI pJ pK] 52) (w2.heap.size) rfl;have gU:=aZ (ah fV.o tn id);have Pw:=aZ (abS.o.turn tn (fun _ _ _=>id));have HT3:bN (Turn (fun j=>j=bp) w W3):=aZ (HT2.o.trans tn (fun _ _ h=>h.elim));have gD:=aZ (gW.o.turn tn id (fun _ _=>id));have acL:=aZ hb3;clear tn hb3 fV abS;have HW3:=aZ hW3;clear hW3;go_wp2_with fail;have hW:=HW3.o;subst hW;clear HW3;go_loopw [4] (fun _ wr=>∃(f:Nat) (a:bI) (q2:Pr Unit) (z:List Value),wr.heap[w2.heap.size]? =some (.cells z.toArray 52 (0,0))∧qd wr (fun j=>w.heap.size+1<=j∧j≠w2.heap.size) z a∧aA q2 (gJ expr f a)=Q∧(∀u ts,q2=.good u ts->ts.length<=f)∧Turn (fun j=>j=bp) w wr∧w2.heap.size+1<=wr.heap.size∧eF wr bp B L d q2∧wr.heap[w.heap.size]? =some (.cells #[.int .i64 0,.string ⟨#[]⟩,.int .i64 0,.int .i64 0,.int .i64 0,.slice none 0 0,.slice none 0 0,.slice none 0 0] 52 (0,0))) (fun _ wr=>Dc wr bp)
 case atStart=>exact⟨f0,x,q2,[.int .i64 kx,sv sx,.int .i64 mx,.int .i64 lx,.int .i64 ox,.slice lY lZ l6,.slice l7 l8 l9,.slice pI pJ pK],acL.o,Pw.o.mono (fun g _ h=>by have h:=h;omega),HQS.o,HFS.o,HT3.o,(by first |omega |simp),gD.o,gU.o⟩
 case round=>
  obtain⟨f,a,qr,z,hab,hz,hq,hf,ht,hsw,hk,hr⟩:=hrel;obtain⟨ka,sa,ma,la,oa,Ki,Kj,caa,Kk,Kl,Km,Kn,Ko,Kq,rfl⟩:=hz.shape';have OI:=aZ hab;have HZR:=aZ (hz.mono (G:=fun j=>(w.heap.size+1<=j∧j≠w2.heap.size)∧j<wr.heap.size) (fun g hg h=>⟨h,hg⟩));have vX:=aZ hq;have PE:=aZ hf;have xJ:=aZ ht;have vG:=aZ hk;have HRR:=aZ hr;clear hab hz hq hf ht hk hr;have Ez:=aZ (xK _ bp B L d qr vG.o (7));go_wp2_with fail;refine(Ez.o).mono ?_;rintro e w4 ⟨hb,t,rfl,hx⟩;clear Ez;have tn:Turn (fun j=>j=bp) _ _:=Turn.of_below hb;have kn:=vG.o.below hb;have hs4:=tn.size;have fZ:=aZ (aO HRR.o tn);have Zf:=aZ (aO OI.o tn);have Io:=aZ (HZR.o.tu tn);have fD:=aZ (xJ.o.bO tn);have iD:=aZ kn;clear tn kn HRR OI HZR hb;have HX:=aZ hx;clear hx;obtain⟨W5,yw,hb5,tn,hs5⟩:=iO (G:=fun _=>False) w4 (.cells #[.int .i64 7,.string ⟨#[]⟩,.int .i64 0,.int .i64 t.line,.int .i64 t.col,.slice none 0 0,.slice none 0 0,.slice none 0 0] 52) (w4.heap.size) rfl;have iE:=aZ (ah fZ.o tn id);have Qj:=aZ (ah Zf.o tn id);have Ke:=aZ (Io.o.turn tn (fun _ _ _=>id));have fG:bN (Turn (fun j=>j=bp) w W5):=aZ (fD.o.trans tn (fun _ _ h=>h.elim));have jw:=aZ (iD.o.turn tn id (fun _ _=>id));have nW:=aZ hb5;clear tn hb5 fZ Zf Io;have F6:=aZ yw;clear yw;have Rz:=aZ (bT _ bp B L d qr jw.o [40]);go_wp2_with fail;have hW:=F6.o;subst hW;clear F6;refine(Rz.o).mono ?_;rintro e w6 ⟨rfl,tn,kn⟩;clear Rz;cases hA:sH (aA qr (bM [40]))
  ·obtain⟨hs,hnn⟩:=bg hA;rw [hs]at kn;have Ry:=aZ hnn;have hs6:=tn.size;have kC:=aZ (aO iE.o tn);have U1:=aZ (aO Qj.o tn);have wY:=aZ (aO nW.o tn);have U2:=aZ (Ke.o.tu tn);have jP:=aZ (fG.o.bO tn);have nT:=aZ kn;have hz6:w4.heap.size+1<=w6.heap.size:=by omega
   clear hs5 hs6;clear tn kn iE Qj nW Ke hs hnn hA;have HC7:=aZ (bT _ bp B L d qr nT.o [46]);go_wp2_with fail;refine(HC7.o).mono ?_;rintro e w7 ⟨rfl,tn,kn⟩;clear HC7;cases hA:sH (aA qr (bM [46]))
   ·obtain⟨hs,hnn⟩:=bg hA;rw [hs]at kn;have JX:=aZ hnn;have hs7:=tn.size;have lN:=aZ (aO kC.o tn);have Kr:=aZ (aO U1.o tn);have Bb:=aZ (aO wY.o tn);have Qk:=aZ (U2.o.tu tn);have iX:=aZ (jP.o.bO tn);have kr:=aZ kn;clear tn kn kC U1 wY U2 hs hnn hA;have zF:bN (aA qr (aF a)=Q):=aZ (Ze Ry.o JX.o vX.o);obtain⟨ab0,ab1,ab2,ab3,ab4,ab5,ab6,ab7,abz⟩:=aD Kr.o;have abl:=block_lt Kr.o;obtain⟨rz,rA,rC,rD,xS,xU,xV,xW,rE⟩:=aD lN.o;have rF:=block_lt lN.o;have jV:¬w2.heap.size=w.heap.size:=by omega
    have jW:¬w.heap.size=w2.heap.size:=by omega
    obtain⟨W9,Ey,xQ,tn,Fx⟩:=uD (.int .i64 ka) (sv sa) (.int .i64 ma) (.int .i64 la) (.int .i64 oa) (.slice Ki Kj caa) (.slice Kk Kl Km) (.slice Kn Ko Kq) lN.o;have Gv:=aZ (aO Kr.o tn);have qQ:=aZ (aO Bb.o tn);have Ir:=aZ (Qk.o.tu tn);have lV:=aZ (iX.o.bO tn);have mO:=aZ (kr.o.iP tn);have gY:=aZ xQ;clear tn xQ lN Kr Bb Qk;have oP:=aZ Ey;clear Ey;go_wp2_with fail;have hW:=oP.o;subst hW;clear oP;refine bodyPost_ret (aM rfl rfl gY.o Tryz.underlying52 rfl (by kernel_rfl)) rfl ?_;exact dh.done zF.o lV.o ⟨_,rfl,(Ir.o.mono (fun g _ h=>by have h:=h;omega))⟩ mO.o
   ·obtain⟨t9,r9,rfl,ht,hs⟩:=bF hA;rw [hs]at kn;have HY9:=aZ ht;have Fx:=tn.size;have gY:=aZ (aO kC.o tn);have Gv:=aZ (aO U1.o tn);have qQ:=aZ (aO wY.o tn);have Ir:=aZ (U2.o.tu tn);have lV:=aZ (jP.o.bO tn);have mO:=aZ kn;clear tn kn kC U1 wY U2 hs ht hA;obtain⟨f,rfl⟩:∃f2,f=f2+1:=⟨f - 1,by have:=PE.o _ _ rfl;simp at this;omega⟩
    obtain rfl:t9=t:=HX.o _ _ rfl;have vO:=aZ mO.o.wf;have Au:bN (aA (.good () r9) (aj nameP fun s=>gJ expr f (aK 9 s 0 t9 [] [] [a]))=Q):=aZ (UZ HY9.o vX.o);have alv:bN (yD (.good () r9)<=r9.length):=aZ (Nat.le_refl _);obtain⟨nb0,lF,lG,mP,mQ,mR,mU,mV,mW⟩:=aD qQ.o;have mX:=block_lt qQ.o;obtain⟨W12,tY,nZ,tn,Cm⟩:=st1 0 (.int .i64 9) (cs2:= #[.int .i64 9,.string ⟨#[]⟩,.int .i64 0,.int .i64 t9.line,.int .i64 t9.col,.slice none 0 0,.slice none 0 0,.slice none 0 0]) qQ.o rfl;have jS:=aZ (aO gY.o tn);have uj:=aZ (aO Gv.o tn);have um:=aZ (Ir.o.tu tn);have uW:=aZ (lV.o.bO tn);have uX:=aZ (mO.o.iP tn);have kG:=aZ nZ;clear tn nZ qQ gY Gv Ir;have tZ:=aZ tY;clear tY;have Gl:=aZ (j4 _ bp B L d (.good () r9) uX.o);go_wp2_with fail;have hW:=tZ.o;subst hW;clear tZ;refine(Gl.o).mono ?_;rintro e MK ⟨tn,_,s,rfl,rfl,hx,kn⟩;clear Gl;clear nb0 lF lG mP mQ mR mU mV mW mX;obtain⟨q13,hqq⟩:∃qz,ig (aA (.good () r9) (nameP))=qz:=⟨_,rfl⟩
    have DY:=aZ (bW Au.o hx);rw [hqq]at kn DY;have aeO:bN (yD q13<=r9.length):=aZ (by have h:=uX.o.zn (p:=nameP) Sf.name;rw [hqq]at h;exact Nat.le_trans h alv.o);have yj:=tn.size;have iV:=aZ (aO jS.o tn);have qy:=aZ (aO uj.o tn);have ji:=aZ (aO kG.o tn);have og:=aZ (um.o.tu tn);have sw:=aZ (uW.o.bO tn);have pF:=aZ kn;have ab9:w7.heap.size+0<=MK.heap.size:=by omega
    clear Cm yj;clear tn kn jS uj kG um hqq hx;obtain⟨ab0,ab1,ab2,ab3,ab4,ab5,ab6,ab7,abz⟩:=aD qy.o;have abl:=block_lt qy.o;obtain⟨nb0,lF,lG,mP,mQ,mR,mU,mV,mW⟩:=aD ji.o;have mX:=block_lt ji.o;obtain⟨rz,rA,rC,rD,xS,xU,xV,xW,rE⟩:=aD iV.o;have rF:=block_lt iV.o;have jV:¬w2.heap.size=w4.heap.size:=by omega
    have Ce:¬w2.heap.size=w.heap.size:=by omega
    have jW:¬w4.heap.size=w2.heap.size:=by omega
    have Cg:¬w4.heap.size=w.heap.size:=by omega
    have Ch:¬w.heap.size=w2.heap.size:=by omega
    have Ci:¬w.heap.size=w4.heap.size:=by omega
    obtain⟨W14,FC,Cw,tn,UC⟩:=st1 1 (sv s) (cs2:= #[.int .i64 9,sv s,.int .i64 0,.int .i64 t9.line,.int .i64 t9.col,.slice none 0 0,.slice none 0 0,.slice none 0 0]) ji.o rfl;have oQ:=aZ (aO iV.o tn);have Jp:=aZ (aO qy.o tn);have xq:=aZ (og.o.tu tn);have FD:=aZ (sw.o.bO tn);have FE:=aZ (pF.o.iP tn);have Bc:=aZ Cw;clear tn Cw ji iV qy og;have FH:=aZ FC;clear FC;obtain⟨W15,wN,wO,tn,DX⟩:=st1 7 (.slice (some ⟨MK.heap.size,0,none⟩) 1 1) (cs2:= #[.int .i64 9,sv s,.int .i64 0,.int .i64 t9.line,.int .i64 t9.col,.slice none 0 0,.slice none 0 0,.slice (some ⟨MK.heap.size,0,none⟩) 1 1]) Bc.o rfl;have jC:=aZ (aO oQ.o tn);have Dp:=aZ (aO Jp.o tn);have vJ:=aZ (xq.o.tu tn);have yu:=aZ (FD.o.bO tn);have zm:=aZ (FE.o.iP tn);have mF:=aZ wO;clear tn wO Bc oQ Jp xq;have wP:=aZ wN;clear wN;obtain⟨W16,L9,Ma,tn,Cj⟩:=uD (.int .i64 9) (sv s) (.int .i64 0) (.int .i64 t9.line) (.int .i64 t9.col) (.slice none 0 0) (.slice none 0 0) (.slice (some ⟨MK.heap.size,0,none⟩) 1 1) Dp.o;have gB:=aZ (aO jC.o tn);have gV:=aZ (aO mF.o tn);have oh:=aZ (vJ.o.tu tn);have uT:=aZ (yu.o.bO tn);have uU:=aZ (zm.o.iP tn);have ou:=aZ Ma;clear tn Ma Dp jC mF vJ;have Md:=aZ L9;clear L9;obtain⟨W17,FI,FJ,tn,Ik⟩:=iO (G:=fun _=>False) W16 (.cells #[.int .i64 ka,sv sa,.int .i64 ma,.int .i64 la,.int .i64 oa,.slice Ki Kj caa,.slice Kk Kl Km,.slice Kn Ko Kq] 52) (MK.heap.size) (by omega);have iG:=aZ (ah gB.o tn id);have qA:=aZ (ah ou.o tn id);have jD:=aZ (ah gV.o tn id);have om:=aZ (oh.o.turn tn (fun _ _ _=>id));have uV:bN (Turn (fun j=>j=bp) w W17):=aZ (uT.o.trans tn (fun _ _ h=>h.elim));have tQ:=aZ (uU.o.turn tn id (fun _ _=>id));have Db:=aZ FJ;clear tn FJ gB ou gV oh;have FK:=aZ FI;clear FI
    have HSW:=aZ (show w2.heap.size+1<=W17.heap.size by omega);go_wp2_with fail;have hW:=FK.o;subst hW;clear FK;have hW:=Md.o;subst hW;clear Md;have hW:=wP.o;subst hW;clear wP;have hW:=FH.o;subst hW;clear FH;refine⟨⟨f,_,q13,[.int .i64 9,sv s,.int .i64 0,.int .i64 t9.line,.int .i64 t9.col,.slice none 0 0,.slice none 0 0,.slice (some ⟨MK.heap.size,0,none⟩) 1 1],qA.o,.mk (cO.nil _ _ _) .nil (cO.nil _ _ _) ((dU Db.o 8 1 rfl (by omega)).mono (fun g _ h=>by have h:=h;omega)) (.cons (om.o.mono (fun g _ h=>by have h:=h;omega)) .nil),DY.o,(fun u ts e=>by have h1:=aeO.o;rw [e]at h1;have h1:ts.length<=r9.length:=h1;have h2:r9.length+1<=f+1:=PE.o () (t9 :: r9) rfl;omega),uV.o,HSW.o,tQ.o,iG.o⟩,?_⟩;rw [tQ.o.kR,vG.o.kR];have h1:=aeO.o;show yD _<(t9 :: r9).length;simp only [List.length_cons];omega
  ·obtain⟨t17,r17,rfl,ht,hs⟩:=bF hA;rw [hs]at kn;have aqI:=aZ ht;have Ik:=tn.size;have iG:=aZ (aO iE.o tn);have qA:=aZ (aO Qj.o tn);have jD:=aZ (aO nW.o tn);have om:=aZ (Ke.o.tu tn);have uV:=aZ (fG.o.bO tn);have tQ:=aZ kn;have aqJ:w4.heap.size+1<=w6.heap.size:=by omega
   clear hs5 Ik;clear tn kn iE Qj nW Ke hs ht hA;obtain⟨f,rfl⟩:∃f2,f=f2+1:=⟨f - 1,by have:=PE.o _ _ rfl;simp at this;omega⟩
   obtain rfl:t17=t:=HX.o _ _ rfl;have vO:=aZ tQ.o.wf;have agW:bN (aA (.good () r17) (aj expr fun x=>aj (aH [41]) fun _=>gJ expr f (aK 7 [] 0 t17 [] [] [a,x]))=Q):=aZ (Qi aqI.o vX.o);have aly:bN (yD (.good () r17)<=r17.length):=aZ (Nat.le_refl _);have Zg:=aZ (sJ _ bp B L _ tQ.o);go_wp2_with fail;refine(Zg.o).mono ?_;rintro e w20 ⟨tn,_,x,rfl,⟨z,rfl,hz⟩,hx,kn⟩;clear Zg;obtain⟨kx,sx,mx,lx,ox,lY,lZ,l6,l7,l8,l9,pI,pJ,pK,rfl⟩:=hz.shape';obtain⟨q20,hqq⟩:∃qz,ig (aA (.good () r17) (expr))=qz:=⟨_,rfl⟩
   have acJ:=aZ (bW agW.o hx);rw [hqq]at kn acJ;have alz:bN (yD q20<=r17.length):=aZ (by have h:=tQ.o.zn (p:=expr) hse;rw [hqq]at h;exact Nat.le_trans h aly.o);have Gx:=aZ hz.iv;have UO:=tn.size;have lg:=aZ (aO iG.o tn);have Bj:=aZ (aO qA.o tn);have kH:=aZ (aO jD.o tn);have yJ:=aZ (om.o.tu tn);have AY:=aZ (uV.o.bO tn);have Cq:=aZ kn;clear tn kn iG qA jD om hqq hx hz;obtain⟨XB,AB,AJ,tn,Im⟩:=iO (G:=fun _=>False) w20 (.cells #[.int .i64 kx,sv sx,.int .i64 mx,.int .i64 lx,.int .i64 ox,.slice lY lZ l6,.slice l7 l8 l9,.slice pI pJ pK] 52) (w20.heap.size) rfl;have jE:=aZ (ah lg.o tn id);have SB:=aZ (ah Bj.o tn id);have rH:=aZ (ah kH.o tn id);have SC:=aZ (yJ.o.turn tn (fun _ _ _=>id));have Kt:=aZ (Gx.o.turn tn (fun _ _ _=>id));have wT:bN (Turn (fun j=>j=bp) w XB):=aZ (AY.o.trans tn (fun _ _ h=>h.elim));have sD:=aZ (Cq.o.turn tn id (fun _ _=>id));have AZ:=aZ AJ;clear tn AJ lg Bj kH yJ Gx;have AL:=aZ AB;clear AB;have Za:=aZ (dQ _ bp B L d q20 sD.o [41]);go_wp2_with fail;have hW:=AL.o;subst hW;clear AL;refine(Za.o).mono ?_;rintro e w22 ⟨rfl,tn,kn⟩;clear Za;obtain⟨q22,hqq⟩:∃qz,ig (aA q20 (aH [41]))=qz:=⟨_,rfl⟩
   have FT:=aZ (bW acJ.o (x:=()) (fun _ _ _=>rfl));rw [hqq]at kn FT;have aeQ:bN (yD q22<=r17.length):=aZ (by have h:=sD.o.zn (p:=aH [41]) (Sf.want _);rw [hqq]at h;exact Nat.le_trans h alz.o);have ME:=tn.size;have mZ:=aZ (aO jE.o tn);have Gy:=aZ (aO SB.o tn);have nX:=aZ (aO rH.o tn);have Jj:=aZ (aO AZ.o tn);have Nk:=aZ (SC.o.tu tn);have Zh:=aZ (Kt.o.tu tn);have Cr:=aZ (wT.o.bO tn);have Ct:=aZ kn;have aqc:w20.heap.size+1<=w22.heap.size:=by omega
   clear Im ME;clear tn kn jE SB rH AZ SC Kt hqq;obtain⟨ab0,ab1,ab2,ab3,ab4,ab5,ab6,ab7,abz⟩:=aD Gy.o;have abl:=block_lt Gy.o;obtain⟨nb0,lF,lG,mP,mQ,mR,mU,mV,mW⟩:=aD nX.o;have mX:=block_lt nX.o;obtain⟨xb0,xb1,xb2,xb3,xb4,xb5,xb6,xb7,xbz⟩:=aD Jj.o;have xbl:=block_lt Jj.o;have jV:¬w2.heap.size=w4.heap.size:=by omega
   have Ce:¬w2.heap.size=w20.heap.size:=by omega
   have jW:¬w4.heap.size=w2.heap.size:=by omega
   have Cg:¬w4.heap.size=w20.heap.size:=by omega
   have Ch:¬w20.heap.size=w2.heap.size:=by omega
   have Ci:¬w20.heap.size=w4.heap.size:=by omega
   obtain⟨W23,AO,pG,tn,PU⟩:=st1 7 (.slice (some ⟨w22.heap.size,0,none⟩) 2 2) (cs2:= #[.int .i64 7,.string ⟨#[]⟩,.int .i64 0,.int .i64 t17.line,.int .i64 t17.col,.slice none 0 0,.slice none 0 0,.slice (some ⟨w22.heap.size,0,none⟩) 2 2]) nX.o rfl;have oU:=aZ (aO mZ.o tn);have SE:=aZ (aO Gy.o tn);have aeR:=aZ (aO Jj.o tn);have Jq:=aZ (Nk.o.tu tn);have Zi:=aZ (Zh.o.tu tn);have Co:=aZ (Cr.o.bO tn);have AP:=aZ (Ct.o.iP tn);have Gz:=aZ pG;clear tn pG nX mZ Gy Jj Nk Zh;have AQ:=aZ AO;clear AO;obtain⟨W24,X0,Kh,tn,MG⟩:=uD (.int .i64 7) (.string ⟨#[]⟩) (.int .i64 0) (.int .i64 t17.line) (.int .i64 t17.col) (.slice none 0 0) (.slice none 0 0) (.slice (some ⟨w22.heap.size,0,none⟩) 2 2) SE.o;have j6:=aZ (aO oU.o tn);have kI:=aZ (aO Gz.o tn);have aeS:=aZ (aO aeR.o tn);have GA:=aZ (Jq.o.tu tn);have Zj:=aZ (Zi.o.tu tn);have Cu:=aZ (Co.o.bO tn);have Ba:=aZ (AP.o.iP tn);have aeT:=aZ Kh;clear tn Kh SE oU Gz aeR Jq Zi;have X4:=aZ X0;clear X0;obtain⟨W25,Zk,Zl,tn,UF⟩:=iO (G:=fun _=>False) W24 (.cells #[.int .i64 ka,sv sa,.int .i64 ma,.int .i64 la,.int .i64 oa,.slice Ki Kj caa,.slice Kk Kl Km,.slice Kn Ko Kq,.int .i64 kx,sv sx,.int .i64 mx,.int .i64 lx,.int .i64 ox,.slice lY lZ l6,.slice l7 l8 l9,.slice pI pJ pK] 52) (w22.heap.size) (by omega);have vH:=aZ (ah j6.o tn id);have alA:=aZ (ah aeT.o tn id);have Dj:=aZ (ah kI.o tn id);have auT:=aZ (ah aeS.o tn id);have alB:=aZ (GA.o.turn tn (fun _ _ _=>id));have ahV:=aZ (Zj.o.turn tn (fun _ _ _=>id));have Mh:bN (Turn (fun j=>j=bp) w W25):=aZ (Cu.o.trans tn (fun _ _ h=>h.elim));have Mi:=aZ (Ba.o.turn tn id (fun _ _=>id));have alC:=aZ Zl;clear tn Zl j6 aeT kI aeS GA Zj;have Zm:=aZ Zk;clear Zk
   have HSW:=aZ (show w2.heap.size+1<=W25.heap.size by omega);go_wp2_with fail;have hW:=Zm.o;subst hW;clear Zm;have hW:=X4.o;subst hW;clear X4;have hW:=AQ.o;subst hW;clear AQ;refine⟨⟨f,_,q22,[.int .i64 7,.string ⟨#[]⟩,.int .i64 0,.int .i64 t17.line,.int .i64 t17.col,.slice none 0 0,.slice none 0 0,.slice (some ⟨w22.heap.size,0,none⟩) 2 2],alA.o,.mk (cO.nil _ _ _) .nil (cO.nil _ _ _) ((dU alC.o 8 2 rfl (by omega)).mono (fun g _ h=>by have h:=h;omega)) (.cons (alB.o.mono (fun g _ h=>by have h:=h;omega)) (.cons (ahV.o.mono (fun g _ h=>by have h:=h;omega)) .nil)),FT.o,(fun u ts e=>by have h1:=aeQ.o;rw [e]at h1;have h1:ts.length<=r17.length:=h1;have h2:r17.length+1<=f+1:=PE.o () (t17 :: r17) rfl;omega),Mh.o,HSW.o,Mi.o,vH.o⟩,?_⟩;rw [Mi.o.kR,vG.o.kR];have h1:=aeQ.o;show yD _<(t17 :: r17).length;simp only [List.length_cons];omega
abbrev aqM (d:Int)(typ:Ps bS):Prop:=RC 240 VU d (aj (iw typ) fun l=>aj (aH [93]) fun _=>aF l)
theorem Nl (d:Int)(typ:Ps bS)(hst:Sf typ)(qE:J3 d typ):aqM d typ:=by
 intro w bp B L q h;have hlt:=h.lt;have hB:=h.1;have H0:=aZ h;obtain⟨Q,hQ⟩:∃Q,aA q (aj (iw typ) fun l=>aj (aH [93]) fun _=>aF l)=Q:=⟨_,rfl⟩
 rw [hQ];obtain⟨G,hG⟩:∃G:List bS->Ps (List bS),(fun l=>aj (aH [93]) fun _=>aF l)=G:=⟨_,rfl⟩
 rw [hG]at hQ;have Ut:=aZ (Ck hQ);have HG:=aZ hG;clear h hQ hG;go_enter Tryz.func240,Tryz.ntmps240;go_wp2_with fail;go_loopw [3] (fun v3 wr=>∃(l:List bS) (q2:Pr Unit),Xu typ l G Q q2∧VU w.heap.size wr v3 l∧Turn (fun j=>j=bp) w wr∧eF wr bp B L d q2∧l.length+yD q2<=8194) (fun _ wr=>Dc wr bp)
 case atStart=>exact⟨[],q,Ut.o,fH.nil _ _ _ _ _ _,Turn.refl _ _,H0.o,by have:=H0.o.sz;simp;omega⟩
 case round=>
  obtain⟨l,qr,⟨f,Xv,Ux⟩,hrow,ht,hk,hlr⟩:=hrel;have hsw:=ht.size;have Xt:=aZ hrow;have vX:=aZ Xv;have Xg:=aZ Ux;have xJ:=aZ ht;have vG:=aZ hk;have Hz:=aZ hlr;obtain⟨Al,cl,hvl,hcl,hml⟩:=hrow.shape;subst hvl;clear hrow Xv Ux ht hk hlr hml;have HC1:=aZ (qE _ bp B L _ vG.o);go_wp2_with fail;refine(HC1.o).mono ?_;rintro e w1 ⟨tn,_,y,rfl,⟨z,rfl,hz⟩,hx,kn⟩;clear HC1;obtain⟨ky,sy,rW,rX,rY,rZ,sj,su,rfl⟩:=hz.shape';obtain⟨q1,hqq⟩:∃qz,ig (aA qr (typ))=qz:=⟨_,rfl⟩
  have mM:=aZ (bW vX.o hx);rw [hqq]at kn mM;have h:=Xg.o;rw [hqq]at h;have WX:=aZ h;have h:=vG.o.zn (p:=typ) hst;rw [hqq]at h;have VT:=aZ h;have zG:=aZ tn;clear h;have alD:=aZ hz.iv;have hs1:=tn.size;have HT1:=aZ (xJ.o.bO tn);have iI:=aZ kn;clear tn kn hqq hx hz;obtain⟨ys,hy,hrr⟩:=Xt.o;have hyl:ys.length=l.length*4:=hy.1;have Xa:=dN hy zG.o (fun g hg e=>by have:=(hy.lt g hg).1;omega);have HY:=aZ hy;have HRW:=aZ hrr;have HYW:=aZ Xa;have hl8:l.length<=8194:=by have:=Hz.o;omega
  clear hy hrr Xa;go_wp2_with (at_builtin;go_must (refine eU rfl (.tmp 8) (.tmp 10) _ rfl w.heap.size vD _ _ rfl rfl ((HYW.o.alloc (.cells #[.int .i64 ky,sv sy,.slice rW rX rY,.slice rZ sj su] 57)).alloc (.cells #[.int .i64 ky,sv sy,.slice rW rX rY,.slice rZ sj su] 57)) (xR (w1.alloc (.cells #[.int .i64 ky,sv sy,.slice rW rX rY,.slice rZ sj su] 57)) #[.int .i64 ky,sv sy,.slice rW rX rY,.slice rZ sj su] 57 4 1 (w1.heap.size+1) (by simp) rfl (by decide)) (zZ ky sy _ _ _ _ _ _) (by simp [maxLen];omega) (by simp;omega) (by simp;omega) (fun va wa nA fI vB kT=>?_));obtain⟨A9,c9,rfl,_,_⟩:=iK fI;have tH:=aZ fI;have Rm:=aZ vB;have BR:=aZ kT;clear fI vB kT);have ta:=(Turn.alloc (fun j=>(Value.slice Al l.length cl).ownBlock=some j) w1 (.cells #[.int .i64 ky,sv sy,.slice rW rX rY,.slice rZ sj su] 57)).trans (Turn.alloc (fun j=>(Value.slice Al l.length cl).ownBlock=some j) _ (.cells #[.int .i64 ky,sv sy,.slice rW rX rY,.slice rZ sj su] 57)) (fun _ _ h=>h);have t9:=ta.trans (Turn.bB Rm.o (F:=fun j=>(Value.slice Al l.length cl).ownBlock=some j) (fun _ h=>h)) (fun _ _ h=>h);have yh:=Xt.o.lt;have GD:=aZ (fH.push aJ (F:=fun j=>w.heap.size<=j) HY.o HRW.o zG.o (alD.o.mono (fun g _ h=>h.1)) t9 (fun j _ h=>.inl h) (BR.o.imp id fun e=>⟨_,by simp;omega,e⟩) tH.o (by omega) (by omega) (fun j hj=>by omega));have Fx:=t9.size;have mO:=aZ (iI.o.turn t9 (fun e=>by have:=(yh _ e).1;omega) (fun k hk e=>by have:=(yh _ e).1;omega));have lV:=aZ (HT1.o.trans t9 (fun i hi e=>by have:=(yh i e).1;omega));obtain rfl:nA=l.length+1:=by
   obtain⟨_,_,h,_⟩:=GD.o.shape;injection h with _ h _;rw [h];simp
  clear ta t9;have qZ:=aZ (bT _ bp B L d q1 mO.o [44]);refine(qZ.o).mono ?_;rintro e w2 ⟨rfl,tn,kn⟩;clear qZ;cases hA:sH (aA q1 (bM [44]))
  ·obtain⟨hs,hnn⟩:=bg hA;rw [hs]at kn;have HN:=aZ hnn;have hs2:=tn.size;have ahW:=aZ (GD.o.turn aJ tn (fun g hg e=>by have:=(GD.o.lt g hg).1;omega) (fun g _ h e=>by have h:=h;omega));have HT2:=aZ (lV.o.bO tn);have gW:=aZ kn;clear tn kn GD hs hnn hA;have iq:bN (aA q1 (aj (aH [93]) fun _=>aF (l++[y]))=Q):=aZ (by have h:=J8 HN.o mM.o;rw [<-HG.o]at h;exact h);have Ez:=aZ (dQ _ bp B L d q1 gW.o [93]);go_wp2_with fail;refine(Ez.o).mono ?_;rintro e w4 ⟨rfl,tn,kn⟩;clear Ez;obtain⟨q4,hqq⟩:∃qz,ig (aA q1 (aH [93]))=qz:=⟨_,rfl⟩
   have gq:=aZ (bW iq.o (x:=()) (fun _ _ _=>rfl));rw [hqq]at kn gq;have hs4:=tn.size;have ahX:=aZ (ahW.o.turn aJ tn (fun g hg e=>by have:=(ahW.o.lt g hg).1;omega) (fun g _ h e=>by have h:=h;omega));have fD:=aZ (HT2.o.bO tn);have iD:=aZ kn;clear tn kn ahW hqq;go_wp2_with fail;go_ret;exact dh.done gq.o fD.o ahX.o iD.o
  ·obtain⟨t4,r4,rfl,ht,hs⟩:=bF hA;rw [hs]at kn;have HY4:=aZ ht;have hs4:=tn.size;have ahX:=aZ (GD.o.turn aJ tn (fun g hg e=>by have:=(GD.o.lt g hg).1;omega) (fun g _ h e=>by have h:=h;omega));have fD:=aZ (lV.o.bO tn);have iD:=aZ kn;clear tn kn GD hs ht hA;have h1:(t4 :: r4).length<=yD qr:=VT.o;simp only [List.length_cons]at h1;have h2:=Hz.o;have XC:=aZ (FL hst iD.o.wf HY4.o WX.o mM.o);go_wp2_with fail;refine⟨⟨l++[y],_,XC.o,ahX.o,fD.o,iD.o,(by rw [List.length_append,List.length_singleton];show _+r4.length<=8194;omega)⟩,?_⟩;rw [iD.o.kR,vG.o.kR];show r4.length< _;omega
theorem Nn (s:ByteArray):s.data.toList.length=s.size:=Array.length_toList
theorem aeU (s:ByteArray)(h:0<s.size):s.data.toList.head? =some s[0]:=by
 rw [List.head?_eq_getElem?,List.getElem?_eq_getElem (by rw [Nn];exact h)];rfl
theorem isz (s:ByteArray)(h:s.size=0):s=ByteArray.empty:=ByteArray.size_eq_zero_iff.1 h
theorem acM {c:UInt8}{n:Nat}(hn:n<256):c=UInt8.ofNat n↔c.toNat=n:=by
 constructor
 ·intro h;rw [h,UInt8.toNat_ofNat'];omega
 ·intro h;apply UInt8.toNat_inj.1;rw [UInt8.toNat_ofNat'];omega
theorem pO (s:ByteArray)(w:World)(hs:s.size<=281474976710656):
  Calls Tryz.prog 195 #[.string s] w fun e w'=>e=.returned (.tuple #[.int .i64 (dx s.data.toList).1,.bool (dx s.data.toList).2])∧w=w':=by
 by_cases h0:s.size=0
 ·obtain rfl:=isz s h0;have HP:=aZ TM;go_enter Tryz.func195,Tryz.ntmps195;go_wp2_with fail
  go_ret2
  exact⟨rV (by rw [show ByteArray.empty.data.toList=([]:List UInt8)from by decide,HP.o]),rfl⟩
 have hb:((s.size:Int)==0)=false:=by rw [beq_eq_false_iff_ne];omega
 have he:¬s=ByteArray.empty:=by intro e;exact h0 (by rw [e];rfl)
 have h3:0<s.size:=by omega
 by_cases h1:19<s.size
 ·have HP:=aZ (OQ (l:=s.data.toList) (by rw [Nn];exact h1));go_enter Tryz.func195,Tryz.ntmps195;go_wp2_with fail
  go_ret2
  exact⟨rV (by rw [HP.o]),rfl⟩
 by_cases h2:s.data.toList.head? =some 48∧1<s.size
 ·have HP:=aZ (OT (l:=s.data.toList) (by rw [Nn];exact h2));obtain⟨h2,h4⟩:=h2;rw [aeU s h3]at h2;have hz:(((s[0]'h3).toNat:Int)==48)=true:=by
   rw [beq_iff_eq];injection h2 with h2;rw [h2];rfl
  clear h2;go_enter Tryz.func195,Tryz.ntmps195;go_wp2_with fail
  go_ret2
  exact⟨rV (by rw [HP.o]),rfl⟩
 have h4:s.size<=19:=by omega
 have H2:=aZ h2;have hcase:(((s[0]'h3).toNat:Int)==48)=false∨(((s[0]'h3).toNat:Int)==48)=true∧s.size<=1:=by
  by_cases hz:(s[0]'h3).toNat=48
  ·refine .inr ⟨by rw [beq_iff_eq,hz];rfl,?_⟩;have e:s.data.toList.head? =some 48:=by rw [aeU s h3,(acM (by decide)).2 hz];rfl
   rcases Nat.lt_or_ge 1 s.size with h |h
   ·exact absurd ⟨e,h⟩ h2
   ·exact h
  ·exact .inl (by rw [beq_eq_false_iff_ne];omega)
 clear h0 h1 h2;rcases hcase with hz |⟨hz,h5⟩
 all_goals
  go_enter Tryz.func195,Tryz.ntmps195;go_wp2_with fail
  go_loop [4,5] (fun v4 v5=>∃k n:Nat,v5=.int .i64 k∧v4=.int .u64 n∧k<=s.size∧n=dR 0 (s.data.toList.take k)∧(∀c∈s.data.toList.take k,yB c=true)) (fun _ v5=>(s.size - (intOf v5).toNat))
  case atStart=>exact⟨0,0,rfl,rfl,by omega,(jd 0).symm,by simp⟩
  case round=>
   obtain⟨k,n,rfl,rfl,hk,hn,hd⟩:=hrel;have HN:=aZ hn;have HD:=aZ hd;clear hn hd;by_cases hlt:k<s.size
   ·go_wp2_with fail
    all_goals first
    |(have hnd:¬yB (s[k]'hlt)=true:=by rw [iY];omega
      go_ret2
      exact⟨rV (by rw [K6 (l:=s.data.toList) (k:=k) (by rw [Nn];exact hlt) hnd]),rfl⟩)
    |(have hyd:48<=(s[k]'hlt).toNat∧(s[k]'hlt).toNat<=57:=by omega
      go_round
      case rel=>
       have hstep:s.data.toList.take (k+1)=s.data.toList.take k++[s[k]'hlt]:=by
        rw [List.take_succ_eq_append_getElem (by rw [Nn];exact hlt)];rfl
       have hv:=EJ _ 0 HD.o;have hn:=HN.o;have hl:(s.data.toList.take k).length<=18:=by rw [List.length_take];omega
       have hp:10 ^ (s.data.toList.take k).length<=10 ^ 18:=Nat.pow_le_pow_right (by decide) hl;refine⟨k+1,10*n+((s[k]'hlt).toNat - 48),rfl,?_,by omega,?_,?_⟩
       ·have e:IntKind.u64.wrap (IntKind.u64.wrap (10*(n:Int))+(((s[k]'hlt).toNat:Int) - 48))=((10*n+((s[k]'hlt).toNat - 48):Nat):Int):=by
         rw [K4,K4];omega
        rw [e]
       ·rw [hstep,uF,<-hn]
       ·intro c hc;rw [hstep]at hc;rcases List.mem_append.1 hc with hc |hc
        ·exact HD.o c hc
        ·obtain rfl:c=s[k]'hlt:=by simpa using hc
         exact iY.2 hyd
      case measure=>simp [intOf];omega)
   ·have hk2:k=s.size:=by omega
    have ht:s.data.toList.take k=s.data.toList:=List.take_of_length_le (by rw [Nn];omega);have hpe:=TN (l:=s.data.toList) (by rw [Nn];exact h3) (by rw [Nn];exact H2.o) (by have:=HD.o;rw [ht]at this;exact this);have hn:=HN.o;rw [ht]at hn;rw [<-hn]at hpe;have HPE:=aZ hpe;clear hpe hn ht hk2;by_cases hbig:n<9223372036854775808
    ·go_wp2_with fail
     go_ret2
     exact⟨rV (by rw [HPE.o,if_pos hbig]),rfl⟩
    ·go_wp2_with fail
     go_ret2
     exact⟨rV (by rw [HPE.o,if_neg hbig]),rfl⟩
end Go.Proofs.YtfgjkmipfikooaaGreatDoor
