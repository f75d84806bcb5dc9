/- HJT, US, HK, HKX, YR, ZA -/
import Derived.Test.YtfgjkmipfikooaaGreatDoorEB22
import Derived.Test.YtfgjkmipfikooaaGreatDoorEB10
set_option linter.unusedSimpArgs false
set_option linter.unusedVariables false
set_option maxRecDepth 100000
set_option maxHeartbeats 8000000
namespace Go.Proofs.YtfgjkmipfikooaaGreatDoor
open Go.RowKit
theorem Sw (p q:Addr)(w:World):
  CallsD Tryz.prog 112 #[.pointer (some p),.pointer (some q)] .returning w fun e u' w'=>e=.returned (.tuple #[])∧u'=.returning∧w'=w:=by
 refine callsD_of_wpS Tryz.func112 rfl fun c₀ cs hu=>?_;apply wpS_seq;apply wpS_region;simp [wpOpsS,go_sem,recoverD,hu,Tryz.ntmps112,Exit.thenS];refine wpS_of_wp ?_;change Code.wp _ _ _ { tmps:= #[.pointer (some p),.pointer (some q),.nilIface,undef,undef,undef,.nilIface,undef,undef,undef,undef,undef,undef,undef,undef,undef,undef,undef,undef,undef],defers:=[]} w
 go_wp2
 exact⟨rfl,.returning,by rw [<-hu],.tuple #[],results_none rfl _ _ _,rfl,rfl,rfl⟩
theorem Fb (pb qb:Nat)(hne:pb≠qb)(g:DX)(older:List PanicEntry)(w:World){a0 a1 a2 a3:Value}(hp:w.heap[pb]? =some (.cells #[a0,a1,a2,a3] 57 (0,0)))(hq:w.heap[qb]? =some (.cells #[.int .i64 0,.int .i64 0,.int .i64 0,.int .i64 0] 45 (0,0))):
  CallsD Tryz.prog 112 #[.pointer (some ⟨pb,0,none⟩),.pointer (some ⟨qb,0,none⟩)] (.panicking ({ v:= .iface 146 (zD g),recovered:=false} :: older)) w fun e u' w'=>e=.returned (.tuple #[])∧u'=.panicking ({ v:= .iface 146 (zD g),recovered:=true} :: older)∧
   Turn (fun k=>k=pb∨k=qb) w w'∧w'.heap[pb]? =some (.cells #[.int .i64 0,.string ⟨#[]⟩,.slice none 0 0,.slice none 0 0] 57 (0,0))∧w'.heap[qb]? =some (.cells (UK g) 45 (0,0)):=by
 have hta:∀w:World,(Instr.typeAssert (.iface 146 (zD g)) 20 146 true).run Tryz.prog w=.ok (.tuple #[zD g,.bool true]) w:=fun _=>by kernel_rfl
 have hpl:=block_lt hp;have hql:=block_lt hq;have HP:=aZ hp;have HQ:=aZ hq;clear hp hq;refine callsD_of_wpS Tryz.func112 rfl fun c₀ cs hu=>?_;apply wpS_seq;apply wpS_region;simp [wpOpsS,go_sem,recoverD,hu,Tryz.ntmps112,Exit.thenS];refine wpS_of_wp ?_;change Code.wp _ _ _ { tmps:= #[.pointer (some ⟨pb,0,none⟩),.pointer (some ⟨qb,0,none⟩),.iface 146 (zD g),undef,undef,undef,.iface 146 (zD g),undef,undef,undef,undef,undef,undef,undef,undef,undef,undef,undef,undef,undef],defers:=[]} w;obtain⟨W2,hW2⟩:∃W2,(w.alloc (.cells (UK g) 146)).alloc (.cells #[.int .i64 0,.string ⟨#[]⟩,.slice none 0 0,.slice none 0 0] 57)=W2:=⟨_,rfl⟩
 have hs2:W2.heap.size=w.heap.size+2:=by rw [<-hW2];simp
 obtain⟨tw,_,hbb,hzb⟩:=jC (G:=fun _=>False) (Turn.refl _ ((w.alloc (.cells (UK g) 146)).alloc (.cells #[.int .i64 0,.string ⟨#[]⟩,.slice none 0 0,.slice none 0 0] 57)));rw [hW2]at tw hbb hzb;have HW2:=aZ hW2;have hp2:=ah HP.o tw id;have hq2:=ah HQ.o tw id;have MC:=aZ hp2;have nK:=aZ hq2;have N8:=aZ tw;obtain⟨b0,b1,b2,b3,bz⟩:=dA (hbb id);have hz2:=hzb id;have HZ2:=aZ hz2;clear hW2 tw hbb hzb;go_wp2_with fail;rw [HW2.o];have HD0:bR (Turn (fun j=>j=pb∨j=qb) W2 W2.drew):=aZ ⟨rfl,rfl,rfl,Nat.le_refl _,fun _ _ _=>rfl⟩;have PZ:=aZ (fun(w':World) (h:Turn (fun j=>j=pb∨j=qb) W2 w')=>(⟨aO ((cell_of_row _ _ 0 _ _ _ hz2).trans rfl) h (by omega),aO ((cell_of_row _ _ 1 _ _ _ hz2).trans rfl) h (by omega),aO ((cell_of_row _ _ 2 _ _ _ hz2).trans rfl) h (by omega),aO ((cell_of_row _ _ 3 _ _ _ hz2).trans rfl) h (by omega)⟩:w'.cell? ⟨w.heap.size+1,0,none⟩=some (.int .i64 0)∧w'.cell? ⟨w.heap.size+1,1,none⟩=some (.string ⟨#[]⟩)∧w'.cell? ⟨w.heap.size+1,2,none⟩=some (.slice none 0 0)∧w'.cell? ⟨w.heap.size+1,3,none⟩=some (.slice none 0 0)));have PB:=aZ (fun(w':World) (h:Turn (fun j=>j=pb∨j=qb) W2 w')=>(⟨aO b0 h (by omega),aO b1 h (by omega),aO b2 h (by omega),aO b3 h (by omega)⟩:w'.cell? ⟨w.heap.size,0,none⟩=some (.int .i64 0)∧w'.cell? ⟨w.heap.size,1,none⟩=some (.int .i64 g.1)∧w'.cell? ⟨w.heap.size,2,none⟩=some (.int .i64 g.2.1)∧w'.cell? ⟨w.heap.size,3,none⟩=some (.int .i64 g.2.2)));clear hz2 b0 b1 b2 b3 bz;refine dn (S:=fun w'=>Turn (fun j=>j=pb∨j=qb) W2 w') (x:=4) (by kernel_rfl) ?_
 try simp only [Act.put,sq]
 refine nM 0 (.agg #[.int .i64 0,.string ⟨#[]⟩,.slice none 0 0,.slice none 0 0]) PZ.o HD0.o ?_;refine tx 1 (.pointer (some ⟨w.heap.size,0,none⟩)) HD0.o ?_;refine nM 2 (zD g) PB.o HD0.o ?_;have pQ:∀X:World,X.drew.heap=X.heap:=fun _=>rfl;have hdr:∀(G:Nat->Prop) (X:World),Turn G X X.drew:=fun _ _=>⟨rfl,rfl,rfl,Nat.le_refl _,fun _ _ _=>rfl⟩
 have tA:=((((ak W2 (pb) 0 (.int .i64 0)).trans (ak _ (pb) 1 (.string ⟨#[]⟩)) (fun _ _ h=>h)).trans (ak _ (pb) 2 (.slice none 0 0)) (fun _ _ h=>h)).trans (ak _ (pb) 3 (.slice none 0 0)) (fun _ _ h=>h))
 have VK:((((W2.setCell ⟨pb,0,none⟩ (.int .i64 0)).setCell ⟨pb,1,none⟩ (.string ⟨#[]⟩)).setCell ⟨pb,2,none⟩ (.slice none 0 0)).setCell ⟨pb,3,none⟩ (.slice none 0 0)).heap[pb]? =some (.cells #[.int .i64 0,.string ⟨#[]⟩,.slice none 0 0,.slice none 0 0] 57 (0,0)):=(bA (b:=pb) MC.o (.int .i64 0) (.string ⟨#[]⟩) (.slice none 0 0) (.slice none 0 0))
 have VL:=ah nK.o tA (fun e=>hne e.symm);have K5:=aZ (tA.mono (G:=fun k=>k=pb∨k=qb) (fun _ _ h=>.inl h));have tO:=aZ (K5.o.trans (hdr (fun k=>k=pb∨k=qb) _) (fun _ _ h=>h));have HPA:=aZ VK;have O9:=aZ VL;have p0:W2.cell? ⟨pb,0,none⟩=some a0:=(cell_of_row _ _ 0 _ _ _ hp2).trans rfl;have p1:W2.cell? ⟨pb,1,none⟩=some a1:=(cell_of_row _ _ 1 _ _ _ hp2).trans rfl;have p2:W2.cell? ⟨pb,2,none⟩=some a2:=(cell_of_row _ _ 2 _ _ _ hp2).trans rfl;have p3:W2.cell? ⟨pb,3,none⟩=some a3:=(cell_of_row _ _ 3 _ _ _ hp2).trans rfl;have pz:∀i,W2.frozen? ⟨pb,i,none⟩=false:=fun i=>frozen_of_row _ _ _ _ _ hp2;have q0:W2.cell? ⟨qb,0,none⟩=some (.int .i64 0):=(cell_of_row _ _ 0 _ _ _ hq2).trans rfl;have q1:W2.cell? ⟨qb,1,none⟩=some (.int .i64 0):=(cell_of_row _ _ 1 _ _ _ hq2).trans rfl;have q2:W2.cell? ⟨qb,2,none⟩=some (.int .i64 0):=(cell_of_row _ _ 2 _ _ _ hq2).trans rfl;have q3:W2.cell? ⟨qb,3,none⟩=some (.int .i64 0):=(cell_of_row _ _ 3 _ _ _ hq2).trans rfl;have qz:∀i,W2.frozen? ⟨qb,i,none⟩=false:=fun i=>frozen_of_row _ _ _ _ _ hq2;have hne':¬qb=pb:=fun e=>hne e.symm;clear tA VK VL hp2 hq2;refine ay (rs:=[3]) (by kernel_rfl) (by simp) ?_;refine av.cons rfl (fun K hK=>?_) (av.nil);go_simp;refine hK.out _ _ tO.o ?_;clear hK K
 try simp only [Act.put,sq]
 refine ay (rs:=[4]) (by kernel_rfl) (by simp) ?_;refine av.past rfl (by kernel_rfl) (fun K hK=>?_) (av.nil);go_simp;refine hK.out _ _ ?_;clear hK K
 try simp only [Act.put,sq]
 refine aV (by kernel_rfl) ?_ _;go_wp2_with fail;have tB:=((((ak ((((W2.setCell ⟨pb,0,none⟩ (.int .i64 0)).setCell ⟨pb,1,none⟩ (.string ⟨#[]⟩)).setCell ⟨pb,2,none⟩ (.slice none 0 0)).setCell ⟨pb,3,none⟩ (.slice none 0 0)) (qb) 0 (.int .i64 0)).trans (ak _ (qb) 1 (.int .i64 g.1)) (fun _ _ h=>h)).trans (ak _ (qb) 2 (.int .i64 g.2.1)) (fun _ _ h=>h)).trans (ak _ (qb) 3 (.int .i64 g.2.2)) (fun _ _ h=>h))
 have h1:=(N8.o.mono (G:=fun k=>k=pb∨k=qb) (fun _ _ h=>h.elim)).trans ((K5.o.trans tB (fun _ _ h=>.inr h)).trans (hdr (fun k=>k=pb∨k=qb) _) (fun _ _ h=>h)) (fun _ _ h=>h);have h2:=ah HPA.o tB hne;have h3:=(bA (b:=qb) O9.o (.int .i64 0) (.int .i64 g.1) (.int .i64 g.2.1) (.int .i64 g.2.2))
 refine⟨rfl,_,rfl,.tuple #[],results_none rfl _ _ _,rfl,rfl,h1,?_,?_⟩
 ·rw [pQ];exact h2
 ·rw [pQ];exact h3
theorem UN (w:World)(s:Bt)(hX:mY w):Calls Tryz.prog 53 #[sv s,.func (.func 54) #[] #[]] w fun e w'=>Below w.heap.size w w'∧∃z:List Value,e=.returned (.tuple #[.agg z.toArray,zD (bZ (aU 100).typ s).2])∧nY w' (fun j=>w.heap.size<=j) z (vQ (aU 100).typ s Ay):=by
 have Mh:∀(fn:Fn) (first cap:Array Value) (w:World),(Instr.makeFunc fn first cap).run Tryz.prog w=.ok (.func fn first cap) w:=fun _ _ _ _=>rfl;have hent:∀w:World,(callFunc 54 #[]).run Tryz.prog w=.ok (.enter 54 #[]) w:=fun _=>by kernel_rfl
 have pQ:∀X:World,X.drew.heap=X.heap:=fun _=>rfl;have hdr:∀(G:Nat->Prop) (X:World),Turn G X X.drew:=fun _ _=>⟨rfl,rfl,rfl,Nat.le_refl _,fun _ _ _=>rfl⟩
 obtain⟨W0,hW0⟩:∃W0,((w.alloc (.cells #[.int .i64 0,.string ⟨#[]⟩,.slice none 0 0,.slice none 0 0] 57)).alloc (.cells #[.int .i64 0,.int .i64 0,.int .i64 0,.int .i64 0] 45))=W0:=⟨_,rfl⟩
 obtain⟨tw,_,hx0,hd0⟩:=jC (G:=fun _=>False) (Turn.refl _ ((w.alloc (.cells #[.int .i64 0,.string ⟨#[]⟩,.slice none 0 0,.slice none 0 0] 57)).alloc (.cells #[.int .i64 0,.int .i64 0,.int .i64 0,.int .i64 0] 45)));have hs0:W0.heap.size=w.heap.size+2:=by rw [<-hW0];simp
 have hb0:Below w.heap.size w W0:=by rw [<-hW0];exact new2 _ _ _
 rw [hW0]at tw hx0 hd0;have hx0:=hx0 id;have hd0:=hd0 id;have HX0:=aZ hx0;have HD0:=aZ hd0;have HB0:=aZ hb0;have MS:=aZ ((rD.of hX.1).below hb0);have HL:=aZ (FE W0 s (hX.below hb0));have HW0:=aZ hW0;obtain⟨Dg,yE⟩:∃Dg,(bZ (aU 100).typ s).2=Dg:=⟨_,rfl⟩
 obtain⟨V,hV⟩:∃V,vQ (aU 100).typ s Ay=V:=⟨_,rfl⟩
 rw [yE,hV];clear hX tw hx0 hd0 hb0 hW0;by_cases hE:(iU s).2.2.2=0
 ·have hz:=BO hE;obtain⟨T,hT⟩:∃T,iU s=(T,((0,0,0):Nat ×Nat ×Int)):=⟨(iU s).1,by rw [<-hz]⟩
  obtain⟨htk,hwf⟩:=Gb hE;rw [hT]at HL htk hwf;have VN:bR (bZ (aU 100).typ s=Lh (au (aU 100).typ (fun x=>au (fK 0) fun _=>aJ x) T)):=aZ (zF hT);have Sk:=aZ yE;have HV:=aZ hV;have Cu:=aZ htk;have Ej:=aZ hwf;clear hE hz hT htk hwf yE hV
  go_enter_defers Tryz.func53,Tryz.ntmps53
  go_wp2_with fail;rw [HW0.o];refine(HL.o).mono ?_;rintro e w1 ⟨v1,n1,rfl,hown,hb1⟩;obtain⟨Dv,c1',rfl,_,_⟩:=lM hown;have hs1:=hb1.size;have hx1:=(hb1.block (w.heap.size) (by omega)).trans HX0.o;have hd1:=(hb1.block (w.heap.size+1) (by omega)).trans HD0.o;have HB1:=aZ (HB0.o.trans (hb1.mono (by omega)));have Jf:=aZ (MS.o.below (hb1.mono (by omega)));obtain⟨x0,x1,x2,x3,xz⟩:=dA hd1;have t1:=eO w1 (w.heap.size+1) (.int .i64 0) (.int .i64 0) (.int .i64 0) (.int .i64 0);have vR:=aZ (ah hx1 t1 (by omega));have HD1:=aZ (bA hd1 (.int .i64 0) (.int .i64 0) (.int .i64 0) (.int .i64 0));have HT1:=aZ t1;have hsp:(dW w1 (w.heap.size+1) (.int .i64 0) (.int .i64 0) (.int .i64 0) (.int .i64 0)).heap.size=w1.heap.size:=by simp [dW]
  have HOWN:=aZ hown;rw [show Ck (0,0,0)=.agg #[.int .i64 0,.int .i64 0,.int .i64 0,.int .i64 0]from rfl];obtain⟨W2,hW2⟩:∃W2,(dW w1 (w.heap.size+1) (.int .i64 0) (.int .i64 0) (.int .i64 0) (.int .i64 0)).alloc (.cells #[.slice Dv n1 c1',.int .i64 0] 151)=W2:=⟨_,rfl⟩
  have t2:Turn (fun k=>k=w.heap.size+1) w1 W2:=by rw [<-hW2];exact t1.trans (Turn.alloc _ _ _) (fun _ _ h=>h)
  have hb2:=Dc (dW w1 (w.heap.size+1) (.int .i64 0) (.int .i64 0) (.int .i64 0) (.int .i64 0)) (.cells #[.slice Dv n1 c1',.int .i64 0] 151);rw [hW2,hsp]at hb2;have hs2:W2.heap.size=w1.heap.size+1:=by rw [<-hW2];simp [dW]
  have VO:=aZ (by have:=bV (o':=(.cells #[.slice Dv n1 c1',.int .i64 0] 151)) vR.o;rwa [hW2]at this);have HD2:=aZ (by have:=bV (o':=(.cells #[.slice Dv n1 c1',.int .i64 0] 151)) HD1.o;rwa [hW2]at this);have hsl:Sl W2 w1.heap.size 4 (.slice Dv n1 c1') (eF T):=((eD.own (F:=fun j=>W0.heap.size<=j∧j<w1.heap.size) hown (fun g hg=>hown.lt g hg)).turn t2 (fun g _ h e=>by have:=h.1;omega)).to (fun g _ h=>h.2);have htb:C9 w1.heap.size W2 (.slice Dv n1 c1'):=fun b o n c e=>by
   injection e with e _ _;subst e;rcases hown.2 with⟨h,_⟩ |⟨g,cap,cur,h,hg,VQ,_⟩
   ·injection h with h;cases h
   ·injection h with h _ _;injection h with h;injection h with h _;subst h;exact⟨block_lt VQ,_,ah VQ t2 (by omega)⟩
  have Jg:=aZ (Jf.o.below (t2.below (by omega) (fun k hk e=>by omega)));have HK:=aZ (show bX W2 w1.heap.size w1.heap.size T 0 from⟨Nat.le_refl _,Cu.o,Ej.o,_,hb2,hsl,fun w' hb'=>Jg.o w' (fun k hk=>hb' k (by omega)),htb⟩);have HT2:=aZ (HB1.o.trans (t2.below (B:=w.heap.size) (by omega) (fun k hk e=>by omega)));have HR:=aZ (MQ W2 w1.heap.size w1.heap.size T HK.o);have HW2:=aZ hW2;clear hown hb1 hx1 hd1 t1 t2 hb2 hsl hW2 HOWN htb;go_wp2_with fail;rw [HW2.o];refine(HR.o).mono ?_;rintro e w3 h3;rcases hq:(aU 100).typ T with g |⟨x,r3⟩
  ·obtain⟨rfl,tn,bn⟩:=h3.bY hq;have yL:bR (bZ (aU 100).typ s=(none,g)):=aZ (by rw [VN.o,aB hq];rfl);have Sm:=aZ (ah VO.o tn (by omega));have Sn:=aZ (ah HD2.o tn (by omega));have Jh:=aZ (HT2.o.trans (tn.below (B:=w.heap.size) (by omega) (fun k hk e=>by omega)));clear h3 tn bn hq;go_wp2_with fail;refine leaves_cons (f:=112) (args:= #[.pointer (some ⟨w.heap.size,0,none⟩),.pointer (some ⟨w.heap.size+1,0,none⟩)]) (by simp) (by simp [go_sem]) ?_;refine(Fb w.heap.size (w.heap.size+1) (by omega) g [] _ Sm.o Sn.o).mono ?_;rintro e u9 w9 ⟨rfl,rfl,t9,p9,q9⟩;have e1:Dg=g:=by rw [<-Sk.o,yL.o]
   have e2:V=Ay:=by rw [<-HV.o];unfold vQ;rw [yL.o];rfl
   subst e1 e2;exact⟨_,dX rfl rfl rfl p9 q9 Tryz.underlying57 rfl (by kernel_rfl) Tryz.underlying45 rfl (by kernel_rfl),Jh.o.trans (t9.below (by have:=Jh.o.size;omega) (fun k hk e=>by omega)),_,rfl,.mk (eD.nil _ _ _) (eD.nil _ _ _) .nil⟩
  ·obtain⟨v3,rfl,tn,⟨z0,rfl,hz0⟩,kn⟩:=h3.aR hq;have hzc:=hz0;obtain⟨k4,s4,A1,n1',c1,A2,n2,c2,rfl⟩:=hzc.shape';have hs3:=tn.size;have hx3:=ah VO.o tn (by omega);have hd3:=ah HD2.o tn (by omega);have t4:Turn (fun k=>k=w.heap.size) w3 ((((w3.setCell ⟨w.heap.size,0,none⟩ (.int .i64 k4)).setCell ⟨w.heap.size,1,none⟩ (sv s4)).setCell ⟨w.heap.size,2,none⟩ (.slice A1 n1' c1)).setCell ⟨w.heap.size,3,none⟩ (.slice A2 n2 c2)):=((((ak w3 (w.heap.size) 0 (.int .i64 k4)).trans (ak _ (w.heap.size) 1 (sv s4)) (fun _ _ h=>h)).trans (ak _ (w.heap.size) 2 (.slice A1 n1' c1)) (fun _ _ h=>h)).trans (ak _ (w.heap.size) 3 (.slice A2 n2 c2)) (fun _ _ h=>h))
   have CS:=aZ ((bA (b:=w.heap.size) hx3 (.int .i64 k4) (sv s4) (.slice A1 n1' c1) (.slice A2 n2 c2)));have HD4:=aZ (ah hd3 t4 (by omega));have Sq:=aZ ((Jg.o.below (tn.below (by omega) (fun k hk e=>by omega))).below (t4.below (by omega) (fun k hk e=>by omega)));have mR:=aZ (kn.apart t4 (by omega) (fun g e _=>by have e:g=w.heap.size:=e;subst e;exact⟨_,_,hx3,by decide⟩) (fun w' hb'=>Sq.o w' (fun k hk=>hb' k (by omega))));have iX:=aZ (HT2.o.trans ((tn.below (B:=w.heap.size) (by omega) (fun k hk e=>by omega)).trans (t4.below (B:=w.heap.size) (by omega) (fun k hk e=>by omega))));have zu:=aZ (hz0.turn t4 (fun g _ h e=>by omega));have VR:bR (bZ (aU 100).typ s=Lh (au (fK 0) (fun _=>aJ x) r3)):=aZ (by rw [VN.o,aj hq]);have WJ:=aZ (rE ((((w3.setCell ⟨w.heap.size,0,none⟩ (.int .i64 k4)).setCell ⟨w.heap.size,1,none⟩ (sv s4)).setCell ⟨w.heap.size,2,none⟩ (.slice A1 n1' c1)).setCell ⟨w.heap.size,3,none⟩ (.slice A2 n2 c2)) w1.heap.size w1.heap.size r3 0 mR.o 0);have u0:w3.cell? ⟨w.heap.size,0,none⟩=some (.int .i64 0):=(cell_of_row _ _ 0 _ _ _ hx3).trans rfl;have u1:w3.cell? ⟨w.heap.size,1,none⟩=some (.string ⟨#[]⟩):=(cell_of_row _ _ 1 _ _ _ hx3).trans rfl;have u2:w3.cell? ⟨w.heap.size,2,none⟩=some (.slice none 0 0):=(cell_of_row _ _ 2 _ _ _ hx3).trans rfl;have u3:w3.cell? ⟨w.heap.size,3,none⟩=some (.slice none 0 0):=(cell_of_row _ _ 3 _ _ _ hx3).trans rfl;have uz:∀i,w3.frozen? ⟨w.heap.size,i,none⟩=false:=fun i=>frozen_of_row _ _ _ _ _ hx3;clear h3 tn kn hz0 hzc hq hx3 hd3 t4;go_wp2_with fail;refine(WJ.o).mono ?_;rintro e w5 h5;rcases hq:fK 0 r3 with g |⟨sx,r5⟩
   ·obtain⟨rfl,tn,bn⟩:=h5.bY hq;have yL:bR (bZ (aU 100).typ s=(none,g)):=aZ (by rw [VR.o,aB hq];rfl);have Sm:=aZ (ah CS.o tn (by omega));have Sn:=aZ (ah HD4.o tn (by omega));have Jh:=aZ (iX.o.trans (tn.below (B:=w.heap.size) (by have:=iX.o.size;omega) (fun k hk e=>by omega)));clear h5 tn bn hq;go_wp2_with fail;refine leaves_cons (f:=112) (args:= #[.pointer (some ⟨w.heap.size,0,none⟩),.pointer (some ⟨w.heap.size+1,0,none⟩)]) (by simp) (by simp [go_sem]) ?_;refine(Fb w.heap.size (w.heap.size+1) (by omega) g [] _ Sm.o Sn.o).mono ?_;rintro e u9 w9 ⟨rfl,rfl,t9,p9,q9⟩;have e1:Dg=g:=by rw [<-Sk.o,yL.o]
    have e2:V=Ay:=by rw [<-HV.o];unfold vQ;rw [yL.o];rfl
    subst e1 e2;exact⟨_,dX rfl rfl rfl p9 q9 Tryz.underlying57 rfl (by kernel_rfl) Tryz.underlying45 rfl (by kernel_rfl),Jh.o.trans (t9.below (by have:=Jh.o.size;omega) (fun k hk e=>by omega)),_,rfl,.mk (eD.nil _ _ _) (eD.nil _ _ _) .nil⟩
   ·obtain⟨v5,rfl,tn,-,kn⟩:=h5.aR hq;have yL:bR (bZ (aU 100).typ s=(some x,(0,0,0))):=aZ (by rw [VR.o,aj hq];rfl);have Bo:=aZ (ah CS.o tn (by omega));have HD5:=aZ (ah HD4.o tn (by omega));have iQ:=aZ (iX.o.trans (tn.below (B:=w.heap.size) (by have:=iX.o.size;omega) (fun k hk e=>by omega)));have zZ:=aZ (zu.o.turn tn (fun g _ h e=>by omega));clear h5 tn kn hq uz u0 u1 u2 u3;have PX:=aZ (fun(w':World) (h:w'.heap[w.heap.size]? =some (.cells #[.int .i64 k4,sv s4,.slice A1 n1' c1,.slice A2 n2 c2] 57 (0,0))∧w'.heap[w.heap.size+1]? =some (.cells #[.int .i64 0,.int .i64 0,.int .i64 0,.int .i64 0] 45 (0,0)))=>(⟨(cell_of_row _ _ _ _ _ _ h.1).trans rfl,(cell_of_row _ _ _ _ _ _ h.1).trans rfl,(cell_of_row _ _ _ _ _ _ h.1).trans rfl,(cell_of_row _ _ _ _ _ _ h.1).trans rfl⟩:w'.cell? ⟨w.heap.size,0,none⟩=some (.int .i64 k4)∧w'.cell? ⟨w.heap.size,1,none⟩=some (sv s4)∧w'.cell? ⟨w.heap.size,2,none⟩=some (.slice A1 n1' c1)∧w'.cell? ⟨w.heap.size,3,none⟩=some (.slice A2 n2 c2)));have PD:=aZ (fun(w':World) (h:w'.heap[w.heap.size]? =some (.cells #[.int .i64 k4,sv s4,.slice A1 n1' c1,.slice A2 n2 c2] 57 (0,0))∧w'.heap[w.heap.size+1]? =some (.cells #[.int .i64 0,.int .i64 0,.int .i64 0,.int .i64 0] 45 (0,0)))=>(⟨(cell_of_row _ _ _ _ _ _ h.2).trans rfl,(cell_of_row _ _ _ _ _ _ h.2).trans rfl,(cell_of_row _ _ _ _ _ _ h.2).trans rfl,(cell_of_row _ _ _ _ _ _ h.2).trans rfl⟩:w'.cell? ⟨w.heap.size+1,0,none⟩=some (.int .i64 0)∧w'.cell? ⟨w.heap.size+1,1,none⟩=some (.int .i64 0)∧w'.cell? ⟨w.heap.size+1,2,none⟩=some (.int .i64 0)∧w'.cell? ⟨w.heap.size+1,3,none⟩=some (.int .i64 0)))
    have Ep:bR (w5.drew.heap[w.heap.size]? =some (.cells #[.int .i64 k4,sv s4,.slice A1 n1' c1,.slice A2 n2 c2] 57 (0,0))∧w5.drew.heap[w.heap.size+1]? =some (.cells #[.int .i64 0,.int .i64 0,.int .i64 0,.int .i64 0] 45 (0,0))):=aZ ⟨by rw [pQ];exact Bo.o,by rw [pQ];exact HD5.o⟩;have ka0:w5.cell? ⟨w.heap.size,0,none⟩=some (.int .i64 k4):=(cell_of_row _ _ 0 _ _ _ Bo.o).trans rfl;have ka1:w5.cell? ⟨w.heap.size,1,none⟩=some (sv s4):=(cell_of_row _ _ 1 _ _ _ Bo.o).trans rfl;have ka2:w5.cell? ⟨w.heap.size,2,none⟩=some (.slice A1 n1' c1):=(cell_of_row _ _ 2 _ _ _ Bo.o).trans rfl;have ka3:w5.cell? ⟨w.heap.size,3,none⟩=some (.slice A2 n2 c2):=(cell_of_row _ _ 3 _ _ _ Bo.o).trans rfl;have kaz:∀i,w5.frozen? ⟨w.heap.size,i,none⟩=false:=fun i=>frozen_of_row _ _ _ _ _ Bo.o;have la0:w5.cell? ⟨w.heap.size+1,0,none⟩=some (.int .i64 0):=(cell_of_row _ _ 0 _ _ _ HD5.o).trans rfl;have la1:w5.cell? ⟨w.heap.size+1,1,none⟩=some (.int .i64 0):=(cell_of_row _ _ 1 _ _ _ HD5.o).trans rfl;have la2:w5.cell? ⟨w.heap.size+1,2,none⟩=some (.int .i64 0):=(cell_of_row _ _ 2 _ _ _ HD5.o).trans rfl;have la3:w5.cell? ⟨w.heap.size+1,3,none⟩=some (.int .i64 0):=(cell_of_row _ _ 3 _ _ _ HD5.o).trans rfl;have laz:∀i,w5.frozen? ⟨w.heap.size+1,i,none⟩=false:=fun i=>frozen_of_row _ _ _ _ _ HD5.o;have tA:=((((ak w5 (w.heap.size) 0 (.int .i64 k4)).trans (ak _ (w.heap.size) 1 (sv s4)) (fun _ _ h=>h)).trans (ak _ (w.heap.size) 2 (.slice A1 n1' c1)) (fun _ _ h=>h)).trans (ak _ (w.heap.size) 3 (.slice A2 n2 c2)) (fun _ _ h=>h))
    have vY:=(bA (b:=w.heap.size) Bo.o (.int .i64 k4) (sv s4) (.slice A1 n1' c1) (.slice A2 n2 c2))
    have vZ:=ah HD5.o tA (by omega);have tB:=((((ak ((((w5.setCell ⟨w.heap.size,0,none⟩ (.int .i64 k4)).setCell ⟨w.heap.size,1,none⟩ (sv s4)).setCell ⟨w.heap.size,2,none⟩ (.slice A1 n1' c1)).setCell ⟨w.heap.size,3,none⟩ (.slice A2 n2 c2)) (w.heap.size+1) 0 (.int .i64 0)).trans (ak _ (w.heap.size+1) 1 (.int .i64 0)) (fun _ _ h=>h)).trans (ak _ (w.heap.size+1) 2 (.int .i64 0)) (fun _ _ h=>h)).trans (ak _ (w.heap.size+1) 3 (.int .i64 0)) (fun _ _ h=>h))
    have HXB:=aZ (ah vY tB (by omega));have mP:=aZ ((bA (b:=w.heap.size+1) vZ (.int .i64 0) (.int .i64 0) (.int .i64 0) (.int .i64 0)));have nJ:=aZ ((tA.mono (G:=fun k=>k=w.heap.size∨k=w.heap.size+1) (fun _ _ h=>.inl h)).trans tB (fun _ _ h=>.inr h));have tO:bR (((((w5.setCell ⟨w.heap.size,0,none⟩ (.int .i64 k4)).setCell ⟨w.heap.size,1,none⟩ (sv s4)).setCell ⟨w.heap.size,2,none⟩ (.slice A1 n1' c1)).setCell ⟨w.heap.size,3,none⟩ (.slice A2 n2 c2)).drew.heap[w.heap.size]? =some (.cells #[.int .i64 k4,sv s4,.slice A1 n1' c1,.slice A2 n2 c2] 57 (0,0))∧((((w5.setCell ⟨w.heap.size,0,none⟩ (.int .i64 k4)).setCell ⟨w.heap.size,1,none⟩ (sv s4)).setCell ⟨w.heap.size,2,none⟩ (.slice A1 n1' c1)).setCell ⟨w.heap.size,3,none⟩ (.slice A2 n2 c2)).drew.heap[w.heap.size+1]? =some (.cells #[.int .i64 0,.int .i64 0,.int .i64 0,.int .i64 0] 45 (0,0))):=aZ ⟨by rw [pQ];exact vY,by rw [pQ];exact vZ⟩;clear tA vY vZ tB;go_wp2_with fail;refine dn (S:=fun w'=>w'.heap[w.heap.size]? =some (.cells #[.int .i64 k4,sv s4,.slice A1 n1' c1,.slice A2 n2 c2] 57 (0,0))∧w'.heap[w.heap.size+1]? =some (.cells #[.int .i64 0,.int .i64 0,.int .i64 0,.int .i64 0] 45 (0,0))) (x:=3) (by kernel_rfl) ?_
    try simp only [Act.put,sq]
    refine nM 0 (.agg #[.int .i64 k4,sv s4,.slice A1 n1' c1,.slice A2 n2 c2]) PX.o Ep.o (hQ:=nS rfl (by decide) (by decide)) ?_;refine nM 1 (.agg #[.int .i64 0,.int .i64 0,.int .i64 0,.int .i64 0]) PD.o Ep.o (hQ:=nS rfl (by decide) (by decide)) ?_;refine ay (rs:=[2]) (by kernel_rfl) (by simp) ?_;refine av.cons rfl (fun K hK=>?_) (av.nil);go_simp;refine hK.out _ _ tO.o ?_;clear hK K
    try simp only [Act.put,sq]
    refine ay (rs:=[3]) (by kernel_rfl) (by simp) ?_;refine av.past rfl (by kernel_rfl) (fun K hK=>?_) (av.nil);go_simp;refine hK.out _ _ ?_;clear hK K
    try simp only [Act.put,sq]
    refine aV (by kernel_rfl) ?_ _;go_wp2_with fail;refine leaves_cons (f:=112) (args:= #[.pointer (some ⟨w.heap.size,0,none⟩),.pointer (some ⟨w.heap.size+1,0,none⟩)]) (by simp) (by simp [go_sem]) ?_;refine(Sw _ _ _).mono ?_;rintro e u9 w9 ⟨rfl,rfl,rfl⟩;have e1:Dg=(0,0,0):=by rw [<-Sk.o,yL.o]
    have e2:V=x:=by rw [<-HV.o];unfold vQ;rw [yL.o];rfl
    subst e1 e2;have UF:=(zZ.o.turn nJ.o (fun g _ h e=>by omega)).turn (hdr (fun _=>False) _) (fun _ _ _=>id);have Cv:=(iQ.o.trans (nJ.o.below (B:=w.heap.size) (by have:=iQ.o.size;omega) (fun k hk e=>by omega))).trans ((hdr (fun _=>False) _).below (by have:=iQ.o.size;have:=nJ.o.size;omega) (fun _ _=>id));exact⟨_,dX rfl rfl rfl (by rw [pQ];exact HXB.o) (by rw [pQ];exact mP.o) Tryz.underlying57 rfl (by kernel_rfl) Tryz.underlying45 rfl (by kernel_rfl),Cv,_,rfl,UF.mono (fun g _ h=>by omega)⟩
 ·have Sr:bZ (aU 100).typ s=(none,(iU s).2):=by unfold bZ;rw [if_neg hE]
  have e1:Dg=(iU s).2:=by rw [<-yE,Sr]
  have e2:V=Ay:=by rw [<-hV];unfold vQ;rw [Sr];rfl
  subst e2;obtain⟨T,D1,hT⟩:∃T D1,iU s=(T,D1):=⟨_,_,rfl⟩
  rw [hT]at HL e1 hE;have e1:=e1.symm;subst e1;have hE1:(D1.2.2 != 0)=true:=by simpa using hE
  clear hE Sr yE hV hT
  go_enter_defers Tryz.func53,Tryz.ntmps53
  go_wp2_with fail;rw [HW0.o];have VT:Ck D1=.agg #[.int .i64 0,.int .i64 D1.1,.int .i64 D1.2.1,.int .i64 D1.2.2]:=rfl;refine(HL.o).mono ?_;rintro e w1 ⟨v1,n1,rfl,hown,hb1⟩;obtain⟨Dv,c1',rfl,_,_⟩:=lM hown;have hs1:=hb1.size;have hx1:=(hb1.block (w.heap.size) (by omega)).trans HX0.o;have hd1:=(hb1.block (w.heap.size+1) (by omega)).trans HD0.o;have HB1:=aZ (HB0.o.trans (hb1.mono (by omega)));have Jf:=aZ (MS.o.below (hb1.mono (by omega)));obtain⟨x0,x1,x2,x3,xz⟩:=dA hd1;have t1:=eO w1 (w.heap.size+1) (.int .i64 0) (.int .i64 D1.1) (.int .i64 D1.2.1) (.int .i64 D1.2.2);have vR:=aZ (ah hx1 t1 (by omega));have HD1:=aZ (bA hd1 (.int .i64 0) (.int .i64 D1.1) (.int .i64 D1.2.1) (.int .i64 D1.2.2));have HT1:=aZ t1;have hsp:(dW w1 (w.heap.size+1) (.int .i64 0) (.int .i64 D1.1) (.int .i64 D1.2.1) (.int .i64 D1.2.2)).heap.size=w1.heap.size:=by simp [dW]
  have HOWN:=aZ hown;rw [VT];clear hown hb1 hx1 hd1 t1 VT;have PX:=aZ (fun(w':World) (h:w'.heap[w.heap.size]? =some (.cells #[.int .i64 0,.string ⟨#[]⟩,.slice none 0 0,.slice none 0 0] 57 (0,0))∧w'.heap[w.heap.size+1]? =some (.cells #[.int .i64 0,.int .i64 D1.1,.int .i64 D1.2.1,.int .i64 D1.2.2] 45 (0,0)))=>(⟨(cell_of_row _ _ _ _ _ _ h.1).trans rfl,(cell_of_row _ _ _ _ _ _ h.1).trans rfl,(cell_of_row _ _ _ _ _ _ h.1).trans rfl,(cell_of_row _ _ _ _ _ _ h.1).trans rfl⟩:w'.cell? ⟨w.heap.size,0,none⟩=some (.int .i64 0)∧w'.cell? ⟨w.heap.size,1,none⟩=some (.string ⟨#[]⟩)∧w'.cell? ⟨w.heap.size,2,none⟩=some (.slice none 0 0)∧w'.cell? ⟨w.heap.size,3,none⟩=some (.slice none 0 0)));have PD:=aZ (fun(w':World) (h:w'.heap[w.heap.size]? =some (.cells #[.int .i64 0,.string ⟨#[]⟩,.slice none 0 0,.slice none 0 0] 57 (0,0))∧w'.heap[w.heap.size+1]? =some (.cells #[.int .i64 0,.int .i64 D1.1,.int .i64 D1.2.1,.int .i64 D1.2.2] 45 (0,0)))=>(⟨(cell_of_row _ _ _ _ _ _ h.2).trans rfl,(cell_of_row _ _ _ _ _ _ h.2).trans rfl,(cell_of_row _ _ _ _ _ _ h.2).trans rfl,(cell_of_row _ _ _ _ _ _ h.2).trans rfl⟩:w'.cell? ⟨w.heap.size+1,0,none⟩=some (.int .i64 0)∧w'.cell? ⟨w.heap.size+1,1,none⟩=some (.int .i64 D1.1)∧w'.cell? ⟨w.heap.size+1,2,none⟩=some (.int .i64 D1.2.1)∧w'.cell? ⟨w.heap.size+1,3,none⟩=some (.int .i64 D1.2.2)))
  have Ep:bR ((dW w1 (w.heap.size+1) (.int .i64 0) (.int .i64 D1.1) (.int .i64 D1.2.1) (.int .i64 D1.2.2)).drew.heap[w.heap.size]? =some (.cells #[.int .i64 0,.string ⟨#[]⟩,.slice none 0 0,.slice none 0 0] 57 (0,0))∧(dW w1 (w.heap.size+1) (.int .i64 0) (.int .i64 D1.1) (.int .i64 D1.2.1) (.int .i64 D1.2.2)).drew.heap[w.heap.size+1]? =some (.cells #[.int .i64 0,.int .i64 D1.1,.int .i64 D1.2.1,.int .i64 D1.2.2] 45 (0,0))):=aZ ⟨by rw [pQ];exact vR.o,by rw [pQ];exact HD1.o⟩;have ka0:(dW w1 (w.heap.size+1) (.int .i64 0) (.int .i64 D1.1) (.int .i64 D1.2.1) (.int .i64 D1.2.2)).cell? ⟨w.heap.size,0,none⟩=some (.int .i64 0):=(cell_of_row _ _ 0 _ _ _ vR.o).trans rfl;have ka1:(dW w1 (w.heap.size+1) (.int .i64 0) (.int .i64 D1.1) (.int .i64 D1.2.1) (.int .i64 D1.2.2)).cell? ⟨w.heap.size,1,none⟩=some (.string ⟨#[]⟩):=(cell_of_row _ _ 1 _ _ _ vR.o).trans rfl;have ka2:(dW w1 (w.heap.size+1) (.int .i64 0) (.int .i64 D1.1) (.int .i64 D1.2.1) (.int .i64 D1.2.2)).cell? ⟨w.heap.size,2,none⟩=some (.slice none 0 0):=(cell_of_row _ _ 2 _ _ _ vR.o).trans rfl;have ka3:(dW w1 (w.heap.size+1) (.int .i64 0) (.int .i64 D1.1) (.int .i64 D1.2.1) (.int .i64 D1.2.2)).cell? ⟨w.heap.size,3,none⟩=some (.slice none 0 0):=(cell_of_row _ _ 3 _ _ _ vR.o).trans rfl;have kaz:∀i,(dW w1 (w.heap.size+1) (.int .i64 0) (.int .i64 D1.1) (.int .i64 D1.2.1) (.int .i64 D1.2.2)).frozen? ⟨w.heap.size,i,none⟩=false:=fun i=>frozen_of_row _ _ _ _ _ vR.o;have la0:(dW w1 (w.heap.size+1) (.int .i64 0) (.int .i64 D1.1) (.int .i64 D1.2.1) (.int .i64 D1.2.2)).cell? ⟨w.heap.size+1,0,none⟩=some (.int .i64 0):=(cell_of_row _ _ 0 _ _ _ HD1.o).trans rfl
  have la1:(dW w1 (w.heap.size+1) (.int .i64 0) (.int .i64 D1.1) (.int .i64 D1.2.1) (.int .i64 D1.2.2)).cell? ⟨w.heap.size+1,1,none⟩=some (.int .i64 D1.1):=(cell_of_row _ _ 1 _ _ _ HD1.o).trans rfl;have la2:(dW w1 (w.heap.size+1) (.int .i64 0) (.int .i64 D1.1) (.int .i64 D1.2.1) (.int .i64 D1.2.2)).cell? ⟨w.heap.size+1,2,none⟩=some (.int .i64 D1.2.1):=(cell_of_row _ _ 2 _ _ _ HD1.o).trans rfl;have la3:(dW w1 (w.heap.size+1) (.int .i64 0) (.int .i64 D1.1) (.int .i64 D1.2.1) (.int .i64 D1.2.2)).cell? ⟨w.heap.size+1,3,none⟩=some (.int .i64 D1.2.2):=(cell_of_row _ _ 3 _ _ _ HD1.o).trans rfl;have laz:∀i,(dW w1 (w.heap.size+1) (.int .i64 0) (.int .i64 D1.1) (.int .i64 D1.2.1) (.int .i64 D1.2.2)).frozen? ⟨w.heap.size+1,i,none⟩=false:=fun i=>frozen_of_row _ _ _ _ _ HD1.o;have tA:=((((ak (dW w1 (w.heap.size+1) (.int .i64 0) (.int .i64 D1.1) (.int .i64 D1.2.1) (.int .i64 D1.2.2)) (w.heap.size) 0 (.int .i64 0)).trans (ak _ (w.heap.size) 1 (.string ⟨#[]⟩)) (fun _ _ h=>h)).trans (ak _ (w.heap.size) 2 (.slice none 0 0)) (fun _ _ h=>h)).trans (ak _ (w.heap.size) 3 (.slice none 0 0)) (fun _ _ h=>h))
  have vY:=(bA (b:=w.heap.size) vR.o (.int .i64 0) (.string ⟨#[]⟩) (.slice none 0 0) (.slice none 0 0))
  have vZ:=ah HD1.o tA (by omega);have tB:=((((ak (((((dW w1 (w.heap.size+1) (.int .i64 0) (.int .i64 D1.1) (.int .i64 D1.2.1) (.int .i64 D1.2.2)).setCell ⟨w.heap.size,0,none⟩ (.int .i64 0)).setCell ⟨w.heap.size,1,none⟩ (.string ⟨#[]⟩)).setCell ⟨w.heap.size,2,none⟩ (.slice none 0 0)).setCell ⟨w.heap.size,3,none⟩ (.slice none 0 0)) (w.heap.size+1) 0 (.int .i64 0)).trans (ak _ (w.heap.size+1) 1 (.int .i64 D1.1)) (fun _ _ h=>h)).trans (ak _ (w.heap.size+1) 2 (.int .i64 D1.2.1)) (fun _ _ h=>h)).trans (ak _ (w.heap.size+1) 3 (.int .i64 D1.2.2)) (fun _ _ h=>h))
  have HXB:=aZ (ah vY tB (by omega));have mP:=aZ ((bA (b:=w.heap.size+1) vZ (.int .i64 0) (.int .i64 D1.1) (.int .i64 D1.2.1) (.int .i64 D1.2.2)));have nJ:=aZ ((tA.mono (G:=fun k=>k=w.heap.size∨k=w.heap.size+1) (fun _ _ h=>.inl h)).trans tB (fun _ _ h=>.inr h));have tO:bR ((((((dW w1 (w.heap.size+1) (.int .i64 0) (.int .i64 D1.1) (.int .i64 D1.2.1) (.int .i64 D1.2.2)).setCell ⟨w.heap.size,0,none⟩ (.int .i64 0)).setCell ⟨w.heap.size,1,none⟩ (.string ⟨#[]⟩)).setCell ⟨w.heap.size,2,none⟩ (.slice none 0 0)).setCell ⟨w.heap.size,3,none⟩ (.slice none 0 0)).drew.heap[w.heap.size]? =some (.cells #[.int .i64 0,.string ⟨#[]⟩,.slice none 0 0,.slice none 0 0] 57 (0,0))∧(((((dW w1 (w.heap.size+1) (.int .i64 0) (.int .i64 D1.1) (.int .i64 D1.2.1) (.int .i64 D1.2.2)).setCell ⟨w.heap.size,0,none⟩ (.int .i64 0)).setCell ⟨w.heap.size,1,none⟩ (.string ⟨#[]⟩)).setCell ⟨w.heap.size,2,none⟩ (.slice none 0 0)).setCell ⟨w.heap.size,3,none⟩ (.slice none 0 0)).drew.heap[w.heap.size+1]? =some (.cells #[.int .i64 0,.int .i64 D1.1,.int .i64 D1.2.1,.int .i64 D1.2.2] 45 (0,0))):=aZ ⟨by rw [pQ];exact vY,by rw [pQ];exact vZ⟩;clear tA vY vZ tB;go_wp2_with fail;refine dn (S:=fun w'=>w'.heap[w.heap.size]? =some (.cells #[.int .i64 0,.string ⟨#[]⟩,.slice none 0 0,.slice none 0 0] 57 (0,0))∧w'.heap[w.heap.size+1]? =some (.cells #[.int .i64 0,.int .i64 D1.1,.int .i64 D1.2.1,.int .i64 D1.2.2] 45 (0,0))) (x:=3) (by kernel_rfl) ?_
  try simp only [Act.put,sq]
  refine nM 0 (.agg #[.int .i64 0,.string ⟨#[]⟩,.slice none 0 0,.slice none 0 0]) PX.o Ep.o (hQ:=fun c a w h=>nS rfl (by decide) (by decide) c a w h) ?_;refine nM 1 (.agg #[.int .i64 0,.int .i64 D1.1,.int .i64 D1.2.1,.int .i64 D1.2.2]) PD.o Ep.o (hQ:=fun c a w h=>nS rfl (by decide) (by decide) c a w h) ?_;refine ay (rs:=[2]) (by kernel_rfl) (by simp) ?_;refine av.cons rfl (fun K hK=>?_) (av.nil);go_simp;refine hK.out _ _ tO.o ?_;clear hK K
  try simp only [Act.put,sq]
  refine ay (rs:=[3]) (by kernel_rfl) (by simp) ?_;refine av.past rfl (by kernel_rfl) (fun K hK=>?_) (av.nil);go_simp;refine hK.out _ _ ?_;clear hK K
  try simp only [Act.put,sq]
  refine aV (by kernel_rfl) ?_ _;go_wp2_with fail;have Cv:=((HB1.o.trans (HT1.o.below (B:=w.heap.size) (by omega) (fun k hk e=>by omega))).trans (nJ.o.below (B:=w.heap.size) (by rw [hsp];omega) (fun k hk e=>by omega))).trans ((hdr (fun _=>False) _).below (by have:=nJ.o.size;rw [hsp]at this;omega) (fun _ _=>id));exact⟨_,dX rfl rfl rfl (by rw [pQ];exact HXB.o) (by rw [pQ];exact mP.o) Tryz.underlying57 rfl (by kernel_rfl) Tryz.underlying45 rfl (by kernel_rfl),Cv,_,rfl,.mk (eD.nil _ _ _) (eD.nil _ _ _) .nil⟩
theorem Sy (w:World)(s:Bt)(hX:mY w):Calls Tryz.prog 24 #[sv s] w fun e w'=>Below w.heap.size w w'∧∃z:List Value,e=.returned (.tuple #[.agg z.toArray,zD (bZ (aU 100).typ s).2])∧nY w' (fun j=>w.heap.size<=j) z (vQ (aU 100).typ s Ay):=by
 obtain⟨W0,hW0⟩:∃W0,((w.alloc (.cells #[.int .i64 0,.string ⟨#[]⟩,.slice none 0 0,.slice none 0 0] 57)).alloc (.cells #[.int .i64 0,.int .i64 0,.int .i64 0,.int .i64 0] 45))=W0:=⟨_,rfl⟩
 obtain⟨tw,_,hx0,hd0⟩:=jC (G:=fun _=>False) (Turn.refl _ ((w.alloc (.cells #[.int .i64 0,.string ⟨#[]⟩,.slice none 0 0,.slice none 0 0] 57)).alloc (.cells #[.int .i64 0,.int .i64 0,.int .i64 0,.int .i64 0] 45)));have hs0:W0.heap.size=w.heap.size+2:=by rw [<-hW0];simp
 have hb0:Below w.heap.size w W0:=by rw [<-hW0];exact new2 _ _ _
 rw [hW0]at tw hx0 hd0;have HX0:=aZ (hx0 id);have HD0:=aZ (hd0 id);have HB0:=aZ hb0;have HA:=aZ (UN W0 s (hX.below hb0));have HW0:=aZ hW0;obtain⟨Dg,yE⟩:∃Dg,(bZ (aU 100).typ s).2=Dg:=⟨_,rfl⟩
 obtain⟨V,hV⟩:∃V,vQ (aU 100).typ s Ay=V:=⟨_,rfl⟩
 rw [yE,hV]at HA;rw [yE,hV];clear hX tw hx0 hd0 hb0 hW0 yE hV;go_enter Tryz.func24,Tryz.ntmps24;go_wp2_with fail;rw [HW0.o];refine(HA.o).mono ?_;rintro e w1 ⟨hb1,z0,rfl,hz0⟩;have hzc:=hz0;obtain⟨k4,s4,A1,n1',c1,A2,n2,c2,rfl⟩:=hzc.shape';have hs1:=hb1.size;have hx1:=(hb1.block (w.heap.size) (by omega)).trans HX0.o;have hd1:=(hb1.block (w.heap.size+1) (by omega)).trans HD0.o;have tA:Turn (fun k=>k=w.heap.size) w1 ((((w1.setCell ⟨w.heap.size,0,none⟩ (.int .i64 k4)).setCell ⟨w.heap.size,1,none⟩ (sv s4)).setCell ⟨w.heap.size,2,none⟩ (.slice A1 n1' c1)).setCell ⟨w.heap.size,3,none⟩ (.slice A2 n2 c2)):=((((ak w1 (w.heap.size) 0 (.int .i64 k4)).trans (ak _ (w.heap.size) 1 (sv s4)) (fun _ _ h=>h)).trans (ak _ (w.heap.size) 2 (.slice A1 n1' c1)) (fun _ _ h=>h)).trans (ak _ (w.heap.size) 3 (.slice A2 n2 c2)) (fun _ _ h=>h))
 have vY:=(bA (b:=w.heap.size) hx1 (.int .i64 k4) (sv s4) (.slice A1 n1' c1) (.slice A2 n2 c2))
 have vZ:=ah hd1 tA (by omega);have tB:=((((ak ((((w1.setCell ⟨w.heap.size,0,none⟩ (.int .i64 k4)).setCell ⟨w.heap.size,1,none⟩ (sv s4)).setCell ⟨w.heap.size,2,none⟩ (.slice A1 n1' c1)).setCell ⟨w.heap.size,3,none⟩ (.slice A2 n2 c2)) (w.heap.size+1) 0 (.int .i64 0)).trans (ak _ (w.heap.size+1) 1 (.int .i64 Dg.1)) (fun _ _ h=>h)).trans (ak _ (w.heap.size+1) 2 (.int .i64 Dg.2.1)) (fun _ _ h=>h)).trans (ak _ (w.heap.size+1) 3 (.int .i64 Dg.2.2)) (fun _ _ h=>h))
 have HXB:=aZ (ah vY tB (by omega));have mP:=aZ ((bA (b:=w.heap.size+1) vZ (.int .i64 0) (.int .i64 Dg.1) (.int .i64 Dg.2.1) (.int .i64 Dg.2.2)));have nJ:=aZ ((tA.mono (G:=fun k=>k=w.heap.size∨k=w.heap.size+1) (fun _ _ h=>.inl h)).trans tB (fun _ _ h=>.inr h));have HZ:=aZ hz0;have HB1:=aZ (HB0.o.trans (hb1.mono (by omega)));have u0:w1.cell? ⟨w.heap.size,0,none⟩=some (.int .i64 0):=(cell_of_row _ _ 0 _ _ _ hx1).trans rfl;have u1:w1.cell? ⟨w.heap.size,1,none⟩=some (.string ⟨#[]⟩):=(cell_of_row _ _ 1 _ _ _ hx1).trans rfl;have u2:w1.cell? ⟨w.heap.size,2,none⟩=some (.slice none 0 0):=(cell_of_row _ _ 2 _ _ _ hx1).trans rfl;have u3:w1.cell? ⟨w.heap.size,3,none⟩=some (.slice none 0 0):=(cell_of_row _ _ 3 _ _ _ hx1).trans rfl;have l0:w1.cell? ⟨w.heap.size+1,0,none⟩=some (.int .i64 0):=(cell_of_row _ _ 0 _ _ _ hd1).trans rfl;have l1:w1.cell? ⟨w.heap.size+1,1,none⟩=some (.int .i64 0):=(cell_of_row _ _ 1 _ _ _ hd1).trans rfl;have l2:w1.cell? ⟨w.heap.size+1,2,none⟩=some (.int .i64 0):=(cell_of_row _ _ 2 _ _ _ hd1).trans rfl;have l3:w1.cell? ⟨w.heap.size+1,3,none⟩=some (.int .i64 0):=(cell_of_row _ _ 3 _ _ _ hd1).trans rfl;have uz:∀i,w1.frozen? ⟨w.heap.size,i,none⟩=false:=fun i=>frozen_of_row _ _ _ _ _ hx1;have lz:∀i,w1.frozen? ⟨w.heap.size+1,i,none⟩=false:=fun i=>frozen_of_row _ _ _ _ _ hd1;clear hb1 hz0 hx1 hd1 tA vY vZ tB hzc;go_wp2_with fail;refine bodyPost_ret (dX rfl rfl rfl HXB.o mP.o Tryz.underlying57 rfl (by kernel_rfl) Tryz.underlying45 rfl (by kernel_rfl)) rfl ?_;exact⟨HB1.o.trans (nJ.o.below (B:=w.heap.size) (by omega) (fun k hk e=>by omega)),_,rfl,(HZ.o.turn nJ.o (fun g _ h e=>by omega)).mono (fun g _ h=>by omega)⟩
inductive SmN:bF->Prop
 |name {t:Bt}{n l c:Int}{ts:List bC}{ns:List Bt}{ks:List bF}(h:ks=[]):SmN (.mk 4 t n l c ts ns ks)
 |op {t:Bt}{n l c:Int}{ts:List bC}{ns:List Bt}{a b:bF}:SmN a->SmN b->SmN (.mk 14 t n l c ts ns [a,b])
def YL:bF:= .mk 14 [45] 0 1 7 [] [] [(.mk 14 [45] 0 1 3 [] [] [(.mk 4 [97] 0 1 1 [] [] []),(.mk 4 [98] 0 1 5 [] [] [])]),(.mk 14 [42] 0 1 11 [] [] [(.mk 4 [99] 0 1 9 [] [] []),(.mk 4 [100] 0 1 13 [] [] [])])]
def exB:bC:= .mk 6 [] [] [(.mk 7 [] [] [(.mk 3 [] [] []),(.mk 1 [] [] [])]),(.mk 5 [] [[97]] [(.mk 4 [] [] [])])]
def exC:yS:=⟨[],[⟨[102],false,[],[120],[(.mk 0 [] [] []),(.mk 0 [] [] [])],(.mk 4 [120] 0 1 11 [] [] []),1,1⟩]⟩
theorem VU:bZ (aU 100).expr [97,32,45,32,98,32,45,32,99,32,42,32,100]=(some YL,(0,0,0)):=by kernel_rfl
theorem VW:bZ (aU 100).typ [105,110,116,32,124,32,110,117,108,108,32,45,62,32,123,97,58,32,115,116,114,125]=(some exB,(0,0,0)):=by kernel_rfl
theorem VX:bZ fq [102,110,32,102,40,120,41,32,61,32,120,59]=(some exC,(0,0,0)):=by kernel_rfl
theorem aaR:bZ fq [102,110,32,102,40,120,41,32,61,32,59]=(none,(1,11,7)):=by kernel_rfl
theorem X5:oP YL=[40,40,97,32,45,32,98,41,32,45,32,40,99,32,42,32,100,41,41]:=by kernel_rfl
theorem Sz {w:World}{F:Nat->Prop}{z:List Value}(h:MR w F z exC):∃A1 n1 c1 b o c2 A2 c3,z=[.slice A1 n1 c1,.slice (some ⟨b,o,none⟩) 1 c2]∧w.cell? ⟨b,o+4,none⟩=some (.slice A2 2 c3)∧b<w.heap.size∧1<=c2:=by
 obtain⟨A1,c1,A2,c2,xi,xd,rfl,h1,h2,h3,h4⟩:=h.all.parts;obtain⟨A,n,c,hv,hl,hn,hc,hx⟩:=h3;injection hv with hv1 hv2 hv3;have hv2:(1:Nat)=n:=hv2;subst hv1 hv3;subst hv2;obtain⟨b,o,rfl,hb,hcell⟩:=hx (by omega);have h4:dH (Bw w w.heap.size) 15 xd [⟨[102],false,[],[120],[.mk 0 [] [] [],.mk 0 [] [] []],.mk 4 [120] 0 1 11 [] [] [],1,1⟩]:=h4;cases h4 with
 |cons hz hd ht=>
  cases ht;obtain⟨B1,d1,B2,d2,k,s,n,l,c,A3,n3,c3,A4,n4,c4,A5,n5,c5,xv,xt,rfl,_⟩:=hd.parts;exact⟨A1,_,c1,b,o,c2,B2,d2,rfl,hcell 4 _ rfl,hb,hn⟩
theorem OQ {w:World}{F:Nat->Prop}{z:List Value}(h:mX w F z YL):∃A1 n1 c1 A2 n2 c2 A3 n3 c3,z=[.int .i64 14,sv [45],.int .i64 0,.int .i64 1,.int .i64 7,.slice A1 n1 c1,.slice A2 n2 c2,.slice A3 n3 c3]:=by
 cases h with
 |mk h1 h2 h3 h4 h5=>
  obtain⟨A1,n1,c1,rfl,_⟩:=h1;obtain⟨A2,n2,c2,rfl,_⟩:=h3;obtain⟨A3,n3,c3,rfl,_⟩:=h4;exact⟨_,_,_,_,_,_,_,_,_,rfl⟩
theorem OT {w:World}{F:Nat->Prop}{z:List Value}(h:nY w F z exB):∃A1 n1 c1 A2 n2 c2,z=[.int .i64 6,sv [],.slice A1 n1 c1,.slice A2 n2 c2]:=by
 cases h with
 |mk h1 h2 h3=>
  obtain⟨A1,n1,c1,rfl,_⟩:=h1;obtain⟨A2,n2,c2,rfl,_⟩:=h2;exact⟨_,_,_,_,_,_,rfl⟩
theorem Jk (w:World)(hX:mY w):Calls Tryz.prog 18 #[] w fun e w'=>e=.returned (.bool true)∧Below w.heap.size w w':=by
 have HX:=aZ hX;have HA:=aZ (Jj w [97,32,45,32,98,32,45,32,99,32,42,32,100] hX);clear hX;go_enter Tryz.func18,Tryz.ntmps18;go_wp2_with fail;refine(HA.o).mono ?_;rintro e w1 ⟨hb1,z1,rfl,hz1⟩;rw [show vQ (aU 100).expr [97,32,45,32,98,32,45,32,99,32,42,32,100] vX=YL by unfold vQ;rw [VU];rfl]at hz1;rw [show(bZ (aU 100).expr [97,32,45,32,98,32,45,32,99,32,42,32,100]).2=(0,0,0) by rw [VU]];obtain⟨A1,n1,c1,A2,n2,c2,A3,n3,c3,rfl⟩:=OQ hz1;have hs1:=hb1.size;have HB1:=aZ hb1;have HZ1:=aZ hz1;have vR:=aZ (HX.o.below hb1);obtain⟨W1,hW1⟩:∃W1,(w1.alloc (.cells #[.int .i64 14,.string ⟨#[45]⟩,.int .i64 0,.int .i64 1,.int .i64 7,.slice A1 n1 c1,.slice A2 n2 c2,.slice A3 n3 c3] 52)).alloc (.cells #[.int .i64 0,.int .i64 0,.int .i64 0,.int .i64 0] 45)=W1:=⟨_,rfl⟩
 have UO:Below w1.heap.size w1 W1:=by rw [<-hW1];exact new2 _ _ _
 obtain⟨_,_,hn1,hd1⟩:=jC (G:=fun _=>False) (Turn.refl _ ((w1.alloc (.cells #[.int .i64 14,.string ⟨#[45]⟩,.int .i64 0,.int .i64 1,.int .i64 7,.slice A1 n1 c1,.slice A2 n2 c2,.slice A3 n3 c3] 52)).alloc (.cells #[.int .i64 0,.int .i64 0,.int .i64 0,.int .i64 0] 45)));rw [hW1]at hn1 hd1;have ah8:W1.heap.size=w1.heap.size+2:=by rw [<-hW1];simp
 have WK:=aZ (hn1 id);have HD1:=aZ (hd1 id);have aeo:=aZ (hb1.trans (UO.mono hs1));have aaS:=aZ (vR.o.below UO);have aep:=aZ (hz1.turn (Turn.of_below (F:=fun _=>False) UO) (fun _ _ _=>id));have HW1:=aZ hW1;have HT:=aZ (Sy W1 [105,110,116,32,124,32,110,117,108,108,32,45,62,32,123,97,58,32,115,116,114,125] aaS.o);clear hb1 hz1 UO hn1 hd1 hW1;go_wp2_with fail;rw [HW1.o];refine(HT.o).mono ?_;rintro e w2 ⟨hb2,z2,rfl,hz2⟩;rw [show vQ (aU 100).typ [105,110,116,32,124,32,110,117,108,108,32,45,62,32,123,97,58,32,115,116,114,125] Ay=exB by unfold vQ;rw [VW];rfl]at hz2;rw [show(bZ (aU 100).typ [105,110,116,32,124,32,110,117,108,108,32,45,62,32,123,97,58,32,115,116,114,125]).2=(0,0,0) by rw [VW]];obtain⟨B1,m1,e1,B2,m2,e2,rfl⟩:=OT hz2;have hs2:=hb2.size;obtain⟨W2,hW2⟩:∃W2,(w2.alloc (.cells #[.int .i64 6,.string ⟨#[]⟩,.slice B1 m1 e1,.slice B2 m2 e2] 57)).alloc (.cells #[.int .i64 0,.int .i64 0,.int .i64 0,.int .i64 0] 45)=W2:=⟨_,rfl⟩
 have hbw2:Below w2.heap.size w2 W2:=by rw [<-hW2];exact new2 _ _ _
 obtain⟨_,_,hn2,hd2⟩:=jC (G:=fun _=>False) (Turn.refl _ ((w2.alloc (.cells #[.int .i64 6,.string ⟨#[]⟩,.slice B1 m1 e1,.slice B2 m2 e2] 57)).alloc (.cells #[.int .i64 0,.int .i64 0,.int .i64 0,.int .i64 0] 45)));rw [hW2]at hn2 hd2;have ah9:W2.heap.size=w2.heap.size+2:=by rw [<-hW2];simp
 have Hu:=hb2.trans (hbw2.mono hs2);have WV:=aZ (hn2 id);have HD2:=aZ (hd2 id);have aaT:=aZ (aeo.o.trans (Hu.mono (by omega)));have OU:=aZ Hu;have aaU:=aZ (aaS.o.below Hu);have HW2:=aZ hW2;have HP:=aZ (Ji W2 [102,110,32,102,40,120,41,32,61,32,120,59] aaU.o);clear hb2 hz2 hbw2 hn2 hd2 hW2 Hu;go_wp2_with fail;rw [HW2.o];refine(HP.o).mono ?_;rintro e w3 ⟨hb3,z3,rfl,hz3⟩;rw [show vQ fq [102,110,32,102,40,120,41,32,61,32,120,59] Au=exC by unfold vQ;rw [VX];rfl]at hz3;rw [show(bZ fq [102,110,32,102,40,120,41,32,61,32,120,59]).2=(0,0,0) by rw [VX]];obtain⟨G1,p1,q1,bd,od,q2,G2,q3,rfl,hty,hbl,hq2⟩:=Sz hz3;have hs3:=hb3.size;obtain⟨W3,hW3⟩:∃W3,(w3.alloc (.cells #[.slice G1 p1 q1,.slice (some ⟨bd,od,none⟩) 1 q2] 40)).alloc (.cells #[.int .i64 0,.int .i64 0,.int .i64 0,.int .i64 0] 45)=W3:=⟨_,rfl⟩
 have wF:Below w3.heap.size w3 W3:=by rw [<-hW3];exact new2 _ _ _
 obtain⟨_,_,hn3,hd3⟩:=jC (G:=fun _=>False) (Turn.refl _ ((w3.alloc (.cells #[.slice G1 p1 q1,.slice (some ⟨bd,od,none⟩) 1 q2] 40)).alloc (.cells #[.int .i64 0,.int .i64 0,.int .i64 0,.int .i64 0] 45)));rw [hW3]at hn3 hd3;have aia:W3.heap.size=w3.heap.size+2:=by rw [<-hW3];simp
 have UQ:=hb3.trans (wF.mono hs3);have IJ:=aZ (hn3 id);have HD3:=aZ (hd3 id);have wP:=aZ ((wF.cell (p:=⟨bd,od+4,none⟩) hbl).trans hty);have aaV:=aZ (aaT.o.trans (UQ.mono (by have:=aaT.o.size;omega)));have OV:=aZ UQ;have aaW:=aZ (aaU.o.below UQ);have HW3:=aZ hW3;have HQ:=aZ (Ji W3 [102,110,32,102,40,120,41,32,61,32,59] aaW.o);clear hb3 hz3 wF hn3 hd3 hW3 UQ hty;go_wp2_with fail;rw [HW3.o];refine(HQ.o).mono ?_;rintro e w4 ⟨hb4,z4,rfl,YM⟩;rw [show(bZ fq [102,110,32,102,40,120,41,32,61,32,59]).2=(1,11,7) by rw [aaR]];have hzc:=YM;obtain⟨vi,xi,vd,xd,rfl,⟨K1,r1,r2,rfl,_⟩,_,⟨K2,r3,r4,rfl,_⟩,_⟩:=hzc;have hs4:=hb4.size;obtain⟨W4,JU⟩:∃W4,(w4.alloc (.cells #[.slice K1 r1 r2,.slice K2 r3 r4] 40)).alloc (.cells #[.int .i64 0,.int .i64 1,.int .i64 11,.int .i64 7] 45)=W4:=⟨_,rfl⟩
 have Ee:Below w4.heap.size w4 W4:=by rw [<-JU];exact new2 _ _ _
 obtain⟨_,_,_,hd4⟩:=jC (G:=fun _=>False) (Turn.refl _ ((w4.alloc (.cells #[.slice K1 r1 r2,.slice K2 r3 r4] 40)).alloc (.cells #[.int .i64 0,.int .i64 1,.int .i64 11,.int .i64 7] 45)));rw [JU]at hd4;have X6:W4.heap.size=w4.heap.size+2:=by rw [<-JU];simp
 have Jl:=hb4.trans (Ee.mono hs4);have OW:=aZ (aaV.o.trans (Jl.mono (by have:=aaV.o.size;omega)));have UR:Below W1.heap.size W1 W4:=(OU.o.trans (OV.o.mono OU.o.size)).trans (Jl.mono (by have:=OU.o.size;have:=OV.o.size;omega));have X8:Below W2.heap.size W2 W4:=OV.o.trans (Jl.mono OV.o.size);have HD4:=aZ (hd4 id);have X9:=aZ ((UR.block w1.heap.size (by omega)).trans WK.o);have aib:=aZ ((UR.block (w1.heap.size+1) (by omega)).trans HD1.o);have Ya:=aZ ((X8.block w2.heap.size (by omega)).trans WV.o);have Yb:=aZ ((X8.block (w2.heap.size+1) (by omega)).trans HD2.o);have Yc:=aZ ((Jl.block w3.heap.size (by omega)).trans IJ.o);have Yd:=aZ ((Jl.block (w3.heap.size+1) (by omega)).trans HD3.o);have aer:=aZ ((Jl.cell (p:=⟨bd,od+4,none⟩) (by show bd< _;omega)).trans wP.o);have aaX:=aep.o.turn (Turn.of_below (F:=fun _=>False) UR) (fun _ _ _=>id);have HE:=aZ (EM W4 _ YL aaX.all (by unfold YL;simp [GN,Ni,Nh,In64,maxLen]) (by decide) (aaW.o.below Jl).t);rw [X5]at HE;have Vm:=aZ JU;have HE:=aZ (by have h:=HE;rw [<-JU]at h;exact h);have Jm:Below W1.heap.size W1 w4:=(OU.o.trans (OV.o.mono OU.o.size)).trans (hb4.mono (by have:=OU.o.size;have:=OV.o.size;omega));obtain⟨x0,x1,x2,x3,x4,x5,x6,x7,xz⟩:=aX ((Jm.block w1.heap.size (by omega)).trans WK.o);obtain⟨a0,a1,a2,a3,az⟩:=dA ((Jm.block (w1.heap.size+1) (by omega)).trans HD1.o);have aic:w1.heap.size<w4.heap.size:=by have:=Jm.size;omega
 have aah:w1.heap.size+1<w4.heap.size:=by have:=Jm.size;omega
 clear Jm;have Bc:=aZ X6;clear hb4 YM Ee hd4 JU Jl UR X8 aaX;go_wp2_with fail;refine(HE.o).mono ?_;rintro e w5 ⟨rfl,hb5⟩;rw [Vm.o]at hb5;have qN:=aZ (OW.o.trans (hb5.mono (by have:=OW.o.size;omega)));have hs5:=hb5.size;clear x0 x1 x2 x3 x4 x5 x6 x7 xz a0 a1 a2 a3 az;have X9:=aZ ((hb5.block w1.heap.size (by omega)).trans X9.o);have Yb:=aZ ((hb5.block (w2.heap.size+1) (by omega)).trans Yb.o);have Ya:=aZ ((hb5.block w2.heap.size (by omega)).trans Ya.o);have Yc:=aZ ((hb5.block w3.heap.size (by omega)).trans Yc.o);have Yd:=aZ ((hb5.block (w3.heap.size+1) (by omega)).trans Yd.o);have aes:=aZ ((hb5.block (w4.heap.size+1) (by omega)).trans HD4.o);have hty:=(hb5.cell (p:=⟨bd,od+4,none⟩) (by show bd< _;omega)).trans aer.o;obtain⟨x0,x1,x2,x3,x4,x5,x6,x7,xz⟩:=aX X9.o;obtain⟨b0,b1,b2,b3,bz⟩:=dA Yb.o;obtain⟨y0,y1,y2,y3,yz⟩:=dA Ya.o;obtain⟨m0,m1',mz⟩:=Dt Yc.o;obtain⟨d0,d1,d2,d3,dz⟩:=dA Yd.o;obtain⟨f0,f1,f2,f3,fz⟩:=dA aes.o;clear hb5;go_wp2_with fail;go_ret;exact⟨rfl,qN.o⟩
mutual
theorem Dw:∀x:bF,gT (fE x)=gT x
 |.mk k t n l c ts ns ks=>by rw [fE,gT,gT,Fe ks]
theorem Fe:∀l:List bF,fJ (aP l)=fJ l
 | []=>by rw [aP]
 |x :: l=>by rw [aP,fJ,fJ,Dw x,Fe l]
end
def Sep (x:Int ×Bt)(r:Bt):Prop:=match r with
 | []=>True
 |d :: _=>x.1=4∨(x.1=5∧(x.2.length=2∨[x.2.headD 0,d] ∉ dw))∨bE d=false∧x.1≠5
theorem Jo {d:UInt8}(h:bE d=false):dD d=false:=by
 unfold bE at h;rw [Bool.or_eq_false_iff]at h;exact h.2
theorem OX {s:Bt}{kd:Int}{t:Bt}{d:UInt8}(x:Bt)(h:fu s=.inr (kd,t,s.length))(hd:Sep (kd,t) (d :: x)):fu (s++d :: x)=.inr (kd,t,s.length):=by
 cases s with
 |nil=>simp [fu]at h
 |cons c r=>
  have tq:=kI bE (c :: r);have hrd:=kI dD (c :: r);rw [fu]at h;rw [List.cons_append,fu,<-List.cons_append];split at h
  ·rename_i hl
   rw [if_pos hl];have hi:bE d=false:=by
    rcases hd with hd |hd |hd
    ·simp only at hd
     repeat' split at h
     all_goals first |cases h;done |(injection h with h;simp only [Prod.mk.injEq]at h;omega)
    ·have hd:=hd.1;simp only at hd
     repeat' split at h
     all_goals first |cases h;done |(injection h with h;simp only [Prod.mk.injEq]at h;omega)
    ·exact hd.1
   rw [uS hi,List.take_append_of_le_length tq];exact h
  ·rename_i hl
   rw [if_neg hl];split at h
   ·rename_i hg
    rw [if_pos hg];have hi:dD d=false:=by
     rcases hd with hd |hd |hd
     ·simp only at hd
      repeat' split at h
      all_goals first |cases h;done |(injection h with h;simp only [Prod.mk.injEq]at h;omega)
     ·have hd:=hd.1;simp only at hd
      repeat' split at h
      all_goals first |cases h;done |(injection h with h;simp only [Prod.mk.injEq]at h;omega)
     ·exact Jo hd.1
    rw [uS hi,List.take_append_of_le_length hrd];exact h
   ·rename_i hg
    rw [if_neg hg];split at h
    ·rename_i AV
     rw [if_pos AV];split at h
     ·cases h
     ·rename_i t' n' hq
      have hq':nN (c :: r++d :: x)=some (t',n'):=by
       unfold nN at hq ⊢;simp only [List.cons_append,List.drop_succ_cons,List.drop_zero]at hq ⊢;exact zO hq _
      rw [hq'];exact h
    ·rename_i AV
     rw [if_neg AV];split at h
     ·rename_i hp
      injection h with h;simp only [Prod.mk.injEq]at h;obtain⟨h1,h2,h3⟩:=h;have:(c :: r++d :: x).take 2=(c :: r).take 2:=List.take_append_of_le_length (by omega);rw [this,if_pos hp,h1,h2,h3]
     ·rename_i hp
      split at h
      ·rename_i hs
       injection h with h;simp only [Prod.mk.injEq]at h;obtain⟨h1,h2,h3⟩:=h;have hr:r=[]:=List.eq_nil_of_length_eq_zero (by simp only [List.length_cons]at h3;omega);subst hr;have hn:[c,d] ∉ dw:=by
        rcases hd with hd |hd |hd
        ·simp only at hd;omega
        ·rcases hd.2 with hd2 |hd2
         ·rw [<-h2]at hd2;simp at hd2
         ·rw [<-h2]at hd2;simpa using hd2
        ·exact absurd h1.symm (by have:=hd.2;simpa using this)
       rw [if_neg (show ¬(([c]++d :: x:Bt).take 2∈dw)from hn),if_pos hs];subst h1 h2;rfl
      ·cases h
inductive Pc where
 |tok (k:Int) (t:Bt):Pc
 |sp:Pc
 |nl:Pc
def Pc.text:Pc->Bt
 |.tok k t=>jw (k,t)
 |.sp=>[32]
 |.nl=>[10]
def Pc.tK:Pc->Option (Int ×Bt)
 |.tok k t=>some (k,t)
 |_=>none
def cK (l:List Pc):Bt:=l.flatMap Pc.text
def aM (l:List Pc):List (Int ×Bt):=l.filterMap Pc.tK
theorem oL:cK []=[]:=rfl
theorem eB (p:Pc)(l:List Pc):cK (p :: l)=p.text++cK l:=by unfold cK;rw [List.flatMap_cons]
theorem kT (a b:List Pc):cK (a++b)=cK a++cK b:=by unfold cK;rw [List.flatMap_append]
theorem bH (a b:List Pc):aM (a++b)=aM a++aM b:=by unfold aM;rw [List.filterMap_append]
theorem Li (p:Pc)(l:List Pc):aM (p :: l)=(match p.tK with |some x=>[x] |none=>[])++aM l:=by
 unfold aM;rw [List.filterMap_cons];cases p.tK <;> rfl
def OkP:List Pc->Prop
 | []=>True
 |.tok k t :: l=>Good (k,t)∧Sep (k,t) (cK l)∧OkP l
 |_ :: l=>OkP l
theorem Fg {x:Int ×Bt}(h:Good x):∃c r,jw x=c :: r:=by
 unfold Good at h;cases hw:jw x with
 |nil=>rw [hw]at h;simp [fu]at h
 |cons c r=>exact⟨c,r,rfl⟩
theorem Dx {x:Int ×Bt}(h:Good x):∀{r:Bt},Sep x r->fu (jw x++r)=.inr (x.1,x.2,(jw x).length)
 | [],_=>by rw [List.append_nil];exact h
 |d :: r,hs=>OX r h hs
theorem nH:∀(l:List Pc) (f:Nat),OkP l->(cK l).length<f->yQ f (cK l)=some (aM l)
 | [],f,_,hf=>by
  obtain⟨f',rfl⟩:∃f',f=f'+1:=⟨f - 1,by omega⟩
  rfl
 |.sp :: l,f,ho,hf=>by
  have e:cK (.sp :: l)=[32]++cK l:=eB _ _;rw [e]at hf ⊢;simp only [List.length_append,List.length_cons,List.length_nil]at hf;obtain⟨f',rfl⟩:∃f',f=f'+1:=⟨f - 1,by omega⟩
  rw [Ez f' [32] (cK l) (by unfold bB;rw [List.singleton_append,gy,if_pos (by decide)];simp;omega)];exact nH l (f'+1) ho (by omega)
 |.nl :: l,f,ho,hf=>by
  have e:cK (.nl :: l)=[10]++cK l:=eB _ _;rw [e]at hf ⊢;simp only [List.length_append,List.length_cons,List.length_nil]at hf;obtain⟨f',rfl⟩:∃f',f=f'+1:=⟨f - 1,by omega⟩
  rw [Ez f' [10] (cK l) (by unfold bB;rw [List.singleton_append,gy,if_pos (by decide)];simp;omega)];exact nH l (f'+1) ho (by omega)
 |.tok k t :: l,f,ho,hf=>by
  obtain⟨hg,hs,hl⟩:=ho;have e:cK (.tok k t :: l)=jw (k,t)++cK l:=eB _ _;obtain⟨f',rfl⟩:∃f',f=f'+1:=⟨f - 1,by omega⟩
  have hn:=Dx hg hs;obtain⟨c,r,hc⟩:=Fg hg;have hk:bB (jw (k,t)++cK l)=0:=by
   have hn2:=hn;rw [hc,List.cons_append]at hn2 ⊢;obtain⟨b1,b2⟩:=J4 hn2;unfold bB;rw [gy,if_neg (by simp [b1]),if_neg b2]
  rw [e]at hf ⊢;rw [yQ,hk,List.drop_zero,if_neg (by rw [hc];simp),hn];simp only;rw [List.drop_left,nH l f' hl (by rw [hc]at hf;simp only [List.length_append,List.length_cons]at hf;omega)];rfl
def AA (d:Nat)(x:Int ×Bt):Option Nat:=
 if x.1=5 then
  (if x.2=[40]∨x.2=[91]∨x.2=[123]then some (d+1)
   else if x.2=[41]∨x.2=[93]∨x.2=[125]then(if d=0 then none else some (d - 1))
   else some d)
 else some d
def uQ (d:Nat)(l:List (Int ×Bt)):Option Nat:=l.foldlM AA d
theorem Dy (d:Nat)(x:Int ×Bt)(l:List (Int ×Bt)):uQ d (x :: l)=(AA d x).bind fun e=>uQ e l:=by unfold uQ;rw [List.foldlM_cons];rfl
theorem yF (d:Nat)(a b:List (Int ×Bt)):uQ d (a++b)=(uQ d a).bind fun e=>uQ e b:=by unfold uQ;rw [List.foldlM_append];rfl
theorem Lj {d e:Nat}{x:Int ×Bt}(h:AA d x=some e)(j:Nat):AA (d+j) x=some (e+j):=by
 unfold AA at h ⊢;by_cases h5:x.1=5
 ·rw [if_pos h5]at h ⊢;by_cases ho:x.2=[40]∨x.2=[91]∨x.2=[123]
  ·rw [if_pos ho]at h ⊢;injection h with h;congr 1;omega
  ·rw [if_neg ho]at h ⊢;by_cases hc:x.2=[41]∨x.2=[93]∨x.2=[125]
   ·rw [if_pos hc]at h ⊢;by_cases h0:d=0
    ·rw [if_pos h0]at h;cases h
    ·rw [if_neg h0]at h;rw [if_neg (by omega)];injection h with h;congr 1;omega
   ·rw [if_neg hc]at h ⊢;injection h with h;congr 1;omega
 ·rw [if_neg h5]at h ⊢;injection h with h;congr 1;omega
def Ll (l:List (Int ×Bt)):Prop:=∀d,uQ d l=some d
theorem Ll.nil:Ll []:=fun _=>rfl
theorem Ll.append {a b:List (Int ×Bt)}(ha:Ll a)(hb:Ll b):Ll (a++b):=fun d=>by rw [yF,ha d];exact hb d
theorem Ll.one {k:Int}{t:Bt}(h:k≠5∨(t≠[40]∧t≠[91]∧t≠[123]∧t≠[41]∧t≠[93]∧t≠[125])):Ll [(k,t)]:=by
 intro d;rw [Dy];have:AA d (k,t)=some d:=by
  unfold AA;by_cases hk:k=5
  ·rw [if_pos hk];rcases h with h |⟨h1,h2,h3,h4,h5,h6⟩
   ·exact absurd hk h
   ·rw [if_neg (by simp [h1,h2,h3]),if_neg (by simp [h4,h5,h6])]
  ·rw [if_neg hk]
 rw [this];rfl
theorem Fh {t:Bt}(h:dM t=true):Good (1,t):=by
 unfold Good jw;rw [if_neg (show ¬(1:Int)=4 by decide)];cases t with
 |nil=>simp [dM]at h
 |cons c r=>
  unfold dM at h;simp only [Bool.and_eq_true,decide_eq_true_eq,Bool.not_eq_true',decide_eq_false_iff_not]at h;obtain⟨⟨⟨h1,h2⟩,h3⟩,h4⟩:=h;rw [fu,if_pos h2,h3,if_neg (by omega),List.take_length,if_neg h4]
theorem oM:∀{t:Bt},t∈fQ->Good (2,t):=by
 have h:∀t∈fQ,fu t=.inr (2,t,t.length):=by decide
 intro t ht;unfold Good jw;rw [if_neg (show ¬(2:Int)=4 by decide)];exact h t ht
theorem zG:∀{t:Bt},t∈dw∨t∈fD.map (fun c=>[c])->Good (5,t):=by
 have h:∀t∈dw++fD.map (fun c=>[c]),fu t=.inr (5,t,t.length):=by decide
 intro t ht;unfold Good jw;rw [if_neg (show ¬(5:Int)=4 by decide)];exact h t (List.mem_append.2 ht)
theorem Jp {n:Int}(h0:0<=n)(h1:n<=9223372036854775807):Good (3,Lib.itoa n):=by
 obtain⟨u,rfl⟩:=Int.eq_ofNat_of_zero_le h0;have hp:yO (Lib.decDigits u)=some u:=rX.2 ⟨by omega,rfl⟩;obtain⟨⟨c1,c2,c3⟩,_,_⟩:=JY u;have hi:Lib.itoa (u:Int)=Lib.decDigits u:=by simp [Lib.itoa]
 unfold Good jw;rw [if_neg (show ¬(3:Int)=4 by decide),hi];simp only;cases hd:Lib.decDigits u with
 |nil=>exact absurd hd c1
 |cons c r=>
  rw [hd]at hp c2;have hall:∀x∈c :: r,dD x=true:=c2;have hc:=hall c (by simp);have hl:gD c=false:=by
   unfold dD at hc;simp only [Bool.and_eq_true,decide_eq_true_eq]at hc;unfold gD;simp only [Bool.or_eq_false_iff,Bool.and_eq_false_iff,decide_eq_false_iff_not];omega
  have hr:dQ dD (c :: r)=(c :: r).length:=tZ fun j hj=>hall _ (List.getElem_mem hj);have hv:(fP (c :: r)).2=true:=by unfold fP;rw [hp]
  rw [fu,if_neg (by simp [hl]),if_pos hc,hr,List.take_length,if_pos hv]
theorem Jq {s:Bt}(h:s.length<=256)(hc:∀c∈s,32<=c.toNat∨c.toNat=9∨c.toNat=10):Good (4,s):=by
 have hq:nN (mE s)=some (s,(mE s).length):=by
  unfold nN mE;rw [List.drop_succ_cons,List.drop_zero,GJ s [] 0 [] hc];simp only [List.nil_append,List.length_cons,List.length_append,List.length_nil,Option.some.injEq,Prod.mk.injEq,true_and];omega
 unfold Good jw;rw [if_pos rfl];have:mE s=34 :: (s.flatMap jm++[34]):=rfl;simp only;rw [this,fu,<-this,if_neg (by decide),if_neg (by decide),if_pos (by decide),hq];simp only;rw [if_neg (by omega)]
end Go.Proofs.YtfgjkmipfikooaaGreatDoor
