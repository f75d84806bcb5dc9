/- HJT, GJ -/
import Derived.Test.YtncnnedlgofccaaGreatDoorPT27
set_option linter.unusedSimpArgs false
set_option linter.unusedVariables false
set_option maxRecDepth 100000
set_option maxHeartbeats 8000000
namespace Go.Proofs.YtncnnedlgofccaaGreatDoor
open Go.RowKit
theorem ado (p q:Addr)(w:World):
  CallsD Tryz.prog 125 #[.pointer (some p),.pointer (some q)] .returning w fun e u' w'=>e=.returned (.tuple #[])∧u'=.returning∧w'=w:=by
 refine callsD_of_wpS Tryz.func125 rfl fun c₀ cs hu=>?_;apply wpS_seq;apply wpS_region;simp [wpOpsS,go_sem,recoverD,hu,Tryz.ntmps125,Exit.thenS];refine wpS_of_wp ?_;change Code.wp _ _ _ { tmps:= #[.pointer (some p),.pointer (some q),.nilIface,undef,undef,undef,.nilIface,undef,undef,undef,undef,undef,undef,undef,undef,undef,undef,undef,undef,undef],defers:=[]} w
 go_wp2
 exact⟨rfl,.returning,by rw [<-hu],.tuple #[],results_none rfl _ _ _,rfl,rfl,rfl⟩
theorem Lc (pb qb:Nat)(hne:pb≠qb)(g:Du)(older:List PanicEntry)(w:World){a0 a1 a2 a3:Value}(hp:w.heap[pb]? =some (.cells #[a0,a1,a2,a3] 80 (0,0)))(hq:w.heap[qb]? =some (.cells zd 45 (0,0))):
  CallsD Tryz.prog 125 #[pP pb 0,pP qb 0] (.panicking ({ v:= .iface 143 (xZ g),recovered:=false} :: older)) w fun e u' w'=>e=.returned (.tuple #[])∧u'=.panicking ({ v:= .iface 143 (xZ g),recovered:=true} :: older)∧
   Turn (fun k=>k=pb∨k=qb) w w'∧w'.heap[pb]? =some (.cells Z40 80 (0,0))∧w'.heap[qb]? =some (.cells (dgC g) 45 (0,0)):=by
 have hta:∀w:World,(Instr.typeAssert (.iface 143 (xZ g)) 20 143 true).run Tryz.prog w=.ok (.tuple #[xZ g,.bool true]) w:=fun _=>by kernel_rfl
 have hpl:=block_lt hp;have hql:=block_lt hq;have HP:=aO hp;have HQ:=aO hq;clear hp hq;refine callsD_of_wpS Tryz.func125 rfl fun c₀ cs hu=>?_;apply wpS_seq;apply wpS_region;simp [wpOpsS,go_sem,recoverD,hu,Tryz.ntmps125,Exit.thenS];refine wpS_of_wp ?_;change Code.wp _ _ _ { tmps:= #[pP pb 0,pP qb 0,.iface 143 (xZ g),undef,undef,undef,.iface 143 (xZ g),undef,undef,undef,undef,undef,undef,undef,undef,undef,undef,undef,undef,undef],defers:=[]} w;obtain⟨W2,hW2⟩:∃W2,(w.alloc (.cells (dgC g) 143)).alloc (.cells #[.int .i64 0,.string ⟨#[]⟩,.slice none 0 0,.slice none 0 0] 80)=W2:=⟨_,rfl⟩
 have hs2:W2.heap.size=w.heap.size+2:=by rw [<-hW2];simp
 obtain⟨tw,_,hbb,hzb⟩:=jk (G:=fun _=>False) (Turn.refl _ ((w.alloc (.cells (dgC g) 143)).alloc (.cells #[.int .i64 0,.string ⟨#[]⟩,.slice none 0 0,.slice none 0 0] 80)));rw [hW2]at tw hbb hzb;have HW2:=aO hW2;have hp2:=ah HP.o tw id;have hq2:=ah HQ.o tw id;have QH:=aO hp2;have kF:=aO hq2;have Xm:=aO tw;obtain⟨b0,b1,b2,b3,bz⟩:=aW (hbb id);have hz2:=hzb id;have HZ2:=aO hz2;clear hW2 tw hbb hzb;go_wp2_with fail;rw [HW2.o];have HD0:bq (Turn (fun j=>j=pb∨j=qb) W2 W2.drew):=aO ⟨rfl,rfl,rfl,Nat.le_refl _,fun _ _ _=>rfl⟩;have PZ:=aO (fun(w':World) (h:Turn (fun j=>j=pb∨j=qb) W2 w')=>(⟨aK ((cell_of_row _ _ 0 _ _ _ hz2).trans rfl) h,aK ((cell_of_row _ _ 1 _ _ _ hz2).trans rfl) h,aK ((cell_of_row _ _ 2 _ _ _ hz2).trans rfl) h,aK ((cell_of_row _ _ 3 _ _ _ hz2).trans rfl) h⟩:w'.cell? ⟨w.heap.size+1,0,none⟩=some (I 0)∧w'.cell? ⟨w.heap.size+1,1,none⟩=some S0∧w'.cell? ⟨w.heap.size+1,2,none⟩=some Z∧w'.cell? ⟨w.heap.size+1,3,none⟩=some Z));have PB:=aO (fun(w':World) (h:Turn (fun j=>j=pb∨j=qb) W2 w')=>(⟨aK b0 h,aK b1 h,aK b2 h,aK b3 h⟩:w'.cell? ⟨w.heap.size,0,none⟩=some (I 0)∧w'.cell? ⟨w.heap.size,1,none⟩=some (I g.1)∧w'.cell? ⟨w.heap.size,2,none⟩=some (I g.2.1)∧w'.cell? ⟨w.heap.size,3,none⟩=some (I g.2.2)));clear hz2 b0 b1 b2 b3 bz;refine bM (S:=fun w'=>Turn (fun j=>j=pb∨j=qb) W2 w') (x:=4) (by kernel_rfl) ?_
 try simp only [sp,sq]
 refine jw 0 (.agg Z40) PZ.o HD0.o ?_;refine tx 1 (pP w.heap.size 0) HD0.o ?_;refine jw 2 (xZ g) PB.o HD0.o ?_;have sS:∀X:World,X.drew.heap=X.heap:=fun _=>rfl;have hdr:∀(G:Nat->Prop) (X:World),Turn G X X.drew:=fun _ _=>⟨rfl,rfl,rfl,Nat.le_refl _,fun _ _ _=>rfl⟩
 have tA:=((((ak W2 (pb) 0 (I 0)).trans (ak _ (pb) 1 S0)).trans (ak _ (pb) 2 Z)).trans (ak _ (pb) 3 Z))
 have hpA:((((W2.setCell ⟨pb,0,none⟩ (I 0)).setCell ⟨pb,1,none⟩ S0).setCell ⟨pb,2,none⟩ Z).setCell ⟨pb,3,none⟩ Z).heap[pb]? =some (.cells Z40 80 (0,0)):=(bg (b:=pb) QH.o (I 0) S0 Z Z)
 have hqA:=ah kF.o tA (fun e=>hne e.symm);have Bp:=aO (tA.mono (G:=fun k=>k=pb∨k=qb) (fun _ _ h=>.inl h));have xK:=aO (Bp.o.trans (hdr (fun k=>k=pb∨k=qb) _));have HPA:=aO hpA;have NP:=aO hqA;have p0:W2.cell? ⟨pb,0,none⟩=some a0:=(cell_of_row _ _ 0 _ _ _ hp2).trans rfl;have p1:W2.cell? ⟨pb,1,none⟩=some a1:=(cell_of_row _ _ 1 _ _ _ hp2).trans rfl;have p2:W2.cell? ⟨pb,2,none⟩=some a2:=(cell_of_row _ _ 2 _ _ _ hp2).trans rfl;have p3:W2.cell? ⟨pb,3,none⟩=some a3:=(cell_of_row _ _ 3 _ _ _ hp2).trans rfl;have pz:∀i,W2.frozen? ⟨pb,i,none⟩=false:=fun i=>frozen_of_row _ _ _ _ _ hp2;have q0:W2.cell? ⟨qb,0,none⟩=some (I 0):=(cell_of_row _ _ 0 _ _ _ hq2).trans rfl;have q1:W2.cell? ⟨qb,1,none⟩=some (I 0):=(cell_of_row _ _ 1 _ _ _ hq2).trans rfl;have q2:W2.cell? ⟨qb,2,none⟩=some (I 0):=(cell_of_row _ _ 2 _ _ _ hq2).trans rfl;have q3:W2.cell? ⟨qb,3,none⟩=some (I 0):=(cell_of_row _ _ 3 _ _ _ hq2).trans rfl;have qz:∀i,W2.frozen? ⟨qb,i,none⟩=false:=fun i=>frozen_of_row _ _ _ _ _ hq2;have hne':¬qb=pb:=fun e=>hne e.symm;clear tA hpA hqA hp2 hq2;refine bB 3 fun K hK=>?_;go_simp;refine hK.out _ _ xK.o ?_;clear hK K
 try simp only [sp,sq]
 refine bR 4 fun K hK=>?_;go_simp;refine hK.out _ _ ?_;clear hK K
 try simp only [sp,sq]
 refine bU _ ?_;go_wp2_with fail;have tB:=((((ak ((((W2.setCell ⟨pb,0,none⟩ (I 0)).setCell ⟨pb,1,none⟩ S0).setCell ⟨pb,2,none⟩ Z).setCell ⟨pb,3,none⟩ Z) (qb) 0 (I 0)).trans (ak _ (qb) 1 (I g.1)) (fun _ _ h=>h)).trans (ak _ (qb) 2 (I g.2.1)) (fun _ _ h=>h)).trans (ak _ (qb) 3 (I g.2.2)))
 have h1:=(Xm.o.mono (G:=fun k=>k=pb∨k=qb) (fun _ _ h=>h.elim)).trans ((Bp.o.trans tB (fun _ _ h=>.inr h)).trans (hdr (fun k=>k=pb∨k=qb) _)) (fun _ _ h=>h);have h2:=ah HPA.o tB hne;have h3:=(bg (b:=qb) NP.o (I 0) (I g.1) (I g.2.1) (I g.2.2))
 refine⟨rfl,_,rfl,.tuple #[],results_none rfl _ _ _,rfl,rfl,h1,?_,?_⟩
 ·rw [sS];exact h2
 ·rw [sS];exact h3
theorem afE (w:World)(s:Bt)(hX:oq w):Calls Tryz.prog 72 #[sv s,.func (.func 73) #[] #[]] w fun e w'=>Below w.heap.size w w'∧∃z:List Value,e=.returned (.tuple #[.agg z.toArray,xZ (dB (dw 100).typ s).2])∧nT w' (fun j=>w.heap.size<=j) z (xJ (dw 100).typ s Fw):=by
 have hmf:∀(fn:Fn) (first cap:Array Value) (w:World),(Instr.makeFunc fn first cap).run Tryz.prog w=.ok (.func fn first cap) w:=fun _ _ _ _=>rfl;have hent:∀w:World,(callFunc 73 #[]).run Tryz.prog w=.ok (.enter 73 #[]) w:=fun _=>by kernel_rfl
 have sS:∀X:World,X.drew.heap=X.heap:=fun _=>rfl;have hdr:∀(G:Nat->Prop) (X:World),Turn G X X.drew:=fun _ _=>⟨rfl,rfl,rfl,Nat.le_refl _,fun _ _ _=>rfl⟩
 obtain⟨W0,hW0⟩:∃W0,((w.alloc (.cells #[.int .i64 0,.string ⟨#[]⟩,.slice none 0 0,.slice none 0 0] 80)).alloc (.cells #[.int .i64 0,.int .i64 0,.int .i64 0,.int .i64 0] 45))=W0:=⟨_,rfl⟩
 obtain⟨tw,_,hx0,hd0⟩:=jk (G:=fun _=>False) (Turn.refl _ ((w.alloc (.cells #[.int .i64 0,.string ⟨#[]⟩,.slice none 0 0,.slice none 0 0] 80)).alloc (.cells #[.int .i64 0,.int .i64 0,.int .i64 0,.int .i64 0] 45)));have hs0:W0.heap.size=w.heap.size+2:=by rw [<-hW0];simp
 have hb0:Below w.heap.size w W0:=by rw [<-hW0];exact new2 _ _ _
 rw [hW0]at tw hx0 hd0;have hx0:=hx0 id;have hd0:=hd0 id;have HX0:=aO hx0;have HD0:=aO hd0;have HB0:=aO hb0;have Va:=aO ((vF.of hX.1).below hb0);have HL:=aO (LB W0 s (hX.below hb0));have HW0:=aO hW0;obtain⟨Dg,zV⟩:∃Dg,(dB (dw 100).typ s).2=Dg:=⟨_,rfl⟩
 obtain⟨V,hV⟩:∃V,xJ (dw 100).typ s Fw=V:=⟨_,rfl⟩
 rw [zV,hV];clear hX tw hx0 hd0 hb0 hW0;by_cases hE:(gH s).2.2.2=0
 ·have hz:=Dj hE;obtain⟨T,hT⟩:∃T,gH s=(T,((0,0,0):Nat ×Nat ×Int)):=⟨(gH s).1,by rw [<-hz]⟩
  obtain⟨htk,hwf⟩:=Dk hE;rw [hT]at HL htk hwf;have HWH:bq (dB (dw 100).typ s=FQ (aj (dw 100).typ (fun x=>aj (dL 0) fun _=>aB x) T)):=aO (zI hT);have HDg:=aO zV;have HV:=aO hV;have uD:=aO htk;have wQ:=aO hwf;clear hE hz hT htk hwf zV hV
  go_enter_defers Tryz.func72,Tryz.ntmps72
  go_wp2_with fail;rw [HW0.o];refine(HL.o).mono ?_;rintro e w1 ⟨v1,n1,rfl,hown,hb1⟩;obtain⟨Jb,c1',rfl,_,_⟩:=gI hown;have hs1:=hb1.size;have hx1:=(hb1.block (w.heap.size) (by omega)).trans HX0.o;have hd1:=(hb1.block (w.heap.size+1) (by omega)).trans HD0.o;have HB1:=aO (HB0.o.trans (hb1.mono (by omega)));have Qd:=aO (Va.o.below (hb1.mono (by omega)));obtain⟨x0,x1,x2,x3,xz⟩:=aW hd1;have t1:=dM w1 (w.heap.size+1) (.int .i64 0) (.int .i64 0) (.int .i64 0) (.int .i64 0);have wG:=aO (ah hx1 t1);have HD1:=aO (bg hd1 (.int .i64 0) (.int .i64 0) (.int .i64 0) (.int .i64 0));have HT1:=aO t1;have hsp:(dX w1 (w.heap.size+1) (.int .i64 0) (.int .i64 0) (.int .i64 0) (.int .i64 0)).heap.size=w1.heap.size:=by simp [dX]
  have HOWN:=aO hown;rw [show EK (0,0,0)=.agg #[.int .i64 0,.int .i64 0,.int .i64 0,.int .i64 0]from rfl];obtain⟨W2,hW2⟩:∃W2,(dX w1 (w.heap.size+1) (.int .i64 0) (.int .i64 0) (.int .i64 0) (.int .i64 0)).alloc (.cells #[.slice Jb n1 c1',.int .i64 0] 148)=W2:=⟨_,rfl⟩
  have t2:Turn (fun k=>k=w.heap.size+1) w1 W2:=by rw [<-hW2];exact t1.trans (Turn.alloc _ _ _)
  have hb2:=xX (dX w1 (w.heap.size+1) (.int .i64 0) (.int .i64 0) (.int .i64 0) (.int .i64 0)) (.cells #[.slice Jb n1 c1',.int .i64 0] 148);rw [hW2,hsp]at hb2;have hs2:W2.heap.size=w1.heap.size+1:=by rw [<-hW2];simp [dX]
  have Vh:=aO (by have:=bS (o':=(.cells #[.slice Jb n1 c1',.int .i64 0] 148)) wG.o;rwa [hW2]at this);have HD2:=aO (by have:=bS (o':=(.cells #[.slice Jb n1 c1',.int .i64 0] 148)) HD1.o;rwa [hW2]at this);have hsl:Sl W2 w1.heap.size 4 (.slice Jb n1 c1') (dD T):=((cZ.own (F:=fun j=>W0.heap.size<=j∧j<w1.heap.size) hown (fun g hg=>hown.lt g hg)).turn t2 (fun g _ h e=>by have:=h.1;omega)).to (fun g _ h=>h.2);have htb:GN w1.heap.size W2 (.slice Jb n1 c1'):=fun b o n c e=>by
   injection e with e _ _;subst e;rcases hown.2 with⟨h,_⟩ |⟨g,cap,cur,h,hg,hob,_⟩
   ·injection h with h;cases h
   ·injection h with h _ _;injection h with h;injection h with h _;subst h;exact⟨block_lt hob,_,ah hob t2⟩
  have Qe:=aO (Qd.o.below (t2.below (by omega) (fun k hk e=>by omega)));have HK:=aO (show cu W2 w1.heap.size w1.heap.size T 0 from⟨Nat.le_refl _,uD.o,wQ.o,_,hb2,hsl,fun w' hb'=>Qe.o w' (fun k hk=>hb' k (by omega)),htb⟩);have HT2:=aO (HB1.o.trans (t2.below (B:=w.heap.size) (by omega) (fun k hk e=>by omega)));have HR:=aO (U8 W2 w1.heap.size w1.heap.size T HK.o);have HW2:=aO hW2;clear hown hb1 hx1 hd1 t1 t2 hb2 hsl hW2 HOWN htb;go_wp2_with fail;rw [HW2.o];refine(HR.o).mono ?_;rintro e w3 h3;rcases hq:(dw 100).typ T with g |⟨x,r3⟩
  ·obtain⟨rfl,tn,bn⟩:=h3.cB hq;have Dq:bq (dB (dw 100).typ s=(none,g)):=aO (by rw [HWH.o,aA hq];rfl);have HXP:=aO (ah Vh.o tn);have HDP:=aO (ah HD2.o tn);have Qf:=aO (HT2.o.trans (tn.below (B:=w.heap.size) (by omega) (fun k hk e=>by omega)));clear h3 tn bn hq;go_wp2_with fail;refine leaves_cons (f:=125) (args:= #[.pointer (some ⟨w.heap.size,0,none⟩),.pointer (some ⟨w.heap.size+1,0,none⟩)]) (by simp) (by simp [go_sem]) ?_;refine(Lc w.heap.size (w.heap.size+1) (by omega) g [] _ HXP.o HDP.o).mono ?_;rintro e u9 w9 ⟨rfl,rfl,t9,p9,q9⟩;have e1:Dg=g:=by rw [<-HDg.o,Dq.o]
   have e2:V=Fw:=by rw [<-HV.o];unfold xJ;rw [Dq.o];rfl
   subst e1 e2;exact⟨_,dP rfl rfl rfl p9 q9 Tryz.underlying80 rfl (by kernel_rfl) Tryz.underlying45 rfl,Qf.o.trans (t9.below (by have:=Qf.o.size;omega) (fun k hk e=>by omega)),_,rfl,.mk (cZ.nil _ _ _) (cZ.nil _ _ _) .nil⟩
  ·obtain⟨v3,rfl,tn,⟨z0,rfl,hz0⟩,kn⟩:=h3.aQ hq;have hzc:=hz0;obtain⟨k4,s4,A1,n1',c1,A2,n2,c2,rfl⟩:=hzc.shape';have hs3:=tn.size;have hx3:=ah Vh.o tn;have hd3:=ah HD2.o tn;have t4:Turn (fun k=>k=w.heap.size) w3 ((((w3.setCell ⟨w.heap.size,0,none⟩ (.int .i64 k4)).setCell ⟨w.heap.size,1,none⟩ (sv s4)).setCell ⟨w.heap.size,2,none⟩ (.slice A1 n1' c1)).setCell ⟨w.heap.size,3,none⟩ (.slice A2 n2 c2)):=((((ak w3 (w.heap.size) 0 (.int .i64 k4)).trans (ak _ (w.heap.size) 1 (sv s4))).trans (ak _ (w.heap.size) 2 (.slice A1 n1' c1))).trans (ak _ (w.heap.size) 3 (.slice A2 n2 c2)))
   have GZ:=aO ((bg (b:=w.heap.size) hx3 (.int .i64 k4) (sv s4) (.slice A1 n1' c1) (.slice A2 n2 c2)));have HD4:=aO (ah hd3 t4);have acj:=aO ((Qe.o.below (tn.below (by omega) (fun k hk e=>by omega))).below (t4.below (by omega) (fun k hk e=>by omega)));have iW:=aO (kn.apart t4 (by omega) (fun g e _=>by have e:g=w.heap.size:=e;subst e;exact⟨_,_,hx3,by decide⟩) (fun w' hb'=>acj.o w' (fun k hk=>hb' k (by omega))));have fU:=aO (HT2.o.trans ((tn.below (B:=w.heap.size) (by omega) (fun k hk e=>by omega)).trans (t4.below (B:=w.heap.size) (by omega) (fun k hk e=>by omega))));have Dm:=aO (hz0.turn t4 (fun g _ h e=>by omega));have HWG:bq (dB (dw 100).typ s=FQ (aj (dL 0) (fun _=>aB x) r3)):=aO (by rw [HWH.o,au hq]);have J5:=aO (vG ((((w3.setCell ⟨w.heap.size,0,none⟩ (.int .i64 k4)).setCell ⟨w.heap.size,1,none⟩ (sv s4)).setCell ⟨w.heap.size,2,none⟩ (.slice A1 n1' c1)).setCell ⟨w.heap.size,3,none⟩ (.slice A2 n2 c2)) w1.heap.size w1.heap.size r3 0 iW.o 0);have u0:w3.cell? ⟨w.heap.size,0,none⟩=some (.int .i64 0):=(cell_of_row _ _ 0 _ _ _ hx3).trans rfl;have u1:w3.cell? ⟨w.heap.size,1,none⟩=some (.string ⟨#[]⟩):=(cell_of_row _ _ 1 _ _ _ hx3).trans rfl;have u2:w3.cell? ⟨w.heap.size,2,none⟩=some (.slice none 0 0):=(cell_of_row _ _ 2 _ _ _ hx3).trans rfl;have u3:w3.cell? ⟨w.heap.size,3,none⟩=some (.slice none 0 0):=(cell_of_row _ _ 3 _ _ _ hx3).trans rfl;have uz:∀i,w3.frozen? ⟨w.heap.size,i,none⟩=false:=fun i=>frozen_of_row _ _ _ _ _ hx3;clear h3 tn kn hz0 hzc hq hx3 hd3 t4;go_wp2_with fail;refine(J5.o).mono ?_;rintro e w5 h5;rcases hq:dL 0 r3 with g |⟨sx,r5⟩
   ·obtain⟨rfl,tn,bn⟩:=h5.cB hq;have Dq:bq (dB (dw 100).typ s=(none,g)):=aO (by rw [HWG.o,aA hq];rfl);have HXP:=aO (ah GZ.o tn);have HDP:=aO (ah HD4.o tn);have Qf:=aO (fU.o.trans (tn.below (B:=w.heap.size) (by have:=fU.o.size;omega) (fun k hk e=>by omega)));clear h5 tn bn hq;go_wp2_with fail;refine leaves_cons (f:=125) (args:= #[.pointer (some ⟨w.heap.size,0,none⟩),.pointer (some ⟨w.heap.size+1,0,none⟩)]) (by simp) (by simp [go_sem]) ?_;refine(Lc w.heap.size (w.heap.size+1) (by omega) g [] _ HXP.o HDP.o).mono ?_;rintro e u9 w9 ⟨rfl,rfl,t9,p9,q9⟩;have e1:Dg=g:=by rw [<-HDg.o,Dq.o]
    have e2:V=Fw:=by rw [<-HV.o];unfold xJ;rw [Dq.o];rfl
    subst e1 e2;exact⟨_,dP rfl rfl rfl p9 q9 Tryz.underlying80 rfl (by kernel_rfl) Tryz.underlying45 rfl,Qf.o.trans (t9.below (by have:=Qf.o.size;omega) (fun k hk e=>by omega)),_,rfl,.mk (cZ.nil _ _ _) (cZ.nil _ _ _) .nil⟩
   ·obtain⟨v5,rfl,tn,-,kn⟩:=h5.aQ hq;have Dq:bq (dB (dw 100).typ s=(some x,(0,0,0))):=aO (by rw [HWG.o,au hq];rfl);have Ah:=aO (ah GZ.o tn);have HD5:=aO (ah HD4.o tn);have fP:=aO (fU.o.trans (tn.below (B:=w.heap.size) (by have:=fU.o.size;omega) (fun k hk e=>by omega)));have Dl:=aO (Dm.o.turn tn (fun g _ h e=>by omega));clear h5 tn kn hq uz u0 u1 u2 u3;have PX:=aO (fun(w':World) (h:w'.heap[w.heap.size]? =some (.cells #[.int .i64 k4,sv s4,.slice A1 n1' c1,.slice A2 n2 c2] 80 (0,0))∧w'.heap[w.heap.size+1]? =some (.cells #[.int .i64 0,.int .i64 0,.int .i64 0,.int .i64 0] 45 (0,0)))=>(⟨(dY h.1),(dY h.1),(dY h.1),(dY h.1)⟩:w'.cell? ⟨w.heap.size,0,none⟩=some (.int .i64 k4)∧w'.cell? ⟨w.heap.size,1,none⟩=some (sv s4)∧w'.cell? ⟨w.heap.size,2,none⟩=some (.slice A1 n1' c1)∧w'.cell? ⟨w.heap.size,3,none⟩=some (.slice A2 n2 c2)));have PD:=aO (fun(w':World) (h:w'.heap[w.heap.size]? =some (.cells #[.int .i64 k4,sv s4,.slice A1 n1' c1,.slice A2 n2 c2] 80 (0,0))∧w'.heap[w.heap.size+1]? =some (.cells #[.int .i64 0,.int .i64 0,.int .i64 0,.int .i64 0] 45 (0,0)))=>(⟨(dY h.2),(dY h.2),(dY h.2),(dY h.2)⟩:w'.cell? ⟨w.heap.size+1,0,none⟩=some (.int .i64 0)∧w'.cell? ⟨w.heap.size+1,1,none⟩=some (.int .i64 0)∧w'.cell? ⟨w.heap.size+1,2,none⟩=some (.int .i64 0)∧w'.cell? ⟨w.heap.size+1,3,none⟩=some (.int .i64 0)));have aT:bq (w5.drew.heap[w.heap.size]? =some (.cells #[.int .i64 k4,sv s4,.slice A1 n1' c1,.slice A2 n2 c2] 80 (0,0))∧w5.drew.heap[w.heap.size+1]? =some (.cells #[.int .i64 0,.int .i64 0,.int .i64 0,.int .i64 0] 45 (0,0))):=aO ⟨by rw [sS];exact Ah.o,by rw [sS];exact HD5.o⟩;have ka0:w5.cell? ⟨w.heap.size,0,none⟩=some (.int .i64 k4):=(cell_of_row _ _ 0 _ _ _ Ah.o).trans rfl
    have ka1:w5.cell? ⟨w.heap.size,1,none⟩=some (sv s4):=(cell_of_row _ _ 1 _ _ _ Ah.o).trans rfl;have ka2:w5.cell? ⟨w.heap.size,2,none⟩=some (.slice A1 n1' c1):=(cell_of_row _ _ 2 _ _ _ Ah.o).trans rfl;have ka3:w5.cell? ⟨w.heap.size,3,none⟩=some (.slice A2 n2 c2):=(cell_of_row _ _ 3 _ _ _ Ah.o).trans rfl;have kaz:∀i,w5.frozen? ⟨w.heap.size,i,none⟩=false:=fun i=>frozen_of_row _ _ _ _ _ Ah.o;have la0:w5.cell? ⟨w.heap.size+1,0,none⟩=some (.int .i64 0):=(cell_of_row _ _ 0 _ _ _ HD5.o).trans rfl;have la1:w5.cell? ⟨w.heap.size+1,1,none⟩=some (.int .i64 0):=(cell_of_row _ _ 1 _ _ _ HD5.o).trans rfl;have la2:w5.cell? ⟨w.heap.size+1,2,none⟩=some (.int .i64 0):=(cell_of_row _ _ 2 _ _ _ HD5.o).trans rfl;have la3:w5.cell? ⟨w.heap.size+1,3,none⟩=some (.int .i64 0):=(cell_of_row _ _ 3 _ _ _ HD5.o).trans rfl;have laz:∀i,w5.frozen? ⟨w.heap.size+1,i,none⟩=false:=fun i=>frozen_of_row _ _ _ _ _ HD5.o;have tA:=((((ak w5 (w.heap.size) 0 (.int .i64 k4)).trans (ak _ (w.heap.size) 1 (sv s4))).trans (ak _ (w.heap.size) 2 (.slice A1 n1' c1))).trans (ak _ (w.heap.size) 3 (.slice A2 n2 c2)))
    have Aj:=(bg (b:=w.heap.size) Ah.o (.int .i64 k4) (sv s4) (.slice A1 n1' c1) (.slice A2 n2 c2))
    have Aq:=ah HD5.o tA;have tB:=((((ak ((((w5.setCell ⟨w.heap.size,0,none⟩ (.int .i64 k4)).setCell ⟨w.heap.size,1,none⟩ (sv s4)).setCell ⟨w.heap.size,2,none⟩ (.slice A1 n1' c1)).setCell ⟨w.heap.size,3,none⟩ (.slice A2 n2 c2)) (w.heap.size+1) 0 (.int .i64 0)).trans (ak _ (w.heap.size+1) 1 (.int .i64 0))).trans (ak _ (w.heap.size+1) 2 (.int .i64 0))).trans (ak _ (w.heap.size+1) 3 (.int .i64 0)))
    have HXB:=aO (ah Aj tB);have nJ:=aO ((bg (b:=w.heap.size+1) Aq (.int .i64 0) (.int .i64 0) (.int .i64 0) (.int .i64 0)));have nI:=aO ((tA.mono (G:=fun k=>k=w.heap.size∨k=w.heap.size+1) (fun _ _ h=>.inl h)).trans tB (fun _ _ h=>.inr h));have xK:bq (((((w5.setCell ⟨w.heap.size,0,none⟩ (.int .i64 k4)).setCell ⟨w.heap.size,1,none⟩ (sv s4)).setCell ⟨w.heap.size,2,none⟩ (.slice A1 n1' c1)).setCell ⟨w.heap.size,3,none⟩ (.slice A2 n2 c2)).drew.heap[w.heap.size]? =some (.cells #[.int .i64 k4,sv s4,.slice A1 n1' c1,.slice A2 n2 c2] 80 (0,0))∧((((w5.setCell ⟨w.heap.size,0,none⟩ (.int .i64 k4)).setCell ⟨w.heap.size,1,none⟩ (sv s4)).setCell ⟨w.heap.size,2,none⟩ (.slice A1 n1' c1)).setCell ⟨w.heap.size,3,none⟩ (.slice A2 n2 c2)).drew.heap[w.heap.size+1]? =some (.cells #[.int .i64 0,.int .i64 0,.int .i64 0,.int .i64 0] 45 (0,0))):=aO ⟨by rw [sS];exact Aj,by rw [sS];exact Aq⟩;clear tA Aj Aq tB;go_wp2_with fail;refine bM (S:=fun w'=>w'.heap[w.heap.size]? =some (.cells #[.int .i64 k4,sv s4,.slice A1 n1' c1,.slice A2 n2 c2] 80 (0,0))∧w'.heap[w.heap.size+1]? =some (.cells #[.int .i64 0,.int .i64 0,.int .i64 0,.int .i64 0] 45 (0,0))) (x:=3) (by kernel_rfl) ?_
    try simp only [sp,sq]
    refine jw 0 (.agg #[.int .i64 k4,sv s4,.slice A1 n1' c1,.slice A2 n2 c2]) PX.o aT.o (hQ:=qP rfl (by decide) (by decide)) ?_;refine jw 1 (.agg #[.int .i64 0,.int .i64 0,.int .i64 0,.int .i64 0]) PD.o aT.o (hQ:=qP rfl (by decide) (by decide)) ?_;refine bB 2 fun K hK=>?_;go_simp;refine hK.out _ _ xK.o ?_;clear hK K
    try simp only [sp,sq]
    refine bR 3 fun K hK=>?_;go_simp;refine hK.out _ _ ?_;clear hK K
    try simp only [sp,sq]
    refine bU _ ?_;go_wp2_with fail;refine leaves_cons (f:=125) (args:= #[.pointer (some ⟨w.heap.size,0,none⟩),.pointer (some ⟨w.heap.size+1,0,none⟩)]) (by simp) (by simp [go_sem]) ?_;refine(ado _ _ _).mono ?_;rintro e u9 w9 ⟨rfl,rfl,rfl⟩;have e1:Dg=(0,0,0):=by rw [<-HDg.o,Dq.o]
    have e2:V=x:=by rw [<-HV.o];unfold xJ;rw [Dq.o];rfl
    subst e1 e2;have Wp:=(Dl.o.turn nI.o (fun g _ h e=>by omega)).turn (hdr (fun _=>False) _) (fun _ _ _=>id);have xP:=(fP.o.trans (nI.o.below (B:=w.heap.size) (by have:=fP.o.size;omega) (fun k hk e=>by omega))).trans ((hdr (fun _=>False) _).below (by have:=fP.o.size;have:=nI.o.size;omega) (fun _ _=>id));exact⟨_,dP rfl rfl rfl (by rw [sS];exact HXB.o) (by rw [sS];exact nJ.o) Tryz.underlying80 rfl (by kernel_rfl) Tryz.underlying45 rfl,xP,_,rfl,Wp.mono (fun g _ h=>by omega)⟩
 ·have hwh:dB (dw 100).typ s=(none,(gH s).2):=by unfold dB;rw [if_neg hE]
  have e1:Dg=(gH s).2:=by rw [<-zV,hwh]
  have e2:V=Fw:=by rw [<-hV];unfold xJ;rw [hwh];rfl
  subst e2;obtain⟨T,D1,hT⟩:∃T D1,gH s=(T,D1):=⟨_,_,rfl⟩
  rw [hT]at HL e1 hE;have e1:=e1.symm;subst e1;have hE1:(D1.2.2 != 0)=true:=by simpa using hE
  clear hE hwh zV hV hT
  go_enter_defers Tryz.func72,Tryz.ntmps72
  go_wp2_with fail;rw [HW0.o];have HDV:EK D1=.agg #[.int .i64 0,.int .i64 D1.1,.int .i64 D1.2.1,.int .i64 D1.2.2]:=rfl;refine(HL.o).mono ?_;rintro e w1 ⟨v1,n1,rfl,hown,hb1⟩;obtain⟨Jb,c1',rfl,_,_⟩:=gI hown;have hs1:=hb1.size;have hx1:=(hb1.block (w.heap.size) (by omega)).trans HX0.o;have hd1:=(hb1.block (w.heap.size+1) (by omega)).trans HD0.o;have HB1:=aO (HB0.o.trans (hb1.mono (by omega)));have Qd:=aO (Va.o.below (hb1.mono (by omega)));obtain⟨x0,x1,x2,x3,xz⟩:=aW hd1;have t1:=dM w1 (w.heap.size+1) (.int .i64 0) (.int .i64 D1.1) (.int .i64 D1.2.1) (.int .i64 D1.2.2);have wG:=aO (ah hx1 t1);have HD1:=aO (bg hd1 (.int .i64 0) (.int .i64 D1.1) (.int .i64 D1.2.1) (.int .i64 D1.2.2));have HT1:=aO t1;have hsp:(dX w1 (w.heap.size+1) (.int .i64 0) (.int .i64 D1.1) (.int .i64 D1.2.1) (.int .i64 D1.2.2)).heap.size=w1.heap.size:=by simp [dX]
  have HOWN:=aO hown;rw [HDV];clear hown hb1 hx1 hd1 t1 HDV;have PX:=aO (fun(w':World) (h:w'.heap[w.heap.size]? =some (.cells #[.int .i64 0,.string ⟨#[]⟩,.slice none 0 0,.slice none 0 0] 80 (0,0))∧w'.heap[w.heap.size+1]? =some (.cells #[.int .i64 0,.int .i64 D1.1,.int .i64 D1.2.1,.int .i64 D1.2.2] 45 (0,0)))=>(⟨(dY h.1),(dY h.1),(dY h.1),(dY h.1)⟩:w'.cell? ⟨w.heap.size,0,none⟩=some (.int .i64 0)∧w'.cell? ⟨w.heap.size,1,none⟩=some (.string ⟨#[]⟩)∧w'.cell? ⟨w.heap.size,2,none⟩=some (.slice none 0 0)∧w'.cell? ⟨w.heap.size,3,none⟩=some (.slice none 0 0)));have PD:=aO (fun(w':World) (h:w'.heap[w.heap.size]? =some (.cells #[.int .i64 0,.string ⟨#[]⟩,.slice none 0 0,.slice none 0 0] 80 (0,0))∧w'.heap[w.heap.size+1]? =some (.cells #[.int .i64 0,.int .i64 D1.1,.int .i64 D1.2.1,.int .i64 D1.2.2] 45 (0,0)))=>(⟨(dY h.2),(dY h.2),(dY h.2),(dY h.2)⟩:w'.cell? ⟨w.heap.size+1,0,none⟩=some (.int .i64 0)∧w'.cell? ⟨w.heap.size+1,1,none⟩=some (.int .i64 D1.1)∧w'.cell? ⟨w.heap.size+1,2,none⟩=some (.int .i64 D1.2.1)∧w'.cell? ⟨w.heap.size+1,3,none⟩=some (.int .i64 D1.2.2)));have aT:bq ((dX w1 (w.heap.size+1) (.int .i64 0) (.int .i64 D1.1) (.int .i64 D1.2.1) (.int .i64 D1.2.2)).drew.heap[w.heap.size]? =some (.cells #[.int .i64 0,.string ⟨#[]⟩,.slice none 0 0,.slice none 0 0] 80 (0,0))∧(dX w1 (w.heap.size+1) (.int .i64 0) (.int .i64 D1.1) (.int .i64 D1.2.1) (.int .i64 D1.2.2)).drew.heap[w.heap.size+1]? =some (.cells #[.int .i64 0,.int .i64 D1.1,.int .i64 D1.2.1,.int .i64 D1.2.2] 45 (0,0))):=aO ⟨by rw [sS];exact wG.o,by rw [sS];exact HD1.o⟩
  have ka0:(dX w1 (w.heap.size+1) (.int .i64 0) (.int .i64 D1.1) (.int .i64 D1.2.1) (.int .i64 D1.2.2)).cell? ⟨w.heap.size,0,none⟩=some (.int .i64 0):=(cell_of_row _ _ 0 _ _ _ wG.o).trans rfl;have ka1:(dX w1 (w.heap.size+1) (.int .i64 0) (.int .i64 D1.1) (.int .i64 D1.2.1) (.int .i64 D1.2.2)).cell? ⟨w.heap.size,1,none⟩=some (.string ⟨#[]⟩):=(cell_of_row _ _ 1 _ _ _ wG.o).trans rfl;have ka2:(dX w1 (w.heap.size+1) (.int .i64 0) (.int .i64 D1.1) (.int .i64 D1.2.1) (.int .i64 D1.2.2)).cell? ⟨w.heap.size,2,none⟩=some (.slice none 0 0):=(cell_of_row _ _ 2 _ _ _ wG.o).trans rfl;have ka3:(dX w1 (w.heap.size+1) (.int .i64 0) (.int .i64 D1.1) (.int .i64 D1.2.1) (.int .i64 D1.2.2)).cell? ⟨w.heap.size,3,none⟩=some (.slice none 0 0):=(cell_of_row _ _ 3 _ _ _ wG.o).trans rfl;have kaz:∀i,(dX w1 (w.heap.size+1) (.int .i64 0) (.int .i64 D1.1) (.int .i64 D1.2.1) (.int .i64 D1.2.2)).frozen? ⟨w.heap.size,i,none⟩=false:=fun i=>frozen_of_row _ _ _ _ _ wG.o;have la0:(dX w1 (w.heap.size+1) (.int .i64 0) (.int .i64 D1.1) (.int .i64 D1.2.1) (.int .i64 D1.2.2)).cell? ⟨w.heap.size+1,0,none⟩=some (.int .i64 0):=(cell_of_row _ _ 0 _ _ _ HD1.o).trans rfl;have la1:(dX w1 (w.heap.size+1) (.int .i64 0) (.int .i64 D1.1) (.int .i64 D1.2.1) (.int .i64 D1.2.2)).cell? ⟨w.heap.size+1,1,none⟩=some (.int .i64 D1.1):=(cell_of_row _ _ 1 _ _ _ HD1.o).trans rfl;have la2:(dX w1 (w.heap.size+1) (.int .i64 0) (.int .i64 D1.1) (.int .i64 D1.2.1) (.int .i64 D1.2.2)).cell? ⟨w.heap.size+1,2,none⟩=some (.int .i64 D1.2.1):=(cell_of_row _ _ 2 _ _ _ HD1.o).trans rfl
  have la3:(dX w1 (w.heap.size+1) (.int .i64 0) (.int .i64 D1.1) (.int .i64 D1.2.1) (.int .i64 D1.2.2)).cell? ⟨w.heap.size+1,3,none⟩=some (.int .i64 D1.2.2):=(cell_of_row _ _ 3 _ _ _ HD1.o).trans rfl;have laz:∀i,(dX w1 (w.heap.size+1) (.int .i64 0) (.int .i64 D1.1) (.int .i64 D1.2.1) (.int .i64 D1.2.2)).frozen? ⟨w.heap.size+1,i,none⟩=false:=fun i=>frozen_of_row _ _ _ _ _ HD1.o;have tA:=((((ak (dX w1 (w.heap.size+1) (.int .i64 0) (.int .i64 D1.1) (.int .i64 D1.2.1) (.int .i64 D1.2.2)) (w.heap.size) 0 (.int .i64 0)).trans (ak _ (w.heap.size) 1 (.string ⟨#[]⟩))).trans (ak _ (w.heap.size) 2 (.slice none 0 0))).trans (ak _ (w.heap.size) 3 (.slice none 0 0)))
  have Aj:=(bg (b:=w.heap.size) wG.o (.int .i64 0) (.string ⟨#[]⟩) (.slice none 0 0) (.slice none 0 0))
  have Aq:=ah HD1.o tA;have tB:=((((ak (((((dX w1 (w.heap.size+1) (.int .i64 0) (.int .i64 D1.1) (.int .i64 D1.2.1) (.int .i64 D1.2.2)).setCell ⟨w.heap.size,0,none⟩ (.int .i64 0)).setCell ⟨w.heap.size,1,none⟩ (.string ⟨#[]⟩)).setCell ⟨w.heap.size,2,none⟩ (.slice none 0 0)).setCell ⟨w.heap.size,3,none⟩ (.slice none 0 0)) (w.heap.size+1) 0 (.int .i64 0)).trans (ak _ (w.heap.size+1) 1 (.int .i64 D1.1)) (fun _ _ h=>h)).trans (ak _ (w.heap.size+1) 2 (.int .i64 D1.2.1)) (fun _ _ h=>h)).trans (ak _ (w.heap.size+1) 3 (.int .i64 D1.2.2)))
  have HXB:=aO (ah Aj tB);have nJ:=aO ((bg (b:=w.heap.size+1) Aq (.int .i64 0) (.int .i64 D1.1) (.int .i64 D1.2.1) (.int .i64 D1.2.2)));have nI:=aO ((tA.mono (G:=fun k=>k=w.heap.size∨k=w.heap.size+1) (fun _ _ h=>.inl h)).trans tB (fun _ _ h=>.inr h));have xK:bq ((((((dX w1 (w.heap.size+1) (.int .i64 0) (.int .i64 D1.1) (.int .i64 D1.2.1) (.int .i64 D1.2.2)).setCell ⟨w.heap.size,0,none⟩ (.int .i64 0)).setCell ⟨w.heap.size,1,none⟩ (.string ⟨#[]⟩)).setCell ⟨w.heap.size,2,none⟩ (.slice none 0 0)).setCell ⟨w.heap.size,3,none⟩ (.slice none 0 0)).drew.heap[w.heap.size]? =some (.cells #[.int .i64 0,.string ⟨#[]⟩,.slice none 0 0,.slice none 0 0] 80 (0,0))∧(((((dX w1 (w.heap.size+1) (.int .i64 0) (.int .i64 D1.1) (.int .i64 D1.2.1) (.int .i64 D1.2.2)).setCell ⟨w.heap.size,0,none⟩ (.int .i64 0)).setCell ⟨w.heap.size,1,none⟩ (.string ⟨#[]⟩)).setCell ⟨w.heap.size,2,none⟩ (.slice none 0 0)).setCell ⟨w.heap.size,3,none⟩ (.slice none 0 0)).drew.heap[w.heap.size+1]? =some (.cells #[.int .i64 0,.int .i64 D1.1,.int .i64 D1.2.1,.int .i64 D1.2.2] 45 (0,0))):=aO ⟨by rw [sS];exact Aj,by rw [sS];exact Aq⟩;clear tA Aj Aq tB;go_wp2_with fail;refine bM (S:=fun w'=>w'.heap[w.heap.size]? =some (.cells #[.int .i64 0,.string ⟨#[]⟩,.slice none 0 0,.slice none 0 0] 80 (0,0))∧w'.heap[w.heap.size+1]? =some (.cells #[.int .i64 0,.int .i64 D1.1,.int .i64 D1.2.1,.int .i64 D1.2.2] 45 (0,0))) (x:=3) (by kernel_rfl) ?_
  try simp only [sp,sq]
  refine jw 0 (.agg #[.int .i64 0,.string ⟨#[]⟩,.slice none 0 0,.slice none 0 0]) PX.o aT.o (hQ:=fun c a w h=>qP rfl (by decide) (by decide) c a w h) ?_;refine jw 1 (.agg #[.int .i64 0,.int .i64 D1.1,.int .i64 D1.2.1,.int .i64 D1.2.2]) PD.o aT.o (hQ:=fun c a w h=>qP rfl (by decide) (by decide) c a w h) ?_;refine bB 2 fun K hK=>?_;go_simp;refine hK.out _ _ xK.o ?_;clear hK K
  try simp only [sp,sq]
  refine bR 3 fun K hK=>?_;go_simp;refine hK.out _ _ ?_;clear hK K
  try simp only [sp,sq]
  refine bU _ ?_;go_wp2_with fail;have xP:=((HB1.o.trans (HT1.o.below (B:=w.heap.size) (by omega) (fun k hk e=>by omega))).trans (nI.o.below (B:=w.heap.size) (by rw [hsp];omega) (fun k hk e=>by omega))).trans ((hdr (fun _=>False) _).below (by have:=nI.o.size;rw [hsp]at this;omega) (fun _ _=>id));exact⟨_,dP rfl rfl rfl (by rw [sS];exact HXB.o) (by rw [sS];exact nJ.o) Tryz.underlying80 rfl (by kernel_rfl) Tryz.underlying45 rfl,xP,_,rfl,.mk (cZ.nil _ _ _) (cZ.nil _ _ _) .nil⟩
theorem adp (w:World)(s:Bt)(hX:oq w):Calls Tryz.prog 34 #[sv s] w fun e w'=>Below w.heap.size w w'∧∃z:List Value,e=.returned (.tuple #[.agg z.toArray,xZ (dB (dw 100).typ s).2])∧nT w' (fun j=>w.heap.size<=j) z (xJ (dw 100).typ s Fw):=by
 obtain⟨W0,hW0⟩:∃W0,((w.alloc (.cells #[.int .i64 0,.string ⟨#[]⟩,.slice none 0 0,.slice none 0 0] 80)).alloc (.cells #[.int .i64 0,.int .i64 0,.int .i64 0,.int .i64 0] 45))=W0:=⟨_,rfl⟩
 obtain⟨tw,_,hx0,hd0⟩:=jk (G:=fun _=>False) (Turn.refl _ ((w.alloc (.cells #[.int .i64 0,.string ⟨#[]⟩,.slice none 0 0,.slice none 0 0] 80)).alloc (.cells #[.int .i64 0,.int .i64 0,.int .i64 0,.int .i64 0] 45)));have hs0:W0.heap.size=w.heap.size+2:=by rw [<-hW0];simp
 have hb0:Below w.heap.size w W0:=by rw [<-hW0];exact new2 _ _ _
 rw [hW0]at tw hx0 hd0;have HX0:=aO (hx0 id);have HD0:=aO (hd0 id);have HB0:=aO hb0;have HA:=aO (afE W0 s (hX.below hb0));have HW0:=aO hW0;obtain⟨Dg,zV⟩:∃Dg,(dB (dw 100).typ s).2=Dg:=⟨_,rfl⟩
 obtain⟨V,hV⟩:∃V,xJ (dw 100).typ s Fw=V:=⟨_,rfl⟩
 rw [zV,hV]at HA;rw [zV,hV];clear hX tw hx0 hd0 hb0 hW0 zV hV;go_enter Tryz.func34,Tryz.ntmps34;go_wp2_with fail;rw [HW0.o];refine(HA.o).mono ?_;rintro e w1 ⟨hb1,z0,rfl,hz0⟩;have hzc:=hz0;obtain⟨k4,s4,A1,n1',c1,A2,n2,c2,rfl⟩:=hzc.shape';have hs1:=hb1.size;have hx1:=(hb1.block (w.heap.size) (by omega)).trans HX0.o;have hd1:=(hb1.block (w.heap.size+1) (by omega)).trans HD0.o;have tA:Turn (fun k=>k=w.heap.size) w1 ((((w1.setCell ⟨w.heap.size,0,none⟩ (I k4)).setCell ⟨w.heap.size,1,none⟩ (sv s4)).setCell ⟨w.heap.size,2,none⟩ (.slice A1 n1' c1)).setCell ⟨w.heap.size,3,none⟩ (.slice A2 n2 c2)):=((((ak w1 (w.heap.size) 0 (I k4)).trans (ak _ (w.heap.size) 1 (sv s4))).trans (ak _ (w.heap.size) 2 (.slice A1 n1' c1))).trans (ak _ (w.heap.size) 3 (.slice A2 n2 c2)))
 have Aj:=(bg (b:=w.heap.size) hx1 (I k4) (sv s4) (.slice A1 n1' c1) (.slice A2 n2 c2))
 have Aq:=ah hd1 tA;have tB:=((((ak ((((w1.setCell ⟨w.heap.size,0,none⟩ (I k4)).setCell ⟨w.heap.size,1,none⟩ (sv s4)).setCell ⟨w.heap.size,2,none⟩ (.slice A1 n1' c1)).setCell ⟨w.heap.size,3,none⟩ (.slice A2 n2 c2)) (w.heap.size+1) 0 (I 0)).trans (ak _ (w.heap.size+1) 1 (I Dg.1)) (fun _ _ h=>h)).trans (ak _ (w.heap.size+1) 2 (I Dg.2.1)) (fun _ _ h=>h)).trans (ak _ (w.heap.size+1) 3 (I Dg.2.2)))
 have HXB:=aO (ah Aj tB);have nJ:=aO ((bg (b:=w.heap.size+1) Aq (I 0) (I Dg.1) (I Dg.2.1) (I Dg.2.2)));have nI:=aO ((tA.mono (G:=fun k=>k=w.heap.size∨k=w.heap.size+1) (fun _ _ h=>.inl h)).trans tB (fun _ _ h=>.inr h));have HZ:=aO hz0;have HB1:=aO (HB0.o.trans (hb1.mono (by omega)));have u0:w1.cell? ⟨w.heap.size,0,none⟩=some (I 0):=(cell_of_row _ _ 0 _ _ _ hx1).trans rfl;have u1:w1.cell? ⟨w.heap.size,1,none⟩=some S0:=(cell_of_row _ _ 1 _ _ _ hx1).trans rfl;have u2:w1.cell? ⟨w.heap.size,2,none⟩=some Z:=(cell_of_row _ _ 2 _ _ _ hx1).trans rfl;have u3:w1.cell? ⟨w.heap.size,3,none⟩=some Z:=(cell_of_row _ _ 3 _ _ _ hx1).trans rfl;have l0:w1.cell? ⟨w.heap.size+1,0,none⟩=some (I 0):=(cell_of_row _ _ 0 _ _ _ hd1).trans rfl;have l1:w1.cell? ⟨w.heap.size+1,1,none⟩=some (I 0):=(cell_of_row _ _ 1 _ _ _ hd1).trans rfl;have l2:w1.cell? ⟨w.heap.size+1,2,none⟩=some (I 0):=(cell_of_row _ _ 2 _ _ _ hd1).trans rfl;have l3:w1.cell? ⟨w.heap.size+1,3,none⟩=some (I 0):=(cell_of_row _ _ 3 _ _ _ hd1).trans rfl;have uz:∀i,w1.frozen? ⟨w.heap.size,i,none⟩=false:=fun i=>frozen_of_row _ _ _ _ _ hx1;have lz:∀i,w1.frozen? ⟨w.heap.size+1,i,none⟩=false:=fun i=>frozen_of_row _ _ _ _ _ hd1;clear hb1 hz0 hx1 hd1 tA Aj Aq tB hzc;go_wp2_with fail;refine bodyPost_ret (dP rfl rfl rfl HXB.o nJ.o Tryz.underlying80 rfl (by kernel_rfl) Tryz.underlying45 rfl) rfl ?_;exact⟨HB1.o.trans (nI.o.below (B:=w.heap.size) (by omega) (fun k hk e=>by omega)),_,rfl,(HZ.o.turn nI.o (fun g _ h e=>by omega)).mono (fun g _ h=>by omega)⟩
theorem Je {s:Bt}(h:32<s.length):gT s=false:=by
 cases s with
 |nil=>simp at h
 |cons c r=>
  show(decide ((c :: r).length<=32) && _ && _ && _)=false;rw [decide_eq_false (by omega)];rfl
theorem Jf (w:World)(s:Bt)(hX:mW w)(hs:s.length<=maxLen):Calls Tryz.prog 59 #[sv s] w fun e w'=>e=.returned (.bool (gT s))∧Below w.heap.size w w':=by
 by_cases hl:s.length<=281474976710656
 ·exact YQ w s hX hl
 have hf:=Je (s:=s) (by omega);have hsz:=cO s;have hn:(s==[])=false:=by cases s with |nil=>simp at hl |cons c r=>rfl
 have hne:¬s=[]:=by intro h;rw [h]at hl;simp at hl
 have hg:decide ((s.length:Int)<=32)=false:=by rw [decide_eq_false_iff_not];omega
 rw [hf];unfold maxLen at hs;clear hf hl;go_enter Tryz.func59,Tryz.ntmps59;go_wp2_with fail;go_ret;exact⟨rfl,Below.refl _ _⟩
theorem adq (w:World)(s:Bt)(hX:mW w)(hs:s.length<=maxLen):Calls Tryz.prog 150 #[sv s] w fun e w'=>e=.returned (.bool (!gT s))∧Below w.heap.size w w':=by
 have HN:=aO (Jf w s hX hs);generalize gT s=b at*
 go_enter Tryz.func150,Tryz.ntmps150;go_wp2_with fail;refine HN.o.mono ?_;rintro e w2 ⟨rfl,hb⟩;go_wp2_with fail;go_ret;exact⟨rfl,hb⟩
theorem Jg {α:Type}{l:List α}{k:Nat}(h:k<l.length):l.take (k+1)=l.take k++[l[k]]:=List.take_succ_eq_append_getElem h
def axx (l:List Bt)(w:World)(e:Ending)(w':World):Prop:=(∃k:Int,e=.returned (I k)∧(if l.all gT then k= -1 else 0<=k))∧Below w.heap.size w w'
theorem Qj (v:Value)(l:List Bt)(w:World)(hv:Ss w w.heap.size v l)(hl:∀y∈l,y.length<=maxLen)(hX:mW w):
  Calls Tryz.prog 165 #[v,.func (.func 150) #[] #[]] w (axx l w):=by
 have HV:=aO hv;obtain⟨A,c,rfl⟩:=fM hv (by omega) (m:=l.length) (by rw [fE];omega);obtain⟨_,hn,hc⟩:=dU hv;have HL:=aO hl;have HX:=aO hX;clear hv hl hX;go_enter Tryz.func165,Tryz.ntmps165;go_wp2_with fail;go_loopw [8] (fun v8 wr=>∃k:Nat,v8=I k∧k<=l.length∧(l.take k).all gT=true∧Below w.heap.size w wr) (fun v8 _=>l.length - (intOf v8).toNat)
 case atStart=>exact⟨0,rfl,by omega,rfl,Below.refl _ _⟩
 case round=>
  obtain⟨k,rfl,hk,hinv,hbr⟩:=hrel;have HI:=aO hinv;clear hinv;by_cases hlt:k<l.length
  ·have axy:=hlt;obtain⟨b1,o1,rfl,hb1,hc1⟩:=BN HV.o hlt;have d1:wr.cell? ⟨b1,o1+k,none⟩=some (sv l[k]):=Dt hbr (by have:=hc1 0 (sv l[k]) (by simp [qW,hlt]);simpa using this) hb1;have HN:=aO (adq wr l[k] (HX.o.below hbr) (HL.o _ (List.getElem_mem hlt)));have hst:=Jg hlt;have HB:=aO hbr;clear hc1 hb1 hbr;cases hq:gT l[k]with
   |false=>
    have hall:l.all gT=false:=by
     cases h:l.all gT with
     |false=>rfl
     |true=>rw [List.all_eq_true]at h;rw [h _ (List.getElem_mem hlt)]at hq;cases hq
    rw [hq]at HN;have GA:=aO hall;clear hq hst hall;generalize l[k]=X at*
    go_wp2_with fail;refine HN.o.mono ?_;rintro e w2 ⟨rfl,hb⟩;have HB2:=aO (HB.o.trans (hb.mono HB.o.size));clear hb d1;go_wp2_with fail;go_ret;exact⟨⟨k,rfl,by rw [GA.o];simp⟩,HB2.o⟩
   |true=>
    rw [hq]at HN;have HST:bq ((l.take (k+1)).all gT=true):=aO (by rw [hst,List.all_append,HI.o];simp [hq]);clear hq hst;generalize l[k]=X at*
    go_wp2_with fail;refine HN.o.mono ?_;rintro e w2 ⟨rfl,hb⟩;have HB2:=aO (HB.o.trans (hb.mono HB.o.size));clear hb d1;go_wp2_with fail
    go_roundw
    case rel=>exact⟨k+1,rfl,by omega,HST.o,HB2.o⟩
    case measure=>simp [intOf];omega
  ·obtain rfl:k=l.length:=by omega
   rw [List.take_length]at HI;have HB:=aO hbr;clear hbr;go_wp2_with fail;go_ret;exact⟨⟨-1,rfl,by rw [HI.o];simp⟩,HB.o⟩
theorem Qm (v:Value)(l:List Bt)(w:World)(hv:Ss w w.heap.size v l)(hl:∀y∈l,y.length<=maxLen)(hX:mW w):
  Calls Tryz.prog 149 #[v,.func (.func 150) #[] #[]] w fun e w'=>e=.returned (.bool (!l.all gT))∧Below w.heap.size w w':=by
 have HI:=aO (Qj v l w hv hl hX);obtain⟨A,n,c,rfl⟩:=jy hv;clear hv hl hX;cases hb:l.all gT
 all_goals
  go_enter Tryz.func149,Tryz.ntmps149;go_wp2_with fail;refine HI.o.mono ?_;rintro e w2 ⟨⟨k,rfl,hk⟩,hbel⟩;rw [hb]at hk;simp only [Bool.false_eq_true,if_false,if_true]at hk;have HB:=aO hbel;clear hbel hb HI
 ·have hg:decide (0<=k)=true:=by simpa using hk
  go_wp2_with fail;go_ret;exact⟨rfl,HB.o⟩
 ·subst hk;go_wp2_with fail;go_ret;exact⟨rfl,HB.o⟩
theorem Jh (v:Value)(l:List Bt)(w:World)(hv:Ss w w.heap.size v l)(hl:∀y∈l,y.length<=maxLen)(hX:mW w):
  Calls Tryz.prog 96 #[v] w fun e w'=>e=.returned (.bool (l.all gT))∧Below w.heap.size w w':=by
 have HC:=aO (Qm v l w hv hl hX);obtain⟨A,n,c,rfl⟩:=jy hv;clear hv hl hX;generalize l.all gT=b at*
 go_enter Tryz.func96,Tryz.ntmps96;go_wp2_with fail;refine HC.o.mono ?_;rintro e w2 ⟨rfl,hb⟩;go_wp2_with fail;go_ret;cases b <;> exact⟨rfl,hb⟩
def WrC (m:Nat):Prop:=∀(w:World) (z:List Value) (t:bZ),BO w w.heap.size z t->okT t->mW w->
 Calls Tryz.prog 129 #[.agg z.toArray,I m] w fun e w'=>e=.returned (.bool (dx m t))∧Below w.heap.size w w'
theorem Qo (m:Nat)(hm:m<=40)(ih:WrC m)(w:World)(z:List Value)(t:bZ)(hr:BO w w.heap.size z t)(hok:okT t)(hX:mW w)(p:Nat)(hp:w.cell? ⟨p,0,none⟩=some (I ((m:Int)+1))):
  Calls Tryz.prog 174 #[.agg z.toArray,pP p 0] w fun e w'=>e=.returned (.bool (!dx m t))∧Below w.heap.size w w':=by
 have hr0:=hr;obtain⟨k,s,A1,n1,c1,A2,n2,c2,rfl⟩:=hr.shape;have hb1:Below w.heap.size w (w.alloc (.cells #[.int .i64 k,.string s,.slice A1 n1 c1,.slice A2 n2 c2] 80)):=o9 _ _;have HI:=aO (ih _ _ t (hr0.far (Nat.le_refl _) hb1) hok (hX.below hb1));have HB:=aO hb1;have hpl:p<w.heap.size:=World.block_lt_of_cell? w _ hp;clear hr hr0 hX hb1 hok ih;generalize dx m t=b at*
 go_enter Tryz.func174,Tryz.ntmps174;go_wp2_with fail;refine HI.o.mono ?_;rintro e w2 ⟨rfl,hb⟩;go_wp2_with fail;go_ret;exact⟨rfl,HB.o.trans (hb.mono HB.o.size)⟩
def asj (m:Nat)(l:List bZ)(w:World)(e:Ending)(w':World):Prop:=(∃k:Int,e=.returned (I k)∧(if l.all (dx m)then k= -1 else 0<=k))∧Below w.heap.size w w'
theorem FT (m:Nat)(hm:m<=40)(ih:WrC m)(v:Value)(l:List bZ)(xs:List Value)(w:World)(hv:Sl w w.heap.size 4 v xs)(hr:lC w w.heap.size xs l)(hl:∀y∈l,okT y)(hX:mW w)(p:Nat)(hp:w.cell? ⟨p,0,none⟩=some (I ((m:Int)+1))):
  Calls Tryz.prog 189 #[v,.func (.func 174) #[] #[pP p 0]] w (asj m l w):=by
 have HV:=aO hv;obtain⟨A,c,rfl⟩:=fM hv (by omega) (m:=l.length) hr.length;obtain⟨_,hn,hc⟩:=dU hv;have HL:=aO hl;have HX:=aO hX;have HR:=aO hr;have HP:=aO hp;have HIH:=aO ih;have hpl:=World.block_lt_of_cell? w _ hp;have HPL:=aO hpl;clear hv hl hX hr hp ih hpl;go_enter Tryz.func189,Tryz.ntmps189;go_wp2_with fail;go_loopw [8] (fun v8 wr=>∃k:Nat,v8=I k∧k<=l.length∧(l.take k).all (dx m)=true∧Below w.heap.size w wr) (fun v8 _=>l.length - (intOf v8).toNat)
 case atStart=>exact⟨0,rfl,by omega,rfl,Below.refl _ _⟩
 case round=>
  obtain⟨k,rfl,hk,hinv,hbr⟩:=hrel;have HI:=aO hinv;clear hinv;by_cases hlt:k<l.length
  ·have axy:=hlt;obtain⟨b1,o1,rfl,hb1,hc1⟩:=BN HV.o hlt;have hr1:=HR.o.at k hlt;obtain⟨kk,s,A1,n1,c1,A2,n2,c2,hv1⟩:=hr1.shape;rw [hv1]at hr1;have d0:wr.cell? ⟨b1,o1+k*4,none⟩=some (I kk):=Dt hbr (by have:=hc1 0 _ (lV hv1 (by omega:0<4));simpa using this) hb1;have d1:wr.cell? ⟨b1,o1+k*4+1,none⟩=some (.string s):=Dt hbr (by have:=hc1 1 _ (lV hv1 (by omega:1<4));simpa [Nat.add_assoc]using this) hb1;have d2:wr.cell? ⟨b1,o1+k*4+2,none⟩=some (.slice A1 n1 c1):=Dt hbr (by have:=hc1 2 _ (lV hv1 (by omega:2<4));simpa [Nat.add_assoc]using this) hb1;have d3:wr.cell? ⟨b1,o1+k*4+3,none⟩=some (.slice A2 n2 c2):=Dt hbr (by have:=hc1 3 _ (lV hv1 (by omega:3<4));simpa [Nat.add_assoc]using this) hb1;have HN:=aO (Qo m hm HIH.o wr _ l[k] (hr1.far (Nat.le_refl _) hbr) (HL.o _ (List.getElem_mem hlt)) (HX.o.below hbr) p (Dt hbr HP.o HPL.o));have hst:=Jg hlt;have HB:=aO hbr;clear hc1 hb1 hbr hv1 hr1;cases hq:dx m l[k]with
   |false=>
    have hall:l.all (dx m)=false:=by
     cases h:l.all (dx m)with
     |false=>rfl
     |true=>rw [List.all_eq_true]at h;rw [h _ (List.getElem_mem hlt)]at hq;cases hq
    rw [hq]at HN;have GA:=aO hall;clear hq hst hall;generalize l[k]=X at*
    go_wp2_with fail;refine HN.o.mono ?_;rintro e w2 ⟨rfl,hb⟩;have HB2:=aO (HB.o.trans (hb.mono HB.o.size));clear hb d0 d1 d2 d3;go_wp2_with fail;go_ret;exact⟨⟨k,rfl,by rw [GA.o];simp⟩,HB2.o⟩
   |true=>
    rw [hq]at HN;have HST:bq ((l.take (k+1)).all (dx m)=true):=aO (by rw [hst,List.all_append,HI.o];simp [hq]);clear hq hst;generalize l[k]=X at*
    go_wp2_with fail;refine HN.o.mono ?_;rintro e w2 ⟨rfl,hb⟩;have HB2:=aO (HB.o.trans (hb.mono HB.o.size));clear hb d0 d1 d2 d3;go_wp2_with fail
    go_roundw
    case rel=>exact⟨k+1,rfl,by omega,HST.o,HB2.o⟩
    case measure=>simp [intOf];omega
  ·obtain rfl:k=l.length:=by omega
   rw [List.take_length]at HI;have HB:=aO hbr;clear hbr;go_wp2_with fail;go_ret;exact⟨⟨-1,rfl,by rw [HI.o];simp⟩,HB.o⟩
theorem Br (m:Nat)(hm:m<=40)(ih:WrC m)(v:Value)(l:List bZ)(xs:List Value)(w:World)(hv:Sl w w.heap.size 4 v xs)(hr:lC w w.heap.size xs l)(hl:∀y∈l,okT y)(hX:mW w)(p:Nat)(hp:w.cell? ⟨p,0,none⟩=some (I ((m:Int)+1))):
  Calls Tryz.prog 152 #[v,.func (.func 174) #[] #[pP p 0]] w fun e w'=>e=.returned (.bool (!l.all (dx m)))∧Below w.heap.size w w':=by
 have HI:=aO (FT m hm ih v l xs w hv hr hl hX p hp);obtain⟨A,n,c,rfl⟩:=jy hv;clear hv hl hX hr hp ih;cases hb:l.all (dx m)
 all_goals
  go_enter Tryz.func152,Tryz.ntmps152;go_wp2_with fail;refine HI.o.mono ?_;rintro e w2 ⟨⟨k,rfl,hk⟩,hbel⟩;rw [hb]at hk;simp only [Bool.false_eq_true,if_false,if_true]at hk;have HB:=aO hbel;clear hbel hb HI
 ·have hg:decide (0<=k)=true:=by simpa using hk
  go_wp2_with fail;go_ret;exact⟨rfl,HB.o⟩
 ·subst hk;go_wp2_with fail;go_ret;exact⟨rfl,HB.o⟩
theorem Et {w:World}{b:Nat}{x0 x1 x2 x3:Value}{T:TypeId}(h:w.heap[b]? =some (.cells #[x0,x1,x2,x3] T (0,0))):
  w.cell? ⟨b,0,none⟩=some x0∧w.cell? ⟨b,1,none⟩=some x1∧w.cell? ⟨b,2,none⟩=some x2∧w.cell? ⟨b,3,none⟩=some x3:=
 ⟨(dY h),(dY h),(dY h),(dY h)⟩
theorem wrap_zero {a b:Nat}(ha:a<=2 ^ 63 - 1)(hb:b<=2 ^ 63 - 1)(h:¬(a=0∧b=0)):(wrap64 ((a:Int)+(b:Int))==0)=false:=by
 rw [beq_eq_false_iff_ne];intro h0;unfold wrap64 at h0;omega
theorem MO:WrC 0:=by
 intro w z t hr hok hX;have hw:dx 0 t=false:=rfl;rw [hw];obtain⟨k,s,A1,n1,c1,A2,n2,c2,rfl⟩:=hr.shape;have hb2:Below w.heap.size w ((w.alloc (.cells #[.int .i64 k,.string s,.slice A1 n1 c1,.slice A2 n2 c2] 80)).alloc (.cells #[.int .i64 0] 3)):=(o9 _ _).alloc (by simp) _;have HB:=aO hb2;clear hr hok hX hb2 hw;go_enter Tryz.func129,Tryz.ntmps129;go_wp2_with fail;go_ret;exact⟨rfl,HB.o⟩
theorem MP (m:Nat)(hm:m<=40)(ih:WrC m):WrC (m+1):=by
 intro w z t hr hok hX;obtain⟨k,nm,ns,ks⟩:=t;rw [okT]at hok;obtain⟨ok1,ok2,ok3,ok4⟩:=hok;obtain⟨A1,c1,A2,c2,xk,rfl,s1,s2,r2⟩:=hr.parts;have l1:=(dU s1).2;have l2:=(dU s2).2;clear hr;have hw:dx (m+1) (.mk k nm ns ks)=(ns.all gT && ks.all (dx m) && iB k nm ns.length ks.length):=rfl;rw [hw];clear hw;have hz1:=heap_alloc_new w (.cells #[I k,sv nm,.slice A1 ns.length c1,.slice A2 ks.length c2] 80);obtain⟨W1,hW1⟩:∃W1,W1=w.alloc (.cells #[.int .i64 k,sv nm,.slice A1 ns.length c1,.slice A2 ks.length c2] 80):=⟨_,rfl⟩
 have hb1:Below w.heap.size w W1:=by rw [hW1];exact o9 _ _
 rw [<-hW1]at hz1;have hs1:W1.heap.size=w.heap.size+1:=by rw [hW1];exact Array.size_push _
 have hz2:=heap_alloc_new W1 (.cells #[I ((m:Int)+1)] 3);obtain⟨W2,hW2⟩:∃W2,W2=W1.alloc (.cells #[.int .i64 ((m:Int)+1)] 3):=⟨_,rfl⟩
 have mE:Below W1.heap.size W1 W2:=by rw [hW2];exact o9 _ _
 have hb2:Below w.heap.size w W2:=hb1.trans (mE.mono hb1.size);rw [<-hW2,hs1]at hz2;have hz1:=(mE.block _ (block_lt hz1)).trans hz1;have HZ:=aO (And.intro hz1 hz2);have hwe:=hW2;rw [hW1]at hwe;have La:=aO hwe;have HB2:=aO hb2;have HN:=aO (Jh _ ns W2 (Sl.more (Sl.below s1 hb2) hb2.size) ok3 (hX.below hb2));rw [hwe]at HN;have HS:=aO (And.intro s2 r2);have Tq:=aO (And.intro (Nf.1 ok4) ok2);have HX:=aO hX;have HIH:=aO ih;have hmf:∀(fn:Fn) (first cap:Array Value) (w:World),(Instr.makeFunc fn first cap).run Tryz.prog w=.ok (.func fn first cap) w:=fun _ _ _ _=>rfl;have hm0:(((m:Int)+1)==0)=false:=by rw [beq_eq_false_iff_ne];omega
 have hm1:(((m+1:Nat):Int)==0)=false:=by rw [beq_eq_false_iff_ne];omega
 clear s1 s2 r2 ok1 ok2 ok3 ok4 hX ih hz1 hz2 hb1 mE hb2 hs1 hW1 hW2 hwe;go_enter Tryz.func129,Tryz.ntmps129;go_wp2_with fail;refine HN.o.mono ?_;rintro e w3 ⟨rfl,hb3⟩;rw [<-La.o]at hb3;have HB3:=aO hb3;clear hb3 HN;cases hns:ns.all gT with
 |false=>
  have Ld:=aO hns;clear hns;go_wp2_with fail;go_ret;exact⟨by rw [Ld.o];rfl,HB2.o.trans (HB3.o.mono HB2.o.size)⟩
 |true=>
  have Ld:=aO hns;clear hns;have asl:=(HB3.o.block _ (block_lt HZ.o.1)).trans HZ.o.1;obtain⟨g0,g1,g2,g3⟩:=Et asl;have asn:=(HB3.o.block _ (block_lt HZ.o.2)).trans HZ.o.2;have gm:w3.cell? ⟨w.heap.size+1,0,none⟩=some (I ((m:Int)+1)):=(dY asn)
  have wD:Below w.heap.size w w3:=HB2.o.trans (HB3.o.mono HB2.o.size);have HC:=aO (Br m hm HIH.o _ ks xk w3 (Sl.more (Sl.below HS.o.1 wD) wD.size) ((HS.o.2.keep wD).more wD.size) Tq.o.1 (HX.o.below wD) (w.heap.size+1) gm);clear asl asn wD;go_wp2_with fail;clear hm0 hm1 g0 g1 g2 g3 gm;refine HC.o.mono ?_;rintro e w4 ⟨rfl,hb4⟩;have Bo:=aO (HB3.o.trans (hb4.mono HB3.o.size));clear hb4 HC;cases hks:ks.all (dx m)with
  |false=>
   have J7:=aO hks;clear hks;go_wp2_with fail;go_ret;exact⟨by rw [Ld.o,J7.o];rfl,HB2.o.trans (Bo.o.mono HB2.o.size)⟩
  |true=>
   have J7:=aO hks;clear hks;have aso:=(Bo.o.block _ (block_lt HZ.o.1)).trans HZ.o.1;obtain⟨g0,g1,g2,g3⟩:=Et aso;have oQ:=aO (HB2.o.trans (Bo.o.mono HB2.o.size));have HNM:bq (∀wx:World,Below w.heap.size w wx->Calls Tryz.prog 59 #[sv nm] wx fun e w'=>e=.returned (.bool (gT nm))∧Below wx.heap.size wx w'):=aO (fun wx h=>Jf wx nm (HX.o.below h) Tq.o.2);have ha:ns.length<=2 ^ 63 - 1:=by omega
   have hb:ks.length<=2 ^ 63 - 1:=by omega
   obtain⟨a,hA⟩:∃a,ns.length=a:=⟨_,rfl⟩
   obtain⟨b,hB⟩:∃b,ks.length=b:=⟨_,rfl⟩
   rw [hA]at g2 ha ⊢;rw [hB]at g3 hb ⊢;have HA:=aO hA;have zy:=aO hB;clear hA hB;clear aso l1 l2 hmf;by_cases n8:k=8
   ·subst n8;by_cases hz:a=0∧b=0
    ·obtain⟨rfl,rfl⟩:=hz;have HT:bq (iB 8 nm 0 0=gT nm):=aO (by simp [iB]);go_wp2_with fail
     go_quiet (fail)
     go_wp2_with fail;refine(HNM.o _ (oQ.o.trans ((aP w4 _).mono oQ.o.size))).mono ?_;rintro e w5 ⟨rfl,hb5⟩;go_wp2_with fail;go_ret;exact⟨by rw [Ld.o,J7.o,HA.o,zy.o,HT.o];rfl,(oQ.o.trans ((aP w4 _).mono oQ.o.size)).trans (hb5.mono (oQ.o.trans ((aP w4 _).mono oQ.o.size)).size)⟩
    ·have hwz:(wrap64 ((a:Int)+(b:Int))==0)=false:=wrap_zero ha hb hz;have HT:bq (iB 8 nm a b=false):=aO (by simp [iB];omega);clear hz;go_wp2_with fail
     go_quiet (fail)
     go_wp2_with fail;go_ret;exact⟨by rw [Ld.o,J7.o,HA.o,zy.o,HT.o];rfl,oQ.o.trans ((aP w4 _).mono oQ.o.size)⟩
   have q8:(k==8)=false:=beq_eq_false_iff_ne.mpr n8;by_cases hnm:nm=[]
   ·subst hnm;by_cases hk0:k<0
    ·have g4:decide (k<0)=true:=by simpa using hk0
     have HT:bq (iB k [] a b=false):=aO (by simp [iB,n8];intro h;omega);clear hk0 n8;go_wp2_with fail
     go_quiet (fail)
     go_wp2_with fail;go_ret;exact⟨by rw [Ld.o,J7.o,HA.o,zy.o,HT.o];rfl,oQ.o.trans ((aP w4 _).mono oQ.o.size)⟩
    have g4:decide (k<0)=false:=by simpa using hk0
    by_cases hk7:7<k
    ·have g5:decide (7<k)=true:=by simpa using hk7
     have HT:bq (iB k [] a b=false):=aO (by simp [iB,n8,hk7]);clear hk0 n8 hk7;go_wp2_with fail
     go_quiet (fail)
     go_wp2_with fail;go_ret;exact⟨by rw [Ld.o,J7.o,HA.o,zy.o,HT.o];rfl,oQ.o.trans ((aP w4 _).mono oQ.o.size)⟩
    have g5:decide (7<k)=false:=by simpa using hk7
    by_cases n5:k=5
    ·subst n5;clear g4 g5 hk0 hk7 n8 q8;by_cases hab:a=b
     ·subst hab;have HT:bq (iB 5 [] a a=true):=aO (by simp [iB]);go_wp2_with fail
      go_quiet (fail)
      go_wp2_with fail;go_ret;exact⟨by rw [Ld.o,J7.o,HA.o,zy.o,HT.o];rfl,oQ.o.trans ((aP w4 _).mono oQ.o.size)⟩
     ·have hq:((a:Int)==(b:Int))=false:=beq_eq_false_iff_ne.mpr (by omega);have HT:bq (iB 5 [] a b=false):=aO (by simp [iB,hab]);clear hab;go_wp2_with fail
      go_quiet (fail)
      go_wp2_with fail;go_ret;exact⟨by rw [Ld.o,J7.o,HA.o,zy.o,HT.o];rfl,oQ.o.trans ((aP w4 _).mono oQ.o.size)⟩
    by_cases n6:k=6
    ·subst n6;clear g4 g5 hk0 hk7 n8 q8 n5;by_cases ha0:a=0
     ·subst ha0;by_cases hb2:b=2
      ·subst hb2;have HT:bq (iB 6 [] 0 2=true):=aO (by simp [iB]);go_wp2_with fail
       go_quiet (fail)
       go_wp2_with fail;go_ret;exact⟨by rw [Ld.o,J7.o,HA.o,zy.o,HT.o];rfl,oQ.o.trans ((aP w4 _).mono oQ.o.size)⟩
      ·have hq:((b:Int)==2)=false:=beq_eq_false_iff_ne.mpr (by omega);have HT:bq (iB 6 [] 0 b=false):=aO (by simp [iB,hb2]);clear hb2;go_wp2_with fail
       go_quiet (fail)
       go_wp2_with fail;go_ret;exact⟨by rw [Ld.o,J7.o,HA.o,zy.o,HT.o];rfl,oQ.o.trans ((aP w4 _).mono oQ.o.size)⟩
     ·have hq:((a:Int)==0)=false:=beq_eq_false_iff_ne.mpr (by omega);have HT:bq (iB 6 [] a b=false):=aO (by simp [iB,ha0]);clear ha0;go_wp2_with fail
      go_quiet (fail)
      go_wp2_with fail;go_ret;exact⟨by rw [Ld.o,J7.o,HA.o,zy.o,HT.o];rfl,oQ.o.trans ((aP w4 _).mono oQ.o.size)⟩
    by_cases n7:k=7
    ·subst n7;clear g4 g5 hk0 hk7 n8 q8 n5 n6;by_cases ha0:a=0
     ·subst ha0;by_cases hb2:2<=b
      ·have hq:decide ((2:Int)<=(b:Int))=true:=by simp;omega
       have HT:bq (iB 7 [] 0 b=true):=aO (by simp [iB,hb2]);clear hb2;go_wp2_with fail
       go_quiet (fail)
       go_wp2_with fail;go_ret;exact⟨by rw [Ld.o,J7.o,HA.o,zy.o,HT.o];rfl,oQ.o.trans ((aP w4 _).mono oQ.o.size)⟩
      ·have hq:decide ((2:Int)<=(b:Int))=false:=by simp;omega
       have HT:bq (iB 7 [] 0 b=false):=aO (by simp [iB,hb2]);clear hb2;go_wp2_with fail
       go_quiet (fail)
       go_wp2_with fail;go_ret;exact⟨by rw [Ld.o,J7.o,HA.o,zy.o,HT.o];rfl,oQ.o.trans ((aP w4 _).mono oQ.o.size)⟩
     ·have hq:((a:Int)==0)=false:=beq_eq_false_iff_ne.mpr (by omega);have HT:bq (iB 7 [] a b=false):=aO (by simp [iB,ha0]);clear ha0;go_wp2_with fail
      go_quiet (fail)
      go_wp2_with fail;go_ret;exact⟨by rw [Ld.o,J7.o,HA.o,zy.o,HT.o];rfl,oQ.o.trans ((aP w4 _).mono oQ.o.size)⟩
    have q5:(k==5)=false:=beq_eq_false_iff_ne.mpr n5;have q6:(k==6)=false:=beq_eq_false_iff_ne.mpr n6;have q7:(k==7)=false:=beq_eq_false_iff_ne.mpr n7;by_cases hz:a=0∧b=0
    ·obtain⟨rfl,rfl⟩:=hz;have HT:bq (iB k [] 0 0=true):=aO (by simp [iB,n8,n5,n6,n7,hk0,hk7]);clear n5 n6 n7 n8 hk0 hk7;go_wp2_with fail
     go_quiet (fail)
     go_wp2_with fail;go_ret;exact⟨by rw [Ld.o,J7.o,HA.o,zy.o,HT.o];rfl,oQ.o.trans ((aP w4 _).mono oQ.o.size)⟩
    ·have hwz:(wrap64 ((a:Int)+(b:Int))==0)=false:=wrap_zero ha hb hz;have HT:bq (iB k [] a b=false):=aO (by simp [iB,n8,n5,n6,n7,hk0,hk7];omega);clear n5 n6 n7 n8 hk0 hk7 hz;go_wp2_with fail
     go_quiet (fail)
     go_wp2_with fail;go_ret;exact⟨by rw [Ld.o,J7.o,HA.o,zy.o,HT.o];rfl,oQ.o.trans ((aP w4 _).mono oQ.o.size)⟩
   ·have hq:(nm==[])=false:=by cases nm with |nil=>exact absurd rfl hnm |cons c r=>rfl
    have HT:bq (iB k nm a b=false):=aO (by simp [iB,n8,hnm]);clear n8;go_wp2_with fail
    go_quiet (fail)
    go_wp2_with fail;go_ret;exact⟨by rw [Ld.o,J7.o,HA.o,zy.o,HT.o];rfl,oQ.o.trans ((aP w4 _).mono oQ.o.size)⟩
theorem Fy:∀m:Nat,m<=41->WrC m
 |0,_=>MO
 |m+1,h=>MP m (by omega) (Fy m (by omega))
end Go.Proofs.YtncnnedlgofccaaGreatDoor
