/- HJT, GJ, GI -/
import Derived.Test.YtfgjkmipfikooaaGreatDoorTE23
import Derived.Laws.CopyOwn
set_option linter.unusedSimpArgs false
set_option linter.unusedVariables false
set_option maxRecDepth 100000
set_option maxHeartbeats 8000000
namespace Go.Proofs.YtfgjkmipfikooaaGreatDoor
open Go.RowKit
theorem aaA (p q:Addr)(w:World):
  CallsD Tryz.prog 112 #[.pointer (some p),.pointer (some q)] .returning w fun e u' w'=>e=.returned (.tuple #[])∧u'=.returning∧w'=w:=by
 refine callsD_of_wpS Tryz.func112 rfl fun c₀ cs hu=>?_;apply wpS_seq;apply wpS_region;simp [wpOpsS,go_sem,recoverD,hu,Tryz.ntmps112,Exit.thenS];refine wpS_of_wp ?_;change Code.wp _ _ _ { tmps:= #[.pointer (some p),.pointer (some q),.nilIface,undef,undef,undef,.nilIface,undef,undef,undef,undef,undef,undef,undef,undef,undef,undef,undef,undef,undef],defers:=[]} w
 go_wp2
 exact⟨rfl,.returning,by rw [<-hu],.tuple #[],results_none rfl _ _ _,rfl,rfl,rfl⟩
theorem JE (pb qb:Nat)(hne:pb≠qb)(g:CS)(older:List PanicEntry)(w:World){a0 a1 a2 a3:Value}(hp:w.heap[pb]? =some (.cells #[a0,a1,a2,a3] 57 (0,0)))(hq:w.heap[qb]? =some (.cells #[.int .i64 0,.int .i64 0,.int .i64 0,.int .i64 0] 45 (0,0))):
  CallsD Tryz.prog 112 #[.pointer (some ⟨pb,0,none⟩),.pointer (some ⟨qb,0,none⟩)] (.panicking ({ v:= .iface 146 (vZ g),recovered:=false} :: older)) w fun e u' w'=>e=.returned (.tuple #[])∧u'=.panicking ({ v:= .iface 146 (vZ g),recovered:=true} :: older)∧
   Turn (fun k=>k=pb∨k=qb) w w'∧w'.heap[pb]? =some (.cells #[.int .i64 0,.string ⟨#[]⟩,.slice none 0 0,.slice none 0 0] 57 (0,0))∧w'.heap[qb]? =some (.cells (dgC g) 45 (0,0)):=by
 have hta:∀w:World,(Instr.typeAssert (.iface 146 (vZ g)) 20 146 true).run Tryz.prog w=.ok (.tuple #[vZ g,.bool true]) w:=fun _=>by kernel_rfl
 have hpl:=block_lt hp;have hql:=block_lt hq;have HP:=aZ hp;have HQ:=aZ hq;clear hp hq;refine callsD_of_wpS Tryz.func112 rfl fun c₀ cs hu=>?_;apply wpS_seq;apply wpS_region;simp [wpOpsS,go_sem,recoverD,hu,Tryz.ntmps112,Exit.thenS];refine wpS_of_wp ?_;change Code.wp _ _ _ { tmps:= #[.pointer (some ⟨pb,0,none⟩),.pointer (some ⟨qb,0,none⟩),.iface 146 (vZ g),undef,undef,undef,.iface 146 (vZ g),undef,undef,undef,undef,undef,undef,undef,undef,undef,undef,undef,undef,undef],defers:=[]} w;obtain⟨W2,hW2⟩:∃W2,(w.alloc (.cells (dgC g) 146)).alloc (.cells #[.int .i64 0,.string ⟨#[]⟩,.slice none 0 0,.slice none 0 0] 57)=W2:=⟨_,rfl⟩
 have hs2:W2.heap.size=w.heap.size+2:=by rw [<-hW2];simp
 obtain⟨tw,_,hbb,hzb⟩:=iJ (G:=fun _=>False) (Turn.refl _ ((w.alloc (.cells (dgC g) 146)).alloc (.cells #[.int .i64 0,.string ⟨#[]⟩,.slice none 0 0,.slice none 0 0] 57)));rw [hW2]at tw hbb hzb;have HW2:=aZ hW2;have hp2:=ah HP.o tw id;have hq2:=ah HQ.o tw id;have OD:=aZ hp2;have jI:=aZ hq2;have Vq:=aZ tw;obtain⟨b0,b1,b2,b3,bz⟩:=aX (hbb id);have hz2:=hzb id;have HZ2:=aZ hz2;clear hW2 tw hbb hzb;go_wp2_with fail;rw [HW2.o];have HD0:bN (Turn (fun j=>j=pb∨j=qb) W2 W2.drew):=aZ ⟨rfl,rfl,rfl,Nat.le_refl _,fun _ _ _=>rfl⟩;have PZ:=aZ (fun(w':World) (h:Turn (fun j=>j=pb∨j=qb) W2 w')=>(⟨aN ((cell_of_row _ _ 0 _ _ _ hz2).trans rfl) h (by omega),aN ((cell_of_row _ _ 1 _ _ _ hz2).trans rfl) h (by omega),aN ((cell_of_row _ _ 2 _ _ _ hz2).trans rfl) h (by omega),aN ((cell_of_row _ _ 3 _ _ _ hz2).trans rfl) h (by omega)⟩:w'.cell? ⟨w.heap.size+1,0,none⟩=some (.int .i64 0)∧w'.cell? ⟨w.heap.size+1,1,none⟩=some (.string ⟨#[]⟩)∧w'.cell? ⟨w.heap.size+1,2,none⟩=some (.slice none 0 0)∧w'.cell? ⟨w.heap.size+1,3,none⟩=some (.slice none 0 0)));have PB:=aZ (fun(w':World) (h:Turn (fun j=>j=pb∨j=qb) W2 w')=>(⟨aN b0 h (by omega),aN b1 h (by omega),aN b2 h (by omega),aN b3 h (by omega)⟩:w'.cell? ⟨w.heap.size,0,none⟩=some (.int .i64 0)∧w'.cell? ⟨w.heap.size,1,none⟩=some (.int .i64 g.1)∧w'.cell? ⟨w.heap.size,2,none⟩=some (.int .i64 g.2.1)∧w'.cell? ⟨w.heap.size,3,none⟩=some (.int .i64 g.2.2)));clear hz2 b0 b1 b2 b3 bz;refine bP (S:=fun w'=>Turn (fun j=>j=pb∨j=qb) W2 w') (x:=4) (by kernel_rfl) ?_
 try simp only [Act.put,sq]
 refine jG 0 (.agg #[.int .i64 0,.string ⟨#[]⟩,.slice none 0 0,.slice none 0 0]) PZ.o HD0.o ?_;refine tx 1 (.pointer (some ⟨w.heap.size,0,none⟩)) HD0.o ?_;refine jG 2 (vZ g) PB.o HD0.o ?_;have qC:∀X:World,X.drew.heap=X.heap:=fun _=>rfl;have hdr:∀(G:Nat->Prop) (X:World),Turn G X X.drew:=fun _ _=>⟨rfl,rfl,rfl,Nat.le_refl _,fun _ _ _=>rfl⟩
 have tA:=((((ak W2 (pb) 0 (.int .i64 0)).trans (ak _ (pb) 1 (.string ⟨#[]⟩)) (fun _ _ h=>h)).trans (ak _ (pb) 2 (.slice none 0 0)) (fun _ _ h=>h)).trans (ak _ (pb) 3 (.slice none 0 0)) (fun _ _ h=>h))
 have hpA:((((W2.setCell ⟨pb,0,none⟩ (.int .i64 0)).setCell ⟨pb,1,none⟩ (.string ⟨#[]⟩)).setCell ⟨pb,2,none⟩ (.slice none 0 0)).setCell ⟨pb,3,none⟩ (.slice none 0 0)).heap[pb]? =some (.cells #[.int .i64 0,.string ⟨#[]⟩,.slice none 0 0,.slice none 0 0] 57 (0,0)):=(aY (b:=pb) OD.o (.int .i64 0) (.string ⟨#[]⟩) (.slice none 0 0) (.slice none 0 0))
 have hqA:=ah jI.o tA (fun e=>hne e.symm);have EB:=aZ (tA.mono (G:=fun k=>k=pb∨k=qb) (fun _ _ h=>.inl h));have vP:=aZ (EB.o.trans (hdr (fun k=>k=pb∨k=qb) _) (fun _ _ h=>h));have HPA:=aZ hpA;have LG:=aZ hqA;have p0:W2.cell? ⟨pb,0,none⟩=some a0:=(cell_of_row _ _ 0 _ _ _ hp2).trans rfl;have p1:W2.cell? ⟨pb,1,none⟩=some a1:=(cell_of_row _ _ 1 _ _ _ hp2).trans rfl;have p2:W2.cell? ⟨pb,2,none⟩=some a2:=(cell_of_row _ _ 2 _ _ _ hp2).trans rfl;have p3:W2.cell? ⟨pb,3,none⟩=some a3:=(cell_of_row _ _ 3 _ _ _ hp2).trans rfl;have pz:∀i,W2.frozen? ⟨pb,i,none⟩=false:=fun i=>frozen_of_row _ _ _ _ _ hp2;have q0:W2.cell? ⟨qb,0,none⟩=some (.int .i64 0):=(cell_of_row _ _ 0 _ _ _ hq2).trans rfl;have q1:W2.cell? ⟨qb,1,none⟩=some (.int .i64 0):=(cell_of_row _ _ 1 _ _ _ hq2).trans rfl;have q2:W2.cell? ⟨qb,2,none⟩=some (.int .i64 0):=(cell_of_row _ _ 2 _ _ _ hq2).trans rfl;have q3:W2.cell? ⟨qb,3,none⟩=some (.int .i64 0):=(cell_of_row _ _ 3 _ _ _ hq2).trans rfl;have qz:∀i,W2.frozen? ⟨qb,i,none⟩=false:=fun i=>frozen_of_row _ _ _ _ _ hq2;have hne':¬qb=pb:=fun e=>hne e.symm;clear tA hpA hqA hp2 hq2;refine ay (rs:=[3]) (by kernel_rfl) (by simp) ?_;refine av.cons rfl (fun K hK=>?_) (av.nil);go_simp;refine hK.out _ _ vP.o ?_;clear hK K
 try simp only [Act.put,sq]
 refine ay (rs:=[4]) (by kernel_rfl) (by simp) ?_;refine av.past rfl (by kernel_rfl) (fun K hK=>?_) (av.nil);go_simp;refine hK.out _ _ ?_;clear hK K
 try simp only [Act.put,sq]
 refine aR (by kernel_rfl) ?_ _;go_wp2_with fail;have tB:=((((ak ((((W2.setCell ⟨pb,0,none⟩ (.int .i64 0)).setCell ⟨pb,1,none⟩ (.string ⟨#[]⟩)).setCell ⟨pb,2,none⟩ (.slice none 0 0)).setCell ⟨pb,3,none⟩ (.slice none 0 0)) (qb) 0 (.int .i64 0)).trans (ak _ (qb) 1 (.int .i64 g.1)) (fun _ _ h=>h)).trans (ak _ (qb) 2 (.int .i64 g.2.1)) (fun _ _ h=>h)).trans (ak _ (qb) 3 (.int .i64 g.2.2)) (fun _ _ h=>h))
 have h1:=(Vq.o.mono (G:=fun k=>k=pb∨k=qb) (fun _ _ h=>h.elim)).trans ((EB.o.trans tB (fun _ _ h=>.inr h)).trans (hdr (fun k=>k=pb∨k=qb) _) (fun _ _ h=>h)) (fun _ _ h=>h);have h2:=ah HPA.o tB hne;have h3:=(aY (b:=qb) LG.o (.int .i64 0) (.int .i64 g.1) (.int .i64 g.2.1) (.int .i64 g.2.2))
 refine⟨rfl,_,rfl,.tuple #[],results_none rfl _ _ _,rfl,rfl,h1,?_,?_⟩
 ·rw [qC];exact h2
 ·rw [qC];exact h3
theorem ac8 (w:World)(s:Bt)(hX:mK w):Calls Tryz.prog 53 #[sv s,.func (.func 54) #[] #[]] w fun e w'=>Below w.heap.size w w'∧∃z:List Value,e=.returned (.tuple #[.agg z.toArray,vZ (dn (cB 100).typ s).2])∧mJ w' (fun j=>w.heap.size<=j) z (vN (cB 100).typ s Dz):=by
 have hmf:∀(fn:Fn) (first cap:Array Value) (w:World),(Instr.makeFunc fn first cap).run Tryz.prog w=.ok (.func fn first cap) w:=fun _ _ _ _=>rfl;have hent:∀w:World,(callFunc 54 #[]).run Tryz.prog w=.ok (.enter 54 #[]) w:=fun _=>by kernel_rfl
 have qC:∀X:World,X.drew.heap=X.heap:=fun _=>rfl;have hdr:∀(G:Nat->Prop) (X:World),Turn G X X.drew:=fun _ _=>⟨rfl,rfl,rfl,Nat.le_refl _,fun _ _ _=>rfl⟩
 obtain⟨W0,hW0⟩:∃W0,((w.alloc (.cells #[.int .i64 0,.string ⟨#[]⟩,.slice none 0 0,.slice none 0 0] 57)).alloc (.cells #[.int .i64 0,.int .i64 0,.int .i64 0,.int .i64 0] 45))=W0:=⟨_,rfl⟩
 obtain⟨tw,_,hx0,hd0⟩:=iJ (G:=fun _=>False) (Turn.refl _ ((w.alloc (.cells #[.int .i64 0,.string ⟨#[]⟩,.slice none 0 0,.slice none 0 0] 57)).alloc (.cells #[.int .i64 0,.int .i64 0,.int .i64 0,.int .i64 0] 45)));have hs0:W0.heap.size=w.heap.size+2:=by rw [<-hW0];simp
 have hb0:Below w.heap.size w W0:=by rw [<-hW0];exact new2 _ _ _
 rw [hW0]at tw hx0 hd0;have hx0:=hx0 id;have hd0:=hd0 id;have HX0:=aZ hx0;have HD0:=aZ hd0;have HB0:=aZ hb0;have Tm:=aZ ((sQ.of hX.1).below hb0);have HL:=aZ (JR W0 s (hX.below hb0));have HW0:=aZ hW0;obtain⟨Dg,yx⟩:∃Dg,(dn (cB 100).typ s).2=Dg:=⟨_,rfl⟩
 obtain⟨V,hV⟩:∃V,vN (cB 100).typ s Dz=V:=⟨_,rfl⟩
 rw [yx,hV];clear hX tw hx0 hd0 hb0 hW0;by_cases hE:(fQ s).2.2.2=0
 ·have hz:=Br hE;obtain⟨T,hT⟩:∃T,fQ s=(T,((0,0,0):Nat ×Nat ×Int)):=⟨(fQ s).1,by rw [<-hz]⟩
  obtain⟨htk,hwf⟩:=Bu hE;rw [hT]at HL htk hwf;have HWH:bN (dn (cB 100).typ s=D9 (aj (cB 100).typ (fun x=>aj (dB 0) fun _=>aF x) T)):=aZ (xZ hT);have HDg:=aZ yx;have HV:=aZ hV;have uO:=aZ htk;have vO:=aZ hwf;clear hE hz hT htk hwf yx hV
  go_enter_defers Tryz.func53,Tryz.ntmps53
  go_wp2_with fail;rw [HW0.o];refine(HL.o).mono ?_;rintro e w1 ⟨v1,n1,rfl,hown,hb1⟩;obtain⟨GY,c1',rfl,_,_⟩:=iK hown;have hs1:=hb1.size;have hx1:=(hb1.block (w.heap.size) (by omega)).trans HX0.o;have hd1:=(hb1.block (w.heap.size+1) (by omega)).trans HD0.o;have HB1:=aZ (HB0.o.trans (hb1.mono (by omega)));have NT:=aZ (Tm.o.below (hb1.mono (by omega)));obtain⟨x0,x1,x2,x3,xz⟩:=aX hd1;have t1:=dD w1 (w.heap.size+1) (.int .i64 0) (.int .i64 0) (.int .i64 0) (.int .i64 0);have uE:=aZ (ah hx1 t1 (by omega));have HD1:=aZ (aY hd1 (.int .i64 0) (.int .i64 0) (.int .i64 0) (.int .i64 0));have HT1:=aZ t1;have hsp:(dK w1 (w.heap.size+1) (.int .i64 0) (.int .i64 0) (.int .i64 0) (.int .i64 0)).heap.size=w1.heap.size:=by simp [dK]
  have HOWN:=aZ hown;rw [show C8 (0,0,0)=.agg #[.int .i64 0,.int .i64 0,.int .i64 0,.int .i64 0]from rfl];obtain⟨W2,hW2⟩:∃W2,(dK w1 (w.heap.size+1) (.int .i64 0) (.int .i64 0) (.int .i64 0) (.int .i64 0)).alloc (.cells #[.slice GY n1 c1',.int .i64 0] 151)=W2:=⟨_,rfl⟩
  have t2:Turn (fun k=>k=w.heap.size+1) w1 W2:=by rw [<-hW2];exact t1.trans (Turn.alloc _ _ _) (fun _ _ h=>h)
  have hb2:=wJ (dK w1 (w.heap.size+1) (.int .i64 0) (.int .i64 0) (.int .i64 0) (.int .i64 0)) (.cells #[.slice GY n1 c1',.int .i64 0] 151);rw [hW2,hsp]at hb2;have hs2:W2.heap.size=w1.heap.size+1:=by rw [<-hW2];simp [dK]
  have Tv:=aZ (by have:=bQ (o':=(.cells #[.slice GY n1 c1',.int .i64 0] 151)) uE.o;rwa [hW2]at this);have HD2:=aZ (by have:=bQ (o':=(.cells #[.slice GY n1 c1',.int .i64 0] 151)) HD1.o;rwa [hW2]at this);have hsl:Sl W2 w1.heap.size 4 (.slice GY n1 c1') (dw T):=((cO.own (F:=fun j=>W0.heap.size<=j∧j<w1.heap.size) hown (fun g hg=>hown.lt g hg)).turn t2 (fun g _ h e=>by have:=h.1;omega)).to (fun g _ h=>h.2);have htb:E9 w1.heap.size W2 (.slice GY n1 c1'):=fun b o n c e=>by
   injection e with e _ _;subst e;rcases hown.2 with⟨h,_⟩ |⟨g,cap,cur,h,hg,hob,_⟩
   ·injection h with h;cases h
   ·injection h with h _ _;injection h with h;injection h with h _;subst h;exact⟨block_lt hob,_,ah hob t2 (by omega)⟩
  have NV:=aZ (NT.o.below (t2.below (by omega) (fun k hk e=>by omega)));have HK:=aZ (show bX W2 w1.heap.size w1.heap.size T 0 from⟨Nat.le_refl _,uO.o,vO.o,_,hb2,hsl,fun w' hb'=>NV.o w' (fun k hk=>hb' k (by omega)),htb⟩);have HT2:=aZ (HB1.o.trans (t2.below (B:=w.heap.size) (by omega) (fun k hk e=>by omega)));have HR:=aZ (Tj W2 w1.heap.size w1.heap.size T HK.o);have HW2:=aZ hW2;clear hown hb1 hx1 hd1 t1 t2 hb2 hsl hW2 HOWN htb;go_wp2_with fail;rw [HW2.o];refine(HR.o).mono ?_;rintro e w3 h3;rcases hq:(cB 100).typ T with g |⟨x,r3⟩
  ·obtain⟨rfl,tn,bn⟩:=h3.bY hq;have DC:bN (dn (cB 100).typ s=(none,g)):=aZ (by rw [HWH.o,aC hq];rfl);have HXP:=aZ (ah Tv.o tn (by omega));have HDP:=aZ (ah HD2.o tn (by omega));have NW:=aZ (HT2.o.trans (tn.below (B:=w.heap.size) (by omega) (fun k hk e=>by omega)));clear h3 tn bn hq;go_wp2_with fail;refine leaves_cons (f:=112) (args:= #[.pointer (some ⟨w.heap.size,0,none⟩),.pointer (some ⟨w.heap.size+1,0,none⟩)]) (by simp) (by simp [go_sem]) ?_;refine(JE w.heap.size (w.heap.size+1) (by omega) g [] _ HXP.o HDP.o).mono ?_;rintro e u9 w9 ⟨rfl,rfl,t9,p9,q9⟩;have e1:Dg=g:=by rw [<-HDg.o,DC.o]
   have e2:V=Dz:=by rw [<-HV.o];unfold vN;rw [DC.o];rfl
   subst e1 e2;exact⟨_,dH rfl rfl rfl p9 q9 Tryz.underlying57 rfl (by kernel_rfl) Tryz.underlying45 rfl (by kernel_rfl),NW.o.trans (t9.below (by have:=NW.o.size;omega) (fun k hk e=>by omega)),_,rfl,.mk (cO.nil _ _ _) (cO.nil _ _ _) .nil⟩
  ·obtain⟨v3,rfl,tn,⟨z0,rfl,hz0⟩,kn⟩:=h3.aQ hq;have hzc:=hz0;obtain⟨k4,s4,A1,n1',c1,A2,n2,c2,rfl⟩:=hzc.shape';have hs3:=tn.size;have hx3:=ah Tv.o tn (by omega);have hd3:=ah HD2.o tn (by omega);have t4:Turn (fun k=>k=w.heap.size) w3 ((((w3.setCell ⟨w.heap.size,0,none⟩ (.int .i64 k4)).setCell ⟨w.heap.size,1,none⟩ (sv s4)).setCell ⟨w.heap.size,2,none⟩ (.slice A1 n1' c1)).setCell ⟨w.heap.size,3,none⟩ (.slice A2 n2 c2)):=((((ak w3 (w.heap.size) 0 (.int .i64 k4)).trans (ak _ (w.heap.size) 1 (sv s4)) (fun _ _ h=>h)).trans (ak _ (w.heap.size) 2 (.slice A1 n1' c1)) (fun _ _ h=>h)).trans (ak _ (w.heap.size) 3 (.slice A2 n2 c2)) (fun _ _ h=>h))
   have Fp:=aZ ((aY (b:=w.heap.size) hx3 (.int .i64 k4) (sv s4) (.slice A1 n1' c1) (.slice A2 n2 c2)));have HD4:=aZ (ah hd3 t4 (by omega));have aav:=aZ ((NV.o.below (tn.below (by omega) (fun k hk e=>by omega))).below (t4.below (by omega) (fun k hk e=>by omega)));have iD:=aZ (kn.apart t4 (by omega) (fun g e _=>by have e:g=w.heap.size:=e;subst e;exact⟨_,_,hx3,by decide⟩) (fun w' hb'=>aav.o w' (fun k hk=>hb' k (by omega))));have fD:=aZ (HT2.o.trans ((tn.below (B:=w.heap.size) (by omega) (fun k hk e=>by omega)).trans (t4.below (B:=w.heap.size) (by omega) (fun k hk e=>by omega))));have BA:=aZ (hz0.turn t4 (fun g _ h e=>by omega));have HWG:bN (dn (cB 100).typ s=D9 (aj (dB 0) (fun _=>aF x) r3)):=aZ (by rw [HWH.o,au hq]);have Nq:=aZ (sS ((((w3.setCell ⟨w.heap.size,0,none⟩ (.int .i64 k4)).setCell ⟨w.heap.size,1,none⟩ (sv s4)).setCell ⟨w.heap.size,2,none⟩ (.slice A1 n1' c1)).setCell ⟨w.heap.size,3,none⟩ (.slice A2 n2 c2)) w1.heap.size w1.heap.size r3 0 iD.o 0);have u0:w3.cell? ⟨w.heap.size,0,none⟩=some (.int .i64 0):=(cell_of_row _ _ 0 _ _ _ hx3).trans rfl;have u1:w3.cell? ⟨w.heap.size,1,none⟩=some (.string ⟨#[]⟩):=(cell_of_row _ _ 1 _ _ _ hx3).trans rfl;have u2:w3.cell? ⟨w.heap.size,2,none⟩=some (.slice none 0 0):=(cell_of_row _ _ 2 _ _ _ hx3).trans rfl;have u3:w3.cell? ⟨w.heap.size,3,none⟩=some (.slice none 0 0):=(cell_of_row _ _ 3 _ _ _ hx3).trans rfl;have uz:∀i,w3.frozen? ⟨w.heap.size,i,none⟩=false:=fun i=>frozen_of_row _ _ _ _ _ hx3;clear h3 tn kn hz0 hzc hq hx3 hd3 t4;go_wp2_with fail;refine(Nq.o).mono ?_;rintro e w5 h5;rcases hq:dB 0 r3 with g |⟨sx,r5⟩
   ·obtain⟨rfl,tn,bn⟩:=h5.bY hq;have DC:bN (dn (cB 100).typ s=(none,g)):=aZ (by rw [HWG.o,aC hq];rfl);have HXP:=aZ (ah Fp.o tn (by omega));have HDP:=aZ (ah HD4.o tn (by omega));have NW:=aZ (fD.o.trans (tn.below (B:=w.heap.size) (by have:=fD.o.size;omega) (fun k hk e=>by omega)));clear h5 tn bn hq;go_wp2_with fail;refine leaves_cons (f:=112) (args:= #[.pointer (some ⟨w.heap.size,0,none⟩),.pointer (some ⟨w.heap.size+1,0,none⟩)]) (by simp) (by simp [go_sem]) ?_;refine(JE w.heap.size (w.heap.size+1) (by omega) g [] _ HXP.o HDP.o).mono ?_;rintro e u9 w9 ⟨rfl,rfl,t9,p9,q9⟩;have e1:Dg=g:=by rw [<-HDg.o,DC.o]
    have e2:V=Dz:=by rw [<-HV.o];unfold vN;rw [DC.o];rfl
    subst e1 e2;exact⟨_,dH rfl rfl rfl p9 q9 Tryz.underlying57 rfl (by kernel_rfl) Tryz.underlying45 rfl (by kernel_rfl),NW.o.trans (t9.below (by have:=NW.o.size;omega) (fun k hk e=>by omega)),_,rfl,.mk (cO.nil _ _ _) (cO.nil _ _ _) .nil⟩
   ·obtain⟨v5,rfl,tn,-,kn⟩:=h5.aQ hq;have DC:bN (dn (cB 100).typ s=(some x,(0,0,0))):=aZ (by rw [HWG.o,au hq];rfl);have yM:=aZ (ah Fp.o tn (by omega));have HD5:=aZ (ah HD4.o tn (by omega));have fG:=aZ (fD.o.trans (tn.below (B:=w.heap.size) (by have:=fD.o.size;omega) (fun k hk e=>by omega)));have Bz:=aZ (BA.o.turn tn (fun g _ h e=>by omega));clear h5 tn kn hq uz u0 u1 u2 u3;have PX:=aZ (fun(w':World) (h:w'.heap[w.heap.size]? =some (.cells #[.int .i64 k4,sv s4,.slice A1 n1' c1,.slice A2 n2 c2] 57 (0,0))∧w'.heap[w.heap.size+1]? =some (.cells #[.int .i64 0,.int .i64 0,.int .i64 0,.int .i64 0] 45 (0,0)))=>(⟨(cell_of_row _ _ _ _ _ _ h.1).trans rfl,(cell_of_row _ _ _ _ _ _ h.1).trans rfl,(cell_of_row _ _ _ _ _ _ h.1).trans rfl,(cell_of_row _ _ _ _ _ _ h.1).trans rfl⟩:w'.cell? ⟨w.heap.size,0,none⟩=some (.int .i64 k4)∧w'.cell? ⟨w.heap.size,1,none⟩=some (sv s4)∧w'.cell? ⟨w.heap.size,2,none⟩=some (.slice A1 n1' c1)∧w'.cell? ⟨w.heap.size,3,none⟩=some (.slice A2 n2 c2)));have PD:=aZ (fun(w':World) (h:w'.heap[w.heap.size]? =some (.cells #[.int .i64 k4,sv s4,.slice A1 n1' c1,.slice A2 n2 c2] 57 (0,0))∧w'.heap[w.heap.size+1]? =some (.cells #[.int .i64 0,.int .i64 0,.int .i64 0,.int .i64 0] 45 (0,0)))=>(⟨(cell_of_row _ _ _ _ _ _ h.2).trans rfl,(cell_of_row _ _ _ _ _ _ h.2).trans rfl,(cell_of_row _ _ _ _ _ _ h.2).trans rfl,(cell_of_row _ _ _ _ _ _ h.2).trans rfl⟩:w'.cell? ⟨w.heap.size+1,0,none⟩=some (.int .i64 0)∧w'.cell? ⟨w.heap.size+1,1,none⟩=some (.int .i64 0)∧w'.cell? ⟨w.heap.size+1,2,none⟩=some (.int .i64 0)∧w'.cell? ⟨w.heap.size+1,3,none⟩=some (.int .i64 0)))
    have bA:bN (w5.drew.heap[w.heap.size]? =some (.cells #[.int .i64 k4,sv s4,.slice A1 n1' c1,.slice A2 n2 c2] 57 (0,0))∧w5.drew.heap[w.heap.size+1]? =some (.cells #[.int .i64 0,.int .i64 0,.int .i64 0,.int .i64 0] 45 (0,0))):=aZ ⟨by rw [qC];exact yM.o,by rw [qC];exact HD5.o⟩;have ka0:w5.cell? ⟨w.heap.size,0,none⟩=some (.int .i64 k4):=(cell_of_row _ _ 0 _ _ _ yM.o).trans rfl;have ka1:w5.cell? ⟨w.heap.size,1,none⟩=some (sv s4):=(cell_of_row _ _ 1 _ _ _ yM.o).trans rfl;have ka2:w5.cell? ⟨w.heap.size,2,none⟩=some (.slice A1 n1' c1):=(cell_of_row _ _ 2 _ _ _ yM.o).trans rfl;have ka3:w5.cell? ⟨w.heap.size,3,none⟩=some (.slice A2 n2 c2):=(cell_of_row _ _ 3 _ _ _ yM.o).trans rfl;have kaz:∀i,w5.frozen? ⟨w.heap.size,i,none⟩=false:=fun i=>frozen_of_row _ _ _ _ _ yM.o;have la0:w5.cell? ⟨w.heap.size+1,0,none⟩=some (.int .i64 0):=(cell_of_row _ _ 0 _ _ _ HD5.o).trans rfl;have la1:w5.cell? ⟨w.heap.size+1,1,none⟩=some (.int .i64 0):=(cell_of_row _ _ 1 _ _ _ HD5.o).trans rfl;have la2:w5.cell? ⟨w.heap.size+1,2,none⟩=some (.int .i64 0):=(cell_of_row _ _ 2 _ _ _ HD5.o).trans rfl;have la3:w5.cell? ⟨w.heap.size+1,3,none⟩=some (.int .i64 0):=(cell_of_row _ _ 3 _ _ _ HD5.o).trans rfl;have laz:∀i,w5.frozen? ⟨w.heap.size+1,i,none⟩=false:=fun i=>frozen_of_row _ _ _ _ _ HD5.o;have tA:=((((ak w5 (w.heap.size) 0 (.int .i64 k4)).trans (ak _ (w.heap.size) 1 (sv s4)) (fun _ _ h=>h)).trans (ak _ (w.heap.size) 2 (.slice A1 n1' c1)) (fun _ _ h=>h)).trans (ak _ (w.heap.size) 3 (.slice A2 n2 c2)) (fun _ _ h=>h))
    have yN:=(aY (b:=w.heap.size) yM.o (.int .i64 k4) (sv s4) (.slice A1 n1' c1) (.slice A2 n2 c2))
    have yO:=ah HD5.o tA (by omega);have tB:=((((ak ((((w5.setCell ⟨w.heap.size,0,none⟩ (.int .i64 k4)).setCell ⟨w.heap.size,1,none⟩ (sv s4)).setCell ⟨w.heap.size,2,none⟩ (.slice A1 n1' c1)).setCell ⟨w.heap.size,3,none⟩ (.slice A2 n2 c2)) (w.heap.size+1) 0 (.int .i64 0)).trans (ak _ (w.heap.size+1) 1 (.int .i64 0)) (fun _ _ h=>h)).trans (ak _ (w.heap.size+1) 2 (.int .i64 0)) (fun _ _ h=>h)).trans (ak _ (w.heap.size+1) 3 (.int .i64 0)) (fun _ _ h=>h))
    have HXB:=aZ (ah yN tB (by omega));have nC:=aZ ((aY (b:=w.heap.size+1) yO (.int .i64 0) (.int .i64 0) (.int .i64 0) (.int .i64 0)));have mg:=aZ ((tA.mono (G:=fun k=>k=w.heap.size∨k=w.heap.size+1) (fun _ _ h=>.inl h)).trans tB (fun _ _ h=>.inr h));have vP:bN (((((w5.setCell ⟨w.heap.size,0,none⟩ (.int .i64 k4)).setCell ⟨w.heap.size,1,none⟩ (sv s4)).setCell ⟨w.heap.size,2,none⟩ (.slice A1 n1' c1)).setCell ⟨w.heap.size,3,none⟩ (.slice A2 n2 c2)).drew.heap[w.heap.size]? =some (.cells #[.int .i64 k4,sv s4,.slice A1 n1' c1,.slice A2 n2 c2] 57 (0,0))∧((((w5.setCell ⟨w.heap.size,0,none⟩ (.int .i64 k4)).setCell ⟨w.heap.size,1,none⟩ (sv s4)).setCell ⟨w.heap.size,2,none⟩ (.slice A1 n1' c1)).setCell ⟨w.heap.size,3,none⟩ (.slice A2 n2 c2)).drew.heap[w.heap.size+1]? =some (.cells #[.int .i64 0,.int .i64 0,.int .i64 0,.int .i64 0] 45 (0,0))):=aZ ⟨by rw [qC];exact yN,by rw [qC];exact yO⟩;clear tA yN yO tB;go_wp2_with fail;refine bP (S:=fun w'=>w'.heap[w.heap.size]? =some (.cells #[.int .i64 k4,sv s4,.slice A1 n1' c1,.slice A2 n2 c2] 57 (0,0))∧w'.heap[w.heap.size+1]? =some (.cells #[.int .i64 0,.int .i64 0,.int .i64 0,.int .i64 0] 45 (0,0))) (x:=3) (by kernel_rfl) ?_
    try simp only [Act.put,sq]
    refine jG 0 (.agg #[.int .i64 k4,sv s4,.slice A1 n1' c1,.slice A2 n2 c2]) PX.o bA.o (hQ:=oN rfl (by decide) (by decide)) ?_;refine jG 1 (.agg #[.int .i64 0,.int .i64 0,.int .i64 0,.int .i64 0]) PD.o bA.o (hQ:=oN rfl (by decide) (by decide)) ?_;refine ay (rs:=[2]) (by kernel_rfl) (by simp) ?_;refine av.cons rfl (fun K hK=>?_) (av.nil);go_simp;refine hK.out _ _ vP.o ?_;clear hK K
    try simp only [Act.put,sq]
    refine ay (rs:=[3]) (by kernel_rfl) (by simp) ?_;refine av.past rfl (by kernel_rfl) (fun K hK=>?_) (av.nil);go_simp;refine hK.out _ _ ?_;clear hK K
    try simp only [Act.put,sq]
    refine aR (by kernel_rfl) ?_ _;go_wp2_with fail;refine leaves_cons (f:=112) (args:= #[.pointer (some ⟨w.heap.size,0,none⟩),.pointer (some ⟨w.heap.size+1,0,none⟩)]) (by simp) (by simp [go_sem]) ?_;refine(aaA _ _ _).mono ?_;rintro e u9 w9 ⟨rfl,rfl,rfl⟩;have e1:Dg=(0,0,0):=by rw [<-HDg.o,DC.o]
    have e2:V=x:=by rw [<-HV.o];unfold vN;rw [DC.o];rfl
    subst e1 e2;have UA:=(Bz.o.turn mg.o (fun g _ h e=>by omega)).turn (hdr (fun _=>False) _) (fun _ _ _=>id);have xQ:=(fG.o.trans (mg.o.below (B:=w.heap.size) (by have:=fG.o.size;omega) (fun k hk e=>by omega))).trans ((hdr (fun _=>False) _).below (by have:=fG.o.size;have:=mg.o.size;omega) (fun _ _=>id));exact⟨_,dH rfl rfl rfl (by rw [qC];exact HXB.o) (by rw [qC];exact nC.o) Tryz.underlying57 rfl (by kernel_rfl) Tryz.underlying45 rfl (by kernel_rfl),xQ,_,rfl,UA.mono (fun g _ h=>by omega)⟩
 ·have hwh:dn (cB 100).typ s=(none,(fQ s).2):=by unfold dn;rw [if_neg hE]
  have e1:Dg=(fQ s).2:=by rw [<-yx,hwh]
  have e2:V=Dz:=by rw [<-hV];unfold vN;rw [hwh];rfl
  subst e2;obtain⟨T,D1,hT⟩:∃T D1,fQ s=(T,D1):=⟨_,_,rfl⟩
  rw [hT]at HL e1 hE;have e1:=e1.symm;subst e1;have hE1:(D1.2.2 != 0)=true:=by simpa using hE
  clear hE hwh yx hV hT
  go_enter_defers Tryz.func53,Tryz.ntmps53
  go_wp2_with fail;rw [HW0.o];have HDV:C8 D1=.agg #[.int .i64 0,.int .i64 D1.1,.int .i64 D1.2.1,.int .i64 D1.2.2]:=rfl;refine(HL.o).mono ?_;rintro e w1 ⟨v1,n1,rfl,hown,hb1⟩;obtain⟨GY,c1',rfl,_,_⟩:=iK hown;have hs1:=hb1.size;have hx1:=(hb1.block (w.heap.size) (by omega)).trans HX0.o;have hd1:=(hb1.block (w.heap.size+1) (by omega)).trans HD0.o;have HB1:=aZ (HB0.o.trans (hb1.mono (by omega)));have NT:=aZ (Tm.o.below (hb1.mono (by omega)));obtain⟨x0,x1,x2,x3,xz⟩:=aX hd1;have t1:=dD w1 (w.heap.size+1) (.int .i64 0) (.int .i64 D1.1) (.int .i64 D1.2.1) (.int .i64 D1.2.2);have uE:=aZ (ah hx1 t1 (by omega));have HD1:=aZ (aY hd1 (.int .i64 0) (.int .i64 D1.1) (.int .i64 D1.2.1) (.int .i64 D1.2.2));have HT1:=aZ t1;have hsp:(dK w1 (w.heap.size+1) (.int .i64 0) (.int .i64 D1.1) (.int .i64 D1.2.1) (.int .i64 D1.2.2)).heap.size=w1.heap.size:=by simp [dK]
  have HOWN:=aZ hown;rw [HDV];clear hown hb1 hx1 hd1 t1 HDV;have PX:=aZ (fun(w':World) (h:w'.heap[w.heap.size]? =some (.cells #[.int .i64 0,.string ⟨#[]⟩,.slice none 0 0,.slice none 0 0] 57 (0,0))∧w'.heap[w.heap.size+1]? =some (.cells #[.int .i64 0,.int .i64 D1.1,.int .i64 D1.2.1,.int .i64 D1.2.2] 45 (0,0)))=>(⟨(cell_of_row _ _ _ _ _ _ h.1).trans rfl,(cell_of_row _ _ _ _ _ _ h.1).trans rfl,(cell_of_row _ _ _ _ _ _ h.1).trans rfl,(cell_of_row _ _ _ _ _ _ h.1).trans rfl⟩:w'.cell? ⟨w.heap.size,0,none⟩=some (.int .i64 0)∧w'.cell? ⟨w.heap.size,1,none⟩=some (.string ⟨#[]⟩)∧w'.cell? ⟨w.heap.size,2,none⟩=some (.slice none 0 0)∧w'.cell? ⟨w.heap.size,3,none⟩=some (.slice none 0 0)));have PD:=aZ (fun(w':World) (h:w'.heap[w.heap.size]? =some (.cells #[.int .i64 0,.string ⟨#[]⟩,.slice none 0 0,.slice none 0 0] 57 (0,0))∧w'.heap[w.heap.size+1]? =some (.cells #[.int .i64 0,.int .i64 D1.1,.int .i64 D1.2.1,.int .i64 D1.2.2] 45 (0,0)))=>(⟨(cell_of_row _ _ _ _ _ _ h.2).trans rfl,(cell_of_row _ _ _ _ _ _ h.2).trans rfl,(cell_of_row _ _ _ _ _ _ h.2).trans rfl,(cell_of_row _ _ _ _ _ _ h.2).trans rfl⟩:w'.cell? ⟨w.heap.size+1,0,none⟩=some (.int .i64 0)∧w'.cell? ⟨w.heap.size+1,1,none⟩=some (.int .i64 D1.1)∧w'.cell? ⟨w.heap.size+1,2,none⟩=some (.int .i64 D1.2.1)∧w'.cell? ⟨w.heap.size+1,3,none⟩=some (.int .i64 D1.2.2)))
  have bA:bN ((dK w1 (w.heap.size+1) (.int .i64 0) (.int .i64 D1.1) (.int .i64 D1.2.1) (.int .i64 D1.2.2)).drew.heap[w.heap.size]? =some (.cells #[.int .i64 0,.string ⟨#[]⟩,.slice none 0 0,.slice none 0 0] 57 (0,0))∧(dK w1 (w.heap.size+1) (.int .i64 0) (.int .i64 D1.1) (.int .i64 D1.2.1) (.int .i64 D1.2.2)).drew.heap[w.heap.size+1]? =some (.cells #[.int .i64 0,.int .i64 D1.1,.int .i64 D1.2.1,.int .i64 D1.2.2] 45 (0,0))):=aZ ⟨by rw [qC];exact uE.o,by rw [qC];exact HD1.o⟩;have ka0:(dK w1 (w.heap.size+1) (.int .i64 0) (.int .i64 D1.1) (.int .i64 D1.2.1) (.int .i64 D1.2.2)).cell? ⟨w.heap.size,0,none⟩=some (.int .i64 0):=(cell_of_row _ _ 0 _ _ _ uE.o).trans rfl;have ka1:(dK w1 (w.heap.size+1) (.int .i64 0) (.int .i64 D1.1) (.int .i64 D1.2.1) (.int .i64 D1.2.2)).cell? ⟨w.heap.size,1,none⟩=some (.string ⟨#[]⟩):=(cell_of_row _ _ 1 _ _ _ uE.o).trans rfl;have ka2:(dK w1 (w.heap.size+1) (.int .i64 0) (.int .i64 D1.1) (.int .i64 D1.2.1) (.int .i64 D1.2.2)).cell? ⟨w.heap.size,2,none⟩=some (.slice none 0 0):=(cell_of_row _ _ 2 _ _ _ uE.o).trans rfl;have ka3:(dK w1 (w.heap.size+1) (.int .i64 0) (.int .i64 D1.1) (.int .i64 D1.2.1) (.int .i64 D1.2.2)).cell? ⟨w.heap.size,3,none⟩=some (.slice none 0 0):=(cell_of_row _ _ 3 _ _ _ uE.o).trans rfl;have kaz:∀i,(dK w1 (w.heap.size+1) (.int .i64 0) (.int .i64 D1.1) (.int .i64 D1.2.1) (.int .i64 D1.2.2)).frozen? ⟨w.heap.size,i,none⟩=false:=fun i=>frozen_of_row _ _ _ _ _ uE.o;have la0:(dK w1 (w.heap.size+1) (.int .i64 0) (.int .i64 D1.1) (.int .i64 D1.2.1) (.int .i64 D1.2.2)).cell? ⟨w.heap.size+1,0,none⟩=some (.int .i64 0):=(cell_of_row _ _ 0 _ _ _ HD1.o).trans rfl
  have la1:(dK w1 (w.heap.size+1) (.int .i64 0) (.int .i64 D1.1) (.int .i64 D1.2.1) (.int .i64 D1.2.2)).cell? ⟨w.heap.size+1,1,none⟩=some (.int .i64 D1.1):=(cell_of_row _ _ 1 _ _ _ HD1.o).trans rfl;have la2:(dK w1 (w.heap.size+1) (.int .i64 0) (.int .i64 D1.1) (.int .i64 D1.2.1) (.int .i64 D1.2.2)).cell? ⟨w.heap.size+1,2,none⟩=some (.int .i64 D1.2.1):=(cell_of_row _ _ 2 _ _ _ HD1.o).trans rfl;have la3:(dK w1 (w.heap.size+1) (.int .i64 0) (.int .i64 D1.1) (.int .i64 D1.2.1) (.int .i64 D1.2.2)).cell? ⟨w.heap.size+1,3,none⟩=some (.int .i64 D1.2.2):=(cell_of_row _ _ 3 _ _ _ HD1.o).trans rfl;have laz:∀i,(dK w1 (w.heap.size+1) (.int .i64 0) (.int .i64 D1.1) (.int .i64 D1.2.1) (.int .i64 D1.2.2)).frozen? ⟨w.heap.size+1,i,none⟩=false:=fun i=>frozen_of_row _ _ _ _ _ HD1.o;have tA:=((((ak (dK w1 (w.heap.size+1) (.int .i64 0) (.int .i64 D1.1) (.int .i64 D1.2.1) (.int .i64 D1.2.2)) (w.heap.size) 0 (.int .i64 0)).trans (ak _ (w.heap.size) 1 (.string ⟨#[]⟩)) (fun _ _ h=>h)).trans (ak _ (w.heap.size) 2 (.slice none 0 0)) (fun _ _ h=>h)).trans (ak _ (w.heap.size) 3 (.slice none 0 0)) (fun _ _ h=>h))
  have yN:=(aY (b:=w.heap.size) uE.o (.int .i64 0) (.string ⟨#[]⟩) (.slice none 0 0) (.slice none 0 0))
  have yO:=ah HD1.o tA (by omega);have tB:=((((ak (((((dK w1 (w.heap.size+1) (.int .i64 0) (.int .i64 D1.1) (.int .i64 D1.2.1) (.int .i64 D1.2.2)).setCell ⟨w.heap.size,0,none⟩ (.int .i64 0)).setCell ⟨w.heap.size,1,none⟩ (.string ⟨#[]⟩)).setCell ⟨w.heap.size,2,none⟩ (.slice none 0 0)).setCell ⟨w.heap.size,3,none⟩ (.slice none 0 0)) (w.heap.size+1) 0 (.int .i64 0)).trans (ak _ (w.heap.size+1) 1 (.int .i64 D1.1)) (fun _ _ h=>h)).trans (ak _ (w.heap.size+1) 2 (.int .i64 D1.2.1)) (fun _ _ h=>h)).trans (ak _ (w.heap.size+1) 3 (.int .i64 D1.2.2)) (fun _ _ h=>h))
  have HXB:=aZ (ah yN tB (by omega));have nC:=aZ ((aY (b:=w.heap.size+1) yO (.int .i64 0) (.int .i64 D1.1) (.int .i64 D1.2.1) (.int .i64 D1.2.2)));have mg:=aZ ((tA.mono (G:=fun k=>k=w.heap.size∨k=w.heap.size+1) (fun _ _ h=>.inl h)).trans tB (fun _ _ h=>.inr h));have vP:bN ((((((dK w1 (w.heap.size+1) (.int .i64 0) (.int .i64 D1.1) (.int .i64 D1.2.1) (.int .i64 D1.2.2)).setCell ⟨w.heap.size,0,none⟩ (.int .i64 0)).setCell ⟨w.heap.size,1,none⟩ (.string ⟨#[]⟩)).setCell ⟨w.heap.size,2,none⟩ (.slice none 0 0)).setCell ⟨w.heap.size,3,none⟩ (.slice none 0 0)).drew.heap[w.heap.size]? =some (.cells #[.int .i64 0,.string ⟨#[]⟩,.slice none 0 0,.slice none 0 0] 57 (0,0))∧(((((dK w1 (w.heap.size+1) (.int .i64 0) (.int .i64 D1.1) (.int .i64 D1.2.1) (.int .i64 D1.2.2)).setCell ⟨w.heap.size,0,none⟩ (.int .i64 0)).setCell ⟨w.heap.size,1,none⟩ (.string ⟨#[]⟩)).setCell ⟨w.heap.size,2,none⟩ (.slice none 0 0)).setCell ⟨w.heap.size,3,none⟩ (.slice none 0 0)).drew.heap[w.heap.size+1]? =some (.cells #[.int .i64 0,.int .i64 D1.1,.int .i64 D1.2.1,.int .i64 D1.2.2] 45 (0,0))):=aZ ⟨by rw [qC];exact yN,by rw [qC];exact yO⟩;clear tA yN yO tB;go_wp2_with fail;refine bP (S:=fun w'=>w'.heap[w.heap.size]? =some (.cells #[.int .i64 0,.string ⟨#[]⟩,.slice none 0 0,.slice none 0 0] 57 (0,0))∧w'.heap[w.heap.size+1]? =some (.cells #[.int .i64 0,.int .i64 D1.1,.int .i64 D1.2.1,.int .i64 D1.2.2] 45 (0,0))) (x:=3) (by kernel_rfl) ?_
  try simp only [Act.put,sq]
  refine jG 0 (.agg #[.int .i64 0,.string ⟨#[]⟩,.slice none 0 0,.slice none 0 0]) PX.o bA.o (hQ:=fun c a w h=>oN rfl (by decide) (by decide) c a w h) ?_;refine jG 1 (.agg #[.int .i64 0,.int .i64 D1.1,.int .i64 D1.2.1,.int .i64 D1.2.2]) PD.o bA.o (hQ:=fun c a w h=>oN rfl (by decide) (by decide) c a w h) ?_;refine ay (rs:=[2]) (by kernel_rfl) (by simp) ?_;refine av.cons rfl (fun K hK=>?_) (av.nil);go_simp;refine hK.out _ _ vP.o ?_;clear hK K
  try simp only [Act.put,sq]
  refine ay (rs:=[3]) (by kernel_rfl) (by simp) ?_;refine av.past rfl (by kernel_rfl) (fun K hK=>?_) (av.nil);go_simp;refine hK.out _ _ ?_;clear hK K
  try simp only [Act.put,sq]
  refine aR (by kernel_rfl) ?_ _;go_wp2_with fail;have xQ:=((HB1.o.trans (HT1.o.below (B:=w.heap.size) (by omega) (fun k hk e=>by omega))).trans (mg.o.below (B:=w.heap.size) (by rw [hsp];omega) (fun k hk e=>by omega))).trans ((hdr (fun _=>False) _).below (by have:=mg.o.size;rw [hsp]at this;omega) (fun _ _=>id));exact⟨_,dH rfl rfl rfl (by rw [qC];exact HXB.o) (by rw [qC];exact nC.o) Tryz.underlying57 rfl (by kernel_rfl) Tryz.underlying45 rfl (by kernel_rfl),xQ,_,rfl,.mk (cO.nil _ _ _) (cO.nil _ _ _) .nil⟩
theorem aaB (w:World)(s:Bt)(hX:mK w):Calls Tryz.prog 24 #[sv s] w fun e w'=>Below w.heap.size w w'∧∃z:List Value,e=.returned (.tuple #[.agg z.toArray,vZ (dn (cB 100).typ s).2])∧mJ w' (fun j=>w.heap.size<=j) z (vN (cB 100).typ s Dz):=by
 obtain⟨W0,hW0⟩:∃W0,((w.alloc (.cells #[.int .i64 0,.string ⟨#[]⟩,.slice none 0 0,.slice none 0 0] 57)).alloc (.cells #[.int .i64 0,.int .i64 0,.int .i64 0,.int .i64 0] 45))=W0:=⟨_,rfl⟩
 obtain⟨tw,_,hx0,hd0⟩:=iJ (G:=fun _=>False) (Turn.refl _ ((w.alloc (.cells #[.int .i64 0,.string ⟨#[]⟩,.slice none 0 0,.slice none 0 0] 57)).alloc (.cells #[.int .i64 0,.int .i64 0,.int .i64 0,.int .i64 0] 45)));have hs0:W0.heap.size=w.heap.size+2:=by rw [<-hW0];simp
 have hb0:Below w.heap.size w W0:=by rw [<-hW0];exact new2 _ _ _
 rw [hW0]at tw hx0 hd0;have HX0:=aZ (hx0 id);have HD0:=aZ (hd0 id);have HB0:=aZ hb0;have HA:=aZ (ac8 W0 s (hX.below hb0));have HW0:=aZ hW0;obtain⟨Dg,yx⟩:∃Dg,(dn (cB 100).typ s).2=Dg:=⟨_,rfl⟩
 obtain⟨V,hV⟩:∃V,vN (cB 100).typ s Dz=V:=⟨_,rfl⟩
 rw [yx,hV]at HA;rw [yx,hV];clear hX tw hx0 hd0 hb0 hW0 yx hV;go_enter Tryz.func24,Tryz.ntmps24;go_wp2_with fail;rw [HW0.o];refine(HA.o).mono ?_;rintro e w1 ⟨hb1,z0,rfl,hz0⟩;have hzc:=hz0;obtain⟨k4,s4,A1,n1',c1,A2,n2,c2,rfl⟩:=hzc.shape';have hs1:=hb1.size;have hx1:=(hb1.block (w.heap.size) (by omega)).trans HX0.o;have hd1:=(hb1.block (w.heap.size+1) (by omega)).trans HD0.o;have tA:Turn (fun k=>k=w.heap.size) w1 ((((w1.setCell ⟨w.heap.size,0,none⟩ (.int .i64 k4)).setCell ⟨w.heap.size,1,none⟩ (sv s4)).setCell ⟨w.heap.size,2,none⟩ (.slice A1 n1' c1)).setCell ⟨w.heap.size,3,none⟩ (.slice A2 n2 c2)):=((((ak w1 (w.heap.size) 0 (.int .i64 k4)).trans (ak _ (w.heap.size) 1 (sv s4)) (fun _ _ h=>h)).trans (ak _ (w.heap.size) 2 (.slice A1 n1' c1)) (fun _ _ h=>h)).trans (ak _ (w.heap.size) 3 (.slice A2 n2 c2)) (fun _ _ h=>h))
 have yN:=(aY (b:=w.heap.size) hx1 (.int .i64 k4) (sv s4) (.slice A1 n1' c1) (.slice A2 n2 c2))
 have yO:=ah hd1 tA (by omega);have tB:=((((ak ((((w1.setCell ⟨w.heap.size,0,none⟩ (.int .i64 k4)).setCell ⟨w.heap.size,1,none⟩ (sv s4)).setCell ⟨w.heap.size,2,none⟩ (.slice A1 n1' c1)).setCell ⟨w.heap.size,3,none⟩ (.slice A2 n2 c2)) (w.heap.size+1) 0 (.int .i64 0)).trans (ak _ (w.heap.size+1) 1 (.int .i64 Dg.1)) (fun _ _ h=>h)).trans (ak _ (w.heap.size+1) 2 (.int .i64 Dg.2.1)) (fun _ _ h=>h)).trans (ak _ (w.heap.size+1) 3 (.int .i64 Dg.2.2)) (fun _ _ h=>h))
 have HXB:=aZ (ah yN tB (by omega));have nC:=aZ ((aY (b:=w.heap.size+1) yO (.int .i64 0) (.int .i64 Dg.1) (.int .i64 Dg.2.1) (.int .i64 Dg.2.2)));have mg:=aZ ((tA.mono (G:=fun k=>k=w.heap.size∨k=w.heap.size+1) (fun _ _ h=>.inl h)).trans tB (fun _ _ h=>.inr h));have HZ:=aZ hz0;have HB1:=aZ (HB0.o.trans (hb1.mono (by omega)));have u0:w1.cell? ⟨w.heap.size,0,none⟩=some (.int .i64 0):=(cell_of_row _ _ 0 _ _ _ hx1).trans rfl;have u1:w1.cell? ⟨w.heap.size,1,none⟩=some (.string ⟨#[]⟩):=(cell_of_row _ _ 1 _ _ _ hx1).trans rfl;have u2:w1.cell? ⟨w.heap.size,2,none⟩=some (.slice none 0 0):=(cell_of_row _ _ 2 _ _ _ hx1).trans rfl;have u3:w1.cell? ⟨w.heap.size,3,none⟩=some (.slice none 0 0):=(cell_of_row _ _ 3 _ _ _ hx1).trans rfl;have l0:w1.cell? ⟨w.heap.size+1,0,none⟩=some (.int .i64 0):=(cell_of_row _ _ 0 _ _ _ hd1).trans rfl;have l1:w1.cell? ⟨w.heap.size+1,1,none⟩=some (.int .i64 0):=(cell_of_row _ _ 1 _ _ _ hd1).trans rfl;have l2:w1.cell? ⟨w.heap.size+1,2,none⟩=some (.int .i64 0):=(cell_of_row _ _ 2 _ _ _ hd1).trans rfl;have l3:w1.cell? ⟨w.heap.size+1,3,none⟩=some (.int .i64 0):=(cell_of_row _ _ 3 _ _ _ hd1).trans rfl;have uz:∀i,w1.frozen? ⟨w.heap.size,i,none⟩=false:=fun i=>frozen_of_row _ _ _ _ _ hx1;have lz:∀i,w1.frozen? ⟨w.heap.size+1,i,none⟩=false:=fun i=>frozen_of_row _ _ _ _ _ hd1;clear hb1 hz0 hx1 hd1 tA yN yO tB hzc;go_wp2_with fail;refine bodyPost_ret (dH rfl rfl rfl HXB.o nC.o Tryz.underlying57 rfl (by kernel_rfl) Tryz.underlying45 rfl (by kernel_rfl)) rfl ?_;exact⟨HB1.o.trans (mg.o.below (B:=w.heap.size) (by omega) (fun k hk e=>by omega)),_,rfl,(HZ.o.turn mg.o (fun g _ h e=>by omega)).mono (fun g _ h=>by omega)⟩
theorem G6 {s:Bt}(h:32<s.length):eG s=false:=by
 cases s with
 |nil=>simp at h
 |cons c r=>
  show(decide ((c :: r).length<=32) && _ && _ && _)=false;rw [decide_eq_false (by omega)];rfl
theorem G7 (w:World)(s:Bt)(hX:lT w)(hs:s.length<=maxLen):Calls Tryz.prog 77 #[sv s] w fun e w'=>e=.returned (.bool (eG s))∧Below w.heap.size w w':=by
 by_cases hl:s.length<=281474976710656
 ·exact aac w s hX hl
 have hf:=G6 (s:=s) (by omega);have hsz:=bZ s;have hn:(s==[])=false:=by cases s with |nil=>simp at hl |cons c r=>rfl
 have hne:¬s=[]:=by intro h;rw [h]at hl;simp at hl
 have hg:decide ((s.length:Int)<=32)=false:=by rw [decide_eq_false_iff_not];omega
 rw [hf];unfold maxLen at hs;clear hf hl;go_enter Tryz.func77,Tryz.ntmps77;go_wp2_with fail;go_ret;exact⟨rfl,Below.refl _ _⟩
theorem aaC (w:World)(s:Bt)(hX:lT w)(hs:s.length<=maxLen):Calls Tryz.prog 172 #[sv s] w fun e w'=>e=.returned (.bool (!eG s))∧Below w.heap.size w w':=by
 have HN:=aZ (G7 w s hX hs);generalize eG s=b at*
 go_enter Tryz.func172,Tryz.ntmps172;go_wp2_with fail;refine HN.o.mono ?_;rintro e w2 ⟨rfl,hb⟩;go_wp2_with fail;go_ret;exact⟨rfl,hb⟩
theorem G8 {α:Type}{l:List α}{k:Nat}(h:k<l.length):l.take (k+1)=l.take k++[l[k]]:=List.take_succ_eq_append_getElem h
def asU (l:List Bt)(w:World)(e:Ending)(w':World):Prop:=(∃k:Int,e=.returned (.int .i64 k)∧(if l.all eG then k= -1 else 0<=k))∧Below w.heap.size w w'
theorem N9 (v:Value)(l:List Bt)(w:World)(hv:Ss w w.heap.size v l)(hl:∀y∈l,y.length<=maxLen)(hX:lT w):
  Calls Tryz.prog 159 #[v,.func (.func 172) #[] #[]] w (asU l w):=by
 have HV:=aZ hv;obtain⟨A,c,rfl⟩:=fJ hv (by omega) (m:=l.length) (by rw [eX];omega);obtain⟨_,hn,hc⟩:=fE hv;have HL:=aZ hl;have HX:=aZ hX;clear hv hl hX;go_enter Tryz.func159,Tryz.ntmps159;go_wp2_with fail;go_loopw [8] (fun v8 wr=>∃k:Nat,v8=.int .i64 k∧k<=l.length∧(l.take k).all eG=true∧Below w.heap.size w wr) (fun v8 _=>l.length - (intOf v8).toNat)
 case atStart=>exact⟨0,rfl,by omega,rfl,Below.refl _ _⟩
 case round=>
  obtain⟨k,rfl,hk,hinv,hbr⟩:=hrel;have HI:=aZ hinv;clear hinv;by_cases hlt:k<l.length
  ·have asV:=hlt;obtain⟨b1,o1,rfl,hb1,hc1⟩:=Eh HV.o hlt (by omega);have d1:wr.cell? ⟨b1,o1+k,none⟩=some (sv l[k]):=BI hbr (by have:=hc1 0 (sv l[k]) (by simp [pU,hlt]);simpa using this) hb1;have HN:=aZ (aaC wr l[k] (HX.o.below hbr) (HL.o _ (List.getElem_mem hlt)));have hst:=G8 hlt;have HB:=aZ hbr;clear hc1 hb1 hbr;cases hq:eG l[k]with
   |false=>
    have hall:l.all eG=false:=by
     cases h:l.all eG with
     |false=>rfl
     |true=>rw [List.all_eq_true]at h;rw [h _ (List.getElem_mem hlt)]at hq;cases hq
    rw [hq]at HN;have ET:=aZ hall;clear hq hst hall;generalize l[k]=X at*
    go_wp2_with fail;refine HN.o.mono ?_;rintro e w2 ⟨rfl,hb⟩;have HB2:=aZ (HB.o.trans (hb.mono HB.o.size));clear hb d1;go_wp2_with fail;go_ret;exact⟨⟨k,rfl,by rw [ET.o];simp⟩,HB2.o⟩
   |true=>
    rw [hq]at HN;have HST:bN ((l.take (k+1)).all eG=true):=aZ (by rw [hst,List.all_append,HI.o];simp [hq]);clear hq hst;generalize l[k]=X at*
    go_wp2_with fail;refine HN.o.mono ?_;rintro e w2 ⟨rfl,hb⟩;have HB2:=aZ (HB.o.trans (hb.mono HB.o.size));clear hb d1;go_wp2_with fail
    go_roundw
    case rel=>exact⟨k+1,rfl,by omega,HST.o,HB2.o⟩
    case measure=>simp [intOf];omega
  ·obtain rfl:k=l.length:=by omega
   rw [List.take_length]at HI;have HB:=aZ hbr;clear hbr;go_wp2_with fail;go_ret;exact⟨⟨-1,rfl,by rw [HI.o];simp⟩,HB.o⟩
theorem Oa (v:Value)(l:List Bt)(w:World)(hv:Ss w w.heap.size v l)(hl:∀y∈l,y.length<=maxLen)(hX:lT w):
  Calls Tryz.prog 171 #[v,.func (.func 172) #[] #[]] w fun e w'=>e=.returned (.bool (!l.all eG))∧Below w.heap.size w w':=by
 have HI:=aZ (N9 v l w hv hl hX);obtain⟨A,n,c,rfl⟩:=iT hv;clear hv hl hX;cases hb:l.all eG
 all_goals
  go_enter Tryz.func171,Tryz.ntmps171;go_wp2_with fail;refine HI.o.mono ?_;rintro e w2 ⟨⟨k,rfl,hk⟩,hbel⟩;rw [hb]at hk;simp only [Bool.false_eq_true,if_false,if_true]at hk;have HB:=aZ hbel;clear hbel hb HI
 ·have hg:decide (0<=k)=true:=by simpa using hk
  go_wp2_with fail;go_ret;exact⟨rfl,HB.o⟩
 ·subst hk;go_wp2_with fail;go_ret;exact⟨rfl,HB.o⟩
theorem G9 (v:Value)(l:List Bt)(w:World)(hv:Ss w w.heap.size v l)(hl:∀y∈l,y.length<=maxLen)(hX:lT w):
  Calls Tryz.prog 117 #[v] w fun e w'=>e=.returned (.bool (l.all eG))∧Below w.heap.size w w':=by
 have HC:=aZ (Oa v l w hv hl hX);obtain⟨A,n,c,rfl⟩:=iT hv;clear hv hl hX;generalize l.all eG=b at*
 go_enter Tryz.func117,Tryz.ntmps117;go_wp2_with fail;refine HC.o.mono ?_;rintro e w2 ⟨rfl,hb⟩;go_wp2_with fail;go_ret;cases b <;> exact⟨rfl,hb⟩
def WrC (m:Nat):Prop:=∀(w:World) (z:List Value) (t:bS),BH w w.heap.size z t->okT t->lT w->
 Calls Tryz.prog 59 #[.agg z.toArray,.int .i64 m] w fun e w'=>e=.returned (.bool (bC m t))∧Below w.heap.size w w'
theorem Ob (m:Nat)(hm:m<=40)(ih:WrC m)(w:World)(z:List Value)(t:bS)(hr:BH w w.heap.size z t)(hok:okT t)(hX:lT w)(p:Nat)(hp:w.cell? ⟨p,0,none⟩=some (.int .i64 ((m:Int)+1))):
  Calls Tryz.prog 122 #[.agg z.toArray,.pointer (some ⟨p,0,none⟩)] w fun e w'=>e=.returned (.bool (!bC m t))∧Below w.heap.size w w':=by
 have hr0:=hr;obtain⟨k,s,A1,n1,c1,A2,n2,c2,rfl⟩:=hr.shape;have hb1:Below w.heap.size w (w.alloc (.cells #[.int .i64 k,.string s,.slice A1 n1 c1,.slice A2 n2 c2] 57)):=(Below.refl _ _).alloc (Nat.le_refl _) _;have HI:=aZ (ih _ _ t (hr0.far (Nat.le_refl _) hb1) hok (hX.below hb1));have HB:=aZ hb1;have hpl:p<w.heap.size:=World.block_lt_of_cell? w _ hp;clear hr hr0 hX hb1 hok ih;generalize bC m t=b at*
 go_enter Tryz.func122,Tryz.ntmps122;go_wp2_with fail;refine HI.o.mono ?_;rintro e w2 ⟨rfl,hb⟩;go_wp2_with fail;go_ret;exact⟨rfl,HB.o.trans (hb.mono HB.o.size)⟩
def aok (m:Nat)(l:List bS)(w:World)(e:Ending)(w':World):Prop:=(∃k:Int,e=.returned (.int .i64 k)∧(if l.all (bC m)then k= -1 else 0<=k))∧Below w.heap.size w w'
theorem Eb (m:Nat)(hm:m<=40)(ih:WrC m)(v:Value)(l:List bS)(xs:List Value)(w:World)(hv:Sl w w.heap.size 4 v xs)(hr:kg w w.heap.size xs l)(hl:∀y∈l,okT y)(hX:lT w)(p:Nat)(hp:w.cell? ⟨p,0,none⟩=some (.int .i64 ((m:Int)+1))):
  Calls Tryz.prog 176 #[v,.func (.func 122) #[] #[.pointer (some ⟨p,0,none⟩)]] w (aok m l w):=by
 have HV:=aZ hv;obtain⟨A,c,rfl⟩:=fJ hv (by omega) (m:=l.length) hr.length;obtain⟨_,hn,hc⟩:=fE hv;have HL:=aZ hl;have HX:=aZ hX;have HR:=aZ hr;have HP:=aZ hp;have HIH:=aZ ih;have hpl:=World.block_lt_of_cell? w _ hp;have HPL:=aZ hpl;clear hv hl hX hr hp ih hpl;go_enter Tryz.func176,Tryz.ntmps176;go_wp2_with fail;go_loopw [8] (fun v8 wr=>∃k:Nat,v8=.int .i64 k∧k<=l.length∧(l.take k).all (bC m)=true∧Below w.heap.size w wr) (fun v8 _=>l.length - (intOf v8).toNat)
 case atStart=>exact⟨0,rfl,by omega,rfl,Below.refl _ _⟩
 case round=>
  obtain⟨k,rfl,hk,hinv,hbr⟩:=hrel;have HI:=aZ hinv;clear hinv;by_cases hlt:k<l.length
  ·have asV:=hlt;obtain⟨b1,o1,rfl,hb1,hc1⟩:=Eh HV.o hlt (by omega);have hr1:=HR.o.at k hlt;obtain⟨kk,s,A1,n1,c1,A2,n2,c2,hv1⟩:=hr1.shape;rw [hv1]at hr1;have d0:wr.cell? ⟨b1,o1+k*4,none⟩=some (.int .i64 kk):=BI hbr (by have:=hc1 0 _ (kK hv1 (by omega:0<4));simpa using this) hb1;have d1:wr.cell? ⟨b1,o1+k*4+1,none⟩=some (.string s):=BI hbr (by have:=hc1 1 _ (kK hv1 (by omega:1<4));simpa [Nat.add_assoc]using this) hb1;have d2:wr.cell? ⟨b1,o1+k*4+2,none⟩=some (.slice A1 n1 c1):=BI hbr (by have:=hc1 2 _ (kK hv1 (by omega:2<4));simpa [Nat.add_assoc]using this) hb1;have d3:wr.cell? ⟨b1,o1+k*4+3,none⟩=some (.slice A2 n2 c2):=BI hbr (by have:=hc1 3 _ (kK hv1 (by omega:3<4));simpa [Nat.add_assoc]using this) hb1;have HN:=aZ (Ob m hm HIH.o wr _ l[k] (hr1.far (Nat.le_refl _) hbr) (HL.o _ (List.getElem_mem hlt)) (HX.o.below hbr) p (BI hbr HP.o HPL.o));have hst:=G8 hlt;have HB:=aZ hbr;clear hc1 hb1 hbr hv1 hr1;cases hq:bC m l[k]with
   |false=>
    have hall:l.all (bC m)=false:=by
     cases h:l.all (bC m)with
     |false=>rfl
     |true=>rw [List.all_eq_true]at h;rw [h _ (List.getElem_mem hlt)]at hq;cases hq
    rw [hq]at HN;have ET:=aZ hall;clear hq hst hall;generalize l[k]=X at*
    go_wp2_with fail;refine HN.o.mono ?_;rintro e w2 ⟨rfl,hb⟩;have HB2:=aZ (HB.o.trans (hb.mono HB.o.size));clear hb d0 d1 d2 d3;go_wp2_with fail;go_ret;exact⟨⟨k,rfl,by rw [ET.o];simp⟩,HB2.o⟩
   |true=>
    rw [hq]at HN;have HST:bN ((l.take (k+1)).all (bC m)=true):=aZ (by rw [hst,List.all_append,HI.o];simp [hq]);clear hq hst;generalize l[k]=X at*
    go_wp2_with fail;refine HN.o.mono ?_;rintro e w2 ⟨rfl,hb⟩;have HB2:=aZ (HB.o.trans (hb.mono HB.o.size));clear hb d0 d1 d2 d3;go_wp2_with fail
    go_roundw
    case rel=>exact⟨k+1,rfl,by omega,HST.o,HB2.o⟩
    case measure=>simp [intOf];omega
  ·obtain rfl:k=l.length:=by omega
   rw [List.take_length]at HI;have HB:=aZ hbr;clear hbr;go_wp2_with fail;go_ret;exact⟨⟨-1,rfl,by rw [HI.o];simp⟩,HB.o⟩
theorem zA (m:Nat)(hm:m<=40)(ih:WrC m)(v:Value)(l:List bS)(xs:List Value)(w:World)(hv:Sl w w.heap.size 4 v xs)(hr:kg w w.heap.size xs l)(hl:∀y∈l,okT y)(hX:lT w)(p:Nat)(hp:w.cell? ⟨p,0,none⟩=some (.int .i64 ((m:Int)+1))):
  Calls Tryz.prog 121 #[v,.func (.func 122) #[] #[.pointer (some ⟨p,0,none⟩)]] w fun e w'=>e=.returned (.bool (!l.all (bC m)))∧Below w.heap.size w w':=by
 have HI:=aZ (Eb m hm ih v l xs w hv hr hl hX p hp);obtain⟨A,n,c,rfl⟩:=iT hv;clear hv hl hX hr hp ih;cases hb:l.all (bC m)
 all_goals
  go_enter Tryz.func121,Tryz.ntmps121;go_wp2_with fail;refine HI.o.mono ?_;rintro e w2 ⟨⟨k,rfl,hk⟩,hbel⟩;rw [hb]at hk;simp only [Bool.false_eq_true,if_false,if_true]at hk;have HB:=aZ hbel;clear hbel hb HI
 ·have hg:decide (0<=k)=true:=by simpa using hk
  go_wp2_with fail;go_ret;exact⟨rfl,HB.o⟩
 ·subst hk;go_wp2_with fail;go_ret;exact⟨rfl,HB.o⟩
theorem KJ {w:World}{b:Nat}{x0 x1 x2 x3:Value}{T:TypeId}(h:w.heap[b]? =some (.cells #[x0,x1,x2,x3] T (0,0))):
  w.cell? ⟨b,0,none⟩=some x0∧w.cell? ⟨b,1,none⟩=some x1∧w.cell? ⟨b,2,none⟩=some x2∧w.cell? ⟨b,3,none⟩=some x3:=
 ⟨(cell_of_row _ _ _ _ _ _ h).trans rfl,(cell_of_row _ _ _ _ _ _ h).trans rfl,(cell_of_row _ _ _ _ _ _ h).trans rfl,(cell_of_row _ _ _ _ _ _ h).trans rfl⟩
theorem wrap_zero {a b:Nat}(ha:a<=2 ^ 63 - 1)(hb:b<=2 ^ 63 - 1)(h:¬(a=0∧b=0)):(wrap64 ((a:Int)+(b:Int))==0)=false:=by
 rw [beq_eq_false_iff_ne];intro h0;unfold wrap64 at h0;omega
theorem KL:WrC 0:=by
 intro w z t hr hok hX;have hw:bC 0 t=false:=rfl;rw [hw];obtain⟨k,s,A1,n1,c1,A2,n2,c2,rfl⟩:=hr.shape;have hb2:Below w.heap.size w ((w.alloc (.cells #[.int .i64 k,.string s,.slice A1 n1 c1,.slice A2 n2 c2] 57)).alloc (.cells #[.int .i64 0] 3)):=((Below.refl _ _).alloc (Nat.le_refl _) _).alloc (by simp) _;have HB:=aZ hb2;clear hr hok hX hb2 hw;go_enter Tryz.func59,Tryz.ntmps59;go_wp2_with fail;go_ret;exact⟨rfl,HB.o⟩
theorem KM (m:Nat)(hm:m<=40)(ih:WrC m):WrC (m+1):=by
 intro w z t hr hok hX;obtain⟨k,nm,ns,ks⟩:=t;rw [okT]at hok;obtain⟨ok1,ok2,ok3,ok4⟩:=hok;obtain⟨A1,c1,A2,c2,xk,rfl,s1,s2,r2⟩:=hr.parts;have l1:=(fE s1).2;have l2:=(fE s2).2;clear hr;have hw:bC (m+1) (.mk k nm ns ks)=(ns.all eG && ks.all (bC m) && gH k nm ns.length ks.length):=rfl;rw [hw];clear hw;have hz1:=heap_alloc_new w (.cells #[.int .i64 k,sv nm,.slice A1 ns.length c1,.slice A2 ks.length c2] 57);obtain⟨W1,hW1⟩:∃W1,W1=w.alloc (.cells #[.int .i64 k,sv nm,.slice A1 ns.length c1,.slice A2 ks.length c2] 57):=⟨_,rfl⟩
 have hb1:Below w.heap.size w W1:=by rw [hW1];exact(Below.refl _ _).alloc (Nat.le_refl _) _
 rw [<-hW1]at hz1;have hs1:W1.heap.size=w.heap.size+1:=by rw [hW1];exact Array.size_push _
 have hz2:=heap_alloc_new W1 (.cells #[.int .i64 ((m:Int)+1)] 3);obtain⟨W2,hW2⟩:∃W2,W2=W1.alloc (.cells #[.int .i64 ((m:Int)+1)] 3):=⟨_,rfl⟩
 have nZ:Below W1.heap.size W1 W2:=by rw [hW2];exact(Below.refl _ _).alloc (Nat.le_refl _) _
 have hb2:Below w.heap.size w W2:=hb1.trans (nZ.mono hb1.size);rw [<-hW2,hs1]at hz2;have hz1:=(nZ.block _ (block_lt hz1)).trans hz1;have HZ:=aZ (And.intro hz1 hz2);have hwe:=hW2;rw [hW1]at hwe;have JC:=aZ hwe;have HB2:=aZ hb2;have HN:=aZ (G9 _ ns W2 (Sl.more (Sl.below s1 hb2) hb2.size) ok3 (hX.below hb2));rw [hwe]at HN;have HS:=aZ (And.intro s2 r2);have Rh:=aZ (And.intro (K9.1 ok4) ok2);have HX:=aZ hX;have HIH:=aZ ih;have hmf:∀(fn:Fn) (first cap:Array Value) (w:World),(Instr.makeFunc fn first cap).run Tryz.prog w=.ok (.func fn first cap) w:=fun _ _ _ _=>rfl;have hm0:(((m:Int)+1)==0)=false:=by rw [beq_eq_false_iff_ne];omega
 have hm1:(((m+1:Nat):Int)==0)=false:=by rw [beq_eq_false_iff_ne];omega
 clear s1 s2 r2 ok1 ok2 ok3 ok4 hX ih hz1 hz2 hb1 nZ hb2 hs1 hW1 hW2 hwe;go_enter Tryz.func59,Tryz.ntmps59;go_wp2_with fail;refine HN.o.mono ?_;rintro e w3 ⟨rfl,hb3⟩;rw [<-JC.o]at hb3;have HB3:=aZ hb3;clear hb3 HN;cases hns:ns.all eG with
 |false=>
  have JF:=aZ hns;clear hns;go_wp2_with fail;go_ret;exact⟨by rw [JF.o];rfl,HB2.o.trans (HB3.o.mono HB2.o.size)⟩
 |true=>
  have JF:=aZ hns;clear hns;have aol:=(HB3.o.block _ (block_lt HZ.o.1)).trans HZ.o.1;obtain⟨g0,g1,g2,g3⟩:=KJ aol;have aom:=(HB3.o.block _ (block_lt HZ.o.2)).trans HZ.o.2;have gm:w3.cell? ⟨w.heap.size+1,0,none⟩=some (.int .i64 ((m:Int)+1)):=(cell_of_row _ _ _ _ _ _ aom).trans rfl;have uq:Below w.heap.size w w3:=HB2.o.trans (HB3.o.mono HB2.o.size);have HC:=aZ (zA m hm HIH.o _ ks xk w3 (Sl.more (Sl.below HS.o.1 uq) uq.size) ((HS.o.2.keep uq).more uq.size) Rh.o.1 (HX.o.below uq) (w.heap.size+1) gm);clear aol aom uq;go_wp2_with fail;clear hm0 hm1 g0 g1 g2 g3 gm;refine HC.o.mono ?_;rintro e w4 ⟨rfl,hb4⟩;have Bl:=aZ (HB3.o.trans (hb4.mono HB3.o.size));clear hb4 HC;cases hks:ks.all (bC m)with
  |false=>
   have Iw:=aZ hks;clear hks;go_wp2_with fail;go_ret;exact⟨by rw [JF.o,Iw.o];rfl,HB2.o.trans (Bl.o.mono HB2.o.size)⟩
  |true=>
   have Iw:=aZ hks;clear hks;have aon:=(Bl.o.block _ (block_lt HZ.o.1)).trans HZ.o.1;obtain⟨g0,g1,g2,g3⟩:=KJ aon;have nI:=aZ (HB2.o.trans (Bl.o.mono HB2.o.size));have HNM:bN (∀wx:World,Below w.heap.size w wx->Calls Tryz.prog 77 #[sv nm] wx fun e w'=>e=.returned (.bool (eG nm))∧Below wx.heap.size wx w'):=aZ (fun wx h=>G7 wx nm (HX.o.below h) Rh.o.2);have ha:ns.length<=2 ^ 63 - 1:=by omega
   have hb:ks.length<=2 ^ 63 - 1:=by omega
   obtain⟨a,hA⟩:∃a,ns.length=a:=⟨_,rfl⟩
   obtain⟨b,hB⟩:∃b,ks.length=b:=⟨_,rfl⟩
   rw [hA]at g2 ha ⊢;rw [hB]at g3 hb ⊢;have HA:=aZ hA;have yF:=aZ hB;clear hA hB;clear aon l1 l2 hmf;by_cases n8:k=8
   ·subst n8;by_cases hz:a=0∧b=0
    ·obtain⟨rfl,rfl⟩:=hz;have HT:bN (gH 8 nm 0 0=eG nm):=aZ (by simp [gH]);go_wp2_with fail
     go_quiet (fail)
     go_wp2_with fail;refine(HNM.o _ (nI.o.trans ((aP w4 _).mono nI.o.size))).mono ?_;rintro e w5 ⟨rfl,hb5⟩;go_wp2_with fail;go_ret;exact⟨by rw [JF.o,Iw.o,HA.o,yF.o,HT.o];rfl,(nI.o.trans ((aP w4 _).mono nI.o.size)).trans (hb5.mono (nI.o.trans ((aP w4 _).mono nI.o.size)).size)⟩
    ·have hwz:(wrap64 ((a:Int)+(b:Int))==0)=false:=wrap_zero ha hb hz;have HT:bN (gH 8 nm a b=false):=aZ (by simp [gH];omega);clear hz;go_wp2_with fail
     go_quiet (fail)
     go_wp2_with fail;go_ret;exact⟨by rw [JF.o,Iw.o,HA.o,yF.o,HT.o];rfl,nI.o.trans ((aP w4 _).mono nI.o.size)⟩
   have q8:(k==8)=false:=beq_eq_false_iff_ne.mpr n8;by_cases hnm:nm=[]
   ·subst hnm;by_cases hk0:k<0
    ·have g4:decide (k<0)=true:=by simpa using hk0
     have HT:bN (gH k [] a b=false):=aZ (by simp [gH,n8];intro h;omega);clear hk0 n8;go_wp2_with fail
     go_quiet (fail)
     go_wp2_with fail;go_ret;exact⟨by rw [JF.o,Iw.o,HA.o,yF.o,HT.o];rfl,nI.o.trans ((aP w4 _).mono nI.o.size)⟩
    have g4:decide (k<0)=false:=by simpa using hk0
    by_cases hk7:7<k
    ·have g5:decide (7<k)=true:=by simpa using hk7
     have HT:bN (gH k [] a b=false):=aZ (by simp [gH,n8,hk7]);clear hk0 n8 hk7;go_wp2_with fail
     go_quiet (fail)
     go_wp2_with fail;go_ret;exact⟨by rw [JF.o,Iw.o,HA.o,yF.o,HT.o];rfl,nI.o.trans ((aP w4 _).mono nI.o.size)⟩
    have g5:decide (7<k)=false:=by simpa using hk7
    by_cases n5:k=5
    ·subst n5;clear g4 g5 hk0 hk7 n8 q8;by_cases hab:a=b
     ·subst hab;have HT:bN (gH 5 [] a a=true):=aZ (by simp [gH]);go_wp2_with fail
      go_quiet (fail)
      go_wp2_with fail;go_ret;exact⟨by rw [JF.o,Iw.o,HA.o,yF.o,HT.o];rfl,nI.o.trans ((aP w4 _).mono nI.o.size)⟩
     ·have hq:((a:Int)==(b:Int))=false:=beq_eq_false_iff_ne.mpr (by omega);have HT:bN (gH 5 [] a b=false):=aZ (by simp [gH,hab]);clear hab;go_wp2_with fail
      go_quiet (fail)
      go_wp2_with fail;go_ret;exact⟨by rw [JF.o,Iw.o,HA.o,yF.o,HT.o];rfl,nI.o.trans ((aP w4 _).mono nI.o.size)⟩
    by_cases n6:k=6
    ·subst n6;clear g4 g5 hk0 hk7 n8 q8 n5;by_cases ha0:a=0
     ·subst ha0;by_cases hb2:b=2
      ·subst hb2;have HT:bN (gH 6 [] 0 2=true):=aZ (by simp [gH]);go_wp2_with fail
       go_quiet (fail)
       go_wp2_with fail;go_ret;exact⟨by rw [JF.o,Iw.o,HA.o,yF.o,HT.o];rfl,nI.o.trans ((aP w4 _).mono nI.o.size)⟩
      ·have hq:((b:Int)==2)=false:=beq_eq_false_iff_ne.mpr (by omega);have HT:bN (gH 6 [] 0 b=false):=aZ (by simp [gH,hb2]);clear hb2;go_wp2_with fail
       go_quiet (fail)
       go_wp2_with fail;go_ret;exact⟨by rw [JF.o,Iw.o,HA.o,yF.o,HT.o];rfl,nI.o.trans ((aP w4 _).mono nI.o.size)⟩
     ·have hq:((a:Int)==0)=false:=beq_eq_false_iff_ne.mpr (by omega);have HT:bN (gH 6 [] a b=false):=aZ (by simp [gH,ha0]);clear ha0;go_wp2_with fail
      go_quiet (fail)
      go_wp2_with fail;go_ret;exact⟨by rw [JF.o,Iw.o,HA.o,yF.o,HT.o];rfl,nI.o.trans ((aP w4 _).mono nI.o.size)⟩
    by_cases n7:k=7
    ·subst n7;clear g4 g5 hk0 hk7 n8 q8 n5 n6;by_cases ha0:a=0
     ·subst ha0;by_cases hb2:2<=b
      ·have hq:decide ((2:Int)<=(b:Int))=true:=by simp;omega
       have HT:bN (gH 7 [] 0 b=true):=aZ (by simp [gH,hb2]);clear hb2;go_wp2_with fail
       go_quiet (fail)
       go_wp2_with fail;go_ret;exact⟨by rw [JF.o,Iw.o,HA.o,yF.o,HT.o];rfl,nI.o.trans ((aP w4 _).mono nI.o.size)⟩
      ·have hq:decide ((2:Int)<=(b:Int))=false:=by simp;omega
       have HT:bN (gH 7 [] 0 b=false):=aZ (by simp [gH,hb2]);clear hb2;go_wp2_with fail
       go_quiet (fail)
       go_wp2_with fail;go_ret;exact⟨by rw [JF.o,Iw.o,HA.o,yF.o,HT.o];rfl,nI.o.trans ((aP w4 _).mono nI.o.size)⟩
     ·have hq:((a:Int)==0)=false:=beq_eq_false_iff_ne.mpr (by omega);have HT:bN (gH 7 [] a b=false):=aZ (by simp [gH,ha0]);clear ha0;go_wp2_with fail
      go_quiet (fail)
      go_wp2_with fail;go_ret;exact⟨by rw [JF.o,Iw.o,HA.o,yF.o,HT.o];rfl,nI.o.trans ((aP w4 _).mono nI.o.size)⟩
    have q5:(k==5)=false:=beq_eq_false_iff_ne.mpr n5;have q6:(k==6)=false:=beq_eq_false_iff_ne.mpr n6;have q7:(k==7)=false:=beq_eq_false_iff_ne.mpr n7;by_cases hz:a=0∧b=0
    ·obtain⟨rfl,rfl⟩:=hz;have HT:bN (gH k [] 0 0=true):=aZ (by simp [gH,n8,n5,n6,n7,hk0,hk7]);clear n5 n6 n7 n8 hk0 hk7;go_wp2_with fail
     go_quiet (fail)
     go_wp2_with fail;go_ret;exact⟨by rw [JF.o,Iw.o,HA.o,yF.o,HT.o];rfl,nI.o.trans ((aP w4 _).mono nI.o.size)⟩
    ·have hwz:(wrap64 ((a:Int)+(b:Int))==0)=false:=wrap_zero ha hb hz;have HT:bN (gH k [] a b=false):=aZ (by simp [gH,n8,n5,n6,n7,hk0,hk7];omega);clear n5 n6 n7 n8 hk0 hk7 hz;go_wp2_with fail
     go_quiet (fail)
     go_wp2_with fail;go_ret;exact⟨by rw [JF.o,Iw.o,HA.o,yF.o,HT.o];rfl,nI.o.trans ((aP w4 _).mono nI.o.size)⟩
   ·have hq:(nm==[])=false:=by cases nm with |nil=>exact absurd rfl hnm |cons c r=>rfl
    have HT:bN (gH k nm a b=false):=aZ (by simp [gH,n8,hnm]);clear n8;go_wp2_with fail
    go_quiet (fail)
    go_wp2_with fail;go_ret;exact⟨by rw [JF.o,Iw.o,HA.o,yF.o,HT.o];rfl,nI.o.trans ((aP w4 _).mono nI.o.size)⟩
theorem DI:∀m:Nat,m<=41->WrC m
 |0,_=>KL
 |m+1,h=>KM m (by omega) (DI m (by omega))
def aaF:List (UInt8 ×Bt):=[(9,[92,116]),(10,[92,110]),(34,[92,34]),(92,[92,92])]
def asW:Value:= .slice none 0 0
def Ec (w:World)(base bs:Nat)(m:List Bt)(l:List (UInt8 ×Bt)):Prop:=
 ∃(cs:Array Value) (tr:Value),w.heap[bs]? =some (.cells cs 295 (0,0))∧cs.size=257∧cs[256]? =some tr∧gZ w base 9 tr m∧base<=bs∧tr.ownBlock≠some bs∧
  ∀c:UInt8,(l.lookup c=none->cs[c.toNat]? =some asW)∧(∀u,l.lookup c=some u->∃g k,cs[c.toNat]? =some (.slice (some ⟨g,0,none⟩) u.length k)∧base<=g∧g<w.heap.size∧g≠bs∧tr.ownBlock≠some g∧∀(j:Nat) (hj:j<u.length),w.cell? ⟨g,j,none⟩=some (.int .u8 (u[j].toNat:Int)))
theorem Ec.below {w w':World}{base bs:Nat}{m:List Bt}{l:List (UInt8 ×Bt)}(h:Ec w base bs m l)(hb:Below w.heap.size w w'):Ec w' base bs m l:=by
 obtain⟨cs,tr,h1,h2,h3,h4,h5,h6,h7⟩:=h;refine⟨cs,tr,(hb.block bs (block_lt h1)).trans h1,h2,h3,h4.below hb,h5,h6,fun c=>⟨(h7 c).1,fun u hu=>?_⟩⟩;obtain⟨g,k,a1,a0,a2,a3,a4,a7⟩:=(h7 c).2 u hu;exact⟨g,k,a1,a0,Nat.lt_of_lt_of_le a2 hb.size,a3,a4,fun j hj=>(hb.cell (p:=⟨g,j,none⟩) a2).trans (a7 j hj)⟩
theorem Ec.grow {w w9:World}{base bs:Nat}{m m':List Bt}{l:List (UInt8 ×Bt)}{cs:Array Value}{tr tr':Value}(h:Ec w base bs m l)(hcs:w.heap[bs]? =some (.cells cs 295 (0,0)))(htr:cs[256]? =some tr)
  (hg:w.grownBy w9 tr.ownBlock) (ho:gZ w9 base 9 tr' m') (hb:tr'.ownBlock=tr.ownBlock∨tr'.ownBlock=some w.heap.size):Ec (w9.setCell ⟨bs,256,none⟩ tr') base bs m' l:=by
 obtain⟨cs0,tr0,h1,h2,h3,h4,h5,h6,h7⟩:=h;rw [hcs]at h1;simp only [Option.some.injEq,Obj.cells.injEq]at h1;obtain⟨rfl,_⟩:=h1;rw [htr]at h3;injection h3 with h3;subst h3;have hbs:bs<w.heap.size:=block_lt hcs;have vB:w9.heap[bs]? =some (.cells cs 295 (0,0)):=(hg.block bs hbs h6.symm).trans hcs;have hne:tr'.ownBlock≠some bs:=by
  rcases hb with hb |hb
  ·rw [hb];exact h6
  ·rw [hb];intro h;injection h with h;omega
 have ht:=ak w9 bs 256 tr';refine⟨cs.setIfInBounds 256 tr',tr',heap_setCell_same w9 bs 256 _ _ tr' vB,by simp [h2],?_,ho.turn ht (fun g hg h=>hne (by rw [hg,h])),h5,hne,fun c=>?_⟩
 ·rw [Array.getElem?_setIfInBounds_self];simp [h2]
 ·have hc:=c.toNat_lt;have hcs':(cs.setIfInBounds 256 tr')[c.toNat]? =cs[c.toNat]? :=by rw [Array.getElem?_setIfInBounds_ne (by omega)]
  rw [hcs'];refine⟨(h7 c).1,fun u hu=>?_⟩;obtain⟨g,k,a1,a0,a2,a3,a4,a7⟩:=(h7 c).2 u hu;refine⟨g,k,a1,a0,by simp only [World.size_setCell];exact Nat.lt_of_lt_of_le a2 hg.size,a3,?_,fun j hj=>?_⟩
  ·rcases hb with hb |hb
   ·rw [hb];exact a4
   ·rw [hb];intro h;injection h with h;omega
  ·rw [World.cell?_setCell_other _ _ _ _ (by intro h;have:=congrArg Addr.block h;simp at this;omega)];have:w9.cell? ⟨g,j,none⟩=w.cell? ⟨g,j,none⟩:=by simp only [World.cell?,hg.block g a2 a4.symm]
   rw [this];exact a7 j hj
theorem Ec.put {w:World}{base bs:Nat}{m:List Bt}{l:List (UInt8 ×Bt)}(h:Ec w base bs m l)(c:UInt8)(u:Bt)(hl:l.lookup c=none){w':World}(hb:Below w.heap.size w w'){k:Nat}
  (hlt:w.heap.size<w'.heap.size) (hc:∀(j:Nat) (hj:j<u.length),w'.cell? ⟨w.heap.size,j,none⟩=some (.int .u8 (u[j].toNat:Int))):
  Ec (w'.setCell ⟨bs,c.toNat,none⟩ (.slice (some ⟨w.heap.size,0,none⟩) u.length k)) base bs m (l++[(c,u)]):=by
 have h':=h.below hb;obtain⟨cs0,tr0,g1,_,g3,g4,_,_,_⟩:=h;have hbs:bs<w.heap.size:=block_lt g1;obtain⟨cs,tr,h1,h2,h3,h4,h5,h6,h7⟩:=h';have hsame:some (Obj.cells cs 295 (0,0))=some (Obj.cells cs0 295 (0,0)):=by rw [<-h1,<-g1,hb.block bs hbs]
 injection hsame with hsame;injection hsame with hsame;subst hsame;rw [h3]at g3;injection g3 with g3;subst g3;have hcl:=c.toNat_lt;have ht:=ak w' bs c.toNat (.slice (some ⟨w.heap.size,0,none⟩) u.length k);refine⟨cs.setIfInBounds c.toNat (.slice (some ⟨w.heap.size,0,none⟩) u.length k),tr,heap_setCell_same w' bs c.toNat _ _ _ h1,by simp [h2],?_,h4.turn ht (fun g hg h=>h6 (by rw [hg,h])),h5,h6,fun d=>?_⟩
 ·rw [Array.getElem?_setIfInBounds_ne (by omega)];exact h3
 ·have hd:=d.toNat_lt;rw [List.lookup_append];by_cases hcd:d=c
  ·subst hcd;rw [hl];have:List.lookup d [(d,u)]=some u:=by simp [List.lookup]
   rw [this];constructor
   ·intro h;simp at h
   intro u' hu';simp at hu';subst hu';refine⟨w.heap.size,k,?_,by omega,by simp only [World.size_setCell];exact hlt,by omega,fun h=>?_,fun j hj=>?_⟩
   ·rw [Array.getElem?_setIfInBounds_self];simp [h2];omega
   ·have:=(g4.lt _ h).2;omega
   ·rw [World.cell?_setCell_other _ _ _ _ (by intro h;have:=congrArg Addr.block h;simp at this;omega)];exact hc j hj
  ·have hdc:(d==c)=false:=by rw [beq_eq_false_iff_ne];exact hcd
   have hno:List.lookup d [(c,u)]=none:=by simp [List.lookup,hdc]
   rw [hno,Option.or_none];have hcs':(cs.setIfInBounds c.toNat (.slice (some ⟨w.heap.size,0,none⟩) u.length k))[d.toNat]? =cs[d.toNat]? :=by
    rw [Array.getElem?_setIfInBounds_ne (by intro h;exact hcd (UInt8.toNat_inj.1 h.symm))]
   rw [hcs'];refine⟨(h7 d).1,fun u' hu'=>?_⟩;obtain⟨g,k',a1,a0,a2,a3,a4,a7⟩:=(h7 d).2 u' hu';refine⟨g,k',a1,a0,by simp only [World.size_setCell];exact a2,a3,a4,fun j hj=>?_⟩;rw [World.cell?_setCell_other _ _ _ _ (by intro h;have:=congrArg Addr.block h;simp at this;omega)];exact a7 j hj
theorem CB {w:World}{base:Nat}{e:TypeId}{v:Value}{m:List Bt}(h:gZ w base e v m)(hm:0<m.length):∃g c n,v=.slice (some ⟨g,0,none⟩) n c:=by
 obtain⟨g,c,hv,_⟩:=iM h.row hm;exact⟨g,c,_,hv⟩
theorem adb (c:UInt8):(aaF.lookup c=none∧Wh c=[c]∧c.toNat≠9∧c.toNat≠10∧c.toNat≠34∧c.toNat≠92)∨(∃a b,aaF.lookup c=some [a,b]∧Wh c=[a,b]∧(c=9∨c=10∨c=34∨c=92)):=by
 by_cases h1:c=9
 ·subst h1;exact .inr ⟨92,116,rfl,rfl,.inl rfl⟩
 ·by_cases h2:c=10
  ·subst h2;exact .inr ⟨92,110,rfl,rfl,.inr (.inl rfl)⟩
  ·by_cases h3:c=34
   ·subst h3;exact .inr ⟨92,34,rfl,rfl,.inr (.inr (.inl rfl))⟩
   ·by_cases h4:c=92
    ·subst h4;exact .inr ⟨92,92,rfl,rfl,.inr (.inr (.inr rfl))⟩
    ·have e1:c.toNat≠9:=fun h=>h1 (UInt8.toNat_inj.1 h);have e2:c.toNat≠10:=fun h=>h2 (UInt8.toNat_inj.1 h);have e3:c.toNat≠34:=fun h=>h3 (UInt8.toNat_inj.1 h);have e4:c.toNat≠92:=fun h=>h4 (UInt8.toNat_inj.1 h);refine .inl ⟨?_,?_,e1,e2,e3,e4⟩
     ·simp [aaF,List.lookup,beq_eq_false_iff_ne.2 h1,beq_eq_false_iff_ne.2 h2,beq_eq_false_iff_ne.2 h3,beq_eq_false_iff_ne.2 h4]
     ·unfold Wh;rw [if_neg e4,if_neg e3,if_neg e2,if_neg e1]
def aaG (s:Bt):Nat:=(s.map fun c=>if(aaF.lookup c).isSome then 1 else 0).sum
theorem JG (c:UInt8)(s:Bt):aaG (c :: s)=(if(aaF.lookup c).isSome then 1 else 0)+aaG s:=rfl
theorem ade (s:Bt):aaG s<=s.length:=by
 induction s with
 |nil=>simp [aaG]
 |cons c s ih=>rw [JG,List.length_cons];split <;> omega
theorem adf (s:Bt):(s.flatMap Wh).length=s.length+aaG s:=by
 induction s with
 |nil=>rfl
 |cons c s ih=>
  rw [List.flatMap_cons,List.length_append,ih,JG,List.length_cons];rcases adb c with⟨h1,h2,_⟩ |⟨a,b,h1,h2,_⟩
  ·rw [h1,h2];simp;omega
  ·rw [h1,h2];simp;omega
theorem Ec.turn {w w':World}{base bs b:Nat}{m:List Bt}{l:List (UInt8 ×Bt)}(h:Ec w base bs m l)(ht:Turn (fun k=>k=b) w w')(hb:b<base):Ec w' base bs m l:=by
 obtain⟨cs,tr,h1,h2,h3,h4,h5,h6,h7⟩:=h;refine⟨cs,tr,(ht.block (block_lt h1) (by omega)).trans h1,h2,h3,h4.turn ht (fun g hg h=>by have:=(h4.lt g hg).1;omega),h5,h6,fun c=>⟨(h7 c).1,fun u hu=>?_⟩⟩;obtain⟨g,k,a1,a0,a2,a3,a4,a7⟩:=(h7 c).2 u hu;refine⟨g,k,a1,a0,Nat.lt_of_lt_of_le a2 ht.size,a3,a4,fun j hj=>?_⟩;have:w'.cell? ⟨g,j,none⟩=w.cell? ⟨g,j,none⟩:=by simp only [World.cell?,ht.block a2 (show ¬g=b by omega)]
 rw [this];exact a7 j hj
end Go.Proofs.YtfgjkmipfikooaaGreatDoor
