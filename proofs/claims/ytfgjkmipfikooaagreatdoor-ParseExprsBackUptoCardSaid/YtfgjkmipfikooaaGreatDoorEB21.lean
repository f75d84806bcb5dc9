/- HJ -/
import Derived.Test.YtfgjkmipfikooaaGreatDoorEB20
set_option linter.unusedSimpArgs false
set_option linter.unusedVariables false
set_option maxRecDepth 100000
set_option maxHeartbeats 8000000
namespace Go.Proofs.YtfgjkmipfikooaaGreatDoor
open Go.RowKit
theorem Si {s:Bt}{kd:Int}{t:Bt}{n:Nat}(h:fu s=.inr (kd,t,n)):t.length<=s.length+256:=by
 cases s with
 |nil=>simp [fu]at h
 |cons c r=>
  rw [fu]at h;split at h
  ·split at h
   ·cases h
   ·split at h
    ·injection h with h;simp only [Prod.mk.injEq]at h;rw [<-h.2.1,List.length_take];omega
    ·injection h with h;simp only [Prod.mk.injEq]at h;rw [<-h.2.1,List.length_take];omega
  ·split at h
   ·split at h
    ·injection h with h;simp only [Prod.mk.injEq]at h;rw [<-h.2.1,List.length_take];omega
    ·cases h
   ·split at h
    ·split at h
     ·cases h
     ·split at h
      ·cases h
      ·injection h with h;simp only [Prod.mk.injEq]at h;rw [<-h.2.1];omega
    ·split at h
     ·injection h with h;simp only [Prod.mk.injEq]at h;rw [<-h.2.1,List.length_take];omega
     ·split at h
      ·injection h with h;simp only [Prod.mk.injEq]at h;rw [<-h.2.1];simp
      ·cases h
theorem MW (M:Nat):∀(f:Nat) (s:Bt) (p:Nat ×Nat) (out:List aD),s.length+256<=M->(∀t∈out,t.text.length<=M)->∀t∈(nO f s p out).1,t.text.length<=M
 |0,s,p,out,hs,ho=>fun t ht=>by cases ht
 |f+1,s,p,out,hs,ho=>by
  rw [nO];split
  ·intro t ht;rcases List.mem_append.1 ht with ht |ht
   ·exact ho t ht
   ·simp only [List.mem_singleton]at ht;subst ht;simp
  ·split
   ·intro t ht;cases ht
   ·rename_i kd t n hn
    split
    ·intro t ht;cases ht
    ·refine MW M f _ _ _ (by simp only [List.length_drop];omega) fun x hx=>?_;rcases List.mem_append.1 hx with hx |hx
     ·exact ho x hx
     ·simp only [List.mem_singleton]at hx;subst hx;have:=Si hn;simp only [List.length_drop]at this;show t.length<=M;omega
theorem Gb {s:Bt}(h:(iU s).2.2.2=0):Oq (iU s).1∧Wf (iU s).1:=by
 have hz:=BO h;obtain⟨m,e,h1,h2,h3,h4,h5⟩:=UH (s:=s) (l:=(iU s).1) (by rw [<-hz]);refine⟨⟨Sd s,?_⟩,h5⟩;by_cases hs:65536<s.length
 ·have:(iU s).1=[]:=by unfold iU;rw [if_pos hs]
  rw [this];simp
 ·unfold iU;rw [if_neg hs];exact MW 100000 _ s _ _ (by omega) (by simp)
abbrev zD (d:DX):Value:= .agg #[.int .i64 0,.int .i64 d.1,.int .i64 d.2.1,.int .i64 d.2.2]
abbrev UK (d:DX):Array Value:= #[.int .i64 0,.int .i64 d.1,.int .i64 d.2.1,.int .i64 d.2.2]
theorem nS {P:Program}{fn:Func}{R:Ending->World->Prop}{t0 t1:Tmp}{T0 T1:TypeId}{dst:Option Tmp}{v:Value}(hr:fn.results= #[.cell t0 T0,.cell t1 T1])(hd:dst≠some t0)(hd1:dst≠some t1)(c:List PanicEntry)(a:Act)(w:World)(h:bodyPostD P fn R (.panic c) (a.put dst v) w):bodyPostD P fn R (.panic c) a w:=by
 cases dst with
 |none=>exact h
 |some d=>
  have hne:d≠t0:=fun e=>hd (by rw [e]);have hne1:d≠t1:=fun e=>hd1 (by rw [e]);have e:results fn (a.tmps.setIfInBounds d v)=results fn a.tmps:=by
   simp [results,hr,Array.getElem?_setIfInBounds_ne hne,Array.getElem?_setIfInBounds_ne hne1]
  exact qF e a.defers _ _ h
theorem dX {P:Program}{fn:Func}{t u:Tmp}{T U:TypeId}{tmps:Array Value}{w:World}{b b':Nat}{cs cs':Array Value}{S S':TypeId}{d d':TypeDesc}(h:fn.results= #[.cell t T,.cell u U])(ht:tmps.getD t undef=.pointer (some ⟨b,0,none⟩))(hu':tmps.getD u undef=.pointer (some ⟨b',0,none⟩))(hb:w.heap[b]? =some (.cells cs S (0,0)))(hb':w.heap[b']? =some (.cells cs' S' (0,0)))
  (hu:P.underlying T=some d) (hd:(match d with |.struct _ |.array _ _=>true |_=>false)=true) (hi:(P.info? T).map (·.size)=some cs.size)
  (hU:P.underlying U=some d') (hd':(match d' with |.struct _ |.array _ _=>true |_=>false)=true) (hi':(P.info? U).map (·.size)=some cs'.size):(results fn tmps).run P w=.ok (.tuple #[.agg cs,.agg cs']) w:=by
 have h1:=run_loadVar_row (P:=P) w b S T cs (0,0) d hb hu hd hi;have h3:=run_loadVar_row (P:=P) w b' S' U cs' (0,0) d' hb' hU hd' hi';have e:tmps[t]?.getD undef=.pointer (some ⟨b,0,none⟩):=by simpa using ht
 have e':tmps[u]?.getD undef=.pointer (some ⟨b',0,none⟩):=by simpa using hu'
 have h2:(asAddr (.pointer (some ⟨b,0,none⟩))).run P w=.ok ⟨b,0,none⟩ w:=rfl;have h2':(asAddr (.pointer (some ⟨b',0,none⟩))).run P w=.ok ⟨b',0,none⟩ w:=rfl;simp [results,h,e,e',h1,h2,h2',h3]
def Lh {α:Type}(q:Pr α):Option α ×DX:=match q with
 |.bad d=>(none,d)
 |.good x _=>(some x,(0,0,0))
theorem zF {α:Type}{p:Ps α}{s:Bt}{T:List aD}(h:iU s=(T,((0,0,0):Nat ×Nat ×Int))):bZ p s=Lh (au p (fun x=>au (fK 0) fun _=>aJ x) T):=by
 unfold bZ;rw [h];rw [if_pos rfl];rcases hq:au p (fun x=>au (fK 0) fun _=>aJ x) T with g |⟨x,r⟩ <;> simp only [hq] <;> rfl
def vQ {α:Type}(p:Ps α)(s:Bt)(zero:α):α:=(bZ p s).1.getD zero
def Au:yS:=⟨[],[]⟩
def vX:bF:= .mk 0 [] 0 0 0 [] [] []
def Ay:bC:= .mk 0 [] [] []
theorem Sj (p q:Addr)(w:World):
  CallsD Tryz.prog 87 #[.pointer (some p),.pointer (some q)] .returning w fun e u' w'=>e=.returned (.tuple #[])∧u'=.returning∧w'=w:=by
 refine callsD_of_wpS Tryz.func87 rfl fun c₀ cs hu=>?_;apply wpS_seq;apply wpS_region;simp [wpOpsS,go_sem,recoverD,hu,Tryz.ntmps87,Exit.thenS];refine wpS_of_wp ?_;change Code.wp _ _ _ { tmps:= #[.pointer (some p),.pointer (some q),.nilIface,undef,undef,undef,.nilIface,undef,undef,undef,undef,undef,undef,undef,undef,undef,undef,undef,undef,undef],defers:=[]} w
 go_wp2
 exact⟨rfl,.returning,by rw [<-hu],.tuple #[],results_none rfl _ _ _,rfl,rfl,rfl⟩
theorem EZ (pb qb:Nat)(hne:pb≠qb)(g:DX)(older:List PanicEntry)(w:World){a0 a1:Value}(hp:w.heap[pb]? =some (.cells #[a0,a1] 40 (0,0)))(hq:w.heap[qb]? =some (.cells #[.int .i64 0,.int .i64 0,.int .i64 0,.int .i64 0] 45 (0,0))):
  CallsD Tryz.prog 87 #[.pointer (some ⟨pb,0,none⟩),.pointer (some ⟨qb,0,none⟩)] (.panicking ({ v:= .iface 146 (zD g),recovered:=false} :: older)) w fun e u' w'=>e=.returned (.tuple #[])∧u'=.panicking ({ v:= .iface 146 (zD g),recovered:=true} :: older)∧
   Turn (fun k=>k=pb∨k=qb) w w'∧w'.heap[pb]? =some (.cells #[.slice none 0 0,.slice none 0 0] 40 (0,0))∧w'.heap[qb]? =some (.cells (UK g) 45 (0,0)):=by
 have hta:∀w:World,(Instr.typeAssert (.iface 146 (zD g)) 20 146 true).run Tryz.prog w=.ok (.tuple #[zD g,.bool true]) w:=fun _=>by kernel_rfl
 have hpl:=block_lt hp;have hql:=block_lt hq;have HP:=aZ hp;have HQ:=aZ hq;clear hp hq;refine callsD_of_wpS Tryz.func87 rfl fun c₀ cs hu=>?_;apply wpS_seq;apply wpS_region;simp [wpOpsS,go_sem,recoverD,hu,Tryz.ntmps87,Exit.thenS];refine wpS_of_wp ?_;change Code.wp _ _ _ { tmps:= #[.pointer (some ⟨pb,0,none⟩),.pointer (some ⟨qb,0,none⟩),.iface 146 (zD g),undef,undef,undef,.iface 146 (zD g),undef,undef,undef,undef,undef,undef,undef,undef,undef,undef,undef,undef,undef],defers:=[]} w;obtain⟨W2,hW2⟩:∃W2,(w.alloc (.cells (UK g) 146)).alloc (.cells #[.slice none 0 0,.slice none 0 0] 40)=W2:=⟨_,rfl⟩
 have hs2:W2.heap.size=w.heap.size+2:=by rw [<-hW2];simp
 obtain⟨tw,_,hbb,hzb⟩:=jC (G:=fun _=>False) (Turn.refl _ ((w.alloc (.cells (UK g) 146)).alloc (.cells #[.slice none 0 0,.slice none 0 0] 40)));rw [hW2]at tw hbb hzb;have HW2:=aZ hW2;have hp2:=ah HP.o tw id;have hq2:=ah HQ.o tw id;have MC:=aZ hp2;have nK:=aZ hq2;have N8:=aZ tw;obtain⟨b0,b1,b2,b3,bz⟩:=dA (hbb id);have hz2:=hzb id;have HZ2:=aZ hz2;clear hW2 tw hbb hzb;go_wp2_with fail;rw [HW2.o];have HD0:bR (Turn (fun j=>j=pb∨j=qb) W2 W2.drew):=aZ ⟨rfl,rfl,rfl,Nat.le_refl _,fun _ _ _=>rfl⟩;have PZ:=aZ (fun(w':World) (h:Turn (fun j=>j=pb∨j=qb) W2 w')=>(⟨aO ((cell_of_row _ _ 0 _ _ _ hz2).trans rfl) h (by omega),aO ((cell_of_row _ _ 1 _ _ _ hz2).trans rfl) h (by omega)⟩:w'.cell? ⟨w.heap.size+1,0,none⟩=some (.slice none 0 0)∧w'.cell? ⟨w.heap.size+1,1,none⟩=some (.slice none 0 0)));have PB:=aZ (fun(w':World) (h:Turn (fun j=>j=pb∨j=qb) W2 w')=>(⟨aO b0 h (by omega),aO b1 h (by omega),aO b2 h (by omega),aO b3 h (by omega)⟩:w'.cell? ⟨w.heap.size,0,none⟩=some (.int .i64 0)∧w'.cell? ⟨w.heap.size,1,none⟩=some (.int .i64 g.1)∧w'.cell? ⟨w.heap.size,2,none⟩=some (.int .i64 g.2.1)∧w'.cell? ⟨w.heap.size,3,none⟩=some (.int .i64 g.2.2)));clear hz2 b0 b1 b2 b3 bz;refine dn (S:=fun w'=>Turn (fun j=>j=pb∨j=qb) W2 w') (x:=4) (by kernel_rfl) ?_
 try simp only [Act.put,sq]
 refine nM 0 (.agg #[.slice none 0 0,.slice none 0 0]) PZ.o HD0.o ?_;refine tx 1 (.pointer (some ⟨w.heap.size,0,none⟩)) HD0.o ?_;refine nM 2 (zD g) PB.o HD0.o ?_;have pQ:∀X:World,X.drew.heap=X.heap:=fun _=>rfl;have hdr:∀(G:Nat->Prop) (X:World),Turn G X X.drew:=fun _ _=>⟨rfl,rfl,rfl,Nat.le_refl _,fun _ _ _=>rfl⟩
 have tA:=((ak W2 (pb) 0 (.slice none 0 0)).trans (ak _ (pb) 1 (.slice none 0 0)) (fun _ _ h=>h))
 have VK:((W2.setCell ⟨pb,0,none⟩ (.slice none 0 0)).setCell ⟨pb,1,none⟩ (.slice none 0 0)).heap[pb]? =some (.cells #[.slice none 0 0,.slice none 0 0] 40 (0,0)):=(heap_setCell_same _ _ 1 _ _ (.slice none 0 0) (heap_setCell_same _ _ 0 _ _ (.slice none 0 0) MC.o))
 have VL:=ah nK.o tA (fun e=>hne e.symm);have K5:=aZ (tA.mono (G:=fun k=>k=pb∨k=qb) (fun _ _ h=>.inl h));have tO:=aZ (K5.o.trans (hdr (fun k=>k=pb∨k=qb) _) (fun _ _ h=>h));have HPA:=aZ VK;have O9:=aZ VL;have p0:W2.cell? ⟨pb,0,none⟩=some a0:=(cell_of_row _ _ 0 _ _ _ hp2).trans rfl;have p1:W2.cell? ⟨pb,1,none⟩=some a1:=(cell_of_row _ _ 1 _ _ _ hp2).trans rfl;have pz:∀i,W2.frozen? ⟨pb,i,none⟩=false:=fun i=>frozen_of_row _ _ _ _ _ hp2;have q0:W2.cell? ⟨qb,0,none⟩=some (.int .i64 0):=(cell_of_row _ _ 0 _ _ _ hq2).trans rfl;have q1:W2.cell? ⟨qb,1,none⟩=some (.int .i64 0):=(cell_of_row _ _ 1 _ _ _ hq2).trans rfl;have q2:W2.cell? ⟨qb,2,none⟩=some (.int .i64 0):=(cell_of_row _ _ 2 _ _ _ hq2).trans rfl;have q3:W2.cell? ⟨qb,3,none⟩=some (.int .i64 0):=(cell_of_row _ _ 3 _ _ _ hq2).trans rfl;have qz:∀i,W2.frozen? ⟨qb,i,none⟩=false:=fun i=>frozen_of_row _ _ _ _ _ hq2;have hne':¬qb=pb:=fun e=>hne e.symm;clear tA VK VL hp2 hq2;refine ay (rs:=[3]) (by kernel_rfl) (by simp) ?_;refine av.cons rfl (fun K hK=>?_) (av.nil);go_simp;refine hK.out _ _ tO.o ?_;clear hK K
 try simp only [Act.put,sq]
 refine ay (rs:=[4]) (by kernel_rfl) (by simp) ?_;refine av.past rfl (by kernel_rfl) (fun K hK=>?_) (av.nil);go_simp;refine hK.out _ _ ?_;clear hK K
 try simp only [Act.put,sq]
 refine aV (by kernel_rfl) ?_ _;go_wp2_with fail;have tB:=((((ak ((W2.setCell ⟨pb,0,none⟩ (.slice none 0 0)).setCell ⟨pb,1,none⟩ (.slice none 0 0)) (qb) 0 (.int .i64 0)).trans (ak _ (qb) 1 (.int .i64 g.1)) (fun _ _ h=>h)).trans (ak _ (qb) 2 (.int .i64 g.2.1)) (fun _ _ h=>h)).trans (ak _ (qb) 3 (.int .i64 g.2.2)) (fun _ _ h=>h))
 have h1:=(N8.o.mono (G:=fun k=>k=pb∨k=qb) (fun _ _ h=>h.elim)).trans ((K5.o.trans tB (fun _ _ h=>.inr h)).trans (hdr (fun k=>k=pb∨k=qb) _) (fun _ _ h=>h)) (fun _ _ h=>h);have h2:=ah HPA.o tB hne;have h3:=(bA (b:=qb) O9.o (.int .i64 0) (.int .i64 g.1) (.int .i64 g.2.1) (.int .i64 g.2.2))
 refine⟨rfl,_,rfl,.tuple #[],results_none rfl _ _ _,rfl,rfl,h1,?_,?_⟩
 ·rw [pQ];exact h2
 ·rw [pQ];exact h3
theorem UL (w:World)(s:Bt)(hX:mY w):Calls Tryz.prog 44 #[sv s,.func (.func 45) #[] #[]] w fun e w'=>Below w.heap.size w w'∧∃z:List Value,e=.returned (.tuple #[.agg z.toArray,zD (bZ fq s).2])∧MR w' (fun j=>w.heap.size<=j) z (vQ fq s Au):=by
 have Mh:∀(fn:Fn) (first cap:Array Value) (w:World),(Instr.makeFunc fn first cap).run Tryz.prog w=.ok (.func fn first cap) w:=fun _ _ _ _=>rfl;have hent:∀w:World,(callFunc 45 #[]).run Tryz.prog w=.ok (.enter 45 #[]) w:=fun _=>by kernel_rfl
 have pQ:∀X:World,X.drew.heap=X.heap:=fun _=>rfl;have hdr:∀(G:Nat->Prop) (X:World),Turn G X X.drew:=fun _ _=>⟨rfl,rfl,rfl,Nat.le_refl _,fun _ _ _=>rfl⟩
 obtain⟨W0,hW0⟩:∃W0,((w.alloc (.cells #[.slice none 0 0,.slice none 0 0] 40)).alloc (.cells #[.int .i64 0,.int .i64 0,.int .i64 0,.int .i64 0] 45))=W0:=⟨_,rfl⟩
 obtain⟨tw,_,hx0,hd0⟩:=jC (G:=fun _=>False) (Turn.refl _ ((w.alloc (.cells #[.slice none 0 0,.slice none 0 0] 40)).alloc (.cells #[.int .i64 0,.int .i64 0,.int .i64 0,.int .i64 0] 45)));have hs0:W0.heap.size=w.heap.size+2:=by rw [<-hW0];simp
 have hb0:Below w.heap.size w W0:=by rw [<-hW0];exact new2 _ _ _
 rw [hW0]at tw hx0 hd0;have hx0:=hx0 id;have hd0:=hd0 id;have HX0:=aZ hx0;have HD0:=aZ hd0;have HB0:=aZ hb0;have MS:=aZ ((rD.of hX.1).below hb0);have HL:=aZ (FE W0 s (hX.below hb0));have HW0:=aZ hW0;obtain⟨Dg,yE⟩:∃Dg,(bZ fq s).2=Dg:=⟨_,rfl⟩
 obtain⟨V,hV⟩:∃V,vQ fq s Au=V:=⟨_,rfl⟩
 rw [yE,hV];clear hX tw hx0 hd0 hb0 hW0;by_cases hE:(iU s).2.2.2=0
 ·have hz:=BO hE;obtain⟨T,hT⟩:∃T,iU s=(T,((0,0,0):Nat ×Nat ×Int)):=⟨(iU s).1,by rw [<-hz]⟩
  obtain⟨htk,hwf⟩:=Gb hE;rw [hT]at HL htk hwf;have VN:bR (bZ fq s=Lh (au fq (fun x=>au (fK 0) fun _=>aJ x) T)):=aZ (zF hT);have Sk:=aZ yE;have HV:=aZ hV;have Cu:=aZ htk;have Ej:=aZ hwf;clear hE hz hT htk hwf yE hV
  go_enter_defers Tryz.func44,Tryz.ntmps44
  go_wp2_with fail;rw [HW0.o];refine(HL.o).mono ?_;rintro e w1 ⟨v1,n1,rfl,hown,hb1⟩;obtain⟨Dv,c1',rfl,_,_⟩:=lM hown;have hs1:=hb1.size;have hx1:=(hb1.block (w.heap.size) (by omega)).trans HX0.o;have hd1:=(hb1.block (w.heap.size+1) (by omega)).trans HD0.o;have HB1:=aZ (HB0.o.trans (hb1.mono (by omega)));have Jf:=aZ (MS.o.below (hb1.mono (by omega)));obtain⟨x0,x1,x2,x3,xz⟩:=dA hd1;have t1:=eO w1 (w.heap.size+1) (.int .i64 0) (.int .i64 0) (.int .i64 0) (.int .i64 0);have vR:=aZ (ah hx1 t1 (by omega));have HD1:=aZ (bA hd1 (.int .i64 0) (.int .i64 0) (.int .i64 0) (.int .i64 0));have HT1:=aZ t1;have hsp:(dW w1 (w.heap.size+1) (.int .i64 0) (.int .i64 0) (.int .i64 0) (.int .i64 0)).heap.size=w1.heap.size:=by simp [dW]
  have HOWN:=aZ hown;rw [show Ck (0,0,0)=.agg #[.int .i64 0,.int .i64 0,.int .i64 0,.int .i64 0]from rfl];obtain⟨W2,hW2⟩:∃W2,(dW w1 (w.heap.size+1) (.int .i64 0) (.int .i64 0) (.int .i64 0) (.int .i64 0)).alloc (.cells #[.slice Dv n1 c1',.int .i64 0] 151)=W2:=⟨_,rfl⟩
  have t2:Turn (fun k=>k=w.heap.size+1) w1 W2:=by rw [<-hW2];exact t1.trans (Turn.alloc _ _ _) (fun _ _ h=>h)
  have hb2:=Dc (dW w1 (w.heap.size+1) (.int .i64 0) (.int .i64 0) (.int .i64 0) (.int .i64 0)) (.cells #[.slice Dv n1 c1',.int .i64 0] 151);rw [hW2,hsp]at hb2;have hs2:W2.heap.size=w1.heap.size+1:=by rw [<-hW2];simp [dW]
  have VO:=aZ (by have:=bV (o':=(.cells #[.slice Dv n1 c1',.int .i64 0] 151)) vR.o;rwa [hW2]at this);have HD2:=aZ (by have:=bV (o':=(.cells #[.slice Dv n1 c1',.int .i64 0] 151)) HD1.o;rwa [hW2]at this);have hsl:Sl W2 w1.heap.size 4 (.slice Dv n1 c1') (eF T):=((eD.own (F:=fun j=>W0.heap.size<=j∧j<w1.heap.size) hown (fun g hg=>hown.lt g hg)).turn t2 (fun g _ h e=>by have:=h.1;omega)).to (fun g _ h=>h.2);have htb:C9 w1.heap.size W2 (.slice Dv n1 c1'):=fun b o n c e=>by
   injection e with e _ _;subst e;rcases hown.2 with⟨h,_⟩ |⟨g,cap,cur,h,hg,VQ,_⟩
   ·injection h with h;cases h
   ·injection h with h _ _;injection h with h;injection h with h _;subst h;exact⟨block_lt VQ,_,ah VQ t2 (by omega)⟩
  have Jg:=aZ (Jf.o.below (t2.below (by omega) (fun k hk e=>by omega)));have HK:=aZ (show bX W2 w1.heap.size w1.heap.size T 0 from⟨Nat.le_refl _,Cu.o,Ej.o,_,hb2,hsl,fun w' hb'=>Jg.o w' (fun k hk=>hb' k (by omega)),htb⟩);have HT2:=aZ (HB1.o.trans (t2.below (B:=w.heap.size) (by omega) (fun k hk e=>by omega)));have HR:=aZ (Lg W2 w1.heap.size w1.heap.size T HK.o);have HW2:=aZ hW2;clear hown hb1 hx1 hd1 t1 t2 hb2 hsl hW2 HOWN htb;go_wp2_with fail;rw [HW2.o];refine(HR.o).mono ?_;rintro e w3 h3;rcases hq:fq T with g |⟨x,r3⟩
  ·obtain⟨rfl,tn,bn⟩:=h3.bY hq;have yL:bR (bZ fq s=(none,g)):=aZ (by rw [VN.o,aB hq];rfl);have Sm:=aZ (ah VO.o tn (by omega));have Sn:=aZ (ah HD2.o tn (by omega));have Jh:=aZ (HT2.o.trans (tn.below (B:=w.heap.size) (by omega) (fun k hk e=>by omega)));clear h3 tn bn hq;go_wp2_with fail;refine leaves_cons (f:=87) (args:= #[.pointer (some ⟨w.heap.size,0,none⟩),.pointer (some ⟨w.heap.size+1,0,none⟩)]) (by simp) (by simp [go_sem]) ?_;refine(EZ w.heap.size (w.heap.size+1) (by omega) g [] _ Sm.o Sn.o).mono ?_;rintro e u9 w9 ⟨rfl,rfl,t9,p9,q9⟩;have e1:Dg=g:=by rw [<-Sk.o,yL.o]
   have e2:V=Au:=by rw [<-HV.o];unfold vQ;rw [yL.o];rfl
   subst e1 e2;exact⟨_,dX rfl rfl rfl p9 q9 Tryz.underlying40 rfl (by kernel_rfl) Tryz.underlying45 rfl (by kernel_rfl),Jh.o.trans (t9.below (by have:=Jh.o.size;omega) (fun k hk e=>by omega)),_,rfl,⟨_,_,_,_,rfl,eD.nil _ _ _,.nil,eD.nil _ _ _,.nil⟩⟩
  ·obtain⟨v3,rfl,tn,⟨z0,rfl,hz0⟩,kn⟩:=h3.aR hq;have hzc:=hz0;obtain⟨vi,xi,vd,xd,rfl,⟨A1,n1',c1,rfl,_⟩,_,⟨A2,n2,c2,rfl,_⟩,_⟩:=hzc;have hs3:=tn.size;have hx3:=ah VO.o tn (by omega);have hd3:=ah HD2.o tn (by omega);have t4:Turn (fun k=>k=w.heap.size) w3 ((w3.setCell ⟨w.heap.size,0,none⟩ (.slice A1 n1' c1)).setCell ⟨w.heap.size,1,none⟩ (.slice A2 n2 c2)):=((ak w3 (w.heap.size) 0 (.slice A1 n1' c1)).trans (ak _ (w.heap.size) 1 (.slice A2 n2 c2)) (fun _ _ h=>h))
   have CS:=aZ ((heap_setCell_same _ _ 1 _ _ (.slice A2 n2 c2) (heap_setCell_same _ _ 0 _ _ (.slice A1 n1' c1) hx3)));have HD4:=aZ (ah hd3 t4 (by omega));have Sq:=aZ ((Jg.o.below (tn.below (by omega) (fun k hk e=>by omega))).below (t4.below (by omega) (fun k hk e=>by omega)));have mR:=aZ (kn.apart t4 (by omega) (fun g e _=>by have e:g=w.heap.size:=e;subst e;exact⟨_,_,hx3,by decide⟩) (fun w' hb'=>Sq.o w' (fun k hk=>hb' k (by omega))));have iX:=aZ (HT2.o.trans ((tn.below (B:=w.heap.size) (by omega) (fun k hk e=>by omega)).trans (t4.below (B:=w.heap.size) (by omega) (fun k hk e=>by omega))));have zu:=aZ (hz0.turn t4 (fun g _ h e=>by omega));have VR:bR (bZ fq s=Lh (au (fK 0) (fun _=>aJ x) r3)):=aZ (by rw [VN.o,aj hq]);have WJ:=aZ (rE ((w3.setCell ⟨w.heap.size,0,none⟩ (.slice A1 n1' c1)).setCell ⟨w.heap.size,1,none⟩ (.slice A2 n2 c2)) w1.heap.size w1.heap.size r3 0 mR.o 0);have u0:w3.cell? ⟨w.heap.size,0,none⟩=some (.slice none 0 0):=(cell_of_row _ _ 0 _ _ _ hx3).trans rfl;have u1:w3.cell? ⟨w.heap.size,1,none⟩=some (.slice none 0 0):=(cell_of_row _ _ 1 _ _ _ hx3).trans rfl;have uz:∀i,w3.frozen? ⟨w.heap.size,i,none⟩=false:=fun i=>frozen_of_row _ _ _ _ _ hx3;clear h3 tn kn hz0 hq hx3 hd3 t4;go_wp2_with fail;refine(WJ.o).mono ?_;rintro e w5 h5;rcases hq:fK 0 r3 with g |⟨sx,r5⟩
   ·obtain⟨rfl,tn,bn⟩:=h5.bY hq;have yL:bR (bZ fq s=(none,g)):=aZ (by rw [VR.o,aB hq];rfl);have Sm:=aZ (ah CS.o tn (by omega));have Sn:=aZ (ah HD4.o tn (by omega));have Jh:=aZ (iX.o.trans (tn.below (B:=w.heap.size) (by have:=iX.o.size;omega) (fun k hk e=>by omega)));clear h5 tn bn hq;go_wp2_with fail;refine leaves_cons (f:=87) (args:= #[.pointer (some ⟨w.heap.size,0,none⟩),.pointer (some ⟨w.heap.size+1,0,none⟩)]) (by simp) (by simp [go_sem]) ?_;refine(EZ w.heap.size (w.heap.size+1) (by omega) g [] _ Sm.o Sn.o).mono ?_;rintro e u9 w9 ⟨rfl,rfl,t9,p9,q9⟩;have e1:Dg=g:=by rw [<-Sk.o,yL.o]
    have e2:V=Au:=by rw [<-HV.o];unfold vQ;rw [yL.o];rfl
    subst e1 e2;exact⟨_,dX rfl rfl rfl p9 q9 Tryz.underlying40 rfl (by kernel_rfl) Tryz.underlying45 rfl (by kernel_rfl),Jh.o.trans (t9.below (by have:=Jh.o.size;omega) (fun k hk e=>by omega)),_,rfl,⟨_,_,_,_,rfl,eD.nil _ _ _,.nil,eD.nil _ _ _,.nil⟩⟩
   ·obtain⟨v5,rfl,tn,-,kn⟩:=h5.aR hq;have yL:bR (bZ fq s=(some x,(0,0,0))):=aZ (by rw [VR.o,aj hq];rfl);have Bo:=aZ (ah CS.o tn (by omega));have HD5:=aZ (ah HD4.o tn (by omega));have iQ:=aZ (iX.o.trans (tn.below (B:=w.heap.size) (by have:=iX.o.size;omega) (fun k hk e=>by omega)));have zZ:=aZ (zu.o.turn tn (fun g _ h e=>by omega));clear h5 tn kn hq uz u0 u1;have PX:=aZ (fun(w':World) (h:w'.heap[w.heap.size]? =some (.cells #[.slice A1 n1' c1,.slice A2 n2 c2] 40 (0,0))∧w'.heap[w.heap.size+1]? =some (.cells #[.int .i64 0,.int .i64 0,.int .i64 0,.int .i64 0] 45 (0,0)))=>(⟨(cell_of_row _ _ _ _ _ _ h.1).trans rfl,(cell_of_row _ _ _ _ _ _ h.1).trans rfl⟩:w'.cell? ⟨w.heap.size,0,none⟩=some (.slice A1 n1' c1)∧w'.cell? ⟨w.heap.size,1,none⟩=some (.slice A2 n2 c2)));have PD:=aZ (fun(w':World) (h:w'.heap[w.heap.size]? =some (.cells #[.slice A1 n1' c1,.slice A2 n2 c2] 40 (0,0))∧w'.heap[w.heap.size+1]? =some (.cells #[.int .i64 0,.int .i64 0,.int .i64 0,.int .i64 0] 45 (0,0)))=>(⟨(cell_of_row _ _ _ _ _ _ h.2).trans rfl,(cell_of_row _ _ _ _ _ _ h.2).trans rfl,(cell_of_row _ _ _ _ _ _ h.2).trans rfl,(cell_of_row _ _ _ _ _ _ h.2).trans rfl⟩:w'.cell? ⟨w.heap.size+1,0,none⟩=some (.int .i64 0)∧w'.cell? ⟨w.heap.size+1,1,none⟩=some (.int .i64 0)∧w'.cell? ⟨w.heap.size+1,2,none⟩=some (.int .i64 0)∧w'.cell? ⟨w.heap.size+1,3,none⟩=some (.int .i64 0)));have Ep:bR (w5.drew.heap[w.heap.size]? =some (.cells #[.slice A1 n1' c1,.slice A2 n2 c2] 40 (0,0))∧w5.drew.heap[w.heap.size+1]? =some (.cells #[.int .i64 0,.int .i64 0,.int .i64 0,.int .i64 0] 45 (0,0))):=aZ ⟨by rw [pQ];exact Bo.o,by rw [pQ];exact HD5.o⟩;have ka0:w5.cell? ⟨w.heap.size,0,none⟩=some (.slice A1 n1' c1):=(cell_of_row _ _ 0 _ _ _ Bo.o).trans rfl
    have ka1:w5.cell? ⟨w.heap.size,1,none⟩=some (.slice A2 n2 c2):=(cell_of_row _ _ 1 _ _ _ Bo.o).trans rfl;have kaz:∀i,w5.frozen? ⟨w.heap.size,i,none⟩=false:=fun i=>frozen_of_row _ _ _ _ _ Bo.o;have la0:w5.cell? ⟨w.heap.size+1,0,none⟩=some (.int .i64 0):=(cell_of_row _ _ 0 _ _ _ HD5.o).trans rfl;have la1:w5.cell? ⟨w.heap.size+1,1,none⟩=some (.int .i64 0):=(cell_of_row _ _ 1 _ _ _ HD5.o).trans rfl;have la2:w5.cell? ⟨w.heap.size+1,2,none⟩=some (.int .i64 0):=(cell_of_row _ _ 2 _ _ _ HD5.o).trans rfl;have la3:w5.cell? ⟨w.heap.size+1,3,none⟩=some (.int .i64 0):=(cell_of_row _ _ 3 _ _ _ HD5.o).trans rfl;have laz:∀i,w5.frozen? ⟨w.heap.size+1,i,none⟩=false:=fun i=>frozen_of_row _ _ _ _ _ HD5.o;have tA:=((ak w5 (w.heap.size) 0 (.slice A1 n1' c1)).trans (ak _ (w.heap.size) 1 (.slice A2 n2 c2)) (fun _ _ h=>h))
    have vY:=(heap_setCell_same _ _ 1 _ _ (.slice A2 n2 c2) (heap_setCell_same _ _ 0 _ _ (.slice A1 n1' c1) Bo.o))
    have vZ:=ah HD5.o tA (by omega);have tB:=((((ak ((w5.setCell ⟨w.heap.size,0,none⟩ (.slice A1 n1' c1)).setCell ⟨w.heap.size,1,none⟩ (.slice A2 n2 c2)) (w.heap.size+1) 0 (.int .i64 0)).trans (ak _ (w.heap.size+1) 1 (.int .i64 0)) (fun _ _ h=>h)).trans (ak _ (w.heap.size+1) 2 (.int .i64 0)) (fun _ _ h=>h)).trans (ak _ (w.heap.size+1) 3 (.int .i64 0)) (fun _ _ h=>h))
    have HXB:=aZ (ah vY tB (by omega));have mP:=aZ ((bA (b:=w.heap.size+1) vZ (.int .i64 0) (.int .i64 0) (.int .i64 0) (.int .i64 0)));have nJ:=aZ ((tA.mono (G:=fun k=>k=w.heap.size∨k=w.heap.size+1) (fun _ _ h=>.inl h)).trans tB (fun _ _ h=>.inr h));have tO:bR (((w5.setCell ⟨w.heap.size,0,none⟩ (.slice A1 n1' c1)).setCell ⟨w.heap.size,1,none⟩ (.slice A2 n2 c2)).drew.heap[w.heap.size]? =some (.cells #[.slice A1 n1' c1,.slice A2 n2 c2] 40 (0,0))∧((w5.setCell ⟨w.heap.size,0,none⟩ (.slice A1 n1' c1)).setCell ⟨w.heap.size,1,none⟩ (.slice A2 n2 c2)).drew.heap[w.heap.size+1]? =some (.cells #[.int .i64 0,.int .i64 0,.int .i64 0,.int .i64 0] 45 (0,0))):=aZ ⟨by rw [pQ];exact vY,by rw [pQ];exact vZ⟩;clear tA vY vZ tB;go_wp2_with fail;refine dn (S:=fun w'=>w'.heap[w.heap.size]? =some (.cells #[.slice A1 n1' c1,.slice A2 n2 c2] 40 (0,0))∧w'.heap[w.heap.size+1]? =some (.cells #[.int .i64 0,.int .i64 0,.int .i64 0,.int .i64 0] 45 (0,0))) (x:=3) (by kernel_rfl) ?_
    try simp only [Act.put,sq]
    refine nM 0 (.agg #[.slice A1 n1' c1,.slice A2 n2 c2]) PX.o Ep.o (hQ:=nS rfl (by decide) (by decide)) ?_;refine nM 1 (.agg #[.int .i64 0,.int .i64 0,.int .i64 0,.int .i64 0]) PD.o Ep.o (hQ:=nS rfl (by decide) (by decide)) ?_;refine ay (rs:=[2]) (by kernel_rfl) (by simp) ?_;refine av.cons rfl (fun K hK=>?_) (av.nil);go_simp;refine hK.out _ _ tO.o ?_;clear hK K
    try simp only [Act.put,sq]
    refine ay (rs:=[3]) (by kernel_rfl) (by simp) ?_;refine av.past rfl (by kernel_rfl) (fun K hK=>?_) (av.nil);go_simp;refine hK.out _ _ ?_;clear hK K
    try simp only [Act.put,sq]
    refine aV (by kernel_rfl) ?_ _;go_wp2_with fail;refine leaves_cons (f:=87) (args:= #[.pointer (some ⟨w.heap.size,0,none⟩),.pointer (some ⟨w.heap.size+1,0,none⟩)]) (by simp) (by simp [go_sem]) ?_;refine(Sj _ _ _).mono ?_;rintro e u9 w9 ⟨rfl,rfl,rfl⟩;have e1:Dg=(0,0,0):=by rw [<-Sk.o,yL.o]
    have e2:V=x:=by rw [<-HV.o];unfold vQ;rw [yL.o];rfl
    subst e1 e2;have UF:=(zZ.o.turn nJ.o (fun g _ h e=>by omega)).turn (hdr (fun _=>False) _) (fun _ _ _=>id);have Cv:=(iQ.o.trans (nJ.o.below (B:=w.heap.size) (by have:=iQ.o.size;omega) (fun k hk e=>by omega))).trans ((hdr (fun _=>False) _).below (by have:=iQ.o.size;have:=nJ.o.size;omega) (fun _ _=>id));exact⟨_,dX rfl rfl rfl (by rw [pQ];exact HXB.o) (by rw [pQ];exact mP.o) Tryz.underlying40 rfl (by kernel_rfl) Tryz.underlying45 rfl (by kernel_rfl),Cv,_,rfl,UF.mono (fun g _ h=>by omega)⟩
 ·have Sr:bZ fq s=(none,(iU s).2):=by unfold bZ;rw [if_neg hE]
  have e1:Dg=(iU s).2:=by rw [<-yE,Sr]
  have e2:V=Au:=by rw [<-hV];unfold vQ;rw [Sr];rfl
  subst e2;obtain⟨T,D1,hT⟩:∃T D1,iU s=(T,D1):=⟨_,_,rfl⟩
  rw [hT]at HL e1 hE;have e1:=e1.symm;subst e1;have hE1:(D1.2.2 != 0)=true:=by simpa using hE
  clear hE Sr yE hV hT
  go_enter_defers Tryz.func44,Tryz.ntmps44
  go_wp2_with fail;rw [HW0.o];have VT:Ck D1=.agg #[.int .i64 0,.int .i64 D1.1,.int .i64 D1.2.1,.int .i64 D1.2.2]:=rfl;refine(HL.o).mono ?_;rintro e w1 ⟨v1,n1,rfl,hown,hb1⟩;obtain⟨Dv,c1',rfl,_,_⟩:=lM hown;have hs1:=hb1.size;have hx1:=(hb1.block (w.heap.size) (by omega)).trans HX0.o;have hd1:=(hb1.block (w.heap.size+1) (by omega)).trans HD0.o;have HB1:=aZ (HB0.o.trans (hb1.mono (by omega)));have Jf:=aZ (MS.o.below (hb1.mono (by omega)));obtain⟨x0,x1,x2,x3,xz⟩:=dA hd1;have t1:=eO w1 (w.heap.size+1) (.int .i64 0) (.int .i64 D1.1) (.int .i64 D1.2.1) (.int .i64 D1.2.2);have vR:=aZ (ah hx1 t1 (by omega));have HD1:=aZ (bA hd1 (.int .i64 0) (.int .i64 D1.1) (.int .i64 D1.2.1) (.int .i64 D1.2.2));have HT1:=aZ t1;have hsp:(dW w1 (w.heap.size+1) (.int .i64 0) (.int .i64 D1.1) (.int .i64 D1.2.1) (.int .i64 D1.2.2)).heap.size=w1.heap.size:=by simp [dW]
  have HOWN:=aZ hown;rw [VT];clear hown hb1 hx1 hd1 t1 VT;have PX:=aZ (fun(w':World) (h:w'.heap[w.heap.size]? =some (.cells #[.slice none 0 0,.slice none 0 0] 40 (0,0))∧w'.heap[w.heap.size+1]? =some (.cells #[.int .i64 0,.int .i64 D1.1,.int .i64 D1.2.1,.int .i64 D1.2.2] 45 (0,0)))=>(⟨(cell_of_row _ _ _ _ _ _ h.1).trans rfl,(cell_of_row _ _ _ _ _ _ h.1).trans rfl⟩:w'.cell? ⟨w.heap.size,0,none⟩=some (.slice none 0 0)∧w'.cell? ⟨w.heap.size,1,none⟩=some (.slice none 0 0)));have PD:=aZ (fun(w':World) (h:w'.heap[w.heap.size]? =some (.cells #[.slice none 0 0,.slice none 0 0] 40 (0,0))∧w'.heap[w.heap.size+1]? =some (.cells #[.int .i64 0,.int .i64 D1.1,.int .i64 D1.2.1,.int .i64 D1.2.2] 45 (0,0)))=>(⟨(cell_of_row _ _ _ _ _ _ h.2).trans rfl,(cell_of_row _ _ _ _ _ _ h.2).trans rfl,(cell_of_row _ _ _ _ _ _ h.2).trans rfl,(cell_of_row _ _ _ _ _ _ h.2).trans rfl⟩:w'.cell? ⟨w.heap.size+1,0,none⟩=some (.int .i64 0)∧w'.cell? ⟨w.heap.size+1,1,none⟩=some (.int .i64 D1.1)∧w'.cell? ⟨w.heap.size+1,2,none⟩=some (.int .i64 D1.2.1)∧w'.cell? ⟨w.heap.size+1,3,none⟩=some (.int .i64 D1.2.2)));have Ep:bR ((dW w1 (w.heap.size+1) (.int .i64 0) (.int .i64 D1.1) (.int .i64 D1.2.1) (.int .i64 D1.2.2)).drew.heap[w.heap.size]? =some (.cells #[.slice none 0 0,.slice none 0 0] 40 (0,0))∧(dW w1 (w.heap.size+1) (.int .i64 0) (.int .i64 D1.1) (.int .i64 D1.2.1) (.int .i64 D1.2.2)).drew.heap[w.heap.size+1]? =some (.cells #[.int .i64 0,.int .i64 D1.1,.int .i64 D1.2.1,.int .i64 D1.2.2] 45 (0,0))):=aZ ⟨by rw [pQ];exact vR.o,by rw [pQ];exact HD1.o⟩
  have ka0:(dW w1 (w.heap.size+1) (.int .i64 0) (.int .i64 D1.1) (.int .i64 D1.2.1) (.int .i64 D1.2.2)).cell? ⟨w.heap.size,0,none⟩=some (.slice none 0 0):=(cell_of_row _ _ 0 _ _ _ vR.o).trans rfl;have ka1:(dW w1 (w.heap.size+1) (.int .i64 0) (.int .i64 D1.1) (.int .i64 D1.2.1) (.int .i64 D1.2.2)).cell? ⟨w.heap.size,1,none⟩=some (.slice none 0 0):=(cell_of_row _ _ 1 _ _ _ vR.o).trans rfl;have kaz:∀i,(dW w1 (w.heap.size+1) (.int .i64 0) (.int .i64 D1.1) (.int .i64 D1.2.1) (.int .i64 D1.2.2)).frozen? ⟨w.heap.size,i,none⟩=false:=fun i=>frozen_of_row _ _ _ _ _ vR.o;have la0:(dW w1 (w.heap.size+1) (.int .i64 0) (.int .i64 D1.1) (.int .i64 D1.2.1) (.int .i64 D1.2.2)).cell? ⟨w.heap.size+1,0,none⟩=some (.int .i64 0):=(cell_of_row _ _ 0 _ _ _ HD1.o).trans rfl;have la1:(dW w1 (w.heap.size+1) (.int .i64 0) (.int .i64 D1.1) (.int .i64 D1.2.1) (.int .i64 D1.2.2)).cell? ⟨w.heap.size+1,1,none⟩=some (.int .i64 D1.1):=(cell_of_row _ _ 1 _ _ _ HD1.o).trans rfl;have la2:(dW w1 (w.heap.size+1) (.int .i64 0) (.int .i64 D1.1) (.int .i64 D1.2.1) (.int .i64 D1.2.2)).cell? ⟨w.heap.size+1,2,none⟩=some (.int .i64 D1.2.1):=(cell_of_row _ _ 2 _ _ _ HD1.o).trans rfl;have la3:(dW w1 (w.heap.size+1) (.int .i64 0) (.int .i64 D1.1) (.int .i64 D1.2.1) (.int .i64 D1.2.2)).cell? ⟨w.heap.size+1,3,none⟩=some (.int .i64 D1.2.2):=(cell_of_row _ _ 3 _ _ _ HD1.o).trans rfl;have laz:∀i,(dW w1 (w.heap.size+1) (.int .i64 0) (.int .i64 D1.1) (.int .i64 D1.2.1) (.int .i64 D1.2.2)).frozen? ⟨w.heap.size+1,i,none⟩=false:=fun i=>frozen_of_row _ _ _ _ _ HD1.o
  have tA:=((ak (dW w1 (w.heap.size+1) (.int .i64 0) (.int .i64 D1.1) (.int .i64 D1.2.1) (.int .i64 D1.2.2)) (w.heap.size) 0 (.slice none 0 0)).trans (ak _ (w.heap.size) 1 (.slice none 0 0)) (fun _ _ h=>h))
  have vY:=(heap_setCell_same _ _ 1 _ _ (.slice none 0 0) (heap_setCell_same _ _ 0 _ _ (.slice none 0 0) vR.o))
  have vZ:=ah HD1.o tA (by omega);have tB:=((((ak (((dW w1 (w.heap.size+1) (.int .i64 0) (.int .i64 D1.1) (.int .i64 D1.2.1) (.int .i64 D1.2.2)).setCell ⟨w.heap.size,0,none⟩ (.slice none 0 0)).setCell ⟨w.heap.size,1,none⟩ (.slice none 0 0)) (w.heap.size+1) 0 (.int .i64 0)).trans (ak _ (w.heap.size+1) 1 (.int .i64 D1.1)) (fun _ _ h=>h)).trans (ak _ (w.heap.size+1) 2 (.int .i64 D1.2.1)) (fun _ _ h=>h)).trans (ak _ (w.heap.size+1) 3 (.int .i64 D1.2.2)) (fun _ _ h=>h))
  have HXB:=aZ (ah vY tB (by omega));have mP:=aZ ((bA (b:=w.heap.size+1) vZ (.int .i64 0) (.int .i64 D1.1) (.int .i64 D1.2.1) (.int .i64 D1.2.2)));have nJ:=aZ ((tA.mono (G:=fun k=>k=w.heap.size∨k=w.heap.size+1) (fun _ _ h=>.inl h)).trans tB (fun _ _ h=>.inr h));have tO:bR ((((dW w1 (w.heap.size+1) (.int .i64 0) (.int .i64 D1.1) (.int .i64 D1.2.1) (.int .i64 D1.2.2)).setCell ⟨w.heap.size,0,none⟩ (.slice none 0 0)).setCell ⟨w.heap.size,1,none⟩ (.slice none 0 0)).drew.heap[w.heap.size]? =some (.cells #[.slice none 0 0,.slice none 0 0] 40 (0,0))∧(((dW w1 (w.heap.size+1) (.int .i64 0) (.int .i64 D1.1) (.int .i64 D1.2.1) (.int .i64 D1.2.2)).setCell ⟨w.heap.size,0,none⟩ (.slice none 0 0)).setCell ⟨w.heap.size,1,none⟩ (.slice none 0 0)).drew.heap[w.heap.size+1]? =some (.cells #[.int .i64 0,.int .i64 D1.1,.int .i64 D1.2.1,.int .i64 D1.2.2] 45 (0,0))):=aZ ⟨by rw [pQ];exact vY,by rw [pQ];exact vZ⟩;clear tA vY vZ tB;go_wp2_with fail;refine dn (S:=fun w'=>w'.heap[w.heap.size]? =some (.cells #[.slice none 0 0,.slice none 0 0] 40 (0,0))∧w'.heap[w.heap.size+1]? =some (.cells #[.int .i64 0,.int .i64 D1.1,.int .i64 D1.2.1,.int .i64 D1.2.2] 45 (0,0))) (x:=3) (by kernel_rfl) ?_
  try simp only [Act.put,sq]
  refine nM 0 (.agg #[.slice none 0 0,.slice none 0 0]) PX.o Ep.o (hQ:=fun c a w h=>nS rfl (by decide) (by decide) c a w h) ?_;refine nM 1 (.agg #[.int .i64 0,.int .i64 D1.1,.int .i64 D1.2.1,.int .i64 D1.2.2]) PD.o Ep.o (hQ:=fun c a w h=>nS rfl (by decide) (by decide) c a w h) ?_;refine ay (rs:=[2]) (by kernel_rfl) (by simp) ?_;refine av.cons rfl (fun K hK=>?_) (av.nil);go_simp;refine hK.out _ _ tO.o ?_;clear hK K
  try simp only [Act.put,sq]
  refine ay (rs:=[3]) (by kernel_rfl) (by simp) ?_;refine av.past rfl (by kernel_rfl) (fun K hK=>?_) (av.nil);go_simp;refine hK.out _ _ ?_;clear hK K
  try simp only [Act.put,sq]
  refine aV (by kernel_rfl) ?_ _;go_wp2_with fail;have Cv:=((HB1.o.trans (HT1.o.below (B:=w.heap.size) (by omega) (fun k hk e=>by omega))).trans (nJ.o.below (B:=w.heap.size) (by rw [hsp];omega) (fun k hk e=>by omega))).trans ((hdr (fun _=>False) _).below (by have:=nJ.o.size;rw [hsp]at this;omega) (fun _ _=>id));exact⟨_,dX rfl rfl rfl (by rw [pQ];exact HXB.o) (by rw [pQ];exact mP.o) Tryz.underlying40 rfl (by kernel_rfl) Tryz.underlying45 rfl (by kernel_rfl),Cv,_,rfl,⟨_,_,_,_,rfl,eD.nil _ _ _,.nil,eD.nil _ _ _,.nil⟩⟩
theorem Ji (w:World)(s:Bt)(hX:mY w):Calls Tryz.prog 19 #[sv s] w fun e w'=>Below w.heap.size w w'∧∃z:List Value,e=.returned (.tuple #[.agg z.toArray,zD (bZ fq s).2])∧MR w' (fun j=>w.heap.size<=j) z (vQ fq s Au):=by
 obtain⟨W0,hW0⟩:∃W0,((w.alloc (.cells #[.slice none 0 0,.slice none 0 0] 40)).alloc (.cells #[.int .i64 0,.int .i64 0,.int .i64 0,.int .i64 0] 45))=W0:=⟨_,rfl⟩
 obtain⟨tw,_,hx0,hd0⟩:=jC (G:=fun _=>False) (Turn.refl _ ((w.alloc (.cells #[.slice none 0 0,.slice none 0 0] 40)).alloc (.cells #[.int .i64 0,.int .i64 0,.int .i64 0,.int .i64 0] 45)));have hs0:W0.heap.size=w.heap.size+2:=by rw [<-hW0];simp
 have hb0:Below w.heap.size w W0:=by rw [<-hW0];exact new2 _ _ _
 rw [hW0]at tw hx0 hd0;have HX0:=aZ (hx0 id);have HD0:=aZ (hd0 id);have HB0:=aZ hb0;have HA:=aZ (UL W0 s (hX.below hb0));have HW0:=aZ hW0;obtain⟨Dg,yE⟩:∃Dg,(bZ fq s).2=Dg:=⟨_,rfl⟩
 obtain⟨V,hV⟩:∃V,vQ fq s Au=V:=⟨_,rfl⟩
 rw [yE,hV]at HA;rw [yE,hV];clear hX tw hx0 hd0 hb0 hW0 yE hV;go_enter Tryz.func19,Tryz.ntmps19;go_wp2_with fail;rw [HW0.o];refine(HA.o).mono ?_;rintro e w1 ⟨hb1,z0,rfl,hz0⟩;have hzc:=hz0;obtain⟨vi,xi,vd,xd,rfl,⟨A1,n1',c1,rfl,_⟩,_,⟨A2,n2,c2,rfl,_⟩,_⟩:=hzc;have hs1:=hb1.size;have hx1:=(hb1.block (w.heap.size) (by omega)).trans HX0.o;have hd1:=(hb1.block (w.heap.size+1) (by omega)).trans HD0.o;have tA:Turn (fun k=>k=w.heap.size) w1 ((w1.setCell ⟨w.heap.size,0,none⟩ (.slice A1 n1' c1)).setCell ⟨w.heap.size,1,none⟩ (.slice A2 n2 c2)):=((ak w1 (w.heap.size) 0 (.slice A1 n1' c1)).trans (ak _ (w.heap.size) 1 (.slice A2 n2 c2)) (fun _ _ h=>h))
 have vY:=(heap_setCell_same _ _ 1 _ _ (.slice A2 n2 c2) (heap_setCell_same _ _ 0 _ _ (.slice A1 n1' c1) hx1))
 have vZ:=ah hd1 tA (by omega);have tB:=((((ak ((w1.setCell ⟨w.heap.size,0,none⟩ (.slice A1 n1' c1)).setCell ⟨w.heap.size,1,none⟩ (.slice A2 n2 c2)) (w.heap.size+1) 0 (.int .i64 0)).trans (ak _ (w.heap.size+1) 1 (.int .i64 Dg.1)) (fun _ _ h=>h)).trans (ak _ (w.heap.size+1) 2 (.int .i64 Dg.2.1)) (fun _ _ h=>h)).trans (ak _ (w.heap.size+1) 3 (.int .i64 Dg.2.2)) (fun _ _ h=>h))
 have HXB:=aZ (ah vY tB (by omega));have mP:=aZ ((bA (b:=w.heap.size+1) vZ (.int .i64 0) (.int .i64 Dg.1) (.int .i64 Dg.2.1) (.int .i64 Dg.2.2)));have nJ:=aZ ((tA.mono (G:=fun k=>k=w.heap.size∨k=w.heap.size+1) (fun _ _ h=>.inl h)).trans tB (fun _ _ h=>.inr h));have HZ:=aZ hz0;have HB1:=aZ (HB0.o.trans (hb1.mono (by omega)));have u0:w1.cell? ⟨w.heap.size,0,none⟩=some (.slice none 0 0):=(cell_of_row _ _ 0 _ _ _ hx1).trans rfl;have u1:w1.cell? ⟨w.heap.size,1,none⟩=some (.slice none 0 0):=(cell_of_row _ _ 1 _ _ _ hx1).trans rfl;have l0:w1.cell? ⟨w.heap.size+1,0,none⟩=some (.int .i64 0):=(cell_of_row _ _ 0 _ _ _ hd1).trans rfl;have l1:w1.cell? ⟨w.heap.size+1,1,none⟩=some (.int .i64 0):=(cell_of_row _ _ 1 _ _ _ hd1).trans rfl;have l2:w1.cell? ⟨w.heap.size+1,2,none⟩=some (.int .i64 0):=(cell_of_row _ _ 2 _ _ _ hd1).trans rfl;have l3:w1.cell? ⟨w.heap.size+1,3,none⟩=some (.int .i64 0):=(cell_of_row _ _ 3 _ _ _ hd1).trans rfl;have uz:∀i,w1.frozen? ⟨w.heap.size,i,none⟩=false:=fun i=>frozen_of_row _ _ _ _ _ hx1;have lz:∀i,w1.frozen? ⟨w.heap.size+1,i,none⟩=false:=fun i=>frozen_of_row _ _ _ _ _ hd1;clear hb1 hz0 hx1 hd1 tA vY vZ tB;go_wp2_with fail;refine bodyPost_ret (dX rfl rfl rfl HXB.o mP.o Tryz.underlying40 rfl (by kernel_rfl) Tryz.underlying45 rfl (by kernel_rfl)) rfl ?_;exact⟨HB1.o.trans (nJ.o.below (B:=w.heap.size) (by omega) (fun k hk e=>by omega)),_,rfl,(HZ.o.turn nJ.o (fun g _ h e=>by omega)).mono (fun g _ h=>by omega)⟩
end Go.Proofs.YtfgjkmipfikooaaGreatDoor
