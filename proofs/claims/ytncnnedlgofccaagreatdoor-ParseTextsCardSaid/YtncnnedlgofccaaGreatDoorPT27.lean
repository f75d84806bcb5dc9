/- HJ, IJ, IK, IL -/
import Derived.Test.YtncnnedlgofccaaGreatDoorPT25
import Derived.Test.YtncnnedlgofccaaGreatDoorPT26
import Derived.Test.YtncnnedlgofccaaGreatDoorPT24
set_option linter.unusedSimpArgs false
set_option linter.unusedVariables false
set_option maxRecDepth 100000
set_option maxHeartbeats 8000000
namespace Go.Proofs.YtncnnedlgofccaaGreatDoor
open Go.RowKit
theorem ace {s:Bt}{kd:Int}{t:Bt}{n:Nat}(h:fq s=.inr (kd,t,n)):t.length<=s.length+256:=by
 cases s with
 |nil=>simp [fq]at h
 |cons c r=>
  rw [fq]at h;split at h
  ·split at h
   ·cases h
   ·split at h
    ·injection h with h;simp only [Prod.mk.injEq]at h;rw [<-h.2.1,List.length_take];omega
    ·injection h with h;simp only [Prod.mk.injEq]at h;rw [<-h.2.1,List.length_take];omega
  ·split at h
   ·split at h
    ·injection h with h;simp only [Prod.mk.injEq]at h;rw [<-h.2.1,List.length_take];omega
    ·cases h
   ·split at h
    ·split at h
     ·cases h
     ·split at h
      ·cases h
      ·injection h with h;simp only [Prod.mk.injEq]at h;rw [<-h.2.1];omega
    ·split at h
     ·injection h with h;simp only [Prod.mk.injEq]at h;rw [<-h.2.1,List.length_take];omega
     ·split at h
      ·injection h with h;simp only [Prod.mk.injEq]at h;rw [<-h.2.1];simp
      ·cases h
theorem Vg (M:Nat):∀(f:Nat) (s:Bt) (p:Nat ×Nat) (out:List aH),s.length+256<=M->(∀t∈out,t.text.length<=M)->∀t∈(qE f s p out).1,t.text.length<=M
 |0,s,p,out,hs,ho=>fun t ht=>by cases ht
 |f+1,s,p,out,hs,ho=>by
  rw [qE];split
  ·intro t ht;rcases List.mem_append.1 ht with ht |ht
   ·exact ho t ht
   ·simp only [List.mem_singleton]at ht;subst ht;simp
  ·split
   ·intro t ht;cases ht
   ·rename_i kd t n hn
    split
    ·intro t ht;cases ht
    ·refine Vg M f _ _ _ (by simp only [List.length_drop];omega) fun x hx=>?_;rcases List.mem_append.1 hx with hx |hx
     ·exact ho x hx
     ·simp only [List.mem_singleton]at hx;subst hx;have:=ace hn;simp only [List.length_drop]at this;show t.length<=M;omega
theorem Dk {s:Bt}(h:(gH s).2.2.2=0):Rk (gH s).1∧Wf (gH s).1:=by
 have hz:=Dj h;obtain⟨m,e,h1,h2,h3,h4,h5⟩:=aft (s:=s) (l:=(gH s).1) (by rw [<-hz]);refine⟨⟨Yo s,?_⟩,h5⟩;by_cases hs:65536<s.length
 ·have:(gH s).1=[]:=by unfold gH;rw [if_pos hs]
  rw [this];simp
 ·unfold gH;rw [if_neg hs];exact Vg 100000 _ s _ _ (by omega) (by simp)
abbrev xZ (d:Du):Value:= .agg #[I 0,I d.1,I d.2.1,I d.2.2]
abbrev dgC (d:Du):Array Value:= #[I 0,I d.1,I d.2.1,I d.2.2]
theorem qP {P:Program}{fn:Func}{R:Ending->World->Prop}{t0 t1:Tmp}{T0 T1:TypeId}{dst:Option Tmp}{v:Value}(hr:fn.results= #[.cell t0 T0,.cell t1 T1])(hd:dst≠some t0)(hd1:dst≠some t1)(c:List PanicEntry)(a:Act)(w:World)(h:bodyPostD P fn R (.panic c) (a.put dst v) w):bodyPostD P fn R (.panic c) a w:=by
 cases dst with
 |none=>exact h
 |some d=>
  have hne:d≠t0:=fun e=>hd (by rw [e]);have hne1:d≠t1:=fun e=>hd1 (by rw [e]);have e:results fn (a.tmps.setIfInBounds d v)=results fn a.tmps:=by
   simp [results,hr,Array.getElem?_setIfInBounds_ne hne,Array.getElem?_setIfInBounds_ne hne1]
  exact uw e a.defers _ _ h
theorem dP {P:Program}{fn:Func}{t u:Tmp}{T U:TypeId}{tmps:Array Value}{w:World}{b b':Nat}{cs cs':Array Value}{S S':TypeId}{d d':TypeDesc}(h:fn.results= #[.cell t T,.cell u U])(ht:tmps.getD t undef=pP b 0)(hu':tmps.getD u undef=pP b' 0)(hb:w.heap[b]? =some (.cells cs S (0,0)))(hb':w.heap[b']? =some (.cells cs' S' (0,0)))
  (hu:P.underlying T=some d) (hd:(match d with |.struct _ |.array _ _=>true |_=>false)=true) (hi:(P.info? T).map (·.size)=some cs.size)
  (hU:P.underlying U=some d') (hd':(match d' with |.struct _ |.array _ _=>true |_=>false)=true) (hi':(P.info? U).map (·.size)=some cs'.size:=by kernel_rfl):(results fn tmps).run P w=.ok (.tuple #[.agg cs,.agg cs']) w:=by
 have h1:=run_loadVar_row (P:=P) w b S T cs (0,0) d hb hu hd hi;have h3:=run_loadVar_row (P:=P) w b' S' U cs' (0,0) d' hb' hU hd' hi';have e:tmps[t]?.getD undef=pP b 0:=by simpa using ht
 have e':tmps[u]?.getD undef=pP b' 0:=by simpa using hu'
 have h2:(asAddr (pP b 0)).run P w=.ok ⟨b,0,none⟩ w:=rfl;have h2':(asAddr (pP b' 0)).run P w=.ok ⟨b',0,none⟩ w:=rfl;simp [results,h,e,e',h1,h2,h2',h3]
def FQ {α:Type}(q:Pr α):Option α ×Du:=match q with
 |.bad d=>(none,d)
 |.good x _=>(some x,(0,0,0))
theorem zI {α:Type}{p:Ps α}{s:Bt}{T:List aH}(h:gH s=(T,((0,0,0):Nat ×Nat ×Int))):dB p s=FQ (aj p (fun x=>aj (dL 0) fun _=>aB x) T):=by
 unfold dB;rw [h];rw [if_pos rfl];rcases hq:aj p (fun x=>aj (dL 0) fun _=>aB x) T with g |⟨x,r⟩ <;> simp only [hq] <;> rfl
def xJ {α:Type}(p:Ps α)(s:Bt)(zero:α):α:=(dB p s).1.getD zero
def uM:Bw:=⟨[],[]⟩
def Fv:bW:= .mk 0 [] 0 0 0 [] [] []
def Fw:bZ:= .mk 0 [] [] []
theorem acf (p q:Addr)(w:World):
  CallsD Tryz.prog 76 #[.pointer (some p),.pointer (some q)] .returning w fun e u' w'=>e=.returned (.tuple #[])∧u'=.returning∧w'=w:=by
 refine callsD_of_wpS Tryz.func76 rfl fun c₀ cs hu=>?_;apply wpS_seq;apply wpS_region;simp [wpOpsS,go_sem,recoverD,hu,Tryz.ntmps76,Exit.thenS];refine wpS_of_wp ?_;change Code.wp _ _ _ { tmps:= #[.pointer (some p),.pointer (some q),.nilIface,undef,undef,undef,.nilIface,undef,undef,undef,undef,undef,undef,undef,undef,undef,undef,undef,undef,undef],defers:=[]} w
 go_wp2
 exact⟨rfl,.returning,by rw [<-hu],.tuple #[],results_none rfl _ _ _,rfl,rfl,rfl⟩
theorem K8 (pb qb:Nat)(hne:pb≠qb)(g:Du)(older:List PanicEntry)(w:World){a0 a1:Value}(hp:w.heap[pb]? =some (.cells #[a0,a1] 40 (0,0)))(hq:w.heap[qb]? =some (.cells zd 45 (0,0))):
  CallsD Tryz.prog 76 #[pP pb 0,pP qb 0] (.panicking ({ v:= .iface 143 (xZ g),recovered:=false} :: older)) w fun e u' w'=>e=.returned (.tuple #[])∧u'=.panicking ({ v:= .iface 143 (xZ g),recovered:=true} :: older)∧
   Turn (fun k=>k=pb∨k=qb) w w'∧w'.heap[pb]? =some (.cells Zm0 40 (0,0))∧w'.heap[qb]? =some (.cells (dgC g) 45 (0,0)):=by
 have hta:∀w:World,(Instr.typeAssert (.iface 143 (xZ g)) 20 143 true).run Tryz.prog w=.ok (.tuple #[xZ g,.bool true]) w:=fun _=>by kernel_rfl
 have hpl:=block_lt hp;have hql:=block_lt hq;have HP:=aO hp;have HQ:=aO hq;clear hp hq;refine callsD_of_wpS Tryz.func76 rfl fun c₀ cs hu=>?_;apply wpS_seq;apply wpS_region;simp [wpOpsS,go_sem,recoverD,hu,Tryz.ntmps76,Exit.thenS];refine wpS_of_wp ?_;change Code.wp _ _ _ { tmps:= #[pP pb 0,pP qb 0,.iface 143 (xZ g),undef,undef,undef,.iface 143 (xZ g),undef,undef,undef,undef,undef,undef,undef,undef,undef,undef,undef,undef,undef],defers:=[]} w;obtain⟨W2,hW2⟩:∃W2,(w.alloc (.cells (dgC g) 143)).alloc (.cells #[.slice none 0 0,.slice none 0 0] 40)=W2:=⟨_,rfl⟩
 have hs2:W2.heap.size=w.heap.size+2:=by rw [<-hW2];simp
 obtain⟨tw,_,hbb,hzb⟩:=jk (G:=fun _=>False) (Turn.refl _ ((w.alloc (.cells (dgC g) 143)).alloc (.cells #[.slice none 0 0,.slice none 0 0] 40)));rw [hW2]at tw hbb hzb;have HW2:=aO hW2;have hp2:=ah HP.o tw id;have hq2:=ah HQ.o tw id;have QH:=aO hp2;have kF:=aO hq2;have Xm:=aO tw;obtain⟨b0,b1,b2,b3,bz⟩:=aW (hbb id);have hz2:=hzb id;have HZ2:=aO hz2;clear hW2 tw hbb hzb;go_wp2_with fail;rw [HW2.o];have HD0:bq (Turn (fun j=>j=pb∨j=qb) W2 W2.drew):=aO ⟨rfl,rfl,rfl,Nat.le_refl _,fun _ _ _=>rfl⟩;have PZ:=aO (fun(w':World) (h:Turn (fun j=>j=pb∨j=qb) W2 w')=>(⟨aK ((cell_of_row _ _ 0 _ _ _ hz2).trans rfl) h,aK ((cell_of_row _ _ 1 _ _ _ hz2).trans rfl) h⟩:w'.cell? ⟨w.heap.size+1,0,none⟩=some Z∧w'.cell? ⟨w.heap.size+1,1,none⟩=some Z));have PB:=aO (fun(w':World) (h:Turn (fun j=>j=pb∨j=qb) W2 w')=>(⟨aK b0 h,aK b1 h,aK b2 h,aK b3 h⟩:w'.cell? ⟨w.heap.size,0,none⟩=some (I 0)∧w'.cell? ⟨w.heap.size,1,none⟩=some (I g.1)∧w'.cell? ⟨w.heap.size,2,none⟩=some (I g.2.1)∧w'.cell? ⟨w.heap.size,3,none⟩=some (I g.2.2)));clear hz2 b0 b1 b2 b3 bz;refine bM (S:=fun w'=>Turn (fun j=>j=pb∨j=qb) W2 w') (x:=4) (by kernel_rfl) ?_
 try simp only [sp,sq]
 refine jw 0 (.agg Zm0) PZ.o HD0.o ?_;refine tx 1 (pP w.heap.size 0) HD0.o ?_;refine jw 2 (xZ g) PB.o HD0.o ?_;have sS:∀X:World,X.drew.heap=X.heap:=fun _=>rfl;have hdr:∀(G:Nat->Prop) (X:World),Turn G X X.drew:=fun _ _=>⟨rfl,rfl,rfl,Nat.le_refl _,fun _ _ _=>rfl⟩
 have tA:=((ak W2 (pb) 0 Z).trans (ak _ (pb) 1 Z))
 have hpA:((W2.setCell ⟨pb,0,none⟩ Z).setCell ⟨pb,1,none⟩ Z).heap[pb]? =some (.cells Zm0 40 (0,0)):=(heap_setCell_same _ _ 1 _ _ Z (heap_setCell_same _ _ 0 _ _ Z QH.o))
 have hqA:=ah kF.o tA (fun e=>hne e.symm);have Bp:=aO (tA.mono (G:=fun k=>k=pb∨k=qb) (fun _ _ h=>.inl h));have xK:=aO (Bp.o.trans (hdr (fun k=>k=pb∨k=qb) _));have HPA:=aO hpA;have NP:=aO hqA;have p0:W2.cell? ⟨pb,0,none⟩=some a0:=(cell_of_row _ _ 0 _ _ _ hp2).trans rfl;have p1:W2.cell? ⟨pb,1,none⟩=some a1:=(cell_of_row _ _ 1 _ _ _ hp2).trans rfl;have pz:∀i,W2.frozen? ⟨pb,i,none⟩=false:=fun i=>frozen_of_row _ _ _ _ _ hp2;have q0:W2.cell? ⟨qb,0,none⟩=some (I 0):=(cell_of_row _ _ 0 _ _ _ hq2).trans rfl;have q1:W2.cell? ⟨qb,1,none⟩=some (I 0):=(cell_of_row _ _ 1 _ _ _ hq2).trans rfl;have q2:W2.cell? ⟨qb,2,none⟩=some (I 0):=(cell_of_row _ _ 2 _ _ _ hq2).trans rfl;have q3:W2.cell? ⟨qb,3,none⟩=some (I 0):=(cell_of_row _ _ 3 _ _ _ hq2).trans rfl;have qz:∀i,W2.frozen? ⟨qb,i,none⟩=false:=fun i=>frozen_of_row _ _ _ _ _ hq2;have hne':¬qb=pb:=fun e=>hne e.symm;clear tA hpA hqA hp2 hq2;refine bB 3 fun K hK=>?_;go_simp;refine hK.out _ _ xK.o ?_;clear hK K
 try simp only [sp,sq]
 refine bR 4 fun K hK=>?_;go_simp;refine hK.out _ _ ?_;clear hK K
 try simp only [sp,sq]
 refine bU _ ?_;go_wp2_with fail;have tB:=((((ak ((W2.setCell ⟨pb,0,none⟩ Z).setCell ⟨pb,1,none⟩ Z) (qb) 0 (I 0)).trans (ak _ (qb) 1 (I g.1)) (fun _ _ h=>h)).trans (ak _ (qb) 2 (I g.2.1)) (fun _ _ h=>h)).trans (ak _ (qb) 3 (I g.2.2)))
 have h1:=(Xm.o.mono (G:=fun k=>k=pb∨k=qb) (fun _ _ h=>h.elim)).trans ((Bp.o.trans tB (fun _ _ h=>.inr h)).trans (hdr (fun k=>k=pb∨k=qb) _)) (fun _ _ h=>h);have h2:=ah HPA.o tB hne;have h3:=(bg (b:=qb) NP.o (I 0) (I g.1) (I g.2.1) (I g.2.2))
 refine⟨rfl,_,rfl,.tuple #[],results_none rfl _ _ _,rfl,rfl,h1,?_,?_⟩
 ·rw [sS];exact h2
 ·rw [sS];exact h3
theorem afw (w:World)(s:Bt)(hX:oq w):Calls Tryz.prog 36 #[sv s,.func (.func 37) #[] #[]] w fun e w'=>Below w.heap.size w w'∧∃z:List Value,e=.returned (.tuple #[.agg z.toArray,xZ (dB cK s).2])∧Nj w' (fun j=>w.heap.size<=j) z (xJ cK s uM):=by
 have hmf:∀(fn:Fn) (first cap:Array Value) (w:World),(Instr.makeFunc fn first cap).run Tryz.prog w=.ok (.func fn first cap) w:=fun _ _ _ _=>rfl;have hent:∀w:World,(callFunc 37 #[]).run Tryz.prog w=.ok (.enter 37 #[]) w:=fun _=>by kernel_rfl
 have sS:∀X:World,X.drew.heap=X.heap:=fun _=>rfl;have hdr:∀(G:Nat->Prop) (X:World),Turn G X X.drew:=fun _ _=>⟨rfl,rfl,rfl,Nat.le_refl _,fun _ _ _=>rfl⟩
 obtain⟨W0,hW0⟩:∃W0,((w.alloc (.cells #[.slice none 0 0,.slice none 0 0] 40)).alloc (.cells #[.int .i64 0,.int .i64 0,.int .i64 0,.int .i64 0] 45))=W0:=⟨_,rfl⟩
 obtain⟨tw,_,hx0,hd0⟩:=jk (G:=fun _=>False) (Turn.refl _ ((w.alloc (.cells #[.slice none 0 0,.slice none 0 0] 40)).alloc (.cells #[.int .i64 0,.int .i64 0,.int .i64 0,.int .i64 0] 45)));have hs0:W0.heap.size=w.heap.size+2:=by rw [<-hW0];simp
 have hb0:Below w.heap.size w W0:=by rw [<-hW0];exact new2 _ _ _
 rw [hW0]at tw hx0 hd0;have hx0:=hx0 id;have hd0:=hd0 id;have HX0:=aO hx0;have HD0:=aO hd0;have HB0:=aO hb0;have Va:=aO ((vF.of hX.1).below hb0);have HL:=aO (LB W0 s (hX.below hb0));have HW0:=aO hW0;obtain⟨Dg,zV⟩:∃Dg,(dB cK s).2=Dg:=⟨_,rfl⟩
 obtain⟨V,hV⟩:∃V,xJ cK s uM=V:=⟨_,rfl⟩
 rw [zV,hV];clear hX tw hx0 hd0 hb0 hW0;by_cases hE:(gH s).2.2.2=0
 ·have hz:=Dj hE;obtain⟨T,hT⟩:∃T,gH s=(T,((0,0,0):Nat ×Nat ×Int)):=⟨(gH s).1,by rw [<-hz]⟩
  obtain⟨htk,hwf⟩:=Dk hE;rw [hT]at HL htk hwf;have HWH:bq (dB cK s=FQ (aj cK (fun x=>aj (dL 0) fun _=>aB x) T)):=aO (zI hT);have HDg:=aO zV;have HV:=aO hV;have uD:=aO htk;have wQ:=aO hwf;clear hE hz hT htk hwf zV hV
  go_enter_defers Tryz.func36,Tryz.ntmps36
  go_wp2_with fail;rw [HW0.o];refine(HL.o).mono ?_;rintro e w1 ⟨v1,n1,rfl,hown,hb1⟩;obtain⟨Jb,c1',rfl,_,_⟩:=gI hown;have hs1:=hb1.size;have hx1:=(hb1.block (w.heap.size) (by omega)).trans HX0.o;have hd1:=(hb1.block (w.heap.size+1) (by omega)).trans HD0.o;have HB1:=aO (HB0.o.trans (hb1.mono (by omega)));have Qd:=aO (Va.o.below (hb1.mono (by omega)));obtain⟨x0,x1,x2,x3,xz⟩:=aW hd1;have t1:=dM w1 (w.heap.size+1) (.int .i64 0) (.int .i64 0) (.int .i64 0) (.int .i64 0);have wG:=aO (ah hx1 t1);have HD1:=aO (bg hd1 (.int .i64 0) (.int .i64 0) (.int .i64 0) (.int .i64 0));have HT1:=aO t1;have hsp:(dX w1 (w.heap.size+1) (.int .i64 0) (.int .i64 0) (.int .i64 0) (.int .i64 0)).heap.size=w1.heap.size:=by simp [dX]
  have HOWN:=aO hown;rw [show EK (0,0,0)=.agg #[.int .i64 0,.int .i64 0,.int .i64 0,.int .i64 0]from rfl];obtain⟨W2,hW2⟩:∃W2,(dX w1 (w.heap.size+1) (.int .i64 0) (.int .i64 0) (.int .i64 0) (.int .i64 0)).alloc (.cells #[.slice Jb n1 c1',.int .i64 0] 148)=W2:=⟨_,rfl⟩
  have t2:Turn (fun k=>k=w.heap.size+1) w1 W2:=by rw [<-hW2];exact t1.trans (Turn.alloc _ _ _)
  have hb2:=xX (dX w1 (w.heap.size+1) (.int .i64 0) (.int .i64 0) (.int .i64 0) (.int .i64 0)) (.cells #[.slice Jb n1 c1',.int .i64 0] 148);rw [hW2,hsp]at hb2;have hs2:W2.heap.size=w1.heap.size+1:=by rw [<-hW2];simp [dX]
  have Vh:=aO (by have:=bS (o':=(.cells #[.slice Jb n1 c1',.int .i64 0] 148)) wG.o;rwa [hW2]at this);have HD2:=aO (by have:=bS (o':=(.cells #[.slice Jb n1 c1',.int .i64 0] 148)) HD1.o;rwa [hW2]at this);have hsl:Sl W2 w1.heap.size 4 (.slice Jb n1 c1') (dD T):=((cZ.own (F:=fun j=>W0.heap.size<=j∧j<w1.heap.size) hown (fun g hg=>hown.lt g hg)).turn t2 (fun g _ h e=>by have:=h.1;omega)).to (fun g _ h=>h.2);have htb:GN w1.heap.size W2 (.slice Jb n1 c1'):=fun b o n c e=>by
   injection e with e _ _;subst e;rcases hown.2 with⟨h,_⟩ |⟨g,cap,cur,h,hg,hob,_⟩
   ·injection h with h;cases h
   ·injection h with h _ _;injection h with h;injection h with h _;subst h;exact⟨block_lt hob,_,ah hob t2⟩
  have Qe:=aO (Qd.o.below (t2.below (by omega) (fun k hk e=>by omega)));have HK:=aO (show cu W2 w1.heap.size w1.heap.size T 0 from⟨Nat.le_refl _,uD.o,wQ.o,_,hb2,hsl,fun w' hb'=>Qe.o w' (fun k hk=>hb' k (by omega)),htb⟩);have HT2:=aO (HB1.o.trans (t2.below (B:=w.heap.size) (by omega) (fun k hk e=>by omega)));have HR:=aO (SL W2 w1.heap.size w1.heap.size T HK.o);have HW2:=aO hW2;clear hown hb1 hx1 hd1 t1 t2 hb2 hsl hW2 HOWN htb;go_wp2_with fail;rw [HW2.o];refine(HR.o).mono ?_;rintro e w3 h3;rcases hq:cK T with g |⟨x,r3⟩
  ·obtain⟨rfl,tn,bn⟩:=h3.cB hq;have Dq:bq (dB cK s=(none,g)):=aO (by rw [HWH.o,aA hq];rfl);have HXP:=aO (ah Vh.o tn);have HDP:=aO (ah HD2.o tn);have Qf:=aO (HT2.o.trans (tn.below (B:=w.heap.size) (by omega) (fun k hk e=>by omega)));clear h3 tn bn hq;go_wp2_with fail;refine leaves_cons (f:=76) (args:= #[.pointer (some ⟨w.heap.size,0,none⟩),.pointer (some ⟨w.heap.size+1,0,none⟩)]) (by simp) (by simp [go_sem]) ?_;refine(K8 w.heap.size (w.heap.size+1) (by omega) g [] _ HXP.o HDP.o).mono ?_;rintro e u9 w9 ⟨rfl,rfl,t9,p9,q9⟩;have e1:Dg=g:=by rw [<-HDg.o,Dq.o]
   have e2:V=uM:=by rw [<-HV.o];unfold xJ;rw [Dq.o];rfl
   subst e1 e2;exact⟨_,dP rfl rfl rfl p9 q9 Tryz.underlying40 rfl (by kernel_rfl) Tryz.underlying45 rfl,Qf.o.trans (t9.below (by have:=Qf.o.size;omega) (fun k hk e=>by omega)),_,rfl,⟨_,_,_,_,rfl,cZ.nil _ _ _,.nil,cZ.nil _ _ _,.nil⟩⟩
  ·obtain⟨v3,rfl,tn,⟨z0,rfl,hz0⟩,kn⟩:=h3.aQ hq;have hzc:=hz0;obtain⟨vi,xi,vd,xd,rfl,⟨A1,n1',c1,rfl,_⟩,_,⟨A2,n2,c2,rfl,_⟩,_⟩:=hzc;have hs3:=tn.size;have hx3:=ah Vh.o tn;have hd3:=ah HD2.o tn;have t4:Turn (fun k=>k=w.heap.size) w3 ((w3.setCell ⟨w.heap.size,0,none⟩ (.slice A1 n1' c1)).setCell ⟨w.heap.size,1,none⟩ (.slice A2 n2 c2)):=((ak w3 (w.heap.size) 0 (.slice A1 n1' c1)).trans (ak _ (w.heap.size) 1 (.slice A2 n2 c2)))
   have GZ:=aO ((heap_setCell_same _ _ 1 _ _ (.slice A2 n2 c2) (heap_setCell_same _ _ 0 _ _ (.slice A1 n1' c1) hx3)));have HD4:=aO (ah hd3 t4);have acj:=aO ((Qe.o.below (tn.below (by omega) (fun k hk e=>by omega))).below (t4.below (by omega) (fun k hk e=>by omega)));have iW:=aO (kn.apart t4 (by omega) (fun g e _=>by have e:g=w.heap.size:=e;subst e;exact⟨_,_,hx3,by decide⟩) (fun w' hb'=>acj.o w' (fun k hk=>hb' k (by omega))));have fU:=aO (HT2.o.trans ((tn.below (B:=w.heap.size) (by omega) (fun k hk e=>by omega)).trans (t4.below (B:=w.heap.size) (by omega) (fun k hk e=>by omega))));have Dm:=aO (hz0.turn t4 (fun g _ h e=>by omega));have HWG:bq (dB cK s=FQ (aj (dL 0) (fun _=>aB x) r3)):=aO (by rw [HWH.o,au hq]);have J5:=aO (vG ((w3.setCell ⟨w.heap.size,0,none⟩ (.slice A1 n1' c1)).setCell ⟨w.heap.size,1,none⟩ (.slice A2 n2 c2)) w1.heap.size w1.heap.size r3 0 iW.o 0);have u0:w3.cell? ⟨w.heap.size,0,none⟩=some (.slice none 0 0):=(cell_of_row _ _ 0 _ _ _ hx3).trans rfl;have u1:w3.cell? ⟨w.heap.size,1,none⟩=some (.slice none 0 0):=(cell_of_row _ _ 1 _ _ _ hx3).trans rfl;have uz:∀i,w3.frozen? ⟨w.heap.size,i,none⟩=false:=fun i=>frozen_of_row _ _ _ _ _ hx3;clear h3 tn kn hz0 hq hx3 hd3 t4;go_wp2_with fail;refine(J5.o).mono ?_;rintro e w5 h5;rcases hq:dL 0 r3 with g |⟨sx,r5⟩
   ·obtain⟨rfl,tn,bn⟩:=h5.cB hq;have Dq:bq (dB cK s=(none,g)):=aO (by rw [HWG.o,aA hq];rfl);have HXP:=aO (ah GZ.o tn);have HDP:=aO (ah HD4.o tn);have Qf:=aO (fU.o.trans (tn.below (B:=w.heap.size) (by have:=fU.o.size;omega) (fun k hk e=>by omega)));clear h5 tn bn hq;go_wp2_with fail;refine leaves_cons (f:=76) (args:= #[.pointer (some ⟨w.heap.size,0,none⟩),.pointer (some ⟨w.heap.size+1,0,none⟩)]) (by simp) (by simp [go_sem]) ?_;refine(K8 w.heap.size (w.heap.size+1) (by omega) g [] _ HXP.o HDP.o).mono ?_;rintro e u9 w9 ⟨rfl,rfl,t9,p9,q9⟩;have e1:Dg=g:=by rw [<-HDg.o,Dq.o]
    have e2:V=uM:=by rw [<-HV.o];unfold xJ;rw [Dq.o];rfl
    subst e1 e2;exact⟨_,dP rfl rfl rfl p9 q9 Tryz.underlying40 rfl (by kernel_rfl) Tryz.underlying45 rfl,Qf.o.trans (t9.below (by have:=Qf.o.size;omega) (fun k hk e=>by omega)),_,rfl,⟨_,_,_,_,rfl,cZ.nil _ _ _,.nil,cZ.nil _ _ _,.nil⟩⟩
   ·obtain⟨v5,rfl,tn,-,kn⟩:=h5.aQ hq;have Dq:bq (dB cK s=(some x,(0,0,0))):=aO (by rw [HWG.o,au hq];rfl);have Ah:=aO (ah GZ.o tn);have HD5:=aO (ah HD4.o tn);have fP:=aO (fU.o.trans (tn.below (B:=w.heap.size) (by have:=fU.o.size;omega) (fun k hk e=>by omega)));have Dl:=aO (Dm.o.turn tn (fun g _ h e=>by omega));clear h5 tn kn hq uz u0 u1;have PX:=aO (fun(w':World) (h:w'.heap[w.heap.size]? =some (.cells #[.slice A1 n1' c1,.slice A2 n2 c2] 40 (0,0))∧w'.heap[w.heap.size+1]? =some (.cells #[.int .i64 0,.int .i64 0,.int .i64 0,.int .i64 0] 45 (0,0)))=>(⟨(dY h.1),(dY h.1)⟩:w'.cell? ⟨w.heap.size,0,none⟩=some (.slice A1 n1' c1)∧w'.cell? ⟨w.heap.size,1,none⟩=some (.slice A2 n2 c2)));have PD:=aO (fun(w':World) (h:w'.heap[w.heap.size]? =some (.cells #[.slice A1 n1' c1,.slice A2 n2 c2] 40 (0,0))∧w'.heap[w.heap.size+1]? =some (.cells #[.int .i64 0,.int .i64 0,.int .i64 0,.int .i64 0] 45 (0,0)))=>(⟨(dY h.2),(dY h.2),(dY h.2),(dY h.2)⟩:w'.cell? ⟨w.heap.size+1,0,none⟩=some (.int .i64 0)∧w'.cell? ⟨w.heap.size+1,1,none⟩=some (.int .i64 0)∧w'.cell? ⟨w.heap.size+1,2,none⟩=some (.int .i64 0)∧w'.cell? ⟨w.heap.size+1,3,none⟩=some (.int .i64 0)));have aT:bq (w5.drew.heap[w.heap.size]? =some (.cells #[.slice A1 n1' c1,.slice A2 n2 c2] 40 (0,0))∧w5.drew.heap[w.heap.size+1]? =some (.cells #[.int .i64 0,.int .i64 0,.int .i64 0,.int .i64 0] 45 (0,0))):=aO ⟨by rw [sS];exact Ah.o,by rw [sS];exact HD5.o⟩;have ka0:w5.cell? ⟨w.heap.size,0,none⟩=some (.slice A1 n1' c1):=(cell_of_row _ _ 0 _ _ _ Ah.o).trans rfl;have ka1:w5.cell? ⟨w.heap.size,1,none⟩=some (.slice A2 n2 c2):=(cell_of_row _ _ 1 _ _ _ Ah.o).trans rfl;have kaz:∀i,w5.frozen? ⟨w.heap.size,i,none⟩=false:=fun i=>frozen_of_row _ _ _ _ _ Ah.o
    have la0:w5.cell? ⟨w.heap.size+1,0,none⟩=some (.int .i64 0):=(cell_of_row _ _ 0 _ _ _ HD5.o).trans rfl;have la1:w5.cell? ⟨w.heap.size+1,1,none⟩=some (.int .i64 0):=(cell_of_row _ _ 1 _ _ _ HD5.o).trans rfl;have la2:w5.cell? ⟨w.heap.size+1,2,none⟩=some (.int .i64 0):=(cell_of_row _ _ 2 _ _ _ HD5.o).trans rfl;have la3:w5.cell? ⟨w.heap.size+1,3,none⟩=some (.int .i64 0):=(cell_of_row _ _ 3 _ _ _ HD5.o).trans rfl;have laz:∀i,w5.frozen? ⟨w.heap.size+1,i,none⟩=false:=fun i=>frozen_of_row _ _ _ _ _ HD5.o;have tA:=((ak w5 (w.heap.size) 0 (.slice A1 n1' c1)).trans (ak _ (w.heap.size) 1 (.slice A2 n2 c2)))
    have Aj:=(heap_setCell_same _ _ 1 _ _ (.slice A2 n2 c2) (heap_setCell_same _ _ 0 _ _ (.slice A1 n1' c1) Ah.o))
    have Aq:=ah HD5.o tA;have tB:=((((ak ((w5.setCell ⟨w.heap.size,0,none⟩ (.slice A1 n1' c1)).setCell ⟨w.heap.size,1,none⟩ (.slice A2 n2 c2)) (w.heap.size+1) 0 (.int .i64 0)).trans (ak _ (w.heap.size+1) 1 (.int .i64 0))).trans (ak _ (w.heap.size+1) 2 (.int .i64 0))).trans (ak _ (w.heap.size+1) 3 (.int .i64 0)))
    have HXB:=aO (ah Aj tB);have nJ:=aO ((bg (b:=w.heap.size+1) Aq (.int .i64 0) (.int .i64 0) (.int .i64 0) (.int .i64 0)));have nI:=aO ((tA.mono (G:=fun k=>k=w.heap.size∨k=w.heap.size+1) (fun _ _ h=>.inl h)).trans tB (fun _ _ h=>.inr h));have xK:bq (((w5.setCell ⟨w.heap.size,0,none⟩ (.slice A1 n1' c1)).setCell ⟨w.heap.size,1,none⟩ (.slice A2 n2 c2)).drew.heap[w.heap.size]? =some (.cells #[.slice A1 n1' c1,.slice A2 n2 c2] 40 (0,0))∧((w5.setCell ⟨w.heap.size,0,none⟩ (.slice A1 n1' c1)).setCell ⟨w.heap.size,1,none⟩ (.slice A2 n2 c2)).drew.heap[w.heap.size+1]? =some (.cells #[.int .i64 0,.int .i64 0,.int .i64 0,.int .i64 0] 45 (0,0))):=aO ⟨by rw [sS];exact Aj,by rw [sS];exact Aq⟩;clear tA Aj Aq tB;go_wp2_with fail;refine bM (S:=fun w'=>w'.heap[w.heap.size]? =some (.cells #[.slice A1 n1' c1,.slice A2 n2 c2] 40 (0,0))∧w'.heap[w.heap.size+1]? =some (.cells #[.int .i64 0,.int .i64 0,.int .i64 0,.int .i64 0] 45 (0,0))) (x:=3) (by kernel_rfl) ?_
    try simp only [sp,sq]
    refine jw 0 (.agg #[.slice A1 n1' c1,.slice A2 n2 c2]) PX.o aT.o (hQ:=qP rfl (by decide) (by decide)) ?_;refine jw 1 (.agg #[.int .i64 0,.int .i64 0,.int .i64 0,.int .i64 0]) PD.o aT.o (hQ:=qP rfl (by decide) (by decide)) ?_;refine bB 2 fun K hK=>?_;go_simp;refine hK.out _ _ xK.o ?_;clear hK K
    try simp only [sp,sq]
    refine bR 3 fun K hK=>?_;go_simp;refine hK.out _ _ ?_;clear hK K
    try simp only [sp,sq]
    refine bU _ ?_;go_wp2_with fail;refine leaves_cons (f:=76) (args:= #[.pointer (some ⟨w.heap.size,0,none⟩),.pointer (some ⟨w.heap.size+1,0,none⟩)]) (by simp) (by simp [go_sem]) ?_;refine(acf _ _ _).mono ?_;rintro e u9 w9 ⟨rfl,rfl,rfl⟩;have e1:Dg=(0,0,0):=by rw [<-HDg.o,Dq.o]
    have e2:V=x:=by rw [<-HV.o];unfold xJ;rw [Dq.o];rfl
    subst e1 e2;have Wp:=(Dl.o.turn nI.o (fun g _ h e=>by omega)).turn (hdr (fun _=>False) _) (fun _ _ _=>id);have xP:=(fP.o.trans (nI.o.below (B:=w.heap.size) (by have:=fP.o.size;omega) (fun k hk e=>by omega))).trans ((hdr (fun _=>False) _).below (by have:=fP.o.size;have:=nI.o.size;omega) (fun _ _=>id));exact⟨_,dP rfl rfl rfl (by rw [sS];exact HXB.o) (by rw [sS];exact nJ.o) Tryz.underlying40 rfl (by kernel_rfl) Tryz.underlying45 rfl,xP,_,rfl,Wp.mono (fun g _ h=>by omega)⟩
 ·have hwh:dB cK s=(none,(gH s).2):=by unfold dB;rw [if_neg hE]
  have e1:Dg=(gH s).2:=by rw [<-zV,hwh]
  have e2:V=uM:=by rw [<-hV];unfold xJ;rw [hwh];rfl
  subst e2;obtain⟨T,D1,hT⟩:∃T D1,gH s=(T,D1):=⟨_,_,rfl⟩
  rw [hT]at HL e1 hE;have e1:=e1.symm;subst e1;have hE1:(D1.2.2 != 0)=true:=by simpa using hE
  clear hE hwh zV hV hT
  go_enter_defers Tryz.func36,Tryz.ntmps36
  go_wp2_with fail;rw [HW0.o];have HDV:EK D1=.agg #[.int .i64 0,.int .i64 D1.1,.int .i64 D1.2.1,.int .i64 D1.2.2]:=rfl;refine(HL.o).mono ?_;rintro e w1 ⟨v1,n1,rfl,hown,hb1⟩;obtain⟨Jb,c1',rfl,_,_⟩:=gI hown;have hs1:=hb1.size;have hx1:=(hb1.block (w.heap.size) (by omega)).trans HX0.o;have hd1:=(hb1.block (w.heap.size+1) (by omega)).trans HD0.o;have HB1:=aO (HB0.o.trans (hb1.mono (by omega)));have Qd:=aO (Va.o.below (hb1.mono (by omega)));obtain⟨x0,x1,x2,x3,xz⟩:=aW hd1;have t1:=dM w1 (w.heap.size+1) (.int .i64 0) (.int .i64 D1.1) (.int .i64 D1.2.1) (.int .i64 D1.2.2);have wG:=aO (ah hx1 t1);have HD1:=aO (bg hd1 (.int .i64 0) (.int .i64 D1.1) (.int .i64 D1.2.1) (.int .i64 D1.2.2));have HT1:=aO t1;have hsp:(dX w1 (w.heap.size+1) (.int .i64 0) (.int .i64 D1.1) (.int .i64 D1.2.1) (.int .i64 D1.2.2)).heap.size=w1.heap.size:=by simp [dX]
  have HOWN:=aO hown;rw [HDV];clear hown hb1 hx1 hd1 t1 HDV;have PX:=aO (fun(w':World) (h:w'.heap[w.heap.size]? =some (.cells #[.slice none 0 0,.slice none 0 0] 40 (0,0))∧w'.heap[w.heap.size+1]? =some (.cells #[.int .i64 0,.int .i64 D1.1,.int .i64 D1.2.1,.int .i64 D1.2.2] 45 (0,0)))=>(⟨(dY h.1),(dY h.1)⟩:w'.cell? ⟨w.heap.size,0,none⟩=some (.slice none 0 0)∧w'.cell? ⟨w.heap.size,1,none⟩=some (.slice none 0 0)));have PD:=aO (fun(w':World) (h:w'.heap[w.heap.size]? =some (.cells #[.slice none 0 0,.slice none 0 0] 40 (0,0))∧w'.heap[w.heap.size+1]? =some (.cells #[.int .i64 0,.int .i64 D1.1,.int .i64 D1.2.1,.int .i64 D1.2.2] 45 (0,0)))=>(⟨(dY h.2),(dY h.2),(dY h.2),(dY h.2)⟩:w'.cell? ⟨w.heap.size+1,0,none⟩=some (.int .i64 0)∧w'.cell? ⟨w.heap.size+1,1,none⟩=some (.int .i64 D1.1)∧w'.cell? ⟨w.heap.size+1,2,none⟩=some (.int .i64 D1.2.1)∧w'.cell? ⟨w.heap.size+1,3,none⟩=some (.int .i64 D1.2.2)));have aT:bq ((dX w1 (w.heap.size+1) (.int .i64 0) (.int .i64 D1.1) (.int .i64 D1.2.1) (.int .i64 D1.2.2)).drew.heap[w.heap.size]? =some (.cells #[.slice none 0 0,.slice none 0 0] 40 (0,0))∧(dX w1 (w.heap.size+1) (.int .i64 0) (.int .i64 D1.1) (.int .i64 D1.2.1) (.int .i64 D1.2.2)).drew.heap[w.heap.size+1]? =some (.cells #[.int .i64 0,.int .i64 D1.1,.int .i64 D1.2.1,.int .i64 D1.2.2] 45 (0,0))):=aO ⟨by rw [sS];exact wG.o,by rw [sS];exact HD1.o⟩;have ka0:(dX w1 (w.heap.size+1) (.int .i64 0) (.int .i64 D1.1) (.int .i64 D1.2.1) (.int .i64 D1.2.2)).cell? ⟨w.heap.size,0,none⟩=some (.slice none 0 0):=(cell_of_row _ _ 0 _ _ _ wG.o).trans rfl
  have ka1:(dX w1 (w.heap.size+1) (.int .i64 0) (.int .i64 D1.1) (.int .i64 D1.2.1) (.int .i64 D1.2.2)).cell? ⟨w.heap.size,1,none⟩=some (.slice none 0 0):=(cell_of_row _ _ 1 _ _ _ wG.o).trans rfl;have kaz:∀i,(dX w1 (w.heap.size+1) (.int .i64 0) (.int .i64 D1.1) (.int .i64 D1.2.1) (.int .i64 D1.2.2)).frozen? ⟨w.heap.size,i,none⟩=false:=fun i=>frozen_of_row _ _ _ _ _ wG.o;have la0:(dX w1 (w.heap.size+1) (.int .i64 0) (.int .i64 D1.1) (.int .i64 D1.2.1) (.int .i64 D1.2.2)).cell? ⟨w.heap.size+1,0,none⟩=some (.int .i64 0):=(cell_of_row _ _ 0 _ _ _ HD1.o).trans rfl;have la1:(dX w1 (w.heap.size+1) (.int .i64 0) (.int .i64 D1.1) (.int .i64 D1.2.1) (.int .i64 D1.2.2)).cell? ⟨w.heap.size+1,1,none⟩=some (.int .i64 D1.1):=(cell_of_row _ _ 1 _ _ _ HD1.o).trans rfl;have la2:(dX w1 (w.heap.size+1) (.int .i64 0) (.int .i64 D1.1) (.int .i64 D1.2.1) (.int .i64 D1.2.2)).cell? ⟨w.heap.size+1,2,none⟩=some (.int .i64 D1.2.1):=(cell_of_row _ _ 2 _ _ _ HD1.o).trans rfl;have la3:(dX w1 (w.heap.size+1) (.int .i64 0) (.int .i64 D1.1) (.int .i64 D1.2.1) (.int .i64 D1.2.2)).cell? ⟨w.heap.size+1,3,none⟩=some (.int .i64 D1.2.2):=(cell_of_row _ _ 3 _ _ _ HD1.o).trans rfl;have laz:∀i,(dX w1 (w.heap.size+1) (.int .i64 0) (.int .i64 D1.1) (.int .i64 D1.2.1) (.int .i64 D1.2.2)).frozen? ⟨w.heap.size+1,i,none⟩=false:=fun i=>frozen_of_row _ _ _ _ _ HD1.o;have tA:=((ak (dX w1 (w.heap.size+1) (.int .i64 0) (.int .i64 D1.1) (.int .i64 D1.2.1) (.int .i64 D1.2.2)) (w.heap.size) 0 (.slice none 0 0)).trans (ak _ (w.heap.size) 1 (.slice none 0 0)))
  have Aj:=(heap_setCell_same _ _ 1 _ _ (.slice none 0 0) (heap_setCell_same _ _ 0 _ _ (.slice none 0 0) wG.o))
  have Aq:=ah HD1.o tA;have tB:=((((ak (((dX w1 (w.heap.size+1) (.int .i64 0) (.int .i64 D1.1) (.int .i64 D1.2.1) (.int .i64 D1.2.2)).setCell ⟨w.heap.size,0,none⟩ (.slice none 0 0)).setCell ⟨w.heap.size,1,none⟩ (.slice none 0 0)) (w.heap.size+1) 0 (.int .i64 0)).trans (ak _ (w.heap.size+1) 1 (.int .i64 D1.1)) (fun _ _ h=>h)).trans (ak _ (w.heap.size+1) 2 (.int .i64 D1.2.1)) (fun _ _ h=>h)).trans (ak _ (w.heap.size+1) 3 (.int .i64 D1.2.2)))
  have HXB:=aO (ah Aj tB);have nJ:=aO ((bg (b:=w.heap.size+1) Aq (.int .i64 0) (.int .i64 D1.1) (.int .i64 D1.2.1) (.int .i64 D1.2.2)));have nI:=aO ((tA.mono (G:=fun k=>k=w.heap.size∨k=w.heap.size+1) (fun _ _ h=>.inl h)).trans tB (fun _ _ h=>.inr h));have xK:bq ((((dX w1 (w.heap.size+1) (.int .i64 0) (.int .i64 D1.1) (.int .i64 D1.2.1) (.int .i64 D1.2.2)).setCell ⟨w.heap.size,0,none⟩ (.slice none 0 0)).setCell ⟨w.heap.size,1,none⟩ (.slice none 0 0)).drew.heap[w.heap.size]? =some (.cells #[.slice none 0 0,.slice none 0 0] 40 (0,0))∧(((dX w1 (w.heap.size+1) (.int .i64 0) (.int .i64 D1.1) (.int .i64 D1.2.1) (.int .i64 D1.2.2)).setCell ⟨w.heap.size,0,none⟩ (.slice none 0 0)).setCell ⟨w.heap.size,1,none⟩ (.slice none 0 0)).drew.heap[w.heap.size+1]? =some (.cells #[.int .i64 0,.int .i64 D1.1,.int .i64 D1.2.1,.int .i64 D1.2.2] 45 (0,0))):=aO ⟨by rw [sS];exact Aj,by rw [sS];exact Aq⟩;clear tA Aj Aq tB;go_wp2_with fail;refine bM (S:=fun w'=>w'.heap[w.heap.size]? =some (.cells #[.slice none 0 0,.slice none 0 0] 40 (0,0))∧w'.heap[w.heap.size+1]? =some (.cells #[.int .i64 0,.int .i64 D1.1,.int .i64 D1.2.1,.int .i64 D1.2.2] 45 (0,0))) (x:=3) (by kernel_rfl) ?_
  try simp only [sp,sq]
  refine jw 0 (.agg #[.slice none 0 0,.slice none 0 0]) PX.o aT.o (hQ:=fun c a w h=>qP rfl (by decide) (by decide) c a w h) ?_;refine jw 1 (.agg #[.int .i64 0,.int .i64 D1.1,.int .i64 D1.2.1,.int .i64 D1.2.2]) PD.o aT.o (hQ:=fun c a w h=>qP rfl (by decide) (by decide) c a w h) ?_;refine bB 2 fun K hK=>?_;go_simp;refine hK.out _ _ xK.o ?_;clear hK K
  try simp only [sp,sq]
  refine bR 3 fun K hK=>?_;go_simp;refine hK.out _ _ ?_;clear hK K
  try simp only [sp,sq]
  refine bU _ ?_;go_wp2_with fail;have xP:=((HB1.o.trans (HT1.o.below (B:=w.heap.size) (by omega) (fun k hk e=>by omega))).trans (nI.o.below (B:=w.heap.size) (by rw [hsp];omega) (fun k hk e=>by omega))).trans ((hdr (fun _=>False) _).below (by have:=nI.o.size;rw [hsp]at this;omega) (fun _ _=>id));exact⟨_,dP rfl rfl rfl (by rw [sS];exact HXB.o) (by rw [sS];exact nJ.o) Tryz.underlying40 rfl (by kernel_rfl) Tryz.underlying45 rfl,xP,_,rfl,⟨_,_,_,_,rfl,cZ.nil _ _ _,.nil,cZ.nil _ _ _,.nil⟩⟩
theorem Jc (w:World)(s:Bt)(hX:oq w):Calls Tryz.prog 15 #[sv s] w fun e w'=>Below w.heap.size w w'∧∃z:List Value,e=.returned (.tuple #[.agg z.toArray,xZ (dB cK s).2])∧Nj w' (fun j=>w.heap.size<=j) z (xJ cK s uM):=by
 obtain⟨W0,hW0⟩:∃W0,((w.alloc (.cells #[.slice none 0 0,.slice none 0 0] 40)).alloc (.cells #[.int .i64 0,.int .i64 0,.int .i64 0,.int .i64 0] 45))=W0:=⟨_,rfl⟩
 obtain⟨tw,_,hx0,hd0⟩:=jk (G:=fun _=>False) (Turn.refl _ ((w.alloc (.cells #[.slice none 0 0,.slice none 0 0] 40)).alloc (.cells #[.int .i64 0,.int .i64 0,.int .i64 0,.int .i64 0] 45)));have hs0:W0.heap.size=w.heap.size+2:=by rw [<-hW0];simp
 have hb0:Below w.heap.size w W0:=by rw [<-hW0];exact new2 _ _ _
 rw [hW0]at tw hx0 hd0;have HX0:=aO (hx0 id);have HD0:=aO (hd0 id);have HB0:=aO hb0;have HA:=aO (afw W0 s (hX.below hb0));have HW0:=aO hW0;obtain⟨Dg,zV⟩:∃Dg,(dB cK s).2=Dg:=⟨_,rfl⟩
 obtain⟨V,hV⟩:∃V,xJ cK s uM=V:=⟨_,rfl⟩
 rw [zV,hV]at HA;rw [zV,hV];clear hX tw hx0 hd0 hb0 hW0 zV hV;go_enter Tryz.func15,Tryz.ntmps15;go_wp2_with fail;rw [HW0.o];refine(HA.o).mono ?_;rintro e w1 ⟨hb1,z0,rfl,hz0⟩;have hzc:=hz0;obtain⟨vi,xi,vd,xd,rfl,⟨A1,n1',c1,rfl,_⟩,_,⟨A2,n2,c2,rfl,_⟩,_⟩:=hzc;have hs1:=hb1.size;have hx1:=(hb1.block (w.heap.size) (by omega)).trans HX0.o;have hd1:=(hb1.block (w.heap.size+1) (by omega)).trans HD0.o;have tA:Turn (fun k=>k=w.heap.size) w1 ((w1.setCell ⟨w.heap.size,0,none⟩ (.slice A1 n1' c1)).setCell ⟨w.heap.size,1,none⟩ (.slice A2 n2 c2)):=((ak w1 (w.heap.size) 0 (.slice A1 n1' c1)).trans (ak _ (w.heap.size) 1 (.slice A2 n2 c2)))
 have Aj:=(heap_setCell_same _ _ 1 _ _ (.slice A2 n2 c2) (heap_setCell_same _ _ 0 _ _ (.slice A1 n1' c1) hx1))
 have Aq:=ah hd1 tA;have tB:=((((ak ((w1.setCell ⟨w.heap.size,0,none⟩ (.slice A1 n1' c1)).setCell ⟨w.heap.size,1,none⟩ (.slice A2 n2 c2)) (w.heap.size+1) 0 (I 0)).trans (ak _ (w.heap.size+1) 1 (I Dg.1)) (fun _ _ h=>h)).trans (ak _ (w.heap.size+1) 2 (I Dg.2.1)) (fun _ _ h=>h)).trans (ak _ (w.heap.size+1) 3 (I Dg.2.2)))
 have HXB:=aO (ah Aj tB);have nJ:=aO ((bg (b:=w.heap.size+1) Aq (I 0) (I Dg.1) (I Dg.2.1) (I Dg.2.2)));have nI:=aO ((tA.mono (G:=fun k=>k=w.heap.size∨k=w.heap.size+1) (fun _ _ h=>.inl h)).trans tB (fun _ _ h=>.inr h));have HZ:=aO hz0;have HB1:=aO (HB0.o.trans (hb1.mono (by omega)));have u0:w1.cell? ⟨w.heap.size,0,none⟩=some Z:=(cell_of_row _ _ 0 _ _ _ hx1).trans rfl;have u1:w1.cell? ⟨w.heap.size,1,none⟩=some Z:=(cell_of_row _ _ 1 _ _ _ hx1).trans rfl;have l0:w1.cell? ⟨w.heap.size+1,0,none⟩=some (I 0):=(cell_of_row _ _ 0 _ _ _ hd1).trans rfl;have l1:w1.cell? ⟨w.heap.size+1,1,none⟩=some (I 0):=(cell_of_row _ _ 1 _ _ _ hd1).trans rfl;have l2:w1.cell? ⟨w.heap.size+1,2,none⟩=some (I 0):=(cell_of_row _ _ 2 _ _ _ hd1).trans rfl;have l3:w1.cell? ⟨w.heap.size+1,3,none⟩=some (I 0):=(cell_of_row _ _ 3 _ _ _ hd1).trans rfl;have uz:∀i,w1.frozen? ⟨w.heap.size,i,none⟩=false:=fun i=>frozen_of_row _ _ _ _ _ hx1;have lz:∀i,w1.frozen? ⟨w.heap.size+1,i,none⟩=false:=fun i=>frozen_of_row _ _ _ _ _ hd1;clear hb1 hz0 hx1 hd1 tA Aj Aq tB;go_wp2_with fail;refine bodyPost_ret (dP rfl rfl rfl HXB.o nJ.o Tryz.underlying40 rfl (by kernel_rfl) Tryz.underlying45 rfl) rfl ?_;exact⟨HB1.o.trans (nI.o.below (B:=w.heap.size) (by omega) (fun k hk e=>by omega)),_,rfl,(HZ.o.turn nI.o (fun g _ h e=>by omega)).mono (fun g _ h=>by omega)⟩
theorem gD (F:Nat->Prop)(w:World):Turn F w w.drew:=⟨rfl,rfl,rfl,Nat.le_refl _,fun _ _ _=>rfl⟩
theorem afy {F:Nat->Prop}{w:World}{b:Nat}{v0 v1 v2 v3:Value}{T:TypeId}(h:w.heap[b]? =some (.cells #[v0,v1,v2,v3] T (0,0)))(hn:¬F b):∀w',Turn F w w'->w'.cell? ⟨b,0,none⟩=some v0∧w'.cell? ⟨b,1,none⟩=some v1∧w'.cell? ⟨b,2,none⟩=some v2∧w'.cell? ⟨b,3,none⟩=some v3:=fun w' t=>by
 obtain⟨h0,h1,h2,h3,_⟩:=aW (ah h t hn);exact⟨h0,h1,h2,h3⟩
theorem SN (w:World)(s:Bt):Calls Tryz.prog 38 #[sv s] w fun e w'=>Below w.heap.size w w'∧∃bp,w.heap.size<=bp∧bp<w'.heap.size∧e=.returned (.tuple #[pP bp 0,xZ (gH s).2])∧
  ((gH s).2.2.2=0->eX w' bp bp (gH s).1 0 (.good () (gH s).1)):=by
 obtain⟨W0,hW0⟩:∃W0,w.alloc (.cells #[.int .i64 0,.int .i64 0,.int .i64 0,.int .i64 0] 45)=W0:=⟨_,rfl⟩
 have hb0:Below w.heap.size w W0:=by rw [<-hW0];exact new1 _ _
 have hd0:W0.heap[w.heap.size]? =some (.cells zd 45 (0,0)):=by rw [<-hW0];exact xX w _
 have hs0:W0.heap.size=w.heap.size+1:=by rw [<-hW0];simp
 have HL:=aO (abT W0 s);have HB0:=aO hb0;have HD0:=aO hd0;have HW0:=aO hW0;have uD:=aO (Dk (s:=s));obtain⟨L,D,hLD⟩:∃L D,gH s=(L,D):=⟨_,_,rfl⟩
 rw [hLD]at HL uD;rw [hLD];clear hb0 hd0 hW0 hLD;go_enter Tryz.func38,Tryz.ntmps38;go_wp2_with fail;rw [HW0.o];refine(HL.o).mono ?_;rintro e w1 ⟨v1,n1,rfl,hown,hb1⟩;obtain⟨A1,c1,rfl,_,_⟩:=gI hown;have hs1:=hb1.size;obtain⟨W1,hW1⟩:∃W1,w1.alloc (.cells #[.int .i64 0,.int .i64 D.1,.int .i64 D.2.1,.int .i64 D.2.2] 45)=W1:=⟨_,rfl⟩
 have hbw:Below w1.heap.size w1 W1:=by rw [<-hW1];exact new1 _ _
 have hx1:W1.heap[w1.heap.size]? =some (.cells #[I 0,I D.1,I D.2.1,I D.2.2] 45 (0,0)):=by rw [<-hW1];exact xX w1 _
 have hsW:W1.heap.size=w1.heap.size+1:=by rw [<-hW1];simp
 have hd1:=((hb1.trans (hbw.mono hs1)).block w.heap.size (by omega)).trans HD0.o;have HB1:=aO (HB0.o.trans ((hb1.trans (hbw.mono hs1)).mono (by omega)));have HD1:=aO hd1;have wG:=aO hx1;have HOWN:=aO hown;have oQ:=aO hbw
 have FIN:bq (∀Wf:World,Turn (fun j=>j=w.heap.size) W1 Wf->Wf.heap[W1.heap.size]? =some (.cells #[.slice A1 n1 c1,I 0,I 0,I 0,I 0,I 0] 156 (0,0))->Below w.heap.size w Wf∧(D.2.2=0->eX Wf W1.heap.size W1.heap.size L 0 (.good () L))):=aO (fun Wf t hp=>by
  refine⟨HB1.o.trans (t.below (B:=w.heap.size) (by omega) (fun k hk e=>by omega)),fun h0=>?_⟩;obtain⟨htk,hwf⟩:=uD.o h0;have tt:Turn (fun j=>j=w.heap.size) w1 Wf:=(Turn.of_below (F:=fun j=>j=w.heap.size) oQ.o).trans t;have hsl:Sl Wf W1.heap.size 4 (.slice A1 n1 c1) (dD L):=((cZ.own (F:=fun j=>W0.heap.size<=j∧j<w1.heap.size) HOWN.o (fun g hg=>HOWN.o.lt g hg)).turn tt (fun g _ h e=>by have:=h.1;omega)).to (fun g _ h=>by have:=h.2;omega);exact⟨Nat.le_refl _,htk,hwf,.slice A1 n1 c1,0,0,0,0,0,hp,hsl,hwf.pos,by unfold In64;omega,rfl,hwf,rfl,rfl,rfl,rfl⟩)
 rw [show EK D=.agg #[I 0,I D.1,I D.2.1,I D.2.2]from rfl];have aT:bq (Turn (fun j=>j=w.heap.size) W1 W1.drew):=aO (gD _ _);have HKP:=aO (afy (F:=fun j=>j=w.heap.size) hx1 (by omega));clear hb1 hown hbw hx1 hd1;go_wp2_with fail;refine wp_region_held_drew (S:=fun w'=>Turn (fun j=>j=w.heap.size) W1 w') (by kernel_rfl) aT.o (fun _=>?_)
 try simp only [sp,sq]
 refine tk 0 (.slice A1 n1 c1) aT.o ?_;refine tk 1 (.agg #[.slice A1 n1 c1,I 0,I 0,I 0,I 0,I 0]) aT.o ?_;refine jE 3 (.agg #[I 0,I D.1,I D.2.1,I D.2.2]) HKP.o aT.o ?_;refine dJ 2 fun K hK=>?_;go_simp;obtain⟨W2,hW2⟩:∃W2,(W1.alloc (.cells #[.slice A1 n1 c1,.int .i64 0,.int .i64 0,.int .i64 0,.int .i64 0,.int .i64 0] 156)).drew=W2:=⟨_,rfl⟩
 have t2:Turn (fun j=>j=w.heap.size) W1 W2:=by rw [<-hW2];exact(Turn.alloc _ _ _).trans (gD _ _)
 have hp2:W2.heap[W1.heap.size]? =some (.cells #[.slice A1 n1 c1,I 0,I 0,I 0,I 0,I 0] 156 (0,0)):=by rw [<-hW2,show ∀X:World,X.drew.heap=X.heap from fun _=>rfl];exact xX W1 _
 rw [hW2];have HT2:=aO t2;have QH:=aO hp2;have HS2:=aO (show Turn (fun j=>j=w.heap.size) W1 W2 from t2);have hd2:W2.heap[w.heap.size]? =some (.cells zd 45 (0,0)):=by rw [<-hW2,show ∀X:World,X.drew.heap=X.heap from fun _=>rfl];exact bS HD1.o
 have HD2:=aO hd2;clear hW2 t2 hp2;refine hK.out _ _ HS2.o (fun _=>?_);clear hK K
 try simp only [sp,sq]
 refine tk 4 (pP (w1.heap.size+1) 0) HS2.o ?_;refine dJ 5 fun K hK=>?_;obtain⟨d0,d1,d2,d3,dz⟩:=aW hd2;go_simp;have t3:=HT2.o.trans (dM W2 w.heap.size (I 0) (I D.1) (I D.2.1) (I D.2.2)) (fun _ _ h=>h);have p3:=ah QH.o (dM W2 w.heap.size (I 0) (I D.1) (I D.2.1) (I D.2.2));have q3:=bg HD2.o (I 0) (I D.1) (I D.2.1) (I D.2.2);obtain⟨f1,f2⟩:=FIN.o _ t3 p3;have F1:=aO f1;have F2:=aO f2;have Q3:=aO q3;have P3:=aO p3;refine hK.out _ _ t3 (fun _=>?_);clear hK K t3 p3 q3 f1 f2;refine eT _ ?_;go_wp2_with fail;refine bodyPost_ret (fI rfl _ _ w.heap.size _ _ _ _ rfl Q3.o Tryz.underlying45 rfl) rfl ?_;exact⟨F1.o,W1.heap.size,by omega,block_lt P3.o,by rw [hsW];rfl,F2.o⟩
def MN (q:Pr Unit):Du:=match q with
 |.good _ _=>(0,0,0)
 |.bad g=>g
def FR (q:Pr Unit):Du:=MN (gF (av q (dL 0)))
theorem eX.fault {w:World}{bp B:Nat}{L:List aH}{d:Int}{q:Pr Unit}(h:eX w bp B L d q):∃(b o c k:Nat) (dd:Int),w.heap[bp]? =some (.cells #[.slice (some ⟨b,o,none⟩) L.length c,I k,I dd,I (MN q).2.2,I (((MN q).1:Nat):Int),I (((MN q).2.1:Nat):Int)] 156 (0,0)):=by
 obtain⟨b,o,c,k,dd,e,ln,cn,hk,hlc,hc63,LK,hdd,hrel,hblk,_⟩:=h.open_;cases q with
 |bad g=>
  obtain⟨rfl,rfl,rfl,_⟩:=hrel;exact⟨b,o,c,k,dd,hblk⟩
 |good u ts=>
  obtain⟨_,_,_,rfl,rfl,rfl⟩:=hrel;exact⟨b,o,c,k,dd,hblk⟩
theorem aco (w:World)(bp B:Nat)(L:List aH)(d:Int)(q:Pr Unit)(h:eX w bp B L d q):Calls Tryz.prog 40 #[pP bp 0] w fun e w'=>e=.returned (xZ (FR q))∧Turn (fun j=>j=bp) w w':=by
 have hlt:=h.lt;obtain⟨W1,hW1⟩:∃W1,w.alloc (.cells #[.int .i64 0,.int .i64 0,.int .i64 0,.int .i64 0] 45)=W1:=⟨_,rfl⟩
 have tn:Turn (fun _=>False) w W1:=by rw [<-hW1];exact Turn.alloc _ _ _
 have hs1:W1.heap.size=w.heap.size+1:=by rw [<-hW1];simp
 have hr1:W1.heap[w.heap.size]? =some (.cells zd 45 (0,0)):=by rw [<-hW1];exact xX w _
 have hk1:=h.turn tn id (fun _ _=>id);have HT1:=aO tn;have HR1:=aO hr1;have iR:=aO hk1;have HF:=aO (fun w1 h1=>vO w1 bp B L d q h1 7);have HW1:=aO hW1;obtain⟨b,o,c,k,dd,e,ln,cn,hk,hlc,hc63,LK,hdd,hrel,hblk,t0,t1,t2,t3⟩:=hk1.open_;obtain⟨p0,p1,p2,p3,p4,p5,pz⟩:=gu hblk;have hki:(k:Int)<L.length:=by omega
 obtain⟨tkn,htk⟩:∃tkn,L[k]=tkn:=⟨_,rfl⟩
 rw [htk]at t0;have uD:=aO htk;have qO:=aO hrel;clear h tn hr1 hk1 hW1 htk hrel hblk t1 t2 t3;go_enter Tryz.func40,Tryz.ntmps40;go_wp2_with fail;rw [HW1.o]
 go_upto_region 1 with(fail)
 go_cut [21]from 3 (fun v wc=>∃r:Bool,v=.bool r∧W1.drew=wc∧(r=true->e=0∧tkn.kind≠0)∧(r=false->¬(e=0∧tkn.kind≠0)))
 case first=>
  by_cases he:e=0
  ·subst he;cases hkb:(tkn.kind != 0)
   ·have hkn:tkn.kind=0:=by simpa using hkb
    have J5:=aO hkn;clear hkn;have aT:bq ((W1.drew).cell? ⟨bp,3,none⟩=some (I 0)∧(W1.drew).cell? ⟨bp,0,none⟩=some (.slice (some ⟨b,o,none⟩) L.length c)∧(W1.drew).cell? ⟨bp,1,none⟩=some (I k)∧(W1.drew).cell? ⟨b,o+k*4,none⟩=some (I tkn.kind)):=aO ⟨p3,p0,p1,t0⟩;refine wp_region_held_drew (S:=fun w'=>w'.cell? ⟨bp,3,none⟩=some (I 0)∧w'.cell? ⟨bp,0,none⟩=some (.slice (some ⟨b,o,none⟩) L.length c)∧w'.cell? ⟨bp,1,none⟩=some (I k)∧w'.cell? ⟨b,o+k*4,none⟩=some (I tkn.kind)) (by kernel_rfl) aT.o (fun _=>?_)
    try simp only [sp,sq]
    refine tk 0 (pP bp 0) aT.o ?_;refine tk 1 (pP bp 0) aT.o ?_;refine tk 2 (pP bp 3) aT.o ?_;refine jE 3 (I 0) (fun _ h=>h.1) aT.o ?_;refine tk 4 (.bool true) aT.o ?_;refine tk 5 (.bool true) aT.o ?_;refine tk 6 (pP bp 0) aT.o ?_;refine tk 7 (pP bp 0) aT.o ?_;refine tk 8 (pP bp 0) aT.o ?_;refine jE 9 (.slice (some ⟨b,o,none⟩) L.length c) (fun _ h=>h.2.1) aT.o ?_;refine tk 10 (pP bp 0) aT.o ?_;refine tk 11 (pP bp 0) aT.o ?_;refine tk 12 (pP bp 1) aT.o ?_;refine jE 13 (I k) (fun _ h=>h.2.2.1) aT.o ?_;refine tk 14 (pP b (o+k*4)) aT.o ?_;refine tk 15 (pP b (o+k*4)) aT.o ?_;refine jE 16 (I tkn.kind) (fun _ h=>h.2.2.2) aT.o ?_;refine tk 17 (.bool false) aT.o ?_;refine tk 18 (.bool false) aT.o ?_;refine eT _ ?_;go_wp2_with fail
    go_meet
    case rel=>exact⟨false,rfl,rfl,(fun h=>by cases h),(fun _ h=>h.2 J5.o)⟩
   ·have hkn:tkn.kind≠0:=by simpa using hkb
    have J5:=aO hkn;clear hkn;have aT:bq ((W1.drew).cell? ⟨bp,3,none⟩=some (I 0)∧(W1.drew).cell? ⟨bp,0,none⟩=some (.slice (some ⟨b,o,none⟩) L.length c)∧(W1.drew).cell? ⟨bp,1,none⟩=some (I k)∧(W1.drew).cell? ⟨b,o+k*4,none⟩=some (I tkn.kind)):=aO ⟨p3,p0,p1,t0⟩;refine wp_region_held_drew (S:=fun w'=>w'.cell? ⟨bp,3,none⟩=some (I 0)∧w'.cell? ⟨bp,0,none⟩=some (.slice (some ⟨b,o,none⟩) L.length c)∧w'.cell? ⟨bp,1,none⟩=some (I k)∧w'.cell? ⟨b,o+k*4,none⟩=some (I tkn.kind)) (by kernel_rfl) aT.o (fun _=>?_)
    try simp only [sp,sq]
    refine tk 0 (pP bp 0) aT.o ?_;refine tk 1 (pP bp 0) aT.o ?_;refine tk 2 (pP bp 3) aT.o ?_;refine jE 3 (I 0) (fun _ h=>h.1) aT.o ?_;refine tk 4 (.bool true) aT.o ?_;refine tk 5 (.bool true) aT.o ?_;refine tk 6 (pP bp 0) aT.o ?_;refine tk 7 (pP bp 0) aT.o ?_;refine tk 8 (pP bp 0) aT.o ?_;refine jE 9 (.slice (some ⟨b,o,none⟩) L.length c) (fun _ h=>h.2.1) aT.o ?_;refine tk 10 (pP bp 0) aT.o ?_;refine tk 11 (pP bp 0) aT.o ?_;refine tk 12 (pP bp 1) aT.o ?_;refine jE 13 (I k) (fun _ h=>h.2.2.1) aT.o ?_;refine tk 14 (pP b (o+k*4)) aT.o ?_;refine tk 15 (pP b (o+k*4)) aT.o ?_;refine jE 16 (I tkn.kind) (fun _ h=>h.2.2.2) aT.o ?_;refine tk 17 (.bool true) aT.o ?_;refine tk 18 (.bool true) aT.o ?_;refine eT _ ?_;go_wp2_with fail
    go_meet
    case rel=>exact⟨true,rfl,rfl,(fun _=>⟨by trivial,J5.o⟩),(fun h=>by cases h)⟩
  ·have heb:(e==0)=false:=by simp [he]
   have HEE:=aO he;clear he;have aT:bq ((W1.drew).cell? ⟨bp,3,none⟩=some (I e)):=aO p3;refine wp_region_held_drew (S:=fun w'=>w'.cell? ⟨bp,3,none⟩=some (I e)) (by kernel_rfl) aT.o (fun _=>?_)
   try simp only [sp,sq]
   refine tk 0 (pP bp 0) aT.o ?_;refine tk 1 (pP bp 0) aT.o ?_;refine tk 2 (pP bp 3) aT.o ?_;refine jE 3 (I e) (fun _ h=>h) aT.o ?_;refine tk 4 (.bool false) aT.o ?_;refine tk 5 (.bool false) aT.o ?_;refine jh 6 aT.o ?_;refine jh 7 aT.o ?_;refine jh 8 aT.o ?_;refine jh 9 aT.o ?_;refine jh 10 aT.o ?_;refine jh 11 aT.o ?_;refine jh 12 aT.o ?_;refine jh 13 aT.o ?_;refine jh 14 aT.o ?_;refine jh 15 aT.o ?_;refine jh 16 aT.o ?_;refine jh 17 aT.o ?_;refine tk 18 (.bool false) aT.o ?_;refine eT _ ?_;go_wp2_with fail
   go_meet
   case rel=>exact⟨false,rfl,rfl,(fun h=>by cases h),(fun _ h=>HEE.o h.1)⟩
 case rest=>
  obtain⟨r,rfl,rfl,hy,hn⟩:=hcut;have HY:=aO hy;have HN:=aO hn;have HD2:=aO (gD (fun _=>False) W1);clear hy hn p0 p1 p2 p3 p4 p5 pz t0;obtain⟨W2,hW2⟩:∃W2,W1.drew=W2:=⟨_,rfl⟩
  rw [hW2]at HD2;rw [hW2];have gX:=aO (iR.o.turn HD2.o id (fun _ _=>id));have HR2:=aO (ah HR1.o HD2.o id);have hs2:W2.heap.size=W1.heap.size:=by rw [<-hW2];rfl
  have HT2:=aO ((HT1.o.trans HD2.o).mono (G:=fun j=>j=bp) (fun _ _ h=>h.elim));have HFW:=aO (HF.o W2 gX.o);clear hW2 HT1 HD2 HR1 iR HF
  have HE:bq (r=true->FR q=MN (EL q 7)):=aO (fun hr=>by
   obtain⟨he,hk0⟩:=HY.o hr;cases q with
   |bad g=>exact absurd (qO.o.1.symm.trans he) qO.o.2.2.2
   |good u ts=>
    obtain⟨rfl,_⟩:=qO.o;have hk1:(aR (L.drop k)).kind≠0:=by rw [jm hk,uD.o];exact hk0
    show FR (.good u (L.drop k))= _;unfold FR;have e0:dL 0 (L.drop k)=.bad ((aR (L.drop k)).line,(aR (L.drop k)).col,7):=by unfold dL;rw [if_neg hk1]
    rw [j4,e0];rfl)
  have HE2:bq (r=false->FR q=(MN q)):=aO (fun hr=>by
   have hno:=HN.o hr;cases q with
   |bad g=>rfl
   |good u ts=>
    obtain⟨rfl,_,_,rfl,_⟩:=qO.o;have hk1:(aR (L.drop k)).kind=0:=by
     rw [jm hk,uD.o];by_cases h0:tkn.kind=0
     ·exact h0
     ·exact absurd ⟨rfl,h0⟩ hno
    unfold FR;have e0:dL 0 (L.drop k)=.good (aR (L.drop k)).text (L.drop k):=by unfold dL;rw [if_pos hk1,if_pos rfl]
    rw [j4,e0];rfl)
  clear HY HN qO uD;cases r with
  |true=>
   go_wp2_with fail;refine(HFW.o).mono ?_;rintro e9 w3 ⟨rfl,tn,kn⟩;have HKZ:=aO kn;have HTZ:=aO (HT2.o.trans tn);have hs3:=tn.size;have HRZ:=aO (ah HR2.o tn);have HEQ:=aO (HE.o (by trivial));clear tn kn HE HE2 gX HR2 HT2 HFW;obtain⟨b3,o3,c3,k3,dd3,hpb⟩:=HKZ.o.fault;rw [<-HEQ.o]at hpb;obtain⟨D,hD⟩:∃D,FR q=D:=⟨_,rfl⟩
   rw [hD]at hpb;have HDD:=aO hD;clear hD;obtain⟨p0,p1,p2,p3,p4,p5,pz⟩:=gu hpb;have HS:bq (w3.drew.cell? ⟨bp,4,none⟩=some (I D.1)∧w3.drew.cell? ⟨bp,5,none⟩=some (I D.2.1)∧w3.drew.cell? ⟨bp,3,none⟩=some (I D.2.2)):=aO ⟨p4,p5,p3⟩;have hrb:=HRZ.o;obtain⟨d0,d1,d2,d3,dz⟩:=aW hrb;clear p0 p1 p2 p3 p4 p5 pz hpb hrb;go_wp2_with fail;refine wp_region_held_drew (S:=fun w'=>w'.cell? ⟨bp,4,none⟩=some (I D.1)∧w'.cell? ⟨bp,5,none⟩=some (I D.2.1)∧w'.cell? ⟨bp,3,none⟩=some (I D.2.2)) (by kernel_rfl) HS.o (fun _=>?_)
   try simp only [sp,sq]
   refine tk 0 (pP bp 0) HS.o ?_;refine tk 1 (pP bp 0) HS.o ?_;refine tk 2 (pP bp 4) HS.o ?_;refine jE 3 (I D.1) (fun _ h=>h.1) HS.o ?_;refine tk 4 (pP bp 0) HS.o ?_;refine tk 5 (pP bp 0) HS.o ?_;refine tk 6 (pP bp 5) HS.o ?_;refine jE 7 (I D.2.1) (fun _ h=>h.2.1) HS.o ?_;refine tk 8 (pP bp 0) HS.o ?_;refine tk 9 (pP bp 0) HS.o ?_;refine tk 10 (pP bp 3) HS.o ?_;refine jE 11 (I D.2.2) (fun _ h=>h.2.2) HS.o ?_;refine tk 12 (.agg #[I 0,I D.1,I D.2.1,I D.2.2]) HS.o ?_;refine dJ 13 fun K hK=>?_;go_simp;have t4:=(gD (fun j=>j=w.heap.size) w3).trans (dM w3.drew w.heap.size (I 0) (I D.1) (I D.2.1) (I D.2.2)) (fun _ _ h=>h);have q4:=bg (show w3.drew.heap[w.heap.size]? = _ from HRZ.o) (I 0) (I D.1) (I D.2.1) (I D.2.2);have Q4:=aO q4;have T4:=aO t4;refine hK.out _ _ (by obtain⟨h4,h5,h3⟩:=HS.o;have tp:=dM w3.drew w.heap.size (I 0) (I D.1) (I D.2.1) (I D.2.2);exact⟨aK h4 tp,aK h5 tp,aK h3 tp⟩) (fun _=>?_);clear hK K t4 q4;refine eT _ ?_;go_wp2_with fail;refine bodyPost_ret (aL rfl rfl Q4.o Tryz.underlying45 rfl) rfl ?_;exact⟨by rw [HDD.o],HTZ.o.trans T4.o (fun i hi e=>by omega)⟩
  |false=>
   have HKZ:=aO gX.o;have HTZ:=aO HT2.o;have HRZ:=aO HR2.o;have HEQ:=aO (HE2.o (by trivial));clear HE HE2 gX HR2 HT2 HFW;obtain⟨b3,o3,c3,k3,dd3,hpb⟩:=HKZ.o.fault;rw [<-HEQ.o]at hpb;obtain⟨D,hD⟩:∃D,FR q=D:=⟨_,rfl⟩
   rw [hD]at hpb;have HDD:=aO hD;clear hD;obtain⟨p0,p1,p2,p3,p4,p5,pz⟩:=gu hpb;have HS:bq (W2.drew.cell? ⟨bp,4,none⟩=some (I D.1)∧W2.drew.cell? ⟨bp,5,none⟩=some (I D.2.1)∧W2.drew.cell? ⟨bp,3,none⟩=some (I D.2.2)):=aO ⟨p4,p5,p3⟩;have hrb:=HRZ.o;obtain⟨d0,d1,d2,d3,dz⟩:=aW hrb;clear p0 p1 p2 p3 p4 p5 pz hpb hrb;go_wp2_with fail;refine wp_region_held_drew (S:=fun w'=>w'.cell? ⟨bp,4,none⟩=some (I D.1)∧w'.cell? ⟨bp,5,none⟩=some (I D.2.1)∧w'.cell? ⟨bp,3,none⟩=some (I D.2.2)) (by kernel_rfl) HS.o (fun _=>?_)
   try simp only [sp,sq]
   refine tk 0 (pP bp 0) HS.o ?_;refine tk 1 (pP bp 0) HS.o ?_;refine tk 2 (pP bp 4) HS.o ?_;refine jE 3 (I D.1) (fun _ h=>h.1) HS.o ?_;refine tk 4 (pP bp 0) HS.o ?_;refine tk 5 (pP bp 0) HS.o ?_;refine tk 6 (pP bp 5) HS.o ?_;refine jE 7 (I D.2.1) (fun _ h=>h.2.1) HS.o ?_;refine tk 8 (pP bp 0) HS.o ?_;refine tk 9 (pP bp 0) HS.o ?_;refine tk 10 (pP bp 3) HS.o ?_;refine jE 11 (I D.2.2) (fun _ h=>h.2.2) HS.o ?_;refine tk 12 (.agg #[I 0,I D.1,I D.2.1,I D.2.2]) HS.o ?_;refine dJ 13 fun K hK=>?_;go_simp;have t4:=(gD (fun j=>j=w.heap.size) W2).trans (dM W2.drew w.heap.size (I 0) (I D.1) (I D.2.1) (I D.2.2)) (fun _ _ h=>h);have q4:=bg (show W2.drew.heap[w.heap.size]? = _ from HRZ.o) (I 0) (I D.1) (I D.2.1) (I D.2.2);have Q4:=aO q4;have T4:=aO t4;refine hK.out _ _ (by obtain⟨h4,h5,h3⟩:=HS.o;have tp:=dM W2.drew w.heap.size (I 0) (I D.1) (I D.2.1) (I D.2.2);exact⟨aK h4 tp,aK h5 tp,aK h3 tp⟩) (fun _=>?_);clear hK K t4 q4;refine eT _ ?_;go_wp2_with fail;refine bodyPost_ret (aL rfl rfl Q4.o Tryz.underlying45 rfl) rfl ?_;exact⟨by rw [HDD.o],HTZ.o.trans T4.o (fun i hi e=>by omega)⟩
theorem Xr {α:Type}{p:Ps α}{T:List aH}{s:Bt}(hW:dB p s=FQ (aj p (fun x=>aj (dL 0) fun _=>aB x) T)):(dB p s).2=FR (gF (p T)):=by
 rw [hW];cases hp:p T with
 |bad g=>rw [aA hp];rfl
 |good x r=>
  rw [au hp];show(FQ (aj (dL 0) (fun _=>aB x) r)).2=MN (gF (dL 0 r));cases hk:dL 0 r with
  |bad g=>rw [aA hk];rfl
  |good a r2=>rw [au hk];rfl
theorem Xt {α:Type}{p:Ps α}{T:List aH}{s:Bt}{zero:α}(hW:dB p s=FQ (aj p (fun x=>aj (dL 0) fun _=>aB x) T))(hb:∀g,p T=.bad g->g.2.2≠0):
  ((FR (gF (p T))).2.2=0->∀y,(∀a ts,p T=.good a ts->y=a)->xJ p s zero=y)∧((FR (gF (p T))).2.2≠0->xJ p s zero=zero):=by
 unfold xJ;rw [hW];cases hp:p T with
 |bad g=>
  rw [aA hp];exact⟨fun h=>absurd h (hb g hp),fun _=>rfl⟩
 |good x r=>
  rw [au hp];show((MN (gF (dL 0 r))).2.2=0->∀y,(∀a ts,Pr.good x r=.good a ts->y=a)->(FQ (aj (dL 0) (fun _=>aB x) r)).1.getD zero=y)∧((MN (gF (dL 0 r))).2.2≠0->(FQ (aj (dL 0) (fun _=>aB x) r)).1.getD zero=zero)
  cases hk:dL 0 r with
  |bad g=>
   rw [aA hk];have h7:g.2.2=7:=by
    unfold dL at hk;split at hk
    ·cases hk
    ·injection hk with hk;rw [<-hk]
   exact⟨fun h=>absurd (show g.2.2=0 from h) (by rw [h7];decide),fun _=>rfl⟩
  |good a r2=>
   rw [au hk];exact⟨fun _ y hy=>(hy x r rfl).symm,fun h=>absurd rfl h⟩
theorem eX.aiJ {w:World}{bp B:Nat}{L:List aH}{d:Int}{g:Du}(h:eX w bp B L d (.bad g)):g.2.2≠0:=by
 obtain⟨_,_,_,_,_,_,_,_,_,_,_,_,_,hrel⟩:=h;exact hrel.2.2.2
end Go.Proofs.YtncnnedlgofccaaGreatDoor
