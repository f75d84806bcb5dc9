/- FA, HA, FC -/
import Derived.Test.YtncnnedlgofccaaGreatDoorPT03
import Derived.Test.YtncnnedlgofccaaGreatDoorPT07
set_option linter.unusedSimpArgs false
set_option linter.unusedVariables false
set_option maxRecDepth 100000
namespace Go.Proofs.YtncnnedlgofccaaGreatDoor
open Go.RowKit
def Rk (ts:List aH):Prop:=ts.length<=8193∧∀t∈ts,t.text.length<=100000
theorem Rk.tail {t:aH}{r:List aH}(h:Rk (t :: r)):Rk r:=⟨by have:=h.1;simp at this;omega,fun x hx=>h.2 x (by simp [hx])⟩
def vF (B:Nat)(w:World):Prop:=∀w':World,(∀k,k<B->w'.heap[k]? =w.heap[k]?)->uq w'
theorem GL {w w':World}{name:String}{cs:Array Value}(h:w.var? Tryz.prog name=some cs)(hb:∀k,k<w.heap.size->w'.heap[k]? =w.heap[k]?):w'.var? Tryz.prog name=some cs:=by
 unfold World.var? at h ⊢;cases hg:Tryz.prog.globalNamed name with
 |none=>rw [hg]at h;cases h
 |some g=>
  rw [hg]at h;simp only [Option.bind_some]at h ⊢;by_cases hlt:g<w.heap.size
  ·rw [hb g hlt];exact h
  ·rw [Array.getElem?_eq_none (by omega)]at h;cases h
theorem vF.of {w:World}(h:uq w):vF w.heap.size w:=fun w' hb=>by
 obtain⟨h1,⟨tp,p,h2⟩,⟨tp',p',h3⟩⟩:=h;exact⟨GL h1 hb,⟨tp,p,GL h2 hb⟩,⟨tp',p',GL h3 hb⟩⟩
theorem vF.here {B:Nat}{w:World}(h:vF B w):uq w:=h w (fun _ _=>rfl)
theorem vF.below {B:Nat}{w w':World}(h:vF B w)(hb:Below B w w'):vF B w':=fun w2 h2=>h w2 fun k hk=>(h2 k hk).trans (hb.block k hk)
def GN (B:Nat)(w:World)(v:Value):Prop:=∀b o n c,v=.slice (some ⟨b,o,none⟩) n c->b<B∧∃cs,w.heap[b]? =some (.cells cs 151 (0,0))
theorem GN.below {B:Nat}{w w':World}{v:Value}(h:GN B w v)(hb:Below B w w'):GN B w' v:=fun b o n c e=>by
 obtain⟨h1,cs,h2⟩:=h b o n c e;exact⟨h1,cs,(hb.block b h1).trans h2⟩
theorem GN.behind {B:Nat}{w:World}{b o n c n' c':Nat}{A':Option Addr}(h:GN B w (.slice (some ⟨b,o,none⟩) n c))(hA:∀b' o',A'=some ⟨b',o',none⟩->b'=b):GN B w (.slice A' n' c'):=fun b1 o1 n1 c1 e=>by
 injection e with e _ _;rw [hA b1 o1 e];exact h b o n c rfl
def cu (w:World)(bp B:Nat)(ts:List aH)(d:Int):Prop:=B<=bp∧Rk ts∧Wf ts∧∃v,w.heap[bp]? =some (.cells #[v,I d] 148 (0,0))∧Sl w B 4 v (dD ts)∧vF B w∧GN B w v
section
variable {w w':World}{bp B:Nat}{ts:List aH}{d:Int}{G:Nat->Prop}
theorem cu.lt (h:cu w bp B ts d):bp<w.heap.size:=by
 obtain⟨_,_,_,v,h,_⟩:=h;exact block_lt h
theorem cu.wf (h:cu w bp B ts d):Wf ts:=h.2.2.1
theorem cu.turn (h:cu w bp B ts d)(t:Turn G w w')(hk:¬G bp)(hB:∀k,k<B->¬G k):cu w' bp B ts d:=by
 have hlt:=h.lt;obtain⟨h1,h2,h5,v,h3,h4,h6,h7⟩:=h;have hb:=t.below (B:=B) (by omega) hB;exact⟨h1,h2,h5,v,ah h3 t hk,Sl.below h4 hb,h6.below hb,h7.below hb⟩
theorem cu.laid (h:cu w bp B ts d):vF B w:=h.2.2.2.choose_spec.2.2.1
theorem cu.tok (h:cu w bp B ts d){v:Value}{d':Int}(hb:w.heap[bp]? =some (.cells #[v,I d'] 148 (0,0))):GN B w v:=by
 obtain⟨_,_,_,v',h1,_,_,h7⟩:=h;rw [hb]at h1;injection h1 with h1;injection h1 with h1 _;have h2:[v,I d']=[v',I d]:=congrArg Array.toList h1;injection h2 with h2 _;rw [h2];exact h7
theorem cu.apart (h:cu w bp B ts d)(t:Turn G w w')(hk:¬G bp)(hT:∀g,G g->g<w.heap.size->∃cs T,w.heap[g]? =some (.cells cs T (0,0))∧T≠151)(hL:vF B w'):cu w' bp B ts d:=by
 obtain⟨h1,h2,h5,v,h3,h4,h6,h7⟩:=h;have hg:∀b o n c,v=.slice (some ⟨b,o,none⟩) n c->¬G b:=fun b o n c e hG=>by
  obtain⟨hb,cs,hcs⟩:=h7 b o n c e;obtain⟨cs',T,hT1,hT2⟩:=hT b hG (block_lt hcs);rw [hcs]at hT1;injection hT1 with hT1;injection hT1 with _ hT1;exact hT2 hT1.symm
 refine⟨h1,h2,h5,v,ah h3 t hk,?_,hL,fun b o n c e=>?_⟩
 ·obtain⟨A,n,c,rfl,hl,hn,hc,hx⟩:=h4;refine⟨A,n,c,rfl,hl,hn,hc,fun h0=>?_⟩;obtain⟨b,o,rfl,LK,hcell⟩:=hx h0;refine⟨b,o,rfl,LK,fun j u hu=>?_⟩;obtain⟨_,cs,hcs⟩:=h7 b o n c rfl;have e0:=cell_of_row w b (o+j) _ _ _ hcs;have e1:=cell_of_row w' b (o+j) _ _ _ (ah hcs t (hg b o n c rfl));rw [e1,<-e0];exact hcell j u hu
 ·obtain⟨hb,cs,hcs⟩:=h7 b o n c e;exact⟨hb,cs,ah hcs t (hg b o n c e)⟩
theorem cu.below (h:cu w bp B ts d)(hb:Below w.heap.size w w'):cu w' bp B ts d:=h.turn (Turn.of_below (F:=fun _=>False) hb) id (fun _ _=>id)
theorem cu.open_ (h:cu w bp B ts d):
  ∃b o c t r,ts=t :: r∧r.length+1<=c∧c<=2 ^ 63 - 1∧Rk (t :: r)∧B<=bp∧b<B∧w.heap[bp]? =some (.cells #[.slice (some ⟨b,o,none⟩) (r.length+1) c,I d] 148 (0,0))∧Sl w B 4 (.slice (some ⟨b,o,none⟩) (r.length+1) c) (dD (t :: r))∧
   w.cell? ⟨bp,0,none⟩=some (.slice (some ⟨b,o,none⟩) (r.length+1) c)∧w.cell? ⟨bp,1,none⟩=some (I d)∧(∀i,w.frozen? ⟨bp,i,none⟩=false)∧
   w.cell? ⟨b,o,none⟩=some (I t.kind)∧w.cell? ⟨b,o+1,none⟩=some (sv t.text)∧w.cell? ⟨b,o+2,none⟩=some (I t.line)∧w.cell? ⟨b,o+3,none⟩=some (I t.col):=by
 obtain⟨hB,hL,hw,v,hb,hv,_⟩:=h;have hv':=hv;obtain⟨A,n,c,rfl,hl,hn,hc,hx⟩:=hv';obtain⟨t,r,rfl⟩:∃t r,ts=t :: r:=by
  rcases hw.cases with⟨e,rfl,_⟩ |⟨t,r,rfl,_⟩
  ·exact⟨e,[],rfl⟩
  ·exact⟨t,r,rfl⟩
 obtain rfl:n=r.length+1:=by rw [mG]at hl;simp at hl;omega
 obtain⟨b,o,rfl,LK,hcell⟩:=hx (by omega);unfold maxLen at hc;have c0:=hcell 0 _ (show(dD (t :: r))[0]? =some (I t.kind)from rfl);have c1:=hcell 1 _ (show(dD (t :: r))[1]? =some (sv t.text)from rfl);have c2:=hcell 2 _ (show(dD (t :: r))[2]? =some (I t.line)from rfl);have c3:=hcell 3 _ (show(dD (t :: r))[3]? =some (I t.col)from rfl);rw [Nat.add_zero]at c0;exact⟨b,o,c,t,r,rfl,hn,hc,hL,hB,LK,hb,hv,(dY hb),(dY hb),fun i=>frozen_of_row _ _ _ _ _ hb,c0,c1,c2,c3⟩
theorem cu.text {b o:Nat}{s:Bt}(h:cu w bp B ts d)(hc:w.cell? ⟨b,o,none⟩=some (sv s)):b≠bp:=by
 rintro rfl;obtain⟨_,_,_,v,h,hv,_⟩:=h;obtain⟨A,n,c,rfl,_⟩:=hv;rw [cell_of_row _ _ _ _ _ _ h]at hc;rcases o with _ |_ |o
 ·cases hc
 ·cases hc
 ·cases hc
theorem KA {b o c:Nat}{t:aH}{r:List aH}(h:Sl w B 4 (.slice (some ⟨b,o,none⟩) (r.length+1) c) (dD (t :: r))):
  ∃A',(∀b' o',A'=some ⟨b',o',none⟩->b'=b)∧Sl w B 4 (.slice A' r.length (c - 1)) (dD r)∧∀w,(Instr.slice 139 (.slice (some ⟨b,o,none⟩) (r.length+1) c) (some (I 1)) none none).run Tryz.prog w=.ok (.slice A' r.length (c - 1)) w:=by
 obtain⟨A,n,c',hv,hl,hn,hc,hx⟩:=h;injection hv with hv1 hv2 hv3;subst hv1 hv2 hv3;obtain⟨b',o',hA,hb,hcell⟩:=hx (by omega);injection hA with hA;injection hA with hA1 hA2;subst hA1 hA2;refine⟨if c=1 then some ⟨b,o,none⟩else some ⟨b,o+4,none⟩,fun b' o' e=>?_,⟨_,_,_,rfl,by rw [mG],by omega,by unfold maxLen at*;omega,fun h0=>?_⟩,fun w=>?_⟩
 ·split at e <;> (injection e with e;injection e with e _;exact e.symm)
 ·rw [if_neg (by omega)];refine⟨b,o+4,rfl,hb,fun j u hu=>?_⟩;have:(dD (t :: r))[4+j]? =some u:=by
   rw [show dD (t :: r)=oK t++dD r from rfl,List.getElem?_append_right (by show 4<=4+j;omega)];rw [show 4+j - (oK t).length=j by show 4+j - 4=j;omega];exact hu
  have:=hcell _ u this;rwa [<-Nat.add_assoc]at this
 ·have h0:(0:Int)<=((1:Nat):Int):=by omega
  have h1:¬((r.length:Int)+1<1):=by omega
  go_simp
end
abbrev GQ (d:Du):Ending:= .panicked [{ v:= .iface 143 (.agg #[I 0,I d.1,I d.2.1,I d.2.2]),recovered:=false}]
def AP (w:World)(bp:Nat):Prop:=∃v d,w.heap[bp]? =some (.cells #[v,I d] 148 (0,0))
def fJ (bp:Nat)(w w':World):Prop:=Turn (fun k=>k=bp) w w'∧AP w' bp
theorem cu.bp {w:World}{bp B:Nat}{ts:List aH}{d:Int}(h:cu w bp B ts d):AP w bp:=by
 obtain⟨_,_,_,v,h,_⟩:=h;exact⟨v,d,h⟩
theorem AP.turn {w w':World}{bp:Nat}{G:Nat->Prop}(h:AP w bp)(t:Turn G w w')(hk:¬G bp):AP w' bp:=by
 obtain⟨v,d,h⟩:=h;exact⟨v,d,ah h t hk⟩
theorem fJ.below {bp:Nat}{a b c:World}(t:Turn (fun k=>k=bp) a b)(h:AP b bp)(hb:Below b.heap.size b c):fJ bp a c:=⟨t.trans (Turn.of_below (F:=fun k=>k=bp) hb),h.turn (Turn.of_below (F:=fun _=>False) hb) id⟩
def aJ {α:Type}(P:World->Value->α->Prop)(bp B:Nat)(d:Int)(w:World)(q:Pr α)(e:Ending)(w':World):Prop:=
 match q with
  |.good x r=>∃v,e=.returned v∧Turn (fun k=>k=bp) w w'∧P w' v x∧cu w' bp B r d
  |.bad g=>e=GQ g∧fJ bp w w'
section
variable {α:Type}{P:World->Value->α->Prop}{bp B:Nat}{d:Int}{w w':World}{q:Pr α}{e:Ending}
theorem aJ.cB {g:Du}(h:aJ P bp B d w q e w')(hq:q=.bad g):e=GQ g∧fJ bp w w':=by
 subst hq;exact h
theorem aJ.aQ {x:α}{r:List aH}(h:aJ P bp B d w q e w')(hq:q=.good x r):∃v,e=.returned v∧Turn (fun k=>k=bp) w w'∧P w' v x∧cu w' bp B r d:=by
 subst hq;exact h
theorem aJ.fail {g:Du}(hq:q=.bad g)(t:fJ bp w w'):aJ P bp B d w q (GQ g) w':=by
 subst hq;exact⟨rfl,t⟩
theorem aJ.done {x:α}{r:List aH}{v:Value}(hq:q=.good x r)(t:Turn (fun k=>k=bp) w w')(hP:P w' v x)(hR:cu w' bp B r d):aJ P bp B d w q (.returned v) w':=by
 subst hq;exact⟨v,rfl,t,hP,hR⟩
end
def PTy (base:Nat)(w:World)(v:Value)(t:bZ):Prop:=∃z,v=.agg z.toArray∧nT w (fun j=>base<=j) z t
def F6 (base:Nat)(w:World)(v:Value)(t:bW):Prop:=∃z,v=.agg z.toArray∧sV w (fun j=>base<=j) z t
def av {α β:Type}(q:Pr β)(p:Ps α):Pr α:=match q with
 |.good _ ts=>p ts
 |.bad g=>.bad g
def gF {α:Type}(q:Pr α):Pr Unit:=match q with
 |.good _ ts=>.good () ts
 |.bad g=>.bad g
theorem AQ {α β γ:Type}(q:Pr γ)(p:Ps α)(f:α->Ps β):av q (aj p f)=(match av q p with |.good a ts=>f a ts |.bad g=>.bad g):=by
 cases q with
 |bad g=>rfl
 |good a ts=>
  show aj p f ts=(match p ts with |.good a ts=>f a ts |.bad g=>.bad g)
  unfold aj;cases p ts <;> rfl
theorem bA {α β:Type}{q:Pr Unit}{p:Ps α}{f:α->Ps β}{R:Pr β}{x:α}(hq:av q (aj p f)=R)(hx:∀a ts,av q p=.good a ts->x=a):av (gF (av q p)) (f x)=R:=by
 rw [<-hq,AQ];rcases h:av q p with g |⟨a,ts⟩
 ·rfl
 ·rw [hx a ts h];rfl
theorem JF {α:Type}{q:Pr Unit}{x:α}{R:Pr α}(hq:av q (aB x)=R):gF R=q∧∀a ts,R=.good a ts->x=a:=by
 subst hq;cases q with
 |bad g=>exact⟨rfl,fun a ts h=>by cases h⟩
 |good u ts=>exact⟨rfl,fun a ts h=>by injection h⟩
theorem j4 {α:Type}(p:Ps α)(u:Unit)(ts:List aH):av (.good u ts) p=p ts:=rfl
def qR (q:Pr Bool):Bool:=match q with |.good b _=>b |.bad _=>false
def zK (q:Pr Unit)(s:Bt):Prop:=∀u ts,q=.good u ts->kU (aR ts) s=false
theorem bf {q:Pr Unit}{s:Bt}(h:qR (av q (bD s))=true):∃t r,q=.good () (t :: r)∧kU t s=true∧gF (av q (bD s))=.good () r:=by
 cases q with
 |bad g=>cases h
 |good u ts=>
  cases ts with
  |nil=>
   have e:bD s []=.good false []:=by unfold bD;rw [if_neg (by simp [aR,kU])]
   rw [j4,e]at h;cases h
  |cons t r=>
   cases ht:kU t s with
   |false=>rw [j4,AL ht]at h;cases h
   |true=>exact⟨t,r,rfl,ht,by rw [j4,uj ht];rfl⟩
theorem aS {q:Pr Unit}{s:Bt}(h:qR (av q (bD s))=false):gF (av q (bD s))=q∧zK q s:=by
 cases q with
 |bad g=>exact⟨rfl,fun u ts h=>by cases h⟩
 |good u ts=>
  by_cases ht:kU (aR ts) s=true
  ·have e:bD s ts=.good true (ts.drop 1):=by unfold bD;rw [if_pos ht]
   rw [j4,e]at h;cases h
  ·have e:bD s ts=.good false ts:=by unfold bD;rw [if_neg ht]
   refine⟨by rw [j4,e];rfl,fun u' ts' h=>?_⟩;injection h with _ h;subst h;simpa using ht
theorem YR {t:aH}{s x:Bt}(h:kU t s=true):kU t x=(s==x):=by
 unfold kU at h ⊢;simp only [Bool.and_eq_true,beq_iff_eq]at h;rw [h.1,h.2,Bool.true_and]
theorem YS {l:List Bt}{i:Nat}{t:aH}{s:Bt}(r:List aH)(h:kU t s=true)(hl:l.findIdx? (fun x=>s==x)=some i):dK l (t :: r)=.good (some i) r:=
 Gw (by rw [show kU t=fun x=>s==x from funext fun x=>YR h];exact hl) r
theorem AU {α:Type}{l:List Bt}{q:Pr Unit}{f:Option Nat->Ps α}(h:∀s∈l,zK q s):av q (aj (dK l) f)=av q (f none):=by
 cases q with
 |bad g=>rfl
 |good u ts=>
  have e:dK l ts=.good none ts:=by
   unfold dK;rw [show l.findIdx? (kU (aR ts))=none from List.findIdx?_eq_none_iff.mpr fun s hs=>h s hs u ts rfl]
  exact au e
theorem Nz {α:Type}{s:Bt}{q:Pr Unit}{f:Bool->Ps α}(h:zK q s):av q (aj (bD s) f)=av q (f false):=by
 cases q with
 |bad g=>rfl
 |good u ts=>exact au (by unfold bD;rw [if_neg (by rw [h u ts rfl];simp)])
theorem Ca:∀(l:List aH) (i:Nat) (hi:i<l.length),(dD l)[i*4]? =some (I l[i].kind)∧(dD l)[i*4+1]? =some (sv l[i].text)∧(dD l)[i*4+2]? =some (I (l[i].line:Nat))∧(dD l)[i*4+3]? =some (I (l[i].col:Nat)):=by
 intro l;induction l with
 |nil=>intro i hi;simp at hi
 |cons t l ih=>
  intro i hi;have e:dD (t :: l)=oK t++dD l:=rfl;have hl:(oK t).length=4:=rfl;rw [e];rcases i with _ |i
  ·exact⟨rfl,rfl,rfl,rfl⟩
  ·obtain⟨a,b,c,d⟩:=ih i (by simpa using hi);rw [show(i+1)*4=i*4+4 from by omega];refine⟨?_,?_,?_,?_⟩
   ·rw [List.getElem?_append_right (by omega),hl];simpa using a
   ·rw [List.getElem?_append_right (by omega),hl,show i*4+4+1 - 4=i*4+1 from by omega];simpa using b
   ·rw [List.getElem?_append_right (by omega),hl,show i*4+4+2 - 4=i*4+2 from by omega];simpa using c
   ·rw [List.getElem?_append_right (by omega),hl,show i*4+4+3 - 4=i*4+3 from by omega];simpa using d
theorem gu {w:World}{b:Nat}{a0 a1 a2 a3 a4 a5:Value}{t:TypeId}(h:w.heap[b]? =some (.cells #[a0,a1,a2,a3,a4,a5] t (0,0))):w.cell? ⟨b,0,none⟩=some a0∧w.cell? ⟨b,1,none⟩=some a1∧w.cell? ⟨b,2,none⟩=some a2∧w.cell? ⟨b,3,none⟩=some a3∧w.cell? ⟨b,4,none⟩=some a4∧w.cell? ⟨b,5,none⟩=some a5∧∀i,w.frozen? ⟨b,i,none⟩=false:=
 ⟨(dY h),(dY h),(dY h),(dY h),(dY h),(dY h),fun i=>frozen_of_row _ _ _ _ _ h⟩
def anE (L:List aH)(k:Nat)(dd e:Int)(ln cn:Nat)(d:Int)(q:Pr Unit):Prop:=match q with
 |.good _ ts=>ts=L.drop k∧Wf ts∧dd=d∧e=0∧ln=0∧cn=0
 |.bad g=>e=g.2.2∧ln=g.1∧cn=g.2.1∧g.2.2≠0
def eX (w:World)(bp B:Nat)(L:List aH)(d:Int)(q:Pr Unit):Prop:=B<=bp∧Rk L∧Wf L∧∃(v:Value) (k:Nat) (dd e:Int) (ln cn:Nat),
 w.heap[bp]? =some (.cells #[v,I k,I dd,I e,I ln,I cn] 156 (0,0))∧Sl w B 4 v (dD L)∧k<L.length∧In64 dd∧anE L k dd e ln cn d q
section
variable {w w':World}{bp B:Nat}{L:List aH}{d:Int}{q:Pr Unit}{G:Nat->Prop}
theorem eX.lt (h:eX w bp B L d q):bp<w.heap.size:=by
 obtain⟨_,_,_,v,k,dd,e,ln,cn,h,_⟩:=h;exact block_lt h
theorem eX.turn (h:eX w bp B L d q)(t:Turn G w w')(hk:¬G bp)(hB:∀k,k<B->¬G k):eX w' bp B L d q:=by
 have hlt:=h.lt;obtain⟨h1,h2,h3,v,k,dd,e,ln,cn,h4,h5,h6⟩:=h;exact⟨h1,h2,h3,v,k,dd,e,ln,cn,ah h4 t hk,Sl.below h5 (t.below (by omega) hB),h6⟩
theorem eX.below (h:eX w bp B L d q)(hb:Below w.heap.size w w'):eX w' bp B L d q:=h.turn (Turn.of_below (F:=fun _=>False) hb) id (fun _ _=>id)
theorem eX.open_ (h:eX w bp B L d q):∃(b o c k:Nat) (dd e:Int) (ln cn:Nat),∃hk:k<L.length,L.length<=c∧c<=2 ^ 63 - 1∧b<B∧In64 dd∧anE L k dd e ln cn d q∧
  w.heap[bp]? =some (.cells #[.slice (some ⟨b,o,none⟩) L.length c,I k,I dd,I e,I ln,I cn] 156 (0,0))∧
  w.cell? ⟨b,o+k*4,none⟩=some (I (L[k]'hk).kind)∧w.cell? ⟨b,o+k*4+1,none⟩=some (sv (L[k]'hk).text)∧w.cell? ⟨b,o+k*4+2,none⟩=some (I ((L[k]'hk).line:Nat))∧w.cell? ⟨b,o+k*4+3,none⟩=some (I ((L[k]'hk).col:Nat)):=by
 obtain⟨h1,h2,h3,v,k,dd,e,ln,cn,h4,h5,h6,h7,h8⟩:=h;obtain⟨A,n,c,rfl,hl,hn,hc,hx⟩:=h5;obtain rfl:n=L.length:=by rw [mG]at hl;omega
 obtain⟨b,o,rfl,hb,hcell⟩:=hx (by omega);unfold maxLen at hc;obtain⟨g0,g1,g2,g3⟩:=Ca L k h6;have c0:=hcell _ _ g0;have c1:=hcell _ _ g1;have c2:=hcell _ _ g2;have c3:=hcell _ _ g3;rw [<-Nat.add_assoc]at c1 c2 c3;exact⟨b,o,c,k,dd,e,ln,cn,h6,hn,hc,hb,h7,h8,h4,c0,c1,c2,c3⟩
end
def bT {α:Type}(P:World->Value->α->Prop)(bp B:Nat)(L:List aH)(d:Int)(w:World)(r:Pr α)(e:Ending)(w':World):Prop:=
 Turn (fun k=>k=bp) w w'∧∃v x,e=.returned v∧P w' v x∧(∀a ts,r=.good a ts->x=a)∧eX w' bp B L d (gF r)
theorem bT.done {α:Type}{P:World->Value->α->Prop}{bp B:Nat}{L:List aH}{d:Int}{w w':World}{R:Pr α}{v:Value}{x:α}{q:Pr Unit}(hq:av q (aB x)=R)(t:Turn (fun k=>k=bp) w w')(hP:P w' v x)(hk:eX w' bp B L d q):bT P bp B L d w R (.returned v) w':=by
 obtain⟨e,h⟩:=JF hq;exact⟨t,v,x,rfl,hP,h,by rw [e];exact hk⟩
def wP (t:aH):Value:= .agg #[I t.kind,sv t.text,I t.line,I t.col]
theorem nN (w:World)(bp B:Nat)(ts:List aH)(d:Int)(h:cu w bp B ts d):
  Calls Tryz.prog 78 #[pP bp 0] w fun e w'=>e=.returned (wP (aR ts))∧Below w.heap.size w w':=by
 have hlt:=h.lt;obtain⟨b,o,c,t,r,rfl,hc,hcm,hl,hB,hb,hbk,hs,d0,d1,z0,c0,c1,c2,c3⟩:=h.open_;have hbs:b<w.heap.size:=by omega
 clear h hs hbk;rw [show aR (t :: r)=t from rfl];unfold wP;go_enter Tryz.func78,Tryz.ntmps78;go_wp2_with fail;refine bodyPost_ret (aL rfl rfl (heap_alloc_new w _) Tryz.underlying151 rfl) rfl ?_;exact⟨rfl,o9 _ _⟩
theorem Rl (w:World)(t:aH)(s:Bt):Calls Tryz.prog 167 #[wP t,sv s] w fun e w'=>e=.returned (.bool (kU t s))∧Below w.heap.size w w':=by
 obtain⟨k,x,l,c⟩:=t;unfold wP kU;simp only;by_cases h2:k=2
 ·subst h2;cases hq:(x==s)
  ·rw [show((2:Int)==2 || (2:Int)==5)=true from rfl,Bool.true_and];go_enter Tryz.func167,Tryz.ntmps167;go_wp2_with fail;go_ret;exact⟨rfl,o9 _ _⟩
  ·rw [show((2:Int)==2 || (2:Int)==5)=true from rfl,Bool.true_and];go_enter Tryz.func167,Tryz.ntmps167;go_wp2_with fail;go_ret;exact⟨rfl,o9 _ _⟩
 ·by_cases h5:k=5
  ·subst h5;cases hq:(x==s)
   ·rw [show((5:Int)==2 || (5:Int)==5)=true from rfl,Bool.true_and];go_enter Tryz.func167,Tryz.ntmps167;go_wp2_with fail;go_ret;exact⟨rfl,o9 _ _⟩
   ·rw [show((5:Int)==2 || (5:Int)==5)=true from rfl,Bool.true_and];go_enter Tryz.func167,Tryz.ntmps167;go_wp2_with fail;go_ret;exact⟨rfl,o9 _ _⟩
  ·rw [beq_false_of_ne h2,beq_false_of_ne h5,Bool.false_or,Bool.false_and];go_enter Tryz.func167,Tryz.ntmps167;go_wp2_with fail;go_ret;exact⟨rfl,o9 _ _⟩
theorem zl (w:World)(bp B:Nat)(ts:List aH)(d:Int)(g:Int)(h:cu w bp B ts d):
  Calls Tryz.prog 134 #[pP bp 0,I g] w fun e w'=>e=GQ ((aR ts).line,(aR ts).col,g)∧Below w.heap.size w w':=by
 have HN:=aO (nN w bp B ts d h);have LM:=aO (fun(w1:World) (hb:Below w.heap.size w w1)=>nN w1 bp B ts d (h.below hb));clear h;generalize aR ts=t at*
 go_enter Tryz.func134,Tryz.ntmps134;go_wp2_with fail;refine HN.o.mono ?_;rintro e w1 ⟨rfl,hb⟩;have HB:=aO hb;have f2:∀w:World,(Instr.field 151 (wP t) 2).run Tryz.prog w=.ok (I t.line) w:=fun _=>by kernel_rfl
 have f3:∀w:World,(Instr.field 151 (wP t) 3).run Tryz.prog w=.ok (I t.col) w:=fun _=>by kernel_rfl
 clear hb;go_wp2_with fail;refine(LM.o _ HB.o).mono ?_;rintro e w2 ⟨rfl,hb⟩;have HB2:=aO (HB.o.trans (hb.mono HB.o.size));clear hb;go_wp2_with fail;exact⟨rfl,rfl,HB2.o⟩
end Go.Proofs.YtncnnedlgofccaaGreatDoor
