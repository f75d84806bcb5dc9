/- HA, MX, MC, FC, MQ, FD, FE, FF, FG, FJ -/
import Derived.Test.YtfgjkmipfikooaaGreatDoorTEQ
import Derived.Test.YtfgjkmipfikooaaGreatDoorTE02
import Derived.Test.YtfgjkmipfikooaaGreatDoorTE05
import Derived.Deep.RegionHeld
import Derived.WalkKit
import Derived.Defers
import Derived.Test.YtfgjkmipfikooaaGreatDoorTE01
import Derived.Recover
set_option linter.unusedSimpArgs false
set_option linter.unusedVariables false
set_option maxRecDepth 100000
set_option maxHeartbeats 4000000
namespace Go.Proofs.YtfgjkmipfikooaaGreatDoor
open Go.RowKit
def aA {α β:Type}(q:Pr β)(p:Ps α):Pr α:=match q with
 |.good _ ts=>p ts
 |.bad g=>.bad g
def ig {α:Type}(q:Pr α):Pr Unit:=match q with
 |.good _ ts=>.good () ts
 |.bad g=>.bad g
theorem za {α β γ:Type}(q:Pr γ)(p:Ps α)(f:α->Ps β):aA q (aj p f)=(match aA q p with |.good a ts=>f a ts |.bad g=>.bad g):=by
 cases q with
 |bad g=>rfl
 |good a ts=>
  show aj p f ts=(match p ts with |.good a ts=>f a ts |.bad g=>.bad g)
  unfold aj;cases p ts <;> rfl
theorem bW {α β:Type}{q:Pr Unit}{p:Ps α}{f:α->Ps β}{R:Pr β}{x:α}(hq:aA q (aj p f)=R)(hx:∀a ts,aA q p=.good a ts->x=a):aA (ig (aA q p)) (f x)=R:=by
 rw [<-hq,za];rcases h:aA q p with g |⟨a,ts⟩
 ·rfl
 ·rw [hx a ts h];rfl
theorem WO {α:Type}{q:Pr Unit}{x:α}{R:Pr α}(hq:aA q (aF x)=R):ig R=q∧∀a ts,R=.good a ts->x=a:=by
 subst hq;cases q with
 |bad g=>exact⟨rfl,fun a ts h=>by cases h⟩
 |good u ts=>exact⟨rfl,fun a ts h=>by injection h⟩
theorem jv {α:Type}(p:Ps α)(u:Unit)(ts:List aI):aA (.good u ts) p=p ts:=rfl
def sH (q:Pr Bool):Bool:=match q with |.good b _=>b |.bad _=>false
def yc (q:Pr Unit)(s:Bt):Prop:=∀u ts,q=.good u ts->jA (aS ts) s=false
theorem bF {q:Pr Unit}{s:Bt}(h:sH (aA q (bM s))=true):∃t r,q=.good () (t :: r)∧jA t s=true∧ig (aA q (bM s))=.good () r:=by
 cases q with
 |bad g=>cases h
 |good u ts=>
  cases ts with
  |nil=>
   have e:bM s []=.good false []:=by unfold bM;rw [if_neg (by simp [aS,jA])]
   rw [jv,e]at h;cases h
  |cons t r=>
   cases ht:jA t s with
   |false=>rw [jv,yZ ht]at h;cases h
   |true=>exact⟨t,r,rfl,ht,by rw [jv,qR ht];rfl⟩
theorem bg {q:Pr Unit}{s:Bt}(h:sH (aA q (bM s))=false):ig (aA q (bM s))=q∧yc q s:=by
 cases q with
 |bad g=>exact⟨rfl,fun u ts h=>by cases h⟩
 |good u ts=>
  by_cases ht:jA (aS ts) s=true
  ·have e:bM s ts=.good true (ts.drop 1):=by unfold bM;rw [if_pos ht]
   rw [jv,e]at h;cases h
  ·have e:bM s ts=.good false ts:=by unfold bM;rw [if_neg ht]
   refine⟨by rw [jv,e];rfl,fun u' ts' h=>?_⟩;injection h with _ h;subst h;simpa using ht
theorem WQ {t:aI}{s x:Bt}(h:jA t s=true):jA t x=(s==x):=by
 unfold jA at h ⊢;simp only [Bool.and_eq_true,beq_iff_eq]at h;rw [h.1,h.2,Bool.true_and]
theorem WR {l:List Bt}{i:Nat}{t:aI}{s:Bt}(r:List aI)(h:jA t s=true)(hl:l.findIdx? (fun x=>s==x)=some i):dA l (t :: r)=.good (some i) r:=
 EM (by rw [show jA t=fun x=>s==x from funext fun x=>WQ h];exact hl) r
theorem ze {α:Type}{l:List Bt}{q:Pr Unit}{f:Option Nat->Ps α}(h:∀s∈l,yc q s):aA q (aj (dA l) f)=aA q (f none):=by
 cases q with
 |bad g=>rfl
 |good u ts=>
  have e:dA l ts=.good none ts:=by
   unfold dA;rw [show l.findIdx? (jA (aS ts))=none from List.findIdx?_eq_none_iff.mpr fun s hs=>h s hs u ts rfl]
  exact au e
theorem Lu {α:Type}{s:Bt}{q:Pr Unit}{f:Bool->Ps α}(h:yc q s):aA q (aj (bM s) f)=aA q (f false):=by
 cases q with
 |bad g=>rfl
 |good u ts=>exact au (by unfold bM;rw [if_neg (by rw [h u ts rfl];simp)])
theorem zX:∀(l:List aI) (i:Nat) (hi:i<l.length),(dw l)[i*4]? =some (.int .i64 l[i].kind)∧(dw l)[i*4+1]? =some (sv l[i].text)∧(dw l)[i*4+2]? =some (.int .i64 (l[i].line:Nat))∧(dw l)[i*4+3]? =some (.int .i64 (l[i].col:Nat)):=by
 intro l;induction l with
 |nil=>intro i hi;simp at hi
 |cons t l ih=>
  intro i hi;have e:dw (t :: l)=ny t++dw l:=rfl;have hl:(ny t).length=4:=rfl;rw [e];rcases i with _ |i
  ·exact⟨rfl,rfl,rfl,rfl⟩
  ·obtain⟨a,b,c,d⟩:=ih i (by simpa using hi);rw [show(i+1)*4=i*4+4 from by omega];refine⟨?_,?_,?_,?_⟩
   ·rw [List.getElem?_append_right (by omega),hl];simpa using a
   ·rw [List.getElem?_append_right (by omega),hl,show i*4+4+1 - 4=i*4+1 from by omega];simpa using b
   ·rw [List.getElem?_append_right (by omega),hl,show i*4+4+2 - 4=i*4+2 from by omega];simpa using c
   ·rw [List.getElem?_append_right (by omega),hl,show i*4+4+3 - 4=i*4+3 from by omega];simpa using d
theorem gu {w:World}{b:Nat}{a0 a1 a2 a3 a4 a5:Value}{t:TypeId}(h:w.heap[b]? =some (.cells #[a0,a1,a2,a3,a4,a5] t (0,0))):w.cell? ⟨b,0,none⟩=some a0∧w.cell? ⟨b,1,none⟩=some a1∧w.cell? ⟨b,2,none⟩=some a2∧w.cell? ⟨b,3,none⟩=some a3∧w.cell? ⟨b,4,none⟩=some a4∧w.cell? ⟨b,5,none⟩=some a5∧∀i,w.frozen? ⟨b,i,none⟩=false:=
 ⟨(cell_of_row _ _ _ _ _ _ h).trans rfl,(cell_of_row _ _ _ _ _ _ h).trans rfl,(cell_of_row _ _ _ _ _ _ h).trans rfl,(cell_of_row _ _ _ _ _ _ h).trans rfl,(cell_of_row _ _ _ _ _ _ h).trans rfl,(cell_of_row _ _ _ _ _ _ h).trans rfl,fun i=>frozen_of_row _ _ _ _ _ h⟩
def ajF (L:List aI)(k:Nat)(dd e:Int)(ln cn:Nat)(d:Int)(q:Pr Unit):Prop:=match q with
 |.good _ ts=>ts=L.drop k∧Wf ts∧dd=d∧e=0∧ln=0∧cn=0
 |.bad g=>e=g.2.2∧ln=g.1∧cn=g.2.1∧g.2.2≠0
def eF (w:World)(bp B:Nat)(L:List aI)(d:Int)(q:Pr Unit):Prop:=B<=bp∧Pf L∧Wf L∧∃(v:Value) (k:Nat) (dd e:Int) (ln cn:Nat),
 w.heap[bp]? =some (.cells #[v,.int .i64 k,.int .i64 dd,.int .i64 e,.int .i64 ln,.int .i64 cn] 159 (0,0))∧Sl w B 4 v (dw L)∧k<L.length∧In64 dd∧ajF L k dd e ln cn d q
section
variable {w w':World}{bp B:Nat}{L:List aI}{d:Int}{q:Pr Unit}{G:Nat->Prop}
theorem eF.lt (h:eF w bp B L d q):bp<w.heap.size:=by
 obtain⟨_,_,_,v,k,dd,e,ln,cn,h,_⟩:=h;exact block_lt h
theorem eF.turn (h:eF w bp B L d q)(t:Turn G w w')(hk:¬G bp)(hB:∀k,k<B->¬G k):eF w' bp B L d q:=by
 have hlt:=h.lt;obtain⟨h1,h2,h3,v,k,dd,e,ln,cn,h4,h5,h6⟩:=h;exact⟨h1,h2,h3,v,k,dd,e,ln,cn,ah h4 t hk,Sl.below h5 (t.below (by omega) hB),h6⟩
theorem eF.below (h:eF w bp B L d q)(hb:Below w.heap.size w w'):eF w' bp B L d q:=h.turn (Turn.of_below (F:=fun _=>False) hb) id (fun _ _=>id)
theorem eF.open_ (h:eF w bp B L d q):∃(b o c k:Nat) (dd e:Int) (ln cn:Nat),∃hk:k<L.length,L.length<=c∧c<=2 ^ 63 - 1∧b<B∧In64 dd∧ajF L k dd e ln cn d q∧
  w.heap[bp]? =some (.cells #[.slice (some ⟨b,o,none⟩) L.length c,.int .i64 k,.int .i64 dd,.int .i64 e,.int .i64 ln,.int .i64 cn] 159 (0,0))∧
  w.cell? ⟨b,o+k*4,none⟩=some (.int .i64 (L[k]'hk).kind)∧w.cell? ⟨b,o+k*4+1,none⟩=some (sv (L[k]'hk).text)∧w.cell? ⟨b,o+k*4+2,none⟩=some (.int .i64 ((L[k]'hk).line:Nat))∧w.cell? ⟨b,o+k*4+3,none⟩=some (.int .i64 ((L[k]'hk).col:Nat)):=by
 obtain⟨h1,h2,h3,v,k,dd,e,ln,cn,h4,h5,h6,h7,h8⟩:=h;obtain⟨A,n,c,rfl,hl,hn,hc,hx⟩:=h5;obtain rfl:n=L.length:=by rw [lC]at hl;omega
 obtain⟨b,o,rfl,hb,hcell⟩:=hx (by omega);unfold maxLen at hc;obtain⟨g0,g1,g2,g3⟩:=zX L k h6;have c0:=hcell _ _ g0;have c1:=hcell _ _ g1;have c2:=hcell _ _ g2;have c3:=hcell _ _ g3;rw [<-Nat.add_assoc]at c1 c2 c3;exact⟨b,o,c,k,dd,e,ln,cn,h6,hn,hc,hb,h7,h8,h4,c0,c1,c2,c3⟩
end
def dh {α:Type}(P:World->Value->α->Prop)(bp B:Nat)(L:List aI)(d:Int)(w:World)(r:Pr α)(e:Ending)(w':World):Prop:=
 Turn (fun k=>k=bp) w w'∧∃v x,e=.returned v∧P w' v x∧(∀a ts,r=.good a ts->x=a)∧eF w' bp B L d (ig r)
theorem dh.done {α:Type}{P:World->Value->α->Prop}{bp B:Nat}{L:List aI}{d:Int}{w w':World}{R:Pr α}{v:Value}{x:α}{q:Pr Unit}(hq:aA q (aF x)=R)(t:Turn (fun k=>k=bp) w w')(hP:P w' v x)(hk:eF w' bp B L d q):dh P bp B L d w R (.returned v) w':=by
 obtain⟨e,h⟩:=WO hq;exact⟨t,v,x,rfl,hP,h,by rw [e];exact hk⟩
section
variable {P:Program}{ops:Array Oper}{Q:Exit->Act->World->Prop}{md:Region.Mode}{S:World->Prop}{x:Nat}
def AnyX (P:Program)(md:Region.Mode)(ops:Array Oper)(Q:Exit->Act->World->Prop)(S:World->Prop)(x:Nat):Nat->Array Bool->Act->World->Prop
 |0,listed,a,w=>Region.ready md ops listed=[]∧Q .normal a w
 |fuel+1,listed,a,w=>
  (Region.ready md ops listed=[]->Q .normal a w)∧
  ∀i∈Region.ready md ops listed,wpOp P ops Q i (fun a' w'=>((listed.setIfInBounds i true).getD x true=false->S w')∧AnyX P md ops Q S x fuel (listed.setIfInBounds i true) a' w') a w
theorem Lv:∀(fuel:Nat) (listed:Array Bool) (a:Act) (w:World),AnyX P md ops Q S x fuel listed a w->wpAny P md ops Q fuel listed a w
 |0,_,_,_,h=>h
 |fuel+1,_,_,_,h=>⟨h.1,fun i hi=>wpOp_mono (fun a' w' h'=>Lv fuel _ a' w' h'.2) (h.2 i hi)⟩
def waits (md:Region.Mode)(ops:Array Oper)(x i:Nat):Bool:=match ops[x]? with
 |none=>false
 |some o=>(x != i) && o.after.any fun e=>Region.binds md e && e.on==i
theorem Pg {i:Nat}(h:waits md ops x i=true):x≠i∧∃o,ops[x]? =some o∧∃e∈o.after,Region.binds md e=true∧e.on=i:=by
 unfold waits at h;split at h
 ·cases h
 ·rename_i o ho
  simp only [Bool.and_eq_true,bne_iff_ne,Array.any_eq_true',beq_iff_eq]at h;obtain⟨h1,e,he,h2,h3⟩:=h;exact⟨h1,o,ho,e,he,h2,h3⟩
theorem Fb {i:Nat}{oi:Oper}{v:Value}(hi:ops[i]? =some oi)(hsel:∀(j:Nat) (o:Oper) cs b,ops[j]? =some o->o.op≠ .select cs b)
  (hQ:∀c a w,Q (.panic c) (a.put oi.dst v) w->Q (.panic c) a w) (hx:waits md ops x i=true):
  ∀(fuel:Nat) (listed:Array Bool) (a:Act) (w:World),
   (∀j oj,ops[j]? =some oj->j≠i->listed.getD j true=false->(∀e∈oj.after,Region.binds md e=true->e.on≠i)->oi.apart ops oj=true)->
   i∈Region.ready md ops listed->YieldsIf P ops S oi v a->S w->listed.getD x true=false->
   AnyX P md ops Q S x fuel (listed.setIfInBounds i true) (a.put oi.dst v) w->AnyX P md ops Q S x (fuel+1) listed a w:=by
 obtain⟨hxi,ox,hox,ex,hex,hbx,apy⟩:=Pg hx;intro fuel;induction fuel with
 |zero=>
  intro listed a w _ hr hy hS hl H;refine⟨fun h=>(by rw [h]at hr;cases hr),fun j hj=>?_⟩;by_cases hji:j=i
  ·subst hji;exact hy.wpOp hi hS ⟨fun _=>hS,H⟩
  ·have:=ready_mono hj hji;rw [H.1]at this;cases this
 |succ fuel ih=>
  intro listed a w hfree hr hy hS hl H;refine⟨fun h=>(by rw [h]at hr;cases hr),fun j hj=>?_⟩;by_cases hji:j=i
  ·subst hji;exact hy.wpOp hi hS ⟨fun _=>hS,H⟩
  ·have h1:=H.2 j (ready_mono hj hji);obtain⟨hjun,oj,hoj,hall⟩:=mem_ready.1 hj;have hnot:∀e∈oj.after,Region.binds md e=true->e.on≠i:=fun e he hb heq=>by
    have h1:=hall e he hb;have h0:=(mem_ready.1 hr).1;rw [heq]at h1;rcases Nat.lt_or_ge i listed.size with h' |h'
    ·simp [h']at h0 h1;rw [h0]at h1;cases h1
    ·simp [Array.getElem?_eq_none h']at h1
   have hjx:j≠x:=fun e=>by
    subst e;rw [hox]at hoj;injection hoj with hoj;subst hoj;exact hnot ex hex hbx apy
   have hl2:(listed.setIfInBounds j true).getD x true=false:=by rw [getD_set_ne true hjx];exact hl
   have hl3:((listed.setIfInBounds i true).setIfInBounds j true).getD x true=false:=by rw [getD_set_ne true hjx,getD_set_ne true (Ne.symm hxi)];exact hl
   have h2:=wpOp_putIf hoj (hfree j oj hoj hji hjun hnot) (fun cs b=>hsel i oi cs b hi) (fun cs b=>hsel j oj cs b hoj) hQ hy h1
   have hfree':∀k ok,ops[k]? =some ok->k≠i->(listed.setIfInBounds j true).getD k true=false->
     (∀e∈ok.after,Region.binds md e=true->e.on≠i)->oi.apart ops ok=true:=fun k ok hk hki hun hno=>by
    refine hfree k ok hk hki ?_ hno;by_cases hjk:j=k
    ·subst hjk;exact hjun
    ·rw [getD_set_ne true hjk]at hun;exact hun
   refine wpOp_mono (fun a' w' h3=>⟨fun _=>h3.2.1 hl3,ih (listed.setIfInBounds j true) a' w' hfree' (ready_mono hr (Ne.symm hji)) h3.1 (h3.2.1 hl3) hl2 ?_⟩) h2;rw [Array.setIfInBounds_comm _ _ hji];exact h3.2.2
theorem Ul {i:Nat}{oi:Oper}{v:Value}(hi:ops[i]? =some oi)(hsel:∀(j:Nat) (o:Oper) cs b,ops[j]? =some o->o.op≠ .select cs b)
  (hQ:∀c a w,Q (.panic c) (a.put oi.dst v) w->Q (.panic c) a w) (hx:x≠i):
  ∀(fuel:Nat) (listed:Array Bool) (a:Act) (w:World),
   (∀j oj,ops[j]? =some oj->j≠i->listed.getD j true=false->(∀e∈oj.after,Region.binds md e=true->e.on≠i)->oi.apart ops oj=true)->
   i∈Region.ready md ops listed->YieldsIf P ops (fun _=>True) oi v a->(listed.getD x true=false->S w)->
   AnyX P md ops Q S x fuel (listed.setIfInBounds i true) (a.put oi.dst v) w->AnyX P md ops Q S x (fuel+1) listed a w:=by
 intro fuel;induction fuel with
 |zero=>
  intro listed a w _ hr hy hS H;refine⟨fun h=>(by rw [h]at hr;cases hr),fun j hj=>?_⟩;by_cases hji:j=i
  ·subst hji;exact hy.wpOp hi trivial ⟨fun h=>hS (by rw [getD_set_ne true (Ne.symm hx)]at h;exact h),H⟩
  ·have:=ready_mono hj hji;rw [H.1]at this;cases this
 |succ fuel ih=>
  intro listed a w hfree hr hy hS H;refine⟨fun h=>(by rw [h]at hr;cases hr),fun j hj=>?_⟩;by_cases hji:j=i
  ·subst hji;exact hy.wpOp hi trivial ⟨fun h=>hS (by rw [getD_set_ne true (Ne.symm hx)]at h;exact h),H⟩
  ·have h1:=H.2 j (ready_mono hj hji);obtain⟨hjun,oj,hoj,hall⟩:=mem_ready.1 hj;have hnot:∀e∈oj.after,Region.binds md e=true->e.on≠i:=fun e he hb heq=>by
    have h1:=hall e he hb;have h0:=(mem_ready.1 hr).1;rw [heq]at h1;rcases Nat.lt_or_ge i listed.size with h' |h'
    ·simp [h']at h0 h1;rw [h0]at h1;cases h1
    ·simp [Array.getElem?_eq_none h']at h1
   have h2:=wpOp_putIf hoj (hfree j oj hoj hji hjun hnot) (fun cs b=>hsel i oi cs b hi) (fun cs b=>hsel j oj cs b hoj) hQ hy h1
   have hfree':∀k ok,ops[k]? =some ok->k≠i->(listed.setIfInBounds j true).getD k true=false->
     (∀e∈ok.after,Region.binds md e=true->e.on≠i)->oi.apart ops ok=true:=fun k ok hk hki hun hno=>by
    refine hfree k ok hk hki ?_ hno;by_cases hjk:j=k
    ·subst hjk;exact hjun
    ·rw [getD_set_ne true hjk]at hun;exact hun
   have hsw:∀(w':World),(((listed.setIfInBounds i true).setIfInBounds j true).getD x true=false->S w')->(listed.setIfInBounds j true).getD x true=false->S w':=fun w' h h0=>h (by
    rw [Array.setIfInBounds_comm _ _ (Ne.symm hji),getD_set_ne true (Ne.symm hx)];exact h0)
   refine wpOp_mono (fun a' w' h3=>⟨hsw w' h3.2.1,ih (listed.setIfInBounds j true) a' w' hfree' (ready_mono hr (Ne.symm hji)) h3.1 (hsw w' h3.2.1) ?_⟩) h2;rw [Array.setIfInBounds_comm _ _ hji];exact h3.2.2
def av (P:Program)(md:Region.Mode)(ops:Array Oper)(Q:Exit->Act->World->Prop)(S:World->Prop)(x:Nat)(fuel:Nat)(listed:Array Bool)(a:Act)(w:World)(rs:List Nat):Prop:=
 ∀i∈rs,wpOp P ops Q i (fun a' w'=>((listed.setIfInBounds i true).getD x true=false->S w')∧AnyX P md ops Q S x fuel (listed.setIfInBounds i true) a' w') a w
theorem av.nil {fuel:Nat}{listed:Array Bool}{a:Act}{w:World}:av P md ops Q S x fuel listed a w []:=fun _ h=>by cases h
theorem av.cons {fuel:Nat}{listed:Array Bool}{a:Act}{w:World}{i:Nat}{o:Oper}{rs:List Nat}(ho:ops[i]? =some o)
  (h:∀K':Act->World->Prop,Shut (∀a w,S w->AnyX P md ops Q S x fuel (listed.setIfInBounds i true) a w->K' a w)->if Region.wanted o (yielded ops a.tmps)=true then Oper.wp P o a w K' Q else K' (a.put o.dst undef) w)
  (hs:av P md ops Q S x fuel listed a w rs):av P md ops Q S x fuel listed a w (i :: rs):=fun j hj=>by
 rcases List.mem_cons.1 hj with rfl |hj
 ·exact wpOp_step ho (fun K' hK=>h K' (fun a w hS hW=>hK a w ⟨fun _=>hS,hW⟩))
 ·exact hs j hj
theorem av.past {fuel:Nat}{listed:Array Bool}{a:Act}{w:World}{i:Nat}{o:Oper}{rs:List Nat}(ho:ops[i]? =some o)(hl:(listed.setIfInBounds i true).getD x true=true)
  (h:∀K':Act->World->Prop,Shut (∀a w,AnyX P md ops Q S x fuel (listed.setIfInBounds i true) a w->K' a w)->if Region.wanted o (yielded ops a.tmps)=true then Oper.wp P o a w K' Q else K' (a.put o.dst undef) w)
  (hs:av P md ops Q S x fuel listed a w rs):av P md ops Q S x fuel listed a w (i :: rs):=fun j hj=>by
 rcases List.mem_cons.1 hj with rfl |hj
 ·exact wpOp_step ho (fun K' hK=>h K' (fun a w hW=>hK a w ⟨fun h0=>(by rw [hl]at h0;cases h0),hW⟩))
 ·exact hs j hj
theorem ay {rs:List Nat}{fuel:Nat}{listed:Array Bool}{a:Act}{w:World}(hr:Region.ready md ops listed=rs)(hne:rs≠[])
  (h:av P md ops Q S x fuel listed a w rs):AnyX P md ops Q S x (fuel+1) listed a w:=⟨fun h0=>absurd (hr▸h0) hne,hr▸h⟩
theorem aR {listed:Array Bool}{a:Act}{w:World}(hr:Region.ready md ops listed=[])(h:Q .normal a w):∀fuel,AnyX P md ops Q S x fuel listed a w
 |0=>⟨hr,h⟩
 |_+1=>⟨fun _=>h,by rw [hr];simp⟩
theorem bP (S:World->Prop)(x:Nat){id:Nat}{a:Act}{w:World}(hm:P.follows .mixedOrders=true)
  (h:AnyX P .any ops Q S x ops.size (Array.replicate ops.size false) a w.drew):(Code.region id ops true).wp P Q a w:=
 wp_region_any hm (Lv _ _ _ _ h)
theorem tx (i:Nat)(v:Value){oi:Oper}{fuel:Nat}{listed listed':Array Bool}{a a':Act}{w:World}(hS:S w)(h:AnyX P md ops Q S x fuel listed' a' w)
  (hi:ops[i]? =some oi:=by rfl) (hs:Region.noSelect ops=true:=by kernel_rfl) (hf:Region.free md ops listed i=true:=by kernel_rfl) (hr:(Region.ready md ops listed).contains i=true:=by kernel_rfl)
  (hx:waits md ops x i=true:=by kernel_rfl) (hlx:listed.getD x true=false:=by kernel_rfl)
  (hQ:∀c a w,Q (.panic c) (a.put oi.dst v) w->Q (.panic c) a w:=by exact fun _ _ _ h=>h) (hw:Region.wanted oi (yielded ops a.tmps)=true:=by kernel_rfl)
  (hy:∀w,S w->(execOp a.eval oi).run P w=.ok (.value v) w:=by intro w' hSw;go_simp)
  (hl:listed.setIfInBounds i true=listed':=by(try simp only [List.setIfInBounds_toArray,List.set_cons_zero,List.set_cons_succ]);rfl)
  (ha:a.put oi.dst v=a':=by(try simp only [Act.put,sq]);rfl):AnyX P md ops Q S x (fuel+1) listed a w:=by
 subst hl ha;exact Fb hi (Region.noSelect_spec hs) hQ hx fuel listed a w (Region.free_spec hi hf) (by simpa using hr) (.inl ⟨hw,hy⟩) hS hlx h
theorem tt (i:Nat)(v:Value){oi:Oper}{fuel:Nat}{listed listed':Array Bool}{a a':Act}{w:World}(hS:listed.getD x true=false->S w)(h:AnyX P md ops Q S x fuel listed' a' w)
  (hi:ops[i]? =some oi:=by rfl) (hs:Region.noSelect ops=true:=by kernel_rfl) (hf:Region.free md ops listed i=true:=by kernel_rfl) (hr:(Region.ready md ops listed).contains i=true:=by kernel_rfl)
  (hx:x≠i:=by decide)
  (hQ:∀c a w,Q (.panic c) (a.put oi.dst v) w->Q (.panic c) a w:=by exact fun _ _ _ h=>h) (hw:Region.wanted oi (yielded ops a.tmps)=true:=by kernel_rfl)
  (hy:∀w,True->(execOp a.eval oi).run P w=.ok (.value v) w:=by intro w' hSw;go_simp)
  (hl:listed.setIfInBounds i true=listed':=by(try simp only [List.setIfInBounds_toArray,List.set_cons_zero,List.set_cons_succ]);rfl)
  (ha:a.put oi.dst v=a':=by(try simp only [Act.put,sq]);rfl):AnyX P md ops Q S x (fuel+1) listed a w:=by
 subst hl ha;exact Ul hi (Region.noSelect_spec hs) hQ hx fuel listed a w (Region.free_spec hi hf) (by simpa using hr) (.inl ⟨hw,hy⟩) hS h
theorem jG (i:Nat)(v:Value){F:World->Prop}(f:∀w',S w'->F w'){oi:Oper}{fuel:Nat}{listed listed':Array Bool}{a a':Act}{w:World}(hS:S w)(h:AnyX P md ops Q S x fuel listed' a' w)
  (hi:ops[i]? =some oi:=by rfl) (hs:Region.noSelect ops=true:=by kernel_rfl) (hf:Region.free md ops listed i=true:=by kernel_rfl) (hr:(Region.ready md ops listed).contains i=true:=by kernel_rfl)
  (hx:waits md ops x i=true:=by kernel_rfl) (hlx:listed.getD x true=false:=by kernel_rfl)
  (hQ:∀c a w,Q (.panic c) (a.put oi.dst v) w->Q (.panic c) a w:=by exact fun _ _ _ h=>h) (hw:Region.wanted oi (yielded ops a.tmps)=true:=by kernel_rfl)
  (hy:∀w,F w->(execOp a.eval oi).run P w=.ok (.value v) w:=by intro w' hSw;go_simp)
  (hl:listed.setIfInBounds i true=listed':=by(try simp only [List.setIfInBounds_toArray,List.set_cons_zero,List.set_cons_succ]);rfl)
  (ha:a.put oi.dst v=a':=by(try simp only [Act.put,sq]);rfl):AnyX P md ops Q S x (fuel+1) listed a w:=by
 subst hl ha;exact Fb hi (Region.noSelect_spec hs) hQ hx fuel listed a w (Region.free_spec hi hf) (by simpa using hr) (.inl ⟨hw,fun w h=>hy w (f w h)⟩) hS hlx h
end
section
variable {P:Program}{fn:Func}{R:Ending->World->Prop}
theorem qY {tmps adv:Array Value}(h:results fn tmps=results fn adv):∀(ds:List Deferred) (u:FrameMode) (w:World),Leaves P fn tmps R ds u w->Leaves P fn adv R ds u w
 | [],.returning,w,⟨v,h1,h2⟩=>⟨v,by rw [<-h];exact h1,h2⟩
 | [],.panicking _,w,h1=>h1
 | [],.run,_,h1=>h1
 |d :: ds,u,w,⟨h1,fv,cap,f,args,h2,h3,h4⟩=>⟨h1,fv,cap,f,args,h2,h3,h4.mono fun e u' w' h5=>by
   cases e with
   |returned v=>exact qY h ds _ _ h5
   |panicked c=>exact qY h ds _ _ h5
   |outgrown=>exact h5⟩
theorem gK {t0:Tmp}{T:TypeId}{dst:Option Tmp}{v:Value}(hr:fn.results= #[.cell t0 T])(hd:dst≠some t0)(c:List PanicEntry)(a:Act)(w:World)(h:bodyPostD P fn R (.panic c) (a.put dst v) w):bodyPostD P fn R (.panic c) a w:=by
 cases dst with
 |none=>exact h
 |some d=>
  have hne:d≠t0:=fun e=>hd (by rw [e]);have e:results fn (a.tmps.setIfInBounds d v)=results fn a.tmps:=by
   simp [results,hr,Array.getElem?_setIfInBounds_ne hne]
  exact qY e a.defers _ _ h
end
theorem aM {P:Program}{fn:Func}{t:Tmp}{T:TypeId}{tmps:Array Value}{w:World}{b:Nat}{cs:Array Value}{S:TypeId}{d:TypeDesc}(h:fn.results= #[.cell t T])(ht:tmps.getD t undef=.pointer (some ⟨b,0,none⟩))(hb:w.heap[b]? =some (.cells cs S (0,0)))
  (hu:P.underlying T=some d) (hd:(match d with |.struct _ |.array _ _=>true |_=>false)=true) (hi:(P.info? T).map (·.size)=some cs.size):(results fn tmps).run P w=.ok (.agg cs) w:=by
 have h1:=run_loadVar_row (P:=P) w b S T cs (0,0) d hb hu hd hi;have e:tmps[t]?.getD undef=.pointer (some ⟨b,0,none⟩):=by simpa using ht
 have h2:(asAddr (.pointer (some ⟨b,0,none⟩))).run P w=.ok ⟨b,0,none⟩ w:=rfl;simp [results,h,e,h1,h2]
def uL (t:aI):Value:= .agg #[.int .i64 t.kind,sv t.text,.int .i64 t.line,.int .i64 t.col]
theorem mE (w:World)(bp B:Nat)(ts:List aI)(d:Int)(h:bX w bp B ts d):
  Calls Tryz.prog 89 #[.pointer (some ⟨bp,0,none⟩)] w fun e w'=>e=.returned (uL (aS ts))∧Below w.heap.size w w':=by
 have hlt:=h.lt;obtain⟨b,o,c,t,r,rfl,hc,hcm,hl,hB,hb,hbk,hs,d0,d1,z0,c0,c1,c2,c3⟩:=h.open_;have hbs:b<w.heap.size:=by omega
 clear h hs hbk;rw [show aS (t :: r)=t from rfl];unfold uL;go_enter Tryz.func89,Tryz.ntmps89;go_wp2_with fail;refine bodyPost_ret (aM rfl rfl (heap_alloc_new w _) Tryz.underlying154 rfl (by kernel_rfl)) rfl ?_;exact⟨rfl,(Below.refl _ _).alloc (Nat.le_refl _) _⟩
theorem Ph (w:World)(t:aI)(s:Bt):Calls Tryz.prog 161 #[uL t,sv s] w fun e w'=>e=.returned (.bool (jA t s))∧Below w.heap.size w w':=by
 obtain⟨k,x,l,c⟩:=t;unfold uL jA;simp only;by_cases h2:k=2
 ·subst h2;cases hq:(x==s)
  ·rw [show((2:Int)==2 || (2:Int)==5)=true from rfl,Bool.true_and];go_enter Tryz.func161,Tryz.ntmps161;go_wp2_with fail;go_ret;exact⟨rfl,(Below.refl _ _).alloc (Nat.le_refl _) _⟩
  ·rw [show((2:Int)==2 || (2:Int)==5)=true from rfl,Bool.true_and];go_enter Tryz.func161,Tryz.ntmps161;go_wp2_with fail;go_ret;exact⟨rfl,(Below.refl _ _).alloc (Nat.le_refl _) _⟩
 ·by_cases h5:k=5
  ·subst h5;cases hq:(x==s)
   ·rw [show((5:Int)==2 || (5:Int)==5)=true from rfl,Bool.true_and];go_enter Tryz.func161,Tryz.ntmps161;go_wp2_with fail;go_ret;exact⟨rfl,(Below.refl _ _).alloc (Nat.le_refl _) _⟩
   ·rw [show((5:Int)==2 || (5:Int)==5)=true from rfl,Bool.true_and];go_enter Tryz.func161,Tryz.ntmps161;go_wp2_with fail;go_ret;exact⟨rfl,(Below.refl _ _).alloc (Nat.le_refl _) _⟩
  ·rw [beq_false_of_ne h2,beq_false_of_ne h5,Bool.false_or,Bool.false_and];go_enter Tryz.func161,Tryz.ntmps161;go_wp2_with fail;go_ret;exact⟨rfl,(Below.refl _ _).alloc (Nat.le_refl _) _⟩
theorem xG (w:World)(bp B:Nat)(ts:List aI)(d:Int)(g:Int)(h:bX w bp B ts d):
  Calls Tryz.prog 149 #[.pointer (some ⟨bp,0,none⟩),.int .i64 g] w fun e w'=>e=Fa ((aS ts).line,(aS ts).col,g)∧Below w.heap.size w w':=by
 have HN:=aZ (mE w bp B ts d h);have JX:=aZ (fun(w1:World) (hb:Below w.heap.size w w1)=>mE w1 bp B ts d (h.below hb));clear h;generalize aS ts=t at*
 go_enter Tryz.func149,Tryz.ntmps149;go_wp2_with fail;refine HN.o.mono ?_;rintro e w1 ⟨rfl,hb⟩;have HB:=aZ hb;have f2:∀w:World,(Instr.field 154 (uL t) 2).run Tryz.prog w=.ok (.int .i64 t.line) w:=fun _=>by kernel_rfl
 have f3:∀w:World,(Instr.field 154 (uL t) 3).run Tryz.prog w=.ok (.int .i64 t.col) w:=fun _=>by kernel_rfl
 clear hb;go_wp2_with fail;refine(JX.o _ HB.o).mono ?_;rintro e w2 ⟨rfl,hb⟩;have HB2:=aZ (HB.o.trans (hb.mono HB.o.size));clear hb;go_wp2_with fail;exact⟨rfl,rfl,HB2.o⟩
section
variable {P:Program}{md:Region.Mode}{ops:Array Oper}{Q:Exit->Act->World->Prop}{S:World->Prop}
theorem tk (i:Nat)(v:Value){oi:Oper}{fuel:Nat}{listed listed':Array Bool}{a a':Act}{w:World}(hS:S w)(h:wpAnyH P md ops Q S fuel listed' a' w)
  (hi:ops[i]? =some oi:=by rfl) (hs:Region.noSelect ops=true:=by kernel_rfl) (hf:Region.free md ops listed i=true:=by kernel_rfl) (hr:(Region.ready md ops listed).contains i=true:=by kernel_rfl)
  (hQ:∀c a w,Q (.panic c) (a.put oi.dst v) w->Q (.panic c) a w:=by exact fun _ _ _ h=>h) (hw:Region.wanted oi (yielded ops a.tmps)=true:=by kernel_rfl)
  (hy:∀w,S w->(execOp a.eval oi).run P w=.ok (.value v) w:=by intro w' hSw;go_simp)
  (hl:listed.setIfInBounds i true=listed':=by(try simp only [List.setIfInBounds_toArray,List.set_cons_zero,List.set_cons_succ]);rfl)
  (ha:a.put oi.dst v=a':=by(try simp only [Act.put,sq]);rfl):wpAnyH P md ops Q S (fuel+1) listed a w:=by
 subst hl ha;exact wpAnyH_take hi hs hf hr hQ (.inl ⟨hw,hy⟩) hS h
theorem lJ (i:Nat)(v:Value){F:World->Prop}(f:∀w',S w'->F w'){oi:Oper}{fuel:Nat}{listed listed':Array Bool}{a a':Act}{w:World}(hS:S w)(h:wpAnyH P md ops Q S fuel listed' a' w)
  (hi:ops[i]? =some oi:=by rfl) (hs:Region.noSelect ops=true:=by kernel_rfl) (hf:Region.free md ops listed i=true:=by kernel_rfl) (hr:(Region.ready md ops listed).contains i=true:=by kernel_rfl)
  (hQ:∀c a w,Q (.panic c) (a.put oi.dst v) w->Q (.panic c) a w:=by exact fun _ _ _ h=>h) (hw:Region.wanted oi (yielded ops a.tmps)=true:=by kernel_rfl)
  (hy:∀w,F w->(execOp a.eval oi).run P w=.ok (.value v) w:=by intro w' hSw;go_simp)
  (hl:listed.setIfInBounds i true=listed':=by(try simp only [List.setIfInBounds_toArray,List.set_cons_zero,List.set_cons_succ]);rfl)
  (ha:a.put oi.dst v=a':=by(try simp only [Act.put,sq]);rfl):wpAnyH P md ops Q S (fuel+1) listed a w:=by
 subst hl ha;exact wpAnyH_take hi hs hf hr hQ (.inl ⟨hw,fun w h=>hy w (f w h)⟩) hS h
end
section
variable {w:World}{a0 a1 a2 a3 a4 a5 a6 a7:Addr}{v0 v1 v2 v3 v4 v5 v6 v7:Value}
theorem kb {w w':World}{a:Addr}{v:Value}(h:Below w.heap.size w w')(d:w.cell? a=some v):w'.cell? a=some v:=(h.cell (World.block_lt_of_cell? w a d)).trans d
theorem Um (d0:w.cell? a0=some v0):∀w',Below w.heap.size w w'->w'.cell? a0=some v0:=fun _ h=>kb h d0
theorem kp4 (d0:w.cell? a0=some v0)(d1:w.cell? a1=some v1)(d2:w.cell? a2=some v2)(d3:w.cell? a3=some v3):
  ∀w',Below w.heap.size w w'->w'.cell? a0=some v0∧w'.cell? a1=some v1∧w'.cell? a2=some v2∧w'.cell? a3=some v3:=fun _ h=>⟨kb h d0,kb h d1,kb h d2,kb h d3⟩
theorem kp8 (d0:w.cell? a0=some v0)(d1:w.cell? a1=some v1)(d2:w.cell? a2=some v2)(d3:w.cell? a3=some v3)(d4:w.cell? a4=some v4)(d5:w.cell? a5=some v5)(d6:w.cell? a6=some v6)(d7:w.cell? a7=some v7):
  ∀w',Below w.heap.size w w'->w'.cell? a0=some v0∧w'.cell? a1=some v1∧w'.cell? a2=some v2∧w'.cell? a3=some v3∧w'.cell? a4=some v4∧w'.cell? a5=some v5∧w'.cell? a6=some v6∧w'.cell? a7=some v7:=fun _ h=>⟨kb h d0,kb h d1,kb h d2,kb h d3,kb h d4,kb h d5,kb h d6,kb h d7⟩
end
theorem Un (w:World)(bp B:Nat)(ts:List aI)(d:Int)(h:bX w bp B ts d)(p:Nat)(hp:w.cell? ⟨p,0,none⟩=some (.pointer (some ⟨bp,0,none⟩)))(s:Bt):
  Calls Tryz.prog 160 #[sv s,.pointer (some ⟨p,0,none⟩)] w fun e w'=>e=.returned (.bool (jA (aS ts) s))∧Below w.heap.size w w':=by
 have HN:=aZ (mE w bp B ts d h);clear h;generalize aS ts=t at*
 have HI:=aZ (fun w1=>Ph w1 t s);go_enter Tryz.func160,Tryz.ntmps160;go_wp2_with fail;refine HN.o.mono ?_;rintro e w1 ⟨rfl,hb⟩;have HB:=aZ hb;clear hb hp;go_wp2_with fail;refine(HI.o _).mono ?_;rintro e w2 ⟨rfl,hb⟩;have HB2:=aZ (HB.o.trans (hb.mono HB.o.size));clear hb;go_wp2_with fail;go_ret;exact⟨rfl,HB2.o⟩
def agD (o:Option Nat):Int:=match o with |some i=>(i:Int) |none=> -1
theorem Uo {p:Bt->Bool}{l:List Bt}{k:Nat}(hk:k<l.length)(h:(l.take k).findIdx? p=none):(l.take (k+1)).findIdx? p=if p l[k]then some k else none:=by
 rw [List.take_succ_eq_append_getElem hk,List.findIdx?_append,h];have:(l.take k).length=k:=by rw [List.length_take];omega
 cases hp:p l[k] <;> simp [hp,this]
theorem Pj {p:Bt->Bool}{l:List Bt}{k j:Nat}(h:(l.take k).findIdx? p=some j):l.findIdx? p=some j:=by
 rw [<-List.take_append_drop k l,List.findIdx?_append,h];rfl
theorem Pk (w:World)(bp B:Nat)(ts:List aI)(d:Int)(h:bX w bp B ts d)(p:Nat)(hp:w.cell? ⟨p,0,none⟩=some (.pointer (some ⟨bp,0,none⟩)))(v:Value)(l:List Bt)(hv:Ss w w.heap.size v l)(hl:l.length<=100000):
  Calls Tryz.prog 159 #[v,.func (.func 160) #[] #[.pointer (some ⟨p,0,none⟩)]] w fun e w'=>e=.returned (.int .i64 (agD (l.findIdx? (jA (aS ts)))))∧Below w.heap.size w w':=by
 obtain⟨A,c,rfl,hn,hc,hx⟩:=hv.open_;unfold maxLen at hc;have hx:0<l.length->∃b off,A=some ⟨b,off,none⟩∧b<w.heap.size∧∀(j:Nat) (s:Bt),l[j]? =some s->w.cell? ⟨b,off+j,none⟩=some (sv s):=fun h0=>by
  obtain⟨b,o,h1,h2,h3⟩:=hx h0;refine⟨b,o,h1,h2,fun j s hj=>?_⟩;obtain⟨hj1,rfl⟩:=List.getElem?_eq_some_iff.1 hj;exact h3 j hj1
 have HT:=aZ (fun(w1:World) (hb:Below w.heap.size w w1) (s:Bt)=>Un w1 bp B ts d (h.below hb) p (kb hb hp) s);have HX:=aZ hx;clear h hp hv hx;generalize aS ts=t at*
 obtain⟨m,hm⟩:∃m,l.length=m:=⟨_,rfl⟩
 rw [hm]at hn HX hl;rw [hm];have HM:=aZ hm;clear hm;go_enter Tryz.func159,Tryz.ntmps159;go_wp2_with fail;go_loopw [8] (fun v8 wr=>∃k:Nat,v8=.int .i64 k∧k<=m∧(l.take k).findIdx? (jA t)=none∧Below w.heap.size w wr) (fun v8 _=>m - (intOf v8).toNat)
 case atStart=>exact⟨0,rfl,by omega,rfl,Below.refl _ _⟩
 case round=>
  obtain⟨k,rfl,hk,hinv,hbr⟩:=hrel;have HB:=aZ hbr;by_cases hlt:k<m
  ·have hlt':k<l.length:=by rw [HM.o];exact hlt
   obtain⟨b,o,rfl,hb,hcell⟩:=HX.o (by omega);obtain⟨s,hs⟩:∃s,l[k]? =some s:=⟨_,List.getElem?_eq_getElem hlt'⟩
   have hst:=Uo hlt' hinv;rw [(List.getElem?_eq_some_iff.1 hs).2]at hst;have d0:=kb hbr (hcell k s hs);have HC:=aZ (HT.o wr hbr s);clear hs;have HI:=aZ hinv;clear hinv hbr;cases hq:jA t s
   ·rw [hq]at HC hst;have HS:=aZ hst;clear hst hq;go_wp2_with fail;refine HC.o.mono ?_;rintro e w2 ⟨rfl,hb2⟩;have HB2:=aZ (HB.o.trans (hb2.mono HB.o.size));clear hb2 d0;go_wp2_with fail
    go_roundw
    case rel=>exact⟨k+1,rfl,by omega,HS.o,HB2.o⟩
    case measure=>simp [intOf];omega
   ·rw [hq]at HC hst;have HS:=aZ (Pj hst);clear hst hq;go_wp2_with fail;refine HC.o.mono ?_;rintro e w2 ⟨rfl,hb2⟩;have HB2:=aZ (HB.o.trans (hb2.mono HB.o.size));clear hb2 d0;go_wp2_with fail;go_ret;exact⟨by rw [HS.o];rfl,HB2.o⟩
  ·obtain rfl:k=m:=by omega
   rw [List.take_of_length_le (by rw [HM.o];exact Nat.le_refl _)]at hinv;have HI:=aZ hinv;clear hinv hbr;go_wp2_with fail;go_ret;exact⟨by rw [HI.o];rfl,HB.o⟩
theorem aN {w w':World}{G:Nat->Prop}{b o:Nat}{v:Value}(h:w.cell? ⟨b,o,none⟩=some v)(t:Turn G w w')(hd:¬G b):w'.cell? ⟨b,o,none⟩=some v:=by
 have hb:=t.block (World.block_lt_of_cell? w _ h) hd;simp only [World.cell?,hb]at h ⊢;exact h
def adw (w:World)(v:Value)(o:Option Nat):Prop:=v=.tuple #[.int .i64 ((o.getD 0:Nat):Int),.bool o.isSome]
theorem zY (w:World)(bp B:Nat)(ts:List aI)(d:Int)(h:bX w bp B ts d)(v:Value)(l:List Bt)(hv:Ss w w.heap.size v l)(hl:l.length<=100000):
  Calls Tryz.prog 104 #[.pointer (some ⟨bp,0,none⟩),v] w (aL adw bp B d w (dA l ts)):=by
 have hlt:=h.lt;obtain⟨W,hW⟩:∃W,w.alloc (.cells #[.pointer (some ⟨bp,0,none⟩)] 202)=W:=⟨_,rfl⟩
 have hb1:Below w.heap.size w W:=by rw [<-hW];exact(Below.refl _ _).alloc (Nat.le_refl _) _
 have hbt:W.heap[w.heap.size]? =some (.cells #[.pointer (some ⟨bp,0,none⟩)] 202 (0,0)):=by rw [<-hW];exact heap_alloc_new _ _
 have hbc:W.cell? ⟨w.heap.size,0,none⟩=some (.pointer (some ⟨bp,0,none⟩)):=(cell_of_row _ _ _ _ _ _ hbt).trans rfl;have hT:=h.below hb1;have HI:=aZ (Pk W bp B ts d hT w.heap.size hbc v l (Sl.more (Sl.below hv hb1) hb1.size) hl);have HB:=aZ hb1;have HT:=aZ hT;have HW:=aZ hW;have HBC:=aZ hbc;obtain⟨A,c,rfl,hn,hc,hx0⟩:=hv.open_;clear hx0;unfold maxLen at hc;have hw:=h.wf;clear h hv hb1 hT hW hbt hbc;rcases hq:l.findIdx? (jA (aS ts))with _ |i
 ·rw [hq]at HI;have HQ:bN (dA l ts=.good none ts):=aZ (by unfold dA;rw [hq]);have vO:=aZ hw;clear hq hw;generalize l.length=m at*
  go_enter Tryz.func104,Tryz.ntmps104;go_wp2_with fail;rw [HW.o];refine HI.o.mono ?_;rintro e w2 ⟨rfl,hb⟩;have HB2:=aZ (HB.o.trans (hb.mono HB.o.size));have HT2:=aZ (HT.o.below hb);clear hb;unfold agD;go_wp2_with fail
  go_ret2
  exact aL.done HQ.o (Turn.of_below HB2.o) rfl HT2.o
 ·rw [hq]at HI;obtain⟨t,r,rfl⟩:∃t r,ts=t :: r:=by
   rcases hw.cases with⟨e,rfl,_⟩ |⟨t,r,rfl,_⟩
   ·exact⟨e,[],rfl⟩
   ·exact⟨t,r,rfl⟩
  have HQ:bN (dA l (t :: r)=.good (some i) r):=aZ (by unfold dA;rw [hq];rfl);have vO:=aZ hw;clear hq hw;generalize l.length=m at*
  go_enter Tryz.func104,Tryz.ntmps104;go_wp2_with fail;rw [HW.o];refine HI.o.mono ?_;rintro e w2 ⟨rfl,hb⟩;have HB2:=aZ (HB.o.trans (hb.mono HB.o.size));have HT2:=aZ (HT.o.below hb);have p0:=kb hb HBC.o;clear hb;unfold agD;obtain⟨b,o,c2,t',r',he,hc2,hcm2,hok,hB2,Ls,hbk,hsl,d0,d1,z0,c0,c1,c2',c3⟩:=HT2.o.open_;injection he with he1 he2;subst he1 he2;obtain⟨A',hAb,hA',hrun⟩:=I7 hsl;have mg:=aZ ((HT2.o.tok hbk).behind (n':=r.length) (c':=c2 - 1) hAb);clear hAb;have HA:=aZ hA';have HBK:=aZ hbk;have Rh:=aZ hok;have hne:¬w.heap.size=bp:=by omega
  have P0:=aZ (fun(w':World) (h:Turn (fun j=>j=bp) w2 w')=>aN p0 h hne);have D0:=aZ d0;have HD0:bN (Turn (fun j=>j=bp) w2 w2.drew):=aZ ⟨rfl,rfl,rfl,Nat.le_refl _,fun _ _ _=>rfl⟩;clear hsl hbk hok hA' c0 c1 c2' c3 d1 p0;go_wp2_with fail;refine wp_region_held_drew (S:=fun w'=>Turn (fun j=>j=bp) w2 w') (by kernel_rfl) HD0.o (fun _=>?_)
  try simp only [Act.put,sq]
  refine lJ 0 (.pointer (some ⟨bp,0,none⟩)) P0.o HD0.o ?_;refine lJ 1 (.pointer (some ⟨bp,0,none⟩)) P0.o HD0.o ?_;refine tk 2 (.pointer (some ⟨bp,0,none⟩)) HD0.o ?_;refine tk 3 (.pointer (some ⟨bp,0,none⟩)) HD0.o ?_;refine wpAnyH_ready (rs:=[4]) (by kernel_rfl) (by simp) ?_;refine AllReadyH.cons rfl (fun K hK=>?_) AllReadyH.nil;go_simp;refine hK.out _ _ HD0.o (fun _=>?_);clear hK K
  try simp only [Act.put,sq]
  refine wpAnyH_ready (rs:=[5]) (by kernel_rfl) (by simp) ?_;refine AllReadyH.cons rfl (fun K hK=>?_) AllReadyH.nil;go_simp;refine hK.out _ _ HD0.o (fun _=>?_);clear hK K
  try simp only [Act.put,sq]
  refine tk 6 (.pointer (some ⟨bp,0,none⟩)) HD0.o ?_;refine tk 7 (.pointer (some ⟨bp,0,none⟩)) HD0.o ?_;refine wpAnyH_ready (rs:=[8]) (by kernel_rfl) (by simp) ?_;refine AllReadyH.cons rfl (fun K hK=>?_) AllReadyH.nil
  try rw [if_pos (by kernel_rfl)]
  go_simp;have wI:bN (Turn (fun j=>j=bp) w2 (w2.drew.setCell ⟨bp,0,none⟩ (.slice A' r.length (c2 - 1)))):=aZ (HD0.o.trans (ak _ _ _ _) (fun _ _ h=>h));refine hK.out _ _ wI.o (fun _=>?_);clear hK K
  try simp only [Act.put,sq]
  refine wpAnyH_done (by kernel_rfl) ?_ _;go_wp2_with fail
  go_ret2
  refine aL.done HQ.o ((Turn.of_below (F:=fun k=>k=bp) HB2.o).trans wI.o (fun _ _ h=>h)) rfl ⟨hB2,Rh.o.tail,((Sf.jK l).good vO.o HQ.o).1,_,heap_setCell_same _ bp 0 _ _ _ HBK.o,?_⟩;have hbw:=(wI.o).below (B:=B) (by have:=HB2.o.size;omega) (fun k hk e=>by omega);exact⟨Sl.below HA.o hbw,HT2.o.laid.below hbw,mg.o.below hbw⟩
def ajH (w:World)(v:Value)(b:Bool):Prop:=v=.bool b
def agE (w:World)(v:Value)(b:Bt):Prop:=v=sv b
def PUnit (w:World)(v:Value)(b:Unit):Prop:=True
theorem Uq (s:Bt)(ts:List aI):bM s ts=aj (dA [s]) (fun o=>aF o.isSome) ts:=by
 unfold bM aj dA;cases h:jA (aS ts) s <;> simp [h,aF]
theorem iB {l:List Bt}{ts:List aI}{g:CS}(h:dA l ts=.bad g):False:=by
 unfold dA at h;split at h <;> cases h
theorem lD (w:World)(bp B:Nat)(ts:List aI)(d:Int)(h:bX w bp B ts d)(s:Bt):
  Calls Tryz.prog 90 #[.pointer (some ⟨bp,0,none⟩),sv s] w (aL ajH bp B d w (bM s ts)):=by
 obtain⟨W,hW⟩:∃W,w.alloc (.cells #[sv s] 9)=W:=⟨_,rfl⟩
 have hb1:Below w.heap.size w W:=by rw [<-hW];exact(Below.refl _ _).alloc (Nat.le_refl _) _
 have hs:Ss W W.heap.size (.slice (some ⟨w.heap.size,0,none⟩) 1 1) [s]:=by rw [<-hW];exact(yU w s _).more (by simp)
 have HT:=aZ (zY W bp B ts d (h.below hb1) _ [s] hs (by simp));have HB:=aZ hb1;have HW:=aZ hW;obtain⟨Q,hQ⟩:∃Q,bM s ts=Q:=⟨_,rfl⟩
 rw [hQ];rw [Uq]at hQ;have HQ:=aZ hQ;clear hQ hs hb1 hW h;go_enter Tryz.func90,Tryz.ntmps90;go_wp2_with fail;rw [HW.o];refine HT.o.mono ?_;rintro e w2 h2;rcases hq:dA [s] ts with g |⟨o,r⟩
 ·exact(iB hq).elim
 obtain⟨v,rfl,t2,rfl,hR⟩:=h2.aQ hq;have jI:=aZ (HQ.o.symm.trans (au hq));have HT2:=aZ ((Turn.of_below (F:=fun k=>k=bp) HB.o).trans t2 (fun _ _ h=>h));have HR:=aZ hR;clear h2 t2 hR hq;go_wp2_with fail;go_ret;exact aL.done jI.o HT2.o rfl HR.o
theorem Lx (w:World)(bp B:Nat)(ts:List aI)(d:Int)(h:bX w bp B ts d)(v:Value)(l:List Bt)(hv:Ss w w.heap.size v l)(hl:l.length<=100000):
  Calls Tryz.prog 150 #[.pointer (some ⟨bp,0,none⟩),v] w (aL PUnit bp B d w (jo l ts)):=by
 obtain⟨A,c,rfl,hn,hc,hx⟩:=hv.open_;unfold maxLen at hc;have hx:0<l.length->∃b off,A=some ⟨b,off,none⟩∧b<w.heap.size∧∀(j:Nat) (s:Bt),l[j]? =some s->w.cell? ⟨b,off+j,none⟩=some (sv s):=fun h0=>by
  obtain⟨b,o,h1,h2,h3⟩:=hx h0;refine⟨b,o,h1,h2,fun j s hj=>?_⟩;obtain⟨hj1,rfl⟩:=List.getElem?_eq_some_iff.1 hj;exact h3 j hj1
 have HX:=aZ hx;have H0:=aZ h;obtain⟨Q,hQ⟩:∃Q,jo l ts=Q:=⟨_,rfl⟩
 rw [hQ];have HQ:=aZ hQ;clear h hv hx hQ;obtain⟨m,hm⟩:∃m,l.length=m:=⟨_,rfl⟩
 rw [hm]at hn HX hl;rw [hm];have HM:=aZ hm;clear hm;go_enter Tryz.func150,Tryz.ntmps150;go_wp2_with fail;go_loopw [8] (fun v8 wr=>∃(k:Nat) (r:List aI),v8=.int .i64 k∧k<=m∧jo (l.drop k) r=Q∧Turn (fun j=>j=bp) w wr∧bX wr bp B r d) (fun v8 _=>m - (intOf v8).toNat)
 case atStart=>exact⟨0,ts,rfl,by omega,HQ.o,Turn.refl _ _,H0.o⟩
 case round=>
  obtain⟨k,r,rfl,hk,hinv,htr,hR⟩:=hrel;have HT:=aZ htr;by_cases hlt:k<m
  ·have hlt':k<l.length:=by rw [HM.o];exact hlt
   obtain⟨b,o,rfl,hb,hcell⟩:=HX.o (by omega);obtain⟨s,hs⟩:∃s,l[k]? =some s:=⟨_,List.getElem?_eq_getElem hlt'⟩
   have d00:=hcell k s hs;have d0:=aN d00 htr (H0.o.text d00);obtain⟨hj1,hj2⟩:=List.getElem?_eq_some_iff.1 hs;have hd:l.drop k=s :: l.drop (k+1):=by rw [<-hj2];exact List.drop_eq_getElem_cons hlt'
   rw [hd]at hinv;have HI:bN (aj (aH s) (fun _=>jo (l.drop (k+1))) r=Q):=aZ hinv;have HH:=aZ (lD wr bp B r d hR s);have HF:=aZ (fun(w1:World) (r1:List aI) (h1:bX w1 bp B r1 d)=>xG w1 bp B r1 d 7 h1);clear hs hj1 hj2 hd hinv htr d00 hR hlt' hcell;rcases hq:bM s r with g |⟨o1,r1⟩
   ·exfalso;unfold bM at hq;split at hq <;> cases hq
   cases o1
   ·have mM:bN (aH s r=jL 7 r1):=aZ (by unfold aH;rw [au hq];rfl);go_wp2_with fail;refine HH.o.mono ?_;rintro e w2 h2;obtain⟨v,rfl,t2,rfl,hR⟩:=h2.aQ hq;have HT2:=aZ (HT.o.trans t2 (fun _ _ h=>h));have HR:=aZ hR;clear h2 t2 hR hq;go_wp2_with fail;refine(HF.o _ _ HR.o).mono ?_;rintro e w3 ⟨rfl,hb3⟩;have HT3:=aZ (eP.below HT2.o HR.o.bp hb3);clear hb3;go_wp2_with fail;exact⟨rfl,aL.fail (HI.o.symm.trans (aC (mM.o.trans rfl))) HT3.o⟩
   ·have mM:bN (aH s r=.good () r1):=aZ (by unfold aH;rw [au hq];rfl);go_wp2_with fail;refine HH.o.mono ?_;rintro e w2 h2;obtain⟨v,rfl,t2,rfl,hR⟩:=h2.aQ hq;have HT2:=aZ (HT.o.trans t2 (fun _ _ h=>h));have HR:=aZ hR;clear h2 t2 hR hq;go_wp2_with fail
    go_roundw
    case rel=>exact⟨k+1,r1,rfl,by omega,(au mM.o).symm.trans HI.o,HT2.o,HR.o⟩
    case measure=>simp [intOf];omega
  ·obtain rfl:k=m:=by omega
   rw [List.drop_of_length_le (by rw [HM.o];exact Nat.le_refl _)]at hinv;have HI:=aZ hinv;have HR:=aZ hR;clear hinv htr hR;go_wp2_with fail;go_end0;exact aL.done HI.o.symm HT.o trivial HR.o
theorem sS (w:World)(bp B:Nat)(ts:List aI)(d:Int)(h:bX w bp B ts d)(k:Int):
  Calls Tryz.prog 88 #[.pointer (some ⟨bp,0,none⟩),.int .i64 k] w (aL agE bp B d w (dB k ts)):=by
 have HN:=aZ (mE w bp B ts d h);have HF:=aZ (fun(w1:World) (h1:bX w1 bp B ts d)=>xG w1 bp B ts d 7 h1);have H0:=aZ h;have hlt:=h.lt;have hwf:=h.wf;clear h;by_cases hk:(aS ts).kind=k
 ·by_cases h0:k=0
  ·subst h0;have HQ:bN (dB 0 ts=.good (aS ts).text ts):=aZ (by unfold dB;rw [if_pos hk];rfl);clear hwf;generalize aS ts=t at*
   obtain⟨tk_,tx,tl,tc⟩:=t;simp only at hk;subst hk;unfold uL at HN;go_enter Tryz.func88,Tryz.ntmps88;go_wp2_with fail;refine HN.o.mono ?_;rintro e w1 ⟨rfl,hb⟩;have HB:=aZ hb;have HR:=aZ (H0.o.below hb);clear hb;go_wp2_with fail;go_ret;exact aL.done HQ.o (Turn.of_below (HB.o.alloc HB.o.size _)) rfl (HR.o.below ((Below.refl _ _).alloc (Nat.le_refl _) _))
  ·obtain⟨t,r,rfl⟩:∃t r,ts=t :: r:=by
    rcases hwf.cases with⟨e,rfl,_⟩ |⟨t,r,rfl,_⟩
    ·exact⟨e,[],rfl⟩
    ·exact⟨t,r,rfl⟩
   have HQ:bN (dB k (t :: r)=.good t.text r):=aZ (by unfold dB;rw [if_pos hk,if_neg h0];rfl);have vO:=aZ hwf;clear hwf;rw [show aS (t :: r)=t from rfl]at*
   obtain⟨tk_,tx,tl,tc⟩:=t;simp only at hk;subst hk;unfold uL at HN;go_enter Tryz.func88,Tryz.ntmps88;go_wp2_with fail;refine HN.o.mono ?_;rintro e w1 ⟨rfl,hb⟩;have HB:=aZ hb;have hR:=H0.o.below hb;have adx:=aZ hR.laid;have hlt1:=hR.lt;obtain⟨b,o,c2,t',r',he,hc2,hcm2,hok,hB2,Ls,hbk,hsl,d0,d1,z0,c0,c1,c2',c3⟩:=hR.open_;injection he with he1 he2;subst he1 he2;obtain⟨A',hAb,hA',hrun⟩:=I7 hsl;have mg:=aZ ((hR.tok hbk).behind (n':=r.length) (c':=c2 - 1) hAb);clear hAb;have HA:=aZ hA';have HBK:=aZ hbk;have Rh:=aZ hok;have hbs:b<w1.heap.size:=by omega
   clear hb hR hsl hbk hok hA' c0 c1 c2' c3 d1;go_wp2_with fail;go_ret;have t2:=ak w1 bp 0 (.slice A' r.length (c2 - 1));have hb2:=heap_setCell_same w1 bp 0 _ _ (.slice A' r.length (c2 - 1)) HBK.o;generalize hw2:w1.setCell _ _=w2 at*
   have hlt2:=block_lt hb2;have hbl:Below w2.heap.size w2 (w2.alloc (.cells #[.int .i64 tk_,.string ⟨tx.toArray⟩,.int .i64 tl,.int .i64 tc] 154)):=(Below.refl _ _).alloc (Nat.le_refl _) _;have t3:=t2.trans (Turn.of_below (F:=fun j=>j=bp) hbl) (fun _ _ h=>h);refine aL.done HQ.o ((Turn.of_below (F:=fun k=>k=bp) HB.o).trans t3 (fun _ _ h=>h)) rfl ⟨hB2,Rh.o.tail,((Sf.kind _).good vO.o HQ.o).1,_,(hbl.block _ hlt2).trans hb2,?_⟩;have hbw:=t3.below (B:=B) (by omega) (fun k hk e=>by omega);exact⟨Sl.below HA.o hbw,adx.o.below hbw,mg.o.below hbw⟩
 ·have HQ:bN (dB k ts=.bad ((aS ts).line,(aS ts).col,7)):=aZ (by unfold dB;rw [if_neg hk]);clear hwf;generalize aS ts=t at*
  obtain⟨tk_,tx,tl,tc⟩:=t;simp only at hk;unfold uL at HN;go_enter Tryz.func88,Tryz.ntmps88;go_wp2_with fail;refine HN.o.mono ?_;rintro e w1 ⟨rfl,hb⟩;have HB:=aZ hb;have HR:=aZ (H0.o.below hb);clear hb;go_wp2_with fail;refine(HF.o _ (HR.o.below ((Below.refl _ _).alloc (Nat.le_refl _) _))).mono ?_;rintro e w3 ⟨rfl,hb3⟩;have HT3:=aZ (eP.below (Turn.of_below (F:=fun j=>j=bp) (HB.o.alloc HB.o.size _)) (HR.o.below ((Below.refl _ _).alloc (Nat.le_refl _) _)).bp hb3);clear hb3;go_wp2_with fail;exact⟨rfl,aL.fail HQ.o HT3.o⟩
theorem gL (w:World)(bp B:Nat)(ts:List aI)(d:Int)(h:bX w bp B ts d):
  Calls Tryz.prog 106 #[.pointer (some ⟨bp,0,none⟩)] w (aL agE bp B d w (nameP ts)):=by
 have HK:=aZ (sS w bp B ts d h 1);clear h;obtain⟨Q,hQ⟩:∃Q,nameP ts=Q:=⟨_,rfl⟩
 rw [show dB 1 ts=Q from hQ]at HK;rw [hQ];clear hQ;go_enter Tryz.func106,Tryz.ntmps106;go_wp2_with fail;refine HK.o.mono ?_;rintro e w2 h2;rcases Q with g |⟨x,r⟩
 ·obtain⟨rfl,t2⟩:=h2.bY rfl;have HT:=aZ t2;clear t2 h2;go_wp2_with fail;exact⟨rfl,aL.fail rfl HT.o⟩
 ·obtain⟨v,rfl,t2,rfl,hR⟩:=h2.aQ rfl;have HT:=aZ t2;have HR:=aZ hR;clear t2 h2 hR;go_wp2_with fail;go_ret;exact aL.done rfl HT.o rfl HR.o
theorem bX.deep {w w':World}{bp B:Nat}{ts:List aI}{d e:Int}(h:bX w bp B ts d)(hw:w'=w.setCell ⟨bp,1,none⟩ (.int .i64 e)):bX w' bp B ts e:=by
 subst hw;have hlt:=h.lt;obtain⟨h1,h2,h5,v,h3,h4,h6,h7⟩:=h;have hb:=(ak w bp 1 (.int .i64 e)).below (B:=B) (by omega) (fun k hk e=>by omega);exact⟨h1,h2,h5,v,heap_setCell_same _ bp 1 _ _ _ h3,Sl.below h4 hb,h6.below hb,h7.below hb⟩
theorem BM (w:World)(bp B:Nat)(ts:List aI)(d:Int)(h:bX w bp B ts d)(h0:0<=d)(h1:d<100):
  Calls Tryz.prog 102 #[.pointer (some ⟨bp,0,none⟩)] w fun e w'=>e=.returned (.func (.func 158) #[] #[.pointer (some ⟨w.heap.size,0,none⟩)])∧Turn (fun k=>k=bp) w w'∧w'.cell? ⟨w.heap.size,0,none⟩=some (.pointer (some ⟨bp,0,none⟩))∧bX w' bp B ts (d+1):=by
 have H0:=aZ h;have hlt:=h.lt;obtain⟨b,o,c,t,r,rfl,hc,hcm,hl,hB,hb,hbk,hs,d0,d1,z0,c0,c1,c2,c3⟩:=h.open_;have hne:¬d=100:=by omega
 have hmf:∀(fn:Fn) (first cap:Array Value) (w:World),(Instr.makeFunc fn first cap).run Tryz.prog w=.ok (.func fn first cap) w:=fun _ _ _ _=>rfl;clear h hs hbk d0 c0 c1 c2 c3;go_enter Tryz.func102,Tryz.ntmps102;go_wp2_with fail;go_ret;have t1:=ak w bp 1 (.int .i64 (d+1));have hR:=H0.o.deep (e:=d+1) (w':=w.setCell ⟨bp,1,none⟩ (.int .i64 (d+1))) rfl;have hs:(w.setCell ⟨bp,1,none⟩ (.int .i64 (d+1))).heap.size=w.heap.size:=by simp
 refine⟨rfl,t1.trans (Turn.alloc _ _ _) (fun _ _ h=>h),?_,hR.below ((Below.refl _ _).alloc (Nat.le_refl _) _)⟩;have hn:=heap_alloc_new (w.setCell ⟨bp,1,none⟩ (.int .i64 (d+1))) (.cells #[.pointer (some ⟨bp,0,none⟩)] 91);rw [hs]at hn;exact(cell_of_row _ _ _ _ _ _ hn).trans rfl
theorem zf (w:World)(bp B:Nat)(ts:List aI)(h:bX w bp B ts 100):
  Calls Tryz.prog 102 #[.pointer (some ⟨bp,0,none⟩)] w fun e w'=>e=Fa ((aS ts).line,(aS ts).col,6)∧eP bp w w':=by
 have H0:=aZ h;have HF:=aZ (fun(w1:World) (h1:bX w1 bp B ts 100)=>xG w1 bp B ts 100 6 h1);have hlt:=h.lt;obtain⟨b,o,c,t,r,he,hc,hcm,hl,hB,hb,hbk,hs,d0,d1,z0,c0,c1,c2,c3⟩:=h.open_;clear h hs hbk d0 c0 c1 c2 c3 he;go_enter Tryz.func102,Tryz.ntmps102;go_wp2_with fail;refine(HF.o _ (H0.o.below ((Below.refl _ _).alloc (Nat.le_refl _) _))).mono ?_;rintro e w3 ⟨rfl,hb3⟩;have HT3:=aZ (eP.below (Turn.of_below (F:=fun j=>j=bp) ((Below.refl _ _).alloc (Nat.le_refl _) _)) (H0.o.below ((Below.refl _ _).alloc (Nat.le_refl _) _)).bp hb3);clear hb3;go_wp2_with fail;exact⟨rfl,rfl,HT3.o⟩
theorem I8 (w:World)(bp x:Nat)(v:Value)(d:Int)(u:FrameMode)(h:w.heap[bp]? =some (.cells #[v,.int .i64 d] 151 (0,0)))(hx:w.cell? ⟨x,0,none⟩=some (.pointer (some ⟨bp,0,none⟩))):
  CallsD Tryz.prog 158 #[.pointer (some ⟨x,0,none⟩)] u w fun e u' w'=>u'=u∧(e=.returned (.tuple #[])∧w'=w.setCell ⟨bp,1,none⟩ (.int .i64 (wrap64 (d - 1)))):=by
 have d1:w.cell? ⟨bp,1,none⟩=some (.int .i64 d):=(cell_of_row _ _ _ _ _ _ h).trans rfl;have z0:∀i,w.frozen? ⟨bp,i,none⟩=false:=fun i=>frozen_of_row _ _ _ _ _ h;clear h
 go_enter_d Tryz.func158,Tryz.ntmps158
 go_wp2_with fail;go_end0;exact⟨rfl,rfl⟩
def leftOf (w:World)(bp:Nat):Nat:=match w.cell? ⟨bp,0,none⟩with |some (.slice _ n _)=>n |_=>0
theorem bX.left {w:World}{bp B:Nat}{ts:List aI}{d:Int}(h:bX w bp B ts d):leftOf w bp=ts.length:=by
 obtain⟨b,o,c,t,r,rfl,hc,hcm,hl,hB,hb,hbk,hs,d0,d1,z0,c0,c1,c2,c3⟩:=h.open_;unfold leftOf;rw [d0];rfl
def dX {α:Type}(Inv:World->List α->Prop)(G:Nat->Prop)(bp B:Nat)(d:Int)(w:World)(q:Pr (List α))(e:Ending)(w':World):Prop:=match q with
 |.good l r=>e=.returned (.tuple #[])∧Turn G w w'∧Inv w' l∧bX w' bp B r d
 |.bad g=>e=Fa g∧Turn G w w'∧y9 w' bp
section
variable {α:Type}{Inv:World->List α->Prop}{G:Nat->Prop}{bp B:Nat}{d:Int}{w w':World}{q:Pr (List α)}{e:Ending}
theorem dX.bY {g:CS}(h:dX Inv G bp B d w q e w')(hq:q=.bad g):e=Fa g∧Turn G w w'∧y9 w' bp:=by
 subst hq;exact h
theorem dX.aQ {x:List α}{r:List aI}(h:dX Inv G bp B d w q e w')(hq:q=.good x r):e=.returned (.tuple #[])∧Turn G w w'∧Inv w' x∧bX w' bp B r d:=by
 subst hq;exact h
theorem dX.fail {g:CS}(hq:q=.bad g)(t:Turn G w w')(hb:y9 w' bp):dX Inv G bp B d w q (Fa g) w':=by
 subst hq;exact⟨rfl,t,hb⟩
theorem dX.done {x:List α}{r:List aI}(hq:q=.good x r)(t:Turn G w w')(hI:Inv w' x)(hR:bX w' bp B r d):dX Inv G bp B d w q (.returned (.tuple #[])) w':=by
 subst hq;exact⟨rfl,t,hI,hR⟩
end
def sU {α:Type}(one:Ps α)(l:List α):Ps (List α):=aj one fun x=>aF (l++[x])
theorem I9 {α:Type}{one:Ps α}{l:List α}{ts:List aI}{g:CS}(h:one ts=.bad g):sU one l ts=.bad g:=aC h
theorem Fe {α:Type}{one:Ps α}{l:List α}{ts r:List aI}{x:α}(h:one ts=.good x r):sU one l ts=.good (l++[x]) r:=au h
theorem iN {s:Bt}{ts:List aI}{g:CS}(h:bM s ts=.bad g):False:=by
 unfold bM at h;split at h <;> cases h
theorem xH {s:Bt}{ts r:List aI}(h:bM s ts=.good true r)(hw:1<=ts.length):r.length<ts.length:=by
 unfold bM at h;split at h
 ·injection h with _ h;subst h;rw [List.length_drop];omega
 ·injection h with h;cases h
theorem lU {α:Type}(one:Ps α)(hone:Sf one)(K:Nat)(caps:Array Value)(Inv:World->List α->Prop)(G:Nat->Prop)(d:Int)(w:World)(bp B:Nat)(ts:List aI)(hG:G bp)
  (hInv:∀(w1 w2:World) (l:List α),Turn (fun k=>k=bp) w1 w2->Inv w1 l->Inv w2 l) (hnew:∀g,w.heap.size<=g->G g)
  (HC:∀(w1:World) (r:List aI) (l:List α),l.length<=8193->w.heap.size<=w1.heap.size->Inv w1 l->bX w1 bp B r d->Calls Tryz.prog K caps w1 (dX Inv G bp B d w1 (sU one l r)))
  (hent:∀w:World,(callFunc K caps).run Tryz.prog w=.ok (.enter K caps) w) (h:bX w bp B ts d) (hI:Inv w []):
  Calls Tryz.prog 151 #[.pointer (some ⟨bp,0,none⟩),.func (.func K) #[] caps] w (dX Inv G bp B d w (iw one ts)):=by
 have HC0:=aZ (HC w ts [] (by simp) (Nat.le_refl _) hI h);have hn:=h.2.1.1;have HN:=aZ hn;have HCC:=aZ HC;have ajI:=aZ hInv;obtain⟨Q,hQ⟩:∃Q,iw one ts=Q:=⟨_,rfl⟩
 rw [hQ];have HQ:=aZ hQ;have HW0:=aZ h.wf;clear HC hI hQ hInv h hn;go_enter Tryz.func151,Tryz.ntmps151;go_wp2_with fail;refine HC0.o.mono ?_;rintro e w1 h1;rcases hq:one ts with g |⟨x,r1⟩
 ·obtain⟨rfl,t1,b1⟩:=h1.bY (I9 hq);have HT:=aZ t1;have HB:=aZ b1;have mM:=aZ (HQ.o.symm.trans (show iw one ts=.bad g from aC hq));clear h1 t1 b1 hq;go_wp2_with fail;exact⟨rfl,dX.fail mM.o HT.o HB.o⟩
 ·obtain⟨rfl,t1,i1,k1⟩:=h1.aQ (Fe hq);have HT1:=aZ t1;have HI1:=aZ i1;have iI:=aZ k1;have wI:=aZ ((hone.good HW0.o hq).2.length_le);have mM:=aZ ((show iw one ts=qJ one r1.length [x] r1 from au hq).symm.trans HQ.o);clear h1 t1 i1 k1 hq;go_wp2_with fail;go_loopw [6] (fun _ wr=>∃(f:Nat) (l:List α) (r:List aI),qJ one f l r=Q∧r.length<=f∧l.length+r.length<=ts.length+1∧Turn G w wr∧Inv wr l∧bX wr bp B r d) (fun _ wr=>leftOf wr bp)
  case atStart=>exact⟨_,_,r1,mM.o,Nat.le_refl _,by have:=wI.o;simp only [List.length_singleton];omega,HT1.o,HI1.o,iI.o⟩
  case round=>
   obtain⟨f,l,r,hs,hf,hlr,ht,hi,hk⟩:=hrel;have hwf:=hk.wf;have hpos:=hwf.pos;obtain⟨f,rfl⟩:∃f',f=f'+1:=⟨f - 1,by omega⟩
   have HS:bN (aj (bM [44]) (fun b=>if b then aj one fun a=>qJ one f (l++[a])else aF l) r=Q):=aZ hs;have HLEN:=aZ hk.left;have HF:=aZ hf;have HT:=aZ ht;have HI:=aZ hi;have vO:=aZ hwf;have HH:=aZ (lD wr bp B r d hk [44]);have HP:=aZ hpos;have Hz:=aZ hlr;clear hs hf ht hi hk hwf hpos hlr;rcases hq:bM [44] r with g |⟨b,r2⟩
   ·exact(iN hq).elim
   cases b
   ·have jI:bN (Pr.good l r2=Q):=aZ ((au hq).symm.trans HS.o);go_wp2_with fail;refine HH.o.mono ?_;rintro e w2 h2;obtain⟨v,rfl,t2,rfl,k2⟩:=h2.aQ hq;have HT2:=aZ (HT.o.trans t2 (fun j _ hj=>by subst hj;exact hG));have HI2:=aZ (ajI.o _ _ _ t2 HI.o);have gW:=aZ k2;clear h2 t2 k2 hq;go_wp2_with fail;go_end0;exact dX.done jI.o.symm HT2.o HI2.o gW.o
   ·have jI:bN (aj one (fun a=>qJ one f (l++[a])) r2=Q):=aZ ((au hq).symm.trans HS.o);have HL2:=aZ (xH hq HP.o);go_wp2_with fail;refine HH.o.mono ?_;rintro e w2 h2;obtain⟨v,rfl,t2,rfl,k2⟩:=h2.aQ hq;have HT2:=aZ (HT.o.trans t2 (fun j _ hj=>by subst hj;exact hG));have qZ:=aZ (HCC.o w2 r2 l (by have:=Hz.o;have:=HL2.o;have:=HN.o;omega) (HT2.o.size) (ajI.o _ _ _ t2 HI.o) k2);have apB:=aZ k2.wf;clear h2 t2 k2 hq;go_wp2_with fail;refine qZ.o.mono ?_;rintro e w3 h3;rcases hq3:one r2 with g |⟨y,r3⟩
    ·obtain⟨rfl,t3,b3⟩:=h3.bY (I9 hq3);have HT3:=aZ (HT2.o.trans t3 (fun _ _ h=>h));have HB3:=aZ b3;have iq:=aZ (jI.o.symm.trans (aC hq3));clear h3 t3 b3 hq3;go_wp2_with fail;exact⟨rfl,dX.fail iq.o HT3.o HB3.o⟩
    ·obtain⟨rfl,t3,i3,k3⟩:=h3.aQ (Fe hq3);have HT3:=aZ (HT2.o.trans t3 (fun _ _ h=>h));have HI3:=aZ i3;have gD:=aZ k3;have iq:bN (qJ one f (l++[y]) r3=Q):=aZ ((au hq3).symm.trans jI.o);have agF:=aZ ((hone.good apB.o hq3).2.length_le);clear h3 t3 i3 k3 hq3;go_wp2_with fail
     go_roundw
     case rel=>exact⟨f,_,r3,iq.o,by have:=agF.o;have:=HL2.o;have:=HF.o;omega,by have:=agF.o;have:=HL2.o;have:=Hz.o;simp only [List.length_append,List.length_singleton];omega,HT3.o,HI3.o,gD.o⟩
     case measure=>rw [gD.o.left,HLEN.o];have:=agF.o;have:=HL2.o;omega
theorem iC {α β γ:Type}{p:Ps α}{f:α->Ps β}{g:β->Ps γ}{ts r:List aI}{a:α}(h:p ts=.good a r):aj (aj p f) g ts=aj (f a) g r:=by
 unfold aj;rw [h]
theorem xI {α β γ:Type}{p:Ps α}{f:α->Ps β}{g:β->Ps γ}{ts:List aI}{d:CS}(h:p ts=.bad d):aj (aj p f) g ts=.bad d:=aC (aC h)
theorem new1 (w:World)(o1:Obj):Below w.heap.size w (w.alloc o1):=(Below.refl _ _).alloc (Nat.le_refl _) _
theorem new2 (w:World)(o1 o2:Obj):Below w.heap.size w ((w.alloc o1).alloc o2):=(new1 w o1).alloc (by simp) _
theorem ajJ (w:World)(o1 o2 o3:Obj):Below w.heap.size w (((w.alloc o1).alloc o2).alloc o3):=(new2 w o1 o2).alloc (by simp;omega) _
theorem wJ (w:World)(o:Obj):(w.alloc o).heap[w.heap.size]? =some o:=heap_alloc_new w o
theorem bQ {w:World}{b:Nat}{o o':Obj}(h:w.heap[b]? =some o):(w.alloc o').heap[b]? =some o:=ah h (Turn.alloc (fun _=>False) _ _) id
section
variable {G:Nat->Prop}{w w2:World}{o1 o2 o3 o4:Obj}
theorem bR (t:Turn G (w.alloc o1) w2):Turn G w w2∧w.heap.size+1<=w2.heap.size∧(¬G w.heap.size->w2.heap[w.heap.size]? =some o1):=by
 have hs:=t.size;simp at hs;exact⟨(Turn.alloc G _ _).trans t (fun _ _ h=>h),hs,fun h=>ah (wJ w o1) t h⟩
theorem iJ (t:Turn G ((w.alloc o1).alloc o2) w2):Turn G w w2∧w.heap.size+2<=w2.heap.size∧(¬G w.heap.size->w2.heap[w.heap.size]? =some o1)∧(¬G (w.heap.size+1)->w2.heap[w.heap.size+1]? =some o2):=by
 obtain⟨t1,h1,h2⟩:=bR t;obtain⟨t0,h3,h4⟩:=bR t1;simp at h1 h2;exact⟨t0,by omega,h4,h2⟩
theorem BN (t:Turn G (((w.alloc o1).alloc o2).alloc o3) w2):Turn G w w2∧w.heap.size+3<=w2.heap.size∧(¬G w.heap.size->w2.heap[w.heap.size]? =some o1)∧(¬G (w.heap.size+1)->w2.heap[w.heap.size+1]? =some o2)∧(¬G (w.heap.size+1+1)->w2.heap[w.heap.size+1+1]? =some o3):=by
 obtain⟨t1,h1,h2⟩:=bR t;obtain⟨t0,h3,h4,h5⟩:=iJ t1;simp at h1 h2;exact⟨t0,by omega,h4,h5,h2⟩
end
theorem ru {G:Nat->Prop}(w:World){w2:World}(cs:Array Value)(t:TypeId)(k n:Nat)(hs:cs.size=n*k)(hn:n<=maxLen)(t2:Turn G (w.alloc (.cells cs t)) w2)(hG:¬G w.heap.size):
  Sl w2 (w.heap.size+1) k (.slice (some ⟨w.heap.size,0,none⟩) n n) cs.toList:=by
 refine⟨_,n,n,rfl,by simpa using hs,Nat.le_refl _,hn,fun _=>⟨w.heap.size,0,rfl,by omega,fun j u hu=>?_⟩⟩;rw [cell_of_row _ _ _ cs t (0,0) ((bR t2).2.2 hG)];simpa using hu
theorem jO (w:World)(cs:Array Value)(t:TypeId)(k n:Nat)(hs:cs.size=n*k)(hn:n<=maxLen):cO (w.alloc (.cells cs t)) (fun j=>j=w.heap.size) k (.slice (some ⟨w.heap.size,0,none⟩) n n) cs.toList:=by
 refine⟨_,n,n,rfl,by simpa using hs,Nat.le_refl _,hn,fun _=>⟨w.heap.size,0,rfl,rfl,by simp,fun j u hu=>?_⟩⟩;rw [cell_of_row _ _ _ cs t (0,0) (heap_alloc_new w _)];simpa using hu
theorem JY (w:World)(a:Nat)(ha:a=w.heap.size)(l:List Bt)(cs:Array Value)(t:TypeId)(n:Nat)(hcs:cs.toList=pU l)(hn:n=l.length)(hm:n<=100000):Ss (w.alloc (.cells cs t)) (w.alloc (.cells cs t)).heap.size (.slice (some ⟨a,0,none⟩) n n) l:=by
 subst ha hn
 have h:=gX w cs t 1 l.length (by
  have:=congrArg List.length hcs;simp [pU]at this;omega) (by unfold maxLen;omega)
 rw [hcs]at h;exact h.more (by simp)
theorem aB {bp:Nat}{a b c:World}(h:Turn (fun k=>k=bp) a b)(k:Turn (fun k=>k=bp) b c):Turn (fun k=>k=bp) a c:=h.trans k fun _ _ h=>h
theorem aX {w:World}{b:Nat}{a0 a1 a2 a3:Value}{t:TypeId}(h:w.heap[b]? =some (.cells #[a0,a1,a2,a3] t (0,0))):w.cell? ⟨b,0,none⟩=some a0∧w.cell? ⟨b,1,none⟩=some a1∧w.cell? ⟨b,2,none⟩=some a2∧w.cell? ⟨b,3,none⟩=some a3∧∀i,w.frozen? ⟨b,i,none⟩=false:=
 ⟨(cell_of_row _ _ _ _ _ _ h).trans rfl,(cell_of_row _ _ _ _ _ _ h).trans rfl,(cell_of_row _ _ _ _ _ _ h).trans rfl,(cell_of_row _ _ _ _ _ _ h).trans rfl,fun i=>frozen_of_row _ _ _ _ _ h⟩
theorem aD {w:World}{b:Nat}{a0 a1 a2 a3 a4 a5 a6 a7:Value}{t:TypeId}(h:w.heap[b]? =some (.cells #[a0,a1,a2,a3,a4,a5,a6,a7] t (0,0))):w.cell? ⟨b,0,none⟩=some a0∧w.cell? ⟨b,1,none⟩=some a1∧w.cell? ⟨b,2,none⟩=some a2∧w.cell? ⟨b,3,none⟩=some a3∧
  w.cell? ⟨b,4,none⟩=some a4∧w.cell? ⟨b,5,none⟩=some a5∧w.cell? ⟨b,6,none⟩=some a6∧w.cell? ⟨b,7,none⟩=some a7∧∀i,w.frozen? ⟨b,i,none⟩=false:=
 ⟨(cell_of_row _ _ _ _ _ _ h).trans rfl,(cell_of_row _ _ _ _ _ _ h).trans rfl,(cell_of_row _ _ _ _ _ _ h).trans rfl,(cell_of_row _ _ _ _ _ _ h).trans rfl,(cell_of_row _ _ _ _ _ _ h).trans rfl,(cell_of_row _ _ _ _ _ _ h).trans rfl,(cell_of_row _ _ _ _ _ _ h).trans rfl,(cell_of_row _ _ _ _ _ _ h).trans rfl,fun i=>frozen_of_row _ _ _ _ _ h⟩
theorem cZ {w:World}{b:Nat}{a0:Value}{t:TypeId}(h:w.heap[b]? =some (.cells #[a0] t (0,0))):w.cell? ⟨b,0,none⟩=some a0:=(cell_of_row _ _ _ _ _ _ h).trans rfl
abbrev dK (w:World)(b:Nat)(v0 v1 v2 v3:Value):World:=(((w.setCell ⟨b,0,none⟩ v0).setCell ⟨b,1,none⟩ v1).setCell ⟨b,2,none⟩ v2).setCell ⟨b,3,none⟩ v3
theorem dD (w:World)(b:Nat)(v0 v1 v2 v3:Value):Turn (fun k=>k=b) w (dK w b v0 v1 v2 v3):=
 (((ak w b 0 v0).trans (ak _ b 1 v1) (fun _ _ h=>h)).trans (ak _ b 2 v2) (fun _ _ h=>h)).trans (ak _ b 3 v3) (fun _ _ h=>h)
theorem aY {w:World}{b:Nat}{a0 a1 a2 a3:Value}{t:TypeId}(h:w.heap[b]? =some (.cells #[a0,a1,a2,a3] t (0,0)))(v0 v1 v2 v3:Value):(dK w b v0 v1 v2 v3).heap[b]? =some (.cells #[v0,v1,v2,v3] t (0,0)):=
 heap_setCell_same _ b 3 _ _ v3 (heap_setCell_same _ b 2 _ _ v2 (heap_setCell_same _ b 1 _ _ v1 (heap_setCell_same w b 0 _ _ v0 h)))
abbrev yg (w:World)(b:Nat)(v0 v1 v2 v3 v4 v5 v6 v7:Value):World:=(((((((w.setCell ⟨b,0,none⟩ v0).setCell ⟨b,1,none⟩ v1).setCell ⟨b,2,none⟩ v2).setCell ⟨b,3,none⟩ v3).setCell ⟨b,4,none⟩ v4).setCell ⟨b,5,none⟩ v5).setCell ⟨b,6,none⟩ v6).setCell ⟨b,7,none⟩ v7
theorem bD (w:World)(b:Nat)(v0 v1 v2 v3 v4 v5 v6 v7:Value):Turn (fun k=>k=b) w (yg w b v0 v1 v2 v3 v4 v5 v6 v7):=
 ((((dD w b v0 v1 v2 v3).trans (ak _ b 4 v4) (fun _ _ h=>h)).trans (ak _ b 5 v5) (fun _ _ h=>h)).trans (ak _ b 6 v6) (fun _ _ h=>h)).trans (ak _ b 7 v7) (fun _ _ h=>h)
theorem aV {w:World}{b:Nat}{a0 a1 a2 a3 a4 a5 a6 a7:Value}{t:TypeId}(h:w.heap[b]? =some (.cells #[a0,a1,a2,a3,a4,a5,a6,a7] t (0,0)))(v0 v1 v2 v3 v4 v5 v6 v7:Value):(yg w b v0 v1 v2 v3 v4 v5 v6 v7).heap[b]? =some (.cells #[v0,v1,v2,v3,v4,v5,v6,v7] t (0,0)):=by
 have h0:(w.setCell ⟨b,0,none⟩ v0).heap[b]? =some (.cells #[v0,a1,a2,a3,a4,a5,a6,a7] t (0,0)):=heap_setCell_same _ b 0 _ _ v0 h;have h1:((w.setCell ⟨b,0,none⟩ v0).setCell ⟨b,1,none⟩ v1).heap[b]? =some (.cells #[v0,v1,a2,a3,a4,a5,a6,a7] t (0,0)):=heap_setCell_same _ b 1 _ _ v1 h0;have h2:(((w.setCell ⟨b,0,none⟩ v0).setCell ⟨b,1,none⟩ v1).setCell ⟨b,2,none⟩ v2).heap[b]? =some (.cells #[v0,v1,v2,a3,a4,a5,a6,a7] t (0,0)):=heap_setCell_same _ b 2 _ _ v2 h1;have h3:((((w.setCell ⟨b,0,none⟩ v0).setCell ⟨b,1,none⟩ v1).setCell ⟨b,2,none⟩ v2).setCell ⟨b,3,none⟩ v3).heap[b]? =some (.cells #[v0,v1,v2,v3,a4,a5,a6,a7] t (0,0)):=heap_setCell_same _ b 3 _ _ v3 h2;have h4:(((((w.setCell ⟨b,0,none⟩ v0).setCell ⟨b,1,none⟩ v1).setCell ⟨b,2,none⟩ v2).setCell ⟨b,3,none⟩ v3).setCell ⟨b,4,none⟩ v4).heap[b]? =some (.cells #[v0,v1,v2,v3,v4,a5,a6,a7] t (0,0)):=heap_setCell_same _ b 4 _ _ v4 h3;have h5:((((((w.setCell ⟨b,0,none⟩ v0).setCell ⟨b,1,none⟩ v1).setCell ⟨b,2,none⟩ v2).setCell ⟨b,3,none⟩ v3).setCell ⟨b,4,none⟩ v4).setCell ⟨b,5,none⟩ v5).heap[b]? =some (.cells #[v0,v1,v2,v3,v4,v5,a6,a7] t (0,0)):=heap_setCell_same _ b 5 _ _ v5 h4;have h6:(((((((w.setCell ⟨b,0,none⟩ v0).setCell ⟨b,1,none⟩ v1).setCell ⟨b,2,none⟩ v2).setCell ⟨b,3,none⟩ v3).setCell ⟨b,4,none⟩ v4).setCell ⟨b,5,none⟩ v5).setCell ⟨b,6,none⟩ v6).heap[b]? =some (.cells #[v0,v1,v2,v3,v4,v5,v6,a7] t (0,0)):=heap_setCell_same _ b 6 _ _ v6 h5;have h7:((((((((w.setCell ⟨b,0,none⟩ v0).setCell ⟨b,1,none⟩ v1).setCell ⟨b,2,none⟩ v2).setCell ⟨b,3,none⟩ v3).setCell ⟨b,4,none⟩ v4).setCell ⟨b,5,none⟩ v5).setCell ⟨b,6,none⟩ v6).setCell ⟨b,7,none⟩ v7).heap[b]? =some (.cells #[v0,v1,v2,v3,v4,v5,v6,v7] t (0,0)):=heap_setCell_same _ b 7 _ _ v7 h6;exact h7
abbrev Iv (a b:Nat):Nat->Prop:=fun j=>a<=j∧j<b
theorem mJ.iv {w:World}{a:Nat}{z:List Value}{t:bS}(h:mJ w (fun j=>a<=j) z t):mJ w (Iv a w.heap.size) z t:=h.mono fun _ hg h=>⟨h,hg⟩
theorem qd.iv {w:World}{a:Nat}{z:List Value}{t:bI}(h:qd w (fun j=>a<=j) z t):qd w (Iv a w.heap.size) z t:=h.mono fun _ hg h=>⟨h,hg⟩
theorem eP.mk2 {bp:Nat}{a c:World}(t:Turn (fun k=>k=bp) a c)(h:y9 c bp):eP bp a c:=⟨t,h⟩
theorem eP.more {bp:Nat}{a b c:World}{G:Nat->Prop}(t:Turn (fun k=>k=bp) a b)(k:Turn G b c)(hG:∀i,i<a.heap.size->G i->i=bp)(h:y9 c bp):eP bp a c:=⟨t.trans k hG,h⟩
theorem mJ.shape' {w:World}{F:Nat->Prop}{z:List Value}{t:bS}(h:mJ w F z t):∃k s A1 n1 c1 A2 n2 c2,z=[.int .i64 k,sv s,.slice A1 n1 c1,.slice A2 n2 c2]:=by
 cases h with
 |mk h1 h2 h3=>
  obtain⟨A1,n1,c1,rfl,_⟩:=h1;obtain⟨A2,n2,c2,rfl,_⟩:=h2;exact⟨_,_,_,_,_,_,_,_,rfl⟩
theorem qd.shape' {w:World}{F:Nat->Prop}{z:List Value}{t:bI}(h:qd w F z t):∃k s a b c A1 n1 c1 A2 n2 c2 A3 n3 c3,z=[.int .i64 k,sv s,.int .i64 a,.int .i64 b,.int .i64 c,.slice A1 n1 c1,.slice A2 n2 c2,.slice A3 n3 c3]:=by
 cases h with
 |mk h1 h2 h3 h4 h5=>
  obtain⟨A1,n1,c1,rfl,_⟩:=h1;obtain⟨A2,n2,c2,rfl,_⟩:=h3;obtain⟨A3,n3,c3,rfl,_⟩:=h4;exact⟨_,_,_,_,_,_,_,_,_,_,_,_,_,_,rfl⟩
theorem sV (w:World)(F:Nat->Prop)(k:Int)(s:Bt):mJ w F [.int .i64 k,sv s,.slice none 0 0,.slice none 0 0] (.mk k s [] []):= .mk (cO.nil _ _ _) (cO.nil _ _ _) .nil
def nQ (w:World)(g o:Nat):List Value->World
 | []=>w
 |v :: l=>nQ (w.setCell ⟨g,o,none⟩ v) g (o+1) l
def abB (xs:List Value)(o:Nat):List Value->List Value
 | []=>xs
 |v :: l=>abB (xs.set o v) (o+1) l
theorem fU (g:Nat):∀(l:List Value) (w:World) (o:Nat),Turn (fun k=>k=g) w (nQ w g o l)
 | [],w,_=>Turn.refl _ _
 |v :: l,w,o=>(ak w g o v).trans (fU g l _ _) (fun _ _ h=>h)
theorem LA {base g:Nat}{e:TypeId}{k:Nat}{v:Value}{n:Nat}(hg:v.ownBlock=some g):∀(l:List Value) (w:World) (o:Nat) (xs:List Value),w.ownsRow base e k v n xs->(nQ w g o l).ownsRow base e k v n (abB xs o l)
 | [],w,_,xs,h=>h
 |u :: l,w,o,xs,h=>LA hg l _ _ _ (abt h hg)
theorem LB:∀(l olds ys:List Value) (o:Nat),ys.length=o->olds.length=l.length->abB (ys++olds) o l=ys++l
 | [],[],ys,_,_,_=>rfl
 |v :: l,a :: olds,ys,o,h,h2=>by
  show abB ((ys++a :: olds).set o v) (o+1) l= _;have e:(ys++a :: olds).set o v=(ys++[v])++olds:=by
   rw [List.set_append_right _ _ (by omega),h,Nat.sub_self];simp
  rw [e,LB l olds (ys++[v]) (o+1) (by simp [h]) (by simpa using h2)];simp
 | [],_ :: _,_,_,_,h2=>by cases h2
 |_ :: _,[],_,_,_,h2=>by cases h2
theorem Eo {w:World}{base g:Nat}{e:TypeId}{k:Nat}{v:Value}{n:Nat}{ys olds z:List Value}(h:w.ownsRow base e k v n (ys++olds))(hg:v.ownBlock=some g)(hz:olds.length=z.length){o:Nat}(ho:ys.length=o):(nQ w g o z).ownsRow base e k v n (ys++z):=by
 have:=LA hg z w o _ h;rwa [LB z olds ys o ho hz]at this
theorem qg (w0:World)(bp B:Nat)(ts:List aI)(d:Int)(h:bX w0 bp B ts d)(l:List Bt)(cs:Array Value)(t:TypeId)(n a:Nat)(hcs:cs.toList=pU l:=by rfl)(hn:n=l.length:=by rfl)(ha:a=w0.heap.size:=by simp)(hm:n<=100000:=by decide):
  Calls Tryz.prog 104 #[.pointer (some ⟨bp,0,none⟩),.slice (some ⟨a,0,none⟩) n n] (w0.alloc (.cells cs t)) (aL adw bp B d w0 (dA l ts)):=by
 refine(zY _ bp B ts d (h.below (new1 _ _)) _ l (JY w0 a ha l cs t n hcs hn hm) (by omega)).mono ?_;intro e w' h2;rcases hq:dA l ts with g |⟨o,r⟩
 ·exact(iB hq).elim
 ·rw [hq]at h2;obtain⟨v,rfl,t2,hP,hR⟩:=h2.aQ rfl;exact aL.done rfl (bR t2).1 hP hR
theorem agG (s:Bt)(ts:List aI):jo [s] ts=aH s ts:=by
 show aj (aH s) (fun _=>aF ()) ts= _;unfold aj;cases aH s ts <;> rfl
theorem fF (w0:World)(bp B:Nat)(ts:List aI)(d:Int)(h:bX w0 bp B ts d)(s:Bt)(t:TypeId)(a:Nat)(ha:a=w0.heap.size:=by simp):
  Calls Tryz.prog 150 #[.pointer (some ⟨bp,0,none⟩),.slice (some ⟨a,0,none⟩) 1 1] (w0.alloc (.cells #[sv s] t)) (aL PUnit bp B d w0 (aH s ts)):=by
 refine(Lx _ bp B ts d (h.below (new1 _ _)) _ [s] (JY w0 a ha [s] #[sv s] t 1 rfl rfl (by decide)) (by simp)).mono ?_;intro e w' h2;rw [agG]at h2;rcases hq:aH s ts with g |⟨o,r⟩
 ·rw [hq]at h2;obtain⟨rfl,b2,b3⟩:=h2.bY rfl;exact aL.fail rfl ⟨(bR b2).1,b3⟩
 ·rw [hq]at h2;obtain⟨v,rfl,t2,hP,hR⟩:=h2.aQ rfl;exact aL.done rfl (bR t2).1 hP hR
theorem iK {w:World}{base:Nat}{e:TypeId}{k:Nat}{v:Value}{n:Nat}{xs:List Value}(h:w.ownsRow base e k v n xs):∃A c,v=.slice A n c∧n<=c∧c<=maxLen:=by
 rcases h.2 with⟨rfl,rfl⟩ |⟨g,cap,cur,rfl,_,_,h1,h2,_⟩
 ·exact⟨_,_,rfl,Nat.le_refl _,Nat.zero_le _⟩
 ·exact⟨_,_,rfl,h1,h2⟩
theorem Ep:∀u∈[Value.int .i64 0,.string ⟨#[]⟩,.slice none 0 0,.slice none 0 0],u.oneCell'=true:=by
 intro u hu;simp only [List.mem_cons,List.not_mem_nil,or_false]at hu;rcases hu with rfl |rfl |rfl |rfl <;> rfl
theorem Er:∀u∈[Value.int .i64 0,.string ⟨#[]⟩,.int .i64 0,.int .i64 0,.int .i64 0,.slice none 0 0,.slice none 0 0,.slice none 0 0],u.oneCell'=true:=by
 intro u hu;simp only [List.mem_cons,List.not_mem_nil,or_false]at hu;rcases hu with rfl |rfl |rfl |rfl |rfl |rfl |rfl |rfl <;> rfl
theorem zZ (k:Int)(s:Bt)(A1 A2:Option Addr)(n1 c1 n2 c2:Nat):∀u∈ #[Value.int .i64 k,sv s,.slice A1 n1 c1,.slice A2 n2 c2].toList,u.oneCell'=true:=by
 intro u hu;simp only [List.mem_cons,List.not_mem_nil,or_false]at hu;rcases hu with rfl |rfl |rfl |rfl <;> rfl
def gy {α:Type}(P:World->Value->α->Prop)(G:Nat->Prop)(bp B:Nat)(d:Int)(w:World)(q:Pr α)(e:Ending)(w':World):Prop:=
 match q with
  |.good x r=>∃v,e=.returned v∧Turn G w w'∧P w' v x∧bX w' bp B r d
  |.bad g=>e=Fa g∧Turn G w w'∧y9 w' bp
section
variable {α:Type}{P:World->Value->α->Prop}{G:Nat->Prop}{bp B:Nat}{d:Int}{w w':World}{q:Pr α}{e:Ending}
theorem gy.bY {g:CS}(h:gy P G bp B d w q e w')(hq:q=.bad g):e=Fa g∧Turn G w w'∧y9 w' bp:=by
 subst hq;exact h
theorem gy.aQ {x:α}{r:List aI}(h:gy P G bp B d w q e w')(hq:q=.good x r):∃v,e=.returned v∧Turn G w w'∧P w' v x∧bX w' bp B r d:=by
 subst hq;exact h
theorem gy.fail {g:CS}(hq:q=.bad g)(t:Turn G w w')(hb:y9 w' bp):gy P G bp B d w q (Fa g) w':=by
 subst hq;exact⟨rfl,t,hb⟩
theorem gy.done {x:α}{r:List aI}{v:Value}(hq:q=.good x r)(t:Turn G w w')(hP:P w' v x)(hR:bX w' bp B r d):gy P G bp B d w q (.returned v) w':=by
 subst hq;exact⟨v,rfl,t,hP,hR⟩
end
theorem vD:ng Tryz.prog 49 57 (.agg #[.int .i64 0,.string ⟨#[]⟩,.slice none 0 0,.slice none 0 0]) 4 72:=⟨Tryz.underlying49,by kernel_rfl,rfl,by omega⟩
theorem Ja:ng Tryz.prog 50 52 (.agg #[.int .i64 0,.string ⟨#[]⟩,.int .i64 0,.int .i64 0,.int .i64 0,.slice none 0 0,.slice none 0 0,.slice none 0 0]) 8 120:=⟨Tryz.underlying50,by kernel_rfl,rfl,by omega⟩
end Go.Proofs.YtfgjkmipfikooaaGreatDoor
