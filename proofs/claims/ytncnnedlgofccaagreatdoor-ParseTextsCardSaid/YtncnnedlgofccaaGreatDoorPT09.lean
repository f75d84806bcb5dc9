/- MX, MQ -/
import Derived.Test.YtncnnedlgofccaaGreatDoorPTQ
import Derived.Deep.RegionHeld
import Derived.Test.YtncnnedlgofccaaGreatDoorPT01
set_option linter.unusedSimpArgs false
set_option linter.unusedVariables false
namespace Go.Proofs.YtncnnedlgofccaaGreatDoor
open Go.RowKit
section
variable {P:Program}{ops:Array Oper}{Q:Exit->Act->World->Prop}{md:Region.Mode}{S:World->Prop}{x:Nat}
def AnyX (P:Program)(md:Region.Mode)(ops:Array Oper)(Q:Exit->Act->World->Prop)(S:World->Prop)(x:Nat):Nat->Array Bool->Act->World->Prop
 |0,listed,a,w=>Region.ready md ops listed=[]∧Q .normal a w
 |fuel+1,listed,a,w=>
  (Region.ready md ops listed=[]->Q .normal a w)∧
  ∀i∈Region.ready md ops listed,wpOp P ops Q i (fun a' w'=>((listed.setIfInBounds i true).getD x true=false->S w')∧AnyX P md ops Q S x fuel (listed.setIfInBounds i true) a' w') a w
theorem NA:∀(fuel:Nat) (listed:Array Bool) (a:Act) (w:World),AnyX P md ops Q S x fuel listed a w->wpAny P md ops Q fuel listed a w
 |0,_,_,_,h=>h
 |fuel+1,_,_,_,h=>⟨h.1,fun i hi=>wpOp_mono (fun a' w' h'=>NA fuel _ a' w' h'.2) (h.2 i hi)⟩
def waits (md:Region.Mode)(ops:Array Oper)(x i:Nat):Bool:=match ops[x]? with
 |none=>false
 |some o=>(x != i) && o.after.any fun e=>Region.binds md e && e.on==i
theorem Rm {i:Nat}(h:waits md ops x i=true):x≠i∧∃o,ops[x]? =some o∧∃e∈o.after,Region.binds md e=true∧e.on=i:=by
 unfold waits at h;split at h
 ·cases h
 ·rename_i o ho
  simp only [Bool.and_eq_true,bne_iff_ne,Array.any_eq_true',beq_iff_eq]at h;obtain⟨h1,e,he,h2,h3⟩:=h;exact⟨h1,o,ho,e,he,h2,h3⟩
theorem GR {i:Nat}{oi:Oper}{v:Value}(hi:ops[i]? =some oi)(hsel:∀(j:Nat) (o:Oper) cs b,ops[j]? =some o->o.op≠ .select cs b)
  (hQ:∀c a w,Q (.panic c) (a.put oi.dst v) w->Q (.panic c) a w) (hx:waits md ops x i=true):
  ∀(fuel:Nat) (listed:Array Bool) (a:Act) (w:World),
   (∀j oj,ops[j]? =some oj->j≠i->listed.getD j true=false->(∀e∈oj.after,Region.binds md e=true->e.on≠i)->oi.apart ops oj=true)->
   i∈Region.ready md ops listed->YieldsIf P ops S oi v a->S w->listed.getD x true=false->
   AnyX P md ops Q S x fuel (listed.setIfInBounds i true) (a.put oi.dst v) w->AnyX P md ops Q S x (fuel+1) listed a w:=by
 obtain⟨hxi,ox,hox,ex,hex,hbx,atZ⟩:=Rm hx;intro fuel;induction fuel with
 |zero=>
  intro listed a w _ hr hy hS hl H;refine⟨fun h=>(by rw [h]at hr;cases hr),fun j hj=>?_⟩;by_cases hji:j=i
  ·subst hji;exact hy.wpOp hi hS ⟨fun _=>hS,H⟩
  ·have:=ready_mono hj hji;rw [H.1]at this;cases this
 |succ fuel ih=>
  intro listed a w hfree hr hy hS hl H;refine⟨fun h=>(by rw [h]at hr;cases hr),fun j hj=>?_⟩;by_cases hji:j=i
  ·subst hji;exact hy.wpOp hi hS ⟨fun _=>hS,H⟩
  ·have h1:=H.2 j (ready_mono hj hji);obtain⟨hjun,oj,hoj,hall⟩:=mem_ready.1 hj;have hnot:∀e∈oj.after,Region.binds md e=true->e.on≠i:=fun e he hb heq=>by
    have h1:=hall e he hb;have h0:=(mem_ready.1 hr).1;rw [heq]at h1;rcases Nat.lt_or_ge i listed.size with h' |h'
    ·simp [h']at h0 h1;rw [h0]at h1;cases h1
    ·simp [Array.getElem?_eq_none h']at h1
   have hjx:j≠x:=fun e=>by
    subst e;rw [hox]at hoj;injection hoj with hoj;subst hoj;exact hnot ex hex hbx atZ
   have hl2:(listed.setIfInBounds j true).getD x true=false:=by rw [getD_set_ne true hjx];exact hl
   have hl3:((listed.setIfInBounds i true).setIfInBounds j true).getD x true=false:=by rw [getD_set_ne true hjx,getD_set_ne true (Ne.symm hxi)];exact hl
   have h2:=wpOp_putIf hoj (hfree j oj hoj hji hjun hnot) (fun cs b=>hsel i oi cs b hi) (fun cs b=>hsel j oj cs b hoj) hQ hy h1
   have hfree':∀k ok,ops[k]? =some ok->k≠i->(listed.setIfInBounds j true).getD k true=false->
     (∀e∈ok.after,Region.binds md e=true->e.on≠i)->oi.apart ops ok=true:=fun k ok hk hki hun hno=>by
    refine hfree k ok hk hki ?_ hno;by_cases hjk:j=k
    ·subst hjk;exact hjun
    ·rw [getD_set_ne true hjk]at hun;exact hun
   refine wpOp_mono (fun a' w' h3=>⟨fun _=>h3.2.1 hl3,ih (listed.setIfInBounds j true) a' w' hfree' (ready_mono hr (Ne.symm hji)) h3.1 (h3.2.1 hl3) hl2 ?_⟩) h2;rw [Array.setIfInBounds_comm _ _ hji];exact h3.2.2
theorem V4 {i:Nat}{oi:Oper}{v:Value}(hi:ops[i]? =some oi)(hsel:∀(j:Nat) (o:Oper) cs b,ops[j]? =some o->o.op≠ .select cs b)
  (hQ:∀c a w,Q (.panic c) (a.put oi.dst v) w->Q (.panic c) a w) (hx:x≠i):
  ∀(fuel:Nat) (listed:Array Bool) (a:Act) (w:World),
   (∀j oj,ops[j]? =some oj->j≠i->listed.getD j true=false->(∀e∈oj.after,Region.binds md e=true->e.on≠i)->oi.apart ops oj=true)->
   i∈Region.ready md ops listed->YieldsIf P ops (fun _=>True) oi v a->(listed.getD x true=false->S w)->
   AnyX P md ops Q S x fuel (listed.setIfInBounds i true) (a.put oi.dst v) w->AnyX P md ops Q S x (fuel+1) listed a w:=by
 intro fuel;induction fuel with
 |zero=>
  intro listed a w _ hr hy hS H;refine⟨fun h=>(by rw [h]at hr;cases hr),fun j hj=>?_⟩;by_cases hji:j=i
  ·subst hji;exact hy.wpOp hi trivial ⟨fun h=>hS (by rw [getD_set_ne true (Ne.symm hx)]at h;exact h),H⟩
  ·have:=ready_mono hj hji;rw [H.1]at this;cases this
 |succ fuel ih=>
  intro listed a w hfree hr hy hS H;refine⟨fun h=>(by rw [h]at hr;cases hr),fun j hj=>?_⟩;by_cases hji:j=i
  ·subst hji;exact hy.wpOp hi trivial ⟨fun h=>hS (by rw [getD_set_ne true (Ne.symm hx)]at h;exact h),H⟩
  ·have h1:=H.2 j (ready_mono hj hji);obtain⟨hjun,oj,hoj,hall⟩:=mem_ready.1 hj;have hnot:∀e∈oj.after,Region.binds md e=true->e.on≠i:=fun e he hb heq=>by
    have h1:=hall e he hb;have h0:=(mem_ready.1 hr).1;rw [heq]at h1;rcases Nat.lt_or_ge i listed.size with h' |h'
    ·simp [h']at h0 h1;rw [h0]at h1;cases h1
    ·simp [Array.getElem?_eq_none h']at h1
   have h2:=wpOp_putIf hoj (hfree j oj hoj hji hjun hnot) (fun cs b=>hsel i oi cs b hi) (fun cs b=>hsel j oj cs b hoj) hQ hy h1
   have hfree':∀k ok,ops[k]? =some ok->k≠i->(listed.setIfInBounds j true).getD k true=false->
     (∀e∈ok.after,Region.binds md e=true->e.on≠i)->oi.apart ops ok=true:=fun k ok hk hki hun hno=>by
    refine hfree k ok hk hki ?_ hno;by_cases hjk:j=k
    ·subst hjk;exact hjun
    ·rw [getD_set_ne true hjk]at hun;exact hun
   have hsw:∀(w':World),(((listed.setIfInBounds i true).setIfInBounds j true).getD x true=false->S w')->(listed.setIfInBounds j true).getD x true=false->S w':=fun w' h h0=>h (by
    rw [Array.setIfInBounds_comm _ _ (Ne.symm hji),getD_set_ne true (Ne.symm hx)];exact h0)
   refine wpOp_mono (fun a' w' h3=>⟨hsw w' h3.2.1,ih (listed.setIfInBounds j true) a' w' hfree' (ready_mono hr (Ne.symm hji)) h3.1 (hsw w' h3.2.1) ?_⟩) h2;rw [Array.setIfInBounds_comm _ _ hji];exact h3.2.2
def bQ (P:Program)(md:Region.Mode)(ops:Array Oper)(Q:Exit->Act->World->Prop)(S:World->Prop)(x:Nat)(fuel:Nat)(listed:Array Bool)(a:Act)(w:World)(rs:List Nat):Prop:=
 ∀i∈rs,wpOp P ops Q i (fun a' w'=>((listed.setIfInBounds i true).getD x true=false->S w')∧AnyX P md ops Q S x fuel (listed.setIfInBounds i true) a' w') a w
theorem bQ.nil {fuel:Nat}{listed:Array Bool}{a:Act}{w:World}:bQ P md ops Q S x fuel listed a w []:=fun _ h=>by cases h
theorem bQ.cons {fuel:Nat}{listed:Array Bool}{a:Act}{w:World}{i:Nat}{o:Oper}{rs:List Nat}(ho:ops[i]? =some o)
  (h:∀K':Act->World->Prop,Shut (∀a w,S w->AnyX P md ops Q S x fuel (listed.setIfInBounds i true) a w->K' a w)->if Region.wanted o (yielded ops a.tmps)=true then Oper.wp P o a w K' Q else K' (a.put o.dst undef) w)
  (hs:bQ P md ops Q S x fuel listed a w rs):bQ P md ops Q S x fuel listed a w (i :: rs):=fun j hj=>by
 rcases List.mem_cons.1 hj with rfl |hj
 ·exact wpOp_step ho (fun K' hK=>h K' (fun a w hS hW=>hK a w ⟨fun _=>hS,hW⟩))
 ·exact hs j hj
theorem bQ.past {fuel:Nat}{listed:Array Bool}{a:Act}{w:World}{i:Nat}{o:Oper}{rs:List Nat}(ho:ops[i]? =some o)(hl:(listed.setIfInBounds i true).getD x true=true)
  (h:∀K':Act->World->Prop,Shut (∀a w,AnyX P md ops Q S x fuel (listed.setIfInBounds i true) a w->K' a w)->if Region.wanted o (yielded ops a.tmps)=true then Oper.wp P o a w K' Q else K' (a.put o.dst undef) w)
  (hs:bQ P md ops Q S x fuel listed a w rs):bQ P md ops Q S x fuel listed a w (i :: rs):=fun j hj=>by
 rcases List.mem_cons.1 hj with rfl |hj
 ·exact wpOp_step ho (fun K' hK=>h K' (fun a w hW=>hK a w ⟨fun h0=>(by rw [hl]at h0;cases h0),hW⟩))
 ·exact hs j hj
theorem eY {rs:List Nat}{fuel:Nat}{listed:Array Bool}{a:Act}{w:World}(hr:Region.ready md ops listed=rs)(hne:rs≠[])
  (h:bQ P md ops Q S x fuel listed a w rs):AnyX P md ops Q S x (fuel+1) listed a w:=⟨fun h0=>absurd (hr▸h0) hne,hr▸h⟩
theorem V5 {listed:Array Bool}{a:Act}{w:World}(hr:Region.ready md ops listed=[])(h:Q .normal a w):∀fuel,AnyX P md ops Q S x fuel listed a w
 |0=>⟨hr,h⟩
 |_+1=>⟨fun _=>h,by rw [hr];simp⟩
theorem bB (i:Nat){fuel:Nat}{listed:Array Bool}{a:Act}{w:World}{o:Oper}
  (h:∀K':Act->World->Prop,Shut (∀a w,S w->AnyX P md ops Q S x fuel (listed.setIfInBounds i true) a w->K' a w)->if Region.wanted o (yielded ops a.tmps)=true then Oper.wp P o a w K' Q else K' (a.put o.dst undef) w)
  (hr:Region.ready md ops listed=[i]:=by kernel_rfl) (ho:ops[i]? =some o:=by rfl):AnyX P md ops Q S x (fuel+1) listed a w:=eY hr (by simp) (bQ.cons ho h bQ.nil)
theorem bU {listed:Array Bool}{a:Act}{w:World}(fuel:Nat)(h:Q .normal a w)(hr:Region.ready md ops listed=[]:=by kernel_rfl):AnyX P md ops Q S x fuel listed a w:=V5 hr h fuel
theorem bR (i:Nat){fuel:Nat}{listed:Array Bool}{a:Act}{w:World}{o:Oper}
  (h:∀K':Act->World->Prop,Shut (∀a w,AnyX P md ops Q S x fuel (listed.setIfInBounds i true) a w->K' a w)->if Region.wanted o (yielded ops a.tmps)=true then Oper.wp P o a w K' Q else K' (a.put o.dst undef) w)
  (hr:Region.ready md ops listed=[i]:=by kernel_rfl) (ho:ops[i]? =some o:=by rfl) (hl:(listed.setIfInBounds i true).getD x true=true:=by kernel_rfl):AnyX P md ops Q S x (fuel+1) listed a w:=eY hr (by simp) (bQ.past ho hl h bQ.nil)
theorem bM (S:World->Prop)(x:Nat){id:Nat}{a:Act}{w:World}(hm:P.follows .mixedOrders=true)
  (h:AnyX P .any ops Q S x ops.size (Array.replicate ops.size false) a w.drew):(Code.region id ops true).wp P Q a w:=
 wp_region_any hm (NA _ _ _ _ h)
theorem tx (i:Nat)(v:Value){oi:Oper}{fuel:Nat}{listed listed':Array Bool}{a a':Act}{w:World}(hS:S w)(h:AnyX P md ops Q S x fuel listed' a' w)
  (hi:ops[i]? =some oi:=by rfl) (hs:Region.noSelect ops=true:=by kernel_rfl) (hf:Region.free md ops listed i=true:=by kernel_rfl) (hr:(Region.ready md ops listed).contains i=true:=by kernel_rfl)
  (hx:waits md ops x i=true:=by kernel_rfl) (hlx:listed.getD x true=false:=by kernel_rfl)
  (hQ:∀c a w,Q (.panic c) (a.put oi.dst v) w->Q (.panic c) a w:=by exact fun _ _ _ h=>h) (hw:Region.wanted oi (yielded ops a.tmps)=true:=by kernel_rfl)
  (hy:∀w,S w->(execOp a.eval oi).run P w=.ok (.value v) w:=by intro w' hSw;go_simp)
  (hl:listed.setIfInBounds i true=listed':=by(try simp only [List.setIfInBounds_toArray,List.set_cons_zero,List.set_cons_succ]);rfl)
  (ha:a.put oi.dst v=a':=by(try simp only [sp,sq]);rfl):AnyX P md ops Q S x (fuel+1) listed a w:=by
 subst hl ha;exact GR hi (Region.noSelect_spec hs) hQ hx fuel listed a w (Region.free_spec hi hf) (by simpa using hr) (.inl ⟨hw,hy⟩) hS hlx h
theorem tt (i:Nat)(v:Value){oi:Oper}{fuel:Nat}{listed listed':Array Bool}{a a':Act}{w:World}(hS:listed.getD x true=false->S w)(h:AnyX P md ops Q S x fuel listed' a' w)
  (hi:ops[i]? =some oi:=by rfl) (hs:Region.noSelect ops=true:=by kernel_rfl) (hf:Region.free md ops listed i=true:=by kernel_rfl) (hr:(Region.ready md ops listed).contains i=true:=by kernel_rfl)
  (hx:x≠i:=by decide)
  (hQ:∀c a w,Q (.panic c) (a.put oi.dst v) w->Q (.panic c) a w:=by exact fun _ _ _ h=>h) (hw:Region.wanted oi (yielded ops a.tmps)=true:=by kernel_rfl)
  (hy:∀w,True->(execOp a.eval oi).run P w=.ok (.value v) w:=by intro w' hSw;go_simp)
  (hl:listed.setIfInBounds i true=listed':=by(try simp only [List.setIfInBounds_toArray,List.set_cons_zero,List.set_cons_succ]);rfl)
  (ha:a.put oi.dst v=a':=by(try simp only [sp,sq]);rfl):AnyX P md ops Q S x (fuel+1) listed a w:=by
 subst hl ha;exact V4 hi (Region.noSelect_spec hs) hQ hx fuel listed a w (Region.free_spec hi hf) (by simpa using hr) (.inl ⟨hw,hy⟩) hS h
theorem jw (i:Nat)(v:Value){F:World->Prop}(f:∀w',S w'->F w'){oi:Oper}{fuel:Nat}{listed listed':Array Bool}{a a':Act}{w:World}(hS:S w)(h:AnyX P md ops Q S x fuel listed' a' w)
  (hi:ops[i]? =some oi:=by rfl) (hs:Region.noSelect ops=true:=by kernel_rfl) (hf:Region.free md ops listed i=true:=by kernel_rfl) (hr:(Region.ready md ops listed).contains i=true:=by kernel_rfl)
  (hx:waits md ops x i=true:=by kernel_rfl) (hlx:listed.getD x true=false:=by kernel_rfl)
  (hQ:∀c a w,Q (.panic c) (a.put oi.dst v) w->Q (.panic c) a w:=by exact fun _ _ _ h=>h) (hw:Region.wanted oi (yielded ops a.tmps)=true:=by kernel_rfl)
  (hy:∀w,F w->(execOp a.eval oi).run P w=.ok (.value v) w:=by intro w' hSw;go_simp)
  (hl:listed.setIfInBounds i true=listed':=by(try simp only [List.setIfInBounds_toArray,List.set_cons_zero,List.set_cons_succ]);rfl)
  (ha:a.put oi.dst v=a':=by(try simp only [sp,sq]);rfl):AnyX P md ops Q S x (fuel+1) listed a w:=by
 subst hl ha;exact GR hi (Region.noSelect_spec hs) hQ hx fuel listed a w (Region.free_spec hi hf) (by simpa using hr) (.inl ⟨hw,fun w h=>hy w (f w h)⟩) hS hlx h
end
section
variable {P:Program}{fn:Func}{R:Ending->World->Prop}
theorem uw {tmps afX:Array Value}(h:results fn tmps=results fn afX):∀(ds:List Deferred) (u:FrameMode) (w:World),Leaves P fn tmps R ds u w->Leaves P fn afX R ds u w
 | [],.returning,w,⟨v,h1,h2⟩=>⟨v,by rw [<-h];exact h1,h2⟩
 | [],.panicking _,w,h1=>h1
 | [],.run,_,h1=>h1
 |d :: ds,u,w,⟨h1,fv,cap,f,args,h2,h3,h4⟩=>⟨h1,fv,cap,f,args,h2,h3,h4.mono fun e u' w' h5=>by
   cases e with
   |returned v=>exact uw h ds _ _ h5
   |panicked c=>exact uw h ds _ _ h5
   |outgrown=>exact h5⟩
theorem iE {t0:Tmp}{T:TypeId}{dst:Option Tmp}{v:Value}(hr:fn.results= #[.cell t0 T])(hd:dst≠some t0)(c:List PanicEntry)(a:Act)(w:World)(h:bodyPostD P fn R (.panic c) (a.put dst v) w):bodyPostD P fn R (.panic c) a w:=by
 cases dst with
 |none=>exact h
 |some d=>
  have hne:d≠t0:=fun e=>hd (by rw [e]);have e:results fn (a.tmps.setIfInBounds d v)=results fn a.tmps:=by
   simp [results,hr,Array.getElem?_setIfInBounds_ne hne]
  exact uw e a.defers _ _ h
end
section
variable {P:Program}{md:Region.Mode}{ops:Array Oper}{Q:Exit->Act->World->Prop}{S:World->Prop}
theorem tk (i:Nat)(v:Value){oi:Oper}{fuel:Nat}{listed listed':Array Bool}{a a':Act}{w:World}(hS:S w)(h:wpAnyH P md ops Q S fuel listed' a' w)
  (hi:ops[i]? =some oi:=by rfl) (hs:Region.noSelect ops=true:=by kernel_rfl) (hf:Region.free md ops listed i=true:=by kernel_rfl) (hr:(Region.ready md ops listed).contains i=true:=by kernel_rfl)
  (hQ:∀c a w,Q (.panic c) (a.put oi.dst v) w->Q (.panic c) a w:=by exact fun _ _ _ h=>h) (hw:Region.wanted oi (yielded ops a.tmps)=true:=by kernel_rfl)
  (hy:∀w,S w->(execOp a.eval oi).run P w=.ok (.value v) w:=by intro w' hSw;go_simp)
  (hl:listed.setIfInBounds i true=listed':=by(try simp only [List.setIfInBounds_toArray,List.set_cons_zero,List.set_cons_succ]);rfl)
  (ha:a.put oi.dst v=a':=by(try simp only [sp,sq]);rfl):wpAnyH P md ops Q S (fuel+1) listed a w:=by
 subst hl ha;exact wpAnyH_take hi hs hf hr hQ (.inl ⟨hw,hy⟩) hS h
theorem jE (i:Nat)(v:Value){F:World->Prop}(f:∀w',S w'->F w'){oi:Oper}{fuel:Nat}{listed listed':Array Bool}{a a':Act}{w:World}(hS:S w)(h:wpAnyH P md ops Q S fuel listed' a' w)
  (hi:ops[i]? =some oi:=by rfl) (hs:Region.noSelect ops=true:=by kernel_rfl) (hf:Region.free md ops listed i=true:=by kernel_rfl) (hr:(Region.ready md ops listed).contains i=true:=by kernel_rfl)
  (hQ:∀c a w,Q (.panic c) (a.put oi.dst v) w->Q (.panic c) a w:=by exact fun _ _ _ h=>h) (hw:Region.wanted oi (yielded ops a.tmps)=true:=by kernel_rfl)
  (hy:∀w,F w->(execOp a.eval oi).run P w=.ok (.value v) w:=by intro w' hSw;go_simp)
  (hl:listed.setIfInBounds i true=listed':=by(try simp only [List.setIfInBounds_toArray,List.set_cons_zero,List.set_cons_succ]);rfl)
  (ha:a.put oi.dst v=a':=by(try simp only [sp,sq]);rfl):wpAnyH P md ops Q S (fuel+1) listed a w:=by
 subst hl ha;exact wpAnyH_take hi hs hf hr hQ (.inl ⟨hw,fun w h=>hy w (f w h)⟩) hS h
end
section
variable {w:World}{a0 a1 a2 a3 a4 a5 a6 a7:Addr}{v0 v1 v2 v3 v4 v5 v6 v7:Value}
theorem kb {w w':World}{a:Addr}{v:Value}(h:Below w.heap.size w w')(d:w.cell? a=some v):w'.cell? a=some v:=(h.cell (World.block_lt_of_cell? w a d)).trans d
theorem JG (d0:w.cell? a0=some v0):∀w',Below w.heap.size w w'->w'.cell? a0=some v0:=fun _ h=>kb h d0
theorem kp4 (d0:w.cell? a0=some v0)(d1:w.cell? a1=some v1)(d2:w.cell? a2=some v2)(d3:w.cell? a3=some v3):
  ∀w',Below w.heap.size w w'->w'.cell? a0=some v0∧w'.cell? a1=some v1∧w'.cell? a2=some v2∧w'.cell? a3=some v3:=fun _ h=>⟨kb h d0,kb h d1,kb h d2,kb h d3⟩
theorem kp8 (d0:w.cell? a0=some v0)(d1:w.cell? a1=some v1)(d2:w.cell? a2=some v2)(d3:w.cell? a3=some v3)(d4:w.cell? a4=some v4)(d5:w.cell? a5=some v5)(d6:w.cell? a6=some v6)(d7:w.cell? a7=some v7):
  ∀w',Below w.heap.size w w'->w'.cell? a0=some v0∧w'.cell? a1=some v1∧w'.cell? a2=some v2∧w'.cell? a3=some v3∧w'.cell? a4=some v4∧w'.cell? a5=some v5∧w'.cell? a6=some v6∧w'.cell? a7=some v7:=fun _ h=>⟨kb h d0,kb h d1,kb h d2,kb h d3,kb h d4,kb h d5,kb h d6,kb h d7⟩
end
end Go.Proofs.YtncnnedlgofccaaGreatDoor
