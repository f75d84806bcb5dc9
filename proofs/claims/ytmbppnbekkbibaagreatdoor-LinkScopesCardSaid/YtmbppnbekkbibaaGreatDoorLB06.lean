/- MX, JC, JD, JE, GH, GI, GK -/
import Derived.Deep.RegionHeld
import Derived.WalkKit
import Derived.Defers
import Derived.Test.YtmbppnbekkbibaaGreatDoorLB01
import Derived.Test.YtmbppnbekkbibaaGreatDoorLB05
import Derived.Test.YtmbppnbekkbibaaGreatDoorLB02
import Derived.IntWalk
import Derived.Test.YtmbppnbekkbibaaGreatDoorLB04
import Derived.Test.YtmbppnbekkbibaaGreatDoorRows
import Derived.Tactics
import Derived.Tactics2
import Derived.Laws.Pointers
import Derived.Laws.LoneSync
import Derived.Laws.Tables
import Derived.RegionTactic
import Derived.RegionCalls
import Derived.Laws.MakeOwn
import Derived.Lib.ConvBytes
import Derived.Lib.AtoiErrMem
import Derived.Laws.CopyOwn
import Derived.Laws.OwnMore
import Derived.Lib.Join
import Derived.Lib.ItoaLen
set_option linter.unusedSimpArgs false
set_option linter.unusedVariables false
set_option maxRecDepth 100000
set_option maxHeartbeats 4000000
namespace Go.Proofs.YtmbppnbekkbibaaGreatDoor
open Go.RowKit
section
variable {P:Program} {ops:Array Oper} {Q:Exit→Act→World→Prop} {md:Region.Mode} {S:World→Prop} {x:Nat}
def AnyX (P:Program) (md:Region.Mode) (ops:Array Oper) (Q:Exit→Act→World→Prop) (S:World→Prop) (x:Nat):Nat→Array Bool→Act→World→Prop
 | 0,listed,a,w=>Region.ready md ops listed=[]∧Q .normal a w
 | fuel+1,listed,a,w=>
  (Region.ready md ops listed=[]→Q .normal a w)∧
  ∀i∈Region.ready md ops listed,wpOp P ops Q i (fun a' w'=>((listed.setIfInBounds i true).getD x true=false→S w')∧AnyX P md ops Q S x fuel (listed.setIfInBounds i true) a' w') a w
theorem CV:∀(fuel:Nat) (listed:Array Bool) (a:Act) (w:World),AnyX P md ops Q S x fuel listed a w→wpAny P md ops Q fuel listed a w
 | 0, _, _, _,h=>h
 | fuel+1, _, _, _,h=>⟨h.1,fun i hi=>wpOp_mono (fun a' w' h'=>CV fuel _ a' w' h'.2) (h.2 i hi)⟩
def waits (md:Region.Mode) (ops:Array Oper) (x i:Nat):Bool:=match ops[x]? with
 | none=>false
 | some o=>(x != i) && o.after.any fun e=>Region.binds md e && e.on==i
theorem yG {i:Nat} (h:waits md ops x i=true):x≠i∧∃o,ops[x]? =some o∧∃e∈o.after,Region.binds md e=true∧e.on=i:=by
 unfold waits at h;split at h
 ·cases h
 ·rename_i o ho
  simp only [Bool.and_eq_true,bne_iff_ne,Array.any_eq_true',beq_iff_eq]at h;obtain⟨h1,e,he,h2,h3⟩:=h;exact⟨h1,o,ho,e,he,h2,h3⟩
theorem yH {i:Nat} {oi:Oper} {v:Value} (hi:ops[i]? =some oi) (hsel:∀(j:Nat) (o:Oper) cs b,ops[j]? =some o→o.op≠ .select cs b)
  (hQ:∀c a w,Q (.panic c) (a.put oi.dst v) w→Q (.panic c) a w) (hx:waits md ops x i=true):
  ∀(fuel:Nat) (listed:Array Bool) (a:Act) (w:World),
   (∀j oj,ops[j]? =some oj→j≠i→listed.getD j true=false→(∀e∈oj.after,Region.binds md e=true→e.on≠i)→oi.apart ops oj=true)→
   i∈Region.ready md ops listed→YieldsIf P ops S oi v a→S w→listed.getD x true=false→
   AnyX P md ops Q S x fuel (listed.setIfInBounds i true) (a.put oi.dst v) w→AnyX P md ops Q S x (fuel+1) listed a w:=by
 obtain⟨hxi,ox,hox,ex,hex,hbx,WC⟩:=yG hx;intro fuel;induction fuel with
 | zero=>
  intro listed a w _ hr hy hS hl H;refine⟨fun h=>(by rw [h]at hr;cases hr),fun j hj=> ?_⟩;by_cases hji:j=i
  ·subst hji;exact hy.wpOp hi hS ⟨fun _=>hS,H⟩
  ·have:=ready_mono hj hji;rw [H.1]at this;cases this
 | succ fuel ih=>
  intro listed a w hfree hr hy hS hl H;refine⟨fun h=>(by rw [h]at hr;cases hr),fun j hj=> ?_⟩;by_cases hji:j=i
  ·subst hji;exact hy.wpOp hi hS ⟨fun _=>hS,H⟩
  ·have h1:=H.2 j (ready_mono hj hji);obtain⟨hjun,oj,hoj,hall⟩:=mem_ready.1 hj;have hnot:∀e∈oj.after,Region.binds md e=true→e.on≠i:=fun e he hb heq=>by
    have h1:=hall e he hb;have h0:=(mem_ready.1 hr).1;rw [heq]at h1;rcases Nat.lt_or_ge i listed.size with h' | h'
    ·simp [h']at h0 h1;rw [h0]at h1;cases h1
    ·simp [Array.getElem?_eq_none h']at h1
   have SV:j≠x:=fun e=>by
    subst e;rw [hox]at hoj;injection hoj with hoj;subst hoj;exact hnot ex hex hbx WC
   have hl2:(listed.setIfInBounds j true).getD x true=false:=by rw [getD_set_ne true SV];exact hl
   have hl3:((listed.setIfInBounds i true).setIfInBounds j true).getD x true=false:=by rw [getD_set_ne true SV,getD_set_ne true (Ne.symm hxi)];exact hl
   have h2:=wpOp_putIf hoj (hfree j oj hoj hji hjun hnot) (fun cs b=>hsel i oi cs b hi) (fun cs b=>hsel j oj cs b hoj) hQ hy h1
   have hfree':∀k ok,ops[k]? =some ok→k≠i→(listed.setIfInBounds j true).getD k true=false→
     (∀e∈ok.after,Region.binds md e=true→e.on≠i)→oi.apart ops ok=true:=fun k ok hk hki hun hno=>by
    refine hfree k ok hk hki ?_ hno;by_cases hjk:j=k
    ·subst hjk;exact hjun
    ·rw [getD_set_ne true hjk]at hun;exact hun
   refine wpOp_mono (fun a' w' h3=>⟨fun _=>h3.2.1 hl3,ih (listed.setIfInBounds j true) a' w' hfree' (ready_mono hr (Ne.symm hji)) h3.1 (h3.2.1 hl3) hl2 ?_⟩) h2;rw [Array.setIfInBounds_comm _ _ hji];exact h3.2.2
theorem IG {i:Nat} {oi:Oper} {v:Value} (hi:ops[i]? =some oi) (hsel:∀(j:Nat) (o:Oper) cs b,ops[j]? =some o→o.op≠ .select cs b)
  (hQ:∀c a w,Q (.panic c) (a.put oi.dst v) w→Q (.panic c) a w) (hx:x≠i):
  ∀(fuel:Nat) (listed:Array Bool) (a:Act) (w:World),
   (∀j oj,ops[j]? =some oj→j≠i→listed.getD j true=false→(∀e∈oj.after,Region.binds md e=true→e.on≠i)→oi.apart ops oj=true)→
   i∈Region.ready md ops listed→YieldsIf P ops (fun _=>True) oi v a→(listed.getD x true=false→S w)→
   AnyX P md ops Q S x fuel (listed.setIfInBounds i true) (a.put oi.dst v) w→AnyX P md ops Q S x (fuel+1) listed a w:=by
 intro fuel;induction fuel with
 | zero=>
  intro listed a w _ hr hy hS H;refine⟨fun h=>(by rw [h]at hr;cases hr),fun j hj=> ?_⟩;by_cases hji:j=i
  ·subst hji;exact hy.wpOp hi trivial ⟨fun h=>hS (by rw [getD_set_ne true (Ne.symm hx)]at h;exact h),H⟩
  ·have:=ready_mono hj hji;rw [H.1]at this;cases this
 | succ fuel ih=>
  intro listed a w hfree hr hy hS H;refine⟨fun h=>(by rw [h]at hr;cases hr),fun j hj=> ?_⟩;by_cases hji:j=i
  ·subst hji;exact hy.wpOp hi trivial ⟨fun h=>hS (by rw [getD_set_ne true (Ne.symm hx)]at h;exact h),H⟩
  ·have h1:=H.2 j (ready_mono hj hji);obtain⟨hjun,oj,hoj,hall⟩:=mem_ready.1 hj;have hnot:∀e∈oj.after,Region.binds md e=true→e.on≠i:=fun e he hb heq=>by
    have h1:=hall e he hb;have h0:=(mem_ready.1 hr).1;rw [heq]at h1;rcases Nat.lt_or_ge i listed.size with h' | h'
    ·simp [h']at h0 h1;rw [h0]at h1;cases h1
    ·simp [Array.getElem?_eq_none h']at h1
   have h2:=wpOp_putIf hoj (hfree j oj hoj hji hjun hnot) (fun cs b=>hsel i oi cs b hi) (fun cs b=>hsel j oj cs b hoj) hQ hy h1
   have hfree':∀k ok,ops[k]? =some ok→k≠i→(listed.setIfInBounds j true).getD k true=false→
     (∀e∈ok.after,Region.binds md e=true→e.on≠i)→oi.apart ops ok=true:=fun k ok hk hki hun hno=>by
    refine hfree k ok hk hki ?_ hno;by_cases hjk:j=k
    ·subst hjk;exact hjun
    ·rw [getD_set_ne true hjk]at hun;exact hun
   have hsw:∀(w':World),(((listed.setIfInBounds i true).setIfInBounds j true).getD x true=false→S w')→(listed.setIfInBounds j true).getD x true=false→S w':=fun w' h h0=>h (by
    rw [Array.setIfInBounds_comm _ _ (Ne.symm hji),getD_set_ne true (Ne.symm hx)];exact h0)
   refine wpOp_mono (fun a' w' h3=>⟨hsw w' h3.2.1,ih (listed.setIfInBounds j true) a' w' hfree' (ready_mono hr (Ne.symm hji)) h3.1 (hsw w' h3.2.1) ?_⟩) h2;rw [Array.setIfInBounds_comm _ _ hji];exact h3.2.2
def au (P:Program) (md:Region.Mode) (ops:Array Oper) (Q:Exit→Act→World→Prop) (S:World→Prop) (x:Nat) (fuel:Nat) (listed:Array Bool) (a:Act) (w:World) (rs:List Nat):Prop:=
 ∀i∈rs,wpOp P ops Q i (fun a' w'=>((listed.setIfInBounds i true).getD x true=false→S w')∧AnyX P md ops Q S x fuel (listed.setIfInBounds i true) a' w') a w
theorem au.nil {fuel:Nat} {listed:Array Bool} {a:Act} {w:World}:au P md ops Q S x fuel listed a w []:=fun _ h=>by cases h
theorem au.cons {fuel:Nat} {listed:Array Bool} {a:Act} {w:World} {i:Nat} {o:Oper} {rs:List Nat} (ho:ops[i]? =some o)
  (h:∀K':Act→World→Prop,Shut (∀a w,S w→AnyX P md ops Q S x fuel (listed.setIfInBounds i true) a w→K' a w)→if Region.wanted o (yielded ops a.tmps)=true then Oper.wp P o a w K' Q else K' (a.put o.dst undef) w)
  (hs:au P md ops Q S x fuel listed a w rs):au P md ops Q S x fuel listed a w (i :: rs):=fun j hj=>by
 rcases List.mem_cons.1 hj with rfl | hj
 ·exact wpOp_step ho (fun K' hK=>h K' (fun a w hS hW=>hK a w ⟨fun _=>hS,hW⟩))
 ·exact hs j hj
theorem au.past {fuel:Nat} {listed:Array Bool} {a:Act} {w:World} {i:Nat} {o:Oper} {rs:List Nat} (ho:ops[i]? =some o) (hl:(listed.setIfInBounds i true).getD x true=true)
  (h:∀K':Act→World→Prop,Shut (∀a w,AnyX P md ops Q S x fuel (listed.setIfInBounds i true) a w→K' a w)→if Region.wanted o (yielded ops a.tmps)=true then Oper.wp P o a w K' Q else K' (a.put o.dst undef) w)
  (hs:au P md ops Q S x fuel listed a w rs):au P md ops Q S x fuel listed a w (i :: rs):=fun j hj=>by
 rcases List.mem_cons.1 hj with rfl | hj
 ·exact wpOp_step ho (fun K' hK=>h K' (fun a w hW=>hK a w ⟨fun h0=>(by rw [hl]at h0;cases h0),hW⟩))
 ·exact hs j hj
theorem av {rs:List Nat} {fuel:Nat} {listed:Array Bool} {a:Act} {w:World} (hr:Region.ready md ops listed=rs) (hne:rs≠[])
  (h:au P md ops Q S x fuel listed a w rs):AnyX P md ops Q S x (fuel+1) listed a w:=⟨fun h0=>absurd (hr▸h0) hne,hr▸h⟩
theorem aN {listed:Array Bool} {a:Act} {w:World} (hr:Region.ready md ops listed=[]) (h:Q .normal a w):∀fuel,AnyX P md ops Q S x fuel listed a w
 | 0=>⟨hr,h⟩
 | _+1=>⟨fun _=>h,by rw [hr];simp⟩
theorem bH (S:World→Prop) (x:Nat) {id:Nat} {a:Act} {w:World} (hm:P.follows .mixedOrders=true)
  (h:AnyX P .any ops Q S x ops.size (Array.replicate ops.size false) a w.drew):(Code.region id ops true).wp P Q a w:=
 wp_region_any hm (CV _ _ _ _ h)
theorem tx (i:Nat) (v:Value) {oi:Oper} {fuel:Nat} {listed listed':Array Bool} {a a':Act} {w:World} (hS:S w) (h:AnyX P md ops Q S x fuel listed' a' w)
  (hi:ops[i]? =some oi:=by rfl) (hs:Region.noSelect ops=true:=by kernel_rfl) (hf:Region.free md ops listed i=true:=by kernel_rfl) (hr:(Region.ready md ops listed).contains i=true:=by kernel_rfl)
  (hx:waits md ops x i=true:=by kernel_rfl) (hlx:listed.getD x true=false:=by kernel_rfl)
  (hQ:∀c a w,Q (.panic c) (a.put oi.dst v) w→Q (.panic c) a w:=by exact fun _ _ _ h=>h) (hw:Region.wanted oi (yielded ops a.tmps)=true:=by kernel_rfl)
  (hy:∀w,S w→(execOp a.eval oi).run P w= .ok (.value v) w:=by intro w' hSw;go_simp)
  (hl:listed.setIfInBounds i true=listed':=by(try simp only [List.setIfInBounds_toArray,List.set_cons_zero,List.set_cons_succ]);rfl)
  (ha:a.put oi.dst v=a':=by(try simp only [Act.put,List.getElem_toArray,List.getElem_cons_zero,List.getElem_cons_succ,List.setIfInBounds_toArray,List.set_cons_zero,List.set_cons_succ]);rfl):AnyX P md ops Q S x (fuel+1) listed a w:=by
 subst hl ha;exact yH hi (Region.noSelect_spec hs) hQ hx fuel listed a w (Region.free_spec hi hf) (by simpa using hr) (.inl ⟨hw,hy⟩) hS hlx h
theorem tt (i:Nat) (v:Value) {oi:Oper} {fuel:Nat} {listed listed':Array Bool} {a a':Act} {w:World} (hS:listed.getD x true=false→S w) (h:AnyX P md ops Q S x fuel listed' a' w)
  (hi:ops[i]? =some oi:=by rfl) (hs:Region.noSelect ops=true:=by kernel_rfl) (hf:Region.free md ops listed i=true:=by kernel_rfl) (hr:(Region.ready md ops listed).contains i=true:=by kernel_rfl)
  (hx:x≠i:=by decide)
  (hQ:∀c a w,Q (.panic c) (a.put oi.dst v) w→Q (.panic c) a w:=by exact fun _ _ _ h=>h) (hw:Region.wanted oi (yielded ops a.tmps)=true:=by kernel_rfl)
  (hy:∀w,True→(execOp a.eval oi).run P w= .ok (.value v) w:=by intro w' hSw;go_simp)
  (hl:listed.setIfInBounds i true=listed':=by(try simp only [List.setIfInBounds_toArray,List.set_cons_zero,List.set_cons_succ]);rfl)
  (ha:a.put oi.dst v=a':=by(try simp only [Act.put,List.getElem_toArray,List.getElem_cons_zero,List.getElem_cons_succ,List.setIfInBounds_toArray,List.set_cons_zero,List.set_cons_succ]);rfl):AnyX P md ops Q S x (fuel+1) listed a w:=by
 subst hl ha;exact IG hi (Region.noSelect_spec hs) hQ hx fuel listed a w (Region.free_spec hi hf) (by simpa using hr) (.inl ⟨hw,hy⟩) hS h
theorem jO (i:Nat) (v:Value) {F:World→Prop} (f:∀w',S w'→F w') {oi:Oper} {fuel:Nat} {listed listed':Array Bool} {a a':Act} {w:World} (hS:S w) (h:AnyX P md ops Q S x fuel listed' a' w)
  (hi:ops[i]? =some oi:=by rfl) (hs:Region.noSelect ops=true:=by kernel_rfl) (hf:Region.free md ops listed i=true:=by kernel_rfl) (hr:(Region.ready md ops listed).contains i=true:=by kernel_rfl)
  (hx:waits md ops x i=true:=by kernel_rfl) (hlx:listed.getD x true=false:=by kernel_rfl)
  (hQ:∀c a w,Q (.panic c) (a.put oi.dst v) w→Q (.panic c) a w:=by exact fun _ _ _ h=>h) (hw:Region.wanted oi (yielded ops a.tmps)=true:=by kernel_rfl)
  (hy:∀w,F w→(execOp a.eval oi).run P w= .ok (.value v) w:=by intro w' hSw;go_simp)
  (hl:listed.setIfInBounds i true=listed':=by(try simp only [List.setIfInBounds_toArray,List.set_cons_zero,List.set_cons_succ]);rfl)
  (ha:a.put oi.dst v=a':=by(try simp only [Act.put,List.getElem_toArray,List.getElem_cons_zero,List.getElem_cons_succ,List.setIfInBounds_toArray,List.set_cons_zero,List.set_cons_succ]);rfl):AnyX P md ops Q S x (fuel+1) listed a w:=by
 subst hl ha;exact yH hi (Region.noSelect_spec hs) hQ hx fuel listed a w (Region.free_spec hi hf) (by simpa using hr) (.inl ⟨hw,fun w h=>hy w (f w h)⟩) hS hlx h
end
section
variable {P:Program} {fn:Func} {R:Ending→World→Prop}
theorem mK {tmps Og:Array Value} (h:results fn tmps=results fn Og):∀(ds:List Deferred) (u:FrameMode) (w:World),Leaves P fn tmps R ds u w→Leaves P fn Og R ds u w
 | [], .returning,w,⟨v,h1,h2⟩=>⟨v,by rw [←h];exact h1,h2⟩
 | [], .panicking _,w,h1=>h1
 | [], .run, _,h1=>h1
 | d :: ds,u,w,⟨h1,fv,cap,f,args,h2,h3,h4⟩=>⟨h1,fv,cap,f,args,h2,h3,h4.mono fun e u' w' h5=>by
   cases e with
   | returned v=>exact mK h ds _ _ h5
   | panicked c=>exact mK h ds _ _ h5
   | outgrown=>exact h5⟩
theorem eT {t0:Tmp} {T:TypeId} {dst:Option Tmp} {v:Value} (hr:fn.results= #[.cell t0 T]) (hd:dst≠some t0) (c:List PanicEntry) (a:Act) (w:World) (h:bodyPostD P fn R (.panic c) (a.put dst v) w):bodyPostD P fn R (.panic c) a w:=by
 cases dst with
 | none=>exact h
 | some d=>
  have hne:d≠t0:=fun e=>hd (by rw [e]);have e:results fn (a.tmps.setIfInBounds d v)=results fn a.tmps:=by
   simp [results,hr,Array.getElem?_setIfInBounds_ne hne]
  exact mK e a.defers _ _ h
end
theorem tH {P:Program} {ops:Array Oper} {o:Oper} {a:Act} {w w':World} {K:Act→World→Prop} {Q:Exit→Act→World→Prop} {E:Prop} (hg:o.guard=none) (m x v:Operand) (t:TypeId) (hop:o.op=Op.mapUpdate t m x v)
  {mv key val:Value} (hm:a.eval m=mv) (hx:a.eval x=key) (hv:a.eval v=val) (hrun:(Instr.mapUpdate t mv key val).run P w= .ok () w') (hK:K (a.put o.dst undef) w'):
  if Region.wanted o (yielded ops a.tmps)=true then Oper.wp P o a w K Q else E:=by
 have hw:Region.wanted o (yielded ops a.tmps)=true:=by simp [Region.wanted,hg]
 rw [if_pos hw];unfold Oper.wp;simp [execOp,hop,hm,hx,hv,hrun,Result.andThen];exact hK
def CW (w:World) (base:Nat) (v:Value) (l:List jN):Prop:=w.ownsRow base 29 3 v l.length (zI l)
theorem CW.turn {w w':World} {base:Nat} {v:Value} {l:List jN} {G:Nat→Prop} (h:CW w base v l) (t:Turn G w w') (hd:∀g,v.ownBlock=some g→¬G g):CW w' base v l:=bK h t hd
theorem CW.lt {w:World} {base:Nat} {v:Value} {l:List jN} (h:CW w base v l):∀g,v.ownBlock=some g→base≤g∧g<w.heap.size:=World.ownsRow.lt h
theorem nD.turn {w w':World} {b:Nat} {l:List Bt} {G:Nat→Prop} (h:nD w b l) (t:Turn G w w') (hd:¬G b):nD w' b l:=MapAt.turn h t hd
theorem Ah {s:Bt} {l:List jN}:lH s l=decide (s∈l.map (·.name)):=by
 unfold lH;induction l with
 | nil=>simp
 | cons e l ih=>
  simp only [List.any_cons,List.map_cons,List.mem_cons,ih];by_cases h:e.name=s
  ·simp [h]
  ·have h1:(e.name==s)=false:=by rw [beq_eq_false_iff_ne];exact h
   have h2:¬s=e.name:=fun e=>h e.symm;simp [h1,h2]
theorem eD {w:World} {b:Nat} {a0 a1:Value} {t:TypeId} (h:w.heap[b]? =some (.cells #[a0,a1] t (0,0))):w.cell? ⟨b,0,none⟩=some a0∧w.cell? ⟨b,1,none⟩=some a1∧∀i,w.frozen? ⟨b,i,none⟩=false:=
 ⟨(cell_of_row _ _ _ _ _ _ h).trans rfl,(cell_of_row _ _ _ _ _ _ h).trans rfl,fun i=>frozen_of_row _ _ _ _ _ h⟩
theorem cells3 {w:World} {b:Nat} {a0 a1 a2:Value} {t:TypeId} (h:w.heap[b]? =some (.cells #[a0,a1,a2] t (0,0))):w.cell? ⟨b,0,none⟩=some a0∧w.cell? ⟨b,1,none⟩=some a1∧w.cell? ⟨b,2,none⟩=some a2∧∀i,w.frozen? ⟨b,i,none⟩=false:=
 ⟨(cell_of_row _ _ _ _ _ _ h).trans rfl,(cell_of_row _ _ _ _ _ _ h).trans rfl,(cell_of_row _ _ _ _ _ _ h).trans rfl,fun i=>frozen_of_row _ _ _ _ _ h⟩
theorem M9 (w:World) (sb hb:Nat) (vE:Value) (l:List jN) (e:jN) (hblk:w.heap[sb]? =some (.cells #[vE, .map (some hb)] 121 (0,0))) (hhas:nD w hb (l.map (·.name))) (hname:e.name.length≤maxLen) (hf:lH e.name l=true):
  Calls Tryz.prog 65 #[.pointer (some ⟨sb,0,none⟩), .agg #[sv e.name, .int .i64 e.module, .int .i64 e.decl]] w fun en w'=>en= .returned (.bool false)∧Below w.heap.size w w':=by
 obtain⟨s,m,d⟩:=e;simp only at hname hf ⊢;obtain⟨W1,hW1⟩:∃W1,w.alloc (.cells #[sv s, .int .i64 m, .int .i64 d] 29)=W1:=⟨_,rfl⟩
 have hb1:Below w.heap.size w W1:=by rw [←hW1];exact new1 _ _
 have he:=oF w (.cells #[sv s, .int .i64 m, .int .i64 d] 29);rw [hW1]at he;have t1:=Turn.of_below (F:=fun _=>False) hb1;obtain⟨q0,q1, _⟩:=eD (ah hblk t1 id);obtain⟨e0,e1,e2, _⟩:=cells3 he;have dM:=CS (hhas.turn (t1.trans (Turn.drewN (fun _=>False) W1 1) (fun _ _ h=>h)) id) hname;rw [←Ah,hf]at dM;have HB:=hid hb1;have HW:=hid hW1;have HS:Hid (W1.drew.cell? ⟨sb,1,none⟩=some (.map (some hb))∧W1.drew.cell? ⟨w.heap.size,0,none⟩=some (sv s)∧(Instr.lookup 119 (.map (some hb)) (sv s) false).run Tryz.prog W1.drew= .ok (.bool true) W1.drew):=hid ⟨q1,e0,dM⟩;clear hb1 hW1 he t1 hhas hblk q0 q1 e0 e1 e2 dM hf;go_enter Tryz.func65,Tryz.ntmps65;go_wp2_with fail;rw [HW.out];refine wp_region_held_drew (S:=fun w'=>w'.cell? ⟨sb,1,none⟩=some (.map (some hb))∧w'.cell? ⟨w.heap.size,0,none⟩=some (sv s)∧(Instr.lookup 119 (.map (some hb)) (sv s) false).run Tryz.prog w'= .ok (.bool true) w') (by kernel_rfl) HS.out (fun _=> ?_)
 try simp only [Act.put,List.getElem_toArray,List.getElem_cons_zero,List.getElem_cons_succ,List.setIfInBounds_toArray,List.set_cons_zero,List.set_cons_succ]
 refine tk 0 (.pointer (some ⟨sb,0,none⟩)) HS.out ?_;refine tk 1 (.pointer (some ⟨sb,0,none⟩)) HS.out ?_;refine tk 2 (.pointer (some ⟨sb,1,none⟩)) HS.out ?_;refine sZ 3 (.map (some hb)) (fun _ h=>h.1) HS.out ?_;refine tk 4 (.pointer (some ⟨w.heap.size,0,none⟩)) HS.out ?_;refine sZ 5 (sv s) (fun _ h=>h.2.1) HS.out ?_;refine sZ 6 (.bool true) (fun _ h=>h.2.2) HS.out ?_;refine wpAnyH_done (by kernel_rfl) ?_ _;go_wp2_with fail;go_ret;exact⟨rfl,HB.out.trans ((bF W1 1).mono HB.out.size)⟩
def SX (sb hb base:Nat) (vE:Value) (l:List jN) (w w':World):Prop:=∃SY,w'.heap[sb]? =some (.cells #[SY, .map (some hb)] 121 (0,0))∧CW w' base SY l∧nD w' hb (l.map (·.name))∧Moved w vE SY∧Turn (fun k=>k=sb∨k=hb∨vE.ownBlock=some k) w w'
theorem Na (w:World) (sb hb base:Nat) (vE:Value) (l:List jN) (e:jN) (hblk:w.heap[sb]? =some (.cells #[vE, .map (some hb)] 121 (0,0))) (hrow:CW w base vE l) (hhas:nD w hb (l.map (·.name))) (hname:e.name.length≤maxLen) (hf:lH e.name l=false)
  (hlen:l.length≤1000000000000) (hsb:sb<base) (hhb:hb<base) (hne:sb≠hb) (hbase:base≤w.heap.size):
  Calls Tryz.prog 65 #[.pointer (some ⟨sb,0,none⟩), .agg #[sv e.name, .int .i64 e.module, .int .i64 e.decl]] w fun en w'=>en= .returned (.bool true)∧SX sb hb base vE (l++[e]) w w':=by
 obtain⟨s,m,d⟩:=e;simp only at hname hf ⊢;obtain⟨W1,hW1⟩:∃W1,w.alloc (.cells #[sv s, .int .i64 m, .int .i64 d] 29)=W1:=⟨_,rfl⟩
 have hb1:Below w.heap.size w W1:=by rw [←hW1];exact new1 _ _
 have hs1:W1.heap.size=w.heap.size+1:=by rw [←hW1];simp
 have he:=oF w (.cells #[sv s, .int .i64 m, .int .i64 d] 29);rw [hW1]at he;have hlo:=hrow.lt;have hll:=block_lt hblk;have hhl:=MapAt.lt hhas;obtain⟨A0,c0,rfl, _, _⟩:=eu hrow;have hdr:∀(G:Nat→Prop) (X:World),Turn G X X.drew:=fun _ _=>⟨rfl,rfl,rfl,Nat.le_refl _,fun _ _ _=>rfl⟩
 have t1:Turn (fun _=>False) w W1:=Turn.of_below hb1;have t2:Turn (fun _=>False) w W1.drew:=t1.trans (hdr (fun _=>False) W1) (fun _ _ h=>h);have t3:Turn (fun _=>False) w W1.drew.drew:=t2.trans (hdr (fun _=>False) W1.drew) (fun _ _ h=>h);have dM:=CS (hhas.turn t2 id) hname;rw [←Ah,hf]at dM;obtain⟨w3,hrun,Oh,t33⟩:=M8 (hhas.turn t3 id) hname (by rw [List.length_map];unfold maxLen;omega);have Zv:Turn (fun k=>k=sb∨k=hb∨(Value.slice A0 l.length c0).ownBlock=some k) w w3:=(t3.mono (G:=fun k=>k=sb∨k=hb∨(Value.slice A0 l.length c0).ownBlock=some k) (fun _ _ h=>h.elim)).trans t33 (fun _ _ h=> .inr (.inl h));have WE:Turn (fun k=>k=hb) w w3:=(t3.mono (G:=fun k=>k=hb) (fun _ _ h=>h.elim)).trans t33 (fun _ _ h=>h);obtain⟨q0,q1,qz⟩:=eD (ah hblk t2 id);obtain⟨r0,r1,rz⟩:=eD (ah hblk t3 id);obtain⟨e0,e1,e2, _⟩:=cells3 he;have HS:Hid (W1.drew.cell? ⟨sb,1,none⟩=some (.map (some hb))∧W1.drew.cell? ⟨w.heap.size,0,none⟩=some (sv s)∧(Instr.lookup 119 (.map (some hb)) (sv s) false).run Tryz.prog W1.drew= .ok (.bool false) W1.drew):=hid ⟨q1,e0,dM⟩;have ME:Hid (W1.drew.drew.cell? ⟨sb,1,none⟩=some (.map (some hb))∧W1.drew.drew.cell? ⟨w.heap.size,0,none⟩=some (sv s)):=hid ⟨r1,e0⟩;have Zw:w3.heap[w.heap.size]? =some (.cells #[sv s, .int .i64 m, .int .i64 d] 29 (0,0)):=ah (show W1.drew.drew.heap[w.heap.size]? = _ from he) t33 (by omega);have HB3:=hid (ah hblk WE (by omega));have Zx:=hid Zw;have EL:=hid hrun;have dP:=hid (hrow.turn WE (fun g hg e=>by have:=(hlo g hg).1;omega));have WG:=hid Oh;have Oi:=hid Zv;have HW:=hid hW1;have uY:=hid hlo;have hs3:w.heap.size+1≤w3.heap.size:=by rw [←hs1];exact t33.size
 have hel:(zI l).length=l.length*3:=gy tC l;clear hb1 hW1 he t1 t2 t3 t33 hhas hblk q0 q1 qz r0 r1 rz e0 e1 e2 dM hf hrun Oh Zv WE Zw hrow hlo;go_enter Tryz.func65,Tryz.ntmps65;go_wp2_with fail;rw [HW.out];refine wp_region_held_drew (S:=fun w'=>w'.cell? ⟨sb,1,none⟩=some (.map (some hb))∧w'.cell? ⟨w.heap.size,0,none⟩=some (sv s)∧(Instr.lookup 119 (.map (some hb)) (sv s) false).run Tryz.prog w'= .ok (.bool false) w') (by kernel_rfl) HS.out (fun _=> ?_)
 try simp only [Act.put,List.getElem_toArray,List.getElem_cons_zero,List.getElem_cons_succ,List.setIfInBounds_toArray,List.set_cons_zero,List.set_cons_succ]
 refine tk 0 (.pointer (some ⟨sb,0,none⟩)) HS.out ?_;refine tk 1 (.pointer (some ⟨sb,0,none⟩)) HS.out ?_;refine tk 2 (.pointer (some ⟨sb,1,none⟩)) HS.out ?_;refine sZ 3 (.map (some hb)) (fun _ h=>h.1) HS.out ?_;refine tk 4 (.pointer (some ⟨w.heap.size,0,none⟩)) HS.out ?_;refine sZ 5 (sv s) (fun _ h=>h.2.1) HS.out ?_;refine sZ 6 (.bool false) (fun _ h=>h.2.2) HS.out ?_;refine wpAnyH_done (by kernel_rfl) ?_ _;go_wp2_with fail;refine bH (S:=fun w'=>w'.cell? ⟨sb,1,none⟩=some (.map (some hb))∧w'.cell? ⟨w.heap.size,0,none⟩=some (sv s)) (x:=6) (by kernel_rfl) ?_
 try simp only [Act.put,List.getElem_toArray,List.getElem_cons_zero,List.getElem_cons_succ,List.setIfInBounds_toArray,List.set_cons_zero,List.set_cons_succ]
 refine tx 0 (.pointer (some ⟨sb,0,none⟩)) ME.out ?_;refine tx 1 (.pointer (some ⟨sb,0,none⟩)) ME.out ?_;refine tx 2 (.pointer (some ⟨sb,1,none⟩)) ME.out ?_;refine jO 3 (.map (some hb)) (fun _ h=>h.1) ME.out ?_;refine tx 4 (.pointer (some ⟨w.heap.size,0,none⟩)) ME.out ?_;refine jO 5 (sv s) (fun _ h=>h.2) ME.out ?_;refine av (rs:=[6]) (by kernel_rfl) (by simp) ?_;refine au.past rfl (by kernel_rfl) (fun K hK=> ?_) au.nil;refine tH rfl _ _ _ _ rfl rfl rfl rfl EL.out ?_;refine hK.out _ _ ?_;clear hK K
 try simp only [Act.put,List.getElem_toArray,List.getElem_cons_zero,List.getElem_cons_succ,List.setIfInBounds_toArray,List.set_cons_zero,List.set_cons_succ]
 refine aN (by kernel_rfl) ?_ _;go_wp2_with fail;obtain⟨r0,r1,rz⟩:=eD HB3.out;obtain⟨e0,e1,e2, _⟩:=cells3 Zx.out;have Gr:Hid (w3.drew.cell? ⟨sb,0,none⟩=some (.slice A0 l.length c0)∧w3.drew.cell? ⟨w.heap.size,0,none⟩=some (sv s)∧w3.drew.cell? ⟨w.heap.size,1,none⟩=some (.int .i64 m)∧w3.drew.cell? ⟨w.heap.size,2,none⟩=some (.int .i64 d)):=hid ⟨r0,e0,e1,e2⟩;clear r0 r1 rz e0 e1 e2;refine bH (S:=fun w'=>w'.cell? ⟨sb,0,none⟩=some (.slice A0 l.length c0)∧w'.cell? ⟨w.heap.size,0,none⟩=some (sv s)∧w'.cell? ⟨w.heap.size,1,none⟩=some (.int .i64 m)∧w'.cell? ⟨w.heap.size,2,none⟩=some (.int .i64 d)) (x:=10) (by kernel_rfl) ?_
 try simp only [Act.put,List.getElem_toArray,List.getElem_cons_zero,List.getElem_cons_succ,List.setIfInBounds_toArray,List.set_cons_zero,List.set_cons_succ]
 refine tx 0 (.pointer (some ⟨sb,0,none⟩)) Gr.out ?_;refine tx 1 (.pointer (some ⟨sb,0,none⟩)) Gr.out ?_;refine tx 2 (.pointer (some ⟨sb,0,none⟩)) Gr.out ?_;refine tx 3 (.pointer (some ⟨sb,0,none⟩)) Gr.out ?_;refine jO 4 (.slice A0 l.length c0) (fun _ h=>h.1) Gr.out ?_;refine jO 5 (.agg #[sv s, .int .i64 m, .int .i64 d]) (fun _ h=>h.2) Gr.out ?_;refine av (rs:=[6]) (by kernel_rfl) (by simp) ?_;refine au.cons rfl (fun K hK=> ?_) au.nil;go_simp;have t4:Turn (fun _=>False) w3 (w3.drew.alloc (.cells #[sv s, .int .i64 m, .int .i64 d] 29)):=(hdr (fun _=>False) w3).trans (Turn.alloc (fun _=>False) w3.drew _) (fun _ _ h=>h);have hb4:=ah HB3.out t4 id;have S9:=ah Zx.out t4 id;have xC:=hid hb4;have WH:=hid S9;have Gs:=hid (dP.out.turn t4 (fun _ _=>id));have gG:=hid t4;have HSL:=hid (fT w3.drew #[sv s, .int .i64 m, .int .i64 d] 29 3 1 rfl (by decide));have u6:Hid ((w3.drew.alloc (.cells #[sv s, .int .i64 m, .int .i64 d] 29)).cell? ⟨sb,0,none⟩=some (.slice A0 l.length c0)∧(w3.drew.alloc (.cells #[sv s, .int .i64 m, .int .i64 d] 29)).cell? ⟨w.heap.size,0,none⟩=some (sv s)∧(w3.drew.alloc (.cells #[sv s, .int .i64 m, .int .i64 d] 29)).cell? ⟨w.heap.size,1,none⟩=some (.int .i64 m)∧(w3.drew.alloc (.cells #[sv s, .int .i64 m, .int .i64 d] 29)).cell? ⟨w.heap.size,2,none⟩=some (.int .i64 d)):=hid ⟨(eD hb4).1,(cells3 S9).1,(cells3 S9).2.1,(cells3 S9).2.2.1⟩;clear t4 hb4 S9;refine hK.out _ _ u6.out ?_;clear hK K
 try simp only [Act.put,List.getElem_toArray,List.getElem_cons_zero,List.getElem_cons_succ,List.setIfInBounds_toArray,List.set_cons_zero,List.set_cons_succ]
 refine av (rs:=[7]) (by kernel_rfl) (by simp) ?_;refine au.cons rfl (fun K hK=> ?_) au.nil;refine cu rfl (.tmp 22) (.tmp 24) _ rfl base SN _ _ rfl rfl Gs.out HSL.out (PE s m d) (by simp [maxLen];omega) (by simp;omega) (by simp;omega) (fun v7 w7 n7 aK gD dK=> ?_);obtain⟨A7,c7,rfl, _, _⟩:=eu aK;have t7:=Turn.aP gD (F:=fun j=>(Value.slice A0 l.length c0).ownBlock=some j) (fun _ h=>h);have WI:=Gs.out.lt;have fI:=ah xC.out t7 (fun e=>by have:=(uY.out _ e).1;omega);have VG:=ah WH.out t7 (fun e=>by have:=(uY.out _ e).2;omega);have qM:=hid fI;have iE:=hid t7;have Kq:=hid aK;have PG:=hid dK;have qz:=(eD fI).2.2;have fQ:Hid (w7.cell? ⟨sb,0,none⟩=some (.slice A0 l.length c0)∧w7.cell? ⟨w.heap.size,0,none⟩=some (sv s)∧w7.cell? ⟨w.heap.size,1,none⟩=some (.int .i64 m)∧w7.cell? ⟨w.heap.size,2,none⟩=some (.int .i64 d)):=hid ⟨(eD fI).1,(cells3 VG).1,(cells3 VG).2.1,(cells3 VG).2.2.1⟩;have Nb:=(eD fI).1;have Zy:=block_lt fI;clear t7 fI VG aK dK gD WI;refine hK.out _ _ fQ.out ?_;clear hK K
 try simp only [Act.put,List.getElem_toArray,List.getElem_cons_zero,List.getElem_cons_succ,List.setIfInBounds_toArray,List.set_cons_zero,List.set_cons_succ]
 refine tt 8 (.pointer (some ⟨sb,0,none⟩)) (fun _=>fQ.out) ?_;refine tt 9 (.pointer (some ⟨sb,0,none⟩)) (fun _=>fQ.out) ?_;refine av (rs:=[10]) (by kernel_rfl) (by simp) ?_;refine au.past rfl (by kernel_rfl) (fun K hK=> ?_) au.nil;go_simp;refine hK.out _ _ ?_;clear hK K
 try simp only [Act.put,List.getElem_toArray,List.getElem_cons_zero,List.getElem_cons_succ,List.setIfInBounds_toArray,List.set_cons_zero,List.set_cons_succ]
 refine aN (by kernel_rfl) ?_ _;go_wp2_with fail;go_ret;have hn:n7=(l++[(⟨s,m,d⟩:jN)]).length:=by
  have:=Kq.out.1;rw [List.length_append,hel]at this;simp at this;rw [List.length_append,List.length_singleton];omega
 subst hn;have tl:=ay w7 sb 0 (.slice A7 (l++[(⟨s,m,d⟩:jN)]).length c7);have tw7:Turn (fun k=>k=sb∨k=hb∨(Value.slice A0 l.length c0).ownBlock=some k) w w7:=(Oi.out.trans gG.out (fun _ _ h=>h.elim)).trans iE.out (fun _ _ h=> .inr (.inr h));refine⟨rfl, _,heap_setCell_same _ _ 0 _ _ _ qM.out, ?_, ?_, ?_,tw7.trans tl (fun _ _ h=> .inl h)⟩
 ·refine bK (G:=fun k=>k=sb) ?_ tl (fun g hg e=>by have:=(Kq.out.lt g hg).1;omega);rw [IC];exact Kq.out
 ·rw [List.map_append];exact((WG.out.turn gG.out id).turn iE.out (fun e=>by have:=(uY.out _ e).1;omega)).turn tl (fun e=>hne e.symm)
 ·rcases PG.out with h | h
  ·exact .inl h
  ·exact .inr ⟨_,by simp;omega,h⟩
theorem Gt {w:World} {B:Nat} {A:Option Addr} {n c:Nat} {xs:List Value} {l:List jJ} (hs:Sl w B 15 (.slice A n c) xs) (hr:bQ (zV w B) 15 xs l) {i:Nat} (hi:i<l.length) (hn:n=l.length):
  ∃b o A1 c1 A2 c2 kk s n1 l1 cc A3 n3 c3 A4 n4 c4 A5 n5 c5,A=some ⟨b,o,none⟩∧b<B∧w.cell? ⟨b,o+i*15,none⟩=some (sv l[i].name)∧w.cell? ⟨b,o+i*15+1,none⟩=some (.bool l[i].exp)∧w.cell? ⟨b,o+i*15+2,none⟩=some (.slice A1 l[i].vars.length c1)∧w.cell? ⟨b,o+i*15+3,none⟩=some (sv l[i].param)∧w.cell? ⟨b,o+i*15+4,none⟩=some (.slice A2 l[i].types.length c2)∧w.cell? ⟨b,o+i*15+5,none⟩=some (.int .i64 kk)∧w.cell? ⟨b,o+i*15+6,none⟩=some (.string s)∧w.cell? ⟨b,o+i*15+7,none⟩=some (.int .i64 n1)∧w.cell? ⟨b,o+i*15+8,none⟩=some (.int .i64 l1)∧w.cell? ⟨b,o+i*15+9,none⟩=some (.int .i64 cc)∧w.cell? ⟨b,o+i*15+10,none⟩=some (.slice A3 n3 c3)∧w.cell? ⟨b,o+i*15+11,none⟩=some (.slice A4 n4 c4)∧w.cell? ⟨b,o+i*15+12,none⟩=some (.slice A5 n5 c5)∧w.cell? ⟨b,o+i*15+13,none⟩=some (.int .i64 l[i].line)∧w.cell? ⟨b,o+i*15+14,none⟩=some (.int .i64 l[i].col):=by
 obtain⟨b,o,z,hA,hb,hz,hc⟩:=Ep hs hr (by omega) hi hn;obtain⟨A1,c1,A2,c2,k,s,n,l1,c,A3,n3,c3,A4,n4,c4,A5,n5,c5,xv,xt,rfl,h1,h2,h3,h4,h5⟩:=hz.parts;exact⟨b,o,A1,c1,A2,c2,k,s,n,l1,c,A3,n3,c3,A4,n4,c4,A5,n5,c5,hA,hb,by simpa using hc 0 _ rfl,hc 1 _ rfl,hc 2 _ rfl,hc 3 _ rfl,hc 4 _ rfl,hc 5 _ rfl,hc 6 _ rfl,hc 7 _ rfl,hc 8 _ rfl,hc 9 _ rfl,hc 10 _ rfl,hc 11 _ rfl,hc 12 _ rfl,hc 13 _ rfl,hc 14 _ rfl⟩
theorem II (w:World) (p:Nat) (s nm:Bt) (v1 v2 v3 v4 v5 v6 v7 v8 v9 v10 v11 v12 v13 v14:Value) (hp:w.cell? ⟨p,0,none⟩=some (sv s)):
  Calls Tryz.prog 124 #[.agg #[sv nm,v1,v2,v3,v4,v5,v6,v7,v8,v9,v10,v11,v12,v13,v14], .pointer (some ⟨p,0,none⟩)] w fun e w'=>e= .returned (.bool (nm==s))∧Below w.heap.size w w':=by
 have hpl:=World.block_lt_of_cell? w _ hp;simp only at hpl;go_enter Tryz.func124,Tryz.ntmps124;go_wp2_with fail;go_ret;exact⟨rfl,new1 _ _⟩
def rJ (l:List jJ) (s:Bt):Int:=match l.findIdx? (fun d=>d.name==s)with | some k=>(k:Int) | none=> -1
theorem Kr {l:List jJ} {s:Bt} {k:Nat} (hk:k<l.length) (h:(l[k].name==s)=true) (hn:∀j (hj:j<l.length),j<k→(l[j].name==s)=false):rJ l s=k:=by
 unfold rJ;rw [List.findIdx?_eq_some_iff_getElem.2 ⟨hk,h,fun j hj=>by rw [hn j (by omega) hj];simp⟩]
theorem Kt {l:List jJ} {s:Bt} (hn:∀j (hj:j<l.length),(l[j].name==s)=false):rJ l s= -1:=by
 unfold rJ
 rw [List.findIdx?_eq_none_iff.2 fun d hd=>by
  obtain⟨j,hj,rfl⟩:=List.getElem_of_mem hd;exact hn j hj]
theorem EM (w:World) (v:Value) (l:List jJ) (xs:List Value) (s:Bt) (p:Nat) (hv:Sl w w.heap.size 15 v xs) (hr:bQ (zV w w.heap.size) 15 xs l) (hp:w.cell? ⟨p,0,none⟩=some (sv s)):
  Calls Tryz.prog 123 #[v, .func (.func 124) #[] #[.pointer (some ⟨p,0,none⟩)]] w fun e w'=>e= .returned (.int .i64 (rJ l s))∧Below w.heap.size w w':=by
 obtain⟨A,c,rfl⟩:=bP hv (by omega) (m:=l.length) hr.len;obtain⟨_,hn,hc⟩:=cB hv;have HV:=hid hv;have HR:=hid hr;have HP:=hid hp;have hpl:=World.block_lt_of_cell? w _ hp;simp only at hpl;have HPL:=hid hpl;clear hv hr hp hpl;obtain⟨n,hnn⟩:∃n,l.length=n:=⟨_,rfl⟩
 rw [hnn]at hn HV;rw [hnn];go_enter Tryz.func123,Tryz.ntmps123;go_wp2_with fail;go_loopw [8] (fun v8 wr=>∃k:Nat,v8= .int .i64 k∧k≤n∧(∀j (hj:j<l.length),j<k→(l[j].name==s)=false)∧Below w.heap.size w wr) (fun v8 _=>n - (intOf v8).toNat)
 case atStart=>exact⟨0,rfl,by omega,fun j hj h=>by omega,Below.refl _ _⟩
 case round=>
  obtain⟨k,rfl,hk,hinv,hbr⟩:=hrel;have HI:=hid hinv;have HB:=hid hbr;clear hinv;by_cases hlt:k<n
  ·have hkl:k<l.length:=by omega
   obtain⟨b1,o1,A1,c1,A2,c2,kk,ss,n1,l1,cc,A3,n3,c3,A4,n4,c4,A5,n5,c5,rfl,hb1,d0,d1,d2,d3,d4,d5,d6,d7,d8,d9,RV,RX,RY,Ku,Kv⟩:=Gt (Sl.more (Sl.below HV.out hbr) hbr.size) (HR.out.imp fun _ _ h=>(h.keep hbr).more hbr.size) hkl hnn.symm;have HC:=hid (II wr p s l[k].name (.bool l[k].exp) (.slice A1 l[k].vars.length c1) (sv l[k].param) (.slice A2 l[k].types.length c2) (.int .i64 kk) (.string ss) (.int .i64 n1) (.int .i64 l1) (.int .i64 cc) (.slice A3 n3 c3) (.slice A4 n4 c4) (.slice A5 n5 c5) (.int .i64 l[k].line) (.int .i64 l[k].col) (Pf hbr HP.out HPL.out))
   have rY:=hid (show ∀b,(l[k].name==s)=b→(b=true→rJ l s=k)∧(b=false→∀j (hj:j<l.length),j<k+1→(l[j].name==s)=false)from fun b hb=>⟨fun h=>Kr hkl (by rw [hb,h]) HI.out,fun h j hj hlt=>by
    rcases Nat.lt_or_ge j k with h1 | h1
    ·exact HI.out j hj h1
    ·obtain rfl:j=k:=by omega
     rw [hb,h]⟩)
   clear hbr hb1;generalize l[k]=X at*
   obtain⟨nm,ex,vs,pr,ts,bd,ln,cl⟩:=X;simp only at d0 d1 d2 d3 d4 Ku Kv HC rY;generalize vs.length=vl at*
   generalize ts.length=tl at*
   go_wp2_with fail;refine(HC.out).mono ?_;rintro e w2 ⟨rfl,hb⟩;have HB2:=hid (HB.out.trans (hb.mono HB.out.size));have MB:=hid (rY.out _ rfl);clear hb d0 d1 d2 d3 d4 d5 d6 d7 d8 d9 RV RX RY Ku Kv HC rY;cases hq:nm==s with
   | true=>
    have HA:=hid (MB.out.1 hq);clear hq MB;go_wp2_with fail;go_ret;exact⟨by rw [HA.out];rfl,HB2.out⟩
   | false=>
    have HA:=hid (MB.out.2 hq);clear hq MB;go_wp2_with fail
    go_roundw
    case rel=>exact⟨k+1,rfl,by omega,HA.out,HB2.out⟩
    case measure=>simp [intOf];omega
  ·obtain rfl:k=n:=by omega
   clear hbr;go_wp2_with fail;go_ret;exact⟨by rw [Kt fun j hj=>HI.out j hj (by omega)];rfl,HB.out⟩
theorem Aj (w:World) (z:List Value) (m:eH) (s:Bt) (hz:Ea w w.heap.size z m):
  Calls Tryz.prog 67 #[.agg z.toArray,sv s] w fun e w'=>e= .returned (.int .i64 (rJ m.decls s))∧Below w.heap.size w w':=by
 obtain⟨A1,c1,A2,c2,xi,xd,rfl,s1,r1,s2,r2⟩:=hz.parts;obtain⟨W,hW⟩:∃W,(w.alloc (.cells #[.slice A1 m.imps.length c1, .slice A2 m.decls.length c2] 40)).alloc (.cells #[sv s] 9)=W:=⟨_,rfl⟩
 have hb:Below w.heap.size w W:=by rw [←hW];exact new2 _ _ _
 obtain⟨_, _, _,hx⟩:=kK (G:=fun _=>False) (Turn.refl _ ((w.alloc (.cells #[.slice A1 m.imps.length c1, .slice A2 m.decls.length c2] 40)).alloc (.cells #[sv s] 9)));have hx:=hx id;rw [hW]at hx;have HI:=hid (EM W (.slice A2 m.decls.length c2) m.decls xd s (w.heap.size+1) (Sl.more (Sl.below s2 hb) hb.size) (r2.imp fun _ _ h=>(h.keep hb).more hb.size) (aZ hx));have HB:=hid hb;have HW:=hid hW;clear hz s1 r1 s2 r2 hb hx hW;generalize m.imps.length=mi at*
 generalize m.decls=ml at*
 generalize ml.length=md at*
 go_enter Tryz.func67,Tryz.ntmps67;go_wp2_with fail;rw [HW.out];refine(HI.out).mono ?_;rintro e w2 ⟨rfl,hb⟩;have HB2:=hid (HB.out.trans (hb.mono HB.out.size));clear hb;go_wp2_with fail;go_ret;exact⟨rfl,HB2.out⟩
abbrev mM (w:World) (lb:Nat) (vN vM vS a b c vm vB:Value):Prop:=w.heap[lb]? =some (.cells #[vN,vM,vS,a,b,c,vm,vB] 79 (0,0))
def wK (B lb:Nat) (j:Nat):Prop:=j<B∧lb<j
def nG (w:World) (B lb mb:Nat) (vN vM:Value) (names:List Bt) (mods:List eH):Prop:=
 lb<B∧mb<B∧mb≠lb∧dx w (wK B lb) 1 vN (mZ names)∧pU w mb names∧∃xm,dx w (wK B lb) 2 vM xm∧bQ (sO w (wK B lb)) 2 xm mods
theorem nG.turn {w w':World} {B lb mb:Nat} {vN vM:Value} {names:List Bt} {mods:List eH} {G:Nat→Prop} (h:nG w B lb mb vN vM names mods) (t:Turn G w w') (hG:∀j,G j→j=lb∨B≤j):nG w' B lb mb vN vM names mods:=by
 obtain⟨h1,h2,h3,h4,h5,xm,h6,h7⟩:=h;have hd:∀g,g<w.heap.size→wK B lb g→¬G g:=fun g _ hf hg=>by
  have:=hf.1;have:=hf.2;rcases hG g hg with e | e <;> omega
 exact⟨h1,h2,h3,h4.turn t hd,MapAt.turn h5 t (fun hg=>by rcases hG mb hg with e | e <;> omega),xm,h6.turn t hd,h7.imp fun _ _ h=>h.turn t hd⟩
def cO (B lb:Nat) (w w':World):Prop:=Turn (fun j=>j=lb∨B≤j) w w'∧∀(j:Nat) (cs:Array Value) (T:TypeId),w.heap[j]? =some (.cells cs T (0,0))→T≠29→T≠55→T≠121→T≠79→w'.heap[j]? =some (.cells cs T (0,0))
theorem cO.trans {B lb:Nat} {a b c:World} (h:cO B lb a b) (k:cO B lb b c):cO B lb a c:=⟨h.1.trans k.1 (fun _ _ h=>h),fun j cs T hj e1 e2 e3 e4=>k.2 j cs T (h.2 j cs T hj e1 e2 e3 e4) e1 e2 e3 e4⟩
theorem cO.of {B lb:Nat} {w w':World} {G:Nat→Prop} (t:Turn G w w') (hB:∀j,G j→j=lb∨B≤j) (hG:∀j cs T,G j→w.heap[j]? =some (.cells cs T (0,0))→T=29∨T=55∨T=121∨T=79):cO B lb w w':=⟨t.mono fun j _ h=>hB j h,fun j cs T hj e1 e2 e3 e4=>
 ah hj t fun hg=>by
  rcases hG j cs T hg hj with e | e | e | e
  ·exact e1 e
  ·exact e2 e
  ·exact e3 e
  ·exact e4 e⟩
theorem cO.below {B lb:Nat} {w w':World} (h:Below w.heap.size w w'):cO B lb w w':=cO.of (Turn.of_below (F:=fun _=>False) h) (fun _ h=>h.elim) fun _ _ _ h=>h.elim
theorem cO.blk {B lb:Nat} {w w':World} (h:cO B lb w w') {j:Nat} {cs:Array Value} {T:TypeId} (hj:w.heap[j]? =some (.cells cs T (0,0))) (hT:(T != 29 && (T != 55 && (T != 121 && T != 79)))=true):w'.heap[j]? =some (.cells cs T (0,0)):=by
 simp only [Bool.and_eq_true,bne_iff_ne]at hT;exact h.2 j cs T hj hT.1 hT.2.1 hT.2.2.1 hT.2.2.2
theorem cO.sl {B lb:Nat} {w w':World} (h:cO B lb w w') {k:Nat} {v:Value} {xs:List Value} (hs:dx w (wK B lb) k v xs):dx w' (wK B lb) k v xs:=hs.turn h.1 fun g _ hf hg=>by
 have:=hf.1;have:=hf.2;rcases hg with e | e <;> omega
theorem pV {w:World} {base g:Nat} {e T:TypeId} {k n:Nat} {v:Value} {xs:List Value} {cs:Array Value} (h:w.ownsRow base e k v n xs) (hg:v.ownBlock=some g) (hc:w.heap[g]? =some (.cells cs T (0,0))):T=e:=by
 rcases h.2 with⟨rfl, _⟩ | ⟨g',cap,cur,rfl, _,hh, _⟩
 ·cases hg
 ·have:g'=g:=by injection hg
  subst this;rw [hh]at hc;injection hc with hc;injection hc with _ hc;exact hc.symm
theorem Kw {w:World} {b:Nat} {l:List Bt} {cs:Array Value} {T:TypeId} (h:nD w b l) (hc:w.heap[b]? =some (.cells cs T (0,0))):False:=by
 obtain⟨n,D, _,⟨es,clock,hb, _⟩, _⟩:=h;rw [hb]at hc;injection hc with hc;cases hc
theorem tJ {w:World} {b:Nat} {cs cs':Array Value} {T T':TypeId} (h:w.heap[b]? =some (.cells cs' T' (0,0))) (hc:w.heap[b]? =some (.cells cs T (0,0))):T=T':=by
 rw [h]at hc;injection hc with hc;injection hc with _ hc;exact hc.symm
section
variable {B lb mb sb hb:Nat} {vN vM vS a b c:Value} {names:List Bt} {mods:List eH} {w2 w w':World} {sw:Value} {st:wI}
def C2 (B lb sb hb:Nat) (w2:World) (sw:Value):Prop:=lb<B∧B≤hb∧hb<sb∧sb<w2.heap.size∧∀g,sw.ownBlock=some g→g<hb
def S2 (B lb mb sb hb:Nat) (vN vM vS a b c:Value) (names:List Bt) (mods:List eH) (w2:World) (sw:Value) (w:World) (st:wI):Prop:=
 ∃vE vB,mM w lb vN vM vS a b c (.map (some mb)) vB∧mJ w B vB st.2∧w.heap[sb]? =some (.cells #[vE, .map (some hb)] 121 (0,0))∧CW w w2.heap.size vE st.1∧nD w hb (st.1.map (·.name))∧nG w B lb mb vN vM names mods∧
  (∀g,vE.ownBlock=some g→vB.ownBlock≠some g)∧Moved w2 sw vB∧Turn (fun k=>k=lb∨k=sb∨k=hb∨sw.ownBlock=some k) w2 w
theorem S2.size (h:S2 B lb mb sb hb vN vM vS a b c names mods w2 sw w st):w2.heap.size≤w.heap.size:=by
 obtain⟨vE,vB, _, _, _, _, _, _, _, _,t⟩:=h;exact t.size
theorem S2.below (h:S2 B lb mb sb hb vN vM vS a b c names mods w2 sw w st) (hb':Below w.heap.size w w'):S2 B lb mb sb hb vN vM vS a b c names mods w2 sw w' st:=by
 obtain⟨vE,vB,h1,h2,h3,h4,h5,h6,h7,h8,t⟩:=h;have t0:Turn (fun _=>False) w w':=Turn.of_below hb';exact⟨vE,vB,ah h1 t0 id,h2.turn t0 (fun _ _=>id),ah h3 t0 id,h4.turn t0 (fun _ _=>id),h5.turn t0 id,h6.turn t0 (fun _ h=>h.elim),h7,h8,t.trans t0 (fun _ _ h=>h.elim)⟩
theorem yI {w2:World} {sw vB:Value} (hC:C2 B lb sb hb w2 sw) (h:Moved w2 sw vB):∀g,vB.ownBlock=some g→(g<hb∧sw.ownBlock=some g)∨w2.heap.size≤g:=by
 intro g hg;rcases h with h | ⟨n,hn,h⟩
 ·rw [h]at hg;exact .inl ⟨hC.2.2.2.2 g hg,hg⟩
 ·rw [h]at hg;injection hg with hg;exact .inr (by omega)
theorem yJ (hC:C2 B lb sb hb w2 sw) (h:S2 B lb mb sb hb vN vM vS a b c names mods w2 sw w st) (hlen:st.2.length≤1000000000000) (d:kT):
  Calls Tryz.prog 62 #[.pointer (some ⟨lb,0,none⟩), .int .i64 d.module, .int .i64 d.line, .int .i64 d.col, .int .i64 d.e] w fun e w'=>e= .returned (.tuple #[])∧S2 B lb mb sb hb vN vM vS a b c names mods w2 sw w' (st.1,st.2++[d])∧cO B lb w w':=by
 have hsz:=h.size;obtain⟨vE,vB,h1,h2,h3,h4,h5,h6,h7,h8,t⟩:=h;obtain⟨c1,c2,c3,c4,c5⟩:=hC;have hml:=yI ⟨c1,c2,c3,c4,c5⟩ h8;refine(uX w lb B vN vM vS a b c (.map (some mb)) vB st.2 d h1 h2 hlen c1 (by omega)).mono ?_;rintro e w' ⟨rfl,uW,k1,k2,k3,k4⟩;refine⟨rfl,⟨vE,uW,k1,k2,ah h3 k4 (fun e=> ?_),h4.turn k4 (fun g hg e=> ?_),h5.turn k4 (fun e=> ?_),h6.turn k4 (fun j e=> ?_),fun g hg=> ?_,h8.trans k3 hsz,t.trans k4 (fun i hi e=> ?_)⟩,cO.of k4 (fun j e=> ?_) fun j cs T hj hc=> ?_⟩
 ·rcases e with e | e
  ·omega
  ·rcases hml _ e with e | e <;> omega
 ·rcases e with e | e
  ·have:=(h4.lt g hg).1;omega
  ·exact h7 g hg e
 ·rcases e with e | e
  ·omega
  ·rcases hml _ e with e | e <;> omega
 ·rcases e with e | e
  ·exact .inl e
  ·exact .inr (h2.lt j e).1
 ·rcases k3 with k | ⟨n,hn,k⟩
  ·rw [k];exact h7 g hg
  ·rw [k];intro e;injection e with e;have:=(h4.lt g hg).2;omega
 ·rcases e with e | e
  ·exact .inl e
  ·rcases hml _ e with e | e
   ·exact .inr (.inr (.inr e.2))
   ·omega
 ·rcases e with e | e
  ·exact .inl e
  ·exact .inr (h2.lt j e).1
 ·rcases hj with rfl | hj
  ·exact .inr (.inr (.inr (tJ h1 hc)))
  ·exact .inr (.inl (pV h2 hj hc))
theorem CX (h:S2 B lb mb sb hb vN vM vS a b c names mods w2 sw w st) (e:jN) (hname:e.name.length≤maxLen) (hf:lH e.name st.1=true):
  Calls Tryz.prog 65 #[.pointer (some ⟨sb,0,none⟩), .agg #[sv e.name, .int .i64 e.module, .int .i64 e.decl]] w fun en w'=>en= .returned (.bool false)∧S2 B lb mb sb hb vN vM vS a b c names mods w2 sw w' st∧cO B lb w w':=by
 have h0:=h;obtain⟨vE,vB,h1,h2,h3,h4,h5,h6,h7,h8,t⟩:=h;refine(M9 w sb hb vE st.1 e h3 h5 hname hf).mono ?_;rintro en w' ⟨rfl,hb'⟩;exact⟨rfl,h0.below hb',cO.below hb'⟩
theorem CY (hC:C2 B lb sb hb w2 sw) (h:S2 B lb mb sb hb vN vM vS a b c names mods w2 sw w st) (e:jN) (hname:e.name.length≤maxLen) (hf:lH e.name st.1=false) (hlen:st.1.length≤1000000000000):
  Calls Tryz.prog 65 #[.pointer (some ⟨sb,0,none⟩), .agg #[sv e.name, .int .i64 e.module, .int .i64 e.decl]] w fun en w'=>en= .returned (.bool true)∧S2 B lb mb sb hb vN vM vS a b c names mods w2 sw w' (st.1++[e],st.2)∧cO B lb w w':=by
 have hsz:=h.size;obtain⟨vE,vB,h1,h2,h3,h4,h5,h6,h7,h8,t⟩:=h;obtain⟨c1,c2,c3,c4,c5⟩:=hC;have hml:=yI ⟨c1,c2,c3,c4,c5⟩ h8;refine(Na w sb hb w2.heap.size vE st.1 e h3 h4 h5 hname hf hlen c4 (by omega) (by omega) hsz).mono ?_;rintro en w' ⟨rfl,SY,k1,k2,k3,k4,k5⟩;refine⟨rfl,⟨SY,vB,ah h1 k5 (fun e=> ?_),h2.turn k5 (fun g hg e=> ?_),k1,k2,k3,h6.turn k5 (fun j e=> ?_),fun g hg e=> ?_,h8,t.trans k5 (fun i hi e=> ?_)⟩,cO.of k5 (fun j e=> ?_) fun j cs T hj hc=> ?_⟩
 ·rcases e with e | e | e
  ·omega
  ·omega
  ·have:=(h4.lt _ e).1;omega
 ·rcases e with rfl | rfl | e
  ·rcases hml _ hg with e | e <;> omega
  ·rcases hml _ hg with e | e <;> omega
  ·exact h7 g e hg
 ·rcases e with e | e | e
  ·exact .inr (by omega)
  ·exact .inr (by omega)
  ·have:=(h4.lt _ e).1;exact .inr (by omega)
 ·rcases k4 with k | ⟨n,hn,k⟩
  ·rw [k]at hg;exact h7 g hg e
  ·rw [k]at hg;injection hg with hg;have:=(h2.lt g e).2;omega
 ·rcases e with e | e | e
  ·exact .inr (.inl e)
  ·exact .inr (.inr (.inl e))
  ·have:=(h4.lt _ e).1;omega
 ·rcases e with e | e | e
  ·exact .inr (by omega)
  ·exact .inr (by omega)
  ·have:=(h4.lt _ e).1;exact .inr (by omega)
 ·rcases hj with rfl | rfl | hj
  ·exact .inr (.inr (.inl (tJ h3 hc)))
  ·exact(Kw h5 hc).elim
  ·exact .inl (pV h4 hj hc)
end
theorem Ky (w:World) (s:Bt) (hX:z8 w) (hs:s.length≤281474976710656):Calls Tryz.prog 63 #[sv s] w fun e w'=>e= .returned (.bool (sI s))∧Below w.heap.size w w':=by
 have hsz:=dO s;cases s with
 | nil=>
  have ha:sI []=false:=rfl;rw [ha];go_enter Tryz.func63,Tryz.ntmps63;go_wp2_with fail;go_ret;exact⟨rfl,Below.refl _ _⟩
 | cons c r=>
  have hix:(ByteArray.mk (c :: r).toArray)[0]'(by rw [dO];simp)=c:=gQ (c :: r) 0 (by simp);have hl0:(0:Int)<(r.length:Int)+1:=by omega
  have hnz:((c :: r:Bt)==[])=false:=rfl;have ha:sI (c :: r)=(decide ((c :: r).length≤32) && gX c && decide (bN bE (c :: r)=(c :: r).length) && !decide ((c :: r)∈fB)):=rfl;have dP:=hid (zZ (c :: r) w hs);generalize bN bE (c :: r)=n at*
  by_cases h32:(c :: r).length≤32
  ·have WJ:(r.length:Int)+1≤32:=by simp only [List.length_cons]at h32;omega
   rw [decide_eq_true h32,Bool.true_and]at ha;clear h32;cases hl:gX c
   ·rw [hl]at ha;simp only [Bool.false_and]at ha;rw [ha];clear ha;go_enter Tryz.func63,Tryz.ntmps63;go_wp2_with fail;refine(gL c _).mono ?_;rintro e w1 ⟨rfl,rfl⟩;rw [hl];go_wp2_with fail;go_ret;exact⟨rfl,Below.refl _ _⟩
   ·rw [hl,Bool.true_and]at ha;by_cases hn:n=(c :: r).length
    ·rw [decide_eq_true hn,Bool.true_and]at ha;have hn':(n:Int)=(r.length:Int)+1:=by rw [hn];simp
     clear hn;rw [ha];clear ha;generalize hq:decide ((c :: r)∈fB)=q;go_enter Tryz.func63,Tryz.ntmps63;go_wp2_with fail;refine(gL c _).mono ?_;rintro e w1 ⟨rfl,rfl⟩;rw [hl];go_wp2_with fail;refine dP.out.mono ?_;rintro e w2 ⟨rfl,rfl⟩;go_wp2_with fail;refine(uQ _ hX).mono ?_;rintro e w3 ⟨v3,rfl,WK,hb3⟩;go_wp2_with fail;refine(nS v3 fB (c :: r) _ WK).mono ?_;rintro e w4 ⟨rfl,rfl⟩;rw [hq];go_wp2_with fail;go_ret;exact⟨rfl,hb3⟩
    ·rw [decide_eq_false hn,Bool.false_and]at ha;have hn':¬(n:Int)=(r.length:Int)+1:=by intro h;apply hn;simp;omega
     clear hn;rw [ha];clear ha;go_enter Tryz.func63,Tryz.ntmps63;go_wp2_with fail;refine(gL c _).mono ?_;rintro e w1 ⟨rfl,rfl⟩;rw [hl];go_wp2_with fail;refine dP.out.mono ?_;rintro e w2 ⟨rfl,rfl⟩;go_wp2_with fail;go_ret;exact⟨rfl,Below.refl _ _⟩
  ·have WJ:¬(r.length:Int)+1≤32:=by simp only [List.length_cons]at h32;omega
   rw [decide_eq_false h32]at ha;simp only [Bool.false_and]at ha;clear h32;rw [ha];clear ha;go_enter Tryz.func63,Tryz.ntmps63;go_wp2_with fail;go_ret;exact⟨rfl,Below.refl _ _⟩
def WL:Value:= .slice none 0 0
def wL (w:World) (base bs:Nat) (m:List Bt) (l:List (UInt8 ×Bt)):Prop:=
 ∃(cs:Array Value) (tr:Value),w.heap[bs]? =some (.cells cs 293 (0,0))∧cs.size=257∧cs[256]? =some tr∧iC w base 9 tr m∧base≤bs∧tr.ownBlock≠some bs∧
  ∀c:UInt8,(l.lookup c=none→cs[c.toNat]? =some WL)∧(∀u,l.lookup c=some u→∃g k,cs[c.toNat]? =some (.slice (some ⟨g,0,none⟩) u.length k)∧base≤g∧g<w.heap.size∧g≠bs∧tr.ownBlock≠some g∧∀(j:Nat) (hj:j<u.length),w.cell? ⟨g,j,none⟩=some (.int .u8 (u[j].toNat:Int)))
theorem wL.below {w w':World} {base bs:Nat} {m:List Bt} {l:List (UInt8 ×Bt)} (h:wL w base bs m l) (hb:Below w.heap.size w w'):wL w' base bs m l:=by
 obtain⟨cs,tr,h1,h2,h3,h4,h5,h6,h7⟩:=h;refine⟨cs,tr,(hb.block bs (block_lt h1)).trans h1,h2,h3,h4.below hb,h5,h6,fun c=>⟨(h7 c).1,fun u hu=> ?_⟩⟩;obtain⟨g,k,a1,a0,a2,a3,a4,a7⟩:=(h7 c).2 u hu;exact⟨g,k,a1,a0,Nat.lt_of_lt_of_le a2 hb.size,a3,a4,fun j hj=>(hb.cell (p:=⟨g,j,none⟩) a2).trans (a7 j hj)⟩
theorem wL.grow {w w9:World} {base bs:Nat} {m m':List Bt} {l:List (UInt8 ×Bt)} {cs:Array Value} {tr MF:Value} (h:wL w base bs m l) (hcs:w.heap[bs]? =some (.cells cs 293 (0,0))) (htr:cs[256]? =some tr)
  (hg:w.grownBy w9 tr.ownBlock) (ho:iC w9 base 9 MF m') (hb:MF.ownBlock=tr.ownBlock∨MF.ownBlock=some w.heap.size):wL (w9.setCell ⟨bs,256,none⟩ MF) base bs m' l:=by
 obtain⟨cs0,tr0,h1,h2,h3,h4,h5,h6,h7⟩:=h;rw [hcs]at h1;simp only [Option.some.injEq,Obj.cells.injEq]at h1;obtain⟨rfl, _⟩:=h1;rw [htr]at h3;injection h3 with h3;subst h3;have hbs:bs<w.heap.size:=block_lt hcs;have rZ:w9.heap[bs]? =some (.cells cs 293 (0,0)):=(hg.block bs hbs h6.symm).trans hcs;have hne:MF.ownBlock≠some bs:=by
  rcases hb with hb | hb
  ·rw [hb];exact h6
  ·rw [hb];intro h;injection h with h;omega
 have ht:=ay w9 bs 256 MF;refine⟨cs.setIfInBounds 256 MF,MF,heap_setCell_same w9 bs 256 _ _ MF rZ,by simp [h2], ?_,ho.turn ht (fun g hg h=>hne (by rw [hg,h])),h5,hne,fun c=> ?_⟩
 ·rw [Array.getElem?_setIfInBounds_self];simp [h2]
 ·have hc:=c.toNat_lt;have hcs':(cs.setIfInBounds 256 MF)[c.toNat]? =cs[c.toNat]? :=by rw [Array.getElem?_setIfInBounds_ne (by omega)]
  rw [hcs'];refine⟨(h7 c).1,fun u hu=> ?_⟩;obtain⟨g,k,a1,a0,a2,a3,a4,a7⟩:=(h7 c).2 u hu;refine⟨g,k,a1,a0,by simp only [World.size_setCell];exact Nat.lt_of_lt_of_le a2 hg.size,a3, ?_,fun j hj=> ?_⟩
  ·rcases hb with hb | hb
   ·rw [hb];exact a4
   ·rw [hb];intro h;injection h with h;omega
  ·rw [World.cell?_setCell_other _ _ _ _ (by intro h;have:=congrArg Addr.block h;simp at this;omega)];have:w9.cell? ⟨g,j,none⟩=w.cell? ⟨g,j,none⟩:=by simp only [World.cell?,hg.block g a2 a4.symm]
   rw [this];exact a7 j hj
theorem wL.put {w:World} {base bs:Nat} {m:List Bt} {l:List (UInt8 ×Bt)} (h:wL w base bs m l) (c:UInt8) (u:Bt) (hl:l.lookup c=none) {w':World} (hb:Below w.heap.size w w') {k:Nat}
  (hlt:w.heap.size<w'.heap.size) (hc:∀(j:Nat) (hj:j<u.length),w'.cell? ⟨w.heap.size,j,none⟩=some (.int .u8 (u[j].toNat:Int))):
  wL (w'.setCell ⟨bs,c.toNat,none⟩ (.slice (some ⟨w.heap.size,0,none⟩) u.length k)) base bs m (l++[(c,u)]):=by
 have h':=h.below hb;obtain⟨cs0,tr0,g1, _,g3,g4, _, _, _⟩:=h;have hbs:bs<w.heap.size:=block_lt g1;obtain⟨cs,tr,h1,h2,h3,h4,h5,h6,h7⟩:=h';have hsame:some (Obj.cells cs 293 (0,0))=some (Obj.cells cs0 293 (0,0)):=by rw [←h1, ←g1,hb.block bs hbs]
 injection hsame with hsame;injection hsame with hsame;subst hsame;rw [h3]at g3;injection g3 with g3;subst g3;have hcl:=c.toNat_lt;have ht:=ay w' bs c.toNat (.slice (some ⟨w.heap.size,0,none⟩) u.length k);refine⟨cs.setIfInBounds c.toNat (.slice (some ⟨w.heap.size,0,none⟩) u.length k),tr,heap_setCell_same w' bs c.toNat _ _ _ h1,by simp [h2], ?_,h4.turn ht (fun g hg h=>h6 (by rw [hg,h])),h5,h6,fun d=> ?_⟩
 ·rw [Array.getElem?_setIfInBounds_ne (by omega)];exact h3
 ·have hd:=d.toNat_lt;rw [List.lookup_append];by_cases hcd:d=c
  ·subst hcd;rw [hl];have:List.lookup d [(d,u)]=some u:=by simp [List.lookup]
   rw [this];constructor
   ·intro h;simp at h
   intro u' hu';simp at hu';subst hu';refine⟨w.heap.size,k, ?_,by omega,by simp only [World.size_setCell];exact hlt,by omega,fun h=> ?_,fun j hj=> ?_⟩
   ·rw [Array.getElem?_setIfInBounds_self];simp [h2];omega
   ·have:=(g4.lt _ h).2;omega
   ·rw [World.cell?_setCell_other _ _ _ _ (by intro h;have:=congrArg Addr.block h;simp at this;omega)];exact hc j hj
  ·have hdc:(d==c)=false:=by rw [beq_eq_false_iff_ne];exact hcd
   have hno:List.lookup d [(c,u)]=none:=by simp [List.lookup,hdc]
   rw [hno,Option.or_none];have hcs':(cs.setIfInBounds c.toNat (.slice (some ⟨w.heap.size,0,none⟩) u.length k))[d.toNat]? =cs[d.toNat]? :=by
    rw [Array.getElem?_setIfInBounds_ne (by intro h;exact hcd (UInt8.toNat_inj.1 h.symm))]
   rw [hcs'];refine⟨(h7 d).1,fun u' hu'=> ?_⟩;obtain⟨g,k',a1,a0,a2,a3,a4,a7⟩:=(h7 d).2 u' hu';refine⟨g,k',a1,a0,by simp only [World.size_setCell];exact a2,a3,a4,fun j hj=> ?_⟩;rw [World.cell?_setCell_other _ _ _ _ (by intro h;have:=congrArg Addr.block h;simp at this;omega)];exact a7 j hj
theorem wL.turn {w w':World} {base bs b:Nat} {m:List Bt} {l:List (UInt8 ×Bt)} (h:wL w base bs m l) (ht:Turn (fun k=>k=b) w w') (hb:b<base):wL w' base bs m l:=by
 obtain⟨cs,tr,h1,h2,h3,h4,h5,h6,h7⟩:=h;refine⟨cs,tr,(ht.block (block_lt h1) (by omega)).trans h1,h2,h3,h4.turn ht (fun g hg h=>by have:=(h4.lt g hg).1;omega),h5,h6,fun c=>⟨(h7 c).1,fun u hu=> ?_⟩⟩;obtain⟨g,k,a1,a0,a2,a3,a4,a7⟩:=(h7 c).2 u hu;refine⟨g,k,a1,a0,Nat.lt_of_lt_of_le a2 ht.size,a3,a4,fun j hj=> ?_⟩;have:w'.cell? ⟨g,j,none⟩=w.cell? ⟨g,j,none⟩:=by simp only [World.cell?,ht.block a2 (show ¬g=b by omega)]
 rw [this];exact a7 j hj
mutual
def l8:cZ→Nat
 | .mk _ _ _ ks=>1+fG ks
def fG:List cZ→Nat
 | []=>0
 | t :: l=>l8 t+fG l
end
mutual
def gI:bT→Nat
 | .mk _ _ _ _ _ ts _ ks=>1+fG ts+iW ks
def iW:List bT→Nat
 | []=>0
 | t :: l=>gI t+iW l
end
theorem In64.itoa {n:Int} (h:0≤n∧n≤9223372036854775807):(Lib.itoa n).length≤40:=by
 have:=Lib.itoa_length_le n (by omega) (by omega);omega
end Go.Proofs.YtmbppnbekkbibaaGreatDoor
