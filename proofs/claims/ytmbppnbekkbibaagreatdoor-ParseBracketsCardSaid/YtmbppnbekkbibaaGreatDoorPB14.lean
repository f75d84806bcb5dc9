/- RV, PT, HJ -/
import Derived.Test.YtmbppnbekkbibaaGreatDoorPB13
import Derived.Test.YtmbppnbekkbibaaGreatDoorPB01
import Derived.Recover
set_option linter.unusedSimpArgs false
set_option linter.unusedVariables false
section
set_option linter.unusedVariables false
namespace Go.Proofs.YtmbppnbekkbibaaGreatDoor
def Rj (k:Nat) (i:pO):pO:={ i with line:=i.line+k}
def MQ (k:Nat) (d:kg):kg:={ d with line:=d.line+k,body:=yV k d.body}
def YQ (k:Nat) (m:tO):tO:=⟨m.imps.map (Rj k),m.decls.map (MQ k)⟩
section
variable {k:Nat} {E x:aF} (hE:E.kind=0) (hx:x.kind=0) {u:List aF}
include hE hx
theorem aC.Qt:(∀u,aC k False E [x] Tm (bg 100).typ (bg 100).typ u)∧(∀u,aC k False E [x] (AZ k) (bg 100).expr (bg 100).expr u):=by
 have h:=aC.xA (k:=k) hE ⟨x,[],rfl, .inl hx⟩ 100 100 (Nat.le_refl _)
 have e:(100<100)=False:=by simp
 rw [e]at h
 exact⟨h.1,h.2.1⟩
theorem aC.var:aC k False E [x] (fun a b _=>b=a) wZ wZ u:=by
 have hX:yu [x]:=⟨x,[],rfl, .inl hx⟩
 refine(aC.name hE).then_ fun a b v hv e=> ?_
 subst e
 refine(aC.has hE hX (by decide)).then_ fun c b v hv ⟨e,h⟩=> ?_
 subst e
 cases c
 ·exact .ret rfl
 ·exact((aC.Qt hE hx).1 _).then_ fun a b v hv e=>by subst e;exact .ret rfl
theorem aC.vars:aC k False E [x] (fun a b _=>b=a) oI oI u:=by
 have hX:yu [x]:=⟨x,[],rfl, .inl hx⟩
 refine(aC.has hE hX (by decide)).then_ fun c b v hv ⟨e,h⟩=> ?_
 subst e
 cases c
 ·exact .ret rfl
 ·refine(aC.sep (Q:=fun a b=>b=a) hE hX fun u=>aC.var hE hx).then_ fun a b v hv h=> ?_
  obtain rfl:=AY h.1 h.2
  exact(aC.want hE).then_ fun _ _ v _ _=> .ret rfl
theorem aC.import_ (t:aF):aC k False E [x] (fun a b _=>b=Rj k a) (kC t) (kC (rE k t)) u:=by
 have hX:yu [x]:=⟨x,[],rfl, .inl hx⟩
 refine(aC.name hE).then_ fun a b v hv e=> ?_
 subst e
 refine(aC.want hE).then_ fun _ _ v _ _=>(aC.sep (Q:=fun a b=>b=a) hE hX fun u=>(aC.name hE).mono fun _ _ _ e=>e.symm).then_ fun a b v hv h=> ?_
 obtain rfl:=AY h.1 h.2
 exact(aC.want hE).then_ fun _ _ v _ _=> .ret (by simp [Rj,rE])
theorem aC.decl:aC k False E [x] (fun a b v=>b=MQ k a∧v.length<u.length) nY nY u:=by
 have hX:yu [x]:=⟨x,[],rfl, .inl hx⟩
 refine(aC.has hE hX (by decide)).then_ fun c b v0 hv0 ⟨e, _⟩=> ?_
 subst e
 refine aC.here.then_ fun h h' v hv ⟨e,h1⟩=> ?_
 subst e
 refine(aC.want hE).then_ fun _ _ v1 _ ⟨t,ht⟩=> ?_
 obtain⟨rfl,rfl⟩:=h1 _ _ ht
 have hlt:v1.length<u.length:=by have:=iD hv0;rw [ht]at this;simp at this;omega
 refine(aC.name hE).then_ fun a b v2 hv2 e=> ?_
 subst e
 refine(aC.vars hE hx).then_ fun a b v3 hv3 e=> ?_
 subst e
 refine(aC.head hE hX (aC.Qt hE hx).1 _).then_ fun a b v4 hv4 e=> ?_
 subst e
 refine(aC.want hE).then_ fun _ _ v5 hv5 _=>((aC.Qt hE hx).2 _).then_ fun a b v6 hv6 e=> ?_
 subst e
 refine(aC.want hE).then_ fun _ _ v7 hv7 _=> .ret ⟨by simp [MQ,rE], ?_⟩
 have:=iD hv2;have:=iD hv3;have:=iD hv4;have:=iD hv5;have:=iD hv6;have:=iD hv7
 omega
theorem aC.imps (n:Nat):∀(u:List aF) (f g:Nat) (l:List pO),u.length≤n→u.length<f→u.length<g→
  aC k False E [x] (fun a b _=>b=a.map (Rj k)) (lX f l) (lX g (l.map (Rj k))) u:=by
 have hX:yu [x]:=⟨x,[],rfl, .inl hx⟩
 induction n with
 | zero=>
  intro u f g l hn hf hg
  obtain⟨f,rfl⟩:∃f',f=f'+1:=⟨f - 1,by omega⟩
  obtain⟨g,rfl⟩:∃f',g=f'+1:=⟨g - 1,by omega⟩
  refine aC.here.then_ fun a b v hv ⟨e,h1⟩=> ?_
  subst e
  refine(aC.has hE hX (by decide)).then_ fun a b v hv ⟨e,h⟩=> ?_
  subst e
  rcases h with⟨rfl,rfl⟩ | ⟨t,rfl,rfl⟩
  ·exact .ret rfl
  ·simp at hn
 | succ n ih=>
  intro u f g l hn hf hg
  obtain⟨f,rfl⟩:∃f',f=f'+1:=⟨f - 1,by omega⟩
  obtain⟨g,rfl⟩:∃f',g=f'+1:=⟨g - 1,by omega⟩
  refine aC.here.then_ fun a b v hv ⟨e,h1⟩=> ?_
  subst e
  refine(aC.has hE hX (by decide)).then_ fun a b v hv ⟨e,h⟩=> ?_
  subst e
  rcases h with⟨rfl,rfl⟩ | ⟨t,rfl,rfl⟩
  ·exact .ret rfl
  ·obtain⟨rfl,rfl⟩:=h1 t v rfl
   refine(aC.import_ hE hx _).then_ fun a b v2 hv2 hab=> ?_
   subst hab
   have:=iD hv2
   simp only [List.length_cons]at hn hf hg
   have h:=ih v2 f g (l++[a]) (by omega) (by omega) (by omega)
   rwa [List.map_append]at h
theorem aC.decls (n:Nat):∀(u:List aF) (f g:Nat) (l:List kg),Wf (u++[E])→u.length≤n→u.length<f→u.length<g→
  aC k False E [x] (fun a b _=>b=a.map (MQ k)) (fE f l) (fE g (l.map (MQ k))) u:=by
 induction n with
 | zero=>
  intro u f g l hw hn hf hg
  obtain⟨f,rfl⟩:∃f',f=f'+1:=⟨f - 1,by omega⟩
  obtain⟨g,rfl⟩:∃f',g=f'+1:=⟨g - 1,by omega⟩
  obtain rfl:u=[]:=List.eq_nil_of_length_eq_zero (by omega)
  have e1:fE (f+1) l [E]= .good l [E]:=by unfold fE;rw [aj (show jF (fun t _=>t.kind==0) [E]= .good (E.kind==0) [E]from rfl),hE];rfl
  have e2:fE (g+1) (l.map (MQ k)) [x]= .good (l.map (MQ k)) [x]:=by unfold fE;rw [aj (show jF (fun t _=>t.kind==0) [x]= .good (x.kind==0) [x]from rfl),hx];rfl
  intro a r h
  rw [List.nil_append,e1]at h
  injection h with h1 h2
  subst h1 h2
  exact .inl ⟨[], _,rfl,List.suffix_refl _,e2,rfl⟩
 | succ n ih=>
  intro u f g l hw hn hf hg
  obtain⟨f,rfl⟩:∃f',f=f'+1:=⟨f - 1,by omega⟩
  obtain⟨g,rfl⟩:∃f',g=f'+1:=⟨g - 1,by omega⟩
  cases u with
  | nil=>
   have e1:fE (f+1) l [E]= .good l [E]:=by unfold fE;rw [aj (show jF (fun t _=>t.kind==0) [E]= .good (E.kind==0) [E]from rfl),hE];rfl
   have e2:fE (g+1) (l.map (MQ k)) [x]= .good (l.map (MQ k)) [x]:=by unfold fE;rw [aj (show jF (fun t _=>t.kind==0) [x]= .good (x.kind==0) [x]from rfl),hx];rfl
   intro a r h
   rw [List.nil_append,e1]at h
   injection h with h1 h2
   subst h1 h2
   exact .inl ⟨[], _,rfl,List.suffix_refl _,e2,rfl⟩
  | cons t u=>
   have ht:t.kind≠0:=by
    rcases hw.cases with⟨e,he, _⟩ | ⟨t',r,he,h1, _⟩
    ·simp at he
    ·injection he with he _;rw [he];exact h1
   intro a r h
   unfold fE at h ⊢
   rw [aj (show jF (fun t _=>t.kind==0) (t :: u++[E])= .good (t.kind==0) (t :: u++[E])from rfl),beq_false_of_ne ht]at h
   rw [aj (show jF (fun t _=>t.kind==0) ((t :: u).map (rE k)++[x])= .good (t.kind==0) ((t :: u).map (rE k)++[x])from rfl),beq_false_of_ne ht]
   simp only [Bool.false_eq_true,if_false]at h ⊢
   rcases hp:nY (t :: u++[E])with d | ⟨d,r1⟩
   ·rw [aB hp]at h;cases h
   ·obtain⟨hr1, _⟩:=Sf.decl.good hw hp
    rw [aj hp]at h
    rcases aC.decl (k:=k) hE hx (u:=t :: u) d r1 hp with⟨v,b,rfl,hv,hq,rfl,hlt⟩ | ⟨hD, _⟩
    ·have:=ih v f g (l++[d]) hr1 (by simp only [List.length_cons]at*;omega) (by simp only [List.length_cons]at*;omega) (by simp only [List.length_cons]at*;omega)
     rcases this a r h with⟨v2,b2,e1,e2,e3,e4⟩ | ⟨hD, _⟩
     ·refine .inl ⟨v2,b2,e1,e2.trans hv, ?_,e4⟩
      rw [aj hq]
      rw [List.map_append]at e3
      exact e3
     ·exact hD.elim
    ·exact hD.elim
theorem aC.module (hw:Wf (u++[E])):aC k False E [x] (fun a b _=>b=YQ k a) dG dG u:=by
 have hX:yu [x]:=⟨x,[],rfl, .inl hx⟩
 intro a r h
 unfold dG at h ⊢
 rcases hp:FU (u++[E])with d | ⟨i,r1⟩
 ·rw [aB hp]at h;cases h
 ·obtain⟨hr1, _⟩:=(Sf.fuel (p:=fun ts=>lX ts.length []) fun ts=>Sf.imps _ _).good hw hp
  rw [aj hp]at h
  rcases(aC.fuel (p:=fun n=>lX n []) (q:=fun n=>lX n []) (fun f g hf hg=>aC.imps (k:=k) hE hx u.length u f g [] (Nat.le_refl _) hf hg) hX) i r1 hp with⟨v,b,rfl,hv,hq,rfl⟩ | ⟨hD, _⟩
  ·have h3:=(aC.fuel (p:=fun n=>fE n []) (q:=fun n=>fE n []) (fun f g hf hg=>aC.decls (k:=k) hE hx v.length v f g [] hr1 (Nat.le_refl _) hf hg) hX).then_ (f:=fun d=>aG (tO.mk i d)) (g:=fun d=>aG (tO.mk (i.map (Rj k)) d)) (S:=fun a b _=>b=YQ k a) (fun a b w hw e=>by subst e;exact .ret rfl)
   rcases h3 a r h with⟨v2,b2,e1,e2,e3,e4⟩ | ⟨hD, _⟩
   ·refine .inl ⟨v2,b2,e1,e2.trans hv, ?_,e4⟩
    rw [aj (show FU _= _ from hq)]
    exact e3
   ·exact hD.elim
  ·exact hD.elim
end
theorem Fw {α:Type} {p:Ps α} (hp:Sf p) {s:Bt} {d:vQ} (h:aZ p s=(none,d)):((dQ s).2.2.2≠0∧d=(dQ s).2)∨(dQ s).2=(0,0,0)∧(∃t∈(dQ s).1,d.1=t.line∧d.2.1=t.col)∧(d.2.2=6∨d.2.2=7):=by
 unfold aZ at h
 by_cases h0:(dQ s).2.2.2=0
 ·right
  rw [if_pos h0]at h
  have hz:(dQ s).2=(0,0,0):=pX h0
  obtain⟨m,e,h1,h2,h3,h4,h5⟩:=wR (l:=(dQ s).1) (by rw [←hz])
  refine⟨hz, ?_⟩
  have h6:=(hp.then_ fun x=>(Sf.kind 0).then_ fun _=>Sf.ret x) (dQ s).1 h5
  rcases hq:au p (fun x=>au (dH 0) fun _=>aG x) (dQ s).1 with d' | ⟨x,r⟩
  ·rw [hq]at h h6
   injection h with _ h
   subst h
   exact h6
  ·rw [hq]at h;cases h
 ·left
  rw [if_neg h0]at h
  injection h with _ h
  exact⟨h0,h.symm⟩
end Go.Proofs.YtmbppnbekkbibaaGreatDoor
end
section
set_option linter.unusedVariables false
namespace Go.Proofs.YtmbppnbekkbibaaGreatDoor
theorem Db:∀(f:Nat) (s:Bt) (p:Nat ×Nat) (out:List aF),out.length≤8192→(fC f s p out).1.length≤8193
 | 0,s,p,out,h=>by simp [fC]
 | f+1,s,p,out,h=>by
  rw [fC]
  split
  ·simp;omega
  ·split
   ·simp
   ·split
    ·simp
    ·rename_i h8
     exact Db f _ _ _ (by simp;omega)
theorem KV (s:Bt):(dQ s).1.length≤8193:=by
 unfold dQ
 split
 ·simp
 ·exact Db _ _ _ _ (by simp)
end Go.Proofs.YtmbppnbekkbibaaGreatDoor
end
section
set_option linter.unusedVariables false
namespace Go.Proofs.YtmbppnbekkbibaaGreatDoor
open Go.RowKit
theorem KW {s:Bt} {kd:Int} {t:Bt} {n:Nat} (h:eF s= .inr (kd,t,n)):t.length≤s.length+256:=by
 cases s with
 | nil=>simp [eF]at h
 | cons c r=>
  rw [eF]at h
  split at h
  ·split at h
   ·cases h
   ·split at h
    ·injection h with h;simp only [Prod.mk.injEq]at h;rw [←h.2.1,List.length_take];omega
    ·injection h with h;simp only [Prod.mk.injEq]at h;rw [←h.2.1,List.length_take];omega
  ·split at h
   ·split at h
    ·injection h with h;simp only [Prod.mk.injEq]at h;rw [←h.2.1,List.length_take];omega
    ·cases h
   ·split at h
    ·split at h
     ·cases h
     ·split at h
      ·cases h
      ·injection h with h;simp only [Prod.mk.injEq]at h;rw [←h.2.1];omega
    ·split at h
     ·injection h with h;simp only [Prod.mk.injEq]at h;rw [←h.2.1,List.length_take];omega
     ·split at h
      ·injection h with h;simp only [Prod.mk.injEq]at h;rw [←h.2.1];simp
      ·cases h
theorem Gr (M:Nat):∀(f:Nat) (s:Bt) (p:Nat ×Nat) (out:List aF),s.length+256≤M→(∀t∈out,t.text.length≤M)→∀t∈(fC f s p out).1,t.text.length≤M
 | 0,s,p,out,hs,ho=>fun t ht=>by cases ht
 | f+1,s,p,out,hs,ho=>by
  rw [fC]
  split
  ·intro t ht
   rcases List.mem_append.1 ht with ht | ht
   ·exact ho t ht
   ·simp only [List.mem_singleton]at ht;subst ht;simp
  ·split
   ·intro t ht;cases ht
   ·rename_i kd t n hn
    split
    ·intro t ht;cases ht
    ·refine Gr M f _ _ _ (by simp only [List.length_drop];omega) fun x hx=> ?_
     rcases List.mem_append.1 hx with hx | hx
     ·exact ho x hx
     ·simp only [List.mem_singleton]at hx
      subst hx
      have:=KW hn
      simp only [List.length_drop]at this
      show t.length≤M
      omega
theorem Bd {s:Bt} (h:(dQ s).2.2.2=0):H7 (dQ s).1∧Wf (dQ s).1:=by
 have hz:=pX h
 obtain⟨m,e,h1,h2,h3,h4,h5⟩:=wR (s:=s) (l:=(dQ s).1) (by rw [←hz])
 refine⟨⟨KV s, ?_⟩,h5⟩
 by_cases hs:65536<s.length
 ·have:(dQ s).1=[]:=by unfold dQ;rw [if_pos hs]
  rw [this];simp
 ·unfold dQ
  rw [if_neg hs]
  exact Gr 100000 _ s _ _ (by omega) (by simp)
abbrev tC (d:vQ):Value:= .agg #[.int .i64 0, .int .i64 (d.1:Nat), .int .i64 (d.2.1:Nat), .int .i64 d.2.2]
abbrev MR (d:vQ):Array Value:= #[.int .i64 0, .int .i64 (d.1:Nat), .int .i64 (d.2.1:Nat), .int .i64 d.2.2]
theorem j6 {P:Program} {fn:Func} {R:Ending→World→Prop} {t0 t1:Tmp} {T0 T1:TypeId} {dst:Option Tmp} {v:Value} (hr:fn.results= #[.cell t0 T0, .cell t1 T1]) (hd:dst≠some t0) (hd1:dst≠some t1) (c:List PanicEntry) (a:Act) (w:World) (h:bodyPostD P fn R (.panic c) (a.put dst v) w):bodyPostD P fn R (.panic c) a w:=by
 cases dst with
 | none=>exact h
 | some d=>
  have hne:d≠t0:=fun e=>hd (by rw [e])
  have hne1:d≠t1:=fun e=>hd1 (by rw [e])
  have e:results fn (a.tmps.setIfInBounds d v)=results fn a.tmps:=by
   simp [results,hr,Array.getElem?_setIfInBounds_ne hne,Array.getElem?_setIfInBounds_ne hne1]
  exact l8 e a.defers _ _ h
theorem cK {P:Program} {fn:Func} {t u:Tmp} {T U:TypeId} {tmps:Array Value} {w:World} {b b':Nat} {cs cs':Array Value} {S S':TypeId} {d d':TypeDesc} (h:fn.results= #[.cell t T, .cell u U]) (ht:tmps.getD t undef= .pointer (some ⟨b,0,none⟩)) (hu':tmps.getD u undef= .pointer (some ⟨b',0,none⟩)) (hb:w.heap[b]? =some (.cells cs S (0,0))) (hb':w.heap[b']? =some (.cells cs' S' (0,0)))
  (hu:P.underlying T=some d) (hd:(match d with | .struct _ | .array _ _=>true | _=>false)=true) (hi:(P.info? T).map (·.size)=some cs.size)
  (hU:P.underlying U=some d') (hd':(match d' with | .struct _ | .array _ _=>true | _=>false)=true) (hi':(P.info? U).map (·.size)=some cs'.size):(results fn tmps).run P w= .ok (.tuple #[.agg cs, .agg cs']) w:=by
 have h1:=run_loadVar_row (P:=P) w b S T cs (0,0) d hb hu hd hi
 have h3:=run_loadVar_row (P:=P) w b' S' U cs' (0,0) d' hb' hU hd' hi'
 have e:tmps[t]?.getD undef= .pointer (some ⟨b,0,none⟩):=by simpa using ht
 have e':tmps[u]?.getD undef= .pointer (some ⟨b',0,none⟩):=by simpa using hu'
 have h2:(asAddr (.pointer (some ⟨b,0,none⟩))).run P w= .ok ⟨b,0,none⟩ w:=rfl
 have h2':(asAddr (.pointer (some ⟨b',0,none⟩))).run P w= .ok ⟨b',0,none⟩ w:=rfl
 simp [results,h,e,e',h1,h2,h2',h3]
def Fx {α:Type} (q:Pr α):Option α ×vQ:=match q with
 | .bad d=>(none,d)
 | .good x _=>(some x,(0,0,0))
theorem uG {α:Type} {p:Ps α} {s:Bt} {T:List aF} (h:dQ s=(T,((0,0,0):Nat ×Nat ×Int))):aZ p s=Fx (au p (fun x=>au (dH 0) fun _=>aG x) T):=by
 unfold aZ
 rw [h]
 rw [if_pos rfl]
 rcases hq:au p (fun x=>au (dH 0) fun _=>aG x) T with g | ⟨x,r⟩ <;> simp only [hq] <;> rfl
def pq {α:Type} (p:Ps α) (s:Bt) (zero:α):α:=(aZ p s).1.getD zero
def vG:tO:=⟨[],[]⟩
def pE:bD:= .mk 0 [] 0 0 0 [] [] []
def vH:bO:= .mk 0 [] [] []
set_option maxRecDepth 100000 in
set_option maxHeartbeats 4000000 in
theorem KX (p q:Addr) (w:World):
  CallsD Tryz.prog 73 #[.pointer (some p), .pointer (some q)] .returning w fun e u' w'=>e= .returned (.tuple #[])∧u'= .returning∧w'=w:=by
 refine callsD_of_wpS Tryz.func73 rfl fun c₀ cs hu=> ?_
 apply wpS_seq
 apply wpS_region
 simp [wpOpsS,go_sem,recoverD,hu,Tryz.ntmps73,Exit.thenS]
 refine wpS_of_wp ?_
 change Code.wp _ _ _ { tmps:= #[.pointer (some p), .pointer (some q), .nilIface,undef,undef,undef, .nilIface,undef,undef,undef,undef,undef,undef,undef,undef,undef,undef,undef,undef,undef],defers:=[]} w
 go_wp2
 exact⟨rfl, .returning,by rw [←hu], .tuple #[],results_none rfl _ _ _,rfl,rfl,rfl⟩
set_option maxRecDepth 100000 in
set_option maxHeartbeats 4000000 in
theorem zT (pb qb:Nat) (hne:pb≠qb) (g:vQ) (older:List PanicEntry) (w:World) {a0 a1:Value} (hp:w.heap[pb]? =some (.cells #[a0,a1] 40 (0,0))) (hq:w.heap[qb]? =some (.cells #[.int .i64 0, .int .i64 0, .int .i64 0, .int .i64 0] 55 (0,0))):
  CallsD Tryz.prog 73 #[.pointer (some ⟨pb,0,none⟩), .pointer (some ⟨qb,0,none⟩)] (.panicking ({ v:= .iface 135 (tC g),recovered:=false} :: older)) w fun e u' w'=>e= .returned (.tuple #[])∧u'= .panicking ({ v:= .iface 135 (tC g),recovered:=true} :: older)∧
   Turn (fun k=>k=pb∨k=qb) w w'∧w'.heap[pb]? =some (.cells #[.slice none 0 0, .slice none 0 0] 40 (0,0))∧w'.heap[qb]? =some (.cells (MR g) 55 (0,0)):=by
 have YR:∀w:World,(Instr.typeAssert (.iface 135 (tC g)) 20 135 true).run Tryz.prog w= .ok (.tuple #[tC g, .bool true]) w:=fun _=>by kernel_rfl
 have hpl:=block_lt hp
 have YS:=block_lt hq
 have HP:=hid hp
 have HQ:=hid hq
 clear hp hq
 refine callsD_of_wpS Tryz.func73 rfl fun c₀ cs hu=> ?_
 apply wpS_seq
 apply wpS_region
 simp [wpOpsS,go_sem,recoverD,hu,Tryz.ntmps73,Exit.thenS]
 refine wpS_of_wp ?_
 change Code.wp _ _ _ { tmps:= #[.pointer (some ⟨pb,0,none⟩), .pointer (some ⟨qb,0,none⟩), .iface 135 (tC g),undef,undef,undef, .iface 135 (tC g),undef,undef,undef,undef,undef,undef,undef,undef,undef,undef,undef,undef,undef],defers:=[]} w
 obtain⟨W2,hW2⟩:∃W2,(w.alloc (.cells (MR g) 135)).alloc (.cells #[.slice none 0 0, .slice none 0 0] 40)=W2:=⟨_,rfl⟩
 have hs2:W2.heap.size=w.heap.size+2:=by rw [←hW2];simp
 obtain⟨tw, _,hbb,hzb⟩:=fZ (G:=fun _=>False) (Turn.refl _ ((w.alloc (.cells (MR g) 135)).alloc (.cells #[.slice none 0 0, .slice none 0 0] 40)))
 rw [hW2]at tw hbb hzb
 have HW2:=hid hW2
 have hp2:=ah HP.out tw id
 have hq2:=ah HQ.out tw id
 have Cu:=hid hp2
 have jU:=hid hq2
 have Iy:=hid tw
 obtain⟨b0,b1,b2,b3,bz⟩:=bK (hbb id)
 have hz2:=hzb id
 have HZ2:=hid hz2
 clear hW2 tw hbb hzb
 go_wp2_with fail
 rw [HW2.out]
 have HD0:Hid (Turn (fun j=>j=pb∨j=qb) W2 W2.drew):=hid ⟨rfl,rfl,rfl,Nat.le_refl _,fun _ _ _=>rfl⟩
 have PZ:=hid (fun(w':World) (h:Turn (fun j=>j=pb∨j=qb) W2 w')=>(⟨aI ((cell_of_row _ _ 0 _ _ _ hz2).trans rfl) h (by omega),aI ((cell_of_row _ _ 1 _ _ _ hz2).trans rfl) h (by omega)⟩:w'.cell? ⟨w.heap.size+1,0,none⟩=some (.slice none 0 0)∧w'.cell? ⟨w.heap.size+1,1,none⟩=some (.slice none 0 0)))
 have PB:=hid (fun(w':World) (h:Turn (fun j=>j=pb∨j=qb) W2 w')=>(⟨aI b0 h (by omega),aI b1 h (by omega),aI b2 h (by omega),aI b3 h (by omega)⟩:w'.cell? ⟨w.heap.size,0,none⟩=some (.int .i64 0)∧w'.cell? ⟨w.heap.size,1,none⟩=some (.int .i64 (g.1:Nat))∧w'.cell? ⟨w.heap.size,2,none⟩=some (.int .i64 (g.2.1:Nat))∧w'.cell? ⟨w.heap.size,3,none⟩=some (.int .i64 g.2.2)))
 clear hz2 b0 b1 b2 b3 bz
 refine bM (S:=fun w'=>Turn (fun j=>j=pb∨j=qb) W2 w') (x:=4) (by kernel_rfl) ?_
 try simp only [Act.put,List.getElem_toArray,List.getElem_cons_zero,List.getElem_cons_succ,List.setIfInBounds_toArray,List.set_cons_zero,List.set_cons_succ]
 refine jW 0 (.agg #[.slice none 0 0, .slice none 0 0]) PZ.out HD0.out ?_
 refine tx 1 (.pointer (some ⟨w.heap.size,0,none⟩)) HD0.out ?_
 refine jW 2 (tC g) PB.out HD0.out ?_
 have lG:∀X:World,X.drew.heap=X.heap:=fun _=>rfl
 have hdr:∀(G:Nat→Prop) (X:World),Turn G X X.drew:=fun _ _=>⟨rfl,rfl,rfl,Nat.le_refl _,fun _ _ _=>rfl⟩
 have tA:=((ak W2 (pb) 0 (.slice none 0 0)).trans (ak _ (pb) 1 (.slice none 0 0)) (fun _ _ h=>h))
 have NY:((W2.setCell ⟨pb,0,none⟩ (.slice none 0 0)).setCell ⟨pb,1,none⟩ (.slice none 0 0)).heap[pb]? =some (.cells #[.slice none 0 0, .slice none 0 0] 40 (0,0)):=(heap_setCell_same _ _ 1 _ _ (.slice none 0 0) (heap_setCell_same _ _ 0 _ _ (.slice none 0 0) Cu.out))
 have NZ:=ah jU.out tA (fun e=>hne e.symm)
 have EU:=hid (tA.mono (G:=fun k=>k=pb∨k=qb) (fun _ _ h=> .inl h))
 have om:=hid (EU.out.trans (hdr (fun k=>k=pb∨k=qb) _) (fun _ _ h=>h))
 have Tp:=hid NY
 have Jh:=hid NZ
 have p0:W2.cell? ⟨pb,0,none⟩=some a0:=(cell_of_row _ _ 0 _ _ _ hp2).trans rfl
 have p1:W2.cell? ⟨pb,1,none⟩=some a1:=(cell_of_row _ _ 1 _ _ _ hp2).trans rfl
 have pz:∀i,W2.frozen? ⟨pb,i,none⟩=false:=fun i=>frozen_of_row _ _ _ _ _ hp2
 have q0:W2.cell? ⟨qb,0,none⟩=some (.int .i64 0):=(cell_of_row _ _ 0 _ _ _ hq2).trans rfl
 have q1:W2.cell? ⟨qb,1,none⟩=some (.int .i64 0):=(cell_of_row _ _ 1 _ _ _ hq2).trans rfl
 have q2:W2.cell? ⟨qb,2,none⟩=some (.int .i64 0):=(cell_of_row _ _ 2 _ _ _ hq2).trans rfl
 have q3:W2.cell? ⟨qb,3,none⟩=some (.int .i64 0):=(cell_of_row _ _ 3 _ _ _ hq2).trans rfl
 have qz:∀i,W2.frozen? ⟨qb,i,none⟩=false:=fun i=>frozen_of_row _ _ _ _ _ hq2
 have hne':¬qb=pb:=fun e=>hne e.symm
 clear tA NY NZ hp2 hq2
 refine ay (rs:=[3]) (by kernel_rfl) (by simp) ?_
 refine av.cons rfl (fun K hK=> ?_) (av.nil)
 go_simp
 refine hK.out _ _ om.out ?_
 clear hK K
 try simp only [Act.put,List.getElem_toArray,List.getElem_cons_zero,List.getElem_cons_succ,List.setIfInBounds_toArray,List.set_cons_zero,List.set_cons_succ]
 refine ay (rs:=[4]) (by kernel_rfl) (by simp) ?_
 refine av.past rfl (by kernel_rfl) (fun K hK=> ?_) (av.nil)
 go_simp
 refine hK.out _ _ ?_
 clear hK K
 try simp only [Act.put,List.getElem_toArray,List.getElem_cons_zero,List.getElem_cons_succ,List.setIfInBounds_toArray,List.set_cons_zero,List.set_cons_succ]
 refine aO (by kernel_rfl) ?_ _
 go_wp2_with fail
 have tB:=((((ak ((W2.setCell ⟨pb,0,none⟩ (.slice none 0 0)).setCell ⟨pb,1,none⟩ (.slice none 0 0)) (qb) 0 (.int .i64 0)).trans (ak _ (qb) 1 (.int .i64 (g.1:Nat))) (fun _ _ h=>h)).trans (ak _ (qb) 2 (.int .i64 (g.2.1:Nat))) (fun _ _ h=>h)).trans (ak _ (qb) 3 (.int .i64 g.2.2)) (fun _ _ h=>h))
 have h1:=(Iy.out.mono (G:=fun k=>k=pb∨k=qb) (fun _ _ h=>h.elim)).trans ((EU.out.trans tB (fun _ _ h=> .inr h)).trans (hdr (fun k=>k=pb∨k=qb) _) (fun _ _ h=>h)) (fun _ _ h=>h)
 have h2:=ah Tp.out tB hne
 have h3:=(aV (b:=qb) Jh.out (.int .i64 0) (.int .i64 (g.1:Nat)) (.int .i64 (g.2.1:Nat)) (.int .i64 g.2.2))
 refine⟨rfl, _,rfl, .tuple #[],results_none rfl _ _ _,rfl,rfl,h1, ?_, ?_⟩
 ·rw [lG];exact h2
 ·rw [lG];exact h3
set_option maxRecDepth 100000 in
set_option maxHeartbeats 8000000 in
theorem MS (w:World) (s:Bt) (hX:jH w):Calls Tryz.prog 43 #[sv s, .func (.func 44) #[] #[]] w fun e w'=>Below w.heap.size w w'∧∃z:List Value,e= .returned (.tuple #[.agg z.toArray,tC (aZ dG s).2])∧Gj w' (fun j=>w.heap.size≤j) z (pq dG s vG):=by
 have LZ:∀(fn:Fn) (first cap:Array Value) (w:World),(Instr.makeFunc fn first cap).run Tryz.prog w= .ok (.func fn first cap) w:=fun _ _ _ _=>rfl
 have hent:∀w:World,(callFunc 44 #[]).run Tryz.prog w= .ok (.enter 44 #[]) w:=fun _=>by kernel_rfl
 have lG:∀X:World,X.drew.heap=X.heap:=fun _=>rfl
 have hdr:∀(G:Nat→Prop) (X:World),Turn G X X.drew:=fun _ _=>⟨rfl,rfl,rfl,Nat.le_refl _,fun _ _ _=>rfl⟩
 obtain⟨W0,hW0⟩:∃W0,((w.alloc (.cells #[.slice none 0 0, .slice none 0 0] 40)).alloc (.cells #[.int .i64 0, .int .i64 0, .int .i64 0, .int .i64 0] 55))=W0:=⟨_,rfl⟩
 obtain⟨tw, _,hx0,hd0⟩:=fZ (G:=fun _=>False) (Turn.refl _ ((w.alloc (.cells #[.slice none 0 0, .slice none 0 0] 40)).alloc (.cells #[.int .i64 0, .int .i64 0, .int .i64 0, .int .i64 0] 55)))
 have hs0:W0.heap.size=w.heap.size+2:=by rw [←hW0];simp
 have hb0:Below w.heap.size w W0:=by rw [←hW0];exact new2 _ _ _
 rw [hW0]at tw hx0 hd0
 have hx0:=hx0 id
 have hd0:=hd0 id
 have HX0:=hid hx0
 have HD0:=hid hd0
 have HB0:=hid hb0
 have Gl:=hid ((mO.of hX.1).below hb0)
 have HL:=hid (Az W0 s (hX.below hb0))
 have HW0:=hid hW0
 obtain⟨Dg,tH⟩:∃Dg,(aZ dG s).2=Dg:=⟨_,rfl⟩
 obtain⟨V,hV⟩:∃V,pq dG s vG=V:=⟨_,rfl⟩
 rw [tH,hV]
 clear hX tw hx0 hd0 hb0 hW0
 by_cases hE:(dQ s).2.2.2=0
 ·have hz:=pX hE
  obtain⟨T,hT⟩:∃T,dQ s=(T,((0,0,0):Nat ×Nat ×Int)):=⟨(dQ s).1,by rw [←hz]⟩
  obtain⟨htk,hwf⟩:=Bd hE
  rw [hT]at HL htk hwf
  have N7:Hid (aZ dG s=Fx (au dG (fun x=>au (dH 0) fun _=>aG x) T)):=hid (uG hT)
  have KY:=hid tH
  have HV:=hid hV
  have Kh:=hid htk
  have ze:=hid hwf
  clear hE hz hT htk hwf tH hV
  go_enter_defers Tryz.func43,Tryz.ntmps43
  go_wp2_with fail
  rw [HW0.out]
  refine(HL.out).mono ?_
  rintro e w1 ⟨v1,n1,rfl,hown,hb1⟩
  obtain⟨yA,c1',rfl, _, _⟩:=jd hown
  have hs1:=hb1.size
  have hx1:=(hb1.block (w.heap.size) (by omega)).trans HX0.out
  have hd1:=(hb1.block (w.heap.size+1) (by omega)).trans HD0.out
  have HB1:=hid (HB0.out.trans (hb1.mono (by omega)))
  have Dc:=hid (Gl.out.below (hb1.mono (by omega)))
  obtain⟨x0,x1,x2,x3,xz⟩:=bK hd1
  have t1:=dx w1 (w.heap.size+1) (.int .i64 0) (.int .i64 0) (.int .i64 0) (.int .i64 0)
  have qh:=hid (ah hx1 t1 (by omega))
  have HD1:=hid (aV hd1 (.int .i64 0) (.int .i64 0) (.int .i64 0) (.int .i64 0))
  have HT1:=hid t1
  have hsp:(cB w1 (w.heap.size+1) (.int .i64 0) (.int .i64 0) (.int .i64 0) (.int .i64 0)).heap.size=w1.heap.size:=by simp [cB]
  have HOWN:=hid hown
  rw [show xI (0,0,0)= .agg #[.int .i64 0, .int .i64 0, .int .i64 0, .int .i64 0]from rfl]
  obtain⟨W2,hW2⟩:∃W2,(cB w1 (w.heap.size+1) (.int .i64 0) (.int .i64 0) (.int .i64 0) (.int .i64 0)).alloc (.cells #[.slice yA n1 c1', .int .i64 0] 140)=W2:=⟨_,rfl⟩
  have t2:Turn (fun k=>k=w.heap.size+1) w1 W2:=by rw [←hW2];exact t1.trans (Turn.alloc _ _ _) (fun _ _ h=>h)
  have hb2:=yT (cB w1 (w.heap.size+1) (.int .i64 0) (.int .i64 0) (.int .i64 0) (.int .i64 0)) (.cells #[.slice yA n1 c1', .int .i64 0] 140)
  rw [hW2,hsp]at hb2
  have hs2:W2.heap.size=w1.heap.size+1:=by rw [←hW2];simp [cB]
  have Me:=hid (by have:=bB (o':=(.cells #[.slice yA n1 c1', .int .i64 0] 140)) qh.out;rwa [hW2]at this)
  have HD2:=hid (by have:=bB (o':=(.cells #[.slice yA n1 c1', .int .i64 0] 140)) HD1.out;rwa [hW2]at this)
  have hsl:Sl W2 w1.heap.size 4 (.slice yA n1 c1') (dn T):=((dh.own (F:=fun j=>W0.heap.size≤j∧j<w1.heap.size) hown (fun g hg=>hown.lt g hg)).turn t2 (fun g _ h e=>by have:=h.1;omega)).to (fun g _ h=>h.2)
  have htb:xL w1.heap.size W2 (.slice yA n1 c1'):=fun b o n c e=>by
   injection e with e _ _
   subst e
   rcases hown.2 with⟨h, _⟩ | ⟨g,cap,cur,h,hg,N8, _⟩
   ·injection h with h;cases h
   ·injection h with h _ _
    injection h with h
    injection h with h _
    subst h
    exact⟨block_lt N8, _,ah N8 t2 (by omega)⟩
  have Df:=hid (Dc.out.below (t2.below (by omega) (fun k hk e=>by omega)))
  have HK:=hid (show bE W2 w1.heap.size w1.heap.size T 0 from⟨Nat.le_refl _,Kh.out,ze.out, _,hb2,hsl,fun w' hb'=>Df.out w' (fun k hk=>hb' k (by omega)),htb⟩)
  have HT2:=hid (HB1.out.trans (t2.below (B:=w.heap.size) (by omega) (fun k hk e=>by omega)))
  have HR:=hid (Fj W2 w1.heap.size w1.heap.size T HK.out)
  have HW2:=hid hW2
  clear hown hb1 hx1 hd1 t1 t2 hb2 hsl hW2 HOWN htb
  go_wp2_with fail
  rw [HW2.out]
  refine(HR.out).mono ?_
  rintro e w3 h3
  rcases hq:dG T with g | ⟨x,r3⟩
  ·obtain⟨rfl,tn,bn⟩:=h3.bF hq
   have vI:Hid (aZ dG s=(none,g)):=hid (by rw [N7.out,aB hq];rfl)
   have KZ:=hid (ah Me.out tn (by omega))
   have K3:=hid (ah HD2.out tn (by omega))
   have Dh:=hid (HT2.out.trans (tn.below (B:=w.heap.size) (by omega) (fun k hk e=>by omega)))
   clear h3 tn bn hq
   go_wp2_with fail
   refine leaves_cons (f:=73) (args:= #[.pointer (some ⟨w.heap.size,0,none⟩), .pointer (some ⟨w.heap.size+1,0,none⟩)]) (by simp) (by simp [go_sem]) ?_
   refine(zT w.heap.size (w.heap.size+1) (by omega) g [] _ KZ.out K3.out).mono ?_
   rintro e u9 w9 ⟨rfl,rfl,t9,p9,q9⟩
   have e1:Dg=g:=by rw [←KY.out,vI.out]
   have e2:V=vG:=by rw [←HV.out];unfold pq;rw [vI.out];rfl
   subst e1 e2
   exact⟨_,cK rfl rfl rfl p9 q9 Tryz.underlying40 rfl (by kernel_rfl) Tryz.underlying55 rfl (by kernel_rfl),Dh.out.trans (t9.below (by have:=Dh.out.size;omega) (fun k hk e=>by omega)), _,rfl,⟨_, _, _, _,rfl,dh.nil _ _ _, .nil,dh.nil _ _ _, .nil⟩⟩
  ·obtain⟨v3,rfl,tn,⟨z0,rfl,hz0⟩,kn⟩:=h3.aL hq
   have hzc:=hz0
   obtain⟨vi,xi,vd,xd,rfl,⟨A1,n1',c1,rfl, _⟩, _,⟨A2,n2,c2,rfl, _⟩, _⟩:=hzc
   have hs3:=tn.size
   have hx3:=ah Me.out tn (by omega)
   have hd3:=ah HD2.out tn (by omega)
   have t4:Turn (fun k=>k=w.heap.size) w3 ((w3.setCell ⟨w.heap.size,0,none⟩ (.slice A1 n1' c1)).setCell ⟨w.heap.size,1,none⟩ (.slice A2 n2 c2)):=((ak w3 (w.heap.size) 0 (.slice A1 n1' c1)).trans (ak _ (w.heap.size) 1 (.slice A2 n2 c2)) (fun _ _ h=>h))
   have xW:=hid ((heap_setCell_same _ _ 1 _ _ (.slice A2 n2 c2) (heap_setCell_same _ _ 0 _ _ (.slice A1 n1' c1) hx3)))
   have HD4:=hid (ah hd3 t4 (by omega))
   have K4:=hid ((Df.out.below (tn.below (by omega) (fun k hk e=>by omega))).below (t4.below (by omega) (fun k hk e=>by omega)))
   have jB:=hid (kn.apart t4 (by omega) (fun g e _=>by have e:g=w.heap.size:=e;subst e;exact⟨_, _,hx3,by decide⟩) (fun w' hb'=>K4.out w' (fun k hk=>hb' k (by omega))))
   have fM:=hid (HT2.out.trans ((tn.below (B:=w.heap.size) (by omega) (fun k hk e=>by omega)).trans (t4.below (B:=w.heap.size) (by omega) (fun k hk e=>by omega))))
   have vU:=hid (hz0.turn t4 (fun g _ h e=>by omega))
   have N9:Hid (aZ dG s=Fx (au (dH 0) (fun _=>aG x) r3)):=hid (by rw [N7.out,aj hq])
   have Tq:=hid (mP ((w3.setCell ⟨w.heap.size,0,none⟩ (.slice A1 n1' c1)).setCell ⟨w.heap.size,1,none⟩ (.slice A2 n2 c2)) w1.heap.size w1.heap.size r3 0 jB.out 0)
   have u0:w3.cell? ⟨w.heap.size,0,none⟩=some (.slice none 0 0):=(cell_of_row _ _ 0 _ _ _ hx3).trans rfl
   have u1:w3.cell? ⟨w.heap.size,1,none⟩=some (.slice none 0 0):=(cell_of_row _ _ 1 _ _ _ hx3).trans rfl
   have uz:∀i,w3.frozen? ⟨w.heap.size,i,none⟩=false:=fun i=>frozen_of_row _ _ _ _ _ hx3
   clear h3 tn kn hz0 hq hx3 hd3 t4
   go_wp2_with fail
   refine(Tq.out).mono ?_
   rintro e w5 h5
   rcases hq:dH 0 r3 with g | ⟨sx,r5⟩
   ·obtain⟨rfl,tn,bn⟩:=h5.bF hq
    have vI:Hid (aZ dG s=(none,g)):=hid (by rw [N9.out,aB hq];rfl)
    have KZ:=hid (ah xW.out tn (by omega))
    have K3:=hid (ah HD4.out tn (by omega))
    have Dh:=hid (fM.out.trans (tn.below (B:=w.heap.size) (by have:=fM.out.size;omega) (fun k hk e=>by omega)))
    clear h5 tn bn hq
    go_wp2_with fail
    refine leaves_cons (f:=73) (args:= #[.pointer (some ⟨w.heap.size,0,none⟩), .pointer (some ⟨w.heap.size+1,0,none⟩)]) (by simp) (by simp [go_sem]) ?_
    refine(zT w.heap.size (w.heap.size+1) (by omega) g [] _ KZ.out K3.out).mono ?_
    rintro e u9 w9 ⟨rfl,rfl,t9,p9,q9⟩
    have e1:Dg=g:=by rw [←KY.out,vI.out]
    have e2:V=vG:=by rw [←HV.out];unfold pq;rw [vI.out];rfl
    subst e1 e2
    exact⟨_,cK rfl rfl rfl p9 q9 Tryz.underlying40 rfl (by kernel_rfl) Tryz.underlying55 rfl (by kernel_rfl),Dh.out.trans (t9.below (by have:=Dh.out.size;omega) (fun k hk e=>by omega)), _,rfl,⟨_, _, _, _,rfl,dh.nil _ _ _, .nil,dh.nil _ _ _, .nil⟩⟩
   ·obtain⟨v5,rfl,tn, -,kn⟩:=h5.aL hq
    have vI:Hid (aZ dG s=(some x,(0,0,0))):=hid (by rw [N9.out,aj hq];rfl)
    have wh:=hid (ah xW.out tn (by omega))
    have HD5:=hid (ah HD4.out tn (by omega))
    have fI:=hid (fM.out.trans (tn.below (B:=w.heap.size) (by have:=fM.out.size;omega) (fun k hk e=>by omega)))
    have uW:=hid (vU.out.turn tn (fun g _ h e=>by omega))
    clear h5 tn kn hq uz u0 u1
    have PX:=hid (fun(w':World) (h:w'.heap[w.heap.size]? =some (.cells #[.slice A1 n1' c1, .slice A2 n2 c2] 40 (0,0))∧w'.heap[w.heap.size+1]? =some (.cells #[.int .i64 0, .int .i64 0, .int .i64 0, .int .i64 0] 55 (0,0)))=>(⟨(cell_of_row _ _ _ _ _ _ h.1).trans rfl,(cell_of_row _ _ _ _ _ _ h.1).trans rfl⟩:w'.cell? ⟨w.heap.size,0,none⟩=some (.slice A1 n1' c1)∧w'.cell? ⟨w.heap.size,1,none⟩=some (.slice A2 n2 c2)))
    have PD:=hid (fun(w':World) (h:w'.heap[w.heap.size]? =some (.cells #[.slice A1 n1' c1, .slice A2 n2 c2] 40 (0,0))∧w'.heap[w.heap.size+1]? =some (.cells #[.int .i64 0, .int .i64 0, .int .i64 0, .int .i64 0] 55 (0,0)))=>(⟨(cell_of_row _ _ _ _ _ _ h.2).trans rfl,(cell_of_row _ _ _ _ _ _ h.2).trans rfl,(cell_of_row _ _ _ _ _ _ h.2).trans rfl,(cell_of_row _ _ _ _ _ _ h.2).trans rfl⟩:w'.cell? ⟨w.heap.size+1,0,none⟩=some (.int .i64 0)∧w'.cell? ⟨w.heap.size+1,1,none⟩=some (.int .i64 0)∧w'.cell? ⟨w.heap.size+1,2,none⟩=some (.int .i64 0)∧w'.cell? ⟨w.heap.size+1,3,none⟩=some (.int .i64 0)))
    have zn:Hid (w5.drew.heap[w.heap.size]? =some (.cells #[.slice A1 n1' c1, .slice A2 n2 c2] 40 (0,0))∧w5.drew.heap[w.heap.size+1]? =some (.cells #[.int .i64 0, .int .i64 0, .int .i64 0, .int .i64 0] 55 (0,0))):=hid ⟨by rw [lG];exact wh.out,by rw [lG];exact HD5.out⟩
    have Tt:w5.cell? ⟨w.heap.size,0,none⟩=some (.slice A1 n1' c1):=(cell_of_row _ _ 0 _ _ _ wh.out).trans rfl
    have Tv:w5.cell? ⟨w.heap.size,1,none⟩=some (.slice A2 n2 c2):=(cell_of_row _ _ 1 _ _ _ wh.out).trans rfl
    have Tw:∀i,w5.frozen? ⟨w.heap.size,i,none⟩=false:=fun i=>frozen_of_row _ _ _ _ _ wh.out
    have Tx:w5.cell? ⟨w.heap.size+1,0,none⟩=some (.int .i64 0):=(cell_of_row _ _ 0 _ _ _ HD5.out).trans rfl
    have Tz:w5.cell? ⟨w.heap.size+1,1,none⟩=some (.int .i64 0):=(cell_of_row _ _ 1 _ _ _ HD5.out).trans rfl
    have TA:w5.cell? ⟨w.heap.size+1,2,none⟩=some (.int .i64 0):=(cell_of_row _ _ 2 _ _ _ HD5.out).trans rfl
    have TB:w5.cell? ⟨w.heap.size+1,3,none⟩=some (.int .i64 0):=(cell_of_row _ _ 3 _ _ _ HD5.out).trans rfl
    have TD:∀i,w5.frozen? ⟨w.heap.size+1,i,none⟩=false:=fun i=>frozen_of_row _ _ _ _ _ HD5.out
    have tA:=((ak w5 (w.heap.size) 0 (.slice A1 n1' c1)).trans (ak _ (w.heap.size) 1 (.slice A2 n2 c2)) (fun _ _ h=>h))
    have qy:=(heap_setCell_same _ _ 1 _ _ (.slice A2 n2 c2) (heap_setCell_same _ _ 0 _ _ (.slice A1 n1' c1) wh.out))
    have qA:=ah HD5.out tA (by omega)
    have tB:=((((ak ((w5.setCell ⟨w.heap.size,0,none⟩ (.slice A1 n1' c1)).setCell ⟨w.heap.size,1,none⟩ (.slice A2 n2 c2)) (w.heap.size+1) 0 (.int .i64 0)).trans (ak _ (w.heap.size+1) 1 (.int .i64 0)) (fun _ _ h=>h)).trans (ak _ (w.heap.size+1) 2 (.int .i64 0)) (fun _ _ h=>h)).trans (ak _ (w.heap.size+1) 3 (.int .i64 0)) (fun _ _ h=>h))
    have HXB:=hid (ah qy tB (by omega))
    have jX:=hid ((aV (b:=w.heap.size+1) qA (.int .i64 0) (.int .i64 0) (.int .i64 0) (.int .i64 0)))
    have ko:=hid ((tA.mono (G:=fun k=>k=w.heap.size∨k=w.heap.size+1) (fun _ _ h=> .inl h)).trans tB (fun _ _ h=> .inr h))
    have om:Hid (((w5.setCell ⟨w.heap.size,0,none⟩ (.slice A1 n1' c1)).setCell ⟨w.heap.size,1,none⟩ (.slice A2 n2 c2)).drew.heap[w.heap.size]? =some (.cells #[.slice A1 n1' c1, .slice A2 n2 c2] 40 (0,0))∧((w5.setCell ⟨w.heap.size,0,none⟩ (.slice A1 n1' c1)).setCell ⟨w.heap.size,1,none⟩ (.slice A2 n2 c2)).drew.heap[w.heap.size+1]? =some (.cells #[.int .i64 0, .int .i64 0, .int .i64 0, .int .i64 0] 55 (0,0))):=hid ⟨by rw [lG];exact qy,by rw [lG];exact qA⟩
    clear tA qy qA tB
    go_wp2_with fail
    refine bM (S:=fun w'=>w'.heap[w.heap.size]? =some (.cells #[.slice A1 n1' c1, .slice A2 n2 c2] 40 (0,0))∧w'.heap[w.heap.size+1]? =some (.cells #[.int .i64 0, .int .i64 0, .int .i64 0, .int .i64 0] 55 (0,0))) (x:=3) (by kernel_rfl) ?_
    try simp only [Act.put,List.getElem_toArray,List.getElem_cons_zero,List.getElem_cons_succ,List.setIfInBounds_toArray,List.set_cons_zero,List.set_cons_succ]
    refine jW 0 (.agg #[.slice A1 n1' c1, .slice A2 n2 c2]) PX.out zn.out (hQ:=j6 rfl (by decide) (by decide)) ?_
    refine jW 1 (.agg #[.int .i64 0, .int .i64 0, .int .i64 0, .int .i64 0]) PD.out zn.out (hQ:=j6 rfl (by decide) (by decide)) ?_
    refine ay (rs:=[2]) (by kernel_rfl) (by simp) ?_
    refine av.cons rfl (fun K hK=> ?_) (av.nil)
    go_simp
    refine hK.out _ _ om.out ?_
    clear hK K
    try simp only [Act.put,List.getElem_toArray,List.getElem_cons_zero,List.getElem_cons_succ,List.setIfInBounds_toArray,List.set_cons_zero,List.set_cons_succ]
    refine ay (rs:=[3]) (by kernel_rfl) (by simp) ?_
    refine av.past rfl (by kernel_rfl) (fun K hK=> ?_) (av.nil)
    go_simp
    refine hK.out _ _ ?_
    clear hK K
    try simp only [Act.put,List.getElem_toArray,List.getElem_cons_zero,List.getElem_cons_succ,List.setIfInBounds_toArray,List.set_cons_zero,List.set_cons_succ]
    refine aO (by kernel_rfl) ?_ _
    go_wp2_with fail
    refine leaves_cons (f:=73) (args:= #[.pointer (some ⟨w.heap.size,0,none⟩), .pointer (some ⟨w.heap.size+1,0,none⟩)]) (by simp) (by simp [go_sem]) ?_
    refine(KX _ _ _).mono ?_
    rintro e u9 w9 ⟨rfl,rfl,rfl⟩
    have e1:Dg=(0,0,0):=by rw [←KY.out,vI.out]
    have e2:V=x:=by rw [←HV.out];unfold pq;rw [vI.out];rfl
    subst e1 e2
    have MP:=(uW.out.turn ko.out (fun g _ h e=>by omega)).turn (hdr (fun _=>False) _) (fun _ _ _=>id)
    have Gf:=(fI.out.trans (ko.out.below (B:=w.heap.size) (by have:=fI.out.size;omega) (fun k hk e=>by omega))).trans ((hdr (fun _=>False) _).below (by have:=fI.out.size;have:=ko.out.size;omega) (fun _ _=>id))
    exact⟨_,cK rfl rfl rfl (by rw [lG];exact HXB.out) (by rw [lG];exact jX.out) Tryz.underlying40 rfl (by kernel_rfl) Tryz.underlying55 rfl (by kernel_rfl),Gf, _,rfl,MP.mono (fun g _ h=>by omega)⟩
 ·have K5:aZ dG s=(none,(dQ s).2):=by unfold aZ;rw [if_neg hE]
  have e1:Dg=(dQ s).2:=by rw [←tH,K5]
  have e2:V=vG:=by rw [←hV];unfold pq;rw [K5];rfl
  subst e2
  obtain⟨T,D1,hT⟩:∃T D1,dQ s=(T,D1):=⟨_, _,rfl⟩
  rw [hT]at HL e1 hE
  have e1:=e1.symm
  subst e1
  have hE1:(D1.2.2 != 0)=true:=by simpa using hE
  clear hE K5 tH hV hT
  go_enter_defers Tryz.func43,Tryz.ntmps43
  go_wp2_with fail
  rw [HW0.out]
  have Oa:xI D1= .agg #[.int .i64 0, .int .i64 (D1.1:Nat), .int .i64 (D1.2.1:Nat), .int .i64 D1.2.2]:=rfl
  refine(HL.out).mono ?_
  rintro e w1 ⟨v1,n1,rfl,hown,hb1⟩
  obtain⟨yA,c1',rfl, _, _⟩:=jd hown
  have hs1:=hb1.size
  have hx1:=(hb1.block (w.heap.size) (by omega)).trans HX0.out
  have hd1:=(hb1.block (w.heap.size+1) (by omega)).trans HD0.out
  have HB1:=hid (HB0.out.trans (hb1.mono (by omega)))
  have Dc:=hid (Gl.out.below (hb1.mono (by omega)))
  obtain⟨x0,x1,x2,x3,xz⟩:=bK hd1
  have t1:=dx w1 (w.heap.size+1) (.int .i64 0) (.int .i64 (D1.1:Nat)) (.int .i64 (D1.2.1:Nat)) (.int .i64 D1.2.2)
  have qh:=hid (ah hx1 t1 (by omega))
  have HD1:=hid (aV hd1 (.int .i64 0) (.int .i64 (D1.1:Nat)) (.int .i64 (D1.2.1:Nat)) (.int .i64 D1.2.2))
  have HT1:=hid t1
  have hsp:(cB w1 (w.heap.size+1) (.int .i64 0) (.int .i64 (D1.1:Nat)) (.int .i64 (D1.2.1:Nat)) (.int .i64 D1.2.2)).heap.size=w1.heap.size:=by simp [cB]
  have HOWN:=hid hown
  rw [Oa]
  clear hown hb1 hx1 hd1 t1 Oa
  have PX:=hid (fun(w':World) (h:w'.heap[w.heap.size]? =some (.cells #[.slice none 0 0, .slice none 0 0] 40 (0,0))∧w'.heap[w.heap.size+1]? =some (.cells #[.int .i64 0, .int .i64 (D1.1:Nat), .int .i64 (D1.2.1:Nat), .int .i64 D1.2.2] 55 (0,0)))=>(⟨(cell_of_row _ _ _ _ _ _ h.1).trans rfl,(cell_of_row _ _ _ _ _ _ h.1).trans rfl⟩:w'.cell? ⟨w.heap.size,0,none⟩=some (.slice none 0 0)∧w'.cell? ⟨w.heap.size,1,none⟩=some (.slice none 0 0)))
  have PD:=hid (fun(w':World) (h:w'.heap[w.heap.size]? =some (.cells #[.slice none 0 0, .slice none 0 0] 40 (0,0))∧w'.heap[w.heap.size+1]? =some (.cells #[.int .i64 0, .int .i64 (D1.1:Nat), .int .i64 (D1.2.1:Nat), .int .i64 D1.2.2] 55 (0,0)))=>(⟨(cell_of_row _ _ _ _ _ _ h.2).trans rfl,(cell_of_row _ _ _ _ _ _ h.2).trans rfl,(cell_of_row _ _ _ _ _ _ h.2).trans rfl,(cell_of_row _ _ _ _ _ _ h.2).trans rfl⟩:w'.cell? ⟨w.heap.size+1,0,none⟩=some (.int .i64 0)∧w'.cell? ⟨w.heap.size+1,1,none⟩=some (.int .i64 (D1.1:Nat))∧w'.cell? ⟨w.heap.size+1,2,none⟩=some (.int .i64 (D1.2.1:Nat))∧w'.cell? ⟨w.heap.size+1,3,none⟩=some (.int .i64 D1.2.2)))
  have zn:Hid ((cB w1 (w.heap.size+1) (.int .i64 0) (.int .i64 (D1.1:Nat)) (.int .i64 (D1.2.1:Nat)) (.int .i64 D1.2.2)).drew.heap[w.heap.size]? =some (.cells #[.slice none 0 0, .slice none 0 0] 40 (0,0))∧(cB w1 (w.heap.size+1) (.int .i64 0) (.int .i64 (D1.1:Nat)) (.int .i64 (D1.2.1:Nat)) (.int .i64 D1.2.2)).drew.heap[w.heap.size+1]? =some (.cells #[.int .i64 0, .int .i64 (D1.1:Nat), .int .i64 (D1.2.1:Nat), .int .i64 D1.2.2] 55 (0,0))):=hid ⟨by rw [lG];exact qh.out,by rw [lG];exact HD1.out⟩
  have Tt:(cB w1 (w.heap.size+1) (.int .i64 0) (.int .i64 (D1.1:Nat)) (.int .i64 (D1.2.1:Nat)) (.int .i64 D1.2.2)).cell? ⟨w.heap.size,0,none⟩=some (.slice none 0 0):=(cell_of_row _ _ 0 _ _ _ qh.out).trans rfl
  have Tv:(cB w1 (w.heap.size+1) (.int .i64 0) (.int .i64 (D1.1:Nat)) (.int .i64 (D1.2.1:Nat)) (.int .i64 D1.2.2)).cell? ⟨w.heap.size,1,none⟩=some (.slice none 0 0):=(cell_of_row _ _ 1 _ _ _ qh.out).trans rfl
  have Tw:∀i,(cB w1 (w.heap.size+1) (.int .i64 0) (.int .i64 (D1.1:Nat)) (.int .i64 (D1.2.1:Nat)) (.int .i64 D1.2.2)).frozen? ⟨w.heap.size,i,none⟩=false:=fun i=>frozen_of_row _ _ _ _ _ qh.out
  have Tx:(cB w1 (w.heap.size+1) (.int .i64 0) (.int .i64 (D1.1:Nat)) (.int .i64 (D1.2.1:Nat)) (.int .i64 D1.2.2)).cell? ⟨w.heap.size+1,0,none⟩=some (.int .i64 0):=(cell_of_row _ _ 0 _ _ _ HD1.out).trans rfl
  have Tz:(cB w1 (w.heap.size+1) (.int .i64 0) (.int .i64 (D1.1:Nat)) (.int .i64 (D1.2.1:Nat)) (.int .i64 D1.2.2)).cell? ⟨w.heap.size+1,1,none⟩=some (.int .i64 (D1.1:Nat)):=(cell_of_row _ _ 1 _ _ _ HD1.out).trans rfl
  have TA:(cB w1 (w.heap.size+1) (.int .i64 0) (.int .i64 (D1.1:Nat)) (.int .i64 (D1.2.1:Nat)) (.int .i64 D1.2.2)).cell? ⟨w.heap.size+1,2,none⟩=some (.int .i64 (D1.2.1:Nat)):=(cell_of_row _ _ 2 _ _ _ HD1.out).trans rfl
  have TB:(cB w1 (w.heap.size+1) (.int .i64 0) (.int .i64 (D1.1:Nat)) (.int .i64 (D1.2.1:Nat)) (.int .i64 D1.2.2)).cell? ⟨w.heap.size+1,3,none⟩=some (.int .i64 D1.2.2):=(cell_of_row _ _ 3 _ _ _ HD1.out).trans rfl
  have TD:∀i,(cB w1 (w.heap.size+1) (.int .i64 0) (.int .i64 (D1.1:Nat)) (.int .i64 (D1.2.1:Nat)) (.int .i64 D1.2.2)).frozen? ⟨w.heap.size+1,i,none⟩=false:=fun i=>frozen_of_row _ _ _ _ _ HD1.out
  have tA:=((ak (cB w1 (w.heap.size+1) (.int .i64 0) (.int .i64 (D1.1:Nat)) (.int .i64 (D1.2.1:Nat)) (.int .i64 D1.2.2)) (w.heap.size) 0 (.slice none 0 0)).trans (ak _ (w.heap.size) 1 (.slice none 0 0)) (fun _ _ h=>h))
  have qy:=(heap_setCell_same _ _ 1 _ _ (.slice none 0 0) (heap_setCell_same _ _ 0 _ _ (.slice none 0 0) qh.out))
  have qA:=ah HD1.out tA (by omega)
  have tB:=((((ak (((cB w1 (w.heap.size+1) (.int .i64 0) (.int .i64 (D1.1:Nat)) (.int .i64 (D1.2.1:Nat)) (.int .i64 D1.2.2)).setCell ⟨w.heap.size,0,none⟩ (.slice none 0 0)).setCell ⟨w.heap.size,1,none⟩ (.slice none 0 0)) (w.heap.size+1) 0 (.int .i64 0)).trans (ak _ (w.heap.size+1) 1 (.int .i64 (D1.1:Nat))) (fun _ _ h=>h)).trans (ak _ (w.heap.size+1) 2 (.int .i64 (D1.2.1:Nat))) (fun _ _ h=>h)).trans (ak _ (w.heap.size+1) 3 (.int .i64 D1.2.2)) (fun _ _ h=>h))
  have HXB:=hid (ah qy tB (by omega))
  have jX:=hid ((aV (b:=w.heap.size+1) qA (.int .i64 0) (.int .i64 (D1.1:Nat)) (.int .i64 (D1.2.1:Nat)) (.int .i64 D1.2.2)))
  have ko:=hid ((tA.mono (G:=fun k=>k=w.heap.size∨k=w.heap.size+1) (fun _ _ h=> .inl h)).trans tB (fun _ _ h=> .inr h))
  have om:Hid ((((cB w1 (w.heap.size+1) (.int .i64 0) (.int .i64 (D1.1:Nat)) (.int .i64 (D1.2.1:Nat)) (.int .i64 D1.2.2)).setCell ⟨w.heap.size,0,none⟩ (.slice none 0 0)).setCell ⟨w.heap.size,1,none⟩ (.slice none 0 0)).drew.heap[w.heap.size]? =some (.cells #[.slice none 0 0, .slice none 0 0] 40 (0,0))∧(((cB w1 (w.heap.size+1) (.int .i64 0) (.int .i64 (D1.1:Nat)) (.int .i64 (D1.2.1:Nat)) (.int .i64 D1.2.2)).setCell ⟨w.heap.size,0,none⟩ (.slice none 0 0)).setCell ⟨w.heap.size,1,none⟩ (.slice none 0 0)).drew.heap[w.heap.size+1]? =some (.cells #[.int .i64 0, .int .i64 (D1.1:Nat), .int .i64 (D1.2.1:Nat), .int .i64 D1.2.2] 55 (0,0))):=hid ⟨by rw [lG];exact qy,by rw [lG];exact qA⟩
  clear tA qy qA tB
  go_wp2_with fail
  refine bM (S:=fun w'=>w'.heap[w.heap.size]? =some (.cells #[.slice none 0 0, .slice none 0 0] 40 (0,0))∧w'.heap[w.heap.size+1]? =some (.cells #[.int .i64 0, .int .i64 (D1.1:Nat), .int .i64 (D1.2.1:Nat), .int .i64 D1.2.2] 55 (0,0))) (x:=3) (by kernel_rfl) ?_
  try simp only [Act.put,List.getElem_toArray,List.getElem_cons_zero,List.getElem_cons_succ,List.setIfInBounds_toArray,List.set_cons_zero,List.set_cons_succ]
  refine jW 0 (.agg #[.slice none 0 0, .slice none 0 0]) PX.out zn.out (hQ:=fun c a w h=>j6 rfl (by decide) (by decide) c a w h) ?_
  refine jW 1 (.agg #[.int .i64 0, .int .i64 (D1.1:Nat), .int .i64 (D1.2.1:Nat), .int .i64 D1.2.2]) PD.out zn.out (hQ:=fun c a w h=>j6 rfl (by decide) (by decide) c a w h) ?_
  refine ay (rs:=[2]) (by kernel_rfl) (by simp) ?_
  refine av.cons rfl (fun K hK=> ?_) (av.nil)
  go_simp
  refine hK.out _ _ om.out ?_
  clear hK K
  try simp only [Act.put,List.getElem_toArray,List.getElem_cons_zero,List.getElem_cons_succ,List.setIfInBounds_toArray,List.set_cons_zero,List.set_cons_succ]
  refine ay (rs:=[3]) (by kernel_rfl) (by simp) ?_
  refine av.past rfl (by kernel_rfl) (fun K hK=> ?_) (av.nil)
  go_simp
  refine hK.out _ _ ?_
  clear hK K
  try simp only [Act.put,List.getElem_toArray,List.getElem_cons_zero,List.getElem_cons_succ,List.setIfInBounds_toArray,List.set_cons_zero,List.set_cons_succ]
  refine aO (by kernel_rfl) ?_ _
  go_wp2_with fail
  have Gf:=((HB1.out.trans (HT1.out.below (B:=w.heap.size) (by omega) (fun k hk e=>by omega))).trans (ko.out.below (B:=w.heap.size) (by rw [hsp];omega) (fun k hk e=>by omega))).trans ((hdr (fun _=>False) _).below (by have:=ko.out.size;rw [hsp]at this;omega) (fun _ _=>id))
  exact⟨_,cK rfl rfl rfl (by rw [lG];exact HXB.out) (by rw [lG];exact jX.out) Tryz.underlying40 rfl (by kernel_rfl) Tryz.underlying55 rfl (by kernel_rfl),Gf, _,rfl,⟨_, _, _, _,rfl,dh.nil _ _ _, .nil,dh.nil _ _ _, .nil⟩⟩
set_option maxRecDepth 100000 in
set_option maxHeartbeats 4000000 in
theorem Di (w:World) (s:Bt) (hX:jH w):Calls Tryz.prog 21 #[sv s] w fun e w'=>Below w.heap.size w w'∧∃z:List Value,e= .returned (.tuple #[.agg z.toArray,tC (aZ dG s).2])∧Gj w' (fun j=>w.heap.size≤j) z (pq dG s vG):=by
 obtain⟨W0,hW0⟩:∃W0,((w.alloc (.cells #[.slice none 0 0, .slice none 0 0] 40)).alloc (.cells #[.int .i64 0, .int .i64 0, .int .i64 0, .int .i64 0] 55))=W0:=⟨_,rfl⟩
 obtain⟨tw, _,hx0,hd0⟩:=fZ (G:=fun _=>False) (Turn.refl _ ((w.alloc (.cells #[.slice none 0 0, .slice none 0 0] 40)).alloc (.cells #[.int .i64 0, .int .i64 0, .int .i64 0, .int .i64 0] 55)))
 have hs0:W0.heap.size=w.heap.size+2:=by rw [←hW0];simp
 have hb0:Below w.heap.size w W0:=by rw [←hW0];exact new2 _ _ _
 rw [hW0]at tw hx0 hd0
 have HX0:=hid (hx0 id)
 have HD0:=hid (hd0 id)
 have HB0:=hid hb0
 have HA:=hid (MS W0 s (hX.below hb0))
 have HW0:=hid hW0
 obtain⟨Dg,tH⟩:∃Dg,(aZ dG s).2=Dg:=⟨_,rfl⟩
 obtain⟨V,hV⟩:∃V,pq dG s vG=V:=⟨_,rfl⟩
 rw [tH,hV]at HA
 rw [tH,hV]
 clear hX tw hx0 hd0 hb0 hW0 tH hV
 go_enter Tryz.func21,Tryz.ntmps21
 go_wp2_with fail
 rw [HW0.out]
 refine(HA.out).mono ?_
 rintro e w1 ⟨hb1,z0,rfl,hz0⟩
 have hzc:=hz0
 obtain⟨vi,xi,vd,xd,rfl,⟨A1,n1',c1,rfl, _⟩, _,⟨A2,n2,c2,rfl, _⟩, _⟩:=hzc
 have hs1:=hb1.size
 have hx1:=(hb1.block (w.heap.size) (by omega)).trans HX0.out
 have hd1:=(hb1.block (w.heap.size+1) (by omega)).trans HD0.out
 have tA:Turn (fun k=>k=w.heap.size) w1 ((w1.setCell ⟨w.heap.size,0,none⟩ (.slice A1 n1' c1)).setCell ⟨w.heap.size,1,none⟩ (.slice A2 n2 c2)):=((ak w1 (w.heap.size) 0 (.slice A1 n1' c1)).trans (ak _ (w.heap.size) 1 (.slice A2 n2 c2)) (fun _ _ h=>h))
 have qy:=(heap_setCell_same _ _ 1 _ _ (.slice A2 n2 c2) (heap_setCell_same _ _ 0 _ _ (.slice A1 n1' c1) hx1))
 have qA:=ah hd1 tA (by omega)
 have tB:=((((ak ((w1.setCell ⟨w.heap.size,0,none⟩ (.slice A1 n1' c1)).setCell ⟨w.heap.size,1,none⟩ (.slice A2 n2 c2)) (w.heap.size+1) 0 (.int .i64 0)).trans (ak _ (w.heap.size+1) 1 (.int .i64 (Dg.1:Nat))) (fun _ _ h=>h)).trans (ak _ (w.heap.size+1) 2 (.int .i64 (Dg.2.1:Nat))) (fun _ _ h=>h)).trans (ak _ (w.heap.size+1) 3 (.int .i64 Dg.2.2)) (fun _ _ h=>h))
 have HXB:=hid (ah qy tB (by omega))
 have jX:=hid ((aV (b:=w.heap.size+1) qA (.int .i64 0) (.int .i64 (Dg.1:Nat)) (.int .i64 (Dg.2.1:Nat)) (.int .i64 Dg.2.2)))
 have ko:=hid ((tA.mono (G:=fun k=>k=w.heap.size∨k=w.heap.size+1) (fun _ _ h=> .inl h)).trans tB (fun _ _ h=> .inr h))
 have HZ:=hid hz0
 have HB1:=hid (HB0.out.trans (hb1.mono (by omega)))
 have u0:w1.cell? ⟨w.heap.size,0,none⟩=some (.slice none 0 0):=(cell_of_row _ _ 0 _ _ _ hx1).trans rfl
 have u1:w1.cell? ⟨w.heap.size,1,none⟩=some (.slice none 0 0):=(cell_of_row _ _ 1 _ _ _ hx1).trans rfl
 have l0:w1.cell? ⟨w.heap.size+1,0,none⟩=some (.int .i64 0):=(cell_of_row _ _ 0 _ _ _ hd1).trans rfl
 have l1:w1.cell? ⟨w.heap.size+1,1,none⟩=some (.int .i64 0):=(cell_of_row _ _ 1 _ _ _ hd1).trans rfl
 have l2:w1.cell? ⟨w.heap.size+1,2,none⟩=some (.int .i64 0):=(cell_of_row _ _ 2 _ _ _ hd1).trans rfl
 have l3:w1.cell? ⟨w.heap.size+1,3,none⟩=some (.int .i64 0):=(cell_of_row _ _ 3 _ _ _ hd1).trans rfl
 have uz:∀i,w1.frozen? ⟨w.heap.size,i,none⟩=false:=fun i=>frozen_of_row _ _ _ _ _ hx1
 have lz:∀i,w1.frozen? ⟨w.heap.size+1,i,none⟩=false:=fun i=>frozen_of_row _ _ _ _ _ hd1
 clear hb1 hz0 hx1 hd1 tA qy qA tB
 go_wp2_with fail
 refine bodyPost_ret (cK rfl rfl rfl HXB.out jX.out Tryz.underlying40 rfl (by kernel_rfl) Tryz.underlying55 rfl (by kernel_rfl)) rfl ?_
 exact⟨HB1.out.trans (ko.out.below (B:=w.heap.size) (by omega) (fun k hk e=>by omega)), _,rfl,(HZ.out.turn ko.out (fun g _ h e=>by omega)).mono (fun g _ h=>by omega)⟩
end Go.Proofs.YtmbppnbekkbibaaGreatDoor
end
