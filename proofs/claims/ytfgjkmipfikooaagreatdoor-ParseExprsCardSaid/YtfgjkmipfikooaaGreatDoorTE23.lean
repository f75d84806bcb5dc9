/- RS, RT, RU, RV, HJ -/
import Derived.Test.YtfgjkmipfikooaaGreatDoorTEQ
import Derived.Test.YtfgjkmipfikooaaGreatDoorTE02
import Derived.Test.YtfgjkmipfikooaaGreatDoorTE01
import Derived.Test.YtfgjkmipfikooaaGreatDoorTE22
import Derived.Test.YtfgjkmipfikooaaGreatDoorTE20
import Derived.Recover
set_option linter.unusedSimpArgs false
set_option linter.unusedVariables false
set_option maxRecDepth 100000
set_option maxHeartbeats 8000000
namespace Go.Proofs.YtfgjkmipfikooaaGreatDoor
open Go.RowKit
def GX (k:Nat)(t:aI):aI:={ t with line:=t.line+k}
mutual
def NR (k:Nat):bI->bI
 |.mk kd t n l c ts ns ks=>.mk kd t n (l+k) c ts ns (aao k ks)
def aao (k:Nat):List bI->List bI
 | []=>[]
 |x :: l=>NR k x :: aao k l
end
theorem NS (k:Nat):∀l:List bI,aao k l=l.map (NR k)
 | []=>by simp [aao]
 |t :: l=>by simp [aao,NS k l]
theorem rQ (k:Nat)(kd:Int)(text:Bt)(n:Int)(h:aI)(types:List bS)(names:List Bt)(kids:List bI):aK kd text n (GX k h) types names (kids.map (NR k))=NR k (aK kd text n h types names kids):=by
 unfold aK;rw [NR,NS];simp [GX]
theorem pQ (k:Nat)(kd:Int)(text:Bt)(n:Int)(h:aI)(types:List bS)(names:List Bt):aK kd text n (GX k h) types names []=NR k (aK kd text n h types names []):=rQ k kd text n h types names []
def IC (X:List aI):Prop:=∃x r,X=x :: r∧(x.kind=0∨(x.kind=5∧x.text=[41]))
theorem aap (k:Nat)(t:aI)(s:Bt):jA (GX k t) s=jA t s:=rfl
theorem xY {E:aI}(hE:E.kind=0)(s:Bt):jA E s=false:=by unfold jA;rw [hE];rfl
theorem Bp {x:aI}(h:x.kind=0∨(x.kind=5∧x.text=[41])){s:Bt}(hs:s≠[41]):jA x s=false:=by
 rcases h with h |⟨h,h2⟩
 ·exact xY h s
 ·unfold jA;rw [h2,beq_false_of_ne (Ne.symm hs),Bool.and_false]
section
variable {α β:Type}(k:Nat) (D:Prop) (E:aI) (X:List aI)
def aG (R:α->α->List aI->Prop)(p q:Ps α)(u:List aI):Prop:=∀a r,p (u++[E])=.good a r->
 (∃v b,r=v++[E]∧v<:+u∧q (u.map (GX k)++X)=.good b (v.map (GX k)++X)∧R a b v)∨(D∧∃l c,q (u.map (GX k)++X)=.bad (l,c,6))
end
section
variable {α β:Type}{k:Nat}{D:Prop}{E:aI}{X:List aI}{R:α->α->List aI->Prop}{S:β->β->List aI->Prop}{u:List aI}
theorem aG.ret {a b:α}(h:R a b u):aG k D E X R (aF a) (aF b) u:=by
 intro x r hx;injection hx with h1 h2;subst h1 h2;exact .inl ⟨u,b,rfl,List.suffix_refl _,rfl,h⟩
theorem aG.then_ {p q:Ps α}{f g:α->Ps β}(h:aG k D E X R p q u)(hf:∀a b v,v<:+u->R a b v->aG k D E X S (f a) (g b) v):aG k D E X S (aj p f) (aj q g) u:=by
 intro x r hx;unfold aj at hx;rcases hp:p (u++[E])with d |⟨a,r1⟩
 ·rw [hp]at hx;cases hx
 ·rw [hp]at hx;rcases h a r1 hp with⟨v,b,rfl,hv,hq,hR⟩ |⟨hD,l,c,hq⟩
  ·rcases hf a b v hv hR x r hx with⟨v2,b2,e2,hv2,hq2,hS⟩ |⟨hD,l,c,hq2⟩
   ·exact .inl ⟨v2,b2,e2,hv2.trans hv,by rw [au hq];exact hq2,hS⟩
   ·exact .inr ⟨hD,l,c,by rw [au hq];exact hq2⟩
  ·exact .inr ⟨hD,l,c,aC hq⟩
theorem aG.bad {p q:Ps α}(h:∀a r,p (u++[E])≠ .good a r):aG k D E X R p q u:=fun a r hx=>absurd hx (h a r)
theorem aG.fail {e:Int}{q:Ps α}:aG k D E X R (jL e) q u:= .bad fun a r h=>by cases h
theorem aG.mono {p q:Ps α}{R':α->α->List aI->Prop}(h:aG k D E X R p q u)(hR:∀a b v,R a b v->R' a b v):aG k D E X R' p q u:=fun a r hx=>by
 rcases h a r hx with⟨v,b,h1,h2,h3,h4⟩ |h
 ·exact .inl ⟨v,b,h1,h2,h3,hR _ _ _ h4⟩
 ·exact .inr h
theorem aG.fuel {p q:Nat->Ps α}(h:∀f g,u.length<f->u.length<g->aG k D E X R (p f) (q g) u)(hX:IC X):aG k D E X R (fun ts=>p ts.length ts) (fun ts=>q ts.length ts) u:=by
 obtain⟨x,X',rfl,_⟩:=hX;have:=h (u++[E]).length (u.map (GX k)++x :: X').length (by simp) (by simp);exact this
variable (hE:E.kind=0) (hX:IC X)
include hE hX
theorem aG.jK {l:List Bt}(hl:∀s∈l,s≠[41]):aG k D E X (fun i j v=>i=j∧((i=none∧v=u)∨(∃t n,i=some n∧u=t :: v))) (dA l) (dA l) u:=by
 obtain⟨x,X',rfl,hx⟩:=hX;intro a r h;cases u with
 |nil=>
  have h1:l.findIdx? (jA E)=none:=List.findIdx?_eq_none_iff.2 fun s _=>xY hE s;have h2:l.findIdx? (jA x)=none:=List.findIdx?_eq_none_iff.2 fun s hs=>Bp hx (hl s hs);rw [List.nil_append,Ei h1]at h;injection h with e1 e2;subst e1 e2;exact .inl ⟨[],none,rfl,List.suffix_refl _,Ei h2 _,rfl,.inl ⟨rfl,rfl⟩⟩
 |cons t u=>
  rw [List.cons_append]at h;rcases hf:l.findIdx? (jA t)with _ |i
  ·rw [Ei hf]at h;injection h with e1 e2;subst e1 e2;exact .inl ⟨t :: u,none,rfl,List.suffix_refl _,Ei (t:=GX k t) hf _,rfl,.inl ⟨rfl,rfl⟩⟩
  ·rw [EM hf]at h;injection h with e1 e2;subst e1 e2;exact .inl ⟨u,some i,rfl,List.suffix_cons _ _,EM (t:=GX k t) hf _,rfl,.inr ⟨t,i,rfl,rfl⟩⟩
theorem aG.has {s:Bt}(hs:s≠[41]):aG k D E X (fun i j v=>i=j∧((i=false∧v=u)∨(∃t,i=true∧u=t :: v))) (bM s) (bM s) u:=by
 obtain⟨x,X',rfl,hx⟩:=hX;intro a r h;cases u with
 |nil=>
  rw [List.nil_append,yZ (xY hE s)]at h;injection h with e1 e2;subst e1 e2;exact .inl ⟨[],false,rfl,List.suffix_refl _,yZ (Bp hx hs) _,rfl,.inl ⟨rfl,rfl⟩⟩
 |cons t u=>
  rw [List.cons_append]at h;cases hb:jA t s
  ·rw [yZ hb]at h;injection h with e1 e2;subst e1 e2;exact .inl ⟨t :: u,false,rfl,List.suffix_refl _,yZ (t:=GX k t) hb _,rfl,.inl ⟨rfl,rfl⟩⟩
  ·rw [qR hb]at h;injection h with e1 e2;subst e1 e2;exact .inl ⟨u,true,rfl,List.suffix_cons _ _,qR (t:=GX k t) hb _,rfl,.inr ⟨t,rfl,rfl⟩⟩
omit hX in
theorem aG.want {s:Bt}:aG k D E X (fun _ _ v=>∃t,u=t :: v) (aH s) (aH s) u:=by
 intro a r h;unfold aH at h ⊢;cases u with
 |nil=>
  rw [List.nil_append,au (yZ (xY hE s) _)]at h;cases h
 |cons t u=>
  rw [List.cons_append]at h;cases hb:jA t s
  ·rw [au (yZ hb _)]at h;cases h
  ·rw [au (qR hb _)]at h;injection h with e1 e2;subst e2;exact .inl ⟨u,(),rfl,List.suffix_cons _ _,au (qR (t:=GX k t) hb _),t,rfl⟩
omit hX in
theorem aG.wants:∀(l:List Bt) {u:List aI},aG k D E X (fun _ _ _=>True) (jo l) (jo l) u
 | [],u=>.ret trivial
 |s :: l,u=>(aG.want hE).then_ fun _ _ v _ _=>aG.wants l
omit hX in
theorem aG.kind {n:Int}(hn:n≠0):aG k D E X (fun a b v=>a=b∧∃t,u=t :: v∧a=t.text) (dB n) (dB n) u:=by
 intro a r h;unfold dB at h ⊢;cases u with
 |nil=>
  simp only [List.nil_append,aS,List.headD_cons]at h;rw [if_neg (by rw [hE];exact fun e=>hn e.symm)]at h;cases h
 |cons t u=>
  simp only [List.cons_append,aS,List.headD_cons,List.map_cons]at h ⊢;by_cases hk:t.kind=n
  ·rw [if_pos hk,if_neg hn]at h;injection h with e1 e2;subst e1 e2;refine .inl ⟨u,t.text,rfl,List.suffix_cons _ _,?_,rfl,t,rfl,rfl⟩;rw [if_pos (show(GX k t).kind=n from hk),if_neg hn];rfl
  ·rw [if_neg hk]at h;cases h
omit hX in
theorem aG.name:aG k D E X (fun a b v=>a=b) nameP nameP u:=(aG.kind hE (by decide)).mono fun _ _ _ h=>h.1
omit hX hE in
theorem aG.here:aG k D E X (fun h h' v=>v=u∧∀t r,u=t :: r->h=t∧h'=GX k t) jM jM u:=by
 intro a r h;unfold jM at h ⊢;injection h with e1 e2;subst e1 e2;refine .inl ⟨u,_,rfl,List.suffix_refl _,rfl,rfl,?_⟩;rintro t r rfl;exact⟨rfl,rfl⟩
omit hX hE in
theorem jU {v u:List aI}(h:v<:+u):v.length<=u.length:=h.length_le
theorem aG.abr {one two:Ps α}{Q:α->α->Prop}(h1:∀u,aG k D E X (fun a b _=>Q a b) one two u)(n:Nat):∀(u:List aI) (f g:Nat) (l m:List α),u.length<=n->u.length<f->u.length<g->l.length=m.length->(∀x∈l.zip m,Q x.1 x.2)->
  aG k D E X (fun a b _=>a.length=b.length∧∀x∈a.zip b,Q x.1 x.2) (qJ one f l) (qJ two g m) u:=by
 induction n with
 |zero=>
  intro u f g l m hn hf hg hl hz;obtain⟨f,rfl⟩:∃f',f=f'+1:=⟨f - 1,by omega⟩
  obtain⟨g,rfl⟩:∃f',g=f'+1:=⟨g - 1,by omega⟩
  refine(aG.has hE hX (by decide)).then_ fun a b v hv ⟨e,h⟩=>?_;subst e;rcases h with⟨rfl,rfl⟩ |⟨t,rfl,rfl⟩
  ·exact .ret ⟨hl,hz⟩
  ·simp at hn
 |succ n ih=>
  intro u f g l m hn hf hg hl hz;obtain⟨f,rfl⟩:∃f',f=f'+1:=⟨f - 1,by omega⟩
  obtain⟨g,rfl⟩:∃f',g=f'+1:=⟨g - 1,by omega⟩
  refine(aG.has hE hX (by decide)).then_ fun a b v hv ⟨e,h⟩=>?_;subst e;rcases h with⟨rfl,rfl⟩ |⟨t,rfl,rfl⟩
  ·exact .ret ⟨hl,hz⟩
  ·refine(h1 v).then_ fun a b v2 hv2 hab=>?_;have:=jU hv2;simp only [List.length_cons]at hn hf hg;refine ih v2 f g _ _ (by omega) (by omega) (by omega) (by simp [hl]) ?_;rw [List.zip_append hl];intro x hx;rcases List.mem_append.1 hx with hx |hx
   ·exact hz x hx
   ·simp only [List.zip_cons_cons,List.zip_nil_right,List.mem_singleton]at hx;subst hx;exact hab
theorem aG.sep {one two:Ps α}{Q:α->α->Prop}(h1:∀u,aG k D E X (fun a b _=>Q a b) one two u):aG k D E X (fun a b _=>a.length=b.length∧∀x∈a.zip b,Q x.1 x.2) (iw one) (iw two) u:=
 (h1 u).then_ fun a b v _ hab=>aG.fuel (p:=fun n=>qJ one n [a]) (q:=fun n=>qJ two n [b]) (fun f g hf hg=>aG.abr hE hX h1 v.length v f g _ _ (Nat.le_refl _) hf hg rfl (by simpa using hab)) hX
omit hX hE in
theorem KF {a b:List α}(hl:a.length=b.length)(h:∀x∈a.zip b,x.2=x.1):b=a:=by
 induction a generalizing b with
 |nil=>cases b with |nil=>rfl |cons y b=>simp at hl
 |cons x a ih=>
  cases b with
  |nil=>simp at hl
  |cons y b=>
   have h1:=h (x,y) (by simp);simp only at h1;rw [h1,ih (b:=b) (by simpa using hl) (fun z hz=>h z (by simp [hz]))]
omit hX hE in
theorem zip_map {a b:List α}{φ:α->α}(hl:a.length=b.length)(h:∀x∈a.zip b,x.2=φ x.1):b=a.map φ:=by
 induction a generalizing b with
 |nil=>cases b with |nil=>rfl |cons y b=>simp at hl
 |cons x a ih=>
  cases b with
  |nil=>simp at hl
  |cons y b=>
   have h1:=h (x,y) (by simp);simp only at h1;rw [h1,ih (b:=b) (by simpa using hl) (fun z hz=>h z (by simp [hz]))];rfl
end
section
variable {k:Nat}{D:Prop}{E:aI}{X:List aI}{u:List aI}(hE:E.kind=0) (hX:IC X)
abbrev EqT:bS->bS->List aI->Prop:=fun a b _=>b=a
abbrev KG (k:Nat):bI->bI->List aI->Prop:=fun a b _=>b=NR k a
variable {typ Bq:Ps bS}(ht:∀u,aG k D E X EqT typ Bq u) {expr expr' unary KH:Ps bI}(he:∀u,aG k D E X (KG k) expr expr' u) (hu:∀u,aG k D E X (KG k) unary KH u)
include hE hX ht
theorem aG.Lb:aG k D E X EqT (kE typ) (kE Bq) u:=by
 refine(aG.jK hE hX (by decide)).then_ fun a b v hv ⟨e,h⟩=>?_;subst e;rcases a with _ |n
 ·refine(aG.jK hE hX (by decide)).then_ fun a b v hv ⟨e,h⟩=>?_;subst e;rcases a with _ |_ |n
  ·exact(aG.name hE).then_ fun a b v hv e=>by subst e;exact .ret rfl
  ·exact(ht _).then_ fun a b v hv e=>by subst e;exact(aG.want hE).then_ fun _ _ v _ _=>.ret rfl
  ·refine(aG.has hE hX (by decide)).then_ fun a b v hv ⟨e,h⟩=>?_;subst e;cases a
   ·refine(aG.sep (Q:=fun a b=>b=a) hE hX fun u=>?_).then_ fun a b v hv h=>?_
    ·exact(aG.name hE).then_ fun a b v hv e=>by subst e;exact(aG.want hE).then_ fun _ _ v _ _=>(ht _).then_ fun a b v hv e=>by subst e;exact .ret rfl
    ·obtain rfl:=KF h.1 h.2;exact(aG.want hE).then_ fun _ _ v _ _=>.ret rfl
   ·exact .ret rfl
 ·exact .ret rfl
theorem aG.alt (n:Nat):∀(u:List aI) (f g:Nat) (l:List bS),u.length<=n->u.length<f->u.length<g->
  aG k D E X (fun a b _=>b=a) (oH typ f l) (oH Bq g l) u:=by
 induction n with
 |zero=>
  intro u f g l hn hf hg;obtain⟨f,rfl⟩:∃f',f=f'+1:=⟨f - 1,by omega⟩
  obtain⟨g,rfl⟩:∃f',g=f'+1:=⟨g - 1,by omega⟩
  refine(aG.has hE hX (by decide)).then_ fun a b v hv ⟨e,h⟩=>?_;subst e;rcases h with⟨rfl,rfl⟩ |⟨t,rfl,rfl⟩
  ·exact .ret rfl
  ·simp at hn
 |succ n ih=>
  intro u f g l hn hf hg;obtain⟨f,rfl⟩:∃f',f=f'+1:=⟨f - 1,by omega⟩
  obtain⟨g,rfl⟩:∃f',g=f'+1:=⟨g - 1,by omega⟩
  refine(aG.has hE hX (by decide)).then_ fun a b v hv ⟨e,h⟩=>?_;subst e;rcases h with⟨rfl,rfl⟩ |⟨t,rfl,rfl⟩
  ·exact .ret rfl
  ·refine(aG.Lb hE hX ht).then_ fun a b v2 hv2 hab=>?_;subst hab;have:=jU hv2;simp only [List.length_cons]at hn hf hg;exact ih v2 f g _ (by omega) (by omega) (by omega)
theorem aG.ags:aG k D E X EqT (Ia typ) (Ia Bq) u:=by
 refine(aG.Lb hE hX ht).then_ fun a b v hv e=>?_;subst e;refine(aG.fuel (p:=fun n=>oH typ n [b]) (q:=fun n=>oH Bq n [b]) (fun f g hf hg=>aG.alt hE hX ht v.length v f g _ (Nat.le_refl _) hf hg) hX).then_ fun a b v hv e=>?_;subst e;refine(aG.has hE hX (by decide)).then_ fun a b v hv ⟨e,h⟩=>?_;subst e;cases a
 ·exact .ret rfl
 ·exact(ht _).then_ fun a b v hv e=>by subst e;exact .ret rfl
theorem aG.note (l n:List bS):aG k D E X (fun a b _=>b=a) (fO typ l n) (fO Bq l n) u:=by
 refine(aG.has hE hX (by decide)).then_ fun a b v hv ⟨e,h⟩=>?_;subst e;cases a
 ·exact .ret rfl
 ·exact(ht _).then_ fun a b v hv e=>by subst e;exact .ret rfl
theorem aG.head (n:List bS):aG k D E X (fun a b _=>b=a) (jY typ n) (jY Bq n) u:=by
 refine(aG.want hE).then_ fun _ _ v _ _=>(aG.name hE).then_ fun a b v hv e=>?_;subst e;refine(aG.note hE hX ht _ _).then_ fun a b v hv e=>?_;subst e;refine(aG.want hE).then_ fun _ _ v _ _=>(aG.note hE hX ht _ _).then_ fun a b v hv e=>?_;subst e;exact .ret rfl
omit ht hX
include he
theorem aG.kids:∀(a:List Bt) (l:List bI) {u:List aI},aG k D E X (fun a b _=>b=a.map (NR k)) (bH expr a l) (bH expr' a (l.map (NR k))) u
 | [],l,u=>.ret rfl
 |s :: r,l,u=>by
  refine aG.then_ (R:=fun _ _ _=>True) ?_ fun _ _ v _ _=>?_
  ·by_cases hs:s=[]
   ·rw [if_pos hs];exact .ret trivial
   ·rw [if_neg hs];exact(aG.want hE).mono fun _ _ _ _=>trivial
  ·refine(he _).then_ fun a b v hv e=>?_;subst e;have:=aG.kids r (l++[a]) (u:=v);rwa [List.map_append]at this
omit he
include hX
theorem aG.left {sub sub':Ps bI}(hs:∀u,aG k D E X (KG k) sub sub' u){ops:List Bt}(ho:∀s∈ops,s≠[41])(n:Nat):∀(u:List aI) (f g:Nat) (a:bI),u.length<=n->u.length<f->u.length<g->
  aG k D E X (KG k) (jN ops sub f a) (jN ops sub' g (NR k a)) u:=by
 induction n with
 |zero=>
  intro u f g l hn hf hg;obtain⟨f,rfl⟩:∃f',f=f'+1:=⟨f - 1,by omega⟩
  obtain⟨g,rfl⟩:∃f',g=f'+1:=⟨g - 1,by omega⟩
  refine aG.here.then_ fun a b v hv ⟨e,h1⟩=>?_;subst e;refine(aG.jK hE hX ho).then_ fun a b v hv ⟨e,h⟩=>?_;subst e;rcases h with⟨rfl,rfl⟩ |⟨t,i,rfl,rfl⟩
  ·exact .ret rfl
  ·simp at hn
 |succ n ih=>
  intro u f g l hn hf hg;obtain⟨f,rfl⟩:∃f',f=f'+1:=⟨f - 1,by omega⟩
  obtain⟨g,rfl⟩:∃f',g=f'+1:=⟨g - 1,by omega⟩
  refine aG.here.then_ fun a b v hv ⟨e,h1⟩=>?_;subst e;refine(aG.jK hE hX ho).then_ fun a b v hv ⟨e,h⟩=>?_;subst e;rcases h with⟨rfl,rfl⟩ |⟨t,i,rfl,rfl⟩
  ·exact .ret rfl
  ·obtain⟨rfl,rfl⟩:=h1 t v rfl;refine(hs v).then_ fun a b v2 hv2 hab=>?_;subst hab;have:=jU hv2;simp only [List.length_cons]at hn hf hg;exact ih v2 f g (aK 14 (ops.getD i []) 0 _ [] [] [l,a]) (by omega) (by omega) (by omega)
theorem aG.Wj {sub sub':Ps bI}(hs:∀u,aG k D E X (KG k) sub sub' u){ops:List Bt}(ho:∀s∈ops,s≠[41]):aG k D E X (KG k) (CU ops sub) (CU ops sub') u:=
 (hs u).then_ fun a b v hv e=>by
  subst e;exact aG.fuel (p:=fun n=>jN ops sub n a) (q:=fun n=>jN ops sub' n (NR k a)) (fun f g hf hg=>aG.left hE hX hs ho v.length v f g a (Nat.le_refl _) hf hg) hX
include ht
theorem aG.cmp {sub sub':Ps bI}(hs:∀u,aG k D E X (KG k) sub sub' u):aG k D E X (KG k) (La typ sub) (La Bq sub') u:=by
 refine(hs u).then_ fun x b v hv e=>?_;subst e;refine aG.here.then_ fun a b v hv ⟨e,h1⟩=>?_;subst e;refine(aG.jK hE hX (by decide)).then_ fun a b v hv ⟨e,h⟩=>?_;subst e;rcases h with⟨rfl,rfl⟩ |⟨t,i,rfl,rfl⟩
 ·exact .ret rfl
 ·obtain⟨rfl,rfl⟩:=h1 t v rfl;simp only;by_cases h3:i=3
  ·rw [if_pos h3,if_pos h3];refine(aG.jK hE hX (by decide)).then_ fun a b v hv ⟨e,h⟩=>?_;subst e;rcases a with _ |n
   ·exact aG.fail
   ·exact .ret rfl
  ·rw [if_neg h3,if_neg h3];by_cases h4:i=4
   ·rw [if_pos h4,if_pos h4];exact(ht _).then_ fun a b v hv e=>by subst e;exact .ret rfl
   ·rw [if_neg h4,if_neg h4];exact(hs _).then_ fun a b v hv e=>by subst e;exact .ret rfl
include hu
theorem aG.rank:∀(f:Nat) {u:List aI},f<=6->aG k D E X (KG k) (iF typ unary f) (iF Bq KH f) u
 |0,u,_=>hu u
 |f+1,u,hf=>by
  unfold iF;by_cases h3:f=3
  ·rw [if_pos h3,if_pos h3];exact aG.cmp hE hX ht fun u=>aG.rank f (by omega)
  ·rw [if_neg h3,if_neg h3];refine aG.Wj hE hX (fun u=>aG.rank f (by omega)) ?_;have:f=0∨f=1∨f=2∨f=4∨f=5:=by omega
   rcases this with rfl |rfl |rfl |rfl |rfl <;> decide
include he
theorem aG.Wm:aG k D E X (KG k) (CV typ expr unary) (CV Bq expr' KH) u:=by
 refine aG.here.then_ fun a b v hv ⟨e,h1⟩=>?_;subst e;refine(aG.jK hE hX (by decide)).then_ fun a b v hv ⟨e,h⟩=>?_;subst e;rcases h with⟨rfl,rfl⟩ |⟨t,i,rfl,rfl⟩
 ·exact aG.rank hE hX ht hu 6 (Nat.le_refl _)
 ·obtain⟨rfl,rfl⟩:=h1 t v rfl;rcases i with _ |_ |i
  ·refine(aG.name hE).then_ fun a b v hv e=>?_;subst e;refine(aG.note hE hX ht _ _).then_ fun a b v hv e=>?_;subst e;exact(aG.kids hE he _ []).then_ fun a b v hv e=>by subst e;exact .ret (rQ ..)
  ·exact(aG.kids hE he _ []).then_ fun a b v hv e=>by subst e;exact .ret (rQ ..)
  ·refine(aG.head hE hX ht _).then_ fun a b v hv e=>?_;subst e;exact(aG.kids hE he _ []).then_ fun a b v hv e=>by subst e;exact .ret (rQ ..)
omit hu ht hX
theorem aG.BJ:aG k D E X (fun a b _=>b=(a.1,NR k a.2)) (gI expr) (gI expr') u:=by
 refine(aG.name hE).then_ fun a b v hv e=>?_;subst e;refine(aG.want hE).then_ fun _ _ v _ _=>(he _).then_ fun a b v hv e=>?_;subst e;exact .ret rfl
include hX
theorem aG.Wn (t:aI):aG k D E X (KG k) (mI expr t) (mI expr' (GX k t)) u:=by
 have hX':=hX;obtain⟨x,X',rfl,hx⟩:=hX';refine aG.then_ (R:=fun a b v=>a=b∧v=u) ?_ fun a b v hv ⟨e,h⟩=>?_
 ·intro a r h;unfold nN at h ⊢;injection h with e1 e2;subst e1 e2;refine .inl ⟨u,_,rfl,List.suffix_refl _,rfl,?_,rfl⟩;cases u with
  |nil=>simp [aS,xY hE,Bp hx (s:=[125]) (by decide)]
  |cons t u=>simp [aS,aap]
 ·subst e h;cases a
  ·rw [if_neg Bool.false_ne_true,if_neg Bool.false_ne_true];refine aG.then_ (R:=fun a b w=>a=b∧w=v) ?_ fun a b v hv ⟨e,h⟩=>?_
   ·intro a r h;unfold nN at h ⊢;injection h with e1 e2;subst e1 e2;refine .inl ⟨v,_,rfl,List.suffix_refl _,rfl,?_,rfl⟩;rcases v with _ |⟨t,_ |⟨t2,v⟩⟩
    ·have hk:(x.kind==1)=false:=by rcases hx with hx |hx <;> simp [hx]
     simp [aS,hE,hk]
    ·simp [aS,xY hE,Bp hx (s:=[58]) (by decide)]
    ·simp [aS,aap];rfl
   ·subst e h;cases a
    ·rw [if_neg Bool.false_ne_true,if_neg Bool.false_ne_true];refine(aG.kids hE he _ []).then_ fun m b v hv e=>?_;subst e;refine(aG.want hE).then_ fun _ _ v _ _=>(aG.name hE).then_ fun a b v hv e=>?_;subst e;exact(aG.kids hE he _ m).then_ fun a b v hv e=>by subst e;exact .ret (rQ ..)
    ·rw [if_pos rfl,if_pos rfl];refine(aG.sep (Q:=fun a b=>b=(a.1,NR k a.2)) hE hX fun u=>aG.BJ hE he).then_ fun a b v hv h=>?_;obtain rfl:=zip_map (φ:=fun a:Bt ×bI=>(a.1,NR k a.2)) h.1 h.2;exact .ret (by have:=rQ k 8 [] 0 t [] (a.map (·.1)) (a.map (·.2));simpa [Function.comp_def]using this)
  ·exact .ret (pQ ..)
omit he
include ht
theorem aG.named {h h':aI}(hh:∀t r,u=t :: r->h=t∧h'=GX k t):aG k D E X (KG k) (oJ typ h) (oJ Bq h') u:=by
 refine(aG.kind hE (by decide)).then_ fun a b v hv ⟨e,t,hu,_⟩=>?_;subst e;obtain⟨rfl,rfl⟩:=hh t v hu;refine(aG.has hE hX (by decide)).then_ fun a b v hv ⟨e,h⟩=>?_;subst e;cases a
 ·exact .ret (pQ ..)
 ·refine(aG.sep (Q:=fun a b=>b=a) hE hX fun u=>ht u).then_ fun a b v hv h=>?_;obtain rfl:=KF h.1 h.2;exact(aG.want hE).then_ fun _ _ v _ _=>.ret (pQ ..)
include he
theorem aG.atom:aG k D E X (KG k) (qU typ expr) (qU Bq expr') u:=by
 have hX':=hX;obtain⟨x,X',rfl,hx⟩:=hX';have hxk:∀n:Int,n=3∨n=4->x.kind≠n:=by
  intro n hn h;rcases hx with h1 |⟨h1,_⟩ <;> omega
 refine aG.then_ (R:=fun h h' v=>v=u∧(∀t r,u=t :: r->h=t∧h'=GX k t)∧(u=[]->h=E∧h'=x)) ?_ fun h h' v hv ⟨e,hh,hn⟩=>?_
 ·intro a r h;unfold jM at h ⊢;injection h with e1 e2;subst e1 e2;refine .inl ⟨u,_,rfl,List.suffix_refl _,rfl,rfl,?_,?_⟩
  ·rintro t r rfl;exact⟨rfl,rfl⟩
  ·rintro rfl;exact⟨rfl,rfl⟩
 ·subst e;have hk:(h.kind=3↔h'.kind=3)∧(h.kind=4↔h'.kind=4):=by
   cases v with
   |nil=>
    obtain⟨rfl,rfl⟩:=hn rfl;have h3:=hxk 3 (.inl rfl);have h4:=hxk 4 (.inr rfl);rw [hE];exact⟨⟨fun h=>(by cases h),fun h=>absurd h h3⟩,⟨fun h=>(by cases h),fun h=>absurd h h4⟩⟩
   |cons t r=>
    obtain⟨rfl,rfl⟩:=hh t r rfl;exact⟨Iff.rfl,Iff.rfl⟩
  by_cases h3:h.kind=3
  ·rw [if_pos h3,if_pos (hk.1.1 h3)];refine(aG.kind hE (by decide)).then_ fun a b w hv ⟨e,t,hu,_⟩=>?_;subst e;obtain⟨rfl,rfl⟩:=hh t w hu;exact .ret (pQ ..)
  ·rw [if_neg h3,if_neg (fun h=>h3 (hk.1.2 h))];by_cases h4:h.kind=4
   ·rw [if_pos h4,if_pos (hk.2.1 h4)];refine(aG.kind hE (by decide)).then_ fun a b w hv ⟨e,t,hu,_⟩=>?_;subst e;obtain⟨rfl,rfl⟩:=hh t w hu;exact .ret (pQ ..)
   ·rw [if_neg h4,if_neg (fun h=>h4 (hk.2.2 h))];refine(aG.jK hE hX (by decide)).then_ fun a b w hv ⟨e,h1⟩=>?_;subst e;rcases h1 with⟨rfl,rfl⟩ |⟨t,i,rfl,rfl⟩
    ·exact aG.named hE hX ht hh
    ·obtain⟨rfl,rfl⟩:=hh t w rfl;rcases i with _ |_ |_ |_ |_ |_ |i
     ·exact .ret (pQ ..)
     ·exact .ret (pQ ..)
     ·exact .ret (pQ ..)
     ·exact(aG.wants hE _).then_ fun _ _ v _ _=>.ret (pQ ..)
     ·exact(aG.kids hE he _ []).then_ fun a b v hv e=>by subst e;exact(aG.want hE).then_ fun _ _ v _ _=>.ret (rQ ..)
     ·exact(he _).then_ fun a b v hv e=>by subst e;exact(aG.want hE).then_ fun _ _ v _ _=>.ret rfl
     ·exact(aG.Wn hE hX he _).then_ fun a b v hv e=>by subst e;exact(aG.want hE).then_ fun _ _ v _ _=>.ret rfl
omit ht
theorem aG.Lc (n:Nat):∀(u:List aI) (f g:Nat) (a:bI),u.length<=n->u.length<f->u.length<g->
  aG k D E X (KG k) (gJ expr f a) (gJ expr' g (NR k a)) u:=by
 induction n with
 |zero=>
  intro u f g l hn hf hg;obtain⟨f,rfl⟩:∃f',f=f'+1:=⟨f - 1,by omega⟩
  obtain⟨g,rfl⟩:∃f',g=f'+1:=⟨g - 1,by omega⟩
  refine aG.here.then_ fun a b v hv ⟨e,h1⟩=>?_;subst e;refine(aG.jK hE hX (by decide)).then_ fun a b v hv ⟨e,h⟩=>?_;subst e;rcases h with⟨rfl,rfl⟩ |⟨t,i,rfl,rfl⟩
  ·exact .ret rfl
  ·simp at hn
 |succ n ih=>
  intro u f g l hn hf hg;obtain⟨f,rfl⟩:∃f',f=f'+1:=⟨f - 1,by omega⟩
  obtain⟨g,rfl⟩:∃f',g=f'+1:=⟨g - 1,by omega⟩
  refine aG.here.then_ fun a b v hv ⟨e,h1⟩=>?_;subst e;refine(aG.jK hE hX (by decide)).then_ fun a b v hv ⟨e,h⟩=>?_;subst e;rcases h with⟨rfl,rfl⟩ |⟨t,i,rfl,rfl⟩
  ·exact .ret rfl
  ·obtain⟨rfl,rfl⟩:=h1 t v rfl;simp only [List.length_cons]at hn hf hg;rcases i with _ |i
   ·refine(aG.kids hE he _ [l]).then_ fun a b v1 hv1 e=>?_;subst e;refine(aG.want hE).then_ fun _ _ v2 hv2 _=>?_;have:=jU hv2;have:=jU hv1;have h:=fun x:aI=>ih v2 f g (aK 7 [] 0 x [] [] a) (by omega) (by omega) (by omega);simp only [<-rQ]at h;exact h _
   ·refine(aG.name hE).then_ fun a b v2 hv2 e=>?_;subst e;have:=jU hv2;exact ih v2 f g (aK 9 a 0 _ [] [] [l]) (by omega) (by omega) (by omega)
include ht
theorem aG.post:aG k D E X (KG k) (oO typ expr) (oO Bq expr') u:=
 (aG.atom hE hX ht he).then_ fun a b v hv e=>by
  subst e;exact aG.fuel (p:=fun n=>gJ expr n a) (q:=fun n=>gJ expr' n (NR k a)) (fun f g hf hg=>aG.Lc hE hX he v.length v f g a (Nat.le_refl _) hf hg) hX
include hu
theorem aG.OZ:aG k D E X (KG k) (wz typ expr unary) (wz Bq expr' KH) u:=by
 refine aG.here.then_ fun a b v hv ⟨e,h1⟩=>?_;subst e;refine(aG.jK hE hX (by decide)).then_ fun a b v hv ⟨e,h⟩=>?_;subst e;rcases h with⟨rfl,rfl⟩ |⟨t,i,rfl,rfl⟩
 ·exact aG.post hE hX ht he
 ·obtain⟨rfl,rfl⟩:=h1 t v rfl;rcases i with _ |i
  ·exact(hu _).then_ fun a b v hv e=>by subst e;exact .ret rfl
  ·exact(hu _).then_ fun a b v hv e=>by subst e;exact .ret rfl
end
theorem aG.O1 {k:Nat}{E:aI}{X:List aI}(hE:E.kind=0)(hX:IC X):∀(m n:Nat),m<=n->
  (∀u,aG k (m<n) E X EqT (cB n).typ (cB m).typ u)∧(∀u,aG k (m<n) E X (KG k) (cB n).expr (cB m).expr u)∧(∀u,aG k (m<n) E X (KG k) (cB n).unary (cB m).unary u)
 |0,0,_=>⟨fun u=>aG.fail,fun u=>aG.fail,fun u=>aG.fail⟩
 |0,n+1,_=>⟨fun u a r h=>.inr ⟨by omega,_,_,rfl⟩,fun u a r h=>.inr ⟨by omega,_,_,rfl⟩,fun u a r h=>.inr ⟨by omega,_,_,rfl⟩⟩
 |m+1,0,h=>absurd h (by omega)
 |m+1,n+1,h=>by
  have h1:=aG.O1 (k:=k) hE hX m n (by omega);have e:(m+1<n+1)=(m<n):=by simp
  rw [e];obtain⟨h1,h2,h3⟩:=h1;exact⟨fun u=>aG.ags hE hX h1,fun u=>aG.Wm hE hX h1 h2 h3,fun u=>aG.OZ hE hX h1 h2 h3⟩
theorem Vr {t:Bt}{kd:Int}(h:JK kd t):kd≠0∧(kd=2->t≠[58]):=by
 obtain⟨h1,_,h2,_⟩:=h;refine⟨by omega,fun e=>?_⟩;have:=h2 e;rintro rfl;exact absurd this (by decide)
theorem JA:∀(f:Nat) (s:Bt) (p:Nat ×Nat) (out:List aI),(oF f s p out).2.2.2=0->(oF f s p out).2=(0,0,0)
 |0,s,p,out,h=>rfl
 |f+1,s,p,out,h=>by
  rw [oF]at h ⊢;by_cases hnil:s.drop (bJ s)=[]
  ·rw [if_pos hnil]
  ·rw [if_neg hnil]at h ⊢;cases hn:dV (s.drop (bJ s))with
   |inl e=>
    rw [hn]at h;exact absurd h (xD hn)
   |inr x=>
    obtain⟨kd,t,n⟩:=x;rw [hn]at h;simp only at h ⊢;by_cases h8:out.length=8192
    ·rw [if_pos h8]at h;exact absurd (show(19:Int)=0 from h) (by decide)
    ·rw [if_neg h8]at h ⊢;exact JA f _ _ _ h
theorem Br {s:Bt}(h:(fQ s).2.2.2=0):(fQ s).2=(0,0,0):=by
 by_cases hs:65536<s.length
 ·unfold fQ at h;rw [if_pos hs]at h;exact absurd (show(2:Int)=0 from h) (by decide)
 ·rw [Wd s (by omega)]at h ⊢;exact JA _ _ _ _ h
theorem ac1 {s:Bt}{l:List aI}(h:fQ s=(l,(0,0,0))):∃m e,l=m++[e]∧e.kind=0∧(∀t∈m,JK t.kind t.text)∧m.length<=s.length∧Wf l:=by
 by_cases hs:65536<s.length
 ·unfold fQ at h;rw [if_pos hs]at h;cases h
 ·rw [Wd s (by omega)]at h;obtain⟨m,e,h1,h2,_,h3,h4,_⟩:=IV _ s (1,1) [] (Nat.lt_succ_self _) (by rw [h]);rw [h]at h1;injection h1 with h1 _;rw [List.nil_append]at h1;exact⟨m,e,h1,h2,h4,h3,m,e,h1,h2,fun t ht=>Vr (h4 t ht)⟩
def bI.line:bI->Int |.mk _ _ _ l _ _ _ _=>l
def bI.col:bI->Int |.mk _ _ _ _ c _ _ _=>c
def shI (k:Nat)(i:yY):yY:={ i with line:=i.line+k}
def shD (k:Nat)(d:vW):vW:={ d with line:=d.line+k,body:=NR k d.body}
def shM (k:Nat)(m:Hw):Hw:=⟨m.imps.map (shI k),m.decls.map (shD k)⟩
section
variable {k:Nat}{E x:aI}(hE:E.kind=0) (hx:x.kind=0) {u:List aI}
include hE hx
theorem aG.aiS:(∀u,aG k False E [x] EqT (cB 100).typ (cB 100).typ u)∧(∀u,aG k False E [x] (KG k) (cB 100).expr (cB 100).expr u):=by
 have h:=aG.O1 (k:=k) hE ⟨x,[],rfl,.inl hx⟩ 100 100 (Nat.le_refl _);have e:(100<100)=False:=by simp
 rw [e]at h;exact⟨h.1,h.2.1⟩
theorem aG.var:aG k False E [x] (fun a b _=>b=a) EN EN u:=by
 have hX:IC [x]:=⟨x,[],rfl,.inl hx⟩
 refine(aG.name hE).then_ fun a b v hv e=>?_;subst e;refine(aG.has hE hX (by decide)).then_ fun c b v hv ⟨e,h⟩=>?_;subst e;cases c
 ·exact .ret rfl
 ·exact((aG.aiS hE hx).1 _).then_ fun a b v hv e=>by subst e;exact .ret rfl
theorem aG.vars:aG k False E [x] (fun a b _=>b=a) wB wB u:=by
 have hX:IC [x]:=⟨x,[],rfl,.inl hx⟩
 refine(aG.has hE hX (by decide)).then_ fun c b v hv ⟨e,h⟩=>?_;subst e;cases c
 ·exact .ret rfl
 ·refine(aG.sep (Q:=fun a b=>b=a) hE hX fun u=>aG.var hE hx).then_ fun a b v hv h=>?_;obtain rfl:=KF h.1 h.2;exact(aG.want hE).then_ fun _ _ v _ _=>.ret rfl
theorem aG.import_ (t:aI):aG k False E [x] (fun a b _=>b=shI k a) (o8 t) (o8 (GX k t)) u:=by
 have hX:IC [x]:=⟨x,[],rfl,.inl hx⟩
 refine(aG.name hE).then_ fun a b v hv e=>?_;subst e;refine(aG.want hE).then_ fun _ _ v _ _=>(aG.sep (Q:=fun a b=>b=a) hE hX fun u=>(aG.name hE).mono fun _ _ _ e=>e.symm).then_ fun a b v hv h=>?_;obtain rfl:=KF h.1 h.2;exact(aG.want hE).then_ fun _ _ v _ _=>.ret (by simp [shI,GX])
theorem aG.decl:aG k False E [x] (fun a b v=>b=shD k a∧v.length<u.length) vo vo u:=by
 have hX:IC [x]:=⟨x,[],rfl,.inl hx⟩
 refine(aG.has hE hX (by decide)).then_ fun c b v0 hv0 ⟨e,_⟩=>?_;subst e;refine aG.here.then_ fun h h' v hv ⟨e,h1⟩=>?_;subst e;refine(aG.want hE).then_ fun _ _ v1 _ ⟨t,ht⟩=>?_;obtain⟨rfl,rfl⟩:=h1 _ _ ht;have hlt:v1.length<u.length:=by have:=jU hv0;rw [ht]at this;simp at this;omega
 refine(aG.name hE).then_ fun a b v2 hv2 e=>?_;subst e;refine(aG.vars hE hx).then_ fun a b v3 hv3 e=>?_;subst e;refine(aG.head hE hX (aG.aiS hE hx).1 _).then_ fun a b v4 hv4 e=>?_;subst e;refine(aG.want hE).then_ fun _ _ v5 hv5 _=>((aG.aiS hE hx).2 _).then_ fun a b v6 hv6 e=>?_;subst e;refine(aG.want hE).then_ fun _ _ v7 hv7 _=>.ret ⟨by simp [shD,GX],?_⟩;have:=jU hv2;have:=jU hv3;have:=jU hv4;have:=jU hv5;have:=jU hv6;have:=jU hv7;omega
theorem aG.imps (n:Nat):∀(u:List aI) (f g:Nat) (l:List yY),u.length<=n->u.length<f->u.length<g->
  aG k False E [x] (fun a b _=>b=a.map (shI k)) (qV f l) (qV g (l.map (shI k))) u:=by
 have hX:IC [x]:=⟨x,[],rfl,.inl hx⟩
 induction n with
 |zero=>
  intro u f g l hn hf hg;obtain⟨f,rfl⟩:∃f',f=f'+1:=⟨f - 1,by omega⟩
  obtain⟨g,rfl⟩:∃f',g=f'+1:=⟨g - 1,by omega⟩
  refine aG.here.then_ fun a b v hv ⟨e,h1⟩=>?_;subst e;refine(aG.has hE hX (by decide)).then_ fun a b v hv ⟨e,h⟩=>?_;subst e;rcases h with⟨rfl,rfl⟩ |⟨t,rfl,rfl⟩
  ·exact .ret rfl
  ·simp at hn
 |succ n ih=>
  intro u f g l hn hf hg;obtain⟨f,rfl⟩:∃f',f=f'+1:=⟨f - 1,by omega⟩
  obtain⟨g,rfl⟩:∃f',g=f'+1:=⟨g - 1,by omega⟩
  refine aG.here.then_ fun a b v hv ⟨e,h1⟩=>?_;subst e;refine(aG.has hE hX (by decide)).then_ fun a b v hv ⟨e,h⟩=>?_;subst e;rcases h with⟨rfl,rfl⟩ |⟨t,rfl,rfl⟩
  ·exact .ret rfl
  ·obtain⟨rfl,rfl⟩:=h1 t v rfl;refine(aG.import_ hE hx _).then_ fun a b v2 hv2 hab=>?_;subst hab;have:=jU hv2;simp only [List.length_cons]at hn hf hg;have h:=ih v2 f g (l++[a]) (by omega) (by omega) (by omega);rwa [List.map_append]at h
theorem aG.decls (n:Nat):∀(u:List aI) (f g:Nat) (l:List vW),Wf (u++[E])->u.length<=n->u.length<f->u.length<g->
  aG k False E [x] (fun a b _=>b=a.map (shD k)) (iA f l) (iA g (l.map (shD k))) u:=by
 induction n with
 |zero=>
  intro u f g l hw hn hf hg;obtain⟨f,rfl⟩:∃f',f=f'+1:=⟨f - 1,by omega⟩
  obtain⟨g,rfl⟩:∃f',g=f'+1:=⟨g - 1,by omega⟩
  obtain rfl:u=[]:=List.eq_nil_of_length_eq_zero (by omega);have e1:iA (f+1) l [E]=.good l [E]:=by unfold iA;rw [au (show nN (fun t _=>t.kind==0) [E]=.good (E.kind==0) [E]from rfl),hE];rfl
  have e2:iA (g+1) (l.map (shD k)) [x]=.good (l.map (shD k)) [x]:=by unfold iA;rw [au (show nN (fun t _=>t.kind==0) [x]=.good (x.kind==0) [x]from rfl),hx];rfl
  intro a r h;rw [List.nil_append,e1]at h;injection h with h1 h2;subst h1 h2;exact .inl ⟨[],_,rfl,List.suffix_refl _,e2,rfl⟩
 |succ n ih=>
  intro u f g l hw hn hf hg;obtain⟨f,rfl⟩:∃f',f=f'+1:=⟨f - 1,by omega⟩
  obtain⟨g,rfl⟩:∃f',g=f'+1:=⟨g - 1,by omega⟩
  cases u with
  |nil=>
   have e1:iA (f+1) l [E]=.good l [E]:=by unfold iA;rw [au (show nN (fun t _=>t.kind==0) [E]=.good (E.kind==0) [E]from rfl),hE];rfl
   have e2:iA (g+1) (l.map (shD k)) [x]=.good (l.map (shD k)) [x]:=by unfold iA;rw [au (show nN (fun t _=>t.kind==0) [x]=.good (x.kind==0) [x]from rfl),hx];rfl
   intro a r h;rw [List.nil_append,e1]at h;injection h with h1 h2;subst h1 h2;exact .inl ⟨[],_,rfl,List.suffix_refl _,e2,rfl⟩
  |cons t u=>
   have ht:t.kind≠0:=by
    rcases hw.cases with⟨e,he,_⟩ |⟨t',r,he,h1,_⟩
    ·simp at he
    ·injection he with he _;rw [he];exact h1
   intro a r h;unfold iA at h ⊢;rw [au (show nN (fun t _=>t.kind==0) (t :: u++[E])=.good (t.kind==0) (t :: u++[E])from rfl),beq_false_of_ne ht]at h;rw [au (show nN (fun t _=>t.kind==0) ((t :: u).map (GX k)++[x])=.good (t.kind==0) ((t :: u).map (GX k)++[x])from rfl),beq_false_of_ne ht];simp only [Bool.false_eq_true,if_false]at h ⊢;rcases hp:vo (t :: u++[E])with d |⟨d,r1⟩
   ·rw [aC hp]at h;cases h
   ·obtain⟨hr1,_⟩:=Sf.decl.good hw hp;rw [au hp]at h;rcases aG.decl (k:=k) hE hx (u:=t :: u) d r1 hp with⟨v,b,rfl,hv,hq,rfl,hlt⟩ |⟨hD,_⟩
    ·have:=ih v f g (l++[d]) hr1 (by simp only [List.length_cons]at*;omega) (by simp only [List.length_cons]at*;omega) (by simp only [List.length_cons]at*;omega);rcases this a r h with⟨v2,b2,e1,e2,e3,e4⟩ |⟨hD,_⟩
     ·refine .inl ⟨v2,b2,e1,e2.trans hv,?_,e4⟩;rw [au hq];rw [List.map_append]at e3;exact e3
     ·exact hD.elim
    ·exact hD.elim
theorem aG.module (hw:Wf (u++[E])):aG k False E [x] (fun a b _=>b=shM k a) eH eH u:=by
 have hX:IC [x]:=⟨x,[],rfl,.inl hx⟩
 intro a r h;unfold eH at h ⊢;rcases hp:Q9 (u++[E])with d |⟨i,r1⟩
 ·rw [aC hp]at h;cases h
 ·obtain⟨hr1,_⟩:=(Sf.fuel (p:=fun ts=>qV ts.length []) fun ts=>Sf.imps _ _).good hw hp;rw [au hp]at h;rcases(aG.fuel (p:=fun n=>qV n []) (q:=fun n=>qV n []) (fun f g hf hg=>aG.imps (k:=k) hE hx u.length u f g [] (Nat.le_refl _) hf hg) hX) i r1 hp with⟨v,b,rfl,hv,hq,rfl⟩ |⟨hD,_⟩
  ·have h3:=(aG.fuel (p:=fun n=>iA n []) (q:=fun n=>iA n []) (fun f g hf hg=>aG.decls (k:=k) hE hx v.length v f g [] hr1 (Nat.le_refl _) hf hg) hX).then_ (f:=fun d=>aF (Hw.mk i d)) (g:=fun d=>aF (Hw.mk (i.map (shI k)) d)) (S:=fun a b _=>b=shM k a) (fun a b w hw e=>by subst e;exact .ret rfl);rcases h3 a r h with⟨v2,b2,e1,e2,e3,e4⟩ |⟨hD,_⟩
   ·refine .inl ⟨v2,b2,e1,e2.trans hv,?_,e4⟩;rw [au (show Q9 _= _ from hq)];exact e3
   ·exact hD.elim
  ·exact hD.elim
end
theorem aaq {s:Bt}{kd:Int}{t:Bt}{n:Nat}(h:dV s=.inr (kd,t,n)):t.length<=s.length+256:=by
 cases s with
 |nil=>simp [dV]at h
 |cons c r=>
  rw [dV]at h;split at h
  ·split at h
   ·cases h
   ·split at h
    ·injection h with h;simp only [Prod.mk.injEq]at h;rw [<-h.2.1,List.length_take];omega
    ·injection h with h;simp only [Prod.mk.injEq]at h;rw [<-h.2.1,List.length_take];omega
  ·split at h
   ·split at h
    ·injection h with h;simp only [Prod.mk.injEq]at h;rw [<-h.2.1,List.length_take];omega
    ·cases h
   ·split at h
    ·split at h
     ·cases h
     ·split at h
      ·cases h
      ·injection h with h;simp only [Prod.mk.injEq]at h;rw [<-h.2.1];omega
    ·split at h
     ·injection h with h;simp only [Prod.mk.injEq]at h;rw [<-h.2.1,List.length_take];omega
     ·split at h
      ·injection h with h;simp only [Prod.mk.injEq]at h;rw [<-h.2.1];simp
      ·cases h
theorem Tt (M:Nat):∀(f:Nat) (s:Bt) (p:Nat ×Nat) (out:List aI),s.length+256<=M->(∀t∈out,t.text.length<=M)->∀t∈(oF f s p out).1,t.text.length<=M
 |0,s,p,out,hs,ho=>fun t ht=>by cases ht
 |f+1,s,p,out,hs,ho=>by
  rw [oF];split
  ·intro t ht;rcases List.mem_append.1 ht with ht |ht
   ·exact ho t ht
   ·simp only [List.mem_singleton]at ht;subst ht;simp
  ·split
   ·intro t ht;cases ht
   ·rename_i kd t n hn
    split
    ·intro t ht;cases ht
    ·refine Tt M f _ _ _ (by simp only [List.length_drop];omega) fun x hx=>?_;rcases List.mem_append.1 hx with hx |hx
     ·exact ho x hx
     ·simp only [List.mem_singleton]at hx;subst hx;have:=aaq hn;simp only [List.length_drop]at this;show t.length<=M;omega
theorem Bu {s:Bt}(h:(fQ s).2.2.2=0):Pf (fQ s).1∧Wf (fQ s).1:=by
 have hz:=Br h;obtain⟨m,e,h1,h2,h3,h4,h5⟩:=ac1 (s:=s) (l:=(fQ s).1) (by rw [<-hz]);refine⟨⟨aad s,?_⟩,h5⟩;by_cases hs:65536<s.length
 ·have:(fQ s).1=[]:=by unfold fQ;rw [if_pos hs]
  rw [this];simp
 ·unfold fQ;rw [if_neg hs];exact Tt 100000 _ s _ _ (by omega) (by simp)
abbrev vZ (d:CS):Value:= .agg #[.int .i64 0,.int .i64 d.1,.int .i64 d.2.1,.int .i64 d.2.2]
abbrev dgC (d:CS):Array Value:= #[.int .i64 0,.int .i64 d.1,.int .i64 d.2.1,.int .i64 d.2.2]
theorem oN {P:Program}{fn:Func}{R:Ending->World->Prop}{t0 t1:Tmp}{T0 T1:TypeId}{dst:Option Tmp}{v:Value}(hr:fn.results= #[.cell t0 T0,.cell t1 T1])(hd:dst≠some t0)(hd1:dst≠some t1)(c:List PanicEntry)(a:Act)(w:World)(h:bodyPostD P fn R (.panic c) (a.put dst v) w):bodyPostD P fn R (.panic c) a w:=by
 cases dst with
 |none=>exact h
 |some d=>
  have hne:d≠t0:=fun e=>hd (by rw [e]);have hne1:d≠t1:=fun e=>hd1 (by rw [e]);have e:results fn (a.tmps.setIfInBounds d v)=results fn a.tmps:=by
   simp [results,hr,Array.getElem?_setIfInBounds_ne hne,Array.getElem?_setIfInBounds_ne hne1]
  exact qY e a.defers _ _ h
theorem dH {P:Program}{fn:Func}{t u:Tmp}{T U:TypeId}{tmps:Array Value}{w:World}{b b':Nat}{cs cs':Array Value}{S S':TypeId}{d d':TypeDesc}(h:fn.results= #[.cell t T,.cell u U])(ht:tmps.getD t undef=.pointer (some ⟨b,0,none⟩))(hu':tmps.getD u undef=.pointer (some ⟨b',0,none⟩))(hb:w.heap[b]? =some (.cells cs S (0,0)))(hb':w.heap[b']? =some (.cells cs' S' (0,0)))
  (hu:P.underlying T=some d) (hd:(match d with |.struct _ |.array _ _=>true |_=>false)=true) (hi:(P.info? T).map (·.size)=some cs.size)
  (hU:P.underlying U=some d') (hd':(match d' with |.struct _ |.array _ _=>true |_=>false)=true) (hi':(P.info? U).map (·.size)=some cs'.size):(results fn tmps).run P w=.ok (.tuple #[.agg cs,.agg cs']) w:=by
 have h1:=run_loadVar_row (P:=P) w b S T cs (0,0) d hb hu hd hi;have h3:=run_loadVar_row (P:=P) w b' S' U cs' (0,0) d' hb' hU hd' hi';have e:tmps[t]?.getD undef=.pointer (some ⟨b,0,none⟩):=by simpa using ht
 have e':tmps[u]?.getD undef=.pointer (some ⟨b',0,none⟩):=by simpa using hu'
 have h2:(asAddr (.pointer (some ⟨b,0,none⟩))).run P w=.ok ⟨b,0,none⟩ w:=rfl;have h2':(asAddr (.pointer (some ⟨b',0,none⟩))).run P w=.ok ⟨b',0,none⟩ w:=rfl;simp [results,h,e,e',h1,h2,h2',h3]
def D9 {α:Type}(q:Pr α):Option α ×CS:=match q with
 |.bad d=>(none,d)
 |.good x _=>(some x,(0,0,0))
theorem xZ {α:Type}{p:Ps α}{s:Bt}{T:List aI}(h:fQ s=(T,((0,0,0):Nat ×Nat ×Int))):dn p s=D9 (aj p (fun x=>aj (dB 0) fun _=>aF x) T):=by
 unfold dn;rw [h];rw [if_pos rfl];rcases hq:aj p (fun x=>aj (dB 0) fun _=>aF x) T with g |⟨x,r⟩ <;> simp only [hq] <;> rfl
def vN {α:Type}(p:Ps α)(s:Bt)(zero:α):α:=(dn p s).1.getD zero
def Dy:Hw:=⟨[],[]⟩
def rR:bI:= .mk 0 [] 0 0 0 [] [] []
def Dz:bS:= .mk 0 [] [] []
theorem aar (p q:Addr)(w:World):
  CallsD Tryz.prog 87 #[.pointer (some p),.pointer (some q)] .returning w fun e u' w'=>e=.returned (.tuple #[])∧u'=.returning∧w'=w:=by
 refine callsD_of_wpS Tryz.func87 rfl fun c₀ cs hu=>?_;apply wpS_seq;apply wpS_region;simp [wpOpsS,go_sem,recoverD,hu,Tryz.ntmps87,Exit.thenS];refine wpS_of_wp ?_;change Code.wp _ _ _ { tmps:= #[.pointer (some p),.pointer (some q),.nilIface,undef,undef,undef,.nilIface,undef,undef,undef,undef,undef,undef,undef,undef,undef,undef,undef,undef,undef],defers:=[]} w
 go_wp2
 exact⟨rfl,.returning,by rw [<-hu],.tuple #[],results_none rfl _ _ _,rfl,rfl,rfl⟩
theorem JB (pb qb:Nat)(hne:pb≠qb)(g:CS)(older:List PanicEntry)(w:World){a0 a1:Value}(hp:w.heap[pb]? =some (.cells #[a0,a1] 40 (0,0)))(hq:w.heap[qb]? =some (.cells #[.int .i64 0,.int .i64 0,.int .i64 0,.int .i64 0] 45 (0,0))):
  CallsD Tryz.prog 87 #[.pointer (some ⟨pb,0,none⟩),.pointer (some ⟨qb,0,none⟩)] (.panicking ({ v:= .iface 146 (vZ g),recovered:=false} :: older)) w fun e u' w'=>e=.returned (.tuple #[])∧u'=.panicking ({ v:= .iface 146 (vZ g),recovered:=true} :: older)∧
   Turn (fun k=>k=pb∨k=qb) w w'∧w'.heap[pb]? =some (.cells #[.slice none 0 0,.slice none 0 0] 40 (0,0))∧w'.heap[qb]? =some (.cells (dgC g) 45 (0,0)):=by
 have hta:∀w:World,(Instr.typeAssert (.iface 146 (vZ g)) 20 146 true).run Tryz.prog w=.ok (.tuple #[vZ g,.bool true]) w:=fun _=>by kernel_rfl
 have hpl:=block_lt hp;have hql:=block_lt hq;have HP:=aZ hp;have HQ:=aZ hq;clear hp hq;refine callsD_of_wpS Tryz.func87 rfl fun c₀ cs hu=>?_;apply wpS_seq;apply wpS_region;simp [wpOpsS,go_sem,recoverD,hu,Tryz.ntmps87,Exit.thenS];refine wpS_of_wp ?_;change Code.wp _ _ _ { tmps:= #[.pointer (some ⟨pb,0,none⟩),.pointer (some ⟨qb,0,none⟩),.iface 146 (vZ g),undef,undef,undef,.iface 146 (vZ g),undef,undef,undef,undef,undef,undef,undef,undef,undef,undef,undef,undef,undef],defers:=[]} w;obtain⟨W2,hW2⟩:∃W2,(w.alloc (.cells (dgC g) 146)).alloc (.cells #[.slice none 0 0,.slice none 0 0] 40)=W2:=⟨_,rfl⟩
 have hs2:W2.heap.size=w.heap.size+2:=by rw [<-hW2];simp
 obtain⟨tw,_,hbb,hzb⟩:=iJ (G:=fun _=>False) (Turn.refl _ ((w.alloc (.cells (dgC g) 146)).alloc (.cells #[.slice none 0 0,.slice none 0 0] 40)));rw [hW2]at tw hbb hzb;have HW2:=aZ hW2;have hp2:=ah HP.o tw id;have hq2:=ah HQ.o tw id;have OD:=aZ hp2;have jI:=aZ hq2;have Vq:=aZ tw;obtain⟨b0,b1,b2,b3,bz⟩:=aX (hbb id);have hz2:=hzb id;have HZ2:=aZ hz2;clear hW2 tw hbb hzb;go_wp2_with fail;rw [HW2.o];have HD0:bN (Turn (fun j=>j=pb∨j=qb) W2 W2.drew):=aZ ⟨rfl,rfl,rfl,Nat.le_refl _,fun _ _ _=>rfl⟩;have PZ:=aZ (fun(w':World) (h:Turn (fun j=>j=pb∨j=qb) W2 w')=>(⟨aN ((cell_of_row _ _ 0 _ _ _ hz2).trans rfl) h (by omega),aN ((cell_of_row _ _ 1 _ _ _ hz2).trans rfl) h (by omega)⟩:w'.cell? ⟨w.heap.size+1,0,none⟩=some (.slice none 0 0)∧w'.cell? ⟨w.heap.size+1,1,none⟩=some (.slice none 0 0)));have PB:=aZ (fun(w':World) (h:Turn (fun j=>j=pb∨j=qb) W2 w')=>(⟨aN b0 h (by omega),aN b1 h (by omega),aN b2 h (by omega),aN b3 h (by omega)⟩:w'.cell? ⟨w.heap.size,0,none⟩=some (.int .i64 0)∧w'.cell? ⟨w.heap.size,1,none⟩=some (.int .i64 g.1)∧w'.cell? ⟨w.heap.size,2,none⟩=some (.int .i64 g.2.1)∧w'.cell? ⟨w.heap.size,3,none⟩=some (.int .i64 g.2.2)));clear hz2 b0 b1 b2 b3 bz;refine bP (S:=fun w'=>Turn (fun j=>j=pb∨j=qb) W2 w') (x:=4) (by kernel_rfl) ?_
 try simp only [Act.put,sq]
 refine jG 0 (.agg #[.slice none 0 0,.slice none 0 0]) PZ.o HD0.o ?_;refine tx 1 (.pointer (some ⟨w.heap.size,0,none⟩)) HD0.o ?_;refine jG 2 (vZ g) PB.o HD0.o ?_;have qC:∀X:World,X.drew.heap=X.heap:=fun _=>rfl;have hdr:∀(G:Nat->Prop) (X:World),Turn G X X.drew:=fun _ _=>⟨rfl,rfl,rfl,Nat.le_refl _,fun _ _ _=>rfl⟩
 have tA:=((ak W2 (pb) 0 (.slice none 0 0)).trans (ak _ (pb) 1 (.slice none 0 0)) (fun _ _ h=>h))
 have hpA:((W2.setCell ⟨pb,0,none⟩ (.slice none 0 0)).setCell ⟨pb,1,none⟩ (.slice none 0 0)).heap[pb]? =some (.cells #[.slice none 0 0,.slice none 0 0] 40 (0,0)):=(heap_setCell_same _ _ 1 _ _ (.slice none 0 0) (heap_setCell_same _ _ 0 _ _ (.slice none 0 0) OD.o))
 have hqA:=ah jI.o tA (fun e=>hne e.symm);have EB:=aZ (tA.mono (G:=fun k=>k=pb∨k=qb) (fun _ _ h=>.inl h));have vP:=aZ (EB.o.trans (hdr (fun k=>k=pb∨k=qb) _) (fun _ _ h=>h));have HPA:=aZ hpA;have LG:=aZ hqA;have p0:W2.cell? ⟨pb,0,none⟩=some a0:=(cell_of_row _ _ 0 _ _ _ hp2).trans rfl;have p1:W2.cell? ⟨pb,1,none⟩=some a1:=(cell_of_row _ _ 1 _ _ _ hp2).trans rfl;have pz:∀i,W2.frozen? ⟨pb,i,none⟩=false:=fun i=>frozen_of_row _ _ _ _ _ hp2;have q0:W2.cell? ⟨qb,0,none⟩=some (.int .i64 0):=(cell_of_row _ _ 0 _ _ _ hq2).trans rfl;have q1:W2.cell? ⟨qb,1,none⟩=some (.int .i64 0):=(cell_of_row _ _ 1 _ _ _ hq2).trans rfl;have q2:W2.cell? ⟨qb,2,none⟩=some (.int .i64 0):=(cell_of_row _ _ 2 _ _ _ hq2).trans rfl;have q3:W2.cell? ⟨qb,3,none⟩=some (.int .i64 0):=(cell_of_row _ _ 3 _ _ _ hq2).trans rfl;have qz:∀i,W2.frozen? ⟨qb,i,none⟩=false:=fun i=>frozen_of_row _ _ _ _ _ hq2;have hne':¬qb=pb:=fun e=>hne e.symm;clear tA hpA hqA hp2 hq2;refine ay (rs:=[3]) (by kernel_rfl) (by simp) ?_;refine av.cons rfl (fun K hK=>?_) (av.nil);go_simp;refine hK.out _ _ vP.o ?_;clear hK K
 try simp only [Act.put,sq]
 refine ay (rs:=[4]) (by kernel_rfl) (by simp) ?_;refine av.past rfl (by kernel_rfl) (fun K hK=>?_) (av.nil);go_simp;refine hK.out _ _ ?_;clear hK K
 try simp only [Act.put,sq]
 refine aR (by kernel_rfl) ?_ _;go_wp2_with fail;have tB:=((((ak ((W2.setCell ⟨pb,0,none⟩ (.slice none 0 0)).setCell ⟨pb,1,none⟩ (.slice none 0 0)) (qb) 0 (.int .i64 0)).trans (ak _ (qb) 1 (.int .i64 g.1)) (fun _ _ h=>h)).trans (ak _ (qb) 2 (.int .i64 g.2.1)) (fun _ _ h=>h)).trans (ak _ (qb) 3 (.int .i64 g.2.2)) (fun _ _ h=>h))
 have h1:=(Vq.o.mono (G:=fun k=>k=pb∨k=qb) (fun _ _ h=>h.elim)).trans ((EB.o.trans tB (fun _ _ h=>.inr h)).trans (hdr (fun k=>k=pb∨k=qb) _) (fun _ _ h=>h)) (fun _ _ h=>h);have h2:=ah HPA.o tB hne;have h3:=(aY (b:=qb) LG.o (.int .i64 0) (.int .i64 g.1) (.int .i64 g.2.1) (.int .i64 g.2.2))
 refine⟨rfl,_,rfl,.tuple #[],results_none rfl _ _ _,rfl,rfl,h1,?_,?_⟩
 ·rw [qC];exact h2
 ·rw [qC];exact h3
theorem ac4 (w:World)(s:Bt)(hX:mK w):Calls Tryz.prog 44 #[sv s,.func (.func 45) #[] #[]] w fun e w'=>Below w.heap.size w w'∧∃z:List Value,e=.returned (.tuple #[.agg z.toArray,vZ (dn eH s).2])∧Tk w' (fun j=>w.heap.size<=j) z (vN eH s Dy):=by
 have hmf:∀(fn:Fn) (first cap:Array Value) (w:World),(Instr.makeFunc fn first cap).run Tryz.prog w=.ok (.func fn first cap) w:=fun _ _ _ _=>rfl;have hent:∀w:World,(callFunc 45 #[]).run Tryz.prog w=.ok (.enter 45 #[]) w:=fun _=>by kernel_rfl
 have qC:∀X:World,X.drew.heap=X.heap:=fun _=>rfl;have hdr:∀(G:Nat->Prop) (X:World),Turn G X X.drew:=fun _ _=>⟨rfl,rfl,rfl,Nat.le_refl _,fun _ _ _=>rfl⟩
 obtain⟨W0,hW0⟩:∃W0,((w.alloc (.cells #[.slice none 0 0,.slice none 0 0] 40)).alloc (.cells #[.int .i64 0,.int .i64 0,.int .i64 0,.int .i64 0] 45))=W0:=⟨_,rfl⟩
 obtain⟨tw,_,hx0,hd0⟩:=iJ (G:=fun _=>False) (Turn.refl _ ((w.alloc (.cells #[.slice none 0 0,.slice none 0 0] 40)).alloc (.cells #[.int .i64 0,.int .i64 0,.int .i64 0,.int .i64 0] 45)));have hs0:W0.heap.size=w.heap.size+2:=by rw [<-hW0];simp
 have hb0:Below w.heap.size w W0:=by rw [<-hW0];exact new2 _ _ _
 rw [hW0]at tw hx0 hd0;have hx0:=hx0 id;have hd0:=hd0 id;have HX0:=aZ hx0;have HD0:=aZ hd0;have HB0:=aZ hb0;have Tm:=aZ ((sQ.of hX.1).below hb0);have HL:=aZ (JR W0 s (hX.below hb0));have HW0:=aZ hW0;obtain⟨Dg,yx⟩:∃Dg,(dn eH s).2=Dg:=⟨_,rfl⟩
 obtain⟨V,hV⟩:∃V,vN eH s Dy=V:=⟨_,rfl⟩
 rw [yx,hV];clear hX tw hx0 hd0 hb0 hW0;by_cases hE:(fQ s).2.2.2=0
 ·have hz:=Br hE;obtain⟨T,hT⟩:∃T,fQ s=(T,((0,0,0):Nat ×Nat ×Int)):=⟨(fQ s).1,by rw [<-hz]⟩
  obtain⟨htk,hwf⟩:=Bu hE;rw [hT]at HL htk hwf;have HWH:bN (dn eH s=D9 (aj eH (fun x=>aj (dB 0) fun _=>aF x) T)):=aZ (xZ hT);have HDg:=aZ yx;have HV:=aZ hV;have uO:=aZ htk;have vO:=aZ hwf;clear hE hz hT htk hwf yx hV
  go_enter_defers Tryz.func44,Tryz.ntmps44
  go_wp2_with fail;rw [HW0.o];refine(HL.o).mono ?_;rintro e w1 ⟨v1,n1,rfl,hown,hb1⟩;obtain⟨GY,c1',rfl,_,_⟩:=iK hown;have hs1:=hb1.size;have hx1:=(hb1.block (w.heap.size) (by omega)).trans HX0.o;have hd1:=(hb1.block (w.heap.size+1) (by omega)).trans HD0.o;have HB1:=aZ (HB0.o.trans (hb1.mono (by omega)));have NT:=aZ (Tm.o.below (hb1.mono (by omega)));obtain⟨x0,x1,x2,x3,xz⟩:=aX hd1;have t1:=dD w1 (w.heap.size+1) (.int .i64 0) (.int .i64 0) (.int .i64 0) (.int .i64 0);have uE:=aZ (ah hx1 t1 (by omega));have HD1:=aZ (aY hd1 (.int .i64 0) (.int .i64 0) (.int .i64 0) (.int .i64 0));have HT1:=aZ t1;have hsp:(dK w1 (w.heap.size+1) (.int .i64 0) (.int .i64 0) (.int .i64 0) (.int .i64 0)).heap.size=w1.heap.size:=by simp [dK]
  have HOWN:=aZ hown;rw [show C8 (0,0,0)=.agg #[.int .i64 0,.int .i64 0,.int .i64 0,.int .i64 0]from rfl];obtain⟨W2,hW2⟩:∃W2,(dK w1 (w.heap.size+1) (.int .i64 0) (.int .i64 0) (.int .i64 0) (.int .i64 0)).alloc (.cells #[.slice GY n1 c1',.int .i64 0] 151)=W2:=⟨_,rfl⟩
  have t2:Turn (fun k=>k=w.heap.size+1) w1 W2:=by rw [<-hW2];exact t1.trans (Turn.alloc _ _ _) (fun _ _ h=>h)
  have hb2:=wJ (dK w1 (w.heap.size+1) (.int .i64 0) (.int .i64 0) (.int .i64 0) (.int .i64 0)) (.cells #[.slice GY n1 c1',.int .i64 0] 151);rw [hW2,hsp]at hb2;have hs2:W2.heap.size=w1.heap.size+1:=by rw [<-hW2];simp [dK]
  have Tv:=aZ (by have:=bQ (o':=(.cells #[.slice GY n1 c1',.int .i64 0] 151)) uE.o;rwa [hW2]at this);have HD2:=aZ (by have:=bQ (o':=(.cells #[.slice GY n1 c1',.int .i64 0] 151)) HD1.o;rwa [hW2]at this);have hsl:Sl W2 w1.heap.size 4 (.slice GY n1 c1') (dw T):=((cO.own (F:=fun j=>W0.heap.size<=j∧j<w1.heap.size) hown (fun g hg=>hown.lt g hg)).turn t2 (fun g _ h e=>by have:=h.1;omega)).to (fun g _ h=>h.2);have htb:E9 w1.heap.size W2 (.slice GY n1 c1'):=fun b o n c e=>by
   injection e with e _ _;subst e;rcases hown.2 with⟨h,_⟩ |⟨g,cap,cur,h,hg,hob,_⟩
   ·injection h with h;cases h
   ·injection h with h _ _;injection h with h;injection h with h _;subst h;exact⟨block_lt hob,_,ah hob t2 (by omega)⟩
  have NV:=aZ (NT.o.below (t2.below (by omega) (fun k hk e=>by omega)));have HK:=aZ (show bX W2 w1.heap.size w1.heap.size T 0 from⟨Nat.le_refl _,uO.o,vO.o,_,hb2,hsl,fun w' hb'=>NV.o w' (fun k hk=>hb' k (by omega)),htb⟩);have HT2:=aZ (HB1.o.trans (t2.below (B:=w.heap.size) (by omega) (fun k hk e=>by omega)));have HR:=aZ (QL W2 w1.heap.size w1.heap.size T HK.o);have HW2:=aZ hW2;clear hown hb1 hx1 hd1 t1 t2 hb2 hsl hW2 HOWN htb;go_wp2_with fail;rw [HW2.o];refine(HR.o).mono ?_;rintro e w3 h3;rcases hq:eH T with g |⟨x,r3⟩
  ·obtain⟨rfl,tn,bn⟩:=h3.bY hq;have DC:bN (dn eH s=(none,g)):=aZ (by rw [HWH.o,aC hq];rfl);have HXP:=aZ (ah Tv.o tn (by omega));have HDP:=aZ (ah HD2.o tn (by omega));have NW:=aZ (HT2.o.trans (tn.below (B:=w.heap.size) (by omega) (fun k hk e=>by omega)));clear h3 tn bn hq;go_wp2_with fail;refine leaves_cons (f:=87) (args:= #[.pointer (some ⟨w.heap.size,0,none⟩),.pointer (some ⟨w.heap.size+1,0,none⟩)]) (by simp) (by simp [go_sem]) ?_;refine(JB w.heap.size (w.heap.size+1) (by omega) g [] _ HXP.o HDP.o).mono ?_;rintro e u9 w9 ⟨rfl,rfl,t9,p9,q9⟩;have e1:Dg=g:=by rw [<-HDg.o,DC.o]
   have e2:V=Dy:=by rw [<-HV.o];unfold vN;rw [DC.o];rfl
   subst e1 e2;exact⟨_,dH rfl rfl rfl p9 q9 Tryz.underlying40 rfl (by kernel_rfl) Tryz.underlying45 rfl (by kernel_rfl),NW.o.trans (t9.below (by have:=NW.o.size;omega) (fun k hk e=>by omega)),_,rfl,⟨_,_,_,_,rfl,cO.nil _ _ _,.nil,cO.nil _ _ _,.nil⟩⟩
  ·obtain⟨v3,rfl,tn,⟨z0,rfl,hz0⟩,kn⟩:=h3.aQ hq;have hzc:=hz0;obtain⟨vi,xi,vd,xd,rfl,⟨A1,n1',c1,rfl,_⟩,_,⟨A2,n2,c2,rfl,_⟩,_⟩:=hzc;have hs3:=tn.size;have hx3:=ah Tv.o tn (by omega);have hd3:=ah HD2.o tn (by omega);have t4:Turn (fun k=>k=w.heap.size) w3 ((w3.setCell ⟨w.heap.size,0,none⟩ (.slice A1 n1' c1)).setCell ⟨w.heap.size,1,none⟩ (.slice A2 n2 c2)):=((ak w3 (w.heap.size) 0 (.slice A1 n1' c1)).trans (ak _ (w.heap.size) 1 (.slice A2 n2 c2)) (fun _ _ h=>h))
   have Fp:=aZ ((heap_setCell_same _ _ 1 _ _ (.slice A2 n2 c2) (heap_setCell_same _ _ 0 _ _ (.slice A1 n1' c1) hx3)));have HD4:=aZ (ah hd3 t4 (by omega));have aav:=aZ ((NV.o.below (tn.below (by omega) (fun k hk e=>by omega))).below (t4.below (by omega) (fun k hk e=>by omega)));have iD:=aZ (kn.apart t4 (by omega) (fun g e _=>by have e:g=w.heap.size:=e;subst e;exact⟨_,_,hx3,by decide⟩) (fun w' hb'=>aav.o w' (fun k hk=>hb' k (by omega))));have fD:=aZ (HT2.o.trans ((tn.below (B:=w.heap.size) (by omega) (fun k hk e=>by omega)).trans (t4.below (B:=w.heap.size) (by omega) (fun k hk e=>by omega))));have BA:=aZ (hz0.turn t4 (fun g _ h e=>by omega));have HWG:bN (dn eH s=D9 (aj (dB 0) (fun _=>aF x) r3)):=aZ (by rw [HWH.o,au hq]);have Nq:=aZ (sS ((w3.setCell ⟨w.heap.size,0,none⟩ (.slice A1 n1' c1)).setCell ⟨w.heap.size,1,none⟩ (.slice A2 n2 c2)) w1.heap.size w1.heap.size r3 0 iD.o 0);have u0:w3.cell? ⟨w.heap.size,0,none⟩=some (.slice none 0 0):=(cell_of_row _ _ 0 _ _ _ hx3).trans rfl;have u1:w3.cell? ⟨w.heap.size,1,none⟩=some (.slice none 0 0):=(cell_of_row _ _ 1 _ _ _ hx3).trans rfl;have uz:∀i,w3.frozen? ⟨w.heap.size,i,none⟩=false:=fun i=>frozen_of_row _ _ _ _ _ hx3;clear h3 tn kn hz0 hq hx3 hd3 t4;go_wp2_with fail;refine(Nq.o).mono ?_;rintro e w5 h5;rcases hq:dB 0 r3 with g |⟨sx,r5⟩
   ·obtain⟨rfl,tn,bn⟩:=h5.bY hq;have DC:bN (dn eH s=(none,g)):=aZ (by rw [HWG.o,aC hq];rfl);have HXP:=aZ (ah Fp.o tn (by omega));have HDP:=aZ (ah HD4.o tn (by omega));have NW:=aZ (fD.o.trans (tn.below (B:=w.heap.size) (by have:=fD.o.size;omega) (fun k hk e=>by omega)));clear h5 tn bn hq;go_wp2_with fail;refine leaves_cons (f:=87) (args:= #[.pointer (some ⟨w.heap.size,0,none⟩),.pointer (some ⟨w.heap.size+1,0,none⟩)]) (by simp) (by simp [go_sem]) ?_;refine(JB w.heap.size (w.heap.size+1) (by omega) g [] _ HXP.o HDP.o).mono ?_;rintro e u9 w9 ⟨rfl,rfl,t9,p9,q9⟩;have e1:Dg=g:=by rw [<-HDg.o,DC.o]
    have e2:V=Dy:=by rw [<-HV.o];unfold vN;rw [DC.o];rfl
    subst e1 e2;exact⟨_,dH rfl rfl rfl p9 q9 Tryz.underlying40 rfl (by kernel_rfl) Tryz.underlying45 rfl (by kernel_rfl),NW.o.trans (t9.below (by have:=NW.o.size;omega) (fun k hk e=>by omega)),_,rfl,⟨_,_,_,_,rfl,cO.nil _ _ _,.nil,cO.nil _ _ _,.nil⟩⟩
   ·obtain⟨v5,rfl,tn,-,kn⟩:=h5.aQ hq;have DC:bN (dn eH s=(some x,(0,0,0))):=aZ (by rw [HWG.o,au hq];rfl);have yM:=aZ (ah Fp.o tn (by omega));have HD5:=aZ (ah HD4.o tn (by omega));have fG:=aZ (fD.o.trans (tn.below (B:=w.heap.size) (by have:=fD.o.size;omega) (fun k hk e=>by omega)));have Bz:=aZ (BA.o.turn tn (fun g _ h e=>by omega));clear h5 tn kn hq uz u0 u1;have PX:=aZ (fun(w':World) (h:w'.heap[w.heap.size]? =some (.cells #[.slice A1 n1' c1,.slice A2 n2 c2] 40 (0,0))∧w'.heap[w.heap.size+1]? =some (.cells #[.int .i64 0,.int .i64 0,.int .i64 0,.int .i64 0] 45 (0,0)))=>(⟨(cell_of_row _ _ _ _ _ _ h.1).trans rfl,(cell_of_row _ _ _ _ _ _ h.1).trans rfl⟩:w'.cell? ⟨w.heap.size,0,none⟩=some (.slice A1 n1' c1)∧w'.cell? ⟨w.heap.size,1,none⟩=some (.slice A2 n2 c2)));have PD:=aZ (fun(w':World) (h:w'.heap[w.heap.size]? =some (.cells #[.slice A1 n1' c1,.slice A2 n2 c2] 40 (0,0))∧w'.heap[w.heap.size+1]? =some (.cells #[.int .i64 0,.int .i64 0,.int .i64 0,.int .i64 0] 45 (0,0)))=>(⟨(cell_of_row _ _ _ _ _ _ h.2).trans rfl,(cell_of_row _ _ _ _ _ _ h.2).trans rfl,(cell_of_row _ _ _ _ _ _ h.2).trans rfl,(cell_of_row _ _ _ _ _ _ h.2).trans rfl⟩:w'.cell? ⟨w.heap.size+1,0,none⟩=some (.int .i64 0)∧w'.cell? ⟨w.heap.size+1,1,none⟩=some (.int .i64 0)∧w'.cell? ⟨w.heap.size+1,2,none⟩=some (.int .i64 0)∧w'.cell? ⟨w.heap.size+1,3,none⟩=some (.int .i64 0)));have bA:bN (w5.drew.heap[w.heap.size]? =some (.cells #[.slice A1 n1' c1,.slice A2 n2 c2] 40 (0,0))∧w5.drew.heap[w.heap.size+1]? =some (.cells #[.int .i64 0,.int .i64 0,.int .i64 0,.int .i64 0] 45 (0,0))):=aZ ⟨by rw [qC];exact yM.o,by rw [qC];exact HD5.o⟩;have ka0:w5.cell? ⟨w.heap.size,0,none⟩=some (.slice A1 n1' c1):=(cell_of_row _ _ 0 _ _ _ yM.o).trans rfl
    have ka1:w5.cell? ⟨w.heap.size,1,none⟩=some (.slice A2 n2 c2):=(cell_of_row _ _ 1 _ _ _ yM.o).trans rfl;have kaz:∀i,w5.frozen? ⟨w.heap.size,i,none⟩=false:=fun i=>frozen_of_row _ _ _ _ _ yM.o;have la0:w5.cell? ⟨w.heap.size+1,0,none⟩=some (.int .i64 0):=(cell_of_row _ _ 0 _ _ _ HD5.o).trans rfl;have la1:w5.cell? ⟨w.heap.size+1,1,none⟩=some (.int .i64 0):=(cell_of_row _ _ 1 _ _ _ HD5.o).trans rfl;have la2:w5.cell? ⟨w.heap.size+1,2,none⟩=some (.int .i64 0):=(cell_of_row _ _ 2 _ _ _ HD5.o).trans rfl;have la3:w5.cell? ⟨w.heap.size+1,3,none⟩=some (.int .i64 0):=(cell_of_row _ _ 3 _ _ _ HD5.o).trans rfl;have laz:∀i,w5.frozen? ⟨w.heap.size+1,i,none⟩=false:=fun i=>frozen_of_row _ _ _ _ _ HD5.o;have tA:=((ak w5 (w.heap.size) 0 (.slice A1 n1' c1)).trans (ak _ (w.heap.size) 1 (.slice A2 n2 c2)) (fun _ _ h=>h))
    have yN:=(heap_setCell_same _ _ 1 _ _ (.slice A2 n2 c2) (heap_setCell_same _ _ 0 _ _ (.slice A1 n1' c1) yM.o))
    have yO:=ah HD5.o tA (by omega);have tB:=((((ak ((w5.setCell ⟨w.heap.size,0,none⟩ (.slice A1 n1' c1)).setCell ⟨w.heap.size,1,none⟩ (.slice A2 n2 c2)) (w.heap.size+1) 0 (.int .i64 0)).trans (ak _ (w.heap.size+1) 1 (.int .i64 0)) (fun _ _ h=>h)).trans (ak _ (w.heap.size+1) 2 (.int .i64 0)) (fun _ _ h=>h)).trans (ak _ (w.heap.size+1) 3 (.int .i64 0)) (fun _ _ h=>h))
    have HXB:=aZ (ah yN tB (by omega));have nC:=aZ ((aY (b:=w.heap.size+1) yO (.int .i64 0) (.int .i64 0) (.int .i64 0) (.int .i64 0)));have mg:=aZ ((tA.mono (G:=fun k=>k=w.heap.size∨k=w.heap.size+1) (fun _ _ h=>.inl h)).trans tB (fun _ _ h=>.inr h));have vP:bN (((w5.setCell ⟨w.heap.size,0,none⟩ (.slice A1 n1' c1)).setCell ⟨w.heap.size,1,none⟩ (.slice A2 n2 c2)).drew.heap[w.heap.size]? =some (.cells #[.slice A1 n1' c1,.slice A2 n2 c2] 40 (0,0))∧((w5.setCell ⟨w.heap.size,0,none⟩ (.slice A1 n1' c1)).setCell ⟨w.heap.size,1,none⟩ (.slice A2 n2 c2)).drew.heap[w.heap.size+1]? =some (.cells #[.int .i64 0,.int .i64 0,.int .i64 0,.int .i64 0] 45 (0,0))):=aZ ⟨by rw [qC];exact yN,by rw [qC];exact yO⟩;clear tA yN yO tB;go_wp2_with fail;refine bP (S:=fun w'=>w'.heap[w.heap.size]? =some (.cells #[.slice A1 n1' c1,.slice A2 n2 c2] 40 (0,0))∧w'.heap[w.heap.size+1]? =some (.cells #[.int .i64 0,.int .i64 0,.int .i64 0,.int .i64 0] 45 (0,0))) (x:=3) (by kernel_rfl) ?_
    try simp only [Act.put,sq]
    refine jG 0 (.agg #[.slice A1 n1' c1,.slice A2 n2 c2]) PX.o bA.o (hQ:=oN rfl (by decide) (by decide)) ?_;refine jG 1 (.agg #[.int .i64 0,.int .i64 0,.int .i64 0,.int .i64 0]) PD.o bA.o (hQ:=oN rfl (by decide) (by decide)) ?_;refine ay (rs:=[2]) (by kernel_rfl) (by simp) ?_;refine av.cons rfl (fun K hK=>?_) (av.nil);go_simp;refine hK.out _ _ vP.o ?_;clear hK K
    try simp only [Act.put,sq]
    refine ay (rs:=[3]) (by kernel_rfl) (by simp) ?_;refine av.past rfl (by kernel_rfl) (fun K hK=>?_) (av.nil);go_simp;refine hK.out _ _ ?_;clear hK K
    try simp only [Act.put,sq]
    refine aR (by kernel_rfl) ?_ _;go_wp2_with fail;refine leaves_cons (f:=87) (args:= #[.pointer (some ⟨w.heap.size,0,none⟩),.pointer (some ⟨w.heap.size+1,0,none⟩)]) (by simp) (by simp [go_sem]) ?_;refine(aar _ _ _).mono ?_;rintro e u9 w9 ⟨rfl,rfl,rfl⟩;have e1:Dg=(0,0,0):=by rw [<-HDg.o,DC.o]
    have e2:V=x:=by rw [<-HV.o];unfold vN;rw [DC.o];rfl
    subst e1 e2;have UA:=(Bz.o.turn mg.o (fun g _ h e=>by omega)).turn (hdr (fun _=>False) _) (fun _ _ _=>id);have xQ:=(fG.o.trans (mg.o.below (B:=w.heap.size) (by have:=fG.o.size;omega) (fun k hk e=>by omega))).trans ((hdr (fun _=>False) _).below (by have:=fG.o.size;have:=mg.o.size;omega) (fun _ _=>id));exact⟨_,dH rfl rfl rfl (by rw [qC];exact HXB.o) (by rw [qC];exact nC.o) Tryz.underlying40 rfl (by kernel_rfl) Tryz.underlying45 rfl (by kernel_rfl),xQ,_,rfl,UA.mono (fun g _ h=>by omega)⟩
 ·have hwh:dn eH s=(none,(fQ s).2):=by unfold dn;rw [if_neg hE]
  have e1:Dg=(fQ s).2:=by rw [<-yx,hwh]
  have e2:V=Dy:=by rw [<-hV];unfold vN;rw [hwh];rfl
  subst e2;obtain⟨T,D1,hT⟩:∃T D1,fQ s=(T,D1):=⟨_,_,rfl⟩
  rw [hT]at HL e1 hE;have e1:=e1.symm;subst e1;have hE1:(D1.2.2 != 0)=true:=by simpa using hE
  clear hE hwh yx hV hT
  go_enter_defers Tryz.func44,Tryz.ntmps44
  go_wp2_with fail;rw [HW0.o];have HDV:C8 D1=.agg #[.int .i64 0,.int .i64 D1.1,.int .i64 D1.2.1,.int .i64 D1.2.2]:=rfl;refine(HL.o).mono ?_;rintro e w1 ⟨v1,n1,rfl,hown,hb1⟩;obtain⟨GY,c1',rfl,_,_⟩:=iK hown;have hs1:=hb1.size;have hx1:=(hb1.block (w.heap.size) (by omega)).trans HX0.o;have hd1:=(hb1.block (w.heap.size+1) (by omega)).trans HD0.o;have HB1:=aZ (HB0.o.trans (hb1.mono (by omega)));have NT:=aZ (Tm.o.below (hb1.mono (by omega)));obtain⟨x0,x1,x2,x3,xz⟩:=aX hd1;have t1:=dD w1 (w.heap.size+1) (.int .i64 0) (.int .i64 D1.1) (.int .i64 D1.2.1) (.int .i64 D1.2.2);have uE:=aZ (ah hx1 t1 (by omega));have HD1:=aZ (aY hd1 (.int .i64 0) (.int .i64 D1.1) (.int .i64 D1.2.1) (.int .i64 D1.2.2));have HT1:=aZ t1;have hsp:(dK w1 (w.heap.size+1) (.int .i64 0) (.int .i64 D1.1) (.int .i64 D1.2.1) (.int .i64 D1.2.2)).heap.size=w1.heap.size:=by simp [dK]
  have HOWN:=aZ hown;rw [HDV];clear hown hb1 hx1 hd1 t1 HDV;have PX:=aZ (fun(w':World) (h:w'.heap[w.heap.size]? =some (.cells #[.slice none 0 0,.slice none 0 0] 40 (0,0))∧w'.heap[w.heap.size+1]? =some (.cells #[.int .i64 0,.int .i64 D1.1,.int .i64 D1.2.1,.int .i64 D1.2.2] 45 (0,0)))=>(⟨(cell_of_row _ _ _ _ _ _ h.1).trans rfl,(cell_of_row _ _ _ _ _ _ h.1).trans rfl⟩:w'.cell? ⟨w.heap.size,0,none⟩=some (.slice none 0 0)∧w'.cell? ⟨w.heap.size,1,none⟩=some (.slice none 0 0)));have PD:=aZ (fun(w':World) (h:w'.heap[w.heap.size]? =some (.cells #[.slice none 0 0,.slice none 0 0] 40 (0,0))∧w'.heap[w.heap.size+1]? =some (.cells #[.int .i64 0,.int .i64 D1.1,.int .i64 D1.2.1,.int .i64 D1.2.2] 45 (0,0)))=>(⟨(cell_of_row _ _ _ _ _ _ h.2).trans rfl,(cell_of_row _ _ _ _ _ _ h.2).trans rfl,(cell_of_row _ _ _ _ _ _ h.2).trans rfl,(cell_of_row _ _ _ _ _ _ h.2).trans rfl⟩:w'.cell? ⟨w.heap.size+1,0,none⟩=some (.int .i64 0)∧w'.cell? ⟨w.heap.size+1,1,none⟩=some (.int .i64 D1.1)∧w'.cell? ⟨w.heap.size+1,2,none⟩=some (.int .i64 D1.2.1)∧w'.cell? ⟨w.heap.size+1,3,none⟩=some (.int .i64 D1.2.2)));have bA:bN ((dK w1 (w.heap.size+1) (.int .i64 0) (.int .i64 D1.1) (.int .i64 D1.2.1) (.int .i64 D1.2.2)).drew.heap[w.heap.size]? =some (.cells #[.slice none 0 0,.slice none 0 0] 40 (0,0))∧(dK w1 (w.heap.size+1) (.int .i64 0) (.int .i64 D1.1) (.int .i64 D1.2.1) (.int .i64 D1.2.2)).drew.heap[w.heap.size+1]? =some (.cells #[.int .i64 0,.int .i64 D1.1,.int .i64 D1.2.1,.int .i64 D1.2.2] 45 (0,0))):=aZ ⟨by rw [qC];exact uE.o,by rw [qC];exact HD1.o⟩
  have ka0:(dK w1 (w.heap.size+1) (.int .i64 0) (.int .i64 D1.1) (.int .i64 D1.2.1) (.int .i64 D1.2.2)).cell? ⟨w.heap.size,0,none⟩=some (.slice none 0 0):=(cell_of_row _ _ 0 _ _ _ uE.o).trans rfl;have ka1:(dK w1 (w.heap.size+1) (.int .i64 0) (.int .i64 D1.1) (.int .i64 D1.2.1) (.int .i64 D1.2.2)).cell? ⟨w.heap.size,1,none⟩=some (.slice none 0 0):=(cell_of_row _ _ 1 _ _ _ uE.o).trans rfl;have kaz:∀i,(dK w1 (w.heap.size+1) (.int .i64 0) (.int .i64 D1.1) (.int .i64 D1.2.1) (.int .i64 D1.2.2)).frozen? ⟨w.heap.size,i,none⟩=false:=fun i=>frozen_of_row _ _ _ _ _ uE.o;have la0:(dK w1 (w.heap.size+1) (.int .i64 0) (.int .i64 D1.1) (.int .i64 D1.2.1) (.int .i64 D1.2.2)).cell? ⟨w.heap.size+1,0,none⟩=some (.int .i64 0):=(cell_of_row _ _ 0 _ _ _ HD1.o).trans rfl;have la1:(dK w1 (w.heap.size+1) (.int .i64 0) (.int .i64 D1.1) (.int .i64 D1.2.1) (.int .i64 D1.2.2)).cell? ⟨w.heap.size+1,1,none⟩=some (.int .i64 D1.1):=(cell_of_row _ _ 1 _ _ _ HD1.o).trans rfl;have la2:(dK w1 (w.heap.size+1) (.int .i64 0) (.int .i64 D1.1) (.int .i64 D1.2.1) (.int .i64 D1.2.2)).cell? ⟨w.heap.size+1,2,none⟩=some (.int .i64 D1.2.1):=(cell_of_row _ _ 2 _ _ _ HD1.o).trans rfl;have la3:(dK w1 (w.heap.size+1) (.int .i64 0) (.int .i64 D1.1) (.int .i64 D1.2.1) (.int .i64 D1.2.2)).cell? ⟨w.heap.size+1,3,none⟩=some (.int .i64 D1.2.2):=(cell_of_row _ _ 3 _ _ _ HD1.o).trans rfl;have laz:∀i,(dK w1 (w.heap.size+1) (.int .i64 0) (.int .i64 D1.1) (.int .i64 D1.2.1) (.int .i64 D1.2.2)).frozen? ⟨w.heap.size+1,i,none⟩=false:=fun i=>frozen_of_row _ _ _ _ _ HD1.o
  have tA:=((ak (dK w1 (w.heap.size+1) (.int .i64 0) (.int .i64 D1.1) (.int .i64 D1.2.1) (.int .i64 D1.2.2)) (w.heap.size) 0 (.slice none 0 0)).trans (ak _ (w.heap.size) 1 (.slice none 0 0)) (fun _ _ h=>h))
  have yN:=(heap_setCell_same _ _ 1 _ _ (.slice none 0 0) (heap_setCell_same _ _ 0 _ _ (.slice none 0 0) uE.o))
  have yO:=ah HD1.o tA (by omega);have tB:=((((ak (((dK w1 (w.heap.size+1) (.int .i64 0) (.int .i64 D1.1) (.int .i64 D1.2.1) (.int .i64 D1.2.2)).setCell ⟨w.heap.size,0,none⟩ (.slice none 0 0)).setCell ⟨w.heap.size,1,none⟩ (.slice none 0 0)) (w.heap.size+1) 0 (.int .i64 0)).trans (ak _ (w.heap.size+1) 1 (.int .i64 D1.1)) (fun _ _ h=>h)).trans (ak _ (w.heap.size+1) 2 (.int .i64 D1.2.1)) (fun _ _ h=>h)).trans (ak _ (w.heap.size+1) 3 (.int .i64 D1.2.2)) (fun _ _ h=>h))
  have HXB:=aZ (ah yN tB (by omega));have nC:=aZ ((aY (b:=w.heap.size+1) yO (.int .i64 0) (.int .i64 D1.1) (.int .i64 D1.2.1) (.int .i64 D1.2.2)));have mg:=aZ ((tA.mono (G:=fun k=>k=w.heap.size∨k=w.heap.size+1) (fun _ _ h=>.inl h)).trans tB (fun _ _ h=>.inr h));have vP:bN ((((dK w1 (w.heap.size+1) (.int .i64 0) (.int .i64 D1.1) (.int .i64 D1.2.1) (.int .i64 D1.2.2)).setCell ⟨w.heap.size,0,none⟩ (.slice none 0 0)).setCell ⟨w.heap.size,1,none⟩ (.slice none 0 0)).drew.heap[w.heap.size]? =some (.cells #[.slice none 0 0,.slice none 0 0] 40 (0,0))∧(((dK w1 (w.heap.size+1) (.int .i64 0) (.int .i64 D1.1) (.int .i64 D1.2.1) (.int .i64 D1.2.2)).setCell ⟨w.heap.size,0,none⟩ (.slice none 0 0)).setCell ⟨w.heap.size,1,none⟩ (.slice none 0 0)).drew.heap[w.heap.size+1]? =some (.cells #[.int .i64 0,.int .i64 D1.1,.int .i64 D1.2.1,.int .i64 D1.2.2] 45 (0,0))):=aZ ⟨by rw [qC];exact yN,by rw [qC];exact yO⟩;clear tA yN yO tB;go_wp2_with fail;refine bP (S:=fun w'=>w'.heap[w.heap.size]? =some (.cells #[.slice none 0 0,.slice none 0 0] 40 (0,0))∧w'.heap[w.heap.size+1]? =some (.cells #[.int .i64 0,.int .i64 D1.1,.int .i64 D1.2.1,.int .i64 D1.2.2] 45 (0,0))) (x:=3) (by kernel_rfl) ?_
  try simp only [Act.put,sq]
  refine jG 0 (.agg #[.slice none 0 0,.slice none 0 0]) PX.o bA.o (hQ:=fun c a w h=>oN rfl (by decide) (by decide) c a w h) ?_;refine jG 1 (.agg #[.int .i64 0,.int .i64 D1.1,.int .i64 D1.2.1,.int .i64 D1.2.2]) PD.o bA.o (hQ:=fun c a w h=>oN rfl (by decide) (by decide) c a w h) ?_;refine ay (rs:=[2]) (by kernel_rfl) (by simp) ?_;refine av.cons rfl (fun K hK=>?_) (av.nil);go_simp;refine hK.out _ _ vP.o ?_;clear hK K
  try simp only [Act.put,sq]
  refine ay (rs:=[3]) (by kernel_rfl) (by simp) ?_;refine av.past rfl (by kernel_rfl) (fun K hK=>?_) (av.nil);go_simp;refine hK.out _ _ ?_;clear hK K
  try simp only [Act.put,sq]
  refine aR (by kernel_rfl) ?_ _;go_wp2_with fail;have xQ:=((HB1.o.trans (HT1.o.below (B:=w.heap.size) (by omega) (fun k hk e=>by omega))).trans (mg.o.below (B:=w.heap.size) (by rw [hsp];omega) (fun k hk e=>by omega))).trans ((hdr (fun _=>False) _).below (by have:=mg.o.size;rw [hsp]at this;omega) (fun _ _=>id));exact⟨_,dH rfl rfl rfl (by rw [qC];exact HXB.o) (by rw [qC];exact nC.o) Tryz.underlying40 rfl (by kernel_rfl) Tryz.underlying45 rfl (by kernel_rfl),xQ,_,rfl,⟨_,_,_,_,rfl,cO.nil _ _ _,.nil,cO.nil _ _ _,.nil⟩⟩
theorem NY (w:World)(s:Bt)(hX:mK w):Calls Tryz.prog 19 #[sv s] w fun e w'=>Below w.heap.size w w'∧∃z:List Value,e=.returned (.tuple #[.agg z.toArray,vZ (dn eH s).2])∧Tk w' (fun j=>w.heap.size<=j) z (vN eH s Dy):=by
 obtain⟨W0,hW0⟩:∃W0,((w.alloc (.cells #[.slice none 0 0,.slice none 0 0] 40)).alloc (.cells #[.int .i64 0,.int .i64 0,.int .i64 0,.int .i64 0] 45))=W0:=⟨_,rfl⟩
 obtain⟨tw,_,hx0,hd0⟩:=iJ (G:=fun _=>False) (Turn.refl _ ((w.alloc (.cells #[.slice none 0 0,.slice none 0 0] 40)).alloc (.cells #[.int .i64 0,.int .i64 0,.int .i64 0,.int .i64 0] 45)));have hs0:W0.heap.size=w.heap.size+2:=by rw [<-hW0];simp
 have hb0:Below w.heap.size w W0:=by rw [<-hW0];exact new2 _ _ _
 rw [hW0]at tw hx0 hd0;have HX0:=aZ (hx0 id);have HD0:=aZ (hd0 id);have HB0:=aZ hb0;have HA:=aZ (ac4 W0 s (hX.below hb0));have HW0:=aZ hW0;obtain⟨Dg,yx⟩:∃Dg,(dn eH s).2=Dg:=⟨_,rfl⟩
 obtain⟨V,hV⟩:∃V,vN eH s Dy=V:=⟨_,rfl⟩
 rw [yx,hV]at HA;rw [yx,hV];clear hX tw hx0 hd0 hb0 hW0 yx hV;go_enter Tryz.func19,Tryz.ntmps19;go_wp2_with fail;rw [HW0.o];refine(HA.o).mono ?_;rintro e w1 ⟨hb1,z0,rfl,hz0⟩;have hzc:=hz0;obtain⟨vi,xi,vd,xd,rfl,⟨A1,n1',c1,rfl,_⟩,_,⟨A2,n2,c2,rfl,_⟩,_⟩:=hzc;have hs1:=hb1.size;have hx1:=(hb1.block (w.heap.size) (by omega)).trans HX0.o;have hd1:=(hb1.block (w.heap.size+1) (by omega)).trans HD0.o;have tA:Turn (fun k=>k=w.heap.size) w1 ((w1.setCell ⟨w.heap.size,0,none⟩ (.slice A1 n1' c1)).setCell ⟨w.heap.size,1,none⟩ (.slice A2 n2 c2)):=((ak w1 (w.heap.size) 0 (.slice A1 n1' c1)).trans (ak _ (w.heap.size) 1 (.slice A2 n2 c2)) (fun _ _ h=>h))
 have yN:=(heap_setCell_same _ _ 1 _ _ (.slice A2 n2 c2) (heap_setCell_same _ _ 0 _ _ (.slice A1 n1' c1) hx1))
 have yO:=ah hd1 tA (by omega);have tB:=((((ak ((w1.setCell ⟨w.heap.size,0,none⟩ (.slice A1 n1' c1)).setCell ⟨w.heap.size,1,none⟩ (.slice A2 n2 c2)) (w.heap.size+1) 0 (.int .i64 0)).trans (ak _ (w.heap.size+1) 1 (.int .i64 Dg.1)) (fun _ _ h=>h)).trans (ak _ (w.heap.size+1) 2 (.int .i64 Dg.2.1)) (fun _ _ h=>h)).trans (ak _ (w.heap.size+1) 3 (.int .i64 Dg.2.2)) (fun _ _ h=>h))
 have HXB:=aZ (ah yN tB (by omega));have nC:=aZ ((aY (b:=w.heap.size+1) yO (.int .i64 0) (.int .i64 Dg.1) (.int .i64 Dg.2.1) (.int .i64 Dg.2.2)));have mg:=aZ ((tA.mono (G:=fun k=>k=w.heap.size∨k=w.heap.size+1) (fun _ _ h=>.inl h)).trans tB (fun _ _ h=>.inr h));have HZ:=aZ hz0;have HB1:=aZ (HB0.o.trans (hb1.mono (by omega)));have u0:w1.cell? ⟨w.heap.size,0,none⟩=some (.slice none 0 0):=(cell_of_row _ _ 0 _ _ _ hx1).trans rfl;have u1:w1.cell? ⟨w.heap.size,1,none⟩=some (.slice none 0 0):=(cell_of_row _ _ 1 _ _ _ hx1).trans rfl;have l0:w1.cell? ⟨w.heap.size+1,0,none⟩=some (.int .i64 0):=(cell_of_row _ _ 0 _ _ _ hd1).trans rfl;have l1:w1.cell? ⟨w.heap.size+1,1,none⟩=some (.int .i64 0):=(cell_of_row _ _ 1 _ _ _ hd1).trans rfl;have l2:w1.cell? ⟨w.heap.size+1,2,none⟩=some (.int .i64 0):=(cell_of_row _ _ 2 _ _ _ hd1).trans rfl;have l3:w1.cell? ⟨w.heap.size+1,3,none⟩=some (.int .i64 0):=(cell_of_row _ _ 3 _ _ _ hd1).trans rfl;have uz:∀i,w1.frozen? ⟨w.heap.size,i,none⟩=false:=fun i=>frozen_of_row _ _ _ _ _ hx1;have lz:∀i,w1.frozen? ⟨w.heap.size+1,i,none⟩=false:=fun i=>frozen_of_row _ _ _ _ _ hd1;clear hb1 hz0 hx1 hd1 tA yN yO tB;go_wp2_with fail;refine bodyPost_ret (dH rfl rfl rfl HXB.o nC.o Tryz.underlying40 rfl (by kernel_rfl) Tryz.underlying45 rfl (by kernel_rfl)) rfl ?_;exact⟨HB1.o.trans (mg.o.below (B:=w.heap.size) (by omega) (fun k hk e=>by omega)),_,rfl,(HZ.o.turn mg.o (fun g _ h e=>by omega)).mono (fun g _ h=>by omega)⟩
end Go.Proofs.YtfgjkmipfikooaaGreatDoor
