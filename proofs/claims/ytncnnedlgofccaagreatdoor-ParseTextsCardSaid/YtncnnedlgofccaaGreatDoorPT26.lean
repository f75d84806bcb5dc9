/- RS, RT, RU, RV -/
import Derived.Test.YtncnnedlgofccaaGreatDoorPT03
set_option linter.unusedSimpArgs false
set_option linter.unusedVariables false
namespace Go.Proofs.YtncnnedlgofccaaGreatDoor
def Ja (k:Nat)(t:aH):aH:={ t with line:=t.line+k}
mutual
def Qa (k:Nat):bW->bW
 |.mk kd t n l c ts ns ks=>.mk kd t n (l+k) c ts ns (ab9 k ks)
def ab9 (k:Nat):List bW->List bW
 | []=>[]
 |x :: l=>Qa k x :: ab9 k l
end
theorem Qb (k:Nat):∀l:List bW,ab9 k l=l.map (Qa k)
 | []=>by simp [ab9]
 |t :: l=>by simp [ab9,Qb k l]
theorem uL (k:Nat)(kd:Int)(text:Bt)(n:Int)(h:aH)(types:List bZ)(names:List Bt)(kids:List bW):aI kd text n (Ja k h) types names (kids.map (Qa k))=Qa k (aI kd text n h types names kids):=by
 unfold aI;rw [Qa,Qb];simp [Ja]
theorem rH (k:Nat)(kd:Int)(text:Bt)(n:Int)(h:aH)(types:List bZ)(names:List Bt):aI kd text n (Ja k h) types names []=Qa k (aI kd text n h types names []):=uL k kd text n h types names []
def Ka (X:List aH):Prop:=∃x r,X=x :: r∧(x.kind=0∨(x.kind=5∧x.text=[41]))
theorem acd (k:Nat)(t:aH)(s:Bt):kU (Ja k t) s=kU t s:=rfl
theorem zH {E:aH}(hE:E.kind=0)(s:Bt):kU E s=false:=by unfold kU;rw [hE];rfl
theorem Dh {x:aH}(h:x.kind=0∨(x.kind=5∧x.text=[41])){s:Bt}(hs:s≠[41]):kU x s=false:=by
 rcases h with h |⟨h,h2⟩
 ·exact zH h s
 ·unfold kU;rw [h2,beq_false_of_ne (Ne.symm hs),Bool.and_false]
section
variable {α β:Type}(k:Nat) (D:Prop) (E:aH) (X:List aH)
def aF (R:α->α->List aH->Prop)(p q:Ps α)(u:List aH):Prop:=∀a r,p (u++[E])=.good a r->
 (∃v b,r=v++[E]∧v<:+u∧q (u.map (Ja k)++X)=.good b (v.map (Ja k)++X)∧R a b v)∨(D∧∃l c,q (u.map (Ja k)++X)=.bad (l,c,6))
end
section
variable {α β:Type}{k:Nat}{D:Prop}{E:aH}{X:List aH}{R:α->α->List aH->Prop}{S:β->β->List aH->Prop}{u:List aH}
theorem aF.ret {a b:α}(h:R a b u):aF k D E X R (aB a) (aB b) u:=by
 intro x r hx;injection hx with h1 h2;subst h1 h2;exact .inl ⟨u,b,rfl,List.suffix_refl _,rfl,h⟩
theorem aF.then_ {p q:Ps α}{f g:α->Ps β}(h:aF k D E X R p q u)(hf:∀a b v,v<:+u->R a b v->aF k D E X S (f a) (g b) v):aF k D E X S (aj p f) (aj q g) u:=by
 intro x r hx;unfold aj at hx;rcases hp:p (u++[E])with d |⟨a,r1⟩
 ·rw [hp]at hx;cases hx
 ·rw [hp]at hx;rcases h a r1 hp with⟨v,b,rfl,hv,hq,hR⟩ |⟨hD,l,c,hq⟩
  ·rcases hf a b v hv hR x r hx with⟨v2,b2,e2,hv2,hq2,hS⟩ |⟨hD,l,c,hq2⟩
   ·exact .inl ⟨v2,b2,e2,hv2.trans hv,by rw [au hq];exact hq2,hS⟩
   ·exact .inr ⟨hD,l,c,by rw [au hq];exact hq2⟩
  ·exact .inr ⟨hD,l,c,aA hq⟩
theorem aF.bad {p q:Ps α}(h:∀a r,p (u++[E])≠ .good a r):aF k D E X R p q u:=fun a r hx=>absurd hx (h a r)
theorem aF.fail {e:Int}{q:Ps α}:aF k D E X R (kI e) q u:= .bad fun a r h=>by cases h
theorem aF.mono {p q:Ps α}{R':α->α->List aH->Prop}(h:aF k D E X R p q u)(hR:∀a b v,R a b v->R' a b v):aF k D E X R' p q u:=fun a r hx=>by
 rcases h a r hx with⟨v,b,h1,h2,h3,h4⟩ |h
 ·exact .inl ⟨v,b,h1,h2,h3,hR _ _ _ h4⟩
 ·exact .inr h
theorem aF.fuel {p q:Nat->Ps α}(h:∀f g,u.length<f->u.length<g->aF k D E X R (p f) (q g) u)(hX:Ka X):aF k D E X R (fun ts=>p ts.length ts) (fun ts=>q ts.length ts) u:=by
 obtain⟨x,X',rfl,_⟩:=hX;have:=h (u++[E]).length (u.map (Ja k)++x :: X').length (by simp) (by simp);exact this
variable (hE:E.kind=0) (hX:Ka X)
include hE hX
theorem aF.kH {l:List Bt}(hl:∀s∈l,s≠[41]):aF k D E X (fun i j v=>i=j∧((i=none∧v=u)∨(∃t n,i=some n∧u=t :: v))) (dK l) (dK l) u:=by
 obtain⟨x,X',rfl,hx⟩:=hX;intro a r h;cases u with
 |nil=>
  have h1:l.findIdx? (kU E)=none:=List.findIdx?_eq_none_iff.2 fun s _=>zH hE s;have h2:l.findIdx? (kU x)=none:=List.findIdx?_eq_none_iff.2 fun s hs=>Dh hx (hl s hs);rw [List.nil_append,FZ h1]at h;injection h with e1 e2;subst e1 e2;exact .inl ⟨[],none,rfl,List.suffix_refl _,FZ h2 _,rfl,.inl ⟨rfl,rfl⟩⟩
 |cons t u=>
  rw [List.cons_append]at h;rcases hf:l.findIdx? (kU t)with _ |i
  ·rw [FZ hf]at h;injection h with e1 e2;subst e1 e2;exact .inl ⟨t :: u,none,rfl,List.suffix_refl _,FZ (t:=Ja k t) hf _,rfl,.inl ⟨rfl,rfl⟩⟩
  ·rw [Gw hf]at h;injection h with e1 e2;subst e1 e2;exact .inl ⟨u,some i,rfl,List.suffix_cons _ _,Gw (t:=Ja k t) hf _,rfl,.inr ⟨t,i,rfl,rfl⟩⟩
theorem aF.has {s:Bt}(hs:s≠[41]):aF k D E X (fun i j v=>i=j∧((i=false∧v=u)∨(∃t,i=true∧u=t :: v))) (bD s) (bD s) u:=by
 obtain⟨x,X',rfl,hx⟩:=hX;intro a r h;cases u with
 |nil=>
  rw [List.nil_append,AL (zH hE s)]at h;injection h with e1 e2;subst e1 e2;exact .inl ⟨[],false,rfl,List.suffix_refl _,AL (Dh hx hs) _,rfl,.inl ⟨rfl,rfl⟩⟩
 |cons t u=>
  rw [List.cons_append]at h;cases hb:kU t s
  ·rw [AL hb]at h;injection h with e1 e2;subst e1 e2;exact .inl ⟨t :: u,false,rfl,List.suffix_refl _,AL (t:=Ja k t) hb _,rfl,.inl ⟨rfl,rfl⟩⟩
  ·rw [uj hb]at h;injection h with e1 e2;subst e1 e2;exact .inl ⟨u,true,rfl,List.suffix_cons _ _,uj (t:=Ja k t) hb _,rfl,.inr ⟨t,rfl,rfl⟩⟩
omit hX in
theorem aF.want {s:Bt}:aF k D E X (fun _ _ v=>∃t,u=t :: v) (aC s) (aC s) u:=by
 intro a r h;unfold aC at h ⊢;cases u with
 |nil=>
  rw [List.nil_append,au (AL (zH hE s) _)]at h;cases h
 |cons t u=>
  rw [List.cons_append]at h;cases hb:kU t s
  ·rw [au (AL hb _)]at h;cases h
  ·rw [au (uj hb _)]at h;injection h with e1 e2;subst e2;exact .inl ⟨u,(),rfl,List.suffix_cons _ _,au (uj (t:=Ja k t) hb _),t,rfl⟩
omit hX in
theorem aF.wants:∀(l:List Bt) {u:List aH},aF k D E X (fun _ _ _=>True) (jX l) (jX l) u
 | [],u=>.ret trivial
 |s :: l,u=>(aF.want hE).then_ fun _ _ v _ _=>aF.wants l
omit hX in
theorem aF.kind {n:Int}(hn:n≠0):aF k D E X (fun a b v=>a=b∧∃t,u=t :: v∧a=t.text) (dL n) (dL n) u:=by
 intro a r h;unfold dL at h ⊢;cases u with
 |nil=>
  simp only [List.nil_append,aR,List.headD_cons]at h;rw [if_neg (by rw [hE];exact fun e=>hn e.symm)]at h;cases h
 |cons t u=>
  simp only [List.cons_append,aR,List.headD_cons,List.map_cons]at h ⊢;by_cases hk:t.kind=n
  ·rw [if_pos hk,if_neg hn]at h;injection h with e1 e2;subst e1 e2;refine .inl ⟨u,t.text,rfl,List.suffix_cons _ _,?_,rfl,t,rfl,rfl⟩;rw [if_pos (show(Ja k t).kind=n from hk),if_neg hn];rfl
  ·rw [if_neg hk]at h;cases h
omit hX in
theorem aF.name:aF k D E X (fun a b v=>a=b) nameP nameP u:=(aF.kind hE (by decide)).mono fun _ _ _ h=>h.1
omit hX hE in
theorem aF.here:aF k D E X (fun h h' v=>v=u∧∀t r,u=t :: r->h=t∧h'=Ja k t) kr kr u:=by
 intro a r h;unfold kr at h ⊢;injection h with e1 e2;subst e1 e2;refine .inl ⟨u,_,rfl,List.suffix_refl _,rfl,rfl,?_⟩;rintro t r rfl;exact⟨rfl,rfl⟩
omit hX hE in
theorem kT {v u:List aH}(h:v<:+u):v.length<=u.length:=h.length_le
theorem aF.ad9 {one two:Ps α}{Q:α->α->Prop}(h1:∀u,aF k D E X (fun a b _=>Q a b) one two u)(n:Nat):∀(u:List aH) (f g:Nat) (l m:List α),u.length<=n->u.length<f->u.length<g->l.length=m.length->(∀x∈l.zip m,Q x.1 x.2)->
  aF k D E X (fun a b _=>a.length=b.length∧∀x∈a.zip b,Q x.1 x.2) (pF one f l) (pF two g m) u:=by
 induction n with
 |zero=>
  intro u f g l m hn hf hg hl hz;obtain⟨f,rfl⟩:∃f',f=f'+1:=⟨f - 1,by omega⟩
  obtain⟨g,rfl⟩:∃f',g=f'+1:=⟨g - 1,by omega⟩
  refine(aF.has hE hX (by decide)).then_ fun a b v hv ⟨e,h⟩=>?_;subst e;rcases h with⟨rfl,rfl⟩ |⟨t,rfl,rfl⟩
  ·exact .ret ⟨hl,hz⟩
  ·simp at hn
 |succ n ih=>
  intro u f g l m hn hf hg hl hz;obtain⟨f,rfl⟩:∃f',f=f'+1:=⟨f - 1,by omega⟩
  obtain⟨g,rfl⟩:∃f',g=f'+1:=⟨g - 1,by omega⟩
  refine(aF.has hE hX (by decide)).then_ fun a b v hv ⟨e,h⟩=>?_;subst e;rcases h with⟨rfl,rfl⟩ |⟨t,rfl,rfl⟩
  ·exact .ret ⟨hl,hz⟩
  ·refine(h1 v).then_ fun a b v2 hv2 hab=>?_;have:=kT hv2;simp only [List.length_cons]at hn hf hg;refine ih v2 f g _ _ (by omega) (by omega) (by omega) (by simp [hl]) ?_;rw [List.zip_append hl];intro x hx;rcases List.mem_append.1 hx with hx |hx
   ·exact hz x hx
   ·simp only [List.zip_cons_cons,List.zip_nil_right,List.mem_singleton]at hx;subst hx;exact hab
theorem aF.sep {one two:Ps α}{Q:α->α->Prop}(h1:∀u,aF k D E X (fun a b _=>Q a b) one two u):aF k D E X (fun a b _=>a.length=b.length∧∀x∈a.zip b,Q x.1 x.2) (gU one) (gU two) u:=
 (h1 u).then_ fun a b v _ hab=>aF.fuel (p:=fun n=>pF one n [a]) (q:=fun n=>pF two n [b]) (fun f g hf hg=>aF.ad9 hE hX h1 v.length v f g _ _ (Nat.le_refl _) hf hg rfl (by simpa using hab)) hX
omit hX hE in
theorem MJ {a b:List α}(hl:a.length=b.length)(h:∀x∈a.zip b,x.2=x.1):b=a:=by
 induction a generalizing b with
 |nil=>cases b with |nil=>rfl |cons y b=>simp at hl
 |cons x a ih=>
  cases b with
  |nil=>simp at hl
  |cons y b=>
   have h1:=h (x,y) (by simp);simp only at h1;rw [h1,ih (b:=b) (by simpa using hl) (fun z hz=>h z (by simp [hz]))]
omit hX hE in
theorem zip_map {a b:List α}{φ:α->α}(hl:a.length=b.length)(h:∀x∈a.zip b,x.2=φ x.1):b=a.map φ:=by
 induction a generalizing b with
 |nil=>cases b with |nil=>rfl |cons y b=>simp at hl
 |cons x a ih=>
  cases b with
  |nil=>simp at hl
  |cons y b=>
   have h1:=h (x,y) (by simp);simp only at h1;rw [h1,ih (b:=b) (by simpa using hl) (fun z hz=>h z (by simp [hz]))];rfl
end
section
variable {k:Nat}{D:Prop}{E:aH}{X:List aH}{u:List aH}(hE:E.kind=0) (hX:Ka X)
abbrev EqT:bZ->bZ->List aH->Prop:=fun a b _=>b=a
abbrev MK (k:Nat):bW->bW->List aH->Prop:=fun a b _=>b=Qa k a
variable {typ Di:Ps bZ}(ht:∀u,aF k D E X EqT typ Di u) {expr expr' unary ML:Ps bW}(he:∀u,aF k D E X (MK k) expr expr' u) (hu:∀u,aF k D E X (MK k) unary ML u)
include hE hX ht
theorem aF.Nh:aF k D E X EqT (lK typ) (lK Di) u:=by
 refine(aF.kH hE hX (by decide)).then_ fun a b v hv ⟨e,h⟩=>?_;subst e;rcases a with _ |n
 ·refine(aF.kH hE hX (by decide)).then_ fun a b v hv ⟨e,h⟩=>?_;subst e;rcases a with _ |_ |n
  ·exact(aF.name hE).then_ fun a b v hv e=>by subst e;exact .ret rfl
  ·exact(ht _).then_ fun a b v hv e=>by subst e;exact(aF.want hE).then_ fun _ _ v _ _=>.ret rfl
  ·refine(aF.has hE hX (by decide)).then_ fun a b v hv ⟨e,h⟩=>?_;subst e;cases a
   ·refine(aF.sep (Q:=fun a b=>b=a) hE hX fun u=>?_).then_ fun a b v hv h=>?_
    ·exact(aF.name hE).then_ fun a b v hv e=>by subst e;exact(aF.want hE).then_ fun _ _ v _ _=>(ht _).then_ fun a b v hv e=>by subst e;exact .ret rfl
    ·obtain rfl:=MJ h.1 h.2;exact(aF.want hE).then_ fun _ _ v _ _=>.ret rfl
   ·exact .ret rfl
 ·exact .ret rfl
theorem aF.alt (n:Nat):∀(u:List aH) (f g:Nat) (l:List bZ),u.length<=n->u.length<f->u.length<g->
  aF k D E X (fun a b _=>b=a) (qG typ f l) (qG Di g l) u:=by
 induction n with
 |zero=>
  intro u f g l hn hf hg;obtain⟨f,rfl⟩:∃f',f=f'+1:=⟨f - 1,by omega⟩
  obtain⟨g,rfl⟩:∃f',g=f'+1:=⟨g - 1,by omega⟩
  refine(aF.has hE hX (by decide)).then_ fun a b v hv ⟨e,h⟩=>?_;subst e;rcases h with⟨rfl,rfl⟩ |⟨t,rfl,rfl⟩
  ·exact .ret rfl
  ·simp at hn
 |succ n ih=>
  intro u f g l hn hf hg;obtain⟨f,rfl⟩:∃f',f=f'+1:=⟨f - 1,by omega⟩
  obtain⟨g,rfl⟩:∃f',g=f'+1:=⟨g - 1,by omega⟩
  refine(aF.has hE hX (by decide)).then_ fun a b v hv ⟨e,h⟩=>?_;subst e;rcases h with⟨rfl,rfl⟩ |⟨t,rfl,rfl⟩
  ·exact .ret rfl
  ·refine(aF.Nh hE hX ht).then_ fun a b v2 hv2 hab=>?_;subst hab;have:=kT hv2;simp only [List.length_cons]at hn hf hg;exact ih v2 f g _ (by omega) (by omega) (by omega)
theorem aF.aj8:aF k D E X EqT (JD typ) (JD Di) u:=by
 refine(aF.Nh hE hX ht).then_ fun a b v hv e=>?_;subst e;refine(aF.fuel (p:=fun n=>qG typ n [b]) (q:=fun n=>qG Di n [b]) (fun f g hf hg=>aF.alt hE hX ht v.length v f g _ (Nat.le_refl _) hf hg) hX).then_ fun a b v hv e=>?_;subst e;refine(aF.has hE hX (by decide)).then_ fun a b v hv ⟨e,h⟩=>?_;subst e;cases a
 ·exact .ret rfl
 ·exact(ht _).then_ fun a b v hv e=>by subst e;exact .ret rfl
theorem aF.note (l n:List bZ):aF k D E X (fun a b _=>b=a) (fZ typ l n) (fZ Di l n) u:=by
 refine(aF.has hE hX (by decide)).then_ fun a b v hv ⟨e,h⟩=>?_;subst e;cases a
 ·exact .ret rfl
 ·exact(ht _).then_ fun a b v hv e=>by subst e;exact .ret rfl
theorem aF.head (n:List bZ):aF k D E X (fun a b _=>b=a) (jB typ n) (jB Di n) u:=by
 refine(aF.want hE).then_ fun _ _ v _ _=>(aF.name hE).then_ fun a b v hv e=>?_;subst e;refine(aF.note hE hX ht _ _).then_ fun a b v hv e=>?_;subst e;refine(aF.want hE).then_ fun _ _ v _ _=>(aF.note hE hX ht _ _).then_ fun a b v hv e=>?_;subst e;exact .ret rfl
omit ht hX
include he
theorem aF.kids:∀(a:List Bt) (l:List bW) {u:List aH},aF k D E X (fun a b _=>b=a.map (Qa k)) (bJ expr a l) (bJ expr' a (l.map (Qa k))) u
 | [],l,u=>.ret rfl
 |s :: r,l,u=>by
  refine aF.then_ (R:=fun _ _ _=>True) ?_ fun _ _ v _ _=>?_
  ·by_cases hs:s=[]
   ·rw [if_pos hs];exact .ret trivial
   ·rw [if_neg hs];exact(aF.want hE).mono fun _ _ _ _=>trivial
  ·refine(he _).then_ fun a b v hv e=>?_;subst e;have:=aF.kids r (l++[a]) (u:=v);rwa [List.map_append]at this
omit he
include hX
theorem aF.left {sub sub':Ps bW}(hs:∀u,aF k D E X (MK k) sub sub' u){ops:List Bt}(ho:∀s∈ops,s≠[41])(n:Nat):∀(u:List aH) (f g:Nat) (a:bW),u.length<=n->u.length<f->u.length<g->
  aF k D E X (MK k) (kJ ops sub f a) (kJ ops sub' g (Qa k a)) u:=by
 induction n with
 |zero=>
  intro u f g l hn hf hg;obtain⟨f,rfl⟩:∃f',f=f'+1:=⟨f - 1,by omega⟩
  obtain⟨g,rfl⟩:∃f',g=f'+1:=⟨g - 1,by omega⟩
  refine aF.here.then_ fun a b v hv ⟨e,h1⟩=>?_;subst e;refine(aF.kH hE hX ho).then_ fun a b v hv ⟨e,h⟩=>?_;subst e;rcases h with⟨rfl,rfl⟩ |⟨t,i,rfl,rfl⟩
  ·exact .ret rfl
  ·simp at hn
 |succ n ih=>
  intro u f g l hn hf hg;obtain⟨f,rfl⟩:∃f',f=f'+1:=⟨f - 1,by omega⟩
  obtain⟨g,rfl⟩:∃f',g=f'+1:=⟨g - 1,by omega⟩
  refine aF.here.then_ fun a b v hv ⟨e,h1⟩=>?_;subst e;refine(aF.kH hE hX ho).then_ fun a b v hv ⟨e,h⟩=>?_;subst e;rcases h with⟨rfl,rfl⟩ |⟨t,i,rfl,rfl⟩
  ·exact .ret rfl
  ·obtain⟨rfl,rfl⟩:=h1 t v rfl;refine(hs v).then_ fun a b v2 hv2 hab=>?_;subst hab;have:=kT hv2;simp only [List.length_cons]at hn hf hg;exact ih v2 f g (aI 14 (ops.getD i []) 0 _ [] [] [l,a]) (by omega) (by omega) (by omega)
theorem aF.Yq {sub sub':Ps bW}(hs:∀u,aF k D E X (MK k) sub sub' u){ops:List Bt}(ho:∀s∈ops,s≠[41]):aF k D E X (MK k) (ED ops sub) (ED ops sub') u:=
 (hs u).then_ fun a b v hv e=>by
  subst e;exact aF.fuel (p:=fun n=>kJ ops sub n a) (q:=fun n=>kJ ops sub' n (Qa k a)) (fun f g hf hg=>aF.left hE hX hs ho v.length v f g a (Nat.le_refl _) hf hg) hX
include ht
theorem aF.cmp {sub sub':Ps bW}(hs:∀u,aF k D E X (MK k) sub sub' u):aF k D E X (MK k) (Ng typ sub) (Ng Di sub') u:=by
 refine(hs u).then_ fun x b v hv e=>?_;subst e;refine aF.here.then_ fun a b v hv ⟨e,h1⟩=>?_;subst e;refine(aF.kH hE hX (by decide)).then_ fun a b v hv ⟨e,h⟩=>?_;subst e;rcases h with⟨rfl,rfl⟩ |⟨t,i,rfl,rfl⟩
 ·exact .ret rfl
 ·obtain⟨rfl,rfl⟩:=h1 t v rfl;simp only;by_cases h3:i=3
  ·rw [if_pos h3,if_pos h3];refine(aF.kH hE hX (by decide)).then_ fun a b v hv ⟨e,h⟩=>?_;subst e;rcases a with _ |n
   ·exact aF.fail
   ·exact .ret rfl
  ·rw [if_neg h3,if_neg h3];by_cases h4:i=4
   ·rw [if_pos h4,if_pos h4];exact(ht _).then_ fun a b v hv e=>by subst e;exact .ret rfl
   ·rw [if_neg h4,if_neg h4];exact(hs _).then_ fun a b v hv e=>by subst e;exact .ret rfl
include hu
theorem aF.rank:∀(f:Nat) {u:List aH},f<=6->aF k D E X (MK k) (je typ unary f) (je Di ML f) u
 |0,u,_=>hu u
 |f+1,u,hf=>by
  unfold je;by_cases h3:f=3
  ·rw [if_pos h3,if_pos h3];exact aF.cmp hE hX ht fun u=>aF.rank f (by omega)
  ·rw [if_neg h3,if_neg h3];refine aF.Yq hE hX (fun u=>aF.rank f (by omega)) ?_;have:f=0∨f=1∨f=2∨f=4∨f=5:=by omega
   rcases this with rfl |rfl |rfl |rfl |rfl <;> decide
include he
theorem aF.Yr:aF k D E X (MK k) (EF typ expr unary) (EF Di expr' ML) u:=by
 refine aF.here.then_ fun a b v hv ⟨e,h1⟩=>?_;subst e;refine(aF.kH hE hX (by decide)).then_ fun a b v hv ⟨e,h⟩=>?_;subst e;rcases h with⟨rfl,rfl⟩ |⟨t,i,rfl,rfl⟩
 ·exact aF.rank hE hX ht hu 6 (Nat.le_refl _)
 ·obtain⟨rfl,rfl⟩:=h1 t v rfl;rcases i with _ |_ |i
  ·refine(aF.name hE).then_ fun a b v hv e=>?_;subst e;refine(aF.note hE hX ht _ _).then_ fun a b v hv e=>?_;subst e;exact(aF.kids hE he _ []).then_ fun a b v hv e=>by subst e;exact .ret (uL ..)
  ·exact(aF.kids hE he _ []).then_ fun a b v hv e=>by subst e;exact .ret (uL ..)
  ·refine(aF.head hE hX ht _).then_ fun a b v hv e=>?_;subst e;exact(aF.kids hE he _ []).then_ fun a b v hv e=>by subst e;exact .ret (uL ..)
omit hu ht hX
theorem aF.Dv:aF k D E X (fun a b _=>b=(a.1,Qa k a.2)) (iC expr) (iC expr') u:=by
 refine(aF.name hE).then_ fun a b v hv e=>?_;subst e;refine(aF.want hE).then_ fun _ _ v _ _=>(he _).then_ fun a b v hv e=>?_;subst e;exact .ret rfl
include hX
theorem aF.aj9 (t:aH):aF k D E X (MK k) (nX expr t) (nX expr' (Ja k t)) u:=by
 have hX':=hX;obtain⟨x,X',rfl,hx⟩:=hX';refine aF.then_ (R:=fun a b v=>a=b∧v=u) ?_ fun a b v hv ⟨e,h⟩=>?_
 ·intro a r h;unfold pG at h ⊢;injection h with e1 e2;subst e1 e2;refine .inl ⟨u,_,rfl,List.suffix_refl _,rfl,?_,rfl⟩;cases u with
  |nil=>simp [aR,zH hE,Dh hx (s:=[125]) (by decide)]
  |cons t u=>simp [aR,acd]
 ·subst e h;cases a
  ·rw [if_neg Bool.false_ne_true,if_neg Bool.false_ne_true];refine aF.then_ (R:=fun a b w=>a=b∧w=v) ?_ fun a b v hv ⟨e,h⟩=>?_
   ·intro a r h;unfold pG at h ⊢;injection h with e1 e2;subst e1 e2;refine .inl ⟨v,_,rfl,List.suffix_refl _,rfl,?_,rfl⟩;rcases v with _ |⟨t,_ |⟨t2,v⟩⟩
    ·have hk:(x.kind==1)=false:=by rcases hx with hx |hx <;> simp [hx]
     simp [aR,hE,hk]
    ·simp [aR,zH hE,Dh hx (s:=[58]) (by decide)]
    ·simp [aR,acd];rfl
   ·subst e h;cases a
    ·rw [if_neg Bool.false_ne_true,if_neg Bool.false_ne_true];refine(aF.kids hE he _ []).then_ fun m b v hv e=>?_;subst e;refine(aF.want hE).then_ fun _ _ v _ _=>(aF.name hE).then_ fun a b v hv e=>?_;subst e;exact(aF.kids hE he _ m).then_ fun a b v hv e=>by subst e;exact .ret (uL ..)
    ·rw [if_pos rfl,if_pos rfl];refine(aF.sep (Q:=fun a b=>b=(a.1,Qa k a.2)) hE hX fun u=>aF.Dv hE he).then_ fun a b v hv h=>?_;obtain rfl:=zip_map (φ:=fun a:Bt ×bW=>(a.1,Qa k a.2)) h.1 h.2;exact .ret (by have:=uL k 8 [] 0 t [] (a.map (·.1)) (a.map (·.2));simpa [Function.comp_def]using this)
  ·exact .ret (rH ..)
omit he
include ht
theorem aF.named {h h':aH}(hh:∀t r,u=t :: r->h=t∧h'=Ja k t):aF k D E X (MK k) (qH typ h) (qH Di h') u:=by
 refine(aF.kind hE (by decide)).then_ fun a b v hv ⟨e,t,hu,_⟩=>?_;subst e;obtain⟨rfl,rfl⟩:=hh t v hu;refine(aF.has hE hX (by decide)).then_ fun a b v hv ⟨e,h⟩=>?_;subst e;cases a
 ·exact .ret (rH ..)
 ·refine(aF.sep (Q:=fun a b=>b=a) hE hX fun u=>ht u).then_ fun a b v hv h=>?_;obtain rfl:=MJ h.1 h.2;exact(aF.want hE).then_ fun _ _ v _ _=>.ret (rH ..)
include he
theorem aF.atom:aF k D E X (MK k) (um typ expr) (um Di expr') u:=by
 have hX':=hX;obtain⟨x,X',rfl,hx⟩:=hX';have hxk:∀n:Int,n=3∨n=4->x.kind≠n:=by
  intro n hn h;rcases hx with h1 |⟨h1,_⟩ <;> omega
 refine aF.then_ (R:=fun h h' v=>v=u∧(∀t r,u=t :: r->h=t∧h'=Ja k t)∧(u=[]->h=E∧h'=x)) ?_ fun h h' v hv ⟨e,hh,hn⟩=>?_
 ·intro a r h;unfold kr at h ⊢;injection h with e1 e2;subst e1 e2;refine .inl ⟨u,_,rfl,List.suffix_refl _,rfl,rfl,?_,?_⟩
  ·rintro t r rfl;exact⟨rfl,rfl⟩
  ·rintro rfl;exact⟨rfl,rfl⟩
 ·subst e;have hk:(h.kind=3↔h'.kind=3)∧(h.kind=4↔h'.kind=4):=by
   cases v with
   |nil=>
    obtain⟨rfl,rfl⟩:=hn rfl;have h3:=hxk 3 (.inl rfl);have h4:=hxk 4 (.inr rfl);rw [hE];exact⟨⟨fun h=>(by cases h),fun h=>absurd h h3⟩,⟨fun h=>(by cases h),fun h=>absurd h h4⟩⟩
   |cons t r=>
    obtain⟨rfl,rfl⟩:=hh t r rfl;exact⟨Iff.rfl,Iff.rfl⟩
  by_cases h3:h.kind=3
  ·rw [if_pos h3,if_pos (hk.1.1 h3)];refine(aF.kind hE (by decide)).then_ fun a b w hv ⟨e,t,hu,_⟩=>?_;subst e;obtain⟨rfl,rfl⟩:=hh t w hu;exact .ret (rH ..)
  ·rw [if_neg h3,if_neg (fun h=>h3 (hk.1.2 h))];by_cases h4:h.kind=4
   ·rw [if_pos h4,if_pos (hk.2.1 h4)];refine(aF.kind hE (by decide)).then_ fun a b w hv ⟨e,t,hu,_⟩=>?_;subst e;obtain⟨rfl,rfl⟩:=hh t w hu;exact .ret (rH ..)
   ·rw [if_neg h4,if_neg (fun h=>h4 (hk.2.2 h))];refine(aF.kH hE hX (by decide)).then_ fun a b w hv ⟨e,h1⟩=>?_;subst e;rcases h1 with⟨rfl,rfl⟩ |⟨t,i,rfl,rfl⟩
    ·exact aF.named hE hX ht hh
    ·obtain⟨rfl,rfl⟩:=hh t w rfl;rcases i with _ |_ |_ |_ |_ |_ |i
     ·exact .ret (rH ..)
     ·exact .ret (rH ..)
     ·exact .ret (rH ..)
     ·exact(aF.wants hE _).then_ fun _ _ v _ _=>.ret (rH ..)
     ·exact(aF.kids hE he _ []).then_ fun a b v hv e=>by subst e;exact(aF.want hE).then_ fun _ _ v _ _=>.ret (uL ..)
     ·exact(he _).then_ fun a b v hv e=>by subst e;exact(aF.want hE).then_ fun _ _ v _ _=>.ret rfl
     ·exact(aF.aj9 hE hX he _).then_ fun a b v hv e=>by subst e;exact(aF.want hE).then_ fun _ _ v _ _=>.ret rfl
omit ht
theorem aF.Ni (n:Nat):∀(u:List aH) (f g:Nat) (a:bW),u.length<=n->u.length<f->u.length<g->
  aF k D E X (MK k) (iD expr f a) (iD expr' g (Qa k a)) u:=by
 induction n with
 |zero=>
  intro u f g l hn hf hg;obtain⟨f,rfl⟩:∃f',f=f'+1:=⟨f - 1,by omega⟩
  obtain⟨g,rfl⟩:∃f',g=f'+1:=⟨g - 1,by omega⟩
  refine aF.here.then_ fun a b v hv ⟨e,h1⟩=>?_;subst e;refine(aF.kH hE hX (by decide)).then_ fun a b v hv ⟨e,h⟩=>?_;subst e;rcases h with⟨rfl,rfl⟩ |⟨t,i,rfl,rfl⟩
  ·exact .ret rfl
  ·simp at hn
 |succ n ih=>
  intro u f g l hn hf hg;obtain⟨f,rfl⟩:∃f',f=f'+1:=⟨f - 1,by omega⟩
  obtain⟨g,rfl⟩:∃f',g=f'+1:=⟨g - 1,by omega⟩
  refine aF.here.then_ fun a b v hv ⟨e,h1⟩=>?_;subst e;refine(aF.kH hE hX (by decide)).then_ fun a b v hv ⟨e,h⟩=>?_;subst e;rcases h with⟨rfl,rfl⟩ |⟨t,i,rfl,rfl⟩
  ·exact .ret rfl
  ·obtain⟨rfl,rfl⟩:=h1 t v rfl;simp only [List.length_cons]at hn hf hg;rcases i with _ |i
   ·refine(aF.kids hE he _ [l]).then_ fun a b v1 hv1 e=>?_;subst e;refine(aF.want hE).then_ fun _ _ v2 hv2 _=>?_;have:=kT hv2;have:=kT hv1;have h:=fun x:aH=>ih v2 f g (aI 7 [] 0 x [] [] a) (by omega) (by omega) (by omega);simp only [<-uL]at h;exact h _
   ·refine(aF.name hE).then_ fun a b v2 hv2 e=>?_;subst e;have:=kT hv2;exact ih v2 f g (aI 9 a 0 _ [] [] [l]) (by omega) (by omega) (by omega)
include ht
theorem aF.post:aF k D E X (MK k) (qQ typ expr) (qQ Di expr') u:=
 (aF.atom hE hX ht he).then_ fun a b v hv e=>by
  subst e;exact aF.fuel (p:=fun n=>iD expr n a) (q:=fun n=>iD expr' n (Qa k a)) (fun f g hf hg=>aF.Ni hE hX he v.length v f g a (Nat.le_refl _) hf hg) hX
include hu
theorem aF.Q0:aF k D E X (MK k) (yu typ expr unary) (yu Di expr' ML) u:=by
 refine aF.here.then_ fun a b v hv ⟨e,h1⟩=>?_;subst e;refine(aF.kH hE hX (by decide)).then_ fun a b v hv ⟨e,h⟩=>?_;subst e;rcases h with⟨rfl,rfl⟩ |⟨t,i,rfl,rfl⟩
 ·exact aF.post hE hX ht he
 ·obtain⟨rfl,rfl⟩:=h1 t v rfl;rcases i with _ |i
  ·exact(hu _).then_ fun a b v hv e=>by subst e;exact .ret rfl
  ·exact(hu _).then_ fun a b v hv e=>by subst e;exact .ret rfl
end
theorem aF.Q6 {k:Nat}{E:aH}{X:List aH}(hE:E.kind=0)(hX:Ka X):∀(m n:Nat),m<=n->
  (∀u,aF k (m<n) E X EqT (dw n).typ (dw m).typ u)∧(∀u,aF k (m<n) E X (MK k) (dw n).expr (dw m).expr u)∧(∀u,aF k (m<n) E X (MK k) (dw n).unary (dw m).unary u)
 |0,0,_=>⟨fun u=>aF.fail,fun u=>aF.fail,fun u=>aF.fail⟩
 |0,n+1,_=>⟨fun u a r h=>.inr ⟨by omega,_,_,rfl⟩,fun u a r h=>.inr ⟨by omega,_,_,rfl⟩,fun u a r h=>.inr ⟨by omega,_,_,rfl⟩⟩
 |m+1,0,h=>absurd h (by omega)
 |m+1,n+1,h=>by
  have h1:=aF.Q6 (k:=k) hE hX m n (by omega);have e:(m+1<n+1)=(m<n):=by simp
  rw [e];obtain⟨h1,h2,h3⟩:=h1;exact⟨fun u=>aF.aj8 hE hX h1,fun u=>aF.Yr hE hX h1 h2 h3,fun u=>aF.Q0 hE hX h1 h2 h3⟩
theorem Xq {t:Bt}{kd:Int}(h:Lj kd t):kd≠0∧(kd=2->t≠[58]):=by
 obtain⟨h1,_,h2,_⟩:=h;refine⟨by omega,fun e=>?_⟩;have:=h2 e;rintro rfl;exact absurd this (by decide)
theorem K7:∀(f:Nat) (s:Bt) (p:Nat ×Nat) (out:List aH),(qE f s p out).2.2.2=0->(qE f s p out).2=(0,0,0)
 |0,s,p,out,h=>rfl
 |f+1,s,p,out,h=>by
  rw [qE]at h ⊢;by_cases hnil:s.drop (bP s)=[]
  ·rw [if_pos hnil]
  ·rw [if_neg hnil]at h ⊢;cases hn:fq (s.drop (bP s))with
   |inl e=>
    rw [hn]at h;exact absurd h (zk hn)
   |inr x=>
    obtain⟨kd,t,n⟩:=x;rw [hn]at h;simp only at h ⊢;by_cases h8:out.length=8192
    ·rw [if_pos h8]at h;exact absurd (show(19:Int)=0 from h) (by decide)
    ·rw [if_neg h8]at h ⊢;exact K7 f _ _ _ h
theorem Dj {s:Bt}(h:(gH s).2.2.2=0):(gH s).2=(0,0,0):=by
 by_cases hs:65536<s.length
 ·unfold gH at h;rw [if_pos hs]at h;exact absurd (show(2:Int)=0 from h) (by decide)
 ·rw [Ym s (by omega)]at h ⊢;exact K7 _ _ _ _ h
theorem aft {s:Bt}{l:List aH}(h:gH s=(l,(0,0,0))):∃m e,l=m++[e]∧e.kind=0∧(∀t∈m,Lj t.kind t.text)∧m.length<=s.length∧Wf l:=by
 by_cases hs:65536<s.length
 ·unfold gH at h;rw [if_pos hs]at h;cases h
 ·rw [Ym s (by omega)]at h;obtain⟨m,e,h1,h2,_,h3,h4,_⟩:=Kl _ s (1,1) [] (Nat.lt_succ_self _) (by rw [h]);rw [h]at h1;injection h1 with h1 _;rw [List.nil_append]at h1;exact⟨m,e,h1,h2,h4,h3,m,e,h1,h2,fun t ht=>Xq (h4 t ht)⟩
def bW.line:bW->Int |.mk _ _ _ l _ _ _ _=>l
def bW.col:bW->Int |.mk _ _ _ _ c _ _ _=>c
def shI (k:Nat)(i:vB):vB:={ i with line:=i.line+k}
def shD (k:Nat)(d:qY):qY:={ d with line:=d.line+k,body:=Qa k d.body}
def shM (k:Nat)(m:Bw):Bw:=⟨m.imps.map (shI k),m.decls.map (shD k)⟩
section
variable {k:Nat}{E x:aH}(hE:E.kind=0) (hx:x.kind=0) {u:List aH}
include hE hx
theorem aF.amv:(∀u,aF k False E [x] EqT (dw 100).typ (dw 100).typ u)∧(∀u,aF k False E [x] (MK k) (dw 100).expr (dw 100).expr u):=by
 have h:=aF.Q6 (k:=k) hE ⟨x,[],rfl,.inl hx⟩ 100 100 (Nat.le_refl _);have e:(100<100)=False:=by simp
 rw [e]at h;exact⟨h.1,h.2.1⟩
theorem aF.var:aF k False E [x] (fun a b _=>b=a) tK tK u:=by
 have hX:Ka [x]:=⟨x,[],rfl,.inl hx⟩
 refine(aF.name hE).then_ fun a b v hv e=>?_;subst e;refine(aF.has hE hX (by decide)).then_ fun c b v hv ⟨e,h⟩=>?_;subst e;cases c
 ·exact .ret rfl
 ·exact((aF.amv hE hx).1 _).then_ fun a b v hv e=>by subst e;exact .ret rfl
theorem aF.vars:aF k False E [x] (fun a b _=>b=a) rW rW u:=by
 have hX:Ka [x]:=⟨x,[],rfl,.inl hx⟩
 refine(aF.has hE hX (by decide)).then_ fun c b v hv ⟨e,h⟩=>?_;subst e;cases c
 ·exact .ret rfl
 ·refine(aF.sep (Q:=fun a b=>b=a) hE hX fun u=>aF.var hE hx).then_ fun a b v hv h=>?_;obtain rfl:=MJ h.1 h.2;exact(aF.want hE).then_ fun _ _ v _ _=>.ret rfl
theorem aF.import_ (t:aH):aF k False E [x] (fun a b _=>b=shI k a) (lD t) (lD (Ja k t)) u:=by
 have hX:Ka [x]:=⟨x,[],rfl,.inl hx⟩
 refine(aF.name hE).then_ fun a b v hv e=>?_;subst e;refine(aF.want hE).then_ fun _ _ v _ _=>(aF.sep (Q:=fun a b=>b=a) hE hX fun u=>(aF.name hE).mono fun _ _ _ e=>e.symm).then_ fun a b v hv h=>?_;obtain rfl:=MJ h.1 h.2;exact(aF.want hE).then_ fun _ _ v _ _=>.ret (by simp [shI,Ja])
theorem aF.decl:aF k False E [x] (fun a b v=>b=shD k a∧v.length<u.length) l9 l9 u:=by
 have hX:Ka [x]:=⟨x,[],rfl,.inl hx⟩
 refine(aF.has hE hX (by decide)).then_ fun c b v0 hv0 ⟨e,_⟩=>?_;subst e;refine aF.here.then_ fun h h' v hv ⟨e,h1⟩=>?_;subst e;refine(aF.want hE).then_ fun _ _ v1 _ ⟨t,ht⟩=>?_;obtain⟨rfl,rfl⟩:=h1 _ _ ht;have hlt:v1.length<u.length:=by have:=kT hv0;rw [ht]at this;simp at this;omega
 refine(aF.name hE).then_ fun a b v2 hv2 e=>?_;subst e;refine(aF.vars hE hx).then_ fun a b v3 hv3 e=>?_;subst e;refine(aF.head hE hX (aF.amv hE hx).1 _).then_ fun a b v4 hv4 e=>?_;subst e;refine(aF.want hE).then_ fun _ _ v5 hv5 _=>((aF.amv hE hx).2 _).then_ fun a b v6 hv6 e=>?_;subst e;refine(aF.want hE).then_ fun _ _ v7 hv7 _=>.ret ⟨by simp [shD,Ja],?_⟩;have:=kT hv2;have:=kT hv3;have:=kT hv4;have:=kT hv5;have:=kT hv6;have:=kT hv7;omega
theorem aF.imps (n:Nat):∀(u:List aH) (f g:Nat) (l:List vB),u.length<=n->u.length<f->u.length<g->
  aF k False E [x] (fun a b _=>b=a.map (shI k)) (kZ f l) (kZ g (l.map (shI k))) u:=by
 have hX:Ka [x]:=⟨x,[],rfl,.inl hx⟩
 induction n with
 |zero=>
  intro u f g l hn hf hg;obtain⟨f,rfl⟩:∃f',f=f'+1:=⟨f - 1,by omega⟩
  obtain⟨g,rfl⟩:∃f',g=f'+1:=⟨g - 1,by omega⟩
  refine aF.here.then_ fun a b v hv ⟨e,h1⟩=>?_;subst e;refine(aF.has hE hX (by decide)).then_ fun a b v hv ⟨e,h⟩=>?_;subst e;rcases h with⟨rfl,rfl⟩ |⟨t,rfl,rfl⟩
  ·exact .ret rfl
  ·simp at hn
 |succ n ih=>
  intro u f g l hn hf hg;obtain⟨f,rfl⟩:∃f',f=f'+1:=⟨f - 1,by omega⟩
  obtain⟨g,rfl⟩:∃f',g=f'+1:=⟨g - 1,by omega⟩
  refine aF.here.then_ fun a b v hv ⟨e,h1⟩=>?_;subst e;refine(aF.has hE hX (by decide)).then_ fun a b v hv ⟨e,h⟩=>?_;subst e;rcases h with⟨rfl,rfl⟩ |⟨t,rfl,rfl⟩
  ·exact .ret rfl
  ·obtain⟨rfl,rfl⟩:=h1 t v rfl;refine(aF.import_ hE hx _).then_ fun a b v2 hv2 hab=>?_;subst hab;have:=kT hv2;simp only [List.length_cons]at hn hf hg;have h:=ih v2 f g (l++[a]) (by omega) (by omega) (by omega);rwa [List.map_append]at h
theorem aF.decls (n:Nat):∀(u:List aH) (f g:Nat) (l:List qY),Wf (u++[E])->u.length<=n->u.length<f->u.length<g->
  aF k False E [x] (fun a b _=>b=a.map (shD k)) (fO f l) (fO g (l.map (shD k))) u:=by
 induction n with
 |zero=>
  intro u f g l hw hn hf hg;obtain⟨f,rfl⟩:∃f',f=f'+1:=⟨f - 1,by omega⟩
  obtain⟨g,rfl⟩:∃f',g=f'+1:=⟨g - 1,by omega⟩
  obtain rfl:u=[]:=List.eq_nil_of_length_eq_zero (by omega);have e1:fO (f+1) l [E]=.good l [E]:=by unfold fO;rw [au (show pG (fun t _=>t.kind==0) [E]=.good (E.kind==0) [E]from rfl),hE];rfl
  have e2:fO (g+1) (l.map (shD k)) [x]=.good (l.map (shD k)) [x]:=by unfold fO;rw [au (show pG (fun t _=>t.kind==0) [x]=.good (x.kind==0) [x]from rfl),hx];rfl
  intro a r h;rw [List.nil_append,e1]at h;injection h with h1 h2;subst h1 h2;exact .inl ⟨[],_,rfl,List.suffix_refl _,e2,rfl⟩
 |succ n ih=>
  intro u f g l hw hn hf hg;obtain⟨f,rfl⟩:∃f',f=f'+1:=⟨f - 1,by omega⟩
  obtain⟨g,rfl⟩:∃f',g=f'+1:=⟨g - 1,by omega⟩
  cases u with
  |nil=>
   have e1:fO (f+1) l [E]=.good l [E]:=by unfold fO;rw [au (show pG (fun t _=>t.kind==0) [E]=.good (E.kind==0) [E]from rfl),hE];rfl
   have e2:fO (g+1) (l.map (shD k)) [x]=.good (l.map (shD k)) [x]:=by unfold fO;rw [au (show pG (fun t _=>t.kind==0) [x]=.good (x.kind==0) [x]from rfl),hx];rfl
   intro a r h;rw [List.nil_append,e1]at h;injection h with h1 h2;subst h1 h2;exact .inl ⟨[],_,rfl,List.suffix_refl _,e2,rfl⟩
  |cons t u=>
   have ht:t.kind≠0:=by
    rcases hw.cases with⟨e,he,_⟩ |⟨t',r,he,h1,_⟩
    ·simp at he
    ·injection he with he _;rw [he];exact h1
   intro a r h;unfold fO at h ⊢;rw [au (show pG (fun t _=>t.kind==0) (t :: u++[E])=.good (t.kind==0) (t :: u++[E])from rfl),beq_false_of_ne ht]at h;rw [au (show pG (fun t _=>t.kind==0) ((t :: u).map (Ja k)++[x])=.good (t.kind==0) ((t :: u).map (Ja k)++[x])from rfl),beq_false_of_ne ht];simp only [Bool.false_eq_true,if_false]at h ⊢;rcases hp:l9 (t :: u++[E])with d |⟨d,r1⟩
   ·rw [aA hp]at h;cases h
   ·obtain⟨hr1,_⟩:=Sf.decl.good hw hp;rw [au hp]at h;rcases aF.decl (k:=k) hE hx (u:=t :: u) d r1 hp with⟨v,b,rfl,hv,hq,rfl,hlt⟩ |⟨hD,_⟩
    ·have:=ih v f g (l++[d]) hr1 (by simp only [List.length_cons]at*;omega) (by simp only [List.length_cons]at*;omega) (by simp only [List.length_cons]at*;omega);rcases this a r h with⟨v2,b2,e1,e2,e3,e4⟩ |⟨hD,_⟩
     ·refine .inl ⟨v2,b2,e1,e2.trans hv,?_,e4⟩;rw [au hq];rw [List.map_append]at e3;exact e3
     ·exact hD.elim
    ·exact hD.elim
theorem aF.module (hw:Wf (u++[E])):aF k False E [x] (fun a b _=>b=shM k a) cK cK u:=by
 have hX:Ka [x]:=⟨x,[],rfl,.inl hx⟩
 intro a r h;unfold cK at h ⊢;rcases hp:Tj (u++[E])with d |⟨i,r1⟩
 ·rw [aA hp]at h;cases h
 ·obtain⟨hr1,_⟩:=(Sf.fuel (p:=fun ts=>kZ ts.length []) fun ts=>Sf.imps _ _).good hw hp;rw [au hp]at h;rcases(aF.fuel (p:=fun n=>kZ n []) (q:=fun n=>kZ n []) (fun f g hf hg=>aF.imps (k:=k) hE hx u.length u f g [] (Nat.le_refl _) hf hg) hX) i r1 hp with⟨v,b,rfl,hv,hq,rfl⟩ |⟨hD,_⟩
  ·have h3:=(aF.fuel (p:=fun n=>fO n []) (q:=fun n=>fO n []) (fun f g hf hg=>aF.decls (k:=k) hE hx v.length v f g [] hr1 (Nat.le_refl _) hf hg) hX).then_ (f:=fun d=>aB (Bw.mk i d)) (g:=fun d=>aB (Bw.mk (i.map (shI k)) d)) (S:=fun a b _=>b=shM k a) (fun a b w hw e=>by subst e;exact .ret rfl);rcases h3 a r h with⟨v2,b2,e1,e2,e3,e4⟩ |⟨hD,_⟩
   ·refine .inl ⟨v2,b2,e1,e2.trans hv,?_,e4⟩;rw [au (show Tj _= _ from hq)];exact e3
   ·exact hD.elim
  ·exact hD.elim
end
end Go.Proofs.YtncnnedlgofccaaGreatDoor
