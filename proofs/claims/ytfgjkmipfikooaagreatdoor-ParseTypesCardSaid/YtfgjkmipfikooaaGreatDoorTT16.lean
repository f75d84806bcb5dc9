/- RS, RT, RU, RV, HJ -/
import Derived.Test.YtfgjkmipfikooaaGreatDoorTTQ
import Derived.Test.YtfgjkmipfikooaaGreatDoorTT02
import Derived.Test.YtfgjkmipfikooaaGreatDoorTT01
import Derived.Test.YtfgjkmipfikooaaGreatDoorTT15
import Derived.Test.YtfgjkmipfikooaaGreatDoorTT13
import Derived.Recover
set_option linter.unusedSimpArgs false
set_option linter.unusedVariables false
set_option maxRecDepth 100000
set_option maxHeartbeats 8000000
namespace Go.Proofs.YtfgjkmipfikooaaGreatDoor
open Go.RowKit
def zy (k:Nat) (t:aD):aD:={ t with line:=t.line+k}
mutual
def EI (k:Nat):bX→bX
 | .mk kd t n l c ts ns ks=> .mk kd t n (l+k) c ts ns (Nu k ks)
def Nu (k:Nat):List bX→List bX
 | []=>[]
 | x :: l=>EI k x :: Nu k l
end
theorem EJ (k:Nat):∀l:List bX,Nu k l=l.map (EI k)
 | []=>by simp [Nu]
 | t :: l=>by simp [Nu,EJ k l]
theorem mQ (k:Nat) (kd:Int) (text:Bt) (n:Int) (h:aD) (types:List bT) (names:List Bt) (kids:List bX):aK kd text n (zy k h) types names (kids.map (EI k))=EI k (aK kd text n h types names kids):=by
 unfold aK;rw [EI,EJ];simp [zy]
theorem lD (k:Nat) (kd:Int) (text:Bt) (n:Int) (h:aD) (types:List bT) (names:List Bt):aK kd text n (zy k h) types names []=EI k (aK kd text n h types names []):=mQ k kd text n h types names []
def Aq (X:List aD):Prop:=∃x r,X=x :: r∧(x.kind=0∨(x.kind=5∧x.text=[41]))
theorem Nv (k:Nat) (t:aD) (s:Bt):jc (zy k t) s=jc t s:=rfl
theorem qO {E:aD} (hE:E.kind=0) (s:Bt):jc E s=false:=by unfold jc;rw [hE];rfl
theorem uP {x:aD} (h:x.kind=0∨(x.kind=5∧x.text=[41])) {s:Bt} (hs:s≠[41]):jc x s=false:=by
 rcases h with h | ⟨h,h2⟩
 ·exact qO h s
 ·unfold jc;rw [h2,beq_false_of_ne (Ne.symm hs),Bool.and_false]
section
variable {α β:Type} (k:Nat) (D:Prop) (E:aD) (X:List aD)
def aC (R:α→α→List aD→Prop) (p q:Ps α) (u:List aD):Prop:=∀a r,p (u++[E])= .good a r→
 (∃v b,r=v++[E]∧v<:+u∧q (u.map (zy k)++X)= .good b (v.map (zy k)++X)∧R a b v)∨(D∧∃l c,q (u.map (zy k)++X)= .bad (l,c,6))
end
section
variable {α β:Type} {k:Nat} {D:Prop} {E:aD} {X:List aD} {R:α→α→List aD→Prop} {S:β→β→List aD→Prop} {u:List aD}
theorem aC.ret {a b:α} (h:R a b u):aC k D E X R (aG a) (aG b) u:=by
 intro x r hx;injection hx with h1 h2;subst h1 h2;exact .inl ⟨u,b,rfl,List.suffix_refl _,rfl,h⟩
theorem aC.then_ {p q:Ps α} {f g:α→Ps β} (h:aC k D E X R p q u) (hf:∀a b v,v<:+u→R a b v→aC k D E X S (f a) (g b) v):aC k D E X S (aj p f) (aj q g) u:=by
 intro x r hx;unfold aj at hx;rcases hp:p (u++[E])with d | ⟨a,r1⟩
 ·rw [hp]at hx;cases hx
 ·rw [hp]at hx;rcases h a r1 hp with⟨v,b,rfl,hv,hq,hR⟩ | ⟨hD,l,c,hq⟩
  ·rcases hf a b v hv hR x r hx with⟨v2,b2,e2,hv2,hq2,hS⟩ | ⟨hD,l,c,hq2⟩
   ·exact .inl ⟨v2,b2,e2,hv2.trans hv,by rw [au hq];exact hq2,hS⟩
   ·exact .inr ⟨hD,l,c,by rw [au hq];exact hq2⟩
  ·exact .inr ⟨hD,l,c,aB hq⟩
theorem aC.bad {p q:Ps α} (h:∀a r,p (u++[E])≠ .good a r):aC k D E X R p q u:=fun a r hx=>absurd hx (h a r)
theorem aC.fail {e:Int} {q:Ps α}:aC k D E X R (jh e) q u:= .bad fun a r h=>by cases h
theorem aC.mono {p q:Ps α} {R':α→α→List aD→Prop} (h:aC k D E X R p q u) (hR:∀a b v,R a b v→R' a b v):aC k D E X R' p q u:=fun a r hx=>by
 rcases h a r hx with⟨v,b,h1,h2,h3,h4⟩ | h
 ·exact .inl ⟨v,b,h1,h2,h3,hR _ _ _ h4⟩
 ·exact .inr h
theorem aC.fuel {p q:Nat→Ps α} (h:∀f g,u.length<f→u.length<g→aC k D E X R (p f) (q g) u) (hX:Aq X):aC k D E X R (fun ts=>p ts.length ts) (fun ts=>q ts.length ts) u:=by
 obtain⟨x,X',rfl, _⟩:=hX;have:=h (u++[E]).length (u.map (zy k)++x :: X').length (by simp) (by simp);exact this
variable (hE:E.kind=0) (hX:Aq X)
include hE hX
theorem aC.iF {l:List Bt} (hl:∀s∈l,s≠[41]):aC k D E X (fun i j v=>i=j∧((i=none∧v=u)∨(∃t n,i=some n∧u=t :: v))) (cK l) (cK l) u:=by
 obtain⟨x,X',rfl,hx⟩:=hX;intro a r h;cases u with
 | nil=>
  have h1:l.findIdx? (jc E)=none:=List.findIdx?_eq_none_iff.2 fun s _=>qO hE s;have h2:l.findIdx? (jc x)=none:=List.findIdx?_eq_none_iff.2 fun s hs=>uP hx (hl s hs);rw [List.nil_append,xL h1]at h;injection h with e1 e2;subst e1 e2;exact .inl ⟨[],none,rfl,List.suffix_refl _,xL h2 _,rfl, .inl ⟨rfl,rfl⟩⟩
 | cons t u=>
  rw [List.cons_append]at h;rcases hf:l.findIdx? (jc t)with _ | i
  ·rw [xL hf]at h;injection h with e1 e2;subst e1 e2;exact .inl ⟨t :: u,none,rfl,List.suffix_refl _,xL (t:=zy k t) hf _,rfl, .inl ⟨rfl,rfl⟩⟩
  ·rw [yF hf]at h;injection h with e1 e2;subst e1 e2;exact .inl ⟨u,some i,rfl,List.suffix_cons _ _,yF (t:=zy k t) hf _,rfl, .inr ⟨t,i,rfl,rfl⟩⟩
theorem aC.has {s:Bt} (hs:s≠[41]):aC k D E X (fun i j v=>i=j∧((i=false∧v=u)∨(∃t,i=true∧u=t :: v))) (bY s) (bY s) u:=by
 obtain⟨x,X',rfl,hx⟩:=hX;intro a r h;cases u with
 | nil=>
  rw [List.nil_append,rV (qO hE s)]at h;injection h with e1 e2;subst e1 e2;exact .inl ⟨[],false,rfl,List.suffix_refl _,rV (uP hx hs) _,rfl, .inl ⟨rfl,rfl⟩⟩
 | cons t u=>
  rw [List.cons_append]at h;cases hb:jc t s
  ·rw [rV hb]at h;injection h with e1 e2;subst e1 e2;exact .inl ⟨t :: u,false,rfl,List.suffix_refl _,rV (t:=zy k t) hb _,rfl, .inl ⟨rfl,rfl⟩⟩
  ·rw [ou hb]at h;injection h with e1 e2;subst e1 e2;exact .inl ⟨u,true,rfl,List.suffix_cons _ _,ou (t:=zy k t) hb _,rfl, .inr ⟨t,rfl,rfl⟩⟩
omit hX in
theorem aC.want {s:Bt}:aC k D E X (fun _ _ v=>∃t,u=t :: v) (aI s) (aI s) u:=by
 intro a r h;unfold aI at h ⊢;cases u with
 | nil=>
  rw [List.nil_append,au (rV (qO hE s) _)]at h;cases h
 | cons t u=>
  rw [List.cons_append]at h;cases hb:jc t s
  ·rw [au (rV hb _)]at h;cases h
  ·rw [au (ou hb _)]at h;injection h with e1 e2;subst e2;exact .inl ⟨u,(),rfl,List.suffix_cons _ _,au (ou (t:=zy k t) hb _),t,rfl⟩
omit hX in
theorem aC.wants:∀(l:List Bt) {u:List aD},aC k D E X (fun _ _ _=>True) (jy l) (jy l) u
 | [],u=> .ret trivial
 | s :: l,u=>(aC.want hE).then_ fun _ _ v _ _=>aC.wants l
omit hX in
theorem aC.kind {n:Int} (hn:n≠0):aC k D E X (fun a b v=>a=b∧∃t,u=t :: v∧a=t.text) (dw n) (dw n) u:=by
 intro a r h;unfold dw at h ⊢;cases u with
 | nil=>
  simp only [List.nil_append,aQ,List.headD_cons]at h;rw [if_neg (by rw [hE];exact fun e=>hn e.symm)]at h;cases h
 | cons t u=>
  simp only [List.cons_append,aQ,List.headD_cons,List.map_cons]at h ⊢;by_cases hk:t.kind=n
  ·rw [if_pos hk,if_neg hn]at h;injection h with e1 e2;subst e1 e2;refine .inl ⟨u,t.text,rfl,List.suffix_cons _ _, ?_,rfl,t,rfl,rfl⟩;rw [if_pos (show(zy k t).kind=n from hk),if_neg hn];rfl
  ·rw [if_neg hk]at h;cases h
omit hX in
theorem aC.name:aC k D E X (fun a b v=>a=b) nameP nameP u:=(aC.kind hE (by decide)).mono fun _ _ _ h=>h.1
omit hX hE in
theorem aC.here:aC k D E X (fun h h' v=>v=u∧∀t r,u=t :: r→h=t∧h'=zy k t) kT kT u:=by
 intro a r h;unfold kT at h ⊢;injection h with e1 e2;subst e1 e2;refine .inl ⟨u, _,rfl,List.suffix_refl _,rfl,rfl, ?_⟩;rintro t r rfl;exact⟨rfl,rfl⟩
omit hX hE in
theorem iK {v u:List aD} (h:v<:+u):v.length≤u.length:=h.length_le
theorem aC.OX {one two:Ps α} {Q:α→α→Prop} (h1:∀u,aC k D E X (fun a b _=>Q a b) one two u) (n:Nat):∀(u:List aD) (f g:Nat) (l m:List α),u.length≤n→u.length<f→u.length<g→l.length=m.length→(∀x∈l.zip m,Q x.1 x.2)→
  aC k D E X (fun a b _=>a.length=b.length∧∀x∈a.zip b,Q x.1 x.2) (mW one f l) (mW two g m) u:=by
 induction n with
 | zero=>
  intro u f g l m hn hf hg hl hz;obtain⟨f,rfl⟩:∃f',f=f'+1:=⟨f - 1,by omega⟩
  obtain⟨g,rfl⟩:∃f',g=f'+1:=⟨g - 1,by omega⟩
  refine(aC.has hE hX (by decide)).then_ fun a b v hv ⟨e,h⟩=> ?_;subst e;rcases h with⟨rfl,rfl⟩ | ⟨t,rfl,rfl⟩
  ·exact .ret ⟨hl,hz⟩
  ·simp at hn
 | succ n ih=>
  intro u f g l m hn hf hg hl hz;obtain⟨f,rfl⟩:∃f',f=f'+1:=⟨f - 1,by omega⟩
  obtain⟨g,rfl⟩:∃f',g=f'+1:=⟨g - 1,by omega⟩
  refine(aC.has hE hX (by decide)).then_ fun a b v hv ⟨e,h⟩=> ?_;subst e;rcases h with⟨rfl,rfl⟩ | ⟨t,rfl,rfl⟩
  ·exact .ret ⟨hl,hz⟩
  ·refine(h1 v).then_ fun a b v2 hv2 hab=> ?_;have:=iK hv2;simp only [List.length_cons]at hn hf hg;refine ih v2 f g _ _ (by omega) (by omega) (by omega) (by simp [hl]) ?_;rw [List.zip_append hl];intro x hx;rcases List.mem_append.1 hx with hx | hx
   ·exact hz x hx
   ·simp only [List.zip_cons_cons,List.zip_nil_right,List.mem_singleton]at hx;subst hx;exact hab
theorem aC.sep {one two:Ps α} {Q:α→α→Prop} (h1:∀u,aC k D E X (fun a b _=>Q a b) one two u):aC k D E X (fun a b _=>a.length=b.length∧∀x∈a.zip b,Q x.1 x.2) (iB one) (iB two) u:=
 (h1 u).then_ fun a b v _ hab=>aC.fuel (p:=fun n=>mW one n [a]) (q:=fun n=>mW two n [b]) (fun f g hf hg=>aC.OX hE hX h1 v.length v f g _ _ (Nat.le_refl _) hf hg rfl (by simpa using hab)) hX
omit hX hE in
theorem Cv {a b:List α} (hl:a.length=b.length) (h:∀x∈a.zip b,x.2=x.1):b=a:=by
 induction a generalizing b with
 | nil=>cases b with | nil=>rfl | cons y b=>simp at hl
 | cons x a ih=>
  cases b with
  | nil=>simp at hl
  | cons y b=>
   have h1:=h (x,y) (by simp);simp only at h1;rw [h1,ih (b:=b) (by simpa using hl) (fun z hz=>h z (by simp [hz]))]
omit hX hE in
theorem zip_map {a b:List α} {φ:α→α} (hl:a.length=b.length) (h:∀x∈a.zip b,x.2=φ x.1):b=a.map φ:=by
 induction a generalizing b with
 | nil=>cases b with | nil=>rfl | cons y b=>simp at hl
 | cons x a ih=>
  cases b with
  | nil=>simp at hl
  | cons y b=>
   have h1:=h (x,y) (by simp);simp only at h1;rw [h1,ih (b:=b) (by simpa using hl) (fun z hz=>h z (by simp [hz]))];rfl
end
section
variable {k:Nat} {D:Prop} {E:aD} {X:List aD} {u:List aD} (hE:E.kind=0) (hX:Aq X)
abbrev YN:bT→bT→List aD→Prop:=fun a b _=>b=a
abbrev Cw (k:Nat):bX→bX→List aD→Prop:=fun a b _=>b=EI k a
variable {typ uQ:Ps bT} (ht:∀u,aC k D E X YN typ uQ u) {expr expr' unary Cx:Ps bX} (he:∀u,aC k D E X (Cw k) expr expr' u) (hu:∀u,aC k D E X (Cw k) unary Cx u)
include hE hX ht
theorem aC.Dt:aC k D E X YN (iW typ) (iW uQ) u:=by
 refine(aC.iF hE hX (by decide)).then_ fun a b v hv ⟨e,h⟩=> ?_;subst e;rcases a with _ | n
 ·refine(aC.iF hE hX (by decide)).then_ fun a b v hv ⟨e,h⟩=> ?_;subst e;rcases a with _ | _ | n
  ·exact(aC.name hE).then_ fun a b v hv e=>by subst e;exact .ret rfl
  ·exact(ht _).then_ fun a b v hv e=>by subst e;exact(aC.want hE).then_ fun _ _ v _ _=> .ret rfl
  ·refine(aC.has hE hX (by decide)).then_ fun a b v hv ⟨e,h⟩=> ?_;subst e;cases a
   ·refine(aC.sep (Q:=fun a b=>b=a) hE hX fun u=> ?_).then_ fun a b v hv h=> ?_
    ·exact(aC.name hE).then_ fun a b v hv e=>by subst e;exact(aC.want hE).then_ fun _ _ v _ _=>(ht _).then_ fun a b v hv e=>by subst e;exact .ret rfl
    ·obtain rfl:=Cv h.1 h.2;exact(aC.want hE).then_ fun _ _ v _ _=> .ret rfl
   ·exact .ret rfl
 ·exact .ret rfl
theorem aC.alt (n:Nat):∀(u:List aD) (f g:Nat) (l:List bT),u.length≤n→u.length<f→u.length<g→
  aC k D E X (fun a b _=>b=a) (kJ typ f l) (kJ uQ g l) u:=by
 induction n with
 | zero=>
  intro u f g l hn hf hg;obtain⟨f,rfl⟩:∃f',f=f'+1:=⟨f - 1,by omega⟩
  obtain⟨g,rfl⟩:∃f',g=f'+1:=⟨g - 1,by omega⟩
  refine(aC.has hE hX (by decide)).then_ fun a b v hv ⟨e,h⟩=> ?_;subst e;rcases h with⟨rfl,rfl⟩ | ⟨t,rfl,rfl⟩
  ·exact .ret rfl
  ·simp at hn
 | succ n ih=>
  intro u f g l hn hf hg;obtain⟨f,rfl⟩:∃f',f=f'+1:=⟨f - 1,by omega⟩
  obtain⟨g,rfl⟩:∃f',g=f'+1:=⟨g - 1,by omega⟩
  refine(aC.has hE hX (by decide)).then_ fun a b v hv ⟨e,h⟩=> ?_;subst e;rcases h with⟨rfl,rfl⟩ | ⟨t,rfl,rfl⟩
  ·exact .ret rfl
  ·refine(aC.Dt hE hX ht).then_ fun a b v2 hv2 hab=> ?_;subst hab;have:=iK hv2;simp only [List.length_cons]at hn hf hg;exact ih v2 f g _ (by omega) (by omega) (by omega)
theorem aC.S9:aC k D E X YN (zU typ) (zU uQ) u:=by
 refine(aC.Dt hE hX ht).then_ fun a b v hv e=> ?_;subst e;refine(aC.fuel (p:=fun n=>kJ typ n [b]) (q:=fun n=>kJ uQ n [b]) (fun f g hf hg=>aC.alt hE hX ht v.length v f g _ (Nat.le_refl _) hf hg) hX).then_ fun a b v hv e=> ?_;subst e;refine(aC.has hE hX (by decide)).then_ fun a b v hv ⟨e,h⟩=> ?_;subst e;cases a
 ·exact .ret rfl
 ·exact(ht _).then_ fun a b v hv e=>by subst e;exact .ret rfl
theorem aC.note (l n:List bT):aC k D E X (fun a b _=>b=a) (iG typ l n) (iG uQ l n) u:=by
 refine(aC.has hE hX (by decide)).then_ fun a b v hv ⟨e,h⟩=> ?_;subst e;cases a
 ·exact .ret rfl
 ·exact(ht _).then_ fun a b v hv e=>by subst e;exact .ret rfl
theorem aC.head (n:List bT):aC k D E X (fun a b _=>b=a) (kS typ n) (kS uQ n) u:=by
 refine(aC.want hE).then_ fun _ _ v _ _=>(aC.name hE).then_ fun a b v hv e=> ?_;subst e;refine(aC.note hE hX ht _ _).then_ fun a b v hv e=> ?_;subst e;refine(aC.want hE).then_ fun _ _ v _ _=>(aC.note hE hX ht _ _).then_ fun a b v hv e=> ?_;subst e;exact .ret rfl
omit ht hX
include he
theorem aC.kids:∀(a:List Bt) (l:List bX) {u:List aD},aC k D E X (fun a b _=>b=a.map (EI k)) (bV expr a l) (bV expr' a (l.map (EI k))) u
 | [],l,u=> .ret rfl
 | s :: r,l,u=>by
  refine aC.then_ (R:=fun _ _ _=>True) ?_ fun _ _ v _ _=> ?_
  ·by_cases hs:s=[]
   ·rw [if_pos hs];exact .ret trivial
   ·rw [if_neg hs];exact(aC.want hE).mono fun _ _ _ _=>trivial
  ·refine(he _).then_ fun a b v hv e=> ?_;subst e;have:=aC.kids r (l++[a]) (u:=v);rwa [List.map_append]at this
omit he
include hX
theorem aC.left {sub sub':Ps bX} (hs:∀u,aC k D E X (Cw k) sub sub' u) {ops:List Bt} (ho:∀s∈ops,s≠[41]) (n:Nat):∀(u:List aD) (f g:Nat) (a:bX),u.length≤n→u.length<f→u.length<g→
  aC k D E X (Cw k) (lT ops sub f a) (lT ops sub' g (EI k a)) u:=by
 induction n with
 | zero=>
  intro u f g l hn hf hg;obtain⟨f,rfl⟩:∃f',f=f'+1:=⟨f - 1,by omega⟩
  obtain⟨g,rfl⟩:∃f',g=f'+1:=⟨g - 1,by omega⟩
  refine aC.here.then_ fun a b v hv ⟨e,h1⟩=> ?_;subst e;refine(aC.iF hE hX ho).then_ fun a b v hv ⟨e,h⟩=> ?_;subst e;rcases h with⟨rfl,rfl⟩ | ⟨t,i,rfl,rfl⟩
  ·exact .ret rfl
  ·simp at hn
 | succ n ih=>
  intro u f g l hn hf hg;obtain⟨f,rfl⟩:∃f',f=f'+1:=⟨f - 1,by omega⟩
  obtain⟨g,rfl⟩:∃f',g=f'+1:=⟨g - 1,by omega⟩
  refine aC.here.then_ fun a b v hv ⟨e,h1⟩=> ?_;subst e;refine(aC.iF hE hX ho).then_ fun a b v hv ⟨e,h⟩=> ?_;subst e;rcases h with⟨rfl,rfl⟩ | ⟨t,i,rfl,rfl⟩
  ·exact .ret rfl
  ·obtain⟨rfl,rfl⟩:=h1 t v rfl;refine(hs v).then_ fun a b v2 hv2 hab=> ?_;subst hab;have:=iK hv2;simp only [List.length_cons]at hn hf hg;exact ih v2 f g (aK 14 (ops.getD i []) 0 _ [] [] [l,a]) (by omega) (by omega) (by omega)
theorem aC.Lh {sub sub':Ps bX} (hs:∀u,aC k D E X (Cw k) sub sub' u) {ops:List Bt} (ho:∀s∈ops,s≠[41]):aC k D E X (Cw k) (AQ ops sub) (AQ ops sub') u:=
 (hs u).then_ fun a b v hv e=>by
  subst e;exact aC.fuel (p:=fun n=>lT ops sub n a) (q:=fun n=>lT ops sub' n (EI k a)) (fun f g hf hg=>aC.left hE hX hs ho v.length v f g a (Nat.le_refl _) hf hg) hX
include ht
theorem aC.cmp {sub sub':Ps bX} (hs:∀u,aC k D E X (Cw k) sub sub' u):aC k D E X (Cw k) (JB typ sub) (JB uQ sub') u:=by
 refine(hs u).then_ fun x b v hv e=> ?_;subst e;refine aC.here.then_ fun a b v hv ⟨e,h1⟩=> ?_;subst e;refine(aC.iF hE hX (by decide)).then_ fun a b v hv ⟨e,h⟩=> ?_;subst e;rcases h with⟨rfl,rfl⟩ | ⟨t,i,rfl,rfl⟩
 ·exact .ret rfl
 ·obtain⟨rfl,rfl⟩:=h1 t v rfl;simp only;by_cases h3:i=3
  ·rw [if_pos h3,if_pos h3];refine(aC.iF hE hX (by decide)).then_ fun a b v hv ⟨e,h⟩=> ?_;subst e;rcases a with _ | n
   ·exact aC.fail
   ·exact .ret rfl
  ·rw [if_neg h3,if_neg h3];by_cases h4:i=4
   ·rw [if_pos h4,if_pos h4];exact(ht _).then_ fun a b v hv e=>by subst e;exact .ret rfl
   ·rw [if_neg h4,if_neg h4];exact(hs _).then_ fun a b v hv e=>by subst e;exact .ret rfl
include hu
theorem aC.rank:∀(f:Nat) {u:List aD},f≤6→aC k D E X (Cw k) (jK typ unary f) (jK uQ Cx f) u
 | 0,u, _=>hu u
 | f+1,u,hf=>by
  unfold jK;by_cases h3:f=3
  ·rw [if_pos h3,if_pos h3];exact aC.cmp hE hX ht fun u=>aC.rank f (by omega)
  ·rw [if_neg h3,if_neg h3];refine aC.Lh hE hX (fun u=>aC.rank f (by omega)) ?_;have:f=0∨f=1∨f=2∨f=4∨f=5:=by omega
   rcases this with rfl | rfl | rfl | rfl | rfl <;> decide
include he
theorem aC.Li:aC k D E X (Cw k) (AU typ expr unary) (AU uQ expr' Cx) u:=by
 refine aC.here.then_ fun a b v hv ⟨e,h1⟩=> ?_;subst e;refine(aC.iF hE hX (by decide)).then_ fun a b v hv ⟨e,h⟩=> ?_;subst e;rcases h with⟨rfl,rfl⟩ | ⟨t,i,rfl,rfl⟩
 ·exact aC.rank hE hX ht hu 6 (Nat.le_refl _)
 ·obtain⟨rfl,rfl⟩:=h1 t v rfl;rcases i with _ | _ | i
  ·refine(aC.name hE).then_ fun a b v hv e=> ?_;subst e;refine(aC.note hE hX ht _ _).then_ fun a b v hv e=> ?_;subst e;exact(aC.kids hE he _ []).then_ fun a b v hv e=>by subst e;exact .ret (mQ ..)
  ·exact(aC.kids hE he _ []).then_ fun a b v hv e=>by subst e;exact .ret (mQ ..)
  ·refine(aC.head hE hX ht _).then_ fun a b v hv e=> ?_;subst e;exact(aC.kids hE he _ []).then_ fun a b v hv e=>by subst e;exact .ret (mQ ..)
omit hu ht hX
theorem aC.BN:aC k D E X (fun a b _=>b=(a.1,EI k a.2)) (jl expr) (jl expr') u:=by
 refine(aC.name hE).then_ fun a b v hv e=> ?_;subst e;refine(aC.want hE).then_ fun _ _ v _ _=>(he _).then_ fun a b v hv e=> ?_;subst e;exact .ret rfl
include hX
theorem aC.Lj (t:aD):aC k D E X (Cw k) (uZ expr t) (uZ expr' (zy k t)) u:=by
 have hX':=hX;obtain⟨x,X',rfl,hx⟩:=hX';refine aC.then_ (R:=fun a b v=>a=b∧v=u) ?_ fun a b v hv ⟨e,h⟩=> ?_
 ·intro a r h;unfold kU at h ⊢;injection h with e1 e2;subst e1 e2;refine .inl ⟨u, _,rfl,List.suffix_refl _,rfl, ?_,rfl⟩;cases u with
  | nil=>simp [aQ,qO hE,uP hx (s:=[125]) (by decide)]
  | cons t u=>simp [aQ,Nv]
 ·subst e h;cases a
  ·rw [if_neg Bool.false_ne_true,if_neg Bool.false_ne_true];refine aC.then_ (R:=fun a b w=>a=b∧w=v) ?_ fun a b v hv ⟨e,h⟩=> ?_
   ·intro a r h;unfold kU at h ⊢;injection h with e1 e2;subst e1 e2;refine .inl ⟨v, _,rfl,List.suffix_refl _,rfl, ?_,rfl⟩;rcases v with _ | ⟨t, _ | ⟨t2,v⟩⟩
    ·have hk:(x.kind==1)=false:=by rcases hx with hx | hx <;> simp [hx]
     simp [aQ,hE,hk]
    ·simp [aQ,qO hE,uP hx (s:=[58]) (by decide)]
    ·simp [aQ,Nv];rfl
   ·subst e h;cases a
    ·rw [if_neg Bool.false_ne_true,if_neg Bool.false_ne_true];refine(aC.kids hE he _ []).then_ fun m b v hv e=> ?_;subst e;refine(aC.want hE).then_ fun _ _ v _ _=>(aC.name hE).then_ fun a b v hv e=> ?_;subst e;exact(aC.kids hE he _ m).then_ fun a b v hv e=>by subst e;exact .ret (mQ ..)
    ·rw [if_pos rfl,if_pos rfl];refine(aC.sep (Q:=fun a b=>b=(a.1,EI k a.2)) hE hX fun u=>aC.BN hE he).then_ fun a b v hv h=> ?_;obtain rfl:=zip_map (φ:=fun a:Bt ×bX=>(a.1,EI k a.2)) h.1 h.2;exact .ret (by have:=mQ k 8 [] 0 t [] (a.map (·.1)) (a.map (·.2));simpa [Function.comp_def]using this)
  ·exact .ret (lD ..)
omit he
include ht
theorem aC.named {h h':aD} (hh:∀t r,u=t :: r→h=t∧h'=zy k t):aC k D E X (Cw k) (lU typ h) (lU uQ h') u:=by
 refine(aC.kind hE (by decide)).then_ fun a b v hv ⟨e,t,hu, _⟩=> ?_;subst e;obtain⟨rfl,rfl⟩:=hh t v hu;refine(aC.has hE hX (by decide)).then_ fun a b v hv ⟨e,h⟩=> ?_;subst e;cases a
 ·exact .ret (lD ..)
 ·refine(aC.sep (Q:=fun a b=>b=a) hE hX fun u=>ht u).then_ fun a b v hv h=> ?_;obtain rfl:=Cv h.1 h.2;exact(aC.want hE).then_ fun _ _ v _ _=> .ret (lD ..)
include he
theorem aC.atom:aC k D E X (Cw k) (tN typ expr) (tN uQ expr') u:=by
 have hX':=hX;obtain⟨x,X',rfl,hx⟩:=hX';have hxk:∀n:Int,n=3∨n=4→x.kind≠n:=by
  intro n hn h;rcases hx with h1 | ⟨h1, _⟩ <;> omega
 refine aC.then_ (R:=fun h h' v=>v=u∧(∀t r,u=t :: r→h=t∧h'=zy k t)∧(u=[]→h=E∧h'=x)) ?_ fun h h' v hv ⟨e,hh,hn⟩=> ?_
 ·intro a r h;unfold kT at h ⊢;injection h with e1 e2;subst e1 e2;refine .inl ⟨u, _,rfl,List.suffix_refl _,rfl,rfl, ?_, ?_⟩
  ·rintro t r rfl;exact⟨rfl,rfl⟩
  ·rintro rfl;exact⟨rfl,rfl⟩
 ·subst e;have hk:(h.kind=3↔h'.kind=3)∧(h.kind=4↔h'.kind=4):=by
   cases v with
   | nil=>
    obtain⟨rfl,rfl⟩:=hn rfl;have h3:=hxk 3 (.inl rfl);have h4:=hxk 4 (.inr rfl);rw [hE];exact⟨⟨fun h=>(by cases h),fun h=>absurd h h3⟩,⟨fun h=>(by cases h),fun h=>absurd h h4⟩⟩
   | cons t r=>
    obtain⟨rfl,rfl⟩:=hh t r rfl;exact⟨Iff.rfl,Iff.rfl⟩
  by_cases h3:h.kind=3
  ·rw [if_pos h3,if_pos (hk.1.1 h3)];refine(aC.kind hE (by decide)).then_ fun a b w hv ⟨e,t,hu, _⟩=> ?_;subst e;obtain⟨rfl,rfl⟩:=hh t w hu;exact .ret (lD ..)
  ·rw [if_neg h3,if_neg (fun h=>h3 (hk.1.2 h))];by_cases h4:h.kind=4
   ·rw [if_pos h4,if_pos (hk.2.1 h4)];refine(aC.kind hE (by decide)).then_ fun a b w hv ⟨e,t,hu, _⟩=> ?_;subst e;obtain⟨rfl,rfl⟩:=hh t w hu;exact .ret (lD ..)
   ·rw [if_neg h4,if_neg (fun h=>h4 (hk.2.2 h))];refine(aC.iF hE hX (by decide)).then_ fun a b w hv ⟨e,h1⟩=> ?_;subst e;rcases h1 with⟨rfl,rfl⟩ | ⟨t,i,rfl,rfl⟩
    ·exact aC.named hE hX ht hh
    ·obtain⟨rfl,rfl⟩:=hh t w rfl;rcases i with _ | _ | _ | _ | _ | _ | i
     ·exact .ret (lD ..)
     ·exact .ret (lD ..)
     ·exact .ret (lD ..)
     ·exact(aC.wants hE _).then_ fun _ _ v _ _=> .ret (lD ..)
     ·exact(aC.kids hE he _ []).then_ fun a b v hv e=>by subst e;exact(aC.want hE).then_ fun _ _ v _ _=> .ret (mQ ..)
     ·exact(he _).then_ fun a b v hv e=>by subst e;exact(aC.want hE).then_ fun _ _ v _ _=> .ret rfl
     ·exact(aC.Lj hE hX he _).then_ fun a b v hv e=>by subst e;exact(aC.want hE).then_ fun _ _ v _ _=> .ret rfl
omit ht
theorem aC.Du (n:Nat):∀(u:List aD) (f g:Nat) (a:bX),u.length≤n→u.length<f→u.length<g→
  aC k D E X (Cw k) (jC expr f a) (jC expr' g (EI k a)) u:=by
 induction n with
 | zero=>
  intro u f g l hn hf hg;obtain⟨f,rfl⟩:∃f',f=f'+1:=⟨f - 1,by omega⟩
  obtain⟨g,rfl⟩:∃f',g=f'+1:=⟨g - 1,by omega⟩
  refine aC.here.then_ fun a b v hv ⟨e,h1⟩=> ?_;subst e;refine(aC.iF hE hX (by decide)).then_ fun a b v hv ⟨e,h⟩=> ?_;subst e;rcases h with⟨rfl,rfl⟩ | ⟨t,i,rfl,rfl⟩
  ·exact .ret rfl
  ·simp at hn
 | succ n ih=>
  intro u f g l hn hf hg;obtain⟨f,rfl⟩:∃f',f=f'+1:=⟨f - 1,by omega⟩
  obtain⟨g,rfl⟩:∃f',g=f'+1:=⟨g - 1,by omega⟩
  refine aC.here.then_ fun a b v hv ⟨e,h1⟩=> ?_;subst e;refine(aC.iF hE hX (by decide)).then_ fun a b v hv ⟨e,h⟩=> ?_;subst e;rcases h with⟨rfl,rfl⟩ | ⟨t,i,rfl,rfl⟩
  ·exact .ret rfl
  ·obtain⟨rfl,rfl⟩:=h1 t v rfl;simp only [List.length_cons]at hn hf hg;rcases i with _ | i
   ·refine(aC.kids hE he _ [l]).then_ fun a b v1 hv1 e=> ?_;subst e;refine(aC.want hE).then_ fun _ _ v2 hv2 _=> ?_;have:=iK hv2;have:=iK hv1;have h:=fun x:aD=>ih v2 f g (aK 7 [] 0 x [] [] a) (by omega) (by omega) (by omega);simp only [←mQ]at h;exact h _
   ·refine(aC.name hE).then_ fun a b v2 hv2 e=> ?_;subst e;have:=iK hv2;exact ih v2 f g (aK 9 a 0 _ [] [] [l]) (by omega) (by omega) (by omega)
include ht
theorem aC.post:aC k D E X (Cw k) (qZ typ expr) (qZ uQ expr') u:=
 (aC.atom hE hX ht he).then_ fun a b v hv e=>by
  subst e;exact aC.fuel (p:=fun n=>jC expr n a) (q:=fun n=>jC expr' n (EI k a)) (fun f g hf hg=>aC.Du hE hX he v.length v f g a (Nat.le_refl _) hf hg) hX
include hu
theorem aC.FX:aC k D E X (Cw k) (vg typ expr unary) (vg uQ expr' Cx) u:=by
 refine aC.here.then_ fun a b v hv ⟨e,h1⟩=> ?_;subst e;refine(aC.iF hE hX (by decide)).then_ fun a b v hv ⟨e,h⟩=> ?_;subst e;rcases h with⟨rfl,rfl⟩ | ⟨t,i,rfl,rfl⟩
 ·exact aC.post hE hX ht he
 ·obtain⟨rfl,rfl⟩:=h1 t v rfl;rcases i with _ | i
  ·exact(hu _).then_ fun a b v hv e=>by subst e;exact .ret rfl
  ·exact(hu _).then_ fun a b v hv e=>by subst e;exact .ret rfl
end
theorem aC.Ig {k:Nat} {E:aD} {X:List aD} (hE:E.kind=0) (hX:Aq X):∀(m n:Nat),m≤n→
  (∀u,aC k (m<n) E X YN (bR n).typ (bR m).typ u)∧(∀u,aC k (m<n) E X (Cw k) (bR n).expr (bR m).expr u)∧(∀u,aC k (m<n) E X (Cw k) (bR n).unary (bR m).unary u)
 | 0,0, _=>⟨fun u=>aC.fail,fun u=>aC.fail,fun u=>aC.fail⟩
 | 0,n+1, _=>⟨fun u a r h=> .inr ⟨by omega, _, _,rfl⟩,fun u a r h=> .inr ⟨by omega, _, _,rfl⟩,fun u a r h=> .inr ⟨by omega, _, _,rfl⟩⟩
 | m+1,0,h=>absurd h (by omega)
 | m+1,n+1,h=>by
  have h1:=aC.Ig (k:=k) hE hX m n (by omega);have e:(m+1<n+1)=(m<n):=by simp
  rw [e];obtain⟨h1,h2,h3⟩:=h1;exact⟨fun u=>aC.S9 hE hX h1,fun u=>aC.Li hE hX h1 h2 h3,fun u=>aC.FX hE hX h1 h2 h3⟩
theorem Kw {t:Bt} {kd:Int} (h:BJ kd t):kd≠0∧(kd=2→t≠[58]):=by
 obtain⟨h1, _,h2, _⟩:=h;refine⟨by omega,fun e=> ?_⟩;have:=h2 e;rintro rfl;exact absurd this (by decide)
theorem Bu:∀(f:Nat) (s:Bt) (p:Nat ×Nat) (out:List aD),(kH f s p out).2.2.2=0→(kH f s p out).2=(0,0,0)
 | 0,s,p,out,h=>rfl
 | f+1,s,p,out,h=>by
  rw [kH]at h ⊢;by_cases hnil:s.drop (bC s)=[]
  ·rw [if_pos hnil]
  ·rw [if_neg hnil]at h ⊢;cases hn:dJ (s.drop (bC s))with
   | inl e=>
    rw [hn]at h;exact absurd h (qG hn)
   | inr x=>
    obtain⟨kd,t,n⟩:=x;rw [hn]at h;simp only at h ⊢;by_cases h8:out.length=8192
    ·rw [if_pos h8]at h;exact absurd (show(19:Int)=0 from h) (by decide)
    ·rw [if_neg h8]at h ⊢;exact Bu f _ _ _ h
theorem uR {s:Bt} (h:(eZ s).2.2.2=0):(eZ s).2=(0,0,0):=by
 by_cases hs:65536<s.length
 ·unfold eZ at h;rw [if_pos hs]at h;exact absurd (show(2:Int)=0 from h) (by decide)
 ·rw [Le s (by omega)]at h ⊢;exact Bu _ _ _ _ h
theorem Qx {s:Bt} {l:List aD} (h:eZ s=(l,(0,0,0))):∃m e,l=m++[e]∧e.kind=0∧(∀t∈m,BJ t.kind t.text)∧m.length≤s.length∧Wf l:=by
 by_cases hs:65536<s.length
 ·unfold eZ at h;rw [if_pos hs]at h;cases h
 ·rw [Le s (by omega)]at h;obtain⟨m,e,h1,h2, _,h3,h4, _⟩:=AL _ s (1,1) [] (Nat.lt_succ_self _) (by rw [h]);rw [h]at h1;injection h1 with h1 _;rw [List.nil_append]at h1;exact⟨m,e,h1,h2,h4,h3,m,e,h1,h2,fun t ht=>Kw (h4 t ht)⟩
def bX.line:bX→Int | .mk _ _ _ l _ _ _ _=>l
def bX.col:bX→Int | .mk _ _ _ _ c _ _ _=>c
def VO (k:Nat) (i:rU):rU:={ i with line:=i.line+k}
def Qy (k:Nat) (d:pI):pI:={ d with line:=d.line+k,body:=EI k d.body}
def shM (k:Nat) (m:zQ):zQ:=⟨m.imps.map (VO k),m.decls.map (Qy k)⟩
section
variable {k:Nat} {E x:aD} (hE:E.kind=0) (hx:x.kind=0) {u:List aD}
include hE hx
theorem aC.Vf:(∀u,aC k False E [x] YN (bR 100).typ (bR 100).typ u)∧(∀u,aC k False E [x] (Cw k) (bR 100).expr (bR 100).expr u):=by
 have h:=aC.Ig (k:=k) hE ⟨x,[],rfl, .inl hx⟩ 100 100 (Nat.le_refl _);have e:(100<100)=False:=by simp
 rw [e]at h;exact⟨h.1,h.2.1⟩
theorem aC.var:aC k False E [x] (fun a b _=>b=a) yG yG u:=by
 have hX:Aq [x]:=⟨x,[],rfl, .inl hx⟩
 refine(aC.name hE).then_ fun a b v hv e=> ?_;subst e;refine(aC.has hE hX (by decide)).then_ fun c b v hv ⟨e,h⟩=> ?_;subst e;cases c
 ·exact .ret rfl
 ·exact((aC.Vf hE hx).1 _).then_ fun a b v hv e=>by subst e;exact .ret rfl
theorem aC.vars:aC k False E [x] (fun a b _=>b=a) qc qc u:=by
 have hX:Aq [x]:=⟨x,[],rfl, .inl hx⟩
 refine(aC.has hE hX (by decide)).then_ fun c b v hv ⟨e,h⟩=> ?_;subst e;cases c
 ·exact .ret rfl
 ·refine(aC.sep (Q:=fun a b=>b=a) hE hX fun u=>aC.var hE hx).then_ fun a b v hv h=> ?_;obtain rfl:=Cv h.1 h.2;exact(aC.want hE).then_ fun _ _ v _ _=> .ret rfl
theorem aC.import_ (t:aD):aC k False E [x] (fun a b _=>b=VO k a) (kY t) (kY (zy k t)) u:=by
 have hX:Aq [x]:=⟨x,[],rfl, .inl hx⟩
 refine(aC.name hE).then_ fun a b v hv e=> ?_;subst e;refine(aC.want hE).then_ fun _ _ v _ _=>(aC.sep (Q:=fun a b=>b=a) hE hX fun u=>(aC.name hE).mono fun _ _ _ e=>e.symm).then_ fun a b v hv h=> ?_;obtain rfl:=Cv h.1 h.2;exact(aC.want hE).then_ fun _ _ v _ _=> .ret (by simp [VO,zy])
theorem aC.decl:aC k False E [x] (fun a b v=>b=Qy k a∧v.length<u.length) oW oW u:=by
 have hX:Aq [x]:=⟨x,[],rfl, .inl hx⟩
 refine(aC.has hE hX (by decide)).then_ fun c b v0 hv0 ⟨e, _⟩=> ?_;subst e;refine aC.here.then_ fun h h' v hv ⟨e,h1⟩=> ?_;subst e;refine(aC.want hE).then_ fun _ _ v1 _ ⟨t,ht⟩=> ?_;obtain⟨rfl,rfl⟩:=h1 _ _ ht;have hlt:v1.length<u.length:=by have:=iK hv0;rw [ht]at this;simp at this;omega
 refine(aC.name hE).then_ fun a b v2 hv2 e=> ?_;subst e;refine(aC.vars hE hx).then_ fun a b v3 hv3 e=> ?_;subst e;refine(aC.head hE hX (aC.Vf hE hx).1 _).then_ fun a b v4 hv4 e=> ?_;subst e;refine(aC.want hE).then_ fun _ _ v5 hv5 _=>((aC.Vf hE hx).2 _).then_ fun a b v6 hv6 e=> ?_;subst e;refine(aC.want hE).then_ fun _ _ v7 hv7 _=> .ret ⟨by simp [Qy,zy], ?_⟩;have:=iK hv2;have:=iK hv3;have:=iK hv4;have:=iK hv5;have:=iK hv6;have:=iK hv7;omega
theorem aC.imps (n:Nat):∀(u:List aD) (f g:Nat) (l:List rU),u.length≤n→u.length<f→u.length<g→
  aC k False E [x] (fun a b _=>b=a.map (VO k)) (mG f l) (mG g (l.map (VO k))) u:=by
 have hX:Aq [x]:=⟨x,[],rfl, .inl hx⟩
 induction n with
 | zero=>
  intro u f g l hn hf hg;obtain⟨f,rfl⟩:∃f',f=f'+1:=⟨f - 1,by omega⟩
  obtain⟨g,rfl⟩:∃f',g=f'+1:=⟨g - 1,by omega⟩
  refine aC.here.then_ fun a b v hv ⟨e,h1⟩=> ?_;subst e;refine(aC.has hE hX (by decide)).then_ fun a b v hv ⟨e,h⟩=> ?_;subst e;rcases h with⟨rfl,rfl⟩ | ⟨t,rfl,rfl⟩
  ·exact .ret rfl
  ·simp at hn
 | succ n ih=>
  intro u f g l hn hf hg;obtain⟨f,rfl⟩:∃f',f=f'+1:=⟨f - 1,by omega⟩
  obtain⟨g,rfl⟩:∃f',g=f'+1:=⟨g - 1,by omega⟩
  refine aC.here.then_ fun a b v hv ⟨e,h1⟩=> ?_;subst e;refine(aC.has hE hX (by decide)).then_ fun a b v hv ⟨e,h⟩=> ?_;subst e;rcases h with⟨rfl,rfl⟩ | ⟨t,rfl,rfl⟩
  ·exact .ret rfl
  ·obtain⟨rfl,rfl⟩:=h1 t v rfl;refine(aC.import_ hE hx _).then_ fun a b v2 hv2 hab=> ?_;subst hab;have:=iK hv2;simp only [List.length_cons]at hn hf hg;have h:=ih v2 f g (l++[a]) (by omega) (by omega) (by omega);rwa [List.map_append]at h
theorem aC.decls (n:Nat):∀(u:List aD) (f g:Nat) (l:List pI),Wf (u++[E])→u.length≤n→u.length<f→u.length<g→
  aC k False E [x] (fun a b _=>b=a.map (Qy k)) (gy f l) (gy g (l.map (Qy k))) u:=by
 induction n with
 | zero=>
  intro u f g l hw hn hf hg;obtain⟨f,rfl⟩:∃f',f=f'+1:=⟨f - 1,by omega⟩
  obtain⟨g,rfl⟩:∃f',g=f'+1:=⟨g - 1,by omega⟩
  obtain rfl:u=[]:=List.eq_nil_of_length_eq_zero (by omega);have e1:gy (f+1) l [E]= .good l [E]:=by unfold gy;rw [au (show kU (fun t _=>t.kind==0) [E]= .good (E.kind==0) [E]from rfl),hE];rfl
  have e2:gy (g+1) (l.map (Qy k)) [x]= .good (l.map (Qy k)) [x]:=by unfold gy;rw [au (show kU (fun t _=>t.kind==0) [x]= .good (x.kind==0) [x]from rfl),hx];rfl
  intro a r h;rw [List.nil_append,e1]at h;injection h with h1 h2;subst h1 h2;exact .inl ⟨[], _,rfl,List.suffix_refl _,e2,rfl⟩
 | succ n ih=>
  intro u f g l hw hn hf hg;obtain⟨f,rfl⟩:∃f',f=f'+1:=⟨f - 1,by omega⟩
  obtain⟨g,rfl⟩:∃f',g=f'+1:=⟨g - 1,by omega⟩
  cases u with
  | nil=>
   have e1:gy (f+1) l [E]= .good l [E]:=by unfold gy;rw [au (show kU (fun t _=>t.kind==0) [E]= .good (E.kind==0) [E]from rfl),hE];rfl
   have e2:gy (g+1) (l.map (Qy k)) [x]= .good (l.map (Qy k)) [x]:=by unfold gy;rw [au (show kU (fun t _=>t.kind==0) [x]= .good (x.kind==0) [x]from rfl),hx];rfl
   intro a r h;rw [List.nil_append,e1]at h;injection h with h1 h2;subst h1 h2;exact .inl ⟨[], _,rfl,List.suffix_refl _,e2,rfl⟩
  | cons t u=>
   have ht:t.kind≠0:=by
    rcases hw.cases with⟨e,he, _⟩ | ⟨t',r,he,h1, _⟩
    ·simp at he
    ·injection he with he _;rw [he];exact h1
   intro a r h;unfold gy at h ⊢;rw [au (show kU (fun t _=>t.kind==0) (t :: u++[E])= .good (t.kind==0) (t :: u++[E])from rfl),beq_false_of_ne ht]at h;rw [au (show kU (fun t _=>t.kind==0) ((t :: u).map (zy k)++[x])= .good (t.kind==0) ((t :: u).map (zy k)++[x])from rfl),beq_false_of_ne ht];simp only [Bool.false_eq_true,if_false]at h ⊢;rcases hp:oW (t :: u++[E])with d | ⟨d,r1⟩
   ·rw [aB hp]at h;cases h
   ·obtain⟨hr1, _⟩:=Sf.decl.good hw hp;rw [au hp]at h;rcases aC.decl (k:=k) hE hx (u:=t :: u) d r1 hp with⟨v,b,rfl,hv,hq,rfl,hlt⟩ | ⟨hD, _⟩
    ·have:=ih v f g (l++[d]) hr1 (by simp only [List.length_cons]at*;omega) (by simp only [List.length_cons]at*;omega) (by simp only [List.length_cons]at*;omega);rcases this a r h with⟨v2,b2,e1,e2,e3,e4⟩ | ⟨hD, _⟩
     ·refine .inl ⟨v2,b2,e1,e2.trans hv, ?_,e4⟩;rw [au hq];rw [List.map_append]at e3;exact e3
     ·exact hD.elim
    ·exact hD.elim
theorem aC.module (hw:Wf (u++[E])):aC k False E [x] (fun a b _=>b=shM k a) dU dU u:=by
 have hX:Aq [x]:=⟨x,[],rfl, .inl hx⟩
 intro a r h;unfold dU at h ⊢;rcases hp:Ie (u++[E])with d | ⟨i,r1⟩
 ·rw [aB hp]at h;cases h
 ·obtain⟨hr1, _⟩:=(Sf.fuel (p:=fun ts=>mG ts.length []) fun ts=>Sf.imps _ _).good hw hp;rw [au hp]at h;rcases(aC.fuel (p:=fun n=>mG n []) (q:=fun n=>mG n []) (fun f g hf hg=>aC.imps (k:=k) hE hx u.length u f g [] (Nat.le_refl _) hf hg) hX) i r1 hp with⟨v,b,rfl,hv,hq,rfl⟩ | ⟨hD, _⟩
  ·have h3:=(aC.fuel (p:=fun n=>gy n []) (q:=fun n=>gy n []) (fun f g hf hg=>aC.decls (k:=k) hE hx v.length v f g [] hr1 (Nat.le_refl _) hf hg) hX).then_ (f:=fun d=>aG (zQ.mk i d)) (g:=fun d=>aG (zQ.mk (i.map (VO k)) d)) (S:=fun a b _=>b=shM k a) (fun a b w hw e=>by subst e;exact .ret rfl);rcases h3 a r h with⟨v2,b2,e1,e2,e3,e4⟩ | ⟨hD, _⟩
   ·refine .inl ⟨v2,b2,e1,e2.trans hv, ?_,e4⟩;rw [au (show Ie _= _ from hq)];exact e3
   ·exact hD.elim
  ·exact hD.elim
end
theorem Nw {s:Bt} {kd:Int} {t:Bt} {n:Nat} (h:dJ s= .inr (kd,t,n)):t.length≤s.length+256:=by
 cases s with
 | nil=>simp [dJ]at h
 | cons c r=>
  rw [dJ]at h;split at h
  ·split at h
   ·cases h
   ·split at h
    ·injection h with h;simp only [Prod.mk.injEq]at h;rw [←h.2.1,List.length_take];omega
    ·injection h with h;simp only [Prod.mk.injEq]at h;rw [←h.2.1,List.length_take];omega
  ·split at h
   ·split at h
    ·injection h with h;simp only [Prod.mk.injEq]at h;rw [←h.2.1,List.length_take];omega
    ·cases h
   ·split at h
    ·split at h
     ·cases h
     ·split at h
      ·cases h
      ·injection h with h;simp only [Prod.mk.injEq]at h;rw [←h.2.1];omega
    ·split at h
     ·injection h with h;simp only [Prod.mk.injEq]at h;rw [←h.2.1,List.length_take];omega
     ·split at h
      ·injection h with h;simp only [Prod.mk.injEq]at h;rw [←h.2.1];simp
      ·cases h
theorem Jc (M:Nat):∀(f:Nat) (s:Bt) (p:Nat ×Nat) (out:List aD),s.length+256≤M→(∀t∈out,t.text.length≤M)→∀t∈(kH f s p out).1,t.text.length≤M
 | 0,s,p,out,hs,ho=>fun t ht=>by cases ht
 | f+1,s,p,out,hs,ho=>by
  rw [kH];split
  ·intro t ht;rcases List.mem_append.1 ht with ht | ht
   ·exact ho t ht
   ·simp only [List.mem_singleton]at ht;subst ht;simp
  ·split
   ·intro t ht;cases ht
   ·rename_i kd t n hn
    split
    ·intro t ht;cases ht
    ·refine Jc M f _ _ _ (by simp only [List.length_drop];omega) fun x hx=> ?_;rcases List.mem_append.1 hx with hx | hx
     ·exact ho x hx
     ·simp only [List.mem_singleton]at hx;subst hx;have:=Nw hn;simp only [List.length_drop]at this;show t.length≤M;omega
theorem uS {s:Bt} (h:(eZ s).2.2.2=0):F8 (eZ s).1∧Wf (eZ s).1:=by
 have hz:=uR h;obtain⟨m,e,h1,h2,h3,h4,h5⟩:=Qx (s:=s) (l:=(eZ s).1) (by rw [←hz]);refine⟨⟨Nh s, ?_⟩,h5⟩;by_cases hs:65536<s.length
 ·have:(eZ s).1=[]:=by unfold eZ;rw [if_pos hs]
  rw [this];simp
 ·unfold eZ;rw [if_neg hs];exact Jc 100000 _ s _ _ (by omega) (by simp)
abbrev pR (d:vZ):Value:= .agg #[.int .i64 0, .int .i64 d.1, .int .i64 d.2.1, .int .i64 d.2.2]
abbrev Qz (d:vZ):Array Value:= #[.int .i64 0, .int .i64 d.1, .int .i64 d.2.1, .int .i64 d.2.2]
theorem kR {P:Program} {fn:Func} {R:Ending→World→Prop} {t0 t1:Tmp} {T0 T1:TypeId} {dst:Option Tmp} {v:Value} (hr:fn.results= #[.cell t0 T0, .cell t1 T1]) (hd:dst≠some t0) (hd1:dst≠some t1) (c:List PanicEntry) (a:Act) (w:World) (h:bodyPostD P fn R (.panic c) (a.put dst v) w):bodyPostD P fn R (.panic c) a w:=by
 cases dst with
 | none=>exact h
 | some d=>
  have hne:d≠t0:=fun e=>hd (by rw [e]);have hne1:d≠t1:=fun e=>hd1 (by rw [e]);have e:results fn (a.tmps.setIfInBounds d v)=results fn a.tmps:=by
   simp [results,hr,Array.getElem?_setIfInBounds_ne hne,Array.getElem?_setIfInBounds_ne hne1]
  exact mK e a.defers _ _ h
theorem cB {P:Program} {fn:Func} {t u:Tmp} {T U:TypeId} {tmps:Array Value} {w:World} {b b':Nat} {cs cs':Array Value} {S S':TypeId} {d d':TypeDesc} (h:fn.results= #[.cell t T, .cell u U]) (ht:tmps.getD t undef= .pointer (some ⟨b,0,none⟩)) (hu':tmps.getD u undef= .pointer (some ⟨b',0,none⟩)) (hb:w.heap[b]? =some (.cells cs S (0,0))) (hb':w.heap[b']? =some (.cells cs' S' (0,0)))
  (hu:P.underlying T=some d) (hd:(match d with | .struct _ | .array _ _=>true | _=>false)=true) (hi:(P.info? T).map (·.size)=some cs.size)
  (hU:P.underlying U=some d') (hd':(match d' with | .struct _ | .array _ _=>true | _=>false)=true) (hi':(P.info? U).map (·.size)=some cs'.size):(results fn tmps).run P w= .ok (.tuple #[.agg cs, .agg cs']) w:=by
 have h1:=run_loadVar_row (P:=P) w b S T cs (0,0) d hb hu hd hi;have h3:=run_loadVar_row (P:=P) w b' S' U cs' (0,0) d' hb' hU hd' hi';have e:tmps[t]?.getD undef= .pointer (some ⟨b,0,none⟩):=by simpa using ht
 have e':tmps[u]?.getD undef= .pointer (some ⟨b',0,none⟩):=by simpa using hu'
 have h2:(asAddr (.pointer (some ⟨b,0,none⟩))).run P w= .ok ⟨b,0,none⟩ w:=rfl;have h2':(asAddr (.pointer (some ⟨b',0,none⟩))).run P w= .ok ⟨b',0,none⟩ w:=rfl;simp [results,h,e,e',h1,h2,h2',h3]
def xC {α:Type} (q:Pr α):Option α ×vZ:=match q with
 | .bad d=>(none,d)
 | .good x _=>(some x,(0,0,0))
theorem qP {α:Type} {p:Ps α} {s:Bt} {T:List aD} (h:eZ s=(T,((0,0,0):Nat ×Nat ×Int))):bS p s=xC (aj p (fun x=>aj (dw 0) fun _=>aG x) T):=by
 unfold bS;rw [h];rw [if_pos rfl];rcases hq:aj p (fun x=>aj (dw 0) fun _=>aG x) T with g | ⟨x,r⟩ <;> simp only [hq] <;> rfl
def o9 {α:Type} (p:Ps α) (s:Bt) (zero:α):α:=(bS p s).1.getD zero
def wK:zQ:=⟨[],[]⟩
def wL:bX:= .mk 0 [] 0 0 0 [] [] []
def mR:bT:= .mk 0 [] [] []
theorem Ny (p q:Addr) (w:World):
  CallsD Tryz.prog 87 #[.pointer (some p), .pointer (some q)] .returning w fun e u' w'=>e= .returned (.tuple #[])∧u'= .returning∧w'=w:=by
 refine callsD_of_wpS Tryz.func87 rfl fun c₀ cs hu=> ?_;apply wpS_seq;apply wpS_region;simp [wpOpsS,go_sem,recoverD,hu,Tryz.ntmps87,Exit.thenS];refine wpS_of_wp ?_;change Code.wp _ _ _ { tmps:= #[.pointer (some p), .pointer (some q), .nilIface,undef,undef,undef, .nilIface,undef,undef,undef,undef,undef,undef,undef,undef,undef,undef,undef,undef,undef],defers:=[]} w
 go_wp2
 exact⟨rfl, .returning,by rw [←hu], .tuple #[],results_none rfl _ _ _,rfl,rfl,rfl⟩
theorem Bv (pb qb:Nat) (hne:pb≠qb) (g:vZ) (older:List PanicEntry) (w:World) {a0 a1:Value} (hp:w.heap[pb]? =some (.cells #[a0,a1] 40 (0,0))) (hq:w.heap[qb]? =some (.cells #[.int .i64 0, .int .i64 0, .int .i64 0, .int .i64 0] 45 (0,0))):
  CallsD Tryz.prog 87 #[.pointer (some ⟨pb,0,none⟩), .pointer (some ⟨qb,0,none⟩)] (.panicking ({ v:= .iface 146 (pR g),recovered:=false} :: older)) w fun e u' w'=>e= .returned (.tuple #[])∧u'= .panicking ({ v:= .iface 146 (pR g),recovered:=true} :: older)∧
   Turn (fun k=>k=pb∨k=qb) w w'∧w'.heap[pb]? =some (.cells #[.slice none 0 0, .slice none 0 0] 40 (0,0))∧w'.heap[qb]? =some (.cells (Qz g) 45 (0,0)):=by
 have hta:∀w:World,(Instr.typeAssert (.iface 146 (pR g)) 20 146 true).run Tryz.prog w= .ok (.tuple #[pR g, .bool true]) w:=fun _=>by kernel_rfl
 have hpl:=block_lt hp;have VK:=block_lt hq;have HP:=hid hp;have HQ:=hid hq;clear hp hq;refine callsD_of_wpS Tryz.func87 rfl fun c₀ cs hu=> ?_;apply wpS_seq;apply wpS_region;simp [wpOpsS,go_sem,recoverD,hu,Tryz.ntmps87,Exit.thenS];refine wpS_of_wp ?_;change Code.wp _ _ _ { tmps:= #[.pointer (some ⟨pb,0,none⟩), .pointer (some ⟨qb,0,none⟩), .iface 146 (pR g),undef,undef,undef, .iface 146 (pR g),undef,undef,undef,undef,undef,undef,undef,undef,undef,undef,undef,undef,undef],defers:=[]} w;obtain⟨W2,hW2⟩:∃W2,(w.alloc (.cells (Qz g) 146)).alloc (.cells #[.slice none 0 0, .slice none 0 0] 40)=W2:=⟨_,rfl⟩
 have hs2:W2.heap.size=w.heap.size+2:=by rw [←hW2];simp
 obtain⟨tw, _,hbb,hzb⟩:=gG (G:=fun _=>False) (Turn.refl _ ((w.alloc (.cells (Qz g) 146)).alloc (.cells #[.slice none 0 0, .slice none 0 0] 40)));rw [hW2]at tw hbb hzb;have HW2:=hid hW2;have hp2:=ah HP.out tw id;have hq2:=ah HQ.out tw id;have FE:=hid hp2;have jO:=hid hq2;have Kv:=hid tw;obtain⟨b0,b1,b2,b3,bz⟩:=aP (hbb id);have hz2:=hzb id;have HZ2:=hid hz2;clear hW2 tw hbb hzb;go_wp2_with fail;rw [HW2.out];have HD0:Hid (Turn (fun j=>j=pb∨j=qb) W2 W2.drew):=hid ⟨rfl,rfl,rfl,Nat.le_refl _,fun _ _ _=>rfl⟩;have PZ:=hid (fun(w':World) (h:Turn (fun j=>j=pb∨j=qb) W2 w')=>(⟨aH ((cell_of_row _ _ 0 _ _ _ hz2).trans rfl) h (by omega),aH ((cell_of_row _ _ 1 _ _ _ hz2).trans rfl) h (by omega)⟩:w'.cell? ⟨w.heap.size+1,0,none⟩=some (.slice none 0 0)∧w'.cell? ⟨w.heap.size+1,1,none⟩=some (.slice none 0 0)));have PB:=hid (fun(w':World) (h:Turn (fun j=>j=pb∨j=qb) W2 w')=>(⟨aH b0 h (by omega),aH b1 h (by omega),aH b2 h (by omega),aH b3 h (by omega)⟩:w'.cell? ⟨w.heap.size,0,none⟩=some (.int .i64 0)∧w'.cell? ⟨w.heap.size,1,none⟩=some (.int .i64 g.1)∧w'.cell? ⟨w.heap.size,2,none⟩=some (.int .i64 g.2.1)∧w'.cell? ⟨w.heap.size,3,none⟩=some (.int .i64 g.2.2)));clear hz2 b0 b1 b2 b3 bz;refine bO (S:=fun w'=>Turn (fun j=>j=pb∨j=qb) W2 w') (x:=4) (by kernel_rfl) ?_
 try simp only [Act.put,sq]
 refine jq 0 (.agg #[.slice none 0 0, .slice none 0 0]) PZ.out HD0.out ?_;refine tx 1 (.pointer (some ⟨w.heap.size,0,none⟩)) HD0.out ?_;refine jq 2 (pR g) PB.out HD0.out ?_;have l9:∀X:World,X.drew.heap=X.heap:=fun _=>rfl;have hdr:∀(G:Nat→Prop) (X:World),Turn G X X.drew:=fun _ _=>⟨rfl,rfl,rfl,Nat.le_refl _,fun _ _ _=>rfl⟩
 have tA:=((ak W2 (pb) 0 (.slice none 0 0)).trans (ak _ (pb) 1 (.slice none 0 0)) (fun _ _ h=>h))
 have Sr:((W2.setCell ⟨pb,0,none⟩ (.slice none 0 0)).setCell ⟨pb,1,none⟩ (.slice none 0 0)).heap[pb]? =some (.cells #[.slice none 0 0, .slice none 0 0] 40 (0,0)):=(heap_setCell_same _ _ 1 _ _ (.slice none 0 0) (heap_setCell_same _ _ 0 _ _ (.slice none 0 0) FE.out))
 have Sv:=ah jO.out tA (fun e=>hne e.symm);have yh:=hid (tA.mono (G:=fun k=>k=pb∨k=qb) (fun _ _ h=> .inl h));have pE:=hid (yh.out.trans (hdr (fun k=>k=pb∨k=qb) _) (fun _ _ h=>h));have YO:=hid Sr;have KZ:=hid Sv;have p0:W2.cell? ⟨pb,0,none⟩=some a0:=(cell_of_row _ _ 0 _ _ _ hp2).trans rfl;have p1:W2.cell? ⟨pb,1,none⟩=some a1:=(cell_of_row _ _ 1 _ _ _ hp2).trans rfl;have pz:∀i,W2.frozen? ⟨pb,i,none⟩=false:=fun i=>frozen_of_row _ _ _ _ _ hp2;have q0:W2.cell? ⟨qb,0,none⟩=some (.int .i64 0):=(cell_of_row _ _ 0 _ _ _ hq2).trans rfl;have q1:W2.cell? ⟨qb,1,none⟩=some (.int .i64 0):=(cell_of_row _ _ 1 _ _ _ hq2).trans rfl;have q2:W2.cell? ⟨qb,2,none⟩=some (.int .i64 0):=(cell_of_row _ _ 2 _ _ _ hq2).trans rfl;have q3:W2.cell? ⟨qb,3,none⟩=some (.int .i64 0):=(cell_of_row _ _ 3 _ _ _ hq2).trans rfl;have qz:∀i,W2.frozen? ⟨qb,i,none⟩=false:=fun i=>frozen_of_row _ _ _ _ _ hq2;have hne':¬qb=pb:=fun e=>hne e.symm;clear tA Sr Sv hp2 hq2;refine ay (rs:=[3]) (by kernel_rfl) (by simp) ?_;refine av.cons rfl (fun K hK=> ?_) (av.nil);go_simp;refine hK.out _ _ pE.out ?_;clear hK K
 try simp only [Act.put,sq]
 refine ay (rs:=[4]) (by kernel_rfl) (by simp) ?_;refine av.past rfl (by kernel_rfl) (fun K hK=> ?_) (av.nil);go_simp;refine hK.out _ _ ?_;clear hK K
 try simp only [Act.put,sq]
 refine aM (by kernel_rfl) ?_ _;go_wp2_with fail;have tB:=((((ak ((W2.setCell ⟨pb,0,none⟩ (.slice none 0 0)).setCell ⟨pb,1,none⟩ (.slice none 0 0)) (qb) 0 (.int .i64 0)).trans (ak _ (qb) 1 (.int .i64 g.1)) (fun _ _ h=>h)).trans (ak _ (qb) 2 (.int .i64 g.2.1)) (fun _ _ h=>h)).trans (ak _ (qb) 3 (.int .i64 g.2.2)) (fun _ _ h=>h))
 have h1:=(Kv.out.mono (G:=fun k=>k=pb∨k=qb) (fun _ _ h=>h.elim)).trans ((yh.out.trans tB (fun _ _ h=> .inr h)).trans (hdr (fun k=>k=pb∨k=qb) _) (fun _ _ h=>h)) (fun _ _ h=>h);have h2:=ah YO.out tB hne;have h3:=(aU (b:=qb) KZ.out (.int .i64 0) (.int .i64 g.1) (.int .i64 g.2.1) (.int .i64 g.2.2))
 refine⟨rfl, _,rfl, .tuple #[],results_none rfl _ _ _,rfl,rfl,h1, ?_, ?_⟩
 ·rw [l9];exact h2
 ·rw [l9];exact h3
theorem QA (w:World) (s:Bt) (hX:jS w):Calls Tryz.prog 44 #[sv s, .func (.func 45) #[] #[]] w fun e w'=>Below w.heap.size w w'∧∃z:List Value,e= .returned (.tuple #[.agg z.toArray,pR (bS dU s).2])∧I7 w' (fun j=>w.heap.size≤j) z (o9 dU s wK):=by
 have OH:∀(fn:Fn) (first cap:Array Value) (w:World),(Instr.makeFunc fn first cap).run Tryz.prog w= .ok (.func fn first cap) w:=fun _ _ _ _=>rfl;have hent:∀w:World,(callFunc 45 #[]).run Tryz.prog w= .ok (.enter 45 #[]) w:=fun _=>by kernel_rfl
 have l9:∀X:World,X.drew.heap=X.heap:=fun _=>rfl;have hdr:∀(G:Nat→Prop) (X:World),Turn G X X.drew:=fun _ _=>⟨rfl,rfl,rfl,Nat.le_refl _,fun _ _ _=>rfl⟩
 obtain⟨W0,hW0⟩:∃W0,((w.alloc (.cells #[.slice none 0 0, .slice none 0 0] 40)).alloc (.cells #[.int .i64 0, .int .i64 0, .int .i64 0, .int .i64 0] 45))=W0:=⟨_,rfl⟩
 obtain⟨tw, _,hx0,hd0⟩:=gG (G:=fun _=>False) (Turn.refl _ ((w.alloc (.cells #[.slice none 0 0, .slice none 0 0] 40)).alloc (.cells #[.int .i64 0, .int .i64 0, .int .i64 0, .int .i64 0] 45)));have hs0:W0.heap.size=w.heap.size+2:=by rw [←hW0];simp
 have hb0:Below w.heap.size w W0:=by rw [←hW0];exact new2 _ _ _
 rw [hW0]at tw hx0 hd0;have hx0:=hx0 id;have hd0:=hd0 id;have HX0:=hid hx0;have HD0:=hid hd0;have HB0:=hid hb0;have I8:=hid ((nH.of hX.1).below hb0);have HL:=hid (BR W0 s (hX.below hb0));have HW0:=hid hW0;obtain⟨Dg,qU⟩:∃Dg,(bS dU s).2=Dg:=⟨_,rfl⟩
 obtain⟨V,hV⟩:∃V,o9 dU s wK=V:=⟨_,rfl⟩
 rw [qU,hV];clear hX tw hx0 hd0 hb0 hW0;by_cases hE:(eZ s).2.2.2=0
 ·have hz:=uR hE;obtain⟨T,hT⟩:∃T,eZ s=(T,((0,0,0):Nat ×Nat ×Int)):=⟨(eZ s).1,by rw [←hz]⟩
  obtain⟨htk,hwf⟩:=uS hE;rw [hT]at HL htk hwf;have QB:Hid (bS dU s=xC (aj dU (fun x=>aj (dw 0) fun _=>aG x) T)):=hid (qP hT);have Nz:=hid qU;have HV:=hid hV;have uD:=hid htk;have ru:=hid hwf;clear hE hz hT htk hwf qU hV
  go_enter_defers Tryz.func44,Tryz.ntmps44
  go_wp2_with fail;rw [HW0.out];refine(HL.out).mono ?_;rintro e w1 ⟨v1,n1,rfl,hown,hb1⟩;obtain⟨zA,c1',rfl, _, _⟩:=iy hown;have hs1:=hb1.size;have hx1:=(hb1.block (w.heap.size) (by omega)).trans HX0.out;have hd1:=(hb1.block (w.heap.size+1) (by omega)).trans HD0.out;have HB1:=hid (HB0.out.trans (hb1.mono (by omega)));have EK:=hid (I8.out.below (hb1.mono (by omega)));obtain⟨x0,x1,x2,x3,xz⟩:=aP hd1;have t1:=bW w1 (w.heap.size+1) (.int .i64 0) (.int .i64 0) (.int .i64 0) (.int .i64 0);have nZ:=hid (ah hx1 t1 (by omega));have HD1:=hid (aU hd1 (.int .i64 0) (.int .i64 0) (.int .i64 0) (.int .i64 0));have HT1:=hid t1;have hsp:(dh w1 (w.heap.size+1) (.int .i64 0) (.int .i64 0) (.int .i64 0) (.int .i64 0)).heap.size=w1.heap.size:=by simp [dh]
  have HOWN:=hid hown;rw [show wz (0,0,0)= .agg #[.int .i64 0, .int .i64 0, .int .i64 0, .int .i64 0]from rfl];obtain⟨W2,hW2⟩:∃W2,(dh w1 (w.heap.size+1) (.int .i64 0) (.int .i64 0) (.int .i64 0) (.int .i64 0)).alloc (.cells #[.slice zA n1 c1', .int .i64 0] 151)=W2:=⟨_,rfl⟩
  have t2:Turn (fun k=>k=w.heap.size+1) w1 W2:=by rw [←hW2];exact t1.trans (Turn.alloc _ _ _) (fun _ _ h=>h)
  have hb2:=qR (dh w1 (w.heap.size+1) (.int .i64 0) (.int .i64 0) (.int .i64 0) (.int .i64 0)) (.cells #[.slice zA n1 c1', .int .i64 0] 151);rw [hW2,hsp]at hb2;have hs2:W2.heap.size=w1.heap.size+1:=by rw [←hW2];simp [dh]
  have Jd:=hid (by have:=bG (o':=(.cells #[.slice zA n1 c1', .int .i64 0] 151)) nZ.out;rwa [hW2]at this);have HD2:=hid (by have:=bG (o':=(.cells #[.slice zA n1 c1', .int .i64 0] 151)) HD1.out;rwa [hW2]at this);have hsl:Sl W2 w1.heap.size 4 (.slice zA n1 c1') (bU T):=((dB.own (F:=fun j=>W0.heap.size≤j∧j<w1.heap.size) hown (fun g hg=>hown.lt g hg)).turn t2 (fun g _ h e=>by have:=h.1;omega)).to (fun g _ h=>h.2);have htb:yR w1.heap.size W2 (.slice zA n1 c1'):=fun b o n c e=>by
   injection e with e _ _;subst e;rcases hown.2 with⟨h, _⟩ | ⟨g,cap,cur,h,hg,Sw, _⟩
   ·injection h with h;cases h
   ·injection h with h _ _;injection h with h;injection h with h _;subst h;exact⟨block_lt Sw, _,ah Sw t2 (by omega)⟩
  have EL:=hid (EK.out.below (t2.below (by omega) (fun k hk e=>by omega)));have HK:=hid (show bK W2 w1.heap.size w1.heap.size T 0 from⟨Nat.le_refl _,uD.out,ru.out, _,hb2,hsl,fun w' hb'=>EL.out w' (fun k hk=>hb' k (by omega)),htb⟩);have HT2:=hid (HB1.out.trans (t2.below (B:=w.heap.size) (by omega) (fun k hk e=>by omega)));have HR:=hid (He W2 w1.heap.size w1.heap.size T HK.out);have HW2:=hid hW2;clear hown hb1 hx1 hd1 t1 t2 hb2 hsl hW2 HOWN htb;go_wp2_with fail;rw [HW2.out];refine(HR.out).mono ?_;rintro e w3 h3;rcases hq:dU T with g | ⟨x,r3⟩
  ·obtain⟨rfl,tn,bn⟩:=h3.bM hq;have wM:Hid (bS dU s=(none,g)):=hid (by rw [QB.out,aB hq];rfl);have NA:=hid (ah Jd.out tn (by omega));have NC:=hid (ah HD2.out tn (by omega));have EM:=hid (HT2.out.trans (tn.below (B:=w.heap.size) (by omega) (fun k hk e=>by omega)));clear h3 tn bn hq;go_wp2_with fail;refine leaves_cons (f:=87) (args:= #[.pointer (some ⟨w.heap.size,0,none⟩), .pointer (some ⟨w.heap.size+1,0,none⟩)]) (by simp) (by simp [go_sem]) ?_;refine(Bv w.heap.size (w.heap.size+1) (by omega) g [] _ NA.out NC.out).mono ?_;rintro e u9 w9 ⟨rfl,rfl,t9,p9,q9⟩;have e1:Dg=g:=by rw [←Nz.out,wM.out]
   have e2:V=wK:=by rw [←HV.out];unfold o9;rw [wM.out];rfl
   subst e1 e2;exact⟨_,cB rfl rfl rfl p9 q9 Tryz.underlying40 rfl (by kernel_rfl) Tryz.underlying45 rfl (by kernel_rfl),EM.out.trans (t9.below (by have:=EM.out.size;omega) (fun k hk e=>by omega)), _,rfl,⟨_, _, _, _,rfl,dB.nil _ _ _, .nil,dB.nil _ _ _, .nil⟩⟩
  ·obtain⟨v3,rfl,tn,⟨z0,rfl,hz0⟩,kn⟩:=h3.aL hq;have hzc:=hz0;obtain⟨vi,xi,vd,xd,rfl,⟨A1,n1',c1,rfl, _⟩, _,⟨A2,n2,c2,rfl, _⟩, _⟩:=hzc;have hs3:=tn.size;have hx3:=ah Jd.out tn (by omega);have hd3:=ah HD2.out tn (by omega);have t4:Turn (fun k=>k=w.heap.size) w3 ((w3.setCell ⟨w.heap.size,0,none⟩ (.slice A1 n1' c1)).setCell ⟨w.heap.size,1,none⟩ (.slice A2 n2 c2)):=((ak w3 (w.heap.size) 0 (.slice A1 n1' c1)).trans (ak _ (w.heap.size) 1 (.slice A2 n2 c2)) (fun _ _ h=>h))
   have yZ:=hid ((heap_setCell_same _ _ 1 _ _ (.slice A2 n2 c2) (heap_setCell_same _ _ 0 _ _ (.slice A1 n1' c1) hx3)));have HD4:=hid (ah hd3 t4 (by omega));have ND:=hid ((EL.out.below (tn.below (by omega) (fun k hk e=>by omega))).below (t4.below (by omega) (fun k hk e=>by omega)));have jH:=hid (kn.apart t4 (by omega) (fun g e _=>by have e:g=w.heap.size:=e;subst e;exact⟨_, _,hx3,by decide⟩) (fun w' hb'=>ND.out w' (fun k hk=>hb' k (by omega))));have fP:=hid (HT2.out.trans ((tn.below (B:=w.heap.size) (by omega) (fun k hk e=>by omega)).trans (t4.below (B:=w.heap.size) (by omega) (fun k hk e=>by omega))));have uV:=hid (hz0.turn t4 (fun g _ h e=>by omega));have Sy:Hid (bS dU s=xC (aj (dw 0) (fun _=>aG x) r3)):=hid (by rw [QB.out,au hq]);have QC:=hid (nI ((w3.setCell ⟨w.heap.size,0,none⟩ (.slice A1 n1' c1)).setCell ⟨w.heap.size,1,none⟩ (.slice A2 n2 c2)) w1.heap.size w1.heap.size r3 0 jH.out 0);have u0:w3.cell? ⟨w.heap.size,0,none⟩=some (.slice none 0 0):=(cell_of_row _ _ 0 _ _ _ hx3).trans rfl;have u1:w3.cell? ⟨w.heap.size,1,none⟩=some (.slice none 0 0):=(cell_of_row _ _ 1 _ _ _ hx3).trans rfl;have uz:∀i,w3.frozen? ⟨w.heap.size,i,none⟩=false:=fun i=>frozen_of_row _ _ _ _ _ hx3;clear h3 tn kn hz0 hq hx3 hd3 t4;go_wp2_with fail;refine(QC.out).mono ?_;rintro e w5 h5;rcases hq:dw 0 r3 with g | ⟨sx,r5⟩
   ·obtain⟨rfl,tn,bn⟩:=h5.bM hq;have wM:Hid (bS dU s=(none,g)):=hid (by rw [Sy.out,aB hq];rfl);have NA:=hid (ah yZ.out tn (by omega));have NC:=hid (ah HD4.out tn (by omega));have EM:=hid (fP.out.trans (tn.below (B:=w.heap.size) (by have:=fP.out.size;omega) (fun k hk e=>by omega)));clear h5 tn bn hq;go_wp2_with fail;refine leaves_cons (f:=87) (args:= #[.pointer (some ⟨w.heap.size,0,none⟩), .pointer (some ⟨w.heap.size+1,0,none⟩)]) (by simp) (by simp [go_sem]) ?_;refine(Bv w.heap.size (w.heap.size+1) (by omega) g [] _ NA.out NC.out).mono ?_;rintro e u9 w9 ⟨rfl,rfl,t9,p9,q9⟩;have e1:Dg=g:=by rw [←Nz.out,wM.out]
    have e2:V=wK:=by rw [←HV.out];unfold o9;rw [wM.out];rfl
    subst e1 e2;exact⟨_,cB rfl rfl rfl p9 q9 Tryz.underlying40 rfl (by kernel_rfl) Tryz.underlying45 rfl (by kernel_rfl),EM.out.trans (t9.below (by have:=EM.out.size;omega) (fun k hk e=>by omega)), _,rfl,⟨_, _, _, _,rfl,dB.nil _ _ _, .nil,dB.nil _ _ _, .nil⟩⟩
   ·obtain⟨v5,rfl,tn, -,kn⟩:=h5.aL hq;have wM:Hid (bS dU s=(some x,(0,0,0))):=hid (by rw [Sy.out,au hq];rfl);have rE:=hid (ah yZ.out tn (by omega));have HD5:=hid (ah HD4.out tn (by omega));have fM:=hid (fP.out.trans (tn.below (B:=w.heap.size) (by have:=fP.out.size;omega) (fun k hk e=>by omega)));have uU:=hid (uV.out.turn tn (fun g _ h e=>by omega));clear h5 tn kn hq uz u0 u1;have PX:=hid (fun(w':World) (h:w'.heap[w.heap.size]? =some (.cells #[.slice A1 n1' c1, .slice A2 n2 c2] 40 (0,0))∧w'.heap[w.heap.size+1]? =some (.cells #[.int .i64 0, .int .i64 0, .int .i64 0, .int .i64 0] 45 (0,0)))=>(⟨(cell_of_row _ _ _ _ _ _ h.1).trans rfl,(cell_of_row _ _ _ _ _ _ h.1).trans rfl⟩:w'.cell? ⟨w.heap.size,0,none⟩=some (.slice A1 n1' c1)∧w'.cell? ⟨w.heap.size,1,none⟩=some (.slice A2 n2 c2)));have PD:=hid (fun(w':World) (h:w'.heap[w.heap.size]? =some (.cells #[.slice A1 n1' c1, .slice A2 n2 c2] 40 (0,0))∧w'.heap[w.heap.size+1]? =some (.cells #[.int .i64 0, .int .i64 0, .int .i64 0, .int .i64 0] 45 (0,0)))=>(⟨(cell_of_row _ _ _ _ _ _ h.2).trans rfl,(cell_of_row _ _ _ _ _ _ h.2).trans rfl,(cell_of_row _ _ _ _ _ _ h.2).trans rfl,(cell_of_row _ _ _ _ _ _ h.2).trans rfl⟩:w'.cell? ⟨w.heap.size+1,0,none⟩=some (.int .i64 0)∧w'.cell? ⟨w.heap.size+1,1,none⟩=some (.int .i64 0)∧w'.cell? ⟨w.heap.size+1,2,none⟩=some (.int .i64 0)∧w'.cell? ⟨w.heap.size+1,3,none⟩=some (.int .i64 0)));have fT:Hid (w5.drew.heap[w.heap.size]? =some (.cells #[.slice A1 n1' c1, .slice A2 n2 c2] 40 (0,0))∧w5.drew.heap[w.heap.size+1]? =some (.cells #[.int .i64 0, .int .i64 0, .int .i64 0, .int .i64 0] 45 (0,0))):=hid ⟨by rw [l9];exact rE.out,by rw [l9];exact HD5.out⟩;have YP:w5.cell? ⟨w.heap.size,0,none⟩=some (.slice A1 n1' c1):=(cell_of_row _ _ 0 _ _ _ rE.out).trans rfl
    have YQ:w5.cell? ⟨w.heap.size,1,none⟩=some (.slice A2 n2 c2):=(cell_of_row _ _ 1 _ _ _ rE.out).trans rfl;have YR:∀i,w5.frozen? ⟨w.heap.size,i,none⟩=false:=fun i=>frozen_of_row _ _ _ _ _ rE.out;have YS:w5.cell? ⟨w.heap.size+1,0,none⟩=some (.int .i64 0):=(cell_of_row _ _ 0 _ _ _ HD5.out).trans rfl;have YT:w5.cell? ⟨w.heap.size+1,1,none⟩=some (.int .i64 0):=(cell_of_row _ _ 1 _ _ _ HD5.out).trans rfl;have YU:w5.cell? ⟨w.heap.size+1,2,none⟩=some (.int .i64 0):=(cell_of_row _ _ 2 _ _ _ HD5.out).trans rfl;have YV:w5.cell? ⟨w.heap.size+1,3,none⟩=some (.int .i64 0):=(cell_of_row _ _ 3 _ _ _ HD5.out).trans rfl;have YW:∀i,w5.frozen? ⟨w.heap.size+1,i,none⟩=false:=fun i=>frozen_of_row _ _ _ _ _ HD5.out;have tA:=((ak w5 (w.heap.size) 0 (.slice A1 n1' c1)).trans (ak _ (w.heap.size) 1 (.slice A2 n2 c2)) (fun _ _ h=>h))
    have rF:=(heap_setCell_same _ _ 1 _ _ (.slice A2 n2 c2) (heap_setCell_same _ _ 0 _ _ (.slice A1 n1' c1) rE.out))
    have rG:=ah HD5.out tA (by omega);have tB:=((((ak ((w5.setCell ⟨w.heap.size,0,none⟩ (.slice A1 n1' c1)).setCell ⟨w.heap.size,1,none⟩ (.slice A2 n2 c2)) (w.heap.size+1) 0 (.int .i64 0)).trans (ak _ (w.heap.size+1) 1 (.int .i64 0)) (fun _ _ h=>h)).trans (ak _ (w.heap.size+1) 2 (.int .i64 0)) (fun _ _ h=>h)).trans (ak _ (w.heap.size+1) 3 (.int .i64 0)) (fun _ _ h=>h))
    have HXB:=hid (ah rF tB (by omega));have jW:=hid ((aU (b:=w.heap.size+1) rG (.int .i64 0) (.int .i64 0) (.int .i64 0) (.int .i64 0)));have jI:=hid ((tA.mono (G:=fun k=>k=w.heap.size∨k=w.heap.size+1) (fun _ _ h=> .inl h)).trans tB (fun _ _ h=> .inr h));have pE:Hid (((w5.setCell ⟨w.heap.size,0,none⟩ (.slice A1 n1' c1)).setCell ⟨w.heap.size,1,none⟩ (.slice A2 n2 c2)).drew.heap[w.heap.size]? =some (.cells #[.slice A1 n1' c1, .slice A2 n2 c2] 40 (0,0))∧((w5.setCell ⟨w.heap.size,0,none⟩ (.slice A1 n1' c1)).setCell ⟨w.heap.size,1,none⟩ (.slice A2 n2 c2)).drew.heap[w.heap.size+1]? =some (.cells #[.int .i64 0, .int .i64 0, .int .i64 0, .int .i64 0] 45 (0,0))):=hid ⟨by rw [l9];exact rF,by rw [l9];exact rG⟩;clear tA rF rG tB;go_wp2_with fail;refine bO (S:=fun w'=>w'.heap[w.heap.size]? =some (.cells #[.slice A1 n1' c1, .slice A2 n2 c2] 40 (0,0))∧w'.heap[w.heap.size+1]? =some (.cells #[.int .i64 0, .int .i64 0, .int .i64 0, .int .i64 0] 45 (0,0))) (x:=3) (by kernel_rfl) ?_
    try simp only [Act.put,sq]
    refine jq 0 (.agg #[.slice A1 n1' c1, .slice A2 n2 c2]) PX.out fT.out (hQ:=kR rfl (by decide) (by decide)) ?_;refine jq 1 (.agg #[.int .i64 0, .int .i64 0, .int .i64 0, .int .i64 0]) PD.out fT.out (hQ:=kR rfl (by decide) (by decide)) ?_;refine ay (rs:=[2]) (by kernel_rfl) (by simp) ?_;refine av.cons rfl (fun K hK=> ?_) (av.nil);go_simp;refine hK.out _ _ pE.out ?_;clear hK K
    try simp only [Act.put,sq]
    refine ay (rs:=[3]) (by kernel_rfl) (by simp) ?_;refine av.past rfl (by kernel_rfl) (fun K hK=> ?_) (av.nil);go_simp;refine hK.out _ _ ?_;clear hK K
    try simp only [Act.put,sq]
    refine aM (by kernel_rfl) ?_ _;go_wp2_with fail;refine leaves_cons (f:=87) (args:= #[.pointer (some ⟨w.heap.size,0,none⟩), .pointer (some ⟨w.heap.size+1,0,none⟩)]) (by simp) (by simp [go_sem]) ?_;refine(Ny _ _ _).mono ?_;rintro e u9 w9 ⟨rfl,rfl,rfl⟩;have e1:Dg=(0,0,0):=by rw [←Nz.out,wM.out]
    have e2:V=x:=by rw [←HV.out];unfold o9;rw [wM.out];rfl
    subst e1 e2;have OL:=(uU.out.turn jI.out (fun g _ h e=>by omega)).turn (hdr (fun _=>False) _) (fun _ _ _=>id);have xq:=(fM.out.trans (jI.out.below (B:=w.heap.size) (by have:=fM.out.size;omega) (fun k hk e=>by omega))).trans ((hdr (fun _=>False) _).below (by have:=fM.out.size;have:=jI.out.size;omega) (fun _ _=>id));exact⟨_,cB rfl rfl rfl (by rw [l9];exact HXB.out) (by rw [l9];exact jW.out) Tryz.underlying40 rfl (by kernel_rfl) Tryz.underlying45 rfl (by kernel_rfl),xq, _,rfl,OL.mono (fun g _ h=>by omega)⟩
 ·have NG:bS dU s=(none,(eZ s).2):=by unfold bS;rw [if_neg hE]
  have e1:Dg=(eZ s).2:=by rw [←qU,NG]
  have e2:V=wK:=by rw [←hV];unfold o9;rw [NG];rfl
  subst e2;obtain⟨T,D1,hT⟩:∃T D1,eZ s=(T,D1):=⟨_, _,rfl⟩
  rw [hT]at HL e1 hE;have e1:=e1.symm;subst e1;have hE1:(D1.2.2 != 0)=true:=by simpa using hE
  clear hE NG qU hV hT
  go_enter_defers Tryz.func44,Tryz.ntmps44
  go_wp2_with fail;rw [HW0.out];have Sz:wz D1= .agg #[.int .i64 0, .int .i64 D1.1, .int .i64 D1.2.1, .int .i64 D1.2.2]:=rfl;refine(HL.out).mono ?_;rintro e w1 ⟨v1,n1,rfl,hown,hb1⟩;obtain⟨zA,c1',rfl, _, _⟩:=iy hown;have hs1:=hb1.size;have hx1:=(hb1.block (w.heap.size) (by omega)).trans HX0.out;have hd1:=(hb1.block (w.heap.size+1) (by omega)).trans HD0.out;have HB1:=hid (HB0.out.trans (hb1.mono (by omega)));have EK:=hid (I8.out.below (hb1.mono (by omega)));obtain⟨x0,x1,x2,x3,xz⟩:=aP hd1;have t1:=bW w1 (w.heap.size+1) (.int .i64 0) (.int .i64 D1.1) (.int .i64 D1.2.1) (.int .i64 D1.2.2);have nZ:=hid (ah hx1 t1 (by omega));have HD1:=hid (aU hd1 (.int .i64 0) (.int .i64 D1.1) (.int .i64 D1.2.1) (.int .i64 D1.2.2));have HT1:=hid t1;have hsp:(dh w1 (w.heap.size+1) (.int .i64 0) (.int .i64 D1.1) (.int .i64 D1.2.1) (.int .i64 D1.2.2)).heap.size=w1.heap.size:=by simp [dh]
  have HOWN:=hid hown;rw [Sz];clear hown hb1 hx1 hd1 t1 Sz;have PX:=hid (fun(w':World) (h:w'.heap[w.heap.size]? =some (.cells #[.slice none 0 0, .slice none 0 0] 40 (0,0))∧w'.heap[w.heap.size+1]? =some (.cells #[.int .i64 0, .int .i64 D1.1, .int .i64 D1.2.1, .int .i64 D1.2.2] 45 (0,0)))=>(⟨(cell_of_row _ _ _ _ _ _ h.1).trans rfl,(cell_of_row _ _ _ _ _ _ h.1).trans rfl⟩:w'.cell? ⟨w.heap.size,0,none⟩=some (.slice none 0 0)∧w'.cell? ⟨w.heap.size,1,none⟩=some (.slice none 0 0)));have PD:=hid (fun(w':World) (h:w'.heap[w.heap.size]? =some (.cells #[.slice none 0 0, .slice none 0 0] 40 (0,0))∧w'.heap[w.heap.size+1]? =some (.cells #[.int .i64 0, .int .i64 D1.1, .int .i64 D1.2.1, .int .i64 D1.2.2] 45 (0,0)))=>(⟨(cell_of_row _ _ _ _ _ _ h.2).trans rfl,(cell_of_row _ _ _ _ _ _ h.2).trans rfl,(cell_of_row _ _ _ _ _ _ h.2).trans rfl,(cell_of_row _ _ _ _ _ _ h.2).trans rfl⟩:w'.cell? ⟨w.heap.size+1,0,none⟩=some (.int .i64 0)∧w'.cell? ⟨w.heap.size+1,1,none⟩=some (.int .i64 D1.1)∧w'.cell? ⟨w.heap.size+1,2,none⟩=some (.int .i64 D1.2.1)∧w'.cell? ⟨w.heap.size+1,3,none⟩=some (.int .i64 D1.2.2)));have fT:Hid ((dh w1 (w.heap.size+1) (.int .i64 0) (.int .i64 D1.1) (.int .i64 D1.2.1) (.int .i64 D1.2.2)).drew.heap[w.heap.size]? =some (.cells #[.slice none 0 0, .slice none 0 0] 40 (0,0))∧(dh w1 (w.heap.size+1) (.int .i64 0) (.int .i64 D1.1) (.int .i64 D1.2.1) (.int .i64 D1.2.2)).drew.heap[w.heap.size+1]? =some (.cells #[.int .i64 0, .int .i64 D1.1, .int .i64 D1.2.1, .int .i64 D1.2.2] 45 (0,0))):=hid ⟨by rw [l9];exact nZ.out,by rw [l9];exact HD1.out⟩
  have YP:(dh w1 (w.heap.size+1) (.int .i64 0) (.int .i64 D1.1) (.int .i64 D1.2.1) (.int .i64 D1.2.2)).cell? ⟨w.heap.size,0,none⟩=some (.slice none 0 0):=(cell_of_row _ _ 0 _ _ _ nZ.out).trans rfl;have YQ:(dh w1 (w.heap.size+1) (.int .i64 0) (.int .i64 D1.1) (.int .i64 D1.2.1) (.int .i64 D1.2.2)).cell? ⟨w.heap.size,1,none⟩=some (.slice none 0 0):=(cell_of_row _ _ 1 _ _ _ nZ.out).trans rfl;have YR:∀i,(dh w1 (w.heap.size+1) (.int .i64 0) (.int .i64 D1.1) (.int .i64 D1.2.1) (.int .i64 D1.2.2)).frozen? ⟨w.heap.size,i,none⟩=false:=fun i=>frozen_of_row _ _ _ _ _ nZ.out;have YS:(dh w1 (w.heap.size+1) (.int .i64 0) (.int .i64 D1.1) (.int .i64 D1.2.1) (.int .i64 D1.2.2)).cell? ⟨w.heap.size+1,0,none⟩=some (.int .i64 0):=(cell_of_row _ _ 0 _ _ _ HD1.out).trans rfl;have YT:(dh w1 (w.heap.size+1) (.int .i64 0) (.int .i64 D1.1) (.int .i64 D1.2.1) (.int .i64 D1.2.2)).cell? ⟨w.heap.size+1,1,none⟩=some (.int .i64 D1.1):=(cell_of_row _ _ 1 _ _ _ HD1.out).trans rfl;have YU:(dh w1 (w.heap.size+1) (.int .i64 0) (.int .i64 D1.1) (.int .i64 D1.2.1) (.int .i64 D1.2.2)).cell? ⟨w.heap.size+1,2,none⟩=some (.int .i64 D1.2.1):=(cell_of_row _ _ 2 _ _ _ HD1.out).trans rfl;have YV:(dh w1 (w.heap.size+1) (.int .i64 0) (.int .i64 D1.1) (.int .i64 D1.2.1) (.int .i64 D1.2.2)).cell? ⟨w.heap.size+1,3,none⟩=some (.int .i64 D1.2.2):=(cell_of_row _ _ 3 _ _ _ HD1.out).trans rfl;have YW:∀i,(dh w1 (w.heap.size+1) (.int .i64 0) (.int .i64 D1.1) (.int .i64 D1.2.1) (.int .i64 D1.2.2)).frozen? ⟨w.heap.size+1,i,none⟩=false:=fun i=>frozen_of_row _ _ _ _ _ HD1.out
  have tA:=((ak (dh w1 (w.heap.size+1) (.int .i64 0) (.int .i64 D1.1) (.int .i64 D1.2.1) (.int .i64 D1.2.2)) (w.heap.size) 0 (.slice none 0 0)).trans (ak _ (w.heap.size) 1 (.slice none 0 0)) (fun _ _ h=>h))
  have rF:=(heap_setCell_same _ _ 1 _ _ (.slice none 0 0) (heap_setCell_same _ _ 0 _ _ (.slice none 0 0) nZ.out))
  have rG:=ah HD1.out tA (by omega);have tB:=((((ak (((dh w1 (w.heap.size+1) (.int .i64 0) (.int .i64 D1.1) (.int .i64 D1.2.1) (.int .i64 D1.2.2)).setCell ⟨w.heap.size,0,none⟩ (.slice none 0 0)).setCell ⟨w.heap.size,1,none⟩ (.slice none 0 0)) (w.heap.size+1) 0 (.int .i64 0)).trans (ak _ (w.heap.size+1) 1 (.int .i64 D1.1)) (fun _ _ h=>h)).trans (ak _ (w.heap.size+1) 2 (.int .i64 D1.2.1)) (fun _ _ h=>h)).trans (ak _ (w.heap.size+1) 3 (.int .i64 D1.2.2)) (fun _ _ h=>h))
  have HXB:=hid (ah rF tB (by omega));have jW:=hid ((aU (b:=w.heap.size+1) rG (.int .i64 0) (.int .i64 D1.1) (.int .i64 D1.2.1) (.int .i64 D1.2.2)));have jI:=hid ((tA.mono (G:=fun k=>k=w.heap.size∨k=w.heap.size+1) (fun _ _ h=> .inl h)).trans tB (fun _ _ h=> .inr h));have pE:Hid ((((dh w1 (w.heap.size+1) (.int .i64 0) (.int .i64 D1.1) (.int .i64 D1.2.1) (.int .i64 D1.2.2)).setCell ⟨w.heap.size,0,none⟩ (.slice none 0 0)).setCell ⟨w.heap.size,1,none⟩ (.slice none 0 0)).drew.heap[w.heap.size]? =some (.cells #[.slice none 0 0, .slice none 0 0] 40 (0,0))∧(((dh w1 (w.heap.size+1) (.int .i64 0) (.int .i64 D1.1) (.int .i64 D1.2.1) (.int .i64 D1.2.2)).setCell ⟨w.heap.size,0,none⟩ (.slice none 0 0)).setCell ⟨w.heap.size,1,none⟩ (.slice none 0 0)).drew.heap[w.heap.size+1]? =some (.cells #[.int .i64 0, .int .i64 D1.1, .int .i64 D1.2.1, .int .i64 D1.2.2] 45 (0,0))):=hid ⟨by rw [l9];exact rF,by rw [l9];exact rG⟩;clear tA rF rG tB;go_wp2_with fail;refine bO (S:=fun w'=>w'.heap[w.heap.size]? =some (.cells #[.slice none 0 0, .slice none 0 0] 40 (0,0))∧w'.heap[w.heap.size+1]? =some (.cells #[.int .i64 0, .int .i64 D1.1, .int .i64 D1.2.1, .int .i64 D1.2.2] 45 (0,0))) (x:=3) (by kernel_rfl) ?_
  try simp only [Act.put,sq]
  refine jq 0 (.agg #[.slice none 0 0, .slice none 0 0]) PX.out fT.out (hQ:=fun c a w h=>kR rfl (by decide) (by decide) c a w h) ?_;refine jq 1 (.agg #[.int .i64 0, .int .i64 D1.1, .int .i64 D1.2.1, .int .i64 D1.2.2]) PD.out fT.out (hQ:=fun c a w h=>kR rfl (by decide) (by decide) c a w h) ?_;refine ay (rs:=[2]) (by kernel_rfl) (by simp) ?_;refine av.cons rfl (fun K hK=> ?_) (av.nil);go_simp;refine hK.out _ _ pE.out ?_;clear hK K
  try simp only [Act.put,sq]
  refine ay (rs:=[3]) (by kernel_rfl) (by simp) ?_;refine av.past rfl (by kernel_rfl) (fun K hK=> ?_) (av.nil);go_simp;refine hK.out _ _ ?_;clear hK K
  try simp only [Act.put,sq]
  refine aM (by kernel_rfl) ?_ _;go_wp2_with fail;have xq:=((HB1.out.trans (HT1.out.below (B:=w.heap.size) (by omega) (fun k hk e=>by omega))).trans (jI.out.below (B:=w.heap.size) (by rw [hsp];omega) (fun k hk e=>by omega))).trans ((hdr (fun _=>False) _).below (by have:=jI.out.size;rw [hsp]at this;omega) (fun _ _=>id));exact⟨_,cB rfl rfl rfl (by rw [l9];exact HXB.out) (by rw [l9];exact jW.out) Tryz.underlying40 rfl (by kernel_rfl) Tryz.underlying45 rfl (by kernel_rfl),xq, _,rfl,⟨_, _, _, _,rfl,dB.nil _ _ _, .nil,dB.nil _ _ _, .nil⟩⟩
theorem EN (w:World) (s:Bt) (hX:jS w):Calls Tryz.prog 19 #[sv s] w fun e w'=>Below w.heap.size w w'∧∃z:List Value,e= .returned (.tuple #[.agg z.toArray,pR (bS dU s).2])∧I7 w' (fun j=>w.heap.size≤j) z (o9 dU s wK):=by
 obtain⟨W0,hW0⟩:∃W0,((w.alloc (.cells #[.slice none 0 0, .slice none 0 0] 40)).alloc (.cells #[.int .i64 0, .int .i64 0, .int .i64 0, .int .i64 0] 45))=W0:=⟨_,rfl⟩
 obtain⟨tw, _,hx0,hd0⟩:=gG (G:=fun _=>False) (Turn.refl _ ((w.alloc (.cells #[.slice none 0 0, .slice none 0 0] 40)).alloc (.cells #[.int .i64 0, .int .i64 0, .int .i64 0, .int .i64 0] 45)));have hs0:W0.heap.size=w.heap.size+2:=by rw [←hW0];simp
 have hb0:Below w.heap.size w W0:=by rw [←hW0];exact new2 _ _ _
 rw [hW0]at tw hx0 hd0;have HX0:=hid (hx0 id);have HD0:=hid (hd0 id);have HB0:=hid hb0;have HA:=hid (QA W0 s (hX.below hb0));have HW0:=hid hW0;obtain⟨Dg,qU⟩:∃Dg,(bS dU s).2=Dg:=⟨_,rfl⟩
 obtain⟨V,hV⟩:∃V,o9 dU s wK=V:=⟨_,rfl⟩
 rw [qU,hV]at HA;rw [qU,hV];clear hX tw hx0 hd0 hb0 hW0 qU hV;go_enter Tryz.func19,Tryz.ntmps19;go_wp2_with fail;rw [HW0.out];refine(HA.out).mono ?_;rintro e w1 ⟨hb1,z0,rfl,hz0⟩;have hzc:=hz0;obtain⟨vi,xi,vd,xd,rfl,⟨A1,n1',c1,rfl, _⟩, _,⟨A2,n2,c2,rfl, _⟩, _⟩:=hzc;have hs1:=hb1.size;have hx1:=(hb1.block (w.heap.size) (by omega)).trans HX0.out;have hd1:=(hb1.block (w.heap.size+1) (by omega)).trans HD0.out;have tA:Turn (fun k=>k=w.heap.size) w1 ((w1.setCell ⟨w.heap.size,0,none⟩ (.slice A1 n1' c1)).setCell ⟨w.heap.size,1,none⟩ (.slice A2 n2 c2)):=((ak w1 (w.heap.size) 0 (.slice A1 n1' c1)).trans (ak _ (w.heap.size) 1 (.slice A2 n2 c2)) (fun _ _ h=>h))
 have rF:=(heap_setCell_same _ _ 1 _ _ (.slice A2 n2 c2) (heap_setCell_same _ _ 0 _ _ (.slice A1 n1' c1) hx1))
 have rG:=ah hd1 tA (by omega);have tB:=((((ak ((w1.setCell ⟨w.heap.size,0,none⟩ (.slice A1 n1' c1)).setCell ⟨w.heap.size,1,none⟩ (.slice A2 n2 c2)) (w.heap.size+1) 0 (.int .i64 0)).trans (ak _ (w.heap.size+1) 1 (.int .i64 Dg.1)) (fun _ _ h=>h)).trans (ak _ (w.heap.size+1) 2 (.int .i64 Dg.2.1)) (fun _ _ h=>h)).trans (ak _ (w.heap.size+1) 3 (.int .i64 Dg.2.2)) (fun _ _ h=>h))
 have HXB:=hid (ah rF tB (by omega));have jW:=hid ((aU (b:=w.heap.size+1) rG (.int .i64 0) (.int .i64 Dg.1) (.int .i64 Dg.2.1) (.int .i64 Dg.2.2)));have jI:=hid ((tA.mono (G:=fun k=>k=w.heap.size∨k=w.heap.size+1) (fun _ _ h=> .inl h)).trans tB (fun _ _ h=> .inr h));have HZ:=hid hz0;have HB1:=hid (HB0.out.trans (hb1.mono (by omega)));have u0:w1.cell? ⟨w.heap.size,0,none⟩=some (.slice none 0 0):=(cell_of_row _ _ 0 _ _ _ hx1).trans rfl;have u1:w1.cell? ⟨w.heap.size,1,none⟩=some (.slice none 0 0):=(cell_of_row _ _ 1 _ _ _ hx1).trans rfl;have l0:w1.cell? ⟨w.heap.size+1,0,none⟩=some (.int .i64 0):=(cell_of_row _ _ 0 _ _ _ hd1).trans rfl;have l1:w1.cell? ⟨w.heap.size+1,1,none⟩=some (.int .i64 0):=(cell_of_row _ _ 1 _ _ _ hd1).trans rfl;have l2:w1.cell? ⟨w.heap.size+1,2,none⟩=some (.int .i64 0):=(cell_of_row _ _ 2 _ _ _ hd1).trans rfl;have l3:w1.cell? ⟨w.heap.size+1,3,none⟩=some (.int .i64 0):=(cell_of_row _ _ 3 _ _ _ hd1).trans rfl;have uz:∀i,w1.frozen? ⟨w.heap.size,i,none⟩=false:=fun i=>frozen_of_row _ _ _ _ _ hx1;have lz:∀i,w1.frozen? ⟨w.heap.size+1,i,none⟩=false:=fun i=>frozen_of_row _ _ _ _ _ hd1;clear hb1 hz0 hx1 hd1 tA rF rG tB;go_wp2_with fail;refine bodyPost_ret (cB rfl rfl rfl HXB.out jW.out Tryz.underlying40 rfl (by kernel_rfl) Tryz.underlying45 rfl (by kernel_rfl)) rfl ?_;exact⟨HB1.out.trans (jI.out.below (B:=w.heap.size) (by omega) (fun k hk e=>by omega)), _,rfl,(HZ.out.turn jI.out (fun g _ h e=>by omega)).mono (fun g _ h=>by omega)⟩
end Go.Proofs.YtfgjkmipfikooaaGreatDoor
