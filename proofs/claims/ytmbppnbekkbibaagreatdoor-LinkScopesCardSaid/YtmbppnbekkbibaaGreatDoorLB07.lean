/- RS, RT, RU, RE, NE, JF, JG -/
import Derived.Test.YtmbppnbekkbibaaGreatDoorLB02
import Derived.Test.YtmbppnbekkbibaaGreatDoorLB01
import Derived.Test.YtmbppnbekkbibaaGreatDoorLB06
import Derived.Test.YtmbppnbekkbibaaGreatDoorLB05
set_option linter.unusedSimpArgs false
set_option linter.unusedVariables false
set_option maxRecDepth 100000
set_option maxHeartbeats 8000000
namespace Go.Proofs.YtmbppnbekkbibaaGreatDoor
open Go.RowKit
def wM (k:Nat) (t:aF):aF:={ t with line:=t.line+k}
mutual
def Bo (k:Nat):bT→bT
 | .mk kd t n l c ts ns ks=> .mk kd t n (l+k) c ts ns (EN k ks)
def EN (k:Nat):List bT→List bT
 | []=>[]
 | x :: l=>Bo k x :: EN k l
end
theorem CZ (k:Nat):∀l:List bT,EN k l=l.map (Bo k)
 | []=>by simp [EN]
 | t :: l=>by simp [EN,CZ k l]
theorem mO (k:Nat) (kd:Int) (text:Bt) (n:Int) (h:aF) (types:List cZ) (names:List Bt) (kids:List bT):aJ kd text n (wM k h) types names (kids.map (Bo k))=Bo k (aJ kd text n h types names kids):=by
 unfold aJ;rw [Bo,CZ];simp [wM]
theorem kU (k:Nat) (kd:Int) (text:Bt) (n:Int) (h:aF) (types:List cZ) (names:List Bt):aJ kd text n (wM k h) types names []=Bo k (aJ kd text n h types names []):=mO k kd text n h types names []
def zJ (X:List aF):Prop:=∃x r,X=x :: r∧(x.kind=0∨(x.kind=5∧x.text=[41]))
theorem Kz (k:Nat) (t:aF) (s:Bt):mR (wM k t) s=mR t s:=rfl
theorem qD {E:aF} (hE:E.kind=0) (s:Bt):mR E s=false:=by unfold mR;rw [hE];rfl
theorem tK {x:aF} (h:x.kind=0∨(x.kind=5∧x.text=[41])) {s:Bt} (hs:s≠[41]):mR x s=false:=by
 rcases h with h | ⟨h,h2⟩
 ·exact qD h s
 ·unfold mR;rw [h2,beq_false_of_ne (Ne.symm hs),Bool.and_false]
section
variable {α β:Type} (k:Nat) (D:Prop) (E:aF) (X:List aF)
def aC (R:α→α→List aF→Prop) (p q:Ps α) (u:List aF):Prop:=∀a r,p (u++[E])= .good a r→
 (∃v b,r=v++[E]∧v<:+u∧q (u.map (wM k)++X)= .good b (v.map (wM k)++X)∧R a b v)∨(D∧∃l c,q (u.map (wM k)++X)= .bad (l,c,6))
end
section
variable {α β:Type} {k:Nat} {D:Prop} {E:aF} {X:List aF} {R:α→α→List aF→Prop} {S:β→β→List aF→Prop} {u:List aF}
theorem aC.ret {a b:α} (h:R a b u):aC k D E X R (aG a) (aG b) u:=by
 intro x r hx;injection hx with h1 h2;subst h1 h2;exact .inl ⟨u,b,rfl,List.suffix_refl _,rfl,h⟩
theorem aC.then_ {p q:Ps α} {f g:α→Ps β} (h:aC k D E X R p q u) (hf:∀a b v,v<:+u→R a b v→aC k D E X S (f a) (g b) v):aC k D E X S (ak p f) (ak q g) u:=by
 intro x r hx;unfold ak at hx;rcases hp:p (u++[E])with d | ⟨a,r1⟩
 ·rw [hp]at hx;cases hx
 ·rw [hp]at hx;rcases h a r1 hp with⟨v,b,rfl,hv,hq,hR⟩ | ⟨hD,l,c,hq⟩
  ·rcases hf a b v hv hR x r hx with⟨v2,b2,e2,hv2,hq2,hS⟩ | ⟨hD,l,c,hq2⟩
   ·exact .inl ⟨v2,b2,e2,hv2.trans hv,by rw [aj hq];exact hq2,hS⟩
   ·exact .inr ⟨hD,l,c,by rw [aj hq];exact hq2⟩
  ·exact .inr ⟨hD,l,c,aB hq⟩
theorem aC.bad {p q:Ps α} (h:∀a r,p (u++[E])≠ .good a r):aC k D E X R p q u:=fun a r hx=>absurd hx (h a r)
theorem aC.fail {e:Int} {q:Ps α}:aC k D E X R (jl e) q u:= .bad fun a r h=>by cases h
theorem aC.mono {p q:Ps α} {R':α→α→List aF→Prop} (h:aC k D E X R p q u) (hR:∀a b v,R a b v→R' a b v):aC k D E X R' p q u:=fun a r hx=>by
 rcases h a r hx with⟨v,b,h1,h2,h3,h4⟩ | h
 ·exact .inl ⟨v,b,h1,h2,h3,hR _ _ _ h4⟩
 ·exact .inr h
theorem aC.fuel {p q:Nat→Ps α} (h:∀f g,u.length<f→u.length<g→aC k D E X R (p f) (q g) u) (hX:zJ X):aC k D E X R (fun ts=>p ts.length ts) (fun ts=>q ts.length ts) u:=by
 obtain⟨x,X',rfl, _⟩:=hX;have:=h (u++[E]).length (u.map (wM k)++x :: X').length (by simp) (by simp);exact this
variable (hE:E.kind=0) (hX:zJ X)
include hE hX
theorem aC.dJ {l:List Bt} (hl:∀s∈l,s≠[41]):aC k D E X (fun i j v=>i=j∧((i=none∧v=u)∨(∃t n,i=some n∧u=t :: v))) (bR l) (bR l) u:=by
 obtain⟨x,X',rfl,hx⟩:=hX;intro a r h;cases u with
 | nil=>
  have h1:l.findIdx? (mR E)=none:=List.findIdx?_eq_none_iff.2 fun s _=>qD hE s;have h2:l.findIdx? (mR x)=none:=List.findIdx?_eq_none_iff.2 fun s hs=>tK hx (hl s hs);rw [List.nil_append,wW h1]at h;injection h with e1 e2;subst e1 e2;exact .inl ⟨[],none,rfl,List.suffix_refl _,wW h2 _,rfl, .inl ⟨rfl,rfl⟩⟩
 | cons t u=>
  rw [List.cons_append]at h;rcases hf:l.findIdx? (mR t)with _ | i
  ·rw [wW hf]at h;injection h with e1 e2;subst e1 e2;exact .inl ⟨t :: u,none,rfl,List.suffix_refl _,wW (t:=wM k t) hf _,rfl, .inl ⟨rfl,rfl⟩⟩
  ·rw [Ce hf]at h;injection h with e1 e2;subst e1 e2;exact .inl ⟨u,some i,rfl,List.suffix_cons _ _,Ce (t:=wM k t) hf _,rfl, .inr ⟨t,i,rfl,rfl⟩⟩
theorem aC.has {s:Bt} (hs:s≠[41]):aC k D E X (fun i j v=>i=j∧((i=false∧v=u)∨(∃t,i=true∧u=t :: v))) (dI s) (dI s) u:=by
 obtain⟨x,X',rfl,hx⟩:=hX;intro a r h;cases u with
 | nil=>
  rw [List.nil_append,uO (qD hE s)]at h;injection h with e1 e2;subst e1 e2;exact .inl ⟨[],false,rfl,List.suffix_refl _,uO (tK hx hs) _,rfl, .inl ⟨rfl,rfl⟩⟩
 | cons t u=>
  rw [List.cons_append]at h;cases hb:mR t s
  ·rw [uO hb]at h;injection h with e1 e2;subst e1 e2;exact .inl ⟨t :: u,false,rfl,List.suffix_refl _,uO (t:=wM k t) hb _,rfl, .inl ⟨rfl,rfl⟩⟩
  ·rw [wV hb]at h;injection h with e1 e2;subst e1 e2;exact .inl ⟨u,true,rfl,List.suffix_cons _ _,wV (t:=wM k t) hb _,rfl, .inr ⟨t,rfl,rfl⟩⟩
omit hX in
theorem aC.want {s:Bt}:aC k D E X (fun _ _ v=>∃t,u=t :: v) (aI s) (aI s) u:=by
 intro a r h;unfold aI at h ⊢;cases u with
 | nil=>
  rw [List.nil_append,aj (uO (qD hE s) _)]at h;cases h
 | cons t u=>
  rw [List.cons_append]at h;cases hb:mR t s
  ·rw [aj (uO hb _)]at h;cases h
  ·rw [aj (wV hb _)]at h;injection h with e1 e2;subst e2;exact .inl ⟨u,(),rfl,List.suffix_cons _ _,aj (wV (t:=wM k t) hb _),t,rfl⟩
omit hX in
theorem aC.wants:∀(l:List Bt) {u:List aF},aC k D E X (fun _ _ _=>True) (je l) (je l) u
 | [],u=> .ret trivial
 | s :: l,u=>(aC.want hE).then_ fun _ _ v _ _=>aC.wants l
omit hX in
theorem aC.kind {n:Int} (hn:n≠0):aC k D E X (fun a b v=>a=b∧∃t,u=t :: v∧a=t.text) (dL n) (dL n) u:=by
 intro a r h;unfold dL at h ⊢;cases u with
 | nil=>
  simp only [List.nil_append,aS,List.headD_cons]at h;rw [if_neg (by rw [hE];exact fun e=>hn e.symm)]at h;cases h
 | cons t u=>
  simp only [List.cons_append,aS,List.headD_cons,List.map_cons]at h ⊢;by_cases hk:t.kind=n
  ·rw [if_pos hk,if_neg hn]at h;injection h with e1 e2;subst e1 e2;refine .inl ⟨u,t.text,rfl,List.suffix_cons _ _, ?_,rfl,t,rfl,rfl⟩;rw [if_pos (show(wM k t).kind=n from hk),if_neg hn];rfl
  ·rw [if_neg hk]at h;cases h
omit hX in
theorem aC.name:aC k D E X (fun a b v=>a=b) nameP nameP u:=(aC.kind hE (by decide)).mono fun _ _ _ h=>h.1
omit hX hE in
theorem aC.here:aC k D E X (fun h h' v=>v=u∧∀t r,u=t :: r→h=t∧h'=wM k t) jK jK u:=by
 intro a r h;unfold jK at h ⊢;injection h with e1 e2;subst e1 e2;refine .inl ⟨u, _,rfl,List.suffix_refl _,rfl,rfl, ?_⟩;rintro t r rfl;exact⟨rfl,rfl⟩
omit hX hE in
theorem iy {v u:List aF} (h:v<:+u):v.length≤u.length:=h.length_le
theorem aC.zD {one two:Ps α} {Q:α→α→Prop} (h1:∀u,aC k D E X (fun a b _=>Q a b) one two u) (n:Nat):∀(u:List aF) (f g:Nat) (l m:List α),u.length≤n→u.length<f→u.length<g→l.length=m.length→(∀x∈l.zip m,Q x.1 x.2)→
  aC k D E X (fun a b _=>a.length=b.length∧∀x∈a.zip b,Q x.1 x.2) (oQ one f l) (oQ two g m) u:=by
 induction n with
 | zero=>
  intro u f g l m hn hf hg hl hz;obtain⟨f,rfl⟩:∃f',f=f'+1:=⟨f - 1,by omega⟩
  obtain⟨g,rfl⟩:∃f',g=f'+1:=⟨g - 1,by omega⟩
  refine(aC.has hE hX (by decide)).then_ fun a b v hv ⟨e,h⟩=> ?_;subst e;rcases h with⟨rfl,rfl⟩ | ⟨t,rfl,rfl⟩
  ·exact .ret ⟨hl,hz⟩
  ·simp at hn
 | succ n ih=>
  intro u f g l m hn hf hg hl hz;obtain⟨f,rfl⟩:∃f',f=f'+1:=⟨f - 1,by omega⟩
  obtain⟨g,rfl⟩:∃f',g=f'+1:=⟨g - 1,by omega⟩
  refine(aC.has hE hX (by decide)).then_ fun a b v hv ⟨e,h⟩=> ?_;subst e;rcases h with⟨rfl,rfl⟩ | ⟨t,rfl,rfl⟩
  ·exact .ret ⟨hl,hz⟩
  ·refine(h1 v).then_ fun a b v2 hv2 hab=> ?_;have:=iy hv2;simp only [List.length_cons]at hn hf hg;refine ih v2 f g _ _ (by omega) (by omega) (by omega) (by simp [hl]) ?_;rw [List.zip_append hl];intro x hx;rcases List.mem_append.1 hx with hx | hx
   ·exact hz x hx
   ·simp only [List.zip_cons_cons,List.zip_nil_right,List.mem_singleton]at hx;subst hx;exact hab
theorem aC.sep {one two:Ps α} {Q:α→α→Prop} (h1:∀u,aC k D E X (fun a b _=>Q a b) one two u):aC k D E X (fun a b _=>a.length=b.length∧∀x∈a.zip b,Q x.1 x.2) (iD one) (iD two) u:=
 (h1 u).then_ fun a b v _ hab=>aC.fuel (p:=fun n=>oQ one n [a]) (q:=fun n=>oQ two n [b]) (fun f g hf hg=>aC.zD hE hX h1 v.length v f g _ _ (Nat.le_refl _) hf hg rfl (by simpa using hab)) hX
omit hX hE in
theorem Bp {a b:List α} (hl:a.length=b.length) (h:∀x∈a.zip b,x.2=x.1):b=a:=by
 induction a generalizing b with
 | nil=>cases b with | nil=>rfl | cons y b=>simp at hl
 | cons x a ih=>
  cases b with
  | nil=>simp at hl
  | cons y b=>
   have h1:=h (x,y) (by simp);simp only at h1;rw [h1,ih (b:=b) (by simpa using hl) (fun z hz=>h z (by simp [hz]))]
omit hX hE in
theorem zip_map {a b:List α} {φ:α→α} (hl:a.length=b.length) (h:∀x∈a.zip b,x.2=φ x.1):b=a.map φ:=by
 induction a generalizing b with
 | nil=>cases b with | nil=>rfl | cons y b=>simp at hl
 | cons x a ih=>
  cases b with
  | nil=>simp at hl
  | cons y b=>
   have h1:=h (x,y) (by simp);simp only at h1;rw [h1,ih (b:=b) (by simpa using hl) (fun z hz=>h z (by simp [hz]))];rfl
end
section
variable {k:Nat} {D:Prop} {E:aF} {X:List aF} {u:List aF} (hE:E.kind=0) (hX:zJ X)
abbrev Ta:cZ→cZ→List aF→Prop:=fun a b _=>b=a
abbrev Bq (k:Nat):bT→bT→List aF→Prop:=fun a b _=>b=Bo k a
variable {typ tL:Ps cZ} (ht:∀u,aC k D E X Ta typ tL u) {expr expr' unary Br:Ps bT} (he:∀u,aC k D E X (Bq k) expr expr' u) (hu:∀u,aC k D E X (Bq k) unary Br u)
include hE hX ht
theorem aC.zF:aC k D E X Ta (mF typ) (mF tL) u:=by
 refine(aC.dJ hE hX (by decide)).then_ fun a b v hv ⟨e,h⟩=> ?_;subst e;rcases a with _ | n
 ·refine(aC.dJ hE hX (by decide)).then_ fun a b v hv ⟨e,h⟩=> ?_;subst e;rcases a with _ | _ | n
  ·exact(aC.name hE).then_ fun a b v hv e=>by subst e;exact .ret rfl
  ·exact(ht _).then_ fun a b v hv e=>by subst e;exact(aC.want hE).then_ fun _ _ v _ _=> .ret rfl
  ·refine(aC.has hE hX (by decide)).then_ fun a b v hv ⟨e,h⟩=> ?_;subst e;cases a
   ·refine(aC.sep (Q:=fun a b=>b=a) hE hX fun u=> ?_).then_ fun a b v hv h=> ?_
    ·exact(aC.name hE).then_ fun a b v hv e=>by subst e;exact(aC.want hE).then_ fun _ _ v _ _=>(ht _).then_ fun a b v hv e=>by subst e;exact .ret rfl
    ·obtain rfl:=Bp h.1 h.2;exact(aC.want hE).then_ fun _ _ v _ _=> .ret rfl
   ·exact .ret rfl
 ·exact .ret rfl
theorem aC.alt (n:Nat):∀(u:List aF) (f g:Nat) (l:List cZ),u.length≤n→u.length<f→u.length<g→
  aC k D E X (fun a b _=>b=a) (mU typ f l) (mU tL g l) u:=by
 induction n with
 | zero=>
  intro u f g l hn hf hg;obtain⟨f,rfl⟩:∃f',f=f'+1:=⟨f - 1,by omega⟩
  obtain⟨g,rfl⟩:∃f',g=f'+1:=⟨g - 1,by omega⟩
  refine(aC.has hE hX (by decide)).then_ fun a b v hv ⟨e,h⟩=> ?_;subst e;rcases h with⟨rfl,rfl⟩ | ⟨t,rfl,rfl⟩
  ·exact .ret rfl
  ·simp at hn
 | succ n ih=>
  intro u f g l hn hf hg;obtain⟨f,rfl⟩:∃f',f=f'+1:=⟨f - 1,by omega⟩
  obtain⟨g,rfl⟩:∃f',g=f'+1:=⟨g - 1,by omega⟩
  refine(aC.has hE hX (by decide)).then_ fun a b v hv ⟨e,h⟩=> ?_;subst e;rcases h with⟨rfl,rfl⟩ | ⟨t,rfl,rfl⟩
  ·exact .ret rfl
  ·refine(aC.zF hE hX ht).then_ fun a b v2 hv2 hab=> ?_;subst hab;have:=iy hv2;simp only [List.length_cons]at hn hf hg;exact ih v2 f g _ (by omega) (by omega) (by omega)
theorem aC.JV:aC k D E X Ta (Es typ) (Es tL) u:=by
 refine(aC.zF hE hX ht).then_ fun a b v hv e=> ?_;subst e;refine(aC.fuel (p:=fun n=>mU typ n [b]) (q:=fun n=>mU tL n [b]) (fun f g hf hg=>aC.alt hE hX ht v.length v f g _ (Nat.le_refl _) hf hg) hX).then_ fun a b v hv e=> ?_;subst e;refine(aC.has hE hX (by decide)).then_ fun a b v hv ⟨e,h⟩=> ?_;subst e;cases a
 ·exact .ret rfl
 ·exact(ht _).then_ fun a b v hv e=>by subst e;exact .ret rfl
theorem aC.note (l n:List cZ):aC k D E X (fun a b _=>b=a) (gP typ l n) (gP tL l n) u:=by
 refine(aC.has hE hX (by decide)).then_ fun a b v hv ⟨e,h⟩=> ?_;subst e;cases a
 ·exact .ret rfl
 ·exact(ht _).then_ fun a b v hv e=>by subst e;exact .ret rfl
theorem aC.head (n:List cZ):aC k D E X (fun a b _=>b=a) (jV typ n) (jV tL n) u:=by
 refine(aC.want hE).then_ fun _ _ v _ _=>(aC.name hE).then_ fun a b v hv e=> ?_;subst e;refine(aC.note hE hX ht _ _).then_ fun a b v hv e=> ?_;subst e;refine(aC.want hE).then_ fun _ _ v _ _=>(aC.note hE hX ht _ _).then_ fun a b v hv e=> ?_;subst e;exact .ret rfl
omit ht hX
include he
theorem aC.kids:∀(a:List Bt) (l:List bT) {u:List aF},aC k D E X (fun a b _=>b=a.map (Bo k)) (bG expr a l) (bG expr' a (l.map (Bo k))) u
 | [],l,u=> .ret rfl
 | s :: r,l,u=>by
  refine aC.then_ (R:=fun _ _ _=>True) ?_ fun _ _ v _ _=> ?_
  ·by_cases hs:s=[]
   ·rw [if_pos hs];exact .ret trivial
   ·rw [if_neg hs];exact(aC.want hE).mono fun _ _ _ _=>trivial
  ·refine(he _).then_ fun a b v hv e=> ?_;subst e;have:=aC.kids r (l++[a]) (u:=v);rwa [List.map_append]at this
omit he
include hX
theorem aC.left {sub sub':Ps bT} (hs:∀u,aC k D E X (Bq k) sub sub' u) {ops:List Bt} (ho:∀s∈ops,s≠[41]) (n:Nat):∀(u:List aF) (f g:Nat) (a:bT),u.length≤n→u.length<f→u.length<g→
  aC k D E X (Bq k) (jv ops sub f a) (jv ops sub' g (Bo k a)) u:=by
 induction n with
 | zero=>
  intro u f g l hn hf hg;obtain⟨f,rfl⟩:∃f',f=f'+1:=⟨f - 1,by omega⟩
  obtain⟨g,rfl⟩:∃f',g=f'+1:=⟨g - 1,by omega⟩
  refine aC.here.then_ fun a b v hv ⟨e,h1⟩=> ?_;subst e;refine(aC.dJ hE hX ho).then_ fun a b v hv ⟨e,h⟩=> ?_;subst e;rcases h with⟨rfl,rfl⟩ | ⟨t,i,rfl,rfl⟩
  ·exact .ret rfl
  ·simp at hn
 | succ n ih=>
  intro u f g l hn hf hg;obtain⟨f,rfl⟩:∃f',f=f'+1:=⟨f - 1,by omega⟩
  obtain⟨g,rfl⟩:∃f',g=f'+1:=⟨g - 1,by omega⟩
  refine aC.here.then_ fun a b v hv ⟨e,h1⟩=> ?_;subst e;refine(aC.dJ hE hX ho).then_ fun a b v hv ⟨e,h⟩=> ?_;subst e;rcases h with⟨rfl,rfl⟩ | ⟨t,i,rfl,rfl⟩
  ·exact .ret rfl
  ·obtain⟨rfl,rfl⟩:=h1 t v rfl;refine(hs v).then_ fun a b v2 hv2 hab=> ?_;subst hab;have:=iy hv2;simp only [List.length_cons]at hn hf hg;exact ih v2 f g (aJ 14 (ops.getD i []) 0 _ [] [] [l,a]) (by omega) (by omega) (by omega)
theorem aC.Ch {sub sub':Ps bT} (hs:∀u,aC k D E X (Bq k) sub sub' u) {ops:List Bt} (ho:∀s∈ops,s≠[41]):aC k D E X (Bq k) (xX ops sub) (xX ops sub') u:=
 (hs u).then_ fun a b v hv e=>by
  subst e;exact aC.fuel (p:=fun n=>jv ops sub n a) (q:=fun n=>jv ops sub' n (Bo k a)) (fun f g hf hg=>aC.left hE hX hs ho v.length v f g a (Nat.le_refl _) hf hg) hX
include ht
theorem aC.cmp {sub sub':Ps bT} (hs:∀u,aC k D E X (Bq k) sub sub' u):aC k D E X (Bq k) (Et typ sub) (Et tL sub') u:=by
 refine(hs u).then_ fun x b v hv e=> ?_;subst e;refine aC.here.then_ fun a b v hv ⟨e,h1⟩=> ?_;subst e;refine(aC.dJ hE hX (by decide)).then_ fun a b v hv ⟨e,h⟩=> ?_;subst e;rcases h with⟨rfl,rfl⟩ | ⟨t,i,rfl,rfl⟩
 ·exact .ret rfl
 ·obtain⟨rfl,rfl⟩:=h1 t v rfl;simp only;by_cases h3:i=3
  ·rw [if_pos h3,if_pos h3];refine(aC.dJ hE hX (by decide)).then_ fun a b v hv ⟨e,h⟩=> ?_;subst e;rcases a with _ | n
   ·exact aC.fail
   ·exact .ret rfl
  ·rw [if_neg h3,if_neg h3];by_cases h4:i=4
   ·rw [if_pos h4,if_pos h4];exact(ht _).then_ fun a b v hv e=>by subst e;exact .ret rfl
   ·rw [if_neg h4,if_neg h4];exact(hs _).then_ fun a b v hv e=>by subst e;exact .ret rfl
include hu
theorem aC.rank:∀(f:Nat) {u:List aF},f≤6→aC k D E X (Bq k) (iH typ unary f) (iH tL Br f) u
 | 0,u, _=>hu u
 | f+1,u,hf=>by
  unfold iH;by_cases h3:f=3
  ·rw [if_pos h3,if_pos h3];exact aC.cmp hE hX ht fun u=>aC.rank f (by omega)
  ·rw [if_neg h3,if_neg h3];refine aC.Ch hE hX (fun u=>aC.rank f (by omega)) ?_;have:f=0∨f=1∨f=2∨f=4∨f=5:=by omega
   rcases this with rfl | rfl | rfl | rfl | rfl <;> decide
include he
theorem aC.x9:aC k D E X (Bq k) (vQ typ expr unary) (vQ tL expr' Br) u:=by
 refine aC.here.then_ fun a b v hv ⟨e,h1⟩=> ?_;subst e;refine(aC.dJ hE hX (by decide)).then_ fun a b v hv ⟨e,h⟩=> ?_;subst e;rcases h with⟨rfl,rfl⟩ | ⟨t,i,rfl,rfl⟩
 ·exact aC.rank hE hX ht hu 6 (Nat.le_refl _)
 ·obtain⟨rfl,rfl⟩:=h1 t v rfl;rcases i with _ | _ | i
  ·refine(aC.name hE).then_ fun a b v hv e=> ?_;subst e;refine(aC.note hE hX ht _ _).then_ fun a b v hv e=> ?_;subst e;exact(aC.kids hE he _ []).then_ fun a b v hv e=>by subst e;exact .ret (mO ..)
  ·exact(aC.kids hE he _ []).then_ fun a b v hv e=>by subst e;exact .ret (mO ..)
  ·refine(aC.head hE hX ht _).then_ fun a b v hv e=> ?_;subst e;exact(aC.kids hE he _ []).then_ fun a b v hv e=>by subst e;exact .ret (mO ..)
omit hu ht hX
theorem aC.ru:aC k D E X (fun a b _=>b=(a.1,Bo k a.2)) (iM expr) (iM expr') u:=by
 refine(aC.name hE).then_ fun a b v hv e=> ?_;subst e;refine(aC.want hE).then_ fun _ _ v _ _=>(he _).then_ fun a b v hv e=> ?_;subst e;exact .ret rfl
include hX
theorem aC.Ib (t:aF):aC k D E X (Bq k) (sP expr t) (sP expr' (wM k t)) u:=by
 have WM:=hX;obtain⟨x,X',rfl,hx⟩:=WM;refine aC.then_ (R:=fun a b v=>a=b∧v=u) ?_ fun a b v hv ⟨e,h⟩=> ?_
 ·intro a r h;unfold jW at h ⊢;injection h with e1 e2;subst e1 e2;refine .inl ⟨u, _,rfl,List.suffix_refl _,rfl, ?_,rfl⟩;cases u with
  | nil=>simp [aS,qD hE,tK hx (s:=[125]) (by decide)]
  | cons t u=>simp [aS,Kz]
 ·subst e h;cases a
  ·rw [if_neg Bool.false_ne_true,if_neg Bool.false_ne_true];refine aC.then_ (R:=fun a b w=>a=b∧w=v) ?_ fun a b v hv ⟨e,h⟩=> ?_
   ·intro a r h;unfold jW at h ⊢;injection h with e1 e2;subst e1 e2;refine .inl ⟨v, _,rfl,List.suffix_refl _,rfl, ?_,rfl⟩;rcases v with _ | ⟨t, _ | ⟨t2,v⟩⟩
    ·have hk:(x.kind==1)=false:=by rcases hx with hx | hx <;> simp [hx]
     simp [aS,hE,hk]
    ·simp [aS,qD hE,tK hx (s:=[58]) (by decide)]
    ·simp [aS,Kz];rfl
   ·subst e h;cases a
    ·rw [if_neg Bool.false_ne_true,if_neg Bool.false_ne_true];refine(aC.kids hE he _ []).then_ fun m b v hv e=> ?_;subst e;refine(aC.want hE).then_ fun _ _ v _ _=>(aC.name hE).then_ fun a b v hv e=> ?_;subst e;exact(aC.kids hE he _ m).then_ fun a b v hv e=>by subst e;exact .ret (mO ..)
    ·rw [if_pos rfl,if_pos rfl];refine(aC.sep (Q:=fun a b=>b=(a.1,Bo k a.2)) hE hX fun u=>aC.ru hE he).then_ fun a b v hv h=> ?_;obtain rfl:=zip_map (φ:=fun a:Bt ×bT=>(a.1,Bo k a.2)) h.1 h.2;exact .ret (by have:=mO k 8 [] 0 t [] (a.map (·.1)) (a.map (·.2));simpa [Function.comp_def]using this)
  ·exact .ret (kU ..)
omit he
include ht
theorem aC.named {h h':aF} (hh:∀t r,u=t :: r→h=t∧h'=wM k t):aC k D E X (Bq k) (kJ typ h) (kJ tL h') u:=by
 refine(aC.kind hE (by decide)).then_ fun a b v hv ⟨e,t,hu, _⟩=> ?_;subst e;obtain⟨rfl,rfl⟩:=hh t v hu;refine(aC.has hE hX (by decide)).then_ fun a b v hv ⟨e,h⟩=> ?_;subst e;cases a
 ·exact .ret (kU ..)
 ·refine(aC.sep (Q:=fun a b=>b=a) hE hX fun u=>ht u).then_ fun a b v hv h=> ?_;obtain rfl:=Bp h.1 h.2;exact(aC.want hE).then_ fun _ _ v _ _=> .ret (kU ..)
include he
theorem aC.atom:aC k D E X (Bq k) (oV typ expr) (oV tL expr') u:=by
 have WM:=hX;obtain⟨x,X',rfl,hx⟩:=WM;have hxk:∀n:Int,n=3∨n=4→x.kind≠n:=by
  intro n hn h;rcases hx with h1 | ⟨h1, _⟩ <;> omega
 refine aC.then_ (R:=fun h h' v=>v=u∧(∀t r,u=t :: r→h=t∧h'=wM k t)∧(u=[]→h=E∧h'=x)) ?_ fun h h' v hv ⟨e,hh,hn⟩=> ?_
 ·intro a r h;unfold jK at h ⊢;injection h with e1 e2;subst e1 e2;refine .inl ⟨u, _,rfl,List.suffix_refl _,rfl,rfl, ?_, ?_⟩
  ·rintro t r rfl;exact⟨rfl,rfl⟩
  ·rintro rfl;exact⟨rfl,rfl⟩
 ·subst e;have hk:(h.kind=3↔h'.kind=3)∧(h.kind=4↔h'.kind=4):=by
   cases v with
   | nil=>
    obtain⟨rfl,rfl⟩:=hn rfl;have h3:=hxk 3 (.inl rfl);have h4:=hxk 4 (.inr rfl);rw [hE];exact⟨⟨fun h=>(by cases h),fun h=>absurd h h3⟩,⟨fun h=>(by cases h),fun h=>absurd h h4⟩⟩
   | cons t r=>
    obtain⟨rfl,rfl⟩:=hh t r rfl;exact⟨Iff.rfl,Iff.rfl⟩
  by_cases h3:h.kind=3
  ·rw [if_pos h3,if_pos (hk.1.1 h3)];refine(aC.kind hE (by decide)).then_ fun a b w hv ⟨e,t,hu, _⟩=> ?_;subst e;obtain⟨rfl,rfl⟩:=hh t w hu;exact .ret (kU ..)
  ·rw [if_neg h3,if_neg (fun h=>h3 (hk.1.2 h))];by_cases h4:h.kind=4
   ·rw [if_pos h4,if_pos (hk.2.1 h4)];refine(aC.kind hE (by decide)).then_ fun a b w hv ⟨e,t,hu, _⟩=> ?_;subst e;obtain⟨rfl,rfl⟩:=hh t w hu;exact .ret (kU ..)
   ·rw [if_neg h4,if_neg (fun h=>h4 (hk.2.2 h))];refine(aC.dJ hE hX (by decide)).then_ fun a b w hv ⟨e,h1⟩=> ?_;subst e;rcases h1 with⟨rfl,rfl⟩ | ⟨t,i,rfl,rfl⟩
    ·exact aC.named hE hX ht hh
    ·obtain⟨rfl,rfl⟩:=hh t w rfl;rcases i with _ | _ | _ | _ | _ | _ | i
     ·exact .ret (kU ..)
     ·exact .ret (kU ..)
     ·exact .ret (kU ..)
     ·exact(aC.wants hE _).then_ fun _ _ v _ _=> .ret (kU ..)
     ·exact(aC.kids hE he _ []).then_ fun a b v hv e=>by subst e;exact(aC.want hE).then_ fun _ _ v _ _=> .ret (mO ..)
     ·exact(he _).then_ fun a b v hv e=>by subst e;exact(aC.want hE).then_ fun _ _ v _ _=> .ret rfl
     ·exact(aC.Ib hE hX he _).then_ fun a b v hv e=>by subst e;exact(aC.want hE).then_ fun _ _ v _ _=> .ret rfl
omit ht
theorem aC.ni (n:Nat):∀(u:List aF) (f g:Nat) (a:bT),u.length≤n→u.length<f→u.length<g→
  aC k D E X (Bq k) (gZ expr f a) (gZ expr' g (Bo k a)) u:=by
 induction n with
 | zero=>
  intro u f g l hn hf hg;obtain⟨f,rfl⟩:∃f',f=f'+1:=⟨f - 1,by omega⟩
  obtain⟨g,rfl⟩:∃f',g=f'+1:=⟨g - 1,by omega⟩
  refine aC.here.then_ fun a b v hv ⟨e,h1⟩=> ?_;subst e;refine(aC.dJ hE hX (by decide)).then_ fun a b v hv ⟨e,h⟩=> ?_;subst e;rcases h with⟨rfl,rfl⟩ | ⟨t,i,rfl,rfl⟩
  ·exact .ret rfl
  ·simp at hn
 | succ n ih=>
  intro u f g l hn hf hg;obtain⟨f,rfl⟩:∃f',f=f'+1:=⟨f - 1,by omega⟩
  obtain⟨g,rfl⟩:∃f',g=f'+1:=⟨g - 1,by omega⟩
  refine aC.here.then_ fun a b v hv ⟨e,h1⟩=> ?_;subst e;refine(aC.dJ hE hX (by decide)).then_ fun a b v hv ⟨e,h⟩=> ?_;subst e;rcases h with⟨rfl,rfl⟩ | ⟨t,i,rfl,rfl⟩
  ·exact .ret rfl
  ·obtain⟨rfl,rfl⟩:=h1 t v rfl;simp only [List.length_cons]at hn hf hg;rcases i with _ | i
   ·refine(aC.kids hE he _ [l]).then_ fun a b v1 hv1 e=> ?_;subst e;refine(aC.want hE).then_ fun _ _ v2 hv2 _=> ?_;have:=iy hv2;have:=iy hv1;have h:=fun x:aF=>ih v2 f g (aJ 7 [] 0 x [] [] a) (by omega) (by omega) (by omega);simp only [←mO]at h;exact h _
   ·refine(aC.name hE).then_ fun a b v2 hv2 e=> ?_;subst e;have:=iy hv2;exact ih v2 f g (aJ 9 a 0 _ [] [] [l]) (by omega) (by omega) (by omega)
include ht
theorem aC.post:aC k D E X (Bq k) (oW typ expr) (oW tL expr') u:=
 (aC.atom hE hX ht he).then_ fun a b v hv e=>by
  subst e;exact aC.fuel (p:=fun n=>gZ expr n a) (q:=fun n=>gZ expr' n (Bo k a)) (fun f g hf hg=>aC.ni hE hX he v.length v f g a (Nat.le_refl _) hf hg) hX
include hu
theorem aC.rA:aC k D E X (Bq k) (oZ typ expr unary) (oZ tL expr' Br) u:=by
 refine aC.here.then_ fun a b v hv ⟨e,h1⟩=> ?_;subst e;refine(aC.dJ hE hX (by decide)).then_ fun a b v hv ⟨e,h⟩=> ?_;subst e;rcases h with⟨rfl,rfl⟩ | ⟨t,i,rfl,rfl⟩
 ·exact aC.post hE hX ht he
 ·obtain⟨rfl,rfl⟩:=h1 t v rfl;rcases i with _ | i
  ·exact(hu _).then_ fun a b v hv e=>by subst e;exact .ret rfl
  ·exact(hu _).then_ fun a b v hv e=>by subst e;exact .ret rfl
end
theorem aC.zG {k:Nat} {E:aF} {X:List aF} (hE:E.kind=0) (hX:zJ X):∀(m n:Nat),m≤n→
  (∀u,aC k (m<n) E X Ta (dU n).typ (dU m).typ u)∧(∀u,aC k (m<n) E X (Bq k) (dU n).expr (dU m).expr u)∧(∀u,aC k (m<n) E X (Bq k) (dU n).unary (dU m).unary u)
 | 0,0, _=>⟨fun u=>aC.fail,fun u=>aC.fail,fun u=>aC.fail⟩
 | 0,n+1, _=>⟨fun u a r h=> .inr ⟨by omega, _, _,rfl⟩,fun u a r h=> .inr ⟨by omega, _, _,rfl⟩,fun u a r h=> .inr ⟨by omega, _, _,rfl⟩⟩
 | m+1,0,h=>absurd h (by omega)
 | m+1,n+1,h=>by
  have h1:=aC.zG (k:=k) hE hX m n (by omega);have e:(m+1<n+1)=(m<n):=by simp
  rw [e];obtain⟨h1,h2,h3⟩:=h1;exact⟨fun u=>aC.JV hE hX h1,fun u=>aC.x9 hE hX h1 h2 h3,fun u=>aC.rA hE hX h1 h2 h3⟩
theorem Aq {t:Bt} {kd:Int} (h:xR kd t):kd≠0∧(kd=2→t≠[58]):=by
 obtain⟨h1, _,h2, _⟩:=h;refine⟨by omega,fun e=> ?_⟩;have:=h2 e;rintro rfl;exact absurd this (by decide)
theorem Ar:∀(f:Nat) (s:Bt) (p:Nat ×Nat) (out:List aF),(kI f s p out).2.2.2=0→(kI f s p out).2=(0,0,0)
 | 0,s,p,out,h=>rfl
 | f+1,s,p,out,h=>by
  rw [kI]at h ⊢;by_cases hnil:s.drop (aW s)=[]
  ·rw [if_pos hnil]
  ·rw [if_neg hnil]at h ⊢;cases hn:fZ (s.drop (aW s))with
   | inl e=>
    rw [hn]at h;exact absurd h (qw hn)
   | inr x=>
    obtain⟨kd,t,n⟩:=x;rw [hn]at h;simp only at h ⊢;by_cases h8:out.length=8192
    ·rw [if_pos h8]at h;exact absurd (show(19:Int)=0 from h) (by decide)
    ·rw [if_neg h8]at h ⊢;exact Ar f _ _ _ h
theorem tO {s:Bt} (h:(dS s).2.2.2=0):(dS s).2=(0,0,0):=by
 by_cases hs:65536<s.length
 ·unfold dS at h;rw [if_pos hs]at h;exact absurd (show(2:Int)=0 from h) (by decide)
 ·rw [uN s (by omega)]at h ⊢;exact Ar _ _ _ _ h
theorem tQ {s:Bt} {l:List aF} (h:dS s=(l,(0,0,0))):∃m e,l=m++[e]∧e.kind=0∧(∀t∈m,xR t.kind t.text)∧m.length≤s.length∧Wf l:=by
 by_cases hs:65536<s.length
 ·unfold dS at h;rw [if_pos hs]at h;cases h
 ·rw [uN s (by omega)]at h;obtain⟨m,e,h1,h2, _,h3,h4, _⟩:=uM _ s (1,1) [] (Nat.lt_succ_self _) (by rw [h]);rw [h]at h1;injection h1 with h1 _;rw [List.nil_append]at h1;exact⟨m,e,h1,h2,h4,h3,m,e,h1,h2,fun t ht=>Aq (h4 t ht)⟩
def jE:Bt:=[10,10,35,32,110,111,116,104,105,110,103,10]
theorem KA {s:Bt} (hs:s.length+12≤65536) {m:List aF} {e:aF} (h:dS s=(m++[e],(0,0,0))):∃e',e'.kind=0∧dS (s++jE)=(m++[e'],(0,0,0)):=by
 rw [uN s (by omega)]at h;obtain⟨m',e',h1,h2, _, _, _,h5⟩:=uM _ s (1,1) [] (Nat.lt_succ_self _) (by rw [h]);rw [h]at h1;injection h1 with h1 _;rw [List.nil_append]at h1;obtain⟨rfl, _⟩:=List.append_inj' h1 rfl;obtain⟨F',q,hF,h6⟩:=h5 10 (jE.drop 1) ((s++jE).length+1) rfl (by rw [List.length_append];show s.length+1+11<s.length+12+1;omega);rw [uN _ (by rw [List.length_append];show s.length+12≤65536;omega)];have e1:s++jE=s++10 :: jE.drop 1:=rfl;rw [e1]at h6 ⊢;rw [h6];obtain⟨F0,rfl⟩:∃F0,F'=F0+1:=⟨F' - 1,by omega⟩
 rw [kI,if_pos (by decide)];exact⟨_,rfl,rfl⟩
def bT.line:bT→Int | .mk _ _ _ l _ _ _ _=>l
def bT.col:bT→Int | .mk _ _ _ _ c _ _ _=>c
theorem pW {α:Type} {p:Ps α} (hp:Sf p) {s:Bt} {a:α} (h:(cK p s).1=some a):
  cK p s=(some a,(0,0,0))∧∃m e,dS s=(m++[e],(0,0,0))∧e.kind=0∧(∀t∈m,xR t.kind t.text)∧m.length≤s.length∧p (m++[e])= .good a [e]:=by
 unfold cK at h ⊢;by_cases h0:(dS s).2.2.2=0
 ·rw [if_pos h0]at h ⊢;have hz:(dS s).2=(0,0,0):=tO h0;obtain⟨m,e,h1,h2,h3,h4,h5⟩:=tQ (l:=(dS s).1) (by rw [←hz]);have hl:dS s=(m++[e],(0,0,0)):=by rw [←h1, ←hz]
  rw [h1]at h ⊢;rw [h1]at h5;rcases hq:p (m++[e])with d | ⟨x,r⟩
  ·rw [aB hq]at h;cases h
  ·rw [aj hq]at h ⊢;obtain⟨hr,hs⟩:=hp.good h5 hq;by_cases hk:(aS r).kind=0
   ·have e1:dL 0 r= .good (aS r).text r:=by unfold dL;rw [if_pos hk,if_pos rfl]
    rw [aj e1]at h ⊢;simp only [aG]at h ⊢;injection h with h;subst h;refine⟨rfl,m,e,hl,h2,h3,h4, ?_⟩;rw [hq];have:r=[e]:=by
     rcases hr.cases with⟨e1,rfl, _⟩ | ⟨t,r,rfl,ht, _⟩
     ·obtain⟨z,hz⟩:=hs;rw [(List.append_inj' hz rfl).2]
     ·exact absurd hk ht
    rw [this]
   ·have e1:dL 0 r= .bad ((aS r).line,(aS r).col,7):=by unfold dL;rw [if_neg hk]
    rw [aB e1]at h;cases h
 ·rw [if_neg h0]at h;cases h
theorem IJ {α:Type} {p:Ps α} {s:Bt} {m:List aF} {e:aF} {a:α} (hl:dS s=(m++[e],(0,0,0))) (he:e.kind=0) (h:p (m++[e])= .good a [e]):cK p s=(some a,(0,0,0)):=by
 unfold cK;rw [hl,if_pos rfl,aj h,aj (a:=e.text) (r:=[e]) (by unfold dL;rw [if_pos (show(aS [e]).kind=0 from he),if_pos rfl];rfl)];rfl
def Cn {α:Type} (c:Nat) (p:Ps α) (m:α→Nat):Prop:=∀ts,Wf ts→∀a r,p ts= .good a r→Wf r∧m a+r.length≤ts.length+c
section
variable {α β:Type} {c:Nat}
theorem Cn.sf {p:Ps α} (h:Sf p) (c:Nat):Cn c p (fun _=>c):=fun ts hw a r hp=>by
 obtain⟨h1,h2⟩:=h.good hw hp;have:=h2.length_le;exact⟨h1,by(try dsimp only);omega⟩
theorem Cn.mono {p:Ps α} {m m':α→Nat} {c':Nat} (h:Cn c p m) (hm:∀a,m' a+c≤m a+c'):Cn c' p m':=fun ts hw a r hp=>by
 obtain⟨h1,h2⟩:=h ts hw a r hp;have:=hm a;exact⟨h1,by(try dsimp only);omega⟩
theorem Cn.ret {m:α→Nat} (a:α) (h:m a≤c):Cn c (aG a) m:=fun ts hw b r hp=>by
 injection hp with h1 h2;subst h1 h2;exact⟨hw,by(try dsimp only);omega⟩
theorem Cn.fail {m:α→Nat} (e:Int):Cn c (jl e) m:=fun ts hw b r hp=>by cases hp
theorem Cn.then_ {p:Ps α} {f:α→Ps β} {m1:α→Nat} {m:β→Nat} (h:Cn c p m1) (hf:∀a,Cn (m1 a) (f a) m):Cn c (ak p f) m:=fun ts hw b r hp=>by
 rcases hq:p ts with d | ⟨a,r1⟩
 ·rw [aB hq]at hp;cases hp
 ·rw [aj hq]at hp;obtain⟨h1,h2⟩:=h ts hw a r1 hq;obtain⟨h3,h4⟩:=hf a r1 h1 b r hp;exact⟨h3,by(try dsimp only);omega⟩
theorem Cn.dJ (l:List Bt):Cn c (bR l) (fun o=>match o with | some _=>c+1 | none=>c):=fun ts hw a r hp=>by
 have h1:=(Sf.dJ l).good hw hp;refine⟨h1.1, ?_⟩;have hpos:=hw.pos;unfold bR at hp;split at hp
 ·injection hp with h2 h3;subst h2 h3;show c+ts.length≤ _
  (try dsimp only);omega
 ·injection hp with h2 h3;subst h2 h3;show c+1+(ts.drop 1).length≤ _;rw [List.length_drop];(try dsimp only);omega
theorem Cn.has (s:Bt):Cn c (dI s) (fun b=>if b then c+1 else c):=fun ts hw a r hp=>by
 have h1:=(Sf.has s).good hw hp;refine⟨h1.1, ?_⟩;have hpos:=hw.pos;unfold dI at hp;split at hp
 ·injection hp with h2 h3;subst h2 h3;show c+1+(ts.drop 1).length≤ _;rw [List.length_drop];(try dsimp only);omega
 ·injection hp with h2 h3;subst h2 h3;show c+ts.length≤ _
  (try dsimp only);omega
theorem Cn.want (s:Bt):Cn c (aI s) (fun _=>c+1):=Cn.then_ (Cn.has s) fun b=>by
 cases b
 ·exact Cn.fail _
 ·exact Cn.ret _ (Nat.le_refl _)
theorem Cn.kind {k:Int} (hk:k≠0):Cn c (dL k) (fun _=>c+1):=fun ts hw a r hp=>by
 have h1:=(Sf.kind k).good hw hp;refine⟨h1.1, ?_⟩;have hpos:=hw.pos;unfold dL at hp;split at hp
 ·injection hp with h2 h3;subst h2 h3;show c+1+(ts.drop 1).length≤ _;rw [List.length_drop];(try dsimp only);omega
 ·cases hp
theorem Cn.name:Cn c nameP (fun _=>c+1):=Cn.kind (by decide)
theorem Cn.tT (s:Bt):Cn c (aI s) (fun _=>c):=Cn.sf (Sf.want s) c
theorem Cn.KC:Cn c nameP (fun _=>c):=Cn.sf Sf.name c
theorem Cn.here:Cn c jK (fun _=>c):=Cn.sf Sf.here c
theorem Cn.seen (f:aF→List aF→Bool):Cn c (jW f) (fun _=>c):=Cn.sf (Sf.seen f) c
theorem Cn.fuel {p:List aF→Ps α} {m:α→Nat} (h:∀ts,Cn c (p ts) m):Cn c (fun ts=>p ts ts) m:=fun ts hw=>h ts ts hw
theorem Cn.zD {one:Ps α} {k:α→Nat} (h:∀c,Cn c one (fun a=>c+k a)):∀(f:Nat) (l:List α) (c:Nat),(l.map k).sum≤c→Cn c (oQ one f l) (fun l'=>(l'.map k).sum)
 | 0,l,c,hc=>Cn.ret l hc
 | f+1,l,c,hc=>Cn.then_ (Cn.has _) fun b=>by
  cases b
  ·exact Cn.ret l hc
  ·refine Cn.then_ (h _) fun a=>Cn.zD h f _ _ ?_;simp only [List.map_append,List.map_cons,List.map_nil,List.sum_append,List.sum_cons,List.sum_nil];show _≤c+1+k a
   (try dsimp only);omega
theorem Cn.sep {one:Ps α} {k:α→Nat} (h:∀c,Cn c one (fun a=>c+k a)) (c:Nat):Cn c (iD one) (fun l=>(l.map k).sum):=Cn.then_ (h c) fun a=>Cn.fuel (p:=fun ts=>oQ one ts.length [a]) fun ts=>Cn.zD h _ _ _ (by simp)
end
theorem qE:∀l:List cZ,fG l=(l.map l8).sum
 | []=>by simp [fG]
 | t :: l=>by simp [fG,qE l]
theorem u7:∀l:List bT,iW l=(l.map gI).sum
 | []=>by simp [iW]
 | t :: l=>by simp [iW,u7 l]
theorem vg (a b:List cZ):fG (a++b)=fG a+fG b:=by simp [qE]
theorem IK (a b:List bT):iW (a++b)=iW a+iW b:=by simp [u7]
theorem nZ (k:Int) (s:Bt) (ns:List Bt) (ks:List cZ):l8 (.mk k s ns ks)=1+fG ks:=by rw [l8]
theorem bS (k:Int) (s:Bt) (n:Int) (h:aF) (ts:List cZ) (ns:List Bt) (ks:List bT):gI (aJ k s n h ts ns ks)=1+fG ts+iW ks:=by unfold aJ;rw [gI]
theorem gF:fG []=0∧iW []=0:=⟨by rw [fG],by rw [iW]⟩
theorem yK (t:cZ):fG [t]=l8 t:=by rw [fG,gF.1];rfl
theorem vV (t:bT):iW [t]=gI t:=by rw [iW,gF.2];rfl
theorem Oj (a b:bT):iW [a,b]=gI a+gI b:=by rw [iW,vV]
theorem Tc (a b:cZ):fG [a,b]=l8 a+l8 b:=by rw [fG,yK]
section
variable {typ:Ps cZ} (ht:∀c,Cn c typ (fun t=>c+l8 t)) {expr unary:Ps bT} (he:∀c,Cn c expr (fun x=>c+gI x)) (hu:∀c,Cn c unary (fun x=>c+gI x))
include ht
theorem Cn.zF (c:Nat):Cn c (mF typ) (fun t=>c+l8 t):=by
 refine Cn.then_ (Cn.dJ _) fun b=> ?_;rcases b with _ | k
 ·refine Cn.then_ (Cn.dJ _) fun d=> ?_;rcases d with _ | _ | k
  ·exact Cn.then_ Cn.name fun s=>Cn.ret _ (by rw [nZ,gF.1];(try dsimp only);omega)
  ·exact Cn.then_ (ht _) fun t=>Cn.then_ (Cn.want _) fun _=>Cn.ret _ (by show c+l8 t≤ _;simp only;(try dsimp only);omega)
  ·refine Cn.then_ (Cn.has _) fun e=> ?_;cases e
   ·refine Cn.then_ (m1:=fun l=>c+1+(l.map fun x=>l8 x.2).sum) ?_ fun l=>Cn.then_ (Cn.want _) fun _=>Cn.ret _ ?_
    ·have:=Cn.sep (one:=lD typ) (k:=fun x=>l8 x.2) (fun c=>Cn.then_ Cn.name fun s=>Cn.then_ (Cn.want _) fun _=>Cn.then_ (ht _) fun t=>Cn.ret _ (by show c+l8 t≤ _;(try dsimp only);omega)) 0;exact this.mono fun a=>(by simp only [if_neg Bool.false_ne_true];(try dsimp only);omega)
    ·rw [nZ,qE,List.map_map];show c+(1+(l.map fun x=>l8 x.2).sum)≤ _
     (try dsimp only);omega
   ·exact Cn.ret _ (by rw [nZ,gF.1];simp only [if_true];(try dsimp only);omega)
 ·exact Cn.ret _ (by rw [nZ,gF.1];(try dsimp only);omega)
theorem Cn.alt:∀(f:Nat) (l:List cZ) (c c0:Nat),c0+fG l+(l.length - 1)≤c→1≤l.length→Cn c (mU typ f l) (fun l'=>c0+fG l'+(l'.length - 1))
 | 0,l,c,c0,hc, _=>Cn.ret l hc
 | f+1,l,c,c0,hc,hl=>Cn.then_ (Cn.has _) fun b=>by
  cases b
  ·exact Cn.ret l hc
  ·refine Cn.then_ (Cn.zF ht _) fun a=>Cn.alt f _ _ c0 ?_ (by simp);rw [vg,yK];simp only [List.length_append,List.length_singleton,if_true]
   (try dsimp only);omega
omit ht in
theorem IL (l:List cZ) (hl:1≤l.length):l8 (fU l)≤fG l+(l.length - 1):=by
 rcases l with _ | ⟨a, _ | ⟨b,l⟩⟩
 ·simp at hl
 ·show l8 a≤ _;rw [yK];(try dsimp only);omega
 ·show l8 (.mk 7 [] [] (a :: b :: l))≤ _;rw [nZ];simp only [List.length_cons];(try dsimp only);omega
omit ht in
theorem Gu (typ:Ps cZ):∀(f:Nat) (l:List cZ),1≤l.length→∀ts a r,mU typ f l ts= .good a r→1≤a.length
 | 0,l,h,ts,a,r,hp=>by injection hp with h1 _;subst h1;exact h
 | f+1,l,h,ts,a,r,hp=>by
  unfold mU at hp;rcases hq:dI [124] ts with d | ⟨b,r1⟩
  ·rw [aB hq]at hp;cases hp
  ·rw [aj hq]at hp;cases b
   ·injection hp with h1 _;subst h1;exact h
   ·simp only [if_true]at hp;rcases hq2:mF typ r1 with d | ⟨x,r2⟩
    ·rw [aB hq2]at hp;cases hp
    ·rw [aj hq2]at hp;exact Gu typ f _ (by simp) _ _ _ hp
theorem Cn.JV (c:Nat):Cn c (Es typ) (fun t=>c+l8 t):=Cn.then_ (Cn.zF ht c) fun a=>by
 intro ts hw t r hp;rcases hq:mU typ ts.length [a] ts with d | ⟨l,r1⟩
 ·rw [aB (p:=fun ts=>mU typ ts.length [a] ts) hq]at hp;cases hp
 ·rw [aj (p:=fun ts=>mU typ ts.length [a] ts) hq]at hp;have hl:=Gu typ _ _ (by simp) _ _ _ hq;obtain⟨h1,h2⟩:=Cn.alt ht ts.length [a] (c+l8 a) c (by rw [yK];simp) (by simp) ts hw l r1 hq;have hun:=IL l hl;have h3:Cn (c+l8 (fU l)) (ak (dI [45,62]) fun b=>if b then ak typ fun r=>aG (.mk 6 [] [] [fU l,r])else aG (fU l)) (fun t=>c+l8 t):=Cn.then_ (Cn.has _) fun b=>by
   cases b
   ·exact Cn.ret _ (Nat.le_refl _)
   ·exact Cn.then_ (ht _) fun r=>Cn.ret _ (by rw [nZ,Tc];simp only [if_true];(try dsimp only);omega)
  obtain⟨h4,h5⟩:=h3 r1 h1 t r hp;dsimp only at h2 h5 ⊢;exact⟨h4,by omega⟩
theorem Cn.note (l n:List cZ) (c:Nat):Cn (c+fG l+fG n) (gP typ l n) (fun m=>c+fG m):=Cn.then_ (Cn.has _) fun b=>by
 cases b
 ·exact Cn.ret _ (by rw [vg];simp only [if_neg Bool.false_ne_true];(try dsimp only);omega)
 ·exact Cn.then_ (ht _) fun r=>Cn.ret _ (by rw [vg,yK];simp only [if_true];(try dsimp only);omega)
theorem Cn.head (c:Nat):Cn c (jV typ []) (fun s=>c+fG s.2):=Cn.then_ (Cn.want _) fun _=>Cn.then_ Cn.name fun s=>Cn.then_ (m1:=fun l=>c+fG l) ((Cn.note ht [] [l7] c).mono fun a=>by
  have e:fG [l7]=1:=by rw [yK];unfold l7;rw [nZ,gF.1]
  rw [e,gF.1];(try dsimp only);omega) fun l=>Cn.then_ (Cn.want _) fun _=>Cn.then_ ((Cn.note ht l [] c).mono (m':=fun m=>c+fG m) fun a=>by rw [gF.1];(try dsimp only);omega) fun m=>Cn.ret _ (Nat.le_refl _)
omit ht
include he
theorem Cn.kids:∀(a:List Bt) (l:List bT) (c c0:Nat),c0+iW l≤c→Cn c (bG expr a l) (fun l'=>c0+iW l')
 | [],l,c,c0,hc=>Cn.ret l hc
 | s :: r,l,c,c0,hc=>Cn.then_ (m1:=fun _=>c) (by
   split
   ·exact Cn.ret () (Nat.le_refl _)
   ·exact Cn.tT s) fun _=>Cn.then_ (he _) fun x=>Cn.kids r _ _ c0 (by rw [IK,vV];(try dsimp only);omega)
omit he
theorem Cn.left {sub:Ps bT} (hs:∀c,Cn c sub (fun x=>c+gI x)) (ops:List Bt):∀(f:Nat) (a:bT) (c:Nat),Cn (c+gI a) (jv ops sub f a) (fun x=>c+gI x)
 | 0,a,c=>Cn.ret a (Nat.le_refl _)
 | f+1,a,c=>Cn.then_ Cn.here fun h=>Cn.then_ (Cn.dJ _) fun i=>by
  rcases i with _ | i
  ·exact Cn.ret a (Nat.le_refl _)
  ·refine Cn.then_ (hs _) fun b=>(Cn.left hs ops f (aJ 14 (ops.getD i []) 0 h [] [] [a,b]) c).mono fun x=> ?_;rw [bS,Oj,gF.1];show c+gI x+ _≤c+gI x+(c+gI a+1+gI b)
   (try dsimp only);omega
theorem Cn.Ch {sub:Ps bT} (hs:∀c,Cn c sub (fun x=>c+gI x)) (ops:List Bt) (c:Nat):Cn c (xX ops sub) (fun x=>c+gI x):=Cn.then_ (hs c) fun a=>Cn.fuel (p:=fun ts=>jv ops sub ts.length a) fun ts=>Cn.left hs _ _ _ c
include ht
theorem Cn.cmp {sub:Ps bT} (hs:∀c,Cn c sub (fun x=>c+gI x)) (c:Nat):Cn c (Et typ sub) (fun x=>c+gI x):=Cn.then_ (hs c) fun a=>Cn.then_ Cn.here fun h=>Cn.then_ (Cn.dJ _) fun i=>by
 rcases i with _ | i
 ·exact Cn.ret a (Nat.le_refl _)
 ·simp only;split
  ·refine Cn.then_ (Cn.sf (Sf.dJ _) _) fun t=> ?_;rcases t with _ | t
   ·exact Cn.fail _
   ·exact Cn.ret _ (by rw [bS,vV,gF.1];(try dsimp only);omega)
  ·split
   ·exact Cn.then_ (ht _) fun t=>Cn.ret _ (by rw [bS,vV,yK];(try dsimp only);omega)
   ·exact Cn.then_ (hs _) fun b=>Cn.ret _ (by rw [bS,Oj,gF.1];(try dsimp only);omega)
include hu
theorem Cn.rank:∀(f c:Nat),Cn c (iH typ unary f) (fun x=>c+gI x)
 | 0,c=>hu c
 | f+1,c=>by
  unfold iH;split
  ·exact Cn.cmp ht (Cn.rank f) c
  ·exact Cn.Ch (Cn.rank f) _ c
include he
theorem Cn.x9 (c:Nat):Cn c (vQ typ expr unary) (fun x=>c+gI x):=Cn.then_ Cn.here fun h=>Cn.then_ (Cn.dJ _) fun i=>by
 rcases i with _ | _ | _ | i
 ·exact Cn.rank ht hu 6 c
 ·refine Cn.then_ Cn.name fun s=>Cn.then_ (m1:=fun l=>c+1+fG l) ((Cn.note ht [] [] (c+1)).mono fun a=>by rw [gF.1];simp only;(try dsimp only);omega) fun t=>Cn.then_ (Cn.kids he _ [] _ (c+1+fG t) (by rw [gF.2];(try dsimp only);omega)) fun k=>Cn.ret _ (by rw [bS];(try dsimp only);omega)
 ·refine Cn.then_ (Cn.kids he _ [] _ (c+1) (by rw [gF.2];simp only;(try dsimp only);omega)) fun k=>Cn.ret _ (by rw [bS,gF.1];(try dsimp only);omega)
 ·refine Cn.then_ (Cn.head ht _) fun s=>Cn.then_ (Cn.kids he _ [] _ (c+1+fG s.2) (by rw [gF.2];simp only;(try dsimp only);omega)) fun k=>Cn.ret _ (by rw [bS];(try dsimp only);omega)
omit hu ht
theorem Cn.ru (c:Nat):Cn c (iM expr) (fun a=>c+gI a.2):=Cn.then_ Cn.name fun s=>Cn.then_ (Cn.want _) fun _=>Cn.then_ (he _) fun x=>Cn.ret _ (by show c+gI x≤ _;(try dsimp only);omega)
theorem Cn.Ib (h:aF) (c:Nat):Cn (c+1) (sP expr h) (fun x=>c+gI x):=Cn.then_ (Cn.seen _) fun e=>by
 cases e
 ·rw [if_neg Bool.false_ne_true];refine Cn.then_ (Cn.seen _) fun d=> ?_;cases d
  ·exact Cn.then_ (Cn.kids he _ [] _ (c+1) (by rw [gF.2];(try dsimp only);omega)) fun k=>Cn.then_ (m1:=fun _=>c+1+iW k) (Cn.tT _) fun _=>Cn.then_ (m1:=fun _=>c+1+iW k) Cn.KC fun s=>Cn.then_ (Cn.kids he _ k _ (c+1) (by(try dsimp only);omega)) fun m=>Cn.ret _ (by rw [bS,gF.1];(try dsimp only);omega)
  ·refine Cn.then_ (m1:=fun l=>c+1+(l.map fun x=>gI x.2).sum) ?_ fun l=>Cn.ret _ ?_
   ·exact(Cn.sep (Cn.ru he) 0).mono fun a=>by(try dsimp only);omega
   ·rw [bS,gF.1,u7,List.map_map];show c+(1+0+(l.map fun x=>gI x.2).sum)≤ _
    (try dsimp only);omega
 ·exact Cn.ret _ (by rw [bS,gF.1,gF.2];(try dsimp only);omega)
include ht
omit he
theorem Cn.named (h:aF) (c:Nat):Cn c (kJ typ h) (fun x=>c+gI x):=Cn.then_ Cn.name fun s=>Cn.then_ (Cn.has _) fun b=>by
 cases b
 ·exact Cn.ret _ (by rw [bS,gF.1,gF.2];simp only [if_neg Bool.false_ne_true];(try dsimp only);omega)
 ·refine Cn.then_ (m1:=fun l=>c+1+fG l) ?_ fun l=>Cn.then_ (m1:=fun _=>c+1+fG l) (Cn.tT _) fun _=>Cn.ret _ (by rw [bS,gF.2];(try dsimp only);omega);exact(Cn.sep ht 0).mono fun l=>by rw [qE];simp only [if_true];(try dsimp only);omega
include he
theorem Cn.atom (c:Nat):Cn c (oV typ expr) (fun x=>c+gI x):=Cn.then_ Cn.here fun h=>by
 split
 ·exact Cn.then_ (Cn.kind (by decide)) fun s=>Cn.ret _ (by rw [bS,gF.1,gF.2];(try dsimp only);omega)
 ·split
  ·exact Cn.then_ (Cn.kind (by decide)) fun s=>Cn.ret _ (by rw [bS,gF.1,gF.2];(try dsimp only);omega)
  ·refine Cn.then_ (Cn.dJ _) fun i=> ?_;rcases i with _ | _ | _ | _ | _ | _ | _ | i
   ·exact Cn.named ht h c
   ·exact Cn.ret _ (by rw [bS,gF.1,gF.2];simp only;(try dsimp only);omega)
   ·exact Cn.ret _ (by rw [bS,gF.1,gF.2];simp only;(try dsimp only);omega)
   ·exact Cn.ret _ (by rw [bS,gF.1,gF.2];simp only;(try dsimp only);omega)
   ·exact Cn.then_ (Cn.sf (Sf.wants _) _) fun _=>Cn.ret _ (by rw [bS,gF.1,gF.2];simp only;(try dsimp only);omega)
   ·exact Cn.then_ (Cn.kids he _ [] _ (c+1) (by rw [gF.2];simp only;(try dsimp only);omega)) fun k=>Cn.then_ (m1:=fun _=>c+1+iW k) (Cn.tT _) fun _=>Cn.ret _ (by rw [bS,gF.1];(try dsimp only);omega)
   ·exact Cn.then_ (he _) fun k=>Cn.then_ (m1:=fun _=>c+1+gI k) (Cn.tT _) fun _=>Cn.ret _ (by show c+gI k≤c+1+gI k;omega)
   ·exact Cn.then_ (Cn.Ib he h c) fun k=>Cn.then_ (m1:=fun _=>c+gI k) (Cn.tT _) fun _=>Cn.ret _ (Nat.le_refl _)
omit ht
theorem Cn.ni:∀(f:Nat) (a:bT) (c:Nat),Cn (c+gI a) (gZ expr f a) (fun x=>c+gI x)
 | 0,a,c=>Cn.ret a (Nat.le_refl _)
 | f+1,a,c=>Cn.then_ Cn.here fun h=>Cn.then_ (Cn.dJ _) fun i=>by
  rcases i with _ | _ | i
  ·exact Cn.ret a (Nat.le_refl _)
  ·refine Cn.then_ (Cn.kids he _ [a] _ (c+1) (by rw [vV];simp only;(try dsimp only);omega)) fun k=>Cn.then_ (m1:=fun _=>c+1+iW k) (Cn.tT _) fun _=>(Cn.ni f (aJ 7 [] 0 h [] [] k) c).mono fun x=> ?_;rw [bS,gF.1];(try dsimp only);omega
  ·refine Cn.then_ (m1:=fun _=>c+gI a+1) Cn.KC fun k=>(Cn.ni f (aJ 9 k 0 h [] [] [a]) c).mono fun x=> ?_;rw [bS,gF.1,vV];(try dsimp only);omega
include ht
theorem Cn.post (c:Nat):Cn c (oW typ expr) (fun x=>c+gI x):=Cn.then_ (Cn.atom ht he c) fun a=>Cn.fuel (p:=fun ts=>gZ expr ts.length a) fun ts=>Cn.ni he _ _ c
include hu
theorem Cn.rA (c:Nat):Cn c (oZ typ expr unary) (fun x=>c+gI x):=Cn.then_ Cn.here fun h=>Cn.then_ (Cn.dJ _) fun i=>by
 rcases i with _ | _ | i
 ·exact Cn.post ht he c
 ·exact Cn.then_ (hu _) fun x=>Cn.ret _ (by rw [bS,gF.1,vV];simp only;(try dsimp only);omega)
 ·exact Cn.then_ (hu _) fun x=>Cn.ret _ (by rw [bS,gF.1,vV];simp only;(try dsimp only);omega)
end
theorem Cn.zG:∀n:Nat,(∀c,Cn c (dU n).typ (fun t=>c+l8 t))∧(∀c,Cn c (dU n).expr (fun x=>c+gI x))∧∀c,Cn c (dU n).unary (fun x=>c+gI x)
 | 0=>⟨fun c=>Cn.fail 6,fun c=>Cn.fail 6,fun c=>Cn.fail 6⟩
 | n+1=>by
  obtain⟨h1,h2,h3⟩:=Cn.zG n;exact⟨Cn.JV h1,Cn.x9 h1 h2 h3,Cn.rA h1 h2 h3⟩
def Ol:bT→Int | .mk _ _ _ l _ _ _ _=>l
def Ln {α:Type} (M:Nat) (G:α→Prop) (p:Ps α):Prop:=∀ts,Wf ts→(∀t∈ts,t.line≤M)→∀a r,p ts= .good a r→G a
def Gv (M:Nat) (x:bT):Prop:=0≤Ol x∧Ol x≤M
section
variable {α β:Type} {M:Nat}
theorem Ln.any (p:Ps α):Ln M (fun _=>True) p:=fun _ _ _ _ _ _=>trivial
theorem Ln.ret {G:α→Prop} {a:α} (h:G a):Ln M G (aG a):=fun ts _ _ b r hp=>by
 injection hp with h1 _;subst h1;exact h
theorem Ln.fail {G:α→Prop} (e:Int):Ln M G (jl e):=fun ts _ _ b r hp=>by cases hp
theorem Ln.then_ {p:Ps α} {f:α→Ps β} {G1:α→Prop} {G:β→Prop} (hs:Sf p) (h:Ln M G1 p) (hf:∀a,G1 a→Ln M G (f a)):Ln M G (ak p f):=fun ts hw hl b r hp=>by
 rcases hq:p ts with d | ⟨a,r1⟩
 ·rw [aB hq]at hp;cases hp
 ·rw [aj hq]at hp;obtain⟨h1,h2⟩:=hs.good hw hq;exact hf a (h ts hw hl a r1 hq) r1 h1 (fun t ht=>hl t (h2.subset ht)) b r hp
theorem Ln.skip {p:Ps α} {f:α→Ps β} {G:β→Prop} (hs:Sf p) (hf:∀a,Ln M G (f a)):Ln M G (ak p f):=Ln.then_ hs (Ln.any p) fun a _=>hf a
theorem Ln.here {f:aF→Ps β} {G:β→Prop} (hf:∀h:aF,h.line≤M→Ln M G (f h)):Ln M G (ak jK f):=Ln.then_ (G1:=fun h=>h.line≤M) Sf.here (fun ts hw hl a r hp=>by
 injection hp with h1 _;subst h1;exact hl _ hw.pq) hf
theorem Ln.fuel {p:List aF→Ps α} {G:α→Prop} (h:∀ts,Ln M G (p ts)):Ln M G (fun ts=>p ts ts):=fun ts=>h ts ts
theorem dQ {k:Int} {s:Bt} {n:Int} {h:aF} {ts:List cZ} {ns:List Bt} {ks:List bT} (hl:h.line≤M):Gv M (aJ k s n h ts ns ks):=⟨by show(0:Int)≤(h.line:Int);omega,by show(h.line:Int)≤(M:Int);omega⟩
end
section
variable {M:Nat} {typ:Ps cZ} (ht:Sf typ) {expr unary:Ps bT} (se:Sf expr) (su:Sf unary) (he:Ln M (Gv M) expr) (hu:Ln M (Gv M) unary)
theorem Ln.left {sub:Ps bT} (hs:Sf sub) (ops:List Bt):∀(f:Nat) (a:bT),Gv M a→Ln M (Gv M) (jv ops sub f a)
 | 0,a,h=>Ln.ret h
 | f+1,a,h=>Ln.here fun t hl=>Ln.skip (Sf.dJ _) fun i=>by
  rcases i with _ | i
  ·exact Ln.ret h
  ·exact Ln.skip hs fun b=>Ln.left hs ops f _ (dQ hl)
include ht su hu
theorem Ln.rank:∀f:Nat,Ln M (Gv M) (iH typ unary f)
 | 0=>hu
 | f+1=>by
  unfold iH;split
  ·refine Ln.then_ (Sf.rank ht su f) (Ln.rank f) fun a ha=>Ln.here fun h hl=>Ln.skip (Sf.dJ _) fun i=> ?_;rcases i with _ | i
   ·exact Ln.ret ha
   ·simp only;split
    ·refine Ln.skip (Sf.dJ _) fun t=> ?_;rcases t with _ | t
     ·exact Ln.fail _
     ·exact Ln.ret (dQ hl)
    ·split
     ·exact Ln.skip ht fun t=>Ln.ret (dQ hl)
     ·exact Ln.skip (Sf.rank ht su f) fun b=>Ln.ret (dQ hl)
  ·exact Ln.then_ (Sf.rank ht su f) (Ln.rank f) fun a ha=>Ln.fuel (p:=fun ts=>jv _ _ ts.length a) fun ts=>Ln.left (Sf.rank ht su f) _ _ _ ha
include se
theorem Ln.x9:Ln M (Gv M) (vQ typ expr unary):=Ln.here fun h hl=>Ln.skip (Sf.dJ _) fun i=>by
 rcases i with _ | _ | _ | i
 ·exact Ln.rank ht su hu 6
 ·exact Ln.skip Sf.name fun s=>Ln.skip (Sf.note ht _ _) fun t=>Ln.skip (Sf.kids se _ _) fun k=>Ln.ret (dQ hl)
 ·exact Ln.skip (Sf.kids se _ _) fun k=>Ln.ret (dQ hl)
 ·exact Ln.skip (Sf.head ht _) fun s=>Ln.skip (Sf.kids se _ _) fun k=>Ln.ret (dQ hl)
omit su hu
include he
theorem Ln.atom:Ln M (Gv M) (oV typ expr):=Ln.here fun h hl=>by
 split
 ·exact Ln.skip (Sf.kind 3) fun s=>Ln.ret (dQ hl)
 ·split
  ·exact Ln.skip (Sf.kind 4) fun s=>Ln.ret (dQ hl)
  ·refine Ln.skip (Sf.dJ _) fun i=> ?_;rcases i with _ | _ | _ | _ | _ | _ | _ | i
   ·refine Ln.skip Sf.name fun s=>Ln.skip (Sf.has _) fun b=> ?_;cases b
    ·exact Ln.ret (dQ hl)
    ·exact Ln.skip (Sf.sep ht) fun l=>Ln.skip (Sf.want _) fun _=>Ln.ret (dQ hl)
   ·exact Ln.ret (dQ hl)
   ·exact Ln.ret (dQ hl)
   ·exact Ln.ret (dQ hl)
   ·exact Ln.skip (Sf.wants _) fun _=>Ln.ret (dQ hl)
   ·exact Ln.skip (Sf.kids se _ _) fun k=>Ln.skip (Sf.want _) fun _=>Ln.ret (dQ hl)
   ·exact Ln.then_ se he fun k hk=>Ln.skip (Sf.want _) fun _=>Ln.ret hk
   ·refine Ln.then_ (G1:=Gv M) (Sf.Ib se h) ?_ fun k hk=>Ln.skip (Sf.want _) fun _=>Ln.ret hk;refine Ln.skip (Sf.seen _) fun e=> ?_;cases e
    ·rw [if_neg Bool.false_ne_true];refine Ln.skip (Sf.seen _) fun c=> ?_;cases c
     ·exact Ln.skip (Sf.kids se _ _) fun k=>Ln.skip (Sf.want _) fun _=>Ln.skip Sf.name fun s=>Ln.skip (Sf.kids se _ _) fun m=>Ln.ret (dQ hl)
     ·exact Ln.skip (Sf.sep (Sf.ru se)) fun l=>Ln.ret (dQ hl)
    ·exact Ln.ret (dQ hl)
omit ht he in
theorem Ln.ni:∀(f:Nat) (a:bT),Gv M a→Ln M (Gv M) (gZ expr f a)
 | 0,a,h=>Ln.ret h
 | f+1,a,h=>Ln.here fun t hl=>Ln.skip (Sf.dJ _) fun i=>by
  rcases i with _ | _ | i
  ·exact Ln.ret h
  ·exact Ln.skip (Sf.kids se _ _) fun k=>Ln.skip (Sf.want _) fun _=>Ln.ni f _ (dQ hl)
  ·exact Ln.skip Sf.name fun k=>Ln.ni f _ (dQ hl)
include su
theorem Ln.rA:Ln M (Gv M) (oZ typ expr unary):=Ln.here fun h hl=>Ln.skip (Sf.dJ _) fun i=>by
 rcases i with _ | _ | i
 ·exact Ln.then_ (Sf.atom ht se) (Ln.atom ht se he) fun a ha=>Ln.fuel (p:=fun ts=>gZ expr ts.length a) fun ts=>Ln.ni se _ _ ha
 ·exact Ln.skip su fun x=>Ln.ret (dQ hl)
 ·exact Ln.skip su fun x=>Ln.ret (dQ hl)
end
theorem Ln.zG (M:Nat):∀n:Nat,Ln M (Gv M) (dU n).expr∧Ln M (Gv M) (dU n).unary
 | 0=>⟨Ln.fail 6,Ln.fail 6⟩
 | n+1=>by
  obtain⟨h2,h3⟩:=Ln.zG M n;obtain⟨s1,s2,s3⟩:=Sf.zG n;exact⟨Ln.x9 s1 s2 s3 h3,Ln.rA s1 s2 s3 h2⟩
def Gd {α:Type} (M:Nat) (G:α→Prop) (p:Ps α):Prop:=∀ts,Wf ts→(∀t∈ts,t.text.length≤M)→∀a r,p ts= .good a r→G a
section
variable {α β:Type} {M:Nat}
theorem Gd.ret {G:α→Prop} {a:α} (h:G a):Gd M G (aG a):=fun ts _ _ b r hp=>by
 injection hp with h1 _;subst h1;exact h
theorem Gd.then_ {p:Ps α} {f:α→Ps β} {G1:α→Prop} {G:β→Prop} (hs:Sf p) (h:Gd M G1 p) (hf:∀a,G1 a→Gd M G (f a)):Gd M G (ak p f):=fun ts hw hl b r hp=>by
 rcases hq:p ts with d | ⟨a,r1⟩
 ·rw [aB hq]at hp;cases hp
 ·rw [aj hq]at hp;obtain⟨h1,h2⟩:=hs.good hw hq;exact hf a (h ts hw hl a r1 hq) r1 h1 (fun t ht=>hl t (h2.subset ht)) b r hp
theorem Gd.skip {p:Ps α} {f:α→Ps β} {G:β→Prop} (hs:Sf p) (hf:∀a,Gd M G (f a)):Gd M G (ak p f):=Gd.then_ (G1:=fun _=>True) hs (fun _ _ _ _ _ _=>trivial) fun a _=>hf a
theorem Gd.name:Gd M (fun s:Bt=>s.length≤M) nameP:=fun ts hw hl a r hp=>by
 unfold nameP dL at hp;split at hp
 ·injection hp with h1 _;subst h1;exact hl _ hw.pq
 ·cases hp
theorem Gd.fuel {p:List aF→Ps α} {G:α→Prop} (h:∀ts,Gd M G (p ts)):Gd M G (fun ts=>p ts ts):=fun ts=>h ts ts
theorem Gd.zD {one:Ps α} {G:α→Prop} (hs:Sf one) (h:Gd M G one):∀(f:Nat) (l:List α),(∀a∈l,G a)→Gd M (fun l=>∀a∈l,G a) (oQ one f l)
 | 0,l,hl=>Gd.ret hl
 | f+1,l,hl=>Gd.skip (Sf.has _) fun b=>by
  cases b
  ·exact Gd.ret hl
  ·refine Gd.then_ hs h fun a ha=>Gd.zD hs h f _ fun x hx=> ?_;rcases List.mem_append.1 hx with hx | hx
   ·exact hl x hx
   ·obtain rfl:x=a:=by simpa using hx
    exact ha
theorem Gd.sep {one:Ps α} {G:α→Prop} (hs:Sf one) (h:Gd M G one):Gd M (fun l=>∀a∈l,G a) (iD one):=Gd.then_ hs h fun a ha=>Gd.fuel (p:=fun ts=>oQ one ts.length [a]) fun ts=>Gd.zD hs h _ _ (by simpa using ha)
end
def C8 (M:Nat) (i:kG):Prop:=i.from_.length≤M∧∀n∈i.names,n.length≤M
theorem Gd.imp {M:Nat} (h:aF):Gd M (C8 M) (jw h):=Gd.then_ Sf.name Gd.name fun s hs=>Gd.skip (Sf.want _) fun _=>Gd.then_ (Sf.sep Sf.name) (Gd.sep Sf.name Gd.name) fun l hl=>Gd.skip (Sf.want _) fun _=>Gd.ret ⟨hs,hl⟩
theorem Gd.imps {M:Nat}:∀(f:Nat) (l:List kG),(∀i∈l,C8 M i)→Gd M (fun l=>∀i∈l,C8 M i) (jy f l)
 | 0,l,hl=>Gd.ret hl
 | f+1,l,hl=>Gd.skip Sf.here fun h=>Gd.skip (Sf.has _) fun b=>by
  cases b
  ·exact Gd.ret hl
  ·refine Gd.then_ (Sf.import_ h) (Gd.imp h) fun i hi=>Gd.imps f _ fun x hx=> ?_;rcases List.mem_append.1 hx with hx | hx
   ·exact hl x hx
   ·obtain rfl:x=i:=by simpa using hx
    exact hi
theorem Gd.decl {M:Nat}:Gd M (fun d:jJ=>d.name.length≤M) mG:=Gd.skip (Sf.has _) fun e=>Gd.skip Sf.here fun h=>Gd.skip (Sf.want _) fun _=>Gd.then_ Sf.name Gd.name fun s hs=>Gd.skip Sf.vars fun v=>
 Gd.skip (Sf.head (Sf.zG 100).1 _) fun p=>Gd.skip (Sf.want _) fun _=>Gd.skip (Sf.zG 100).2.1 fun b=>Gd.skip (Sf.want _) fun _=>Gd.ret hs
theorem Gd.decls {M:Nat}:∀(f:Nat) (l:List jJ),(∀d∈l,d.name.length≤M)→Gd M (fun l:List jJ=>∀d∈l,d.name.length≤M) (dV f l)
 | 0,l,hl=>Gd.ret hl
 | f+1,l,hl=>Gd.skip (Sf.seen _) fun b=>by
  cases b
  ·refine Gd.then_ Sf.decl Gd.decl fun d hd=>Gd.decls f _ fun x hx=> ?_;rcases List.mem_append.1 hx with hx | hx
   ·exact hl x hx
   ·obtain rfl:x=d:=by simpa using hx
    exact hd
  ·exact Gd.ret hl
def og (M:Nat) (m:eH):Prop:=(∀i∈m.imps,C8 M i)∧∀d∈m.decls,d.name.length≤M
theorem Gd.module {M:Nat}:Gd M (og M) bC:=Gd.then_ (Sf.fuel (p:=fun ts=>jy ts.length []) fun ts=>Sf.imps _ _) (Gd.fuel (p:=fun ts=>jy ts.length []) fun ts=>Gd.imps _ _ (by simp)) fun i hi=>
 Gd.then_ (Sf.fuel (p:=fun ts=>dV ts.length []) fun ts=>Sf.decls _ _) (Gd.fuel (p:=fun ts=>dV ts.length []) fun ts=>Gd.decls _ _ (by simp)) fun d hd=>Gd.ret ⟨hi,hd⟩
def kM (i:kG):Nat:=i.names.length+1
def tZ (m:eH):Nat:=(m.imps.map kM).sum+m.decls.length
theorem Cn.imp {c:Nat} (h:aF):Cn c (jw h) (fun i=>c+i.names.length):=Cn.then_ (m1:=fun _=>c) Cn.KC fun s=>Cn.then_ (m1:=fun _=>c) (Cn.tT _) fun _=>Cn.then_ (m1:=fun l=>c+l.length) (by
 have:=Cn.sep (one:=nameP) (k:=fun _=>1) (fun c=>Cn.name) 0;refine this.mono fun l=> ?_;have e:(l.map fun _=>1).sum=l.length:=by induction l with | nil=>rfl | cons x l ih=>simp [ih];omega
 rw [e];omega) fun l=>Cn.then_ (Cn.tT _) fun _=>Cn.ret _ (Nat.le_refl _)
theorem Cn.imps:∀(f:Nat) (l:List kG) (c:Nat),(l.map kM).sum≤c→Cn c (jy f l) (fun l=>(l.map kM).sum)
 | 0,l,c,hc=>Cn.ret l hc
 | f+1,l,c,hc=>Cn.then_ Cn.here fun h=>Cn.then_ (Cn.has _) fun b=>by
  cases b
  ·exact Cn.ret l hc
  ·refine Cn.then_ (Cn.imp h) fun i=>Cn.imps f _ _ ?_;simp only [List.map_append,List.map_cons,List.map_nil,List.sum_append,List.sum_cons,List.sum_nil,if_true];unfold kM at hc ⊢;omega
theorem Cn.decl {c:Nat}:Cn c mG (fun _=>c+1):=Cn.then_ (m1:=fun _=>c) (Cn.sf (Sf.has _) c) fun e=>Cn.then_ Cn.here fun h=>Cn.then_ (Cn.want _) fun _=>Cn.sf (Sf.then_ Sf.name fun s=>Sf.then_ Sf.vars fun v=>
 Sf.then_ (Sf.head (Sf.zG 100).1 _) fun p=>Sf.then_ (Sf.want _) fun _=>Sf.then_ (Sf.zG 100).2.1 fun b=>Sf.then_ (Sf.want _) fun _=>Sf.ret _) _
theorem Cn.decls:∀(f:Nat) (l:List jJ) (c c0:Nat),c0+l.length≤c→Cn c (dV f l) (fun l=>c0+l.length)
 | 0,l,c,c0,hc=>Cn.ret l hc
 | f+1,l,c,c0,hc=>Cn.then_ (Cn.seen _) fun b=>by
  cases b
  ·exact Cn.then_ Cn.decl fun d=>Cn.decls f _ _ c0 (by rw [List.length_append,List.length_singleton];omega)
  ·exact Cn.ret l hc
theorem Cn.module:Cn 0 bC tZ:=Cn.then_ (Cn.fuel (p:=fun ts=>jy ts.length []) fun ts=>Cn.imps _ _ _ (by simp)) fun i=>Cn.then_ (Cn.fuel (p:=fun ts=>dV ts.length []) fun ts=>Cn.decls _ _ _ ((i.map kM).sum) (by simp)) fun d=>Cn.ret _ (Nat.le_refl _)
theorem Bu {s:Bt} {M:Nat} (hT:(dS s).2.2.2=0→(dS s).1.length≤M∧∀t∈(dS s).1,t.text.length≤M):tZ (aO s)≤M∧og M (aO s):=by
 unfold aO;cases h:(cK bC s).1 with
 | none=>exact⟨Nat.zero_le _,by simp [og,iI]⟩
 | some m=>
  obtain⟨_,a,e,h1,h2,h3,h4,h5⟩:=pW Sf.module h;obtain⟨t1,t2⟩:=hT (by rw [h1]);rw [h1]at t1 t2;obtain⟨_, _, _, _, _, _,hwf⟩:=tQ h1;have h6:=(Cn.module (a++[e]) hwf m [e] h5).2;rw [List.length_singleton]at h6;have t1:(a++[e]).length≤M:=t1;exact⟨by show tZ m≤M;omega,Gd.module (M:=M) (a++[e]) hwf t2 m [e] h5⟩
theorem KD {mods:List eH} {i f:Nat} {x:kG} {st:wI} {n:Bt} (h:kL (mods.getD f iI) n=none):name1 mods i f x st n=(st.1,st.2++[⟨i,x.line,x.col,12⟩]):=by unfold name1;rw [h]
theorem IQ {mods:List eH} {i f k:Nat} {x:kG} {st:wI} {n:Bt} {d:jJ} (h:kL (mods.getD f iI) n=some k) (hd:(mods.getD f iI).decls[k]? =some d) (he:d.exp=false):name1 mods i f x st n=(st.1,st.2++[⟨i,x.line,x.col,12⟩]):=by
 unfold name1;rw [h];simp only [hd,Option.map_some,Option.getD_some,he,if_true]
theorem IU {mods:List eH} {i f k:Nat} {x:kG} {st:wI} {n:Bt} {d:jJ} (h:kL (mods.getD f iI) n=some k) (hd:(mods.getD f iI).decls[k]? =some d) (he:d.exp=true) (hf:lH n st.1=true):name1 mods i f x st n=(st.1,st.2++[⟨i,x.line,x.col,8⟩]):=by
 unfold name1;rw [h];simp only [hd,Option.map_some,Option.getD_some,he,Bool.true_eq_false,if_false,hf,if_true]
theorem IV {mods:List eH} {i f k:Nat} {x:kG} {st:wI} {n:Bt} {d:jJ} (h:kL (mods.getD f iI) n=some k) (hd:(mods.getD f iI).decls[k]? =some d) (he:d.exp=true) (hf:lH n st.1=false):name1 mods i f x st n=(st.1++[⟨n,f,k⟩],st.2):=by
 unfold name1;rw [h];simp only [hd,Option.map_some,Option.getD_some,he,Bool.true_eq_false,if_false,hf,Bool.false_eq_true]
theorem IW (mods:List eH) (i f:Nat) (x:kG) (st:wI) (n:Bt):(name1 mods i f x st n).1.length≤st.1.length+1∧(name1 mods i f x st n).2.length≤st.2.length+1:=by
 unfold name1;split
 ·simp
 ·split
  ·simp
  ·split <;> simp
theorem vo (mods:List eH) (i f:Nat) (x:kG):∀(l:List Bt) (st:wI),(l.foldl (name1 mods i f x) st).1.length≤st.1.length+l.length∧(l.foldl (name1 mods i f x) st).2.length≤st.2.length+l.length
 | [],st=>⟨Nat.le_refl _,Nat.le_refl _⟩
 | n :: l,st=>by
  have h1:=IW mods i f x st n;have h2:=vo mods i f x l (name1 mods i f x st n);rw [List.foldl_cons,List.length_cons];exact⟨by omega,by omega⟩
theorem C9 {m:eH} {s:Bt} {k:Nat} (h:kL m s=some k):k<m.decls.length:=(List.findIdx?_eq_some_iff_getElem.1 h).1
theorem Td {w:World} {B:Nat} {A:Option Addr} {n c:Nat} {l:List Bt} (h:Ss w B (.slice A n c) l) {k:Nat} (hk:k<l.length):∃b o,A=some ⟨b,o,none⟩∧b<B∧w.cell? ⟨b,o+k,none⟩=some (sv l[k]):=by
 obtain⟨A',c',hv, _, _,hx⟩:=h.open_;injection hv with h1 h2 h3;subst h1;obtain⟨b,o,hA,hb,hc⟩:=hx (by omega);exact⟨b,o,hA,hb,hc k hk⟩
theorem nH {w:World} {B lb mb:Nat} {vN vM:Value} {names:List Bt} {mods:List eH} (h:nG w B lb mb vN vM names mods):∃A c,vM= .slice A mods.length c∧mods.length≤c∧c≤2 ^ 63 - 1:=by
 obtain⟨_, _, _, _, _,xm,h6,h7⟩:=h;obtain⟨A,c,rfl⟩:=bP h6.all (by omega) (m:=mods.length) h7.len;exact⟨A,c,rfl,(cB h6.all).2⟩
theorem uf {w:World} {B lb mb:Nat} {vN:Value} {A:Option Addr} {n c:Nat} {names:List Bt} {mods:List eH} (h:nG w B lb mb vN (.slice A n c) names mods) {f:Nat} (hf:f<mods.length) (hn:n=mods.length):
  ∃b o A1 c1 A2 c2,A=some ⟨b,o,none⟩∧b<w.heap.size∧w.cell? ⟨b,o+f*2,none⟩=some (.slice A1 mods[f].imps.length c1)∧w.cell? ⟨b,o+f*2+1,none⟩=some (.slice A2 mods[f].decls.length c2)∧sO w (wK B lb) [.slice A1 mods[f].imps.length c1, .slice A2 mods[f].decls.length c2] mods[f]:=by
 obtain⟨_, _, _, _, _,xm,h6,h7⟩:=h;obtain⟨b,o,z,hA,hb,hz,hc⟩:=Ep h6.all h7 (by omega) hf hn;obtain⟨A1,c1,A2,c2, _, _,rfl, _⟩:=hz.all.parts;exact⟨b,o,A1,c1,A2,c2,hA,hb,by simpa using hc 0 _ rfl,hc 1 _ rfl,hz⟩
section
variable {B lb mb sb hb:Nat} {vN vM vS a b c:Value} {names:List Bt} {mods:List eH} {w2 w w':World} {sw:Value} {st:wI}
theorem S2.fix (h:S2 B lb mb sb hb vN vM vS a b c names mods w2 sw w st):nG w B lb mb vN vM names mods:=by
 obtain⟨vE,vB, _, _, _, _, _,h6, _⟩:=h;exact h6
theorem S2.blk (h:S2 B lb mb sb hb vN vM vS a b c names mods w2 sw w st):∃vB,mM w lb vN vM vS a b c (.map (some mb)) vB:=by
 obtain⟨vE,vB,h1, _⟩:=h;exact⟨vB,h1⟩
end
theorem KE {B lb mb sb hb:Nat} {vN vM vS a b c:Value} {names:List Bt} {mods:List eH} {w2:World} {sw:Value} (hC:C2 B lb sb hb w2 sw) (w:World) (st:wI) (h:S2 B lb mb sb hb vN vM vS a b c names mods w2 sw w st) (i:Nat) (x:kG) (vn:Value)
  (hn:dx w (wK B lb) 1 vn (mZ x.names)) (hnm:C8 100000 x) (hl:names.length=mods.length) (h16:mods.length≤16) (hlen1:st.1.length+x.names.length≤1000000000) (Te:st.2.length+x.names.length≤1000000000):
  Calls Tryz.prog 64 #[.pointer (some ⟨lb,0,none⟩), .int .i64 i, .agg #[sv x.from_,vn, .int .i64 x.line, .int .i64 x.col], .pointer (some ⟨sb,0,none⟩)] w fun e w'=>e= .returned (.tuple #[])∧S2 B lb mb sb hb vN vM vS a b c names mods w2 sw w' (fP names mods i st x)∧cO B lb w w':=by
 obtain⟨An,cn,rfl,hcn,hcm, _⟩:=(show Ss w w.heap.size vn x.names from hn.all).open_;unfold maxLen at hcm;obtain⟨AM,cM,rfl,Tf,KF⟩:=nH h.fix;obtain⟨hnf,hnn⟩:=hnm;obtain⟨W1,hW1⟩:∃W1,w.alloc (.cells #[sv x.from_, .slice An x.names.length cn, .int .i64 x.line, .int .i64 x.col] 88)=W1:=⟨_,rfl⟩
 have hb1:Below w.heap.size w W1:=by rw [←hW1];exact new1 _ _
 have hx1:=oF w (.cells #[sv x.from_, .slice An x.names.length cn, .int .i64 x.line, .int .i64 x.col] 88);rw [hW1]at hx1;have hbd:Below w.heap.size w W1.drew:=hb1.trans ((bF W1 1).mono hb1.size);have hSD:=h.below hbd;have WO:cO B lb w W1.drew:=cO.below hbd;obtain⟨vB0,hk0⟩:=hSD.blk;obtain⟨p0,p1,p2,p3,p4,p5,p6,p7,pz⟩:=aH hk0;obtain⟨x0,x1,x2,x3,xz⟩:=bM (show W1.drew.heap[w.heap.size]? = _ from hx1);have dM:=rH hSD.fix.2.2.2.2.1 (s:=x.from_) (by unfold maxLen;omega);have HN:=hid (WO.sl hn);have HXB:=hid (show W1.drew.heap[w.heap.size]? = _ from hx1);have JD:=hid hSD;have Zz:=hid WO;have HW:=hid hW1;clear h hn hb1 hx1 hbd hSD WO hk0 hW1 p0 p1 p2 p3 p4 p5 p7 pz;cases hf:names.findIdx? (· ==x.from_)with
 | none=>
  have WQ:Hid (fP names mods i st x=(st.1,st.2++[⟨i,x.line,x.col,11⟩])):=hid (by unfold fP;rw [hf]);rw [hf,show fM names x.from_=0 by unfold fM;rw [hf];rfl]at dM;have HS:Hid (W1.drew.cell? ⟨lb,6,none⟩=some (.map (some mb))∧W1.drew.cell? ⟨w.heap.size,0,none⟩=some (sv x.from_)∧(Instr.lookup 77 (.map (some mb)) (sv x.from_) true).run Tryz.prog W1.drew= .ok (.tuple #[.int .i64 0, .bool false]) W1.drew):=hid ⟨p6,x0,dM⟩;have HF:=hid (yJ hC JD.out (by omega) ⟨(i:Nat),x.line,x.col,11⟩);clear hf dM p6 x0 x1;go_enter Tryz.func64,Tryz.ntmps64;go_wp2_with fail;rw [HW.out];refine wp_region_held_drew (S:=fun w'=>w'.cell? ⟨lb,6,none⟩=some (.map (some mb))∧w'.cell? ⟨w.heap.size,0,none⟩=some (sv x.from_)∧(Instr.lookup 77 (.map (some mb)) (sv x.from_) true).run Tryz.prog w'= .ok (.tuple #[.int .i64 0, .bool false]) w') (by kernel_rfl) HS.out (fun _=> ?_)
  try simp only [Act.put,List.getElem_toArray,List.getElem_cons_zero,List.getElem_cons_succ,List.setIfInBounds_toArray,List.set_cons_zero,List.set_cons_succ]
  refine tk 0 (.pointer (some ⟨lb,0,none⟩)) HS.out ?_;refine tk 1 (.pointer (some ⟨lb,0,none⟩)) HS.out ?_;refine tk 2 (.pointer (some ⟨lb,6,none⟩)) HS.out ?_;refine sZ 3 (.map (some mb)) (fun _ h=>h.1) HS.out ?_;refine tk 4 (.pointer (some ⟨w.heap.size,0,none⟩)) HS.out ?_;refine sZ 5 (sv x.from_) (fun _ h=>h.2.1) HS.out ?_;refine sZ 6 (.tuple #[.int .i64 0, .bool false]) (fun _ h=>h.2.2) HS.out ?_;refine tk 7 (.tuple #[.int .i64 0, .bool false]) HS.out ?_;refine tk 8 (.int .i64 0) HS.out ?_;refine tk 9 (.bool false) HS.out ?_;refine tk 10 (.int .i64 0) HS.out ?_;refine tk 11 (.bool false) HS.out ?_;refine wpAnyH_done (by kernel_rfl) ?_ _;go_wp2_with fail;refine(HF.out).mono ?_;rintro e w3 ⟨rfl,hS,hK⟩;have ME:=hid hS;have jg:=hid hK;clear hS hK;go_wp2_with fail;refine bodyPost_ret (results_none rfl _ _ _) rfl ?_;exact⟨rfl,by rw [WQ.out];exact ME.out,Zz.out.trans jg.out⟩
 | some f=>
  have hfl:f<mods.length:=by rw [←hl];exact(List.findIdx?_eq_some_iff_getElem.1 hf).1
  have WQ:Hid (fP names mods i st x=x.names.foldl (name1 mods i f x) st):=hid (by unfold fP;rw [hf]);rw [hf,show fM names x.from_=f by unfold fM;rw [hf];rfl]at dM;have HS:Hid (W1.drew.cell? ⟨lb,6,none⟩=some (.map (some mb))∧W1.drew.cell? ⟨w.heap.size,0,none⟩=some (sv x.from_)∧(Instr.lookup 77 (.map (some mb)) (sv x.from_) true).run Tryz.prog W1.drew= .ok (.tuple #[.int .i64 f, .bool true]) W1.drew):=hid ⟨p6,x0,dM⟩;have hfI:(f:Int)<mods.length:=by omega
  have PI:mods.getD f iI=mods[f]:=by rw [List.getD_eq_getElem?_getD,List.getElem?_eq_getElem hfl];rfl
  obtain⟨m,hm⟩:∃m,mods[f]=m:=⟨_,rfl⟩
  rw [hm]at PI;have HM:=hid hm;have PU:=hid PI;clear hf dM p6 x0 x2 x3 hm PI;go_enter Tryz.func64,Tryz.ntmps64;go_wp2_with fail;rw [HW.out];refine wp_region_held_drew (S:=fun w'=>w'.cell? ⟨lb,6,none⟩=some (.map (some mb))∧w'.cell? ⟨w.heap.size,0,none⟩=some (sv x.from_)∧(Instr.lookup 77 (.map (some mb)) (sv x.from_) true).run Tryz.prog w'= .ok (.tuple #[.int .i64 f, .bool true]) w') (by kernel_rfl) HS.out (fun _=> ?_)
  try simp only [Act.put,List.getElem_toArray,List.getElem_cons_zero,List.getElem_cons_succ,List.setIfInBounds_toArray,List.set_cons_zero,List.set_cons_succ]
  refine tk 0 (.pointer (some ⟨lb,0,none⟩)) HS.out ?_;refine tk 1 (.pointer (some ⟨lb,0,none⟩)) HS.out ?_;refine tk 2 (.pointer (some ⟨lb,6,none⟩)) HS.out ?_;refine sZ 3 (.map (some mb)) (fun _ h=>h.1) HS.out ?_;refine tk 4 (.pointer (some ⟨w.heap.size,0,none⟩)) HS.out ?_;refine sZ 5 (sv x.from_) (fun _ h=>h.2.1) HS.out ?_;refine sZ 6 (.tuple #[.int .i64 f, .bool true]) (fun _ h=>h.2.2) HS.out ?_;refine tk 7 (.tuple #[.int .i64 f, .bool true]) HS.out ?_;refine tk 8 (.int .i64 f) HS.out ?_;refine tk 9 (.bool true) HS.out ?_;refine tk 10 (.int .i64 f) HS.out ?_;refine tk 11 (.bool true) HS.out ?_;refine wpAnyH_done (by kernel_rfl) ?_ _;obtain⟨nn,Tg⟩:∃nn,x.names.length=nn:=⟨_,rfl⟩
  rw [Tg]at x1 hcn HN HXB hlen1 Te;rw [Tg];clear HS;go_wp2_with fail;clear x1;go_loopw [36] (fun v36 wr=>∃k:Nat,v36= .int .i64 k∧k≤nn∧S2 B lb mb sb hb vN (.slice AM mods.length cM) vS a b c names mods w2 sw wr ((x.names.take k).foldl (name1 mods i f x) st)∧cO B lb W1.drew wr) (fun v36 _=>nn - (intOf v36).toNat)
  case atStart=>exact⟨0,rfl,by omega,JD.out,cO.below (Below.refl _ _)⟩
  case round=>
   obtain⟨k,rfl,hk,hS,hK⟩:=hrel;by_cases hlt:k<nn
   ·have hkl:k<x.names.length:=by omega
    have hnx:(x.names.take (k+1)).foldl (name1 mods i f x) st=name1 mods i f x ((x.names.take k).foldl (name1 mods i f x) st) x.names[k]:=by rw [List.take_succ_eq_append_getElem hkl,List.foldl_append];rfl
    have hsl:=hnn _ (List.getElem_mem hkl);have hbl:=vo mods i f x (x.names.take k) st;rw [List.length_take]at hbl;obtain⟨stk,Bv⟩:∃s,(x.names.take k).foldl (name1 mods i f x) st=s:=⟨_,rfl⟩
    rw [Bv]at hnx hbl hS;obtain⟨bn,on,rfl,hbn,c0⟩:=Td (show Ss wr wr.heap.size (.slice An nn cn) x.names from(hK.sl HN.out).all) hkl;obtain⟨s,hs⟩:∃s,x.names[k]=s:=⟨_,rfl⟩
    rw [hs]at hnx hsl c0;obtain⟨vB,hblk⟩:=hS.blk;obtain⟨p0,p1,p2,p3,p4,p5,p6,p7,pz⟩:=aH hblk;obtain⟨bm,om,A1,c1,A2,c2,rfl,Ti,m0,m1,hmo⟩:=uf hS.fix hfl rfl;rw [HM.out]at m0 m1 hmo;obtain⟨W4,Bw⟩:∃W4,wr.alloc (.cells #[.slice A1 m.imps.length c1, .slice A2 m.decls.length c2] 40)=W4:=⟨_,rfl⟩
    have hb4:Below wr.heap.size wr W4:=by rw [←Bw];exact new1 _ _
    have hmb:=oF wr (.cells #[.slice A1 m.imps.length c1, .slice A2 m.decls.length c2] 40);rw [Bw]at hmb;have hmr:=hmo.all.far (Nat.le_refl _) hb4;obtain⟨_, _, _, _,xi,xd,hpe, _, _,hs2,hr2⟩:=hmr.parts;have HD:=hid (Aj W4 _ m s hmr);have PV:Sl W4 W4.heap.size 15 (.slice A2 m.decls.length c2) xd:=by
     have e:=congrArg (fun l=>l[1]?) hpe;simp only [List.getElem?_cons_succ,List.getElem?_cons_zero,Option.some.injEq]at e;rw [e];exact hs2
    have PW:=hid PV;have HR2:=hid hr2;have ZA:=hid hmb;have xC:=hid hb4;have Tj:=hid Bw;have HSW:=hid hS;have HKW:=hid hK;have rY:=hid hnx;have Bz:=hid hbl;have hml:m.decls.length≤c2∧c2≤2 ^ 63 - 1:=(cB PV).2;clear hS hK hnx hbl hs Bv hblk p0 p2 p3 p4 p5 p6 p7 pz hmo hb4 hmb hmr hpe hs2 hr2 PV Bw hkl;go_wp2_with fail;rw [Tj.out];refine(HD.out).mono ?_;rintro e w5 ⟨rfl,hb5⟩;have PY:=xC.out.trans (hb5.mono xC.out.size);have hS5:=HSW.out.below PY;have Tk:=HKW.out.trans (cO.below PY);obtain⟨x0,x1,x2,x3,xz⟩:=bM (Tk.blk HXB.out rfl);obtain⟨m0',VH, _⟩:=eD ((hb5.block wr.heap.size (block_lt ZA.out)).trans ZA.out);have hxl:=block_lt (Tk.blk HXB.out rfl);have u6:=hid hS5;have kP:=hid Tk;have ZB:=hid (Tk.blk HXB.out rfl);clear PY hS5 Tk c0 p1 m0 m1 x0 x1;cases hd:kL m s with
    | none=>
     have hdn:rJ m.decls s= -1:=by unfold rJ;unfold kL at hd;rw [hd]
     have hst:=KD (i:=i) (x:=x) (st:=stk) (by rw [PU.out];exact hd);have HST:=hid (rY.out.trans hst);have HF:=hid (yJ hC u6.out (by have:=Bz.out;omega) ⟨(i:Nat),x.line,x.col,12⟩);rw [hdn];clear hdn hst hd;go_wp2_with fail;refine(HF.out).mono ?_;rintro e w6 ⟨rfl,Au,yL⟩;have Aw:=hid Au;have lX:=hid yL;clear Au yL;go_wp2_with fail
     go_roundw
     case rel=>exact⟨k+1,rfl,by omega,by rw [HST.out];exact Aw.out,kP.out.trans lX.out⟩
     case measure=>simp [intOf];omega
    | some kd=>
     have hkd:=C9 hd;have hdn:rJ m.decls s=kd:=by unfold rJ;unfold kL at hd;rw [hd]
     have hdd:kL (mods.getD f iI) s=some kd:=by rw [PU.out];exact hd
     have hdk:(mods.getD f iI).decls[kd]? =some m.decls[kd]:=by rw [PU.out];exact List.getElem?_eq_getElem hkd
     obtain⟨bq,oq, _, _, _, _, _, _, _, _, _, _, _, _, _, _, _, _, _, _,rfl,hbq, _,d1, _⟩:=Gt (Sl.more (Sl.below PW.out hb5) hb5.size) (HR2.out.imp fun _ _ h=>(h.keep hb5).more hb5.size) hkd rfl;obtain⟨md,hmd⟩:∃md,m.decls.length=md:=⟨_,rfl⟩
     obtain⟨dk,Tm⟩:∃dk,m.decls[kd]=dk:=⟨_,rfl⟩
     rw [Tm]at hdk d1;rw [hdn];rw [hmd]at VH hml hkd;have Tn:(kd:Int)<md:=by omega
     have P5:=hid hdd;have HDK:=hid hdk;clear hdn hd hdd hdk hmd Tm hb5;cases he:dk.exp with
     | false=>
      rw [he]at d1;have hst:=IQ (i:=i) (x:=x) (st:=stk) P5.out HDK.out he;have HST:=hid (rY.out.trans hst);have HF:=hid (yJ hC u6.out (by have:=Bz.out;omega) ⟨(i:Nat),x.line,x.col,12⟩);clear hst he;go_wp2_with fail;refine(HF.out).mono ?_;rintro e w6 ⟨rfl,Au,yL⟩;have Aw:=hid Au;have lX:=hid yL;clear Au yL;go_wp2_with fail
      go_roundw
      case rel=>exact⟨k+1,rfl,by omega,by rw [HST.out];exact Aw.out,kP.out.trans lX.out⟩
      case measure=>simp [intOf];omega
     | true=>
      rw [he]at d1;cases hq:lH s stk.1 with
      | true=>
       have hst:=IU (i:=i) (x:=x) (st:=stk) P5.out HDK.out he hq;have HST:=hid (rY.out.trans hst);have HP:=hid (CX u6.out ⟨s,f,kd⟩ (by show s.length≤maxLen;unfold maxLen;omega) hq);clear hst he hq;go_wp2_with fail;refine(HP.out).mono ?_;rintro e w6 ⟨rfl,Au,yL⟩;have HF:=hid (yJ hC Au (by have:=Bz.out;omega) ⟨(i:Nat),x.line,x.col,8⟩);have lX:=hid yL;obtain⟨x0,x1,x2',x3',xz'⟩:=bM (yL.blk ZB.out rfl);have aa6:=block_lt (yL.blk ZB.out rfl);clear Au yL x0 x1 m0' VH d1 x2 x3 xz hxl;go_wp2_with fail;refine(HF.out).mono ?_;rintro e w7 ⟨rfl,Tp,Tq⟩;have fQ:=hid Tp;have jP:=hid Tq;clear Tp Tq;go_wp2_with fail
       go_roundw
       case rel=>exact⟨k+1,rfl,by omega,by rw [HST.out];exact fQ.out,(kP.out.trans lX.out).trans jP.out⟩
       case measure=>simp [intOf];omega
      | false=>
       have hst:=IV (i:=i) (x:=x) (st:=stk) P5.out HDK.out he hq;have HST:=hid (rY.out.trans hst);have HP:=hid (CY hC u6.out ⟨s,f,kd⟩ (by show s.length≤maxLen;unfold maxLen;omega) hq (by have:=Bz.out;omega));clear hst he hq;go_wp2_with fail;refine(HP.out).mono ?_;rintro e w6 ⟨rfl,Au,yL⟩;have Aw:=hid Au;have lX:=hid yL;clear Au yL;go_wp2_with fail
       go_roundw
       case rel=>exact⟨k+1,rfl,by omega,by rw [HST.out];exact Aw.out,kP.out.trans lX.out⟩
       case measure=>simp [intOf];omega
   ·obtain rfl:k=nn:=by omega
    rw [show x.names.take k=x.names from List.take_of_length_le (by omega)]at hS;have Aw:=hid hS;have lX:=hid hK;clear hS hK;go_wp2_with fail;go_end0;exact⟨rfl,by rw [WQ.out];exact Aw.out,Zz.out.trans lX.out⟩
end Go.Proofs.YtmbppnbekkbibaaGreatDoor
