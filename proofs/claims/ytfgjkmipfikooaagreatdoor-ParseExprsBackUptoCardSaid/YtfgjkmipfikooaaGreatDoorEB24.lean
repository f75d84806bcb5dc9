/- ZB, ZC, RW -/
import Derived.Test.YtfgjkmipfikooaaGreatDoorEB23
set_option linter.unusedSimpArgs false
set_option linter.unusedVariables false
namespace Go.Proofs.YtfgjkmipfikooaaGreatDoor
def AB:Pc->Nat
 |.tok k t=>if k=5 then(if t=[40]∨t=[91]∨t=[123]then 3 else 2)else if k=4 then 3 else 1
 |_=>0
def Gc:Pc->Nat
 |.tok k t=>if k=5 then(if t.length=2∨(t.headD 0).toNat ∉ [45,61,60,62,43]then 0 else 2)else if k=4 then 0 else 1
 |_=>0
theorem BP (k:Int)(t:Bt):AB (.tok k t)=if k=5 then(if t=[40]∨t=[91]∨t=[123]then 3 else 2)else if k=4 then 3 else 1:=rfl
theorem vH (k:Int)(t:Bt):Gc (.tok k t)=if k=5 then(if t.length=2∨(t.headD 0).toNat ∉ [45,61,60,62,43]then 0 else 2)else if k=4 then 0 else 1:=rfl
def qR (r l:Nat):Bool:=match r with
 |0=>true
 |1=>l==0 || l==2 || l==3
 |_=>l==0 || l==1 || l==3 || l==4
def Jr:Pc->Prop
 |.tok k t=>Good (k,t)∧1<=k∧k<=5
 |_=>True
def Js:List Pc->Prop
 | []=>True
 |p :: l=>Jr p∧(∀q,l.head? =some q->qR (Gc p) (AB q)=true)∧Js l
theorem Jt:∀m∈dw,(m.headD 0).toNat∈[45,61,60,62,43]:=by decide
theorem Es:∀m∈dw,(m.getD 1 0).toNat∈[62,58,60,61,43]:=by decide
theorem Lm {k:Int}{t:Bt}(h:Good (k,t))(h1:1<=k)(h5:k<=5):∃d r,jw (k,t)=d :: r∧((k=1∨k=2∨k=3)->bE d=true)∧(k=4->d.toNat=34)∧(k=5->bE d=false∧d=t.headD 0):=by
 obtain⟨c,r,hc⟩:=Fg h;refine⟨c,r,hc,?_⟩;unfold Good at h;rw [hc,fu]at h;by_cases hl:gD c=true
 ·rw [if_pos hl]at h;have hi:bE c=true:=by unfold bE;rw [hl];rfl
  have hk:k=1∨k=2:=by
   repeat' split at h
   all_goals first |cases h;done |(injection h with h;simp only [Prod.mk.injEq]at h;omega)
  exact⟨fun _=>hi,fun h=>by omega,fun h=>by omega⟩
 ·rw [if_neg hl]at h;by_cases hd:dD c=true
  ·rw [if_pos hd]at h;have hi:bE c=true:=by unfold bE;rw [hd];simp
   have hk:k=3:=by
    repeat' split at h
    all_goals first |cases h;done |(injection h with h;simp only [Prod.mk.injEq]at h;omega)
   exact⟨fun _=>hi,fun h=>by omega,fun h=>by omega⟩
  ·rw [if_neg hd]at h;have hi:bE c=false:=by unfold bE;simp [hl,hd]
   by_cases AV:c.toNat=34
   ·rw [if_pos AV]at h;have hk:k=4:=by
     repeat' split at h
     all_goals first |cases h;done |(injection h with h;simp only [Prod.mk.injEq]at h;omega)
    exact⟨fun h=>by omega,fun _=>AV,fun h=>by omega⟩
   ·rw [if_neg AV]at h;split at h
    ·injection h with h;simp only [Prod.mk.injEq]at h;refine⟨fun h=>by omega,fun h=>by omega,fun _=>⟨hi,?_⟩⟩;rw [<-h.2.1];rfl
    ·split at h
     ·injection h with h;simp only [Prod.mk.injEq]at h;refine⟨fun h=>by omega,fun h=>by omega,fun _=>⟨hi,?_⟩⟩;rw [<-h.2.1];rfl
     ·cases h
theorem UU {k:Int}{t:Bt}{q:Pc}{r:Bt}(hp:Jr (.tok k t))(hq:Jr q)(ha:qR (Gc (.tok k t)) (AB q)=true):Sep (k,t) (q.text++r):=by
 obtain⟨hg,h1,h5⟩:=hp;have hne:∃d x,q.text++r=d :: x∧(AB q=0->cB d=true)∧(AB q=2->bE d=false)∧(AB q=1->bE d=true)∧(AB q=3->d.toNat=34∨d.toNat=40∨d.toNat=91∨d.toNat=123):=by
  cases q with
  |sp=>exact⟨32,r,rfl,fun _=>by decide,fun h=>absurd h (by decide),fun h=>absurd h (by decide),fun h=>absurd h (by decide)⟩
  |nl=>exact⟨10,r,rfl,fun _=>by decide,fun h=>absurd h (by decide),fun h=>absurd h (by decide),fun h=>absurd h (by decide)⟩
  |tok k2 t2=>
   obtain⟨d,x,e,e1,e2,e3⟩:=Lm hq.1 hq.2.1 hq.2.2;refine⟨d,x++r,by show jw (k2,t2)++r= _;rw [e];rfl,?_,?_,?_,?_⟩
   all_goals
    rw [BP];by_cases hk5:k2=5
    ·rw [if_pos hk5];by_cases ht:t2=[40]∨t2=[91]∨t2=[123]
     ·rw [if_pos ht];have hd:=(e3 hk5).2;intro h
      first
       |omega
       |(rcases ht with rfl |rfl |rfl <;> simp at hd <;> subst hd <;> simp)
     ·rw [if_neg ht];intro h
      first
       |omega
       |exact(e3 hk5).1
    ·rw [if_neg hk5];by_cases hk4:k2=4
     ·rw [if_pos hk4];intro h
      first
       |omega
       |exact .inl (e2 hk4)
     ·rw [if_neg hk4];have hq1:=hq.2.1;have hq2:=hq.2.2;intro h
      first
       |omega
       |exact e1 (by omega)
 obtain⟨d,x,e,e0,e2,e1,e3⟩:=hne;rw [e];show k=4∨(k=5∧(t.length=2∨[t.headD 0,d] ∉ dw))∨bE d=false∧k≠5;have hi0:AB q=0->bE d=false:=fun h=>(zN (e0 h)).1;have hi3:AB q=3->bE d=false:=fun h=>by
  have:=e3 h;unfold bE gD dD;simp only [Bool.or_eq_false_iff,Bool.and_eq_false_iff,decide_eq_false_iff_not];omega
 by_cases hk5:k=5
 ·refine .inr (.inl ⟨hk5,?_⟩);by_cases ht:t.length=2
  ·exact .inl ht
  ·refine .inr fun hm=>?_;have hs:=Jt _ hm;have hs2:=Es _ hm;simp only [List.headD_cons]at hs;rw [show([t.headD 0,d]:Bt).getD 1 0=d from rfl]at hs2;have hr:Gc (.tok k t)=2:=by
    rw [vH];rw [if_pos hk5,if_neg];rintro(h |h)
    ·exact ht h
    ·exact h hs
   rw [hr]at ha;have ha2:AB q=0∨AB q=1∨AB q=3:=by
    have hl4:AB q≠4:=by
     cases q with
     |tok k2 t2=>rw [BP];(repeat' split);all_goals omega
     |sp=>decide
     |nl=>decide
    unfold qR at ha;simp only [Bool.or_eq_true,beq_iff_eq]at ha;omega
   have hd:d.toNat=62∨d.toNat=58∨d.toNat=60∨d.toNat=61∨d.toNat=43:=by simpa using hs2
   rcases ha2 with h |h |h
   ·have:=e0 h;unfold cB at this;simp only [Bool.or_eq_true,decide_eq_true_eq]at this;omega
   ·have:=e1 h;unfold bE gD dD at this;simp only [Bool.or_eq_true,Bool.and_eq_true,decide_eq_true_eq]at this;omega
   ·have:=e3 h;omega
 ·by_cases hk4:k=4
  ·exact .inl hk4
  ·refine .inr (.inr ⟨?_,hk5⟩);have hr:Gc (.tok k t)=1:=by rw [vH];rw [if_neg hk5,if_neg hk4]
   rw [hr]at ha;unfold qR at ha;simp only [Bool.or_eq_true,beq_iff_eq]at ha;rcases ha with(h |h) |h
   ·exact hi0 h
   ·exact e2 h
   ·exact hi3 h
theorem Js.ok:∀{l:List Pc},Js l->OkP l
 | [],_=>trivial
 |.sp :: l,h=>Js.ok (l:=l) h.2.2
 |.nl :: l,h=>Js.ok (l:=l) h.2.2
 |.tok k t :: l,h=>by
  refine⟨h.1.1,?_,Js.ok h.2.2⟩;cases l with
  |nil=>trivial
  |cons q l=>
   rw [eB];exact UU h.1 h.2.2.1 (h.2.1 q rfl)
def WP (l:List Pc):Prop:=Js l∧(∃p,l.head? =some p∧(AB p=1∨AB p=3))∧(∃p,l.getLast? =some p∧(Gc p=0∨Gc p=1))∧Ll (aM l)
def VP (l:List Pc):Prop:=Js l∧(∀p,l.head? =some p->AB p=2∨AB p=3)∧(∀p,l.getLast? =some p->Gc p=0∨Gc p=1)∧Ll (aM l)
def EP (l:List Pc):Prop:=l=[]∨WP l
inductive Sg where
 |p (x:Pc):Sg
 |u (l:List Pc):Sg
 |v (l:List Pc):Sg
 |e (l:List Pc):Sg
 |w (x:Pc):Sg
def Sg.flat:Sg->List Pc
 |.p x=>[x]
 |.u l=>l
 |.v l=>l
 |.e l=>l
 |.w x=>[x]
def dN (l:List Sg):List Pc:=l.flatMap Sg.flat
def Sg.Is:Sg->Prop
 |.p x=>Jr x
 |.u l=>WP l
 |.v l=>VP l
 |.e l=>EP l
 |.w x=>Jr x∧Ll (aM [x])
def lN:List Nat->List Sg->Option (List Nat)
 |st,[]=>some st
 |st,.p x :: l=>if st.all (fun r=>qR r (AB x))then lN [Gc x] l else none
 |st,.u x :: l=>if st.all (fun r=>qR r 1 && qR r 3)then lN [1] l else none
 |st,.v x :: l=>if st.all (fun r=>qR r 2 && qR r 3)then lN (1 :: st) l else none
 |st,.e x :: l=>if st.all (fun r=>qR r 1 && qR r 3)then lN (1 :: st) l else none
 |st,.w x :: l=>if st.all (fun r=>qR r 1 && qR r 2 && qR r 3)then lN [1,2] l else none
theorem Js.append:∀{a b:List Pc},Js a->Js b->(∀p q,a.getLast? =some p->b.head? =some q->qR (Gc p) (AB q)=true)->Js (a++b)
 | [],b,_,hb,_=>hb
 | [p],b,ha,hb,h=>⟨ha.1,fun q hq=>h p q rfl hq,hb⟩
 |p :: p2 :: a,b,ha,hb,h=>⟨ha.1,fun q hq=>ha.2.1 q hq,Js.append (a:=p2 :: a) ha.2.2 hb (fun x y hx hy=>h x y (by rw [List.getLast?_cons_cons];exact hx) hy)⟩
def VY (l:List Pc)(st:List Nat):Prop:=∀p,l.getLast? =some p->∀c,(∀r∈st,qR r c=true)->qR (Gc p) c=true
theorem Gd {r c:Nat}(h:r=0∨r=1)(hc:qR 1 c=true):qR r c=true:=by
 rcases h with rfl |rfl
 ·rfl
 ·exact hc
theorem uR {a b:List Pc}{p:Pc}(h:(a++b).getLast? =some p):(b=[]∧a.getLast? =some p)∨b.getLast? =some p:=by
 cases b with
 |nil=>rw [List.append_nil]at h;exact .inl ⟨rfl,h⟩
 |cons x b=>
  rw [List.getLast?_append]at h;cases hb:(x :: b).getLast? with
  |none=>simp at hb
  |some y=>rw [hb]at h;exact .inr h
theorem lX:∀(l:List Sg) (st st':List Nat) (a:List Pc),lN st l=some st'->(∀s∈l,s.Is)->Js a->VY a st->Js (a++dN l)∧VY (a++dN l) st'
 | [],st,st',a,h,_,ha,he=>by
  injection h with h;subst h;rw [show dN []=[]from rfl,List.append_nil];exact⟨ha,he⟩
 |s :: l,st,st',a,h,hs,ha,he=>by
  have hs0:=hs s (by simp);have hsl:∀x∈l,x.Is:=fun x hx=>hs x (by simp [hx]);have e:a++dN (s :: l)=(a++s.flat)++dN l:=by unfold dN;rw [List.flatMap_cons,List.append_assoc]
  rw [e];cases s with
  |p x=>
   rw [lN]at h;split at h
   ·rename_i hc
    rw [List.all_eq_true]at hc;refine lX l _ st' _ h hsl (ha.append (b:=[x]) ⟨hs0,fun q hq=>(by cases hq),trivial⟩ fun p q hp hq=>?_) fun p hp c hcc=>?_
    ·injection hq with hq;subst hq;exact he p hp _ fun r hr=>hc r hr
    ·rw [show(Sg.p x).flat=[x]from rfl,List.getLast?_concat]at hp;injection hp with hp;subst hp;exact hcc _ (by simp)
   ·cases h
  |u x=>
   rw [lN]at h;obtain⟨w1,⟨hd,w2,w2'⟩,⟨tl,w3,w3'⟩,w4⟩:=hs0;split at h
   ·rename_i hc
    rw [List.all_eq_true]at hc;refine lX l _ st' _ h hsl (ha.append (b:=x) w1 fun p q hp hq=>?_) fun p hp c hcc=>?_
    ·rw [w2]at hq;injection hq with hq;subst hq;refine he p hp _ fun r hr=>?_;have:=hc r hr;rw [Bool.and_eq_true]at this;rcases w2' with h |h <;> rw [h]
     ·exact this.1
     ·exact this.2
    ·rcases uR hp with⟨h1,_⟩ |h1
     ·rw [show(Sg.u x).flat=x from rfl]at h1;rw [h1]at w2;cases w2
     ·rw [show(Sg.u x).flat=x from rfl,w3]at h1;injection h1 with h1;subst h1;exact Gd w3' (hcc 1 (by simp))
   ·cases h
  |v x=>
   rw [lN]at h;obtain⟨w1,w2,w3,w4⟩:=hs0;split at h
   ·rename_i hc
    rw [List.all_eq_true]at hc;refine lX l _ st' _ h hsl (ha.append (b:=x) w1 fun p q hp hq=>?_) fun p hp c hcc=>?_
    ·refine he p hp _ fun r hr=>?_;have:=hc r hr;rw [Bool.and_eq_true]at this;rcases w2 q hq with h |h <;> rw [h]
     ·exact this.1
     ·exact this.2
    ·rcases uR hp with⟨_,h1⟩ |h1
     ·exact he p h1 c fun r hr=>hcc r (by simp [hr])
     ·exact Gd (w3 p h1) (hcc 1 (by simp))
   ·cases h
  |e x=>
   rw [lN]at h;split at h
   ·rename_i hc
    rw [List.all_eq_true]at hc;rcases hs0 with rfl |⟨w1,⟨hd,w2,w2'⟩,⟨tl,w3,w3'⟩,w4⟩
    ·refine lX l _ st' _ h hsl (by rw [show(Sg.e []).flat=[]from rfl,List.append_nil];exact ha) fun p hp c hcc=>?_;rw [show(Sg.e []).flat=[]from rfl,List.append_nil]at hp;exact he p hp c fun r hr=>hcc r (by simp [hr])
    ·refine lX l _ st' _ h hsl (ha.append (b:=x) w1 fun p q hp hq=>?_) fun p hp c hcc=>?_
     ·rw [w2]at hq;injection hq with hq;subst hq;refine he p hp _ fun r hr=>?_;have:=hc r hr;rw [Bool.and_eq_true]at this;rcases w2' with h |h <;> rw [h]
      ·exact this.1
      ·exact this.2
     ·rcases uR hp with⟨h1,_⟩ |h1
      ·rw [show(Sg.e x).flat=x from rfl]at h1;rw [h1]at w2;cases w2
      ·rw [show(Sg.e x).flat=x from rfl,w3]at h1;injection h1 with h1;subst h1;exact Gd w3' (hcc 1 (by simp))
   ·cases h
  |w x=>
   rw [lN]at h;split at h
   ·rename_i hc
    rw [List.all_eq_true]at hc;refine lX l _ st' _ h hsl (ha.append (b:=[x]) ⟨hs0.1,fun q hq=>(by cases hq),trivial⟩ fun p q hp hq=>?_) fun p hp c hcc=>?_
    ·injection hq with hq;subst hq;refine he p hp _ fun r hr=>?_;have:=hc r hr;simp only [Bool.and_eq_true]at this;have h4:∀r,qR r 0=true:=by intro r;unfold qR;split <;> rfl
     cases x with
     |sp=>exact h4 r
     |nl=>exact h4 r
     |tok k t=>
      rw [BP]
      repeat' split
      ·exact this.2
      ·exact this.1.2
      ·exact this.2
      ·exact this.1.1
    ·rw [show(Sg.w x).flat=[x]from rfl,List.getLast?_concat]at hp;injection hp with hp;subst hp;have h1:=hcc 1 (by simp);have h2:=hcc 2 (by simp);cases x with
     |sp=>rfl
     |nl=>rfl
     |tok k t=>
      rw [vH]
      repeat' split
      ·rfl
      ·exact h2
      ·rfl
      ·exact h1
   ·cases h
def Ye (d:Nat):Sg->Option Nat
 |.p (.tok k t)=>AA d (k,t)
 |_=>some d
def Fj (d:Nat):List Sg->Option Nat
 | []=>some d
 |s :: l=>match Ye d s with
  |some e=>Fj e l
  |none=>none
theorem Lp (s:Sg)(l:List Sg):aM (dN (s :: l))=aM s.flat++aM (dN l):=by
 unfold dN;rw [List.flatMap_cons,bH]
theorem UW {s:Sg}{d e:Nat}(h:Ye d s=some e)(hs:s.Is)(j:Nat):uQ (d+j) (aM s.flat)=some (e+j):=by
 cases s with
 |p x=>
  cases x with
  |sp=>injection h with h;subst h;rfl
  |nl=>injection h with h;subst h;rfl
  |tok k t=>
   show uQ (d+j) [(k,t)]= _;rw [Dy,Lj h j];rfl
 |u x=>injection h with h;subst h;exact hs.2.2.2 _
 |v x=>injection h with h;subst h;exact hs.2.2.2 _
 |e x=>
  injection h with h;subst h;rcases hs with rfl |hs
  ·rfl
  ·exact hs.2.2.2 _
 |w x=>injection h with h;subst h;exact hs.2 _
theorem Ju:∀(l:List Sg) (d e:Nat),Fj d l=some e->(∀s∈l,s.Is)->∀(j:Nat),uQ (d+j) (aM (dN l))=some (e+j)
 | [],d,e,h,_,j=>by
  injection h with h;subst h;rfl
 |s :: l,d,e,h,hs,j=>by
  rw [Fj]at h;rw [Lp,yF];cases hd:Ye d s with
  |none=>rw [hd]at h;cases h
  |some c=>
   rw [hd]at h;rw [UW hd (hs s (by simp)) j];exact Ju l c e h (fun x hx=>hs x (by simp [hx])) j
theorem Jv {l:List Sg}(h:Fj 0 l=some 0)(hs:∀s∈l,s.Is):Ll (aM (dN l)):=by
 intro d;have:=Ju l 0 0 h hs d;simpa using this
def SA:List Sg->Bool
 |.p x :: _=>AB x==1 || AB x==3
 |.u _ :: _=>true
 |_=>false
def aaY:Option (List Nat)->Bool
 |some st=>st.all (fun r=>r==0 || r==1)
 |none=>false
theorem eP {l:List Sg}(h:(SA l && aaY (lN [] l) && Fj 0 l==some 0)=true)(hs:∀s∈l,s.Is):WP (dN l):=by
 simp only [Bool.and_eq_true,beq_iff_eq]at h;obtain⟨⟨h1,h2⟩,h3⟩:=h;cases hc:lN [] l with
 |none=>rw [hc]at h2;cases h2
 |some st=>
  rw [hc]at h2;obtain⟨g1,g2⟩:=lX l [] st [] hc hs trivial (fun p hp=>by cases hp);rw [List.nil_append]at g1 g2;have hst:∀r∈st,r=0∨r=1:=by
   intro r hr;have:=List.all_eq_true.1 h2 r hr;simpa using this
  have hhead:∃p,(dN l).head? =some p∧(AB p=1∨AB p=3):=by
   cases l with
   |nil=>cases h1
   |cons s l=>
    have hs0:=hs s (by simp);cases s with
    |p x=>exact⟨x,rfl,by simpa [SA]using h1⟩
    |u x=>
     obtain⟨p,hp,hp2⟩:=hs0.2.1;refine⟨p,?_,hp2⟩;unfold dN;rw [List.flatMap_cons];show(x++ _).head? = _;cases x with
     |nil=>cases hp
     |cons y x=>exact hp
    |v x=>cases h1
    |e x=>cases h1
    |w x=>cases h1
  refine⟨g1,hhead,?_,Jv h3 hs⟩;cases hl:(dN l).getLast? with
  |none=>
   rw [List.getLast?_eq_none_iff]at hl;rw [hl]at hhead;obtain⟨p,hp,_⟩:=hhead;cases hp
  |some p=>
   refine⟨p,rfl,?_⟩;have h4:=g2 p hl 2 fun r hr=>by rcases hst r hr with rfl |rfl <;> rfl
   have h5:Gc p=0∨Gc p=1∨Gc p=2:=by
    cases p with
    |tok k t=>rw [vH];(repeat' split);all_goals omega
    |sp=>exact .inl rfl
    |nl=>exact .inl rfl
   rcases h5 with h |h |h
   ·exact .inl h
   ·exact .inr h
   ·rw [h]at h4;cases h4
def SB:List Sg->Bool
 |.p x :: _=>AB x==2 || AB x==3
 |_=>false
theorem Yf:VP []:=⟨trivial,fun p h=>(by cases h),fun p h=>(by cases h),Ll.nil⟩
theorem UY {l:List Sg}(h:(SB l && aaY (lN [] l) && Fj 0 l==some 0)=true)(hs:∀s∈l,s.Is):VP (dN l):=by
 simp only [Bool.and_eq_true,beq_iff_eq]at h;obtain⟨⟨h1,h2⟩,h3⟩:=h;cases hc:lN [] l with
 |none=>rw [hc]at h2;cases h2
 |some st=>
  rw [hc]at h2;obtain⟨g1,g2⟩:=lX l [] st [] hc hs trivial (fun p hp=>by cases hp);rw [List.nil_append]at g1 g2;have hst:∀r∈st,r=0∨r=1:=by
   intro r hr;have:=List.all_eq_true.1 h2 r hr;simpa using this
  refine⟨g1,fun p hp=>?_,fun p hl=>?_,Jv h3 hs⟩
  ·cases l with
   |nil=>cases h1
   |cons s l=>
    cases s with
    |p x=>
     have:(dN (Sg.p x :: l)).head? =some x:=rfl;rw [this]at hp;injection hp with hp;subst hp;simpa [SB]using h1
    |u x=>cases h1
    |v x=>cases h1
    |e x=>cases h1
    |w x=>cases h1
  ·have h4:=g2 p hl 2 fun r hr=>by rcases hst r hr with rfl |rfl <;> rfl
   have h5:Gc p=0∨Gc p=1∨Gc p=2:=by
    cases p with
    |tok k t=>rw [vH];(repeat' split);all_goals omega
    |sp=>exact .inl rfl
    |nl=>exact .inl rfl
   rcases h5 with h |h |h
   ·exact .inl h
   ·exact .inr h
   ·rw [h]at h4;cases h4
theorem Fp:∀(f:Nat) (s:Bt) (p:Nat ×Nat) (out:List aD) (l:List (Int ×Bt)),yQ f s=some l->out.length+l.length<=8192->
  ∃m e,l=m.map jK∧nO f s p out=(out++m++[e],(0,0,0))∧jK e=(0,[])
 |0,s,p,out,l,h,_=>by simp [yQ]at h
 |f+1,s,p,out,l,h,h8=>by
  rw [yQ]at h;rw [nO];by_cases hnil:s.drop (bB s)=[]
  ·rw [if_pos hnil]at h ⊢;injection h with h;subst h;exact⟨[],_,rfl,by rw [List.append_nil],rfl⟩
  ·rw [if_neg hnil]at h ⊢;cases hn:fu (s.drop (bB s))with
   |inl e=>rw [hn]at h;cases h
   |inr x=>
    obtain⟨kd,t,n⟩:=x;rw [hn]at h;simp only at h ⊢;rw [Option.map_eq_some_iff]at h;obtain⟨l',h1,rfl⟩:=h;rw [List.length_cons]at h8;rw [if_neg (by omega)];obtain⟨m,e,k1,k2,k3⟩:=Fp f _ (gF (gF p (s.take (bB s))) ((s.drop (bB s)).take n)) (out++[⟨kd,t,(gF p (s.take (bB s))).1,(gF p (s.take (bB s))).2⟩]) l' h1 (by simp only [List.length_append,List.length_cons,List.length_nil];omega);exact⟨⟨kd,t,(gF p (s.take (bB s))).1,(gF p (s.take (bB s))).2⟩ :: m,e,by rw [k1];rfl,by rw [k2];simp,k3⟩
theorem Jw {l:List Pc}(h:Js l)(hs:(cK l).length<=65536)(h8:(aM l).length<=8192):
  ∃m e,aM l=m.map jK∧iU (cK l)=(m++[e],(0,0,0))∧jK e=(0,[]):=by
 rw [BZ _ hs];obtain⟨m,e,h1,h2,h3⟩:=Fp _ _ (1,1) [] _ (nH l _ h.ok (Nat.lt_succ_self _)) (by simpa using h8);exact⟨m,e,h1,by rw [h2];simp,h3⟩
def gB (sep:List Pc):List (List Pc)->List Pc
 | []=>[]
 | [x]=>x
 |x :: y :: l=>x++(sep++gB sep (y :: l))
def kD:List Pc:=[.tok 5 [44],.sp]
def Bp:List Pc:=[.sp,.tok 5 [124],.sp]
theorem pR (sep:List Pc):∀l:List (List Pc),cK (gB sep l)=jc (cK sep) (l.map cK)
 | []=>rfl
 | [x]=>rfl
 |x :: y :: l=>by
  rw [gB,kT,kT,pR sep (y :: l)];rfl
theorem Dz:∀l:List (List Pc),l≠[]->(∀x∈l,WP x)->WP (gB kD l)
 | [],h,_=>absurd rfl h
 | [x],_,h=>h x (by simp)
 |x :: y :: l,_,h=>by
  have hr:=Dz (y :: l) (by simp) fun z hz=>h z (by simp [hz])
  have:=eP (l:=[.u x,.p (.tok 5 [44]),.p .sp,.u (gB kD (y :: l))]) rfl (by
   intro s hs;simp only [List.mem_cons,List.not_mem_nil,or_false]at hs;rcases hs with rfl |rfl |rfl |rfl
   ·exact h x (by simp)
   ·exact⟨zG (.inr (by decide)),by omega,by omega⟩
   ·trivial
   ·exact hr)
  have e:dN [.u x,.p (.tok 5 [44]),.p .sp,.u (gB kD (y :: l))]=gB kD (x :: y :: l):=by simp [dN,Sg.flat,gB,kD]
  rw [<-e];exact this
theorem SC:∀l:List (List Pc),l≠[]->(∀x∈l,WP x)->WP (gB Bp l)
 | [],h,_=>absurd rfl h
 | [x],_,h=>h x (by simp)
 |x :: y :: l,_,h=>by
  have hr:=SC (y :: l) (by simp) fun z hz=>h z (by simp [hz])
  have:=eP (l:=[.u x,.p .sp,.p (.tok 5 [124]),.p .sp,.u (gB Bp (y :: l))]) rfl (by
   intro s hs;simp only [List.mem_cons,List.not_mem_nil,or_false]at hs;rcases hs with rfl |rfl |rfl |rfl |rfl
   ·exact h x (by simp)
   ·trivial
   ·exact⟨zG (.inr (by decide)),by omega,by omega⟩
   ·trivial
   ·exact hr)
  have e:dN [.u x,.p .sp,.p (.tok 5 [124]),.p .sp,.u (gB Bp (y :: l))]=gB Bp (x :: y :: l):=by simp [dN,Sg.flat,gB,Bp]
  rw [<-e];exact this
theorem Jy (l:List (List Pc))(h:∀x∈l,WP x):EP (gB kD l):=by
 cases l with
 |nil=>exact .inl rfl
 |cons x l=>exact .inr (Dz _ (by simp) h)
def iV (l:List Pc):Nat:=(aM l).length
theorem Jz:iV []=0:=rfl
theorem jJ (a b:List Pc):iV (a++b)=iV a+iV b:=by unfold iV;rw [bH,List.length_append]
theorem pU (k:Int)(t:Bt)(l:List Pc):iV (.tok k t :: l)=iV l+1:=by unfold iV;rw [Li];simp [Pc.tK]
theorem Gf (l:List Pc):iV (.sp :: l)=iV l:=rfl
def rR (l:List (List Pc)):Nat:=(l.map iV).sum
theorem iY (x:List Pc)(l:List (List Pc)):rR (x :: l)=iV x+rR l:=by simp [rR]
theorem sS:∀l:List (List Pc),iV (gB kD l)<=rR l+l.length
 | []=>by simp [gB,iV,aM]
 | [x]=>by rw [gB,iY];omega
 |x :: y :: l=>by
  have:=sS (y :: l);rw [gB,jJ,jJ,show iV kD=1 from rfl,iY,List.length_cons];omega
theorem JA:∀l:List (List Pc),iV (gB Bp l)<=rR l+l.length
 | []=>by simp [gB,iV,aM]
 | [x]=>by rw [gB,iY];omega
 |x :: y :: l=>by
  have:=JA (y :: l);rw [gB,jJ,jJ,show iV Bp=1 from rfl,iY,List.length_cons];omega
def ig (n:Bt)(p:List Pc):List Pc:= .tok 1 n :: .tok 5 [58] :: .sp :: p
def iq (kk:List Int)(k:Int)(p:List Pc):List Pc:=if kk.contains k then .tok 5 [40] :: (p++[.tok 5 [41]])else p
mutual
def dZ:bC->List Pc
 |.mk k nm ns ks=>
  if k=0 then [.tok 2 [97,110,121]]
  else if k=1 then [.tok 2 [110,117,108,108]]
  else if k=2 then [.tok 2 [98,111,111,108]]
  else if k=3 then [.tok 2 [105,110,116]]
  else if k=4 then [.tok 2 [115,116,114]]
  else if k=5 then .tok 5 [123] :: (gB kD (List.zipWith ig ns (iR ks))++[.tok 5 [125]])
  else if k=6 then iq [6] ((ks.map bC.kind).getD 0 0) ((iR ks).getD 0 [])++(.sp :: .tok 5 [45,62] :: .sp :: (iR ks).getD 1 [])
  else if k=7 then gB Bp (List.zipWith (iq [6,7]) (ks.map bC.kind) (iR ks))
  else [.tok 1 nm]
def iR:List bC->List (List Pc)
 | []=>[]
 |t :: l=>dZ t :: iR l
end
theorem rT:∀l:List bC,iR l=l.map dZ
 | []=>by simp [iR]
 |t :: l=>by simp [iR,rT l]
inductive Fq (m:Nat):bC->Prop
 |base {k:Int}:0<=k->k<=4->Fq m (.mk k [] [] [])
 |wM {ns:List Bt}{ks:List bC}:ns.all dM=true->(∀t∈ks,aK m t=true)->ns.length=ks.length->Fq m (.mk 5 [] ns ks)
 |SE {a b:bC}:aK m a=true->aK m b=true->Fq m (.mk 6 [] [] [a,b])
 |union {a b:bC}{l:List bC}:(∀t∈a :: b :: l,aK m t=true)->Fq m (.mk 7 [] [] (a :: b :: l))
 |var {nm:Bt}:dM nm=true->Fq m (.mk 8 nm [] [])
theorem vI {m:Nat}{t:bC}(h:aK (m+1) t=true):Fq m t:=by
 obtain⟨k,nm,ns,ks⟩:=t;have h:(ns.all dM && ks.all (aK m) && eZ k nm ns.length ks.length)=true:=h;rw [Bool.and_eq_true,Bool.and_eq_true]at h;obtain⟨⟨h1,h2⟩,h3⟩:=h;rw [List.all_eq_true]at h2;unfold eZ at h3;by_cases h8:k=8
 ·subst h8;rw [if_pos rfl,Bool.and_eq_true,beq_iff_eq]at h3;obtain rfl:ns=[]:=List.eq_nil_of_length_eq_zero (by omega);obtain rfl:ks=[]:=List.eq_nil_of_length_eq_zero (by have:=h3.1;omega);exact .var h3.2
 rw [if_neg h8]at h3;by_cases hn:nm≠[]∨k<0∨7<k
 ·rw [if_pos hn]at h3;cases h3
 rw [if_neg hn]at h3;obtain⟨rfl,hk0,O5⟩:nm=[]∧0<=k∧k<=7:=by
  refine⟨?_,by omega,by omega⟩;by_cases h:nm=[]
  ·exact h
  ·exact absurd (.inl h) hn
 by_cases h5:k=5
 ·subst h5;rw [if_pos rfl,beq_iff_eq]at h3;exact .wM h1 h2 h3
 rw [if_neg h5]at h3;by_cases h6:k=6
 ·subst h6;rw [if_pos rfl,Bool.and_eq_true,beq_iff_eq,beq_iff_eq]at h3;obtain rfl:ns=[]:=List.eq_nil_of_length_eq_zero h3.1
  match ks,h3.2 with
  | [a,b],_=>exact .SE (h2 a (by simp)) (h2 b (by simp))
 rw [if_neg h6]at h3;by_cases h7:k=7
 ·subst h7;rw [if_pos rfl,Bool.and_eq_true,beq_iff_eq,decide_eq_true_eq]at h3;obtain rfl:ns=[]:=List.eq_nil_of_length_eq_zero h3.1
  match ks,h3.2 with
  |a :: b :: l,_=>exact .union h2
 rw [if_neg h7,beq_iff_eq]at h3;obtain rfl:ns=[]:=List.eq_nil_of_length_eq_zero (by omega);obtain rfl:ks=[]:=List.eq_nil_of_length_eq_zero (by omega);exact .base hk0 (by omega)
theorem zH {k:Int}{t:Bt}(h:Good (k,t))(hk:1<=k∧k<=3):WP [.tok k t]:=by
 have hl:AB (.tok k t)=1:=by rw [BP,if_neg (by omega),if_neg (by omega)]
 have hr:Gc (.tok k t)=1:=by rw [vH,if_neg (by omega),if_neg (by omega)]
 exact⟨⟨⟨h,by omega,by omega⟩,fun q hq=>(by cases hq),trivial⟩,⟨_,rfl,.inl hl⟩,⟨_,rfl,.inr hr⟩,Ll.one (.inl (by omega))⟩
theorem mU {t:Bt}(h:t∈dw∨t∈fD.map (fun c=>[c])):(Sg.p (.tok 5 t)).Is:=⟨zG h,by omega,by omega⟩
theorem oC {t:Bt}(h:dM t=true):(Sg.p (.tok 1 t)).Is:=⟨Fh h,by omega,by omega⟩
theorem jr {t:Bt}(h:t∈fQ):(Sg.p (.tok 2 t)).Is:=⟨oM h,by omega,by omega⟩
theorem JB {n:Bt}{p:List Pc}(hn:dM n=true)(hp:WP p):WP (ig n p):=by
 have:=eP (l:=[.p (.tok 1 n),.p (.tok 5 [58]),.p .sp,.u p]) rfl (by
  intro s hs;simp only [List.mem_cons,List.not_mem_nil,or_false]at hs;rcases hs with rfl |rfl |rfl |rfl
  ·exact oC hn
  ·exact mU (.inr (by decide))
  ·trivial
  ·exact hp)
 have e:dN [.p (.tok 1 n),.p (.tok 5 [58]),.p .sp,.u p]=ig n p:=by simp [dN,Sg.flat,ig]
 rw [<-e];exact this
theorem SF {p:List Pc}(hp:WP p):WP (.tok 5 [40] :: (p++[.tok 5 [41]])):=by
 have:=eP (l:=[.p (.tok 5 [40]),.u p,.p (.tok 5 [41])]) rfl (by
  intro s hs;simp only [List.mem_cons,List.not_mem_nil,or_false]at hs;rcases hs with rfl |rfl |rfl
  ·exact mU (.inr (by decide))
  ·exact hp
  ·exact mU (.inr (by decide)))
 have e:dN [.p (.tok 5 [40]),.u p,.p (.tok 5 [41])]=.tok 5 [40] :: (p++[.tok 5 [41]]):=by simp [dN,Sg.flat]
 rw [<-e];exact this
theorem SG {p:List Pc}(hp:EP p):WP (.tok 5 [123] :: (p++[.tok 5 [125]])):=by
 have:=eP (l:=[.p (.tok 5 [123]),.e p,.p (.tok 5 [125])]) rfl (by
  intro s hs;simp only [List.mem_cons,List.not_mem_nil,or_false]at hs;rcases hs with rfl |rfl |rfl
  ·exact mU (.inr (by decide))
  ·exact hp
  ·exact mU (.inr (by decide)))
 have e:dN [.p (.tok 5 [123]),.e p,.p (.tok 5 [125])]=.tok 5 [123] :: (p++[.tok 5 [125]]):=by simp [dN,Sg.flat]
 rw [<-e];exact this
theorem JC {kk:List Int}{k:Int}{p:List Pc}(hp:WP p):WP (iq kk k p):=by
 unfold iq;split
 ·exact SF hp
 ·exact hp
theorem DC (n:Bt)(p:List Pc):cK (ig n p)=gI n (cK p):=by
 unfold ig gI;rw [eB,eB,eB];rfl
theorem DF (kk:List Int)(k:Int)(p:List Pc):cK (iq kk k p)=jy kk k (cK p):=by
 unfold iq jy;split
 ·rw [eB,kT];rfl
 ·rfl
theorem Lr {α:Type}{f:α->List Pc->List Pc}{ns:List α}{l:List (List Pc)}(hf:∀n∈ns,∀p∈l,WP (f n p)):∀x∈List.zipWith f ns l,WP x:=by
 intro x hx;obtain⟨i,hi,rfl⟩:=List.getElem_of_mem hx;rw [List.getElem_zipWith];exact hf _ (List.getElem_mem _) _ (List.getElem_mem _)
theorem DI {α:Type}{f:α->List Pc->List Pc}{g:α->Bt->Bt}(hf:∀n p,cK (f n p)=g n (cK p))(ns:List α)(l:List (List Pc)):(List.zipWith f ns l).map cK=List.zipWith g ns (l.map cK):=by
 induction ns generalizing l with
 |nil=>simp
 |cons n ns ih=>
  cases l with
  |nil=>simp
  |cons p l=>simp [hf,ih]
theorem wX:∀(ns:List Bt) (l:List (List Pc)),rR (List.zipWith ig ns l)<=rR l+2*l.length
 | [],l=>by simp [rR]
 |n :: ns,[]=>by simp [rR]
 |n :: ns,p :: l=>by
  have:=wX ns l;rw [List.zipWith_cons_cons,iY,iY,List.length_cons,ig,pU,pU,Gf];omega
theorem wY (kk:List Int):∀(ks:List Int) (l:List (List Pc)),rR (List.zipWith (iq kk) ks l)<=rR l+2*l.length
 | [],l=>by simp [rR]
 |n :: ns,[]=>by simp [rR]
 |n :: ns,p :: l=>by
  have:=wY kk ns l;have h:iV (iq kk n p)<=iV p+2:=by
   unfold iq;split
   ·rw [pU,jJ,pU,Jz];omega
   ·omega
  rw [List.zipWith_cons_cons,iY,iY,List.length_cons];omega
theorem qU {α β γ:Type}(f:α->β->γ)(a:List α)(b:List β):(List.zipWith f a b).length<=b.length:=by rw [List.length_zipWith];omega
theorem vJ:∀(m:Nat) (t:bC),aK m t=true->WP (dZ t)∧cK (dZ t)=cO t∧iV (dZ t)+4<=6*jS t
 |0,t,h=>by cases h
 |m+1,t,h=>by
  have all:∀ks:List bC,(∀t∈ks,aK m t=true)->(∀p∈iR ks,WP p)∧(iR ks).map cK=eT ks∧rR (iR ks)+4*ks.length<=6*dh ks:=by
   intro ks hk;induction ks with
   |nil=>exact⟨by simp [iR],by simp [iR,eT],by simp [iR,rR,dh]⟩
   |cons x l ih=>
    obtain⟨a1,a2,a3⟩:=vJ m x (hk x (by simp));obtain⟨b1,b2,b3⟩:=ih fun t ht=>hk t (by simp [ht]);refine⟨?_,?_,?_⟩
    ·intro p hp;rw [iR]at hp;rcases List.mem_cons.1 hp with rfl |hp
     ·exact a1
     ·exact b1 p hp
    ·rw [iR,eT,List.map_cons,a2,b2]
    ·rw [iR,iY,dh,List.length_cons];omega
  have tl:∀ks:List bC,(iR ks).length=ks.length:=fun ks=>by rw [rT,List.length_map]
  cases vI h with
  | @base k h0 h4=>
   have hk:k=0∨k=1∨k=2∨k=3∨k=4:=by omega
   rcases hk with rfl |rfl |rfl |rfl |rfl
   ·exact⟨zH (oM (by decide)) (by omega),rfl,by simp [dZ,iV,aM,Pc.tK,jS,dh]⟩
   ·exact⟨zH (oM (by decide)) (by omega),rfl,by simp [dZ,iV,aM,Pc.tK,jS,dh]⟩
   ·exact⟨zH (oM (by decide)) (by omega),rfl,by simp [dZ,iV,aM,Pc.tK,jS,dh]⟩
   ·exact⟨zH (oM (by decide)) (by omega),rfl,by simp [dZ,iV,aM,Pc.tK,jS,dh]⟩
   ·exact⟨zH (oM (by decide)) (by omega),rfl,by simp [dZ,iV,aM,Pc.tK,jS,dh]⟩
  | @wM ns ks hn hk hl=>
   obtain⟨a1,a2,a3⟩:=all ks hk;have e:dZ (.mk 5 [] ns ks)=.tok 5 [123] :: (gB kD (List.zipWith ig ns (iR ks))++[.tok 5 [125]]):=by rw [dZ];rfl
   have e2:cO (.mk 5 [] ns ks)=[123]++(jc [44,32] (List.zipWith gI ns (eT ks))++[125]):=by rw [cO];rfl
   rw [e,e2];refine⟨SG (Jy _ (Lr fun n hnn p hp=>JB (List.all_eq_true.1 hn n hnn) (a1 p hp))),?_,?_⟩
   ·rw [eB,kT,pR,DI DC,a2];rfl
   ·have h1:=sS (List.zipWith ig ns (iR ks));have h2:=wX ns (iR ks);have h3:=qU ig ns (iR ks);rw [tl]at h2 h3;rw [pU,jJ,pU,Jz,jS];omega
  | @SE a b ha hb=>
   obtain⟨a1,a2,a3⟩:=vJ m a ha;obtain⟨b1,b2,b3⟩:=vJ m b hb;have e:dZ (.mk 6 [] [] [a,b])=iq [6] a.kind (dZ a)++(.sp :: .tok 5 [45,62] :: .sp :: dZ b):=by rw [dZ];simp [iR]
   have e2:cO (.mk 6 [] [] [a,b])=jy [6] a.kind (cO a)++([32,45,62,32]++cO b):=by rw [cO];simp [eT]
   rw [e,e2];refine⟨?_,?_,?_⟩
   ·have:=eP (l:=[.u (iq [6] a.kind (dZ a)),.p .sp,.p (.tok 5 [45,62]),.p .sp,.u (dZ b)]) rfl (by
     intro s hs;simp only [List.mem_cons,List.not_mem_nil,or_false]at hs;rcases hs with rfl |rfl |rfl |rfl |rfl
     ·exact JC a1
     ·trivial
     ·exact mU (.inl (by decide))
     ·trivial
     ·exact b1)
    simpa [dN,Sg.flat]using this
   ·rw [kT,DF,a2,eB,eB,eB,b2];rfl
   ·have h1:=wY [6] [a.kind] [dZ a];simp only [List.zipWith_cons_cons,List.zipWith_nil_left,iY,List.length_cons,List.length_nil]at h1;rw [jJ,Gf,pU,Gf,jS,dh,dh,dh];have:rR []=0:=rfl;omega
  | @union a b l hk=>
   obtain⟨a1,a2,a3⟩:=all (a :: b :: l) hk;have e:dZ (.mk 7 [] [] (a :: b :: l))=gB Bp (List.zipWith (iq [6,7]) ((a :: b :: l).map bC.kind) (iR (a :: b :: l))):=by rw [dZ];rfl
   have e2:cO (.mk 7 [] [] (a :: b :: l))=jc [32,124,32] (List.zipWith (jy [6,7]) ((a :: b :: l).map bC.kind) (eT (a :: b :: l))):=by rw [cO];rfl
   rw [e,e2];refine⟨SC _ (by rw [iR];simp) (Lr fun n hnn p hp=>JC (a1 p hp)),?_,?_⟩
   ·rw [pR,DI (DF [6,7]),a2];rfl
   ·have h1:=JA (List.zipWith (iq [6,7]) ((a :: b :: l).map bC.kind) (iR (a :: b :: l)));have h2:=wY [6,7] ((a :: b :: l).map bC.kind) (iR (a :: b :: l));have h3:=qU (iq [6,7]) ((a :: b :: l).map bC.kind) (iR (a :: b :: l));rw [tl]at h2 h3;rw [jS];simp only [List.length_cons]at a3 h2 h3;omega
  | @var nm hn=>exact⟨zH (Fh hn) (by omega),by simp [dZ,cO,cK,Pc.text,jw],by simp [dZ,iV,aM,Pc.tK,jS,dh]⟩
inductive kE (m:Nat):bF->Prop
 |int {n li co:Int}:0<=n->n<=9223372036854775807->kE m (.mk 0 [] n li co [] [] [])
 |str {t:Bt}{li co:Int}:yR t=true->kE m (.mk 1 t 0 li co [] [] [])
 |bool {n li co:Int}:n=0∨n=1->kE m (.mk 2 [] n li co [] [] [])
 |null {li co:Int}:kE m (.mk 3 [] 0 li co [] [] [])
 |name {t:Bt}{li co:Int}:dM t=true->kE m (.mk 4 t 0 li co [] [] [])
 |SH {t:Bt}{li co:Int}{a b:bF}:dM t=true->dx m a=true->dx m b=true->kE m (.mk 5 t 0 li co [] [] [a,b])
 |SI {t:Bt}{li co:Int}{x:bC}{a b:bF}:dM t=true->aK 16 x=true->dx m a=true->dx m b=true->kE m (.mk 5 t 0 li co [x] [] [a,b])
 |fn1 {t:Bt}{li co:Int}{x:bC}{a:bF}:dM t=true->aK 16 x=true->dx m a=true->kE m (.mk 6 t 0 li co [x] [] [a])
 |fn2 {t:Bt}{li co:Int}{x y:bC}{a:bF}:dM t=true->aK 16 x=true->aK 16 y=true->dx m a=true->kE m (.mk 6 t 0 li co [x,y] [] [a])
 |call {li co:Int}{a b:bF}:dx m a=true->dx m b=true->kE m (.mk 7 [] 0 li co [] [] [a,b])
 |wM {li co:Int}{ns:List Bt}{ks:List bF}:ns.all dM=true->(∀x∈ks,dx m x=true)->ns.length=ks.length->kE m (.mk 8 [] 0 li co [] ns ks)
 |sel {t:Bt}{li co:Int}{a:bF}:dM t=true->dx m a=true->kE m (.mk 9 t 0 li co [] [] [a])
 |with_ {t:Bt}{li co:Int}{a b:bF}:dM t=true->dx m a=true->dx m b=true->kE m (.mk 10 t 0 li co [] [] [a,b])
 |if_ {li co:Int}{a b c:bF}:dx m a=true->dx m b=true->dx m c=true->kE m (.mk 11 [] 0 li co [] [] [a,b,c])
 |is_ {n li co:Int}{a:bF}:0<=n->n<=5->dx m a=true->kE m (.mk 12 [] n li co [] [] [a])
 |as_ {li co:Int}{x:bC}{a:bF}:aK 16 x=true->dx m a=true->kE m (.mk 13 [] 0 li co [x] [] [a])
 |op_ {t:Bt}{li co:Int}{a b:bF}:t∈opsL->dx m a=true->dx m b=true->kE m (.mk 14 t 0 li co [] [] [a,b])
 |not_ {li co:Int}{a:bF}:dx m a=true->kE m (.mk 15 [] 0 li co [] [] [a])
 |SK {li co:Int}{a:bF}:dx m a=true->kE m (.mk 16 [] 0 li co [] [] [a])
 |DJ {li co:Int}{a:bF}:dx m a=true->kE m (.mk 17 [] 0 li co [] [] [a])
 |JD {li co:Int}:kE m (.mk 18 [] 0 li co [] [] [])
 |inst {t:Bt}{li co:Int}{x:bC}{ts:List bC}:dM t=true->(∀y∈x :: ts,aK 16 y=true)->kE m (.mk 19 t 0 li co (x :: ts) [] [])
theorem nT {α:Type}{l:List α}(h:l.length=0):l=[]:=List.eq_nil_of_length_eq_zero h
theorem len1 {α:Type}{l:List α}(h:l.length=1):∃a,l=[a]:=by match l,h with | [a],_=>exact⟨a,rfl⟩
theorem len2 {α:Type}{l:List α}(h:l.length=2):∃a b,l=[a,b]:=by match l,h with | [a,b],_=>exact⟨a,b,rfl⟩
theorem aeu {α:Type}{l:List α}(h:l.length=3):∃a b c,l=[a,b,c]:=by match l,h with | [a,b,c],_=>exact⟨a,b,c,rfl⟩
theorem vK {m:Nat}{x:bF}(h:dx (m+1) x=true):kE m x:=by
 obtain⟨k,text,n,li,co,ts,ns,ks⟩:=x;have h:(decide (0<=k∧k<20) && Ca k text n ts.length ns.length ks.length && ns.all dM && ts.all (aK 16) && ks.all (dx m))=true:=h;rw [Bool.and_eq_true,Bool.and_eq_true,Bool.and_eq_true,Bool.and_eq_true,decide_eq_true_eq]at h;obtain⟨⟨⟨⟨hk,ho⟩,hns⟩,hts⟩,hks⟩:=h;rw [List.all_eq_true]at hts hks;have hk2:k=0∨k=1∨k=2∨k=3∨k=4∨k=5∨k=6∨k=7∨k=8∨k=9∨k=10∨k=11∨k=12∨k=13∨k=14∨k=15∨k=16∨k=17∨k=18∨k=19:=by omega
 clear hk;unfold Ca at ho;rw [Bool.and_eq_true,Bool.and_eq_true,Bool.and_eq_true,decide_eq_true_eq,decide_eq_true_eq]at ho;obtain⟨⟨⟨⟨hn0,hn1⟩,htx⟩,hlo,hhi⟩,hkd⟩:=ho;rcases hk2 with rfl |rfl |rfl |rfl |rfl |rfl |rfl |rfl |rfl |rfl |rfl |rfl |rfl |rfl |rfl |rfl |rfl |rfl |rfl |rfl
 case inr.inr.inr.inr.inr.inr.inr.inr.inl=>
  have hkd:(ks.length==ns.length)=true:=hkd;have hhi:ts.length<=0:=hhi;have htx:(text==[])=true:=htx;have hn1:n<=0:=hn1;rw [beq_iff_eq]at hkd htx;obtain rfl:ts=[]:=nT (by omega);obtain rfl:n=0:=by omega
  subst htx;exact .wM hns hks hkd.symm
 all_goals
  simp only [dK,Int.reduceEq,if_true,if_false,or_self,or_true,true_or,Int.reduceLT,Int.reduceNeg]at hn1 htx hlo hhi hkd;rw [Bool.and_eq_true,beq_iff_eq,beq_iff_eq]at hkd;obtain⟨hnl,hkl⟩:=hkd;obtain rfl:ns=[]:=nT hnl;clear hnl hns
 all_goals
  simp only [qx,Int.reduceEq,if_true,if_false,Bool.false_eq_true,beq_iff_eq,List.contains_iff_mem]at htx
 ·subst htx;obtain rfl:=nT (l:=ts) (by omega);obtain rfl:=nT (l:=ks) (by omega);exact .int hn0 hn1
 ·obtain rfl:n=0:=by omega
  obtain rfl:=nT (l:=ts) (by omega);obtain rfl:=nT (l:=ks) (by omega);exact .str htx
 ·subst htx;obtain rfl:=nT (l:=ts) (by omega);obtain rfl:=nT (l:=ks) (by omega);exact .bool (by omega)
 ·subst htx;obtain rfl:n=0:=by omega
  obtain rfl:=nT (l:=ts) (by omega);obtain rfl:=nT (l:=ks) (by omega);exact .null
 ·obtain rfl:n=0:=by omega
  obtain rfl:=nT (l:=ts) (by omega);obtain rfl:=nT (l:=ks) (by omega);exact .name htx
 ·obtain rfl:n=0:=by omega
  obtain⟨a,b,rfl⟩:=len2 (l:=ks) (by omega);rcases Nat.lt_or_ge ts.length 1 with h |h
  ·obtain rfl:=nT (l:=ts) (by omega);exact .SH htx (hks a (by simp)) (hks b (by simp))
  ·obtain⟨x,rfl⟩:=len1 (l:=ts) (by omega);exact .SI htx (hts x (by simp)) (hks a (by simp)) (hks b (by simp))
 ·obtain rfl:n=0:=by omega
  obtain⟨a,rfl⟩:=len1 (l:=ks) (by omega);rcases Nat.lt_or_ge ts.length 2 with h |h
  ·obtain⟨x,rfl⟩:=len1 (l:=ts) (by omega);exact .fn1 htx (hts x (by simp)) (hks a (by simp))
  ·obtain⟨x,y,rfl⟩:=len2 (l:=ts) (by omega);exact .fn2 htx (hts x (by simp)) (hts y (by simp)) (hks a (by simp))
 ·subst htx;obtain rfl:n=0:=by omega
  obtain rfl:=nT (l:=ts) (by omega);obtain⟨a,b,rfl⟩:=len2 (l:=ks) (by omega);exact .call (hks a (by simp)) (hks b (by simp))
 ·obtain rfl:n=0:=by omega
  obtain rfl:=nT (l:=ts) (by omega);obtain⟨a,rfl⟩:=len1 (l:=ks) (by omega);exact .sel htx (hks a (by simp))
 ·obtain rfl:n=0:=by omega
  obtain rfl:=nT (l:=ts) (by omega);obtain⟨a,b,rfl⟩:=len2 (l:=ks) (by omega);exact .with_ htx (hks a (by simp)) (hks b (by simp))
 ·subst htx;obtain rfl:n=0:=by omega
  obtain rfl:=nT (l:=ts) (by omega);obtain⟨a,b,c,rfl⟩:=aeu (l:=ks) (by omega);exact .if_ (hks a (by simp)) (hks b (by simp)) (hks c (by simp))
 ·subst htx;obtain rfl:=nT (l:=ts) (by omega);obtain⟨a,rfl⟩:=len1 (l:=ks) (by omega);exact .is_ hn0 hn1 (hks a (by simp))
 ·subst htx;obtain rfl:n=0:=by omega
  obtain⟨a,rfl⟩:=len1 (l:=ks) (by omega);obtain⟨x,rfl⟩:=len1 (l:=ts) (by omega);exact .as_ (hts x (by simp)) (hks a (by simp))
 ·obtain rfl:n=0:=by omega
  obtain rfl:=nT (l:=ts) (by omega);obtain⟨a,b,rfl⟩:=len2 (l:=ks) (by omega);exact .op_ htx (hks a (by simp)) (hks b (by simp))
 ·subst htx;obtain rfl:n=0:=by omega
  obtain rfl:=nT (l:=ts) (by omega);obtain⟨a,rfl⟩:=len1 (l:=ks) (by omega);exact .not_ (hks a (by simp))
 ·subst htx;obtain rfl:n=0:=by omega
  obtain rfl:=nT (l:=ts) (by omega);obtain⟨a,rfl⟩:=len1 (l:=ks) (by omega);exact .SK (hks a (by simp))
 ·subst htx;obtain rfl:n=0:=by omega
  obtain rfl:=nT (l:=ts) (by omega);obtain⟨a,rfl⟩:=len1 (l:=ks) (by omega);exact .DJ (hks a (by simp))
 ·subst htx;obtain rfl:n=0:=by omega
  obtain rfl:=nT (l:=ts) (by omega);obtain rfl:=nT (l:=ks) (by omega);exact .JD
 ·obtain rfl:n=0:=by omega
  obtain rfl:=nT (l:=ks) (by omega)
  match ts,hlo with
  |x :: ts,_=>exact .inst htx hts
abbrev KT:=Int ×Bt
theorem bG {m:List aD}{a b:List KT}(h:m.map jK=a++b):∃m1 m2,m=m1++m2∧m1.map jK=a∧m2.map jK=b:=by
 obtain⟨m1,m2,h1,h2,h3⟩:=List.map_eq_append_iff.1 h;exact⟨m1,m2,h1,h2,h3⟩
theorem aI {m:List aD}{k:Int}{s:Bt}{l:List KT}(h:m.map jK=(k,s) :: l):∃t m',m=t :: m'∧t.kind=k∧t.text=s∧m'.map jK=l:=by
 cases m with
 |nil=>cases h
 |cons t m=>
  rw [List.map_cons]at h;injection h with h1 h2;injection h1 with h3 h4;exact⟨t,m,rfl,h3,h4,h2⟩
theorem eG {m:List aD}(h:m.map jK=[]):m=[]:=by simpa using h
def isK (k:Int)(s s':Bt):Bool:=(k==2 || k==5) && s==s'
theorem Ls {t:aD}{k:Int}{s:Bt}(h1:t.kind=k)(h2:t.text=s):lV t=isK k s:=by
 funext s';unfold lV isK;rw [h1,h2]
theorem oD {t:aD}{k:Int}{s:Bt}(h1:t.kind=k)(h2:t.text=s)(s':Bt):lV t s'=isK k s s':=by rw [Ls h1 h2]
def dF (l:List Bt)(r:List aD):Prop:=∀s∈l,lV (aW r) s=false
theorem kF {l:List Bt}{r:List aD}(h:dF l r):dJ l r=.good none r:=by
 unfold dJ;rw [List.findIdx?_eq_none_iff.2 fun s hs=>h s hs]
theorem sV {s:Bt}{r:List aD}(h:lV (aW r) s=false):fF s r=.good false r:=by
 unfold fF;rw [h];rfl
theorem aS {l:List Bt}{t:aD}{r:List aD}{k:Int}{s:Bt}(h1:t.kind=k)(h2:t.text=s)(h:l.all (fun s'=> !isK k s s')=true):dF l (t :: r):=by
 intro s' hs;have:=List.all_eq_true.1 h s' hs;rw [show aW (t :: r)=t from rfl,oD h1 h2];simpa using this
theorem dF.sub {l l':List Bt}{r:List aD}(h:dF l r)(hs:∀s∈l',s∈l):dF l' r:=fun s hm=>h s (hs s hm)
theorem fO {t:aD}{k:Int}{s:Bt}(h1:t.kind=k)(h2:t.text=s){l:List Bt}{i:Nat}(h:l.findIdx? (isK k s)=some i)(r:List aD):dJ l (t :: r)=.good (some i) r:=xV (by rw [Ls h1 h2];exact h) r
theorem iG {t:aD}{s:Bt}(h1:t.kind=2∨t.kind=5)(h2:t.text=s)(r:List aD):aN s (t :: r)=.good () r:=by
 unfold aN;rw [aj (vB (by unfold lV;rw [h2];rcases h1 with h |h <;> rw [h] <;> simp) r)];rfl
theorem wZ {t:aD}{s:Bt}(h1:t.kind=2∨t.kind=5)(h2:t.text=s)(r:List aD):fF s (t :: r)=.good true r:=vB (by unfold lV;rw [h2];rcases h1 with h |h <;> rw [h] <;> simp) r
theorem lG {t:aD}{s:Bt}(h1:t.kind=1)(h2:t.text=s)(r:List aD):nameP (t :: r)=.good s r:=by
 unfold nameP fK;rw [if_pos (show(aW (t :: r)).kind=1 from h1),if_neg (by decide)];show Pr.good t.text r= _;rw [h2]
theorem sZ:∀(p:List Pc) (l:List (List Pc)),aM (gB kD (p :: l))=aM p++(l.map aM).flatMap (fun x=>(5,[44]) :: x)
 |p,[]=>by simp [gB]
 |p,q :: l=>by
  rw [gB,bH,bH,sZ q l,show aM kD=[((5,[44]):KT)]from rfl];simp
theorem JE:∀(p:List Pc) (l:List (List Pc)),aM (gB Bp (p :: l))=aM p++(l.map aM).flatMap (fun x=>(5,[124]) :: x)
 |p,[]=>by simp [gB]
 |p,q :: l=>by
  rw [gB,bH,bH,JE q l,show aM Bp=[((5,[124]):KT)]from rfl];simp
theorem JF {α:Type}{one:Ps α}{S:List Bt}(hS:S.all (fun s'=> !isK 5 [44] s')=true):∀(l:List (List KT ×α)) (acc:List α) (f:Nat) (m r:List aD),
  (∀x∈l,∀m r,m.map jK=x.1->dF S r->one (m++r)=.good x.2 r)->m.map jK=(l.map (·.1)).flatMap (fun x=>(5,[44]) :: x)->l.length<=f->dF ([44] :: S) r->sG one f acc (m++r)=.good (acc++l.map (·.2)) r
 | [],acc,f,m,r,_,hm,_,hr=>by
  obtain rfl:=eG hm;rw [List.nil_append,List.map_nil,List.append_nil];cases f with
  |zero=>rfl
  |succ f=>
   unfold sG;rw [aj (sV (hr [44] (by simp)))];rfl
 |x :: l,acc,f,m,r,h,hm,hf,hr=>by
  cases f with
  |zero=>simp at hf
  |succ f=>
   rw [List.map_cons,List.flatMap_cons,List.cons_append]at hm;obtain⟨c,m',rfl,hc1,hc2,hm⟩:=aI hm;obtain⟨m1,m2,rfl,h1,h2⟩:=bG hm;have hr2:dF S (m2++r):=by
    cases l with
    |nil=>obtain rfl:=eG h2;exact hr.sub (by simp+contextual)
    |cons y l=>
     rw [List.map_cons,List.flatMap_cons,List.cons_append]at h2;obtain⟨d,m3,rfl,hd1,hd2,_⟩:=aI h2;exact aS hd1 hd2 hS
   unfold sG;rw [List.cons_append,aj (wZ (.inr hc1) hc2 _)];simp only [if_true,List.append_assoc];rw [aj (h x (by simp) m1 (m2++r) h1 hr2)];have:=JF hS l (acc++[x.2]) f m2 r (fun y hy=>h y (by simp [hy])) h2 (by simpa using hf) hr;rw [this];simp
theorem JG {α:Type}{one:Ps α}{S:List Bt}(hS:S.all (fun s'=> !isK 5 [44] s')=true)(x:List KT ×α)(l:List (List KT ×α))(m r:List aD)
  (h:∀y∈x :: l,∀m r,m.map jK=y.1->dF S r->one (m++r)=.good y.2 r) (hm:m.map jK=x.1++(l.map (·.1)).flatMap (fun x=>(5,[44]) :: x)) (hr:dF ([44] :: S) r):jN one (m++r)=.good (x.2 :: l.map (·.2)) r:=by
 obtain⟨m1,m2,rfl,h1,h2⟩:=bG hm;have hr2:dF S (m2++r):=by
  cases l with
  |nil=>obtain rfl:=eG h2;exact hr.sub (by simp+contextual)
  |cons y l=>
   rw [List.map_cons,List.flatMap_cons,List.cons_append]at h2;obtain⟨d,m3,rfl,hd1,hd2,_⟩:=aI h2;exact aS hd1 hd2 hS
 have hlen:l.length<=(m2++r).length:=by
  have:∀(l:List (List KT ×α)),l.length<=((l.map (·.1)).flatMap (fun x=>((5,[44]):KT) :: x)).length:=by
   intro l;induction l with
   |nil=>simp
   |cons y l ih=>simp only [List.map_cons,List.flatMap_cons,List.length_cons,List.length_append];omega
  have h3:=this l;rw [<-h2,List.length_map]at h3;rw [List.length_append];omega
 unfold jN;rw [List.append_assoc,aj (h x (by simp) m1 (m2++r) h1 hr2)];exact JF hS l [x.2] _ m2 r (fun y hy=>h y (by simp [hy])) h2 hlen hr
theorem yG {typ:Ps bC}:∀(l:List (List KT ×bC)) (acc:List bC) (f:Nat) (m r:List aD),
  (∀x∈l,∀m r,m.map jK=x.1->jT typ (m++r)=.good x.2 r)->m.map jK=(l.map (·.1)).flatMap (fun x=>(5,[124]) :: x)->l.length<=f->dF [[124]] r->qP typ f acc (m++r)=.good (acc++l.map (·.2)) r
 | [],acc,f,m,r,_,hm,_,hr=>by
  obtain rfl:=eG hm;rw [List.nil_append,List.map_nil,List.append_nil];cases f with
  |zero=>rfl
  |succ f=>
   unfold qP;rw [aj (sV (hr [124] (by simp)))];rfl
 |x :: l,acc,f,m,r,h,hm,hf,hr=>by
  cases f with
  |zero=>simp at hf
  |succ f=>
   rw [List.map_cons,List.flatMap_cons,List.cons_append]at hm;obtain⟨c,m',rfl,hc1,hc2,hm⟩:=aI hm;obtain⟨m1,m2,rfl,h1,h2⟩:=bG hm;unfold qP;rw [List.cons_append,aj (wZ (.inr hc1) hc2 _)];simp only [if_true,List.append_assoc];rw [aj (h x (by simp) m1 (m2++r) h1)];have:=yG l (acc++[x.2]) f m2 r (fun y hy=>h y (by simp [hy])) h2 (by simpa using hf) hr;rw [this];simp
def yH:List Bt:=[[124],[45,62]]
def DK (typ:Ps bC)(n:Nat):Prop:=∀t,aK n t=true->∀m r,m.map jK=aM (dZ t)->dF yH r->typ (m++r)=.good t r
def SL (typ:Ps bC)(n:Nat):Prop:=∀t,aK n t=true->t.kind≠6->t.kind≠7->∀m r,m.map jK=aM (dZ t)->jT typ (m++r)=.good t r
theorem xq (s:Bt)(l:List Pc):aM (.tok 5 s :: l)=(5,s) :: aM l:=rfl
theorem fM (k:Int)(s:Bt)(l:List Pc):aM (.tok k s :: l)=(k,s) :: aM l:=rfl
theorem jg (l:List Pc):aM (.sp :: l)=aM l:=rfl
theorem iA:aM []=[]:=rfl
theorem DL {typ:Ps bC}{n:Nat}(H:DK typ n){t:bC}(ht:aK n t=true){m r:List aD}(hm:m.map jK=(5,[40]) :: (aM (dZ t)++[(5,[41])])):jT typ (m++r)=.good t r:=by
 obtain⟨o,m',rfl,ho1,ho2,hm⟩:=aI hm;obtain⟨m1,m2,rfl,h1,h2⟩:=bG hm;obtain⟨c,m3,rfl,hc1,hc2,h3⟩:=aI h2;obtain rfl:=eG h3;unfold jT;rw [List.cons_append,aj (kF (aS ho1 ho2 (by decide)))];simp only;rw [aj (fO ho1 ho2 (i:=0) (by decide) _)];simp only;rw [List.append_assoc,aj (H t ht m1 ([c]++r) h1 (aS hc1 hc2 (by decide)))];rw [List.singleton_append,aj (iG (.inr hc1) hc2 _)];rfl
theorem Lu {typ:Ps bC}{n:Nat}(H:DK typ n)(HP:SL typ n){kk:List Int}{t:bC}(ht:aK n t=true)(hk:t.kind=6∨t.kind=7->kk.contains t.kind=true){m r:List aD}(hm:m.map jK=aM (iq kk t.kind (dZ t))):jT typ (m++r)=.good t r:=by
 unfold iq at hm;by_cases h:kk.contains t.kind=true
 ·rw [if_pos h,xq,bH]at hm;exact DL H ht hm
 ·rw [if_neg h]at hm;exact HP t ht (fun e=>h (hk (.inl e))) (fun e=>h (hk (.inr e))) m r hm
theorem rU {t:aD}(h:t.kind=1)(l:List Bt)(r:List aD):dF l (t :: r):=by
 intro s _;unfold lV;rw [show(aW (t :: r)).kind=1 from h];rfl
theorem DN:∀(ns:List Bt) (ks:List bC),(List.zipWith ig ns (ks.map dZ)).map aM=((ns.zip ks).map fun x=>(((1,x.1) :: (5,[58]) :: aM (dZ x.2),x):List KT ×(Bt ×bC))).map (·.1)
 | [],ks=>by simp
 |n :: ns,[]=>by simp
 |n :: ns,k :: ks=>by
  rw [List.map_cons,List.zipWith_cons_cons,List.map_cons,DN ns ks];rfl
theorem JH {typ:Ps bC}{n:Nat}(H:DK typ n):SL typ (n+1):=by
 intro t ht h6 h7 m r hm;have hf:=vI ht;cases hf with
 | @base k h0 h4=>
  have hk:k=0∨k=1∨k=2∨k=3∨k=4:=by omega
  rcases hk with rfl |rfl |rfl |rfl |rfl
  all_goals
   obtain⟨o,m',rfl,ho1,ho2,hm⟩:=aI hm;obtain rfl:=eG hm;unfold jT
  ·rw [List.cons_append,aj (fO ho1 ho2 (i:=0) (by decide) _)];rfl
  ·rw [List.cons_append,aj (fO ho1 ho2 (i:=1) (by decide) _)];rfl
  ·rw [List.cons_append,aj (fO ho1 ho2 (i:=2) (by decide) _)];rfl
  ·rw [List.cons_append,aj (fO ho1 ho2 (i:=3) (by decide) _)];rfl
  ·rw [List.cons_append,aj (fO ho1 ho2 (i:=4) (by decide) _)];rfl
 | @wM ns ks hns hks hl=>
  have e:dZ (.mk 5 [] ns ks)=.tok 5 [123] :: (gB kD (List.zipWith ig ns (iR ks))++[.tok 5 [125]]):=by rw [dZ];rfl
  rw [e,xq,bH]at hm;obtain⟨o,m',rfl,ho1,ho2,hm⟩:=aI hm;obtain⟨m1,m2,rfl,h1,h2⟩:=bG hm;obtain⟨c,m3,rfl,hc1,hc2,h3⟩:=aI h2;obtain rfl:=eG h3;unfold jT;rw [List.cons_append,aj (kF (aS ho1 ho2 (by decide)))];simp only;rw [aj (fO ho1 ho2 (i:=1) (by decide) _)];simp only;rw [List.append_assoc];cases ns with
  |nil=>
   obtain rfl:ks=[]:=List.eq_nil_of_length_eq_zero hl.symm;obtain rfl:=eG h1;rw [List.nil_append,List.singleton_append,aj (wZ (.inr hc1) hc2 _)];rfl
  |cons a ns=>
   cases ks with
   |nil=>cases hl
   |cons b ks=>
    have e1:List.zipWith ig (a :: ns) (iR (b :: ks))=ig a (dZ b) :: List.zipWith ig ns (ks.map dZ):=by rw [iR,rT];rfl
    rw [e1,sZ]at h1;have hz:(List.zipWith ig ns (ks.map dZ)).map aM=((ns.zip ks).map fun x=>(((1,x.1) :: (5,[58]) :: aM (dZ x.2),x):List KT ×(Bt ×bC))).map (·.1):=by
     exact DN ns ks
    have Lv:fF [125] (m1++([c]++r))=.good false (m1++([c]++r)):=by
     rw [show aM (ig a (dZ b))=(1,a) :: (5,[58]) :: aM (dZ b)from rfl,List.cons_append]at h1;obtain⟨d,m4,rfl,hd1,_,_⟩:=aI h1;exact sV (rU hd1 [[125]] _ [125] (by simp))
    rw [aj Lv];simp only [Bool.false_eq_true,if_false];rw [hz]at h1;have aa4:∀y∈(((1,a) :: (5,[58]) :: aM (dZ b),(a,b)):List KT ×(Bt ×bC)) :: ((ns.zip ks).map fun x=>(((1,x.1) :: (5,[58]) :: aM (dZ x.2),x):List KT ×(Bt ×bC))),∀m r,m.map jK=y.1->dF yH r->mJ typ (m++r)=.good y.2 r:=by
     have hone:∀(x:Bt ×bC),x.2∈b :: ks->∀m r,m.map jK=(1,x.1) :: (5,[58]) :: aM (dZ x.2)->dF yH r->mJ typ (m++r)=.good x r:=by
      intro x hx m r hm hr;obtain⟨d,m4,rfl,hd1,hd2,hm⟩:=aI hm;obtain⟨g,m5,rfl,hg1,hg2,hm⟩:=aI hm;unfold mJ;rw [List.cons_append,List.cons_append,aj (lG hd1 hd2 _),aj (iG (.inr hg1) hg2 _),aj (H x.2 (hks _ hx) m5 r hm hr)];rfl
     intro y hy;rcases List.mem_cons.1 hy with rfl |hy
     ·exact hone (a,b) (by simp)
     ·obtain⟨x,hx,rfl⟩:=List.mem_map.1 hy;exact hone x (by have:=List.of_mem_zip hx;simp [this.2])
    rw [aj (JG (S:=yH) (by decide) _ _ m1 ([c]++r) aa4 h1 (aS hc1 hc2 (by decide)))];rw [List.singleton_append,aj (iG (.inr hc1) hc2 _)];have hl2:ns.length=ks.length:=by simpa using hl
    have u1:((ns.zip ks).map fun x=>(((1,x.1) :: (5,[58]) :: aM (dZ x.2),x):List KT ×(Bt ×bC))).map (·.2)=ns.zip ks:=by rw [List.map_map];exact List.map_id _
    rw [u1];simp only [aJ,List.map_cons];rw [List.map_fst_zip (by omega),List.map_snd_zip (by omega)]
 |SE _ _=>exact absurd rfl h6
 |union _=>exact absurd rfl h7
 | @var nm hnm=>
  have e:dZ (.mk 8 nm [] [])=[.tok 1 nm]:=by rw [dZ];rfl
  rw [e]at hm;obtain⟨o,m',rfl,ho1,ho2,hm⟩:=aI hm;obtain rfl:=eG hm;unfold jT;rw [List.cons_append,aj (kF (rU ho1 _ _))];simp only;rw [aj (kF (rU ho1 _ _))];simp only;rw [aj (lG ho1 ho2 _)];rfl
theorem xw:∀{n:Nat}{t:bC},aK n t=true->aK (n+1) t=true
 |0,t,h=>by cases t;simp [aK]at h
 |n+1,.mk k nm ns ks,h=>by
  have h:(ns.all dM && ks.all (aK n) && eZ k nm ns.length ks.length)=true:=h;show(ns.all dM && ks.all (aK (n+1)) && eZ k nm ns.length ks.length)=true;rw [Bool.and_eq_true,Bool.and_eq_true]at h ⊢;refine⟨⟨h.1.1,?_⟩,h.2⟩;rw [List.all_eq_true]at*
  exact fun x hx=>xw (List.all_eq_true.1 h.1.2 x hx)
theorem JI {typ:Ps bC}{n:Nat}(H:DK typ n){t:bC}(ht:aK (n+1) t=true)(h6:t.kind≠6){m r:List aD}(hm:m.map jK=aM (dZ t))(hr:dF [[124]] r):
  ∃l,iW l=t∧au (jT typ) (fun a ts=>qP typ ts.length [a] ts) (m++r)=.good l r:=by
 by_cases h7:t.kind=7
 ·have hf:=vI ht;cases hf with
  | @base k h0 h4=>exact absurd (show k=7 from h7) (by omega)
  |wM _ _ _=>cases h7
  |SE _ _=>cases h7
  |var _=>cases h7
  | @union a b l hks=>
   have HP:SL typ n:=by
    cases n with
    |zero=>intro t ht;exact absurd ht (by cases t;simp [aK])
    |succ n=>exact JH fun t ht=>H t (xw ht)
   have e:dZ (.mk 7 [] [] (a :: b :: l))=gB Bp (iq [6,7] a.kind (dZ a) :: List.zipWith (iq [6,7]) ((b :: l).map bC.kind) ((b :: l).map dZ)):=by rw [dZ,rT];rfl
   rw [e,JE]at hm;have hz:(List.zipWith (iq [6,7]) ((b :: l).map bC.kind) ((b :: l).map dZ)).map aM=((b :: l).map fun x=>((aM (iq [6,7] x.kind (dZ x)),x):List KT ×bC)).map (·.1):=by
    rw [List.zipWith_map,List.zipWith_self,List.map_map,List.map_map];rfl
   rw [hz]at hm;obtain⟨m1,m2,rfl,h1,h2⟩:=bG hm;have hin:∀x∈a :: b :: l,∀m r,m.map jK=aM (iq [6,7] x.kind (dZ x))->jT typ (m++r)=.good x r:=fun x hx m r hm=>Lu H HP (hks x hx) (fun h=>by rcases h with h |h <;> rw [h] <;> rfl) hm;refine⟨a :: b :: l,rfl,?_⟩;rw [List.append_assoc,aj (hin a (by simp) m1 (m2++r) h1)];have hlen:(b :: l).length<=(m2++r).length:=by
    have hh:∀(l:List (List KT ×bC)),l.length<=((l.map (·.1)).flatMap (fun x=>((5,[124]):KT) :: x)).length:=by
     intro l;induction l with
     |nil=>simp
     |cons y l ih=>simp only [List.map_cons,List.flatMap_cons,List.length_cons,List.length_append];omega
    have h3:=hh ((b :: l).map fun x=>((aM (iq [6,7] x.kind (dZ x)),x):List KT ×bC));rw [<-h2,List.length_map,List.length_map]at h3;rw [List.length_append];omega
   have:=yG (typ:=typ) ((b :: l).map fun x=>((aM (iq [6,7] x.kind (dZ x)),x):List KT ×bC)) [a] (m2++r).length m2 r (fun y hy=>by
    obtain⟨x,hx,rfl⟩:=List.mem_map.1 hy;exact hin x (by simp only [List.mem_cons]at hx ⊢;exact .inr hx)) h2 (by rw [List.length_map];exact hlen) hr
   rw [this,List.map_map];simp [Function.comp_def]
 ·refine⟨[t],rfl,?_⟩;rw [aj (JH H t ht h6 h7 m r hm)];have:=yG (typ:=typ) [] [t] r.length [] r (fun y hy=>by simp at hy) rfl (by simp) hr;simpa using this
theorem yI:∀(n:Nat) (t:bC),aK n t=true->∀N,n<=N->∀(m r:List aD),m.map jK=aM (dZ t)->dF yH r->(aU N).typ (m++r)=.good t r
 |0,t,h=>by cases t;simp [aK]at h
 |n+1,t,ht=>by
  intro N hN m r hm hr;obtain⟨N,rfl⟩:∃N',N=N'+1:=⟨N - 1,by omega⟩
  have H:DK (aU N).typ n:=fun t ht m r hm hr=>yI n t ht N (by omega) m r hm hr;show FZ (aU N).typ (m++r)= _;have VZ:∀(ts:List aD) (l:List bC) (r:List aD),au (jT (aU N).typ) (fun a ts=>qP (aU N).typ ts.length [a] ts) ts=.good l r->FZ (aU N).typ ts=(au (fF [45,62]) fun b=>if b then au (aU N).typ fun r=>aJ (.mk 6 [] [] [iW l,r])else aJ (iW l)) r:=by
   intro ts l r h;unfold FZ;unfold au at h ⊢;cases hp:jT (aU N).typ ts with
   |bad d=>rw [hp]at h;cases h
   |good a r1=>
    rw [hp]at h;simp only at h ⊢;rw [h]
  by_cases h6:t.kind=6
  ·have hf:=vI ht;cases hf with
   | @base k h0 h4=>exact absurd (show k=6 from h6) (by omega)
   |wM _ _ _=>cases h6
   |union _=>cases h6
   |var _=>cases h6
   | @SE a b ha hb=>
    have e:dZ (.mk 6 [] [] [a,b])=iq [6] a.kind (dZ a)++(.sp :: .tok 5 [45,62] :: .sp :: dZ b):=by rw [dZ,rT];rfl
    rw [e,bH,jg,fM,jg]at hm;obtain⟨m1,m2,rfl,h1,h2⟩:=bG hm;obtain⟨c,m3,rfl,hc1,hc2,h3⟩:=aI h2;obtain⟨l,hl,hp⟩:∃l,iW l=a∧au (jT (aU N).typ) (fun a ts=>qP (aU N).typ ts.length [a] ts) (m1++(c :: (m3++r)))=.good l (c :: (m3++r)):=by
     have hr1:dF [[124]] (c :: (m3++r)):=aS hc1 hc2 (by decide);unfold iq at h1;by_cases ha6:a.kind=6
     ·rw [if_pos (by rw [ha6];rfl),xq,bH]at h1;refine⟨[a],rfl,?_⟩;rw [aj (DL H ha h1)];have:=yG (typ:=(aU N).typ) [] [a] (c :: (m3++r)).length [] (c :: (m3++r)) (fun y hy=>by simp at hy) rfl (by simp) hr1;simpa using this
     ·rw [if_neg (by simpa using ha6)]at h1;exact JI H (xw ha) ha6 h1 hr1
    rw [List.append_assoc,List.cons_append,VZ _ _ _ hp,aj (wZ (.inr hc1) hc2 _)];simp only [if_true];rw [aj (H b hb m3 r h3 hr),hl];rfl
  ·obtain⟨l,hl,hp⟩:=JI H ht h6 hm (hr.sub (by simp [yH]));rw [VZ _ _ _ hp,aj (sV (hr [45,62] (by simp [yH]))),hl];rfl
end Go.Proofs.YtfgjkmipfikooaaGreatDoor
