/- RW, RX, RC, OC, XW, OB -/
import Derived.Test.YtfgjkmipfikooaaGreatDoorTK02
import Derived.Test.YtfgjkmipfikooaaGreatDoorTK20
import Derived.Test.YtfgjkmipfikooaaGreatDoorTK14
import Derived.Test.YtfgjkmipfikooaaGreatDoorTK19
import Derived.Test.YtfgjkmipfikooaaGreatDoorTK18
import Derived.Test.YtfgjkmipfikooaaGreatDoorTK03
import Derived.Test.YtfgjkmipfikooaaGreatDoorCards
import Derived.Test.YtfgjkmipfikooaaGreatDoorTie
import Derived.ProofKit
import Derived.OpenShut
import Derived.LaidMore
import Derived.LaidSub
import Derived.Stop.Joined
import Derived.Stop.LaidErr
import Derived.Lib.LaidTab
import Derived.Deep.DeepHandedRow
import Derived.Deep.DeepWitnessRowRef
import Derived.Test.YtfgjkmipfikooaaGreatDoorRows
set_option linter.unusedSimpArgs false
set_option linter.unusedVariables false
set_option maxRecDepth 100000
set_option maxHeartbeats 8000000
namespace Go.Proofs.YtfgjkmipfikooaaGreatDoor
open Go.RowKit
abbrev KT:=Int ×Bt
theorem jU {m:List aF} {a b:List KT} (h:m.map jM=a++b):∃m1 m2,m=m1++m2∧m1.map jM=a∧m2.map jM=b:=by
 obtain⟨m1,m2,h1,h2,h3⟩:=List.map_eq_append_iff.1 h;exact⟨m1,m2,h1,h2,h3⟩
theorem gY {m:List aF} {k:Int} {s:Bt} {l:List KT} (h:m.map jM=(k,s) :: l):∃t m',m=t :: m'∧t.kind=k∧t.text=s∧m'.map jM=l:=by
 cases m with
 | nil=>cases h
 | cons t m=>
  rw [List.map_cons]at h;injection h with h1 h2;injection h1 with h3 h4;exact⟨t,m,rfl,h3,h4,h2⟩
theorem oH {m:List aF} (h:m.map jM=[]):m=[]:=by simpa using h
def isK (k:Int) (s s':Bt):Bool:=(k==2 || k==5) && s==s'
theorem Nh {t:aF} {k:Int} {s:Bt} (h1:t.kind=k) (h2:t.text=s):kP t=isK k s:=by
 funext s';unfold kP isK;rw [h1,h2]
theorem OZ {t:aF} {k:Int} {s:Bt} (h1:t.kind=k) (h2:t.text=s) (s':Bt):kP t s'=isK k s s':=by rw [Nh h1 h2]
def fq (l:List Bt) (r:List aF):Prop:=∀s∈l,kP (aS r) s=false
theorem uo {l:List Bt} {r:List aF} (h:fq l r):bW l r= .good none r:=by
 unfold bW;rw [List.findIdx?_eq_none_iff.2 fun s hs=>h s hs]
theorem xL {s:Bt} {r:List aF} (h:kP (aS r) s=false):dO s r= .good false r:=by
 unfold dO;rw [h];rfl
theorem gG {l:List Bt} {t:aF} {r:List aF} {k:Int} {s:Bt} (h1:t.kind=k) (h2:t.text=s) (h:l.all (fun s'=> !isK k s s')=true):fq l (t :: r):=by
 intro s' hs;have:=List.all_eq_true.1 h s' hs;rw [show aS (t :: r)=t from rfl,OZ h1 h2];simpa using this
theorem fq.sub {l l':List Bt} {r:List aF} (h:fq l r) (hs:∀s∈l',s∈l):fq l' r:=fun s hm=>h s (hs s hm)
theorem oI {t:aF} {k:Int} {s:Bt} (h1:t.kind=k) (h2:t.text=s) {l:List Bt} {i:Nat} (h:l.findIdx? (isK k s)=some i) (r:List aF):bW l (t :: r)= .good (some i) r:=xZ (by rw [Nh h1 h2];exact h) r
theorem Cj {t:aF} {s:Bt} (h1:t.kind=2∨t.kind=5) (h2:t.text=s) (r:List aF):aI s (t :: r)= .good () r:=by
 unfold aI;rw [aj (qw (by unfold kP;rw [h2];rcases h1 with h | h <;> rw [h] <;> simp) r)];rfl
theorem Ck {t:aF} {s:Bt} (h1:t.kind=2∨t.kind=5) (h2:t.text=s) (r:List aF):dO s (t :: r)= .good true r:=qw (by unfold kP;rw [h2];rcases h1 with h | h <;> rw [h] <;> simp) r
theorem Iu {t:aF} {s:Bt} (h1:t.kind=1) (h2:t.text=s) (r:List aF):nameP (t :: r)= .good s r:=by
 unfold nameP dY;rw [if_pos (show(aS (t :: r)).kind=1 from h1),if_neg (by decide)];show Pr.good t.text r= _;rw [h2]
theorem zC:∀(p:List Pc) (l:List (List Pc)),bP (eZ jS (p :: l))=bP p++(l.map bP).flatMap (fun x=>(5,[44]) :: x)
 | p,[]=>by simp [eZ]
 | p,q :: l=>by
  rw [eZ,eF,eF,zC q l,show bP jS=[((5,[44]):KT)]from rfl];simp
theorem EL:∀(p:List Pc) (l:List (List Pc)),bP (eZ wP (p :: l))=bP p++(l.map bP).flatMap (fun x=>(5,[124]) :: x)
 | p,[]=>by simp [eZ]
 | p,q :: l=>by
  rw [eZ,eF,eF,EL q l,show bP wP=[((5,[124]):KT)]from rfl];simp
theorem EM {α:Type} {one:Ps α} {S:List Bt} (hS:S.all (fun s'=> !isK 5 [44] s')=true):∀(l:List (List KT ×α)) (acc:List α) (f:Nat) (m r:List aF),
  (∀x∈l,∀m r,m.map jM=x.1→fq S r→one (m++r)= .good x.2 r)→m.map jM=(l.map (·.1)).flatMap (fun x=>(5,[44]) :: x)→l.length≤f→fq ([44] :: S) r→qI one f acc (m++r)= .good (acc++l.map (·.2)) r
 | [],acc,f,m,r, _,hm, _,hr=>by
  obtain rfl:=oH hm;rw [List.nil_append,List.map_nil,List.append_nil];cases f with
  | zero=>rfl
  | succ f=>
   unfold qI;rw [aj (xL (hr [44] (by simp)))];rfl
 | x :: l,acc,f,m,r,h,hm,hf,hr=>by
  cases f with
  | zero=>simp at hf
  | succ f=>
   rw [List.map_cons,List.flatMap_cons,List.cons_append]at hm;obtain⟨c,m',rfl,hc1,hc2,hm⟩:=gY hm;obtain⟨m1,m2,rfl,h1,h2⟩:=jU hm;have hr2:fq S (m2++r):=by
    cases l with
    | nil=>obtain rfl:=oH h2;exact hr.sub (by simp+contextual)
    | cons y l=>
     rw [List.map_cons,List.flatMap_cons,List.cons_append]at h2;obtain⟨d,m3,rfl,hd1,hd2, _⟩:=gY h2;exact gG hd1 hd2 hS
   unfold qI;rw [List.cons_append,aj (Ck (.inr hc1) hc2 _)];simp only [if_true,List.append_assoc];rw [aj (h x (by simp) m1 (m2++r) h1 hr2)];have:=EM hS l (acc++[x.2]) f m2 r (fun y hy=>h y (by simp [hy])) h2 (by simpa using hf) hr;rw [this];simp
theorem Ni {α:Type} {one:Ps α} {S:List Bt} (hS:S.all (fun s'=> !isK 5 [44] s')=true) (x:List KT ×α) (l:List (List KT ×α)) (m r:List aF)
  (h:∀y∈x :: l,∀m r,m.map jM=y.1→fq S r→one (m++r)= .good y.2 r) (hm:m.map jM=x.1++(l.map (·.1)).flatMap (fun x=>(5,[44]) :: x)) (hr:fq ([44] :: S) r):iK one (m++r)= .good (x.2 :: l.map (·.2)) r:=by
 obtain⟨m1,m2,rfl,h1,h2⟩:=jU hm;have hr2:fq S (m2++r):=by
  cases l with
  | nil=>obtain rfl:=oH h2;exact hr.sub (by simp+contextual)
  | cons y l=>
   rw [List.map_cons,List.flatMap_cons,List.cons_append]at h2;obtain⟨d,m3,rfl,hd1,hd2, _⟩:=gY h2;exact gG hd1 hd2 hS
 have hlen:l.length≤(m2++r).length:=by
  have:∀(l:List (List KT ×α)),l.length≤((l.map (·.1)).flatMap (fun x=>((5,[44]):KT) :: x)).length:=by
   intro l;induction l with
   | nil=>simp
   | cons y l ih=>simp only [List.map_cons,List.flatMap_cons,List.length_cons,List.length_append];omega
  have h3:=this l;rw [←h2,List.length_map]at h3;rw [List.length_append];omega
 unfold iK;rw [List.append_assoc,aj (h x (by simp) m1 (m2++r) h1 hr2)];exact EM hS l [x.2] _ m2 r (fun y hy=>h y (by simp [hy])) h2 hlen hr
theorem uq {typ:Ps aZ}:∀(l:List (List KT ×aZ)) (acc:List aZ) (f:Nat) (m r:List aF),
  (∀x∈l,∀m r,m.map jM=x.1→ig typ (m++r)= .good x.2 r)→m.map jM=(l.map (·.1)).flatMap (fun x=>(5,[124]) :: x)→l.length≤f→fq [[124]] r→mY typ f acc (m++r)= .good (acc++l.map (·.2)) r
 | [],acc,f,m,r, _,hm, _,hr=>by
  obtain rfl:=oH hm;rw [List.nil_append,List.map_nil,List.append_nil];cases f with
  | zero=>rfl
  | succ f=>
   unfold mY;rw [aj (xL (hr [124] (by simp)))];rfl
 | x :: l,acc,f,m,r,h,hm,hf,hr=>by
  cases f with
  | zero=>simp at hf
  | succ f=>
   rw [List.map_cons,List.flatMap_cons,List.cons_append]at hm;obtain⟨c,m',rfl,hc1,hc2,hm⟩:=gY hm;obtain⟨m1,m2,rfl,h1,h2⟩:=jU hm;unfold mY;rw [List.cons_append,aj (Ck (.inr hc1) hc2 _)];simp only [if_true,List.append_assoc];rw [aj (h x (by simp) m1 (m2++r) h1)];have:=uq l (acc++[x.2]) f m2 r (fun y hy=>h y (by simp [hy])) h2 (by simpa using hf) hr;rw [this];simp
def zD:List Bt:=[[124],[45,62]]
def zF (typ:Ps aZ) (n:Nat):Prop:=∀t,aH n t=true→∀m r,m.map jM=bP (dZ t)→fq zD r→typ (m++r)= .good t r
def Nj (typ:Ps aZ) (n:Nat):Prop:=∀t,aH n t=true→t.kind≠6→t.kind≠7→∀m r,m.map jM=bP (dZ t)→ig typ (m++r)= .good t r
theorem sF (s:Bt) (l:List Pc):bP (.tok 5 s :: l)=(5,s) :: bP l:=rfl
theorem J8 (k:Int) (s:Bt) (l:List Pc):bP (.tok k s :: l)=(k,s) :: bP l:=rfl
theorem Iw (l:List Pc):bP (.sp :: l)=bP l:=rfl
theorem zG {typ:Ps aZ} {n:Nat} (H:zF typ n) {t:aZ} (ht:aH n t=true) {m r:List aF} (hm:m.map jM=(5,[40]) :: (bP (dZ t)++[(5,[41])])):ig typ (m++r)= .good t r:=by
 obtain⟨o,m',rfl,ho1,ho2,hm⟩:=gY hm;obtain⟨m1,m2,rfl,h1,h2⟩:=jU hm;obtain⟨c,m3,rfl,hc1,hc2,h3⟩:=gY h2;obtain rfl:=oH h3;unfold ig;rw [List.cons_append,aj (uo (gG ho1 ho2 (by decide)))];simp only;rw [aj (oI ho1 ho2 (i:=0) (by decide) _)];simp only;rw [List.append_assoc,aj (H t ht m1 ([c]++r) h1 (gG hc1 hc2 (by decide)))];rw [List.singleton_append,aj (Cj (.inr hc1) hc2 _)];rfl
theorem GN {typ:Ps aZ} {n:Nat} (H:zF typ n) (HP:Nj typ n) {kk:List Int} {t:aZ} (ht:aH n t=true) (hk:t.kind=6∨t.kind=7→kk.contains t.kind=true) {m r:List aF} (hm:m.map jM=bP (fE kk t.kind (dZ t))):ig typ (m++r)= .good t r:=by
 unfold fE at hm;by_cases h:kk.contains t.kind=true
 ·rw [if_pos h,sF,eF]at hm;exact zG H ht hm
 ·rw [if_neg h]at hm;exact HP t ht (fun e=>h (hk (.inl e))) (fun e=>h (hk (.inr e))) m r hm
theorem vF {t:aF} (h:t.kind=1) (l:List Bt) (r:List aF):fq l (t :: r):=by
 intro s _;unfold kP;rw [show(aS (t :: r)).kind=1 from h];rfl
theorem zH:∀(ns:List Bt) (ks:List aZ),(List.zipWith iC ns (ks.map dZ)).map bP=((ns.zip ks).map fun x=>(((1,x.1) :: (5,[58]) :: bP (dZ x.2),x):List KT ×(Bt ×aZ))).map (·.1)
 | [],ks=>by simp
 | n :: ns,[]=>by simp
 | n :: ns,k :: ks=>by
  rw [List.map_cons,List.zipWith_cons_cons,List.map_cons,zH ns ks];rfl
theorem EN {typ:Ps aZ} {n:Nat} (H:zF typ n):Nj typ (n+1):=by
 intro t ht h6 h7 m r hm;have hf:=qG ht;cases hf with
 | @base k h0 h4=>
  have hk:k=0∨k=1∨k=2∨k=3∨k=4:=by omega
  rcases hk with rfl | rfl | rfl | rfl | rfl
  all_goals
   obtain⟨o,m',rfl,ho1,ho2,hm⟩:=gY hm;obtain rfl:=oH hm;unfold ig
  ·rw [List.cons_append,aj (oI ho1 ho2 (i:=0) (by decide) _)];rfl
  ·rw [List.cons_append,aj (oI ho1 ho2 (i:=1) (by decide) _)];rfl
  ·rw [List.cons_append,aj (oI ho1 ho2 (i:=2) (by decide) _)];rfl
  ·rw [List.cons_append,aj (oI ho1 ho2 (i:=3) (by decide) _)];rfl
  ·rw [List.cons_append,aj (oI ho1 ho2 (i:=4) (by decide) _)];rfl
 | @zP ns ks hns hks hl=>
  have e:dZ (.mk 5 [] ns ks)= .tok 5 [123] :: (eZ jS (List.zipWith iC ns (fV ks))++[.tok 5 [125]]):=by rw [dZ];rfl
  rw [e,sF,eF]at hm;obtain⟨o,m',rfl,ho1,ho2,hm⟩:=gY hm;obtain⟨m1,m2,rfl,h1,h2⟩:=jU hm;obtain⟨c,m3,rfl,hc1,hc2,h3⟩:=gY h2;obtain rfl:=oH h3;unfold ig;rw [List.cons_append,aj (uo (gG ho1 ho2 (by decide)))];simp only;rw [aj (oI ho1 ho2 (i:=1) (by decide) _)];simp only;rw [List.append_assoc];cases ns with
  | nil=>
   obtain rfl:ks=[]:=List.eq_nil_of_length_eq_zero hl.symm;obtain rfl:=oH h1;rw [List.nil_append,List.singleton_append,aj (Ck (.inr hc1) hc2 _)];rfl
  | cons a ns=>
   cases ks with
   | nil=>cases hl
   | cons b ks=>
    have e1:List.zipWith iC (a :: ns) (fV (b :: ks))=iC a (dZ b) :: List.zipWith iC ns (ks.map dZ):=by rw [fV,nV];rfl
    rw [e1,zC]at h1;have hz:(List.zipWith iC ns (ks.map dZ)).map bP=((ns.zip ks).map fun x=>(((1,x.1) :: (5,[58]) :: bP (dZ x.2),x):List KT ×(Bt ×aZ))).map (·.1):=by
     exact zH ns ks
    have R8:dO [125] (m1++([c]++r))= .good false (m1++([c]++r)):=by
     rw [show bP (iC a (dZ b))=(1,a) :: (5,[58]) :: bP (dZ b)from rfl,List.cons_append]at h1;obtain⟨d,m4,rfl,hd1, _, _⟩:=gY h1;exact xL (vF hd1 [[125]] _ [125] (by simp))
    rw [aj R8];simp only [Bool.false_eq_true,if_false];rw [hz]at h1;have U9:∀y∈(((1,a) :: (5,[58]) :: bP (dZ b),(a,b)):List KT ×(Bt ×aZ)) :: ((ns.zip ks).map fun x=>(((1,x.1) :: (5,[58]) :: bP (dZ x.2),x):List KT ×(Bt ×aZ))),∀m r,m.map jM=y.1→fq zD r→jO typ (m++r)= .good y.2 r:=by
     have hone:∀(x:Bt ×aZ),x.2∈b :: ks→∀m r,m.map jM=(1,x.1) :: (5,[58]) :: bP (dZ x.2)→fq zD r→jO typ (m++r)= .good x r:=by
      intro x hx m r hm hr;obtain⟨d,m4,rfl,hd1,hd2,hm⟩:=gY hm;obtain⟨g,m5,rfl,hg1,hg2,hm⟩:=gY hm;unfold jO;rw [List.cons_append,List.cons_append,aj (Iu hd1 hd2 _),aj (Cj (.inr hg1) hg2 _),aj (H x.2 (hks _ hx) m5 r hm hr)];rfl
     intro y hy;rcases List.mem_cons.1 hy with rfl | hy
     ·exact hone (a,b) (by simp)
     ·obtain⟨x,hx,rfl⟩:=List.mem_map.1 hy;exact hone x (by have:=List.of_mem_zip hx;simp [this.2])
    rw [aj (Ni (S:=zD) (by decide) _ _ m1 ([c]++r) U9 h1 (gG hc1 hc2 (by decide)))];rw [List.singleton_append,aj (Cj (.inr hc1) hc2 _)];have hl2:ns.length=ks.length:=by simpa using hl
    have u1:((ns.zip ks).map fun x=>(((1,x.1) :: (5,[58]) :: bP (dZ x.2),x):List KT ×(Bt ×aZ))).map (·.2)=ns.zip ks:=by rw [List.map_map];exact List.map_id _
    rw [u1];simp only [aG,List.map_cons];rw [List.map_fst_zip (by omega),List.map_snd_zip (by omega)]
 | Na _ _=>exact absurd rfl h6
 | union _=>exact absurd rfl h7
 | @var nm hnm=>
  have e:dZ (.mk 8 nm [] [])=[.tok 1 nm]:=by rw [dZ];rfl
  rw [e]at hm;obtain⟨o,m',rfl,ho1,ho2,hm⟩:=gY hm;obtain rfl:=oH hm;unfold ig;rw [List.cons_append,aj (uo (vF ho1 _ _))];simp only;rw [aj (uo (vF ho1 _ _))];simp only;rw [aj (Iu ho1 ho2 _)];rfl
theorem sG:∀ {n:Nat} {t:aZ},aH n t=true→aH (n+1) t=true
 | 0,t,h=>by cases t;simp [aH]at h
 | n+1, .mk k nm ns ks,h=>by
  have h:(ns.all bY && ks.all (aH n) && dI k nm ns.length ks.length)=true:=h;show(ns.all bY && ks.all (aH (n+1)) && dI k nm ns.length ks.length)=true;rw [Bool.and_eq_true,Bool.and_eq_true]at h ⊢;refine⟨⟨h.1.1, ?_⟩,h.2⟩;rw [List.all_eq_true]at*
  exact fun x hx=>sG (List.all_eq_true.1 h.1.2 x hx)
theorem EO {typ:Ps aZ} {n:Nat} (H:zF typ n) {t:aZ} (ht:aH (n+1) t=true) (h6:t.kind≠6) {m r:List aF} (hm:m.map jM=bP (dZ t)) (hr:fq [[124]] r):
  ∃l,gy l=t∧au (ig typ) (fun a ts=>mY typ ts.length [a] ts) (m++r)= .good l r:=by
 by_cases h7:t.kind=7
 ·have hf:=qG ht;cases hf with
  | @base k h0 h4=>exact absurd (show k=7 from h7) (by omega)
  | zP _ _ _=>cases h7
  | Na _ _=>cases h7
  | var _=>cases h7
  | @union a b l hks=>
   have HP:Nj typ n:=by
    cases n with
    | zero=>intro t ht;exact absurd ht (by cases t;simp [aH])
    | succ n=>exact EN fun t ht=>H t (sG ht)
   have e:dZ (.mk 7 [] [] (a :: b :: l))=eZ wP (fE [6,7] a.kind (dZ a) :: List.zipWith (fE [6,7]) ((b :: l).map aZ.kind) ((b :: l).map dZ)):=by rw [dZ,nV];rfl
   rw [e,EL]at hm;have hz:(List.zipWith (fE [6,7]) ((b :: l).map aZ.kind) ((b :: l).map dZ)).map bP=((b :: l).map fun x=>((bP (fE [6,7] x.kind (dZ x)),x):List KT ×aZ)).map (·.1):=by
    rw [List.zipWith_map,List.zipWith_self,List.map_map,List.map_map];rfl
   rw [hz]at hm;obtain⟨m1,m2,rfl,h1,h2⟩:=jU hm;have hin:∀x∈a :: b :: l,∀m r,m.map jM=bP (fE [6,7] x.kind (dZ x))→ig typ (m++r)= .good x r:=fun x hx m r hm=>GN H HP (hks x hx) (fun h=>by rcases h with h | h <;> rw [h] <;> rfl) hm;refine⟨a :: b :: l,rfl, ?_⟩;rw [List.append_assoc,aj (hin a (by simp) m1 (m2++r) h1)];have hlen:(b :: l).length≤(m2++r).length:=by
    have hh:∀(l:List (List KT ×aZ)),l.length≤((l.map (·.1)).flatMap (fun x=>((5,[124]):KT) :: x)).length:=by
     intro l;induction l with
     | nil=>simp
     | cons y l ih=>simp only [List.map_cons,List.flatMap_cons,List.length_cons,List.length_append];omega
    have h3:=hh ((b :: l).map fun x=>((bP (fE [6,7] x.kind (dZ x)),x):List KT ×aZ));rw [←h2,List.length_map,List.length_map]at h3;rw [List.length_append];omega
   have:=uq (typ:=typ) ((b :: l).map fun x=>((bP (fE [6,7] x.kind (dZ x)),x):List KT ×aZ)) [a] (m2++r).length m2 r (fun y hy=>by
    obtain⟨x,hx,rfl⟩:=List.mem_map.1 hy;exact hin x (by simp only [List.mem_cons]at hx ⊢;exact .inr hx)) h2 (by rw [List.length_map];exact hlen) hr
   rw [this,List.map_map];simp [Function.comp_def]
 ·refine⟨[t],rfl, ?_⟩;rw [aj (EN H t ht h6 h7 m r hm)];have:=uq (typ:=typ) [] [t] r.length [] r (fun y hy=>by simp at hy) rfl (by simp) hr;simpa using this
theorem ER:∀(n:Nat) (t:aZ),aH n t=true→∀N,n≤N→∀(m r:List aF),m.map jM=bP (dZ t)→fq zD r→(bJ N).typ (m++r)= .good t r
 | 0,t,h=>by cases t;simp [aH]at h
 | n+1,t,ht=>by
  intro N hN m r hm hr;obtain⟨N,rfl⟩:∃N',N=N'+1:=⟨N - 1,by omega⟩
  have H:zF (bJ N).typ n:=fun t ht m r hm hr=>ER n t ht N (by omega) m r hm hr;show Bv (bJ N).typ (m++r)= _;have Qm:∀(ts:List aF) (l:List aZ) (r:List aF),au (ig (bJ N).typ) (fun a ts=>mY (bJ N).typ ts.length [a] ts) ts= .good l r→Bv (bJ N).typ ts=(au (dO [45,62]) fun b=>if b then au (bJ N).typ fun r=>aG (.mk 6 [] [] [gy l,r])else aG (gy l)) r:=by
   intro ts l r h;unfold Bv;unfold au at h ⊢;cases hp:ig (bJ N).typ ts with
   | bad d=>rw [hp]at h;cases h
   | good a r1=>
    rw [hp]at h;simp only at h ⊢;rw [h]
  by_cases h6:t.kind=6
  ·have hf:=qG ht;cases hf with
   | @base k h0 h4=>exact absurd (show k=6 from h6) (by omega)
   | zP _ _ _=>cases h6
   | union _=>cases h6
   | var _=>cases h6
   | @Na a b ha hb=>
    have e:dZ (.mk 6 [] [] [a,b])=fE [6] a.kind (dZ a)++(.sp :: .tok 5 [45,62] :: .sp :: dZ b):=by rw [dZ,nV];rfl
    rw [e,eF,Iw,J8,Iw]at hm;obtain⟨m1,m2,rfl,h1,h2⟩:=jU hm;obtain⟨c,m3,rfl,hc1,hc2,h3⟩:=gY h2;obtain⟨l,hl,hp⟩:∃l,gy l=a∧au (ig (bJ N).typ) (fun a ts=>mY (bJ N).typ ts.length [a] ts) (m1++(c :: (m3++r)))= .good l (c :: (m3++r)):=by
     have hr1:fq [[124]] (c :: (m3++r)):=gG hc1 hc2 (by decide);unfold fE at h1;by_cases YC:a.kind=6
     ·rw [if_pos (by rw [YC];rfl),sF,eF]at h1;refine⟨[a],rfl, ?_⟩;rw [aj (zG H ha h1)];have:=uq (typ:=(bJ N).typ) [] [a] (c :: (m3++r)).length [] (c :: (m3++r)) (fun y hy=>by simp at hy) rfl (by simp) hr1;simpa using this
     ·rw [if_neg (by simpa using YC)]at h1;exact EO H (sG ha) YC h1 hr1
    rw [List.append_assoc,List.cons_append,Qm _ _ _ hp,aj (Ck (.inr hc1) hc2 _)];simp only [if_true];rw [aj (H b hb m3 r h3 hr),hl];rfl
  ·obtain⟨l,hl,hp⟩:=EO H ht h6 hm (hr.sub (by simp [zD]));rw [Qm _ _ _ hp,aj (xL (hr [45,62] (by simp [zD]))),hl];rfl
def Nk:List Bt:=[[108,101,116],[105,102],[102,110],[45],[110,111,116]]
def oJ (l:List KT):Prop:=∃k s r,l=(k,s) :: r∧Nk.all (fun s'=> !isK k s s')=true∧(k=1→r=[]∨∃s2 r2,r=(5,s2) :: r2∧s2≠[58])
theorem oJ.more {l r:List KT} (h:oJ l) {s:Bt} (hs:s≠[58]):oJ (l++(5,s) :: r):=by
 obtain⟨k,s0,r0,rfl,h1,h2⟩:=h;refine⟨k,s0,r0++(5,s) :: r,rfl,h1,fun h=> ?_⟩;rcases h2 h with rfl | ⟨s2,r2,rfl,h3⟩
 ·exact .inr ⟨s,r,rfl,hs⟩
 ·exact .inr ⟨s2, _,rfl,h3⟩
theorem oJ.one {k:Int} {s:Bt} {r:List KT} (h1:Nk.all (fun s'=> !isK k s s')=true) (h2:k≠1):oJ ((k,s) :: r):=⟨k,s,r,rfl,h1,fun h=>absurd h h2⟩
theorem oJ.next {l:List KT} {m r:List aF} (h:oJ l) (hm:m.map jM=l):fq Nk (m++r):=by
 obtain⟨k,s0,r0,rfl,h1, _⟩:=h;obtain⟨t,m',rfl,ht1,ht2, _⟩:=gY hm;exact gG ht1 ht2 h1
section
variable (li co:Int)
end
theorem Bo:∀(f:Nat) (s:Bt) (p:Nat ×Nat) (out:List aF) (l:List (Int ×Bt)),uE f s=some l→out.length≤8192→8192<out.length+l.length→(kL f s p out).2.2.2=19
 | 0,s,p,out,l,h, _, _=>by simp [uE]at h
 | f+1,s,p,out,l,h,ho,h8=>by
  rw [uE]at h;rw [kL];by_cases hnil:s.drop (aV s)=[]
  ·rw [if_pos hnil]at h;injection h with h;subst h;simp at h8;omega
  ·rw [if_neg hnil]at h ⊢;cases hn:dQ (s.drop (aV s))with
   | inl e=>rw [hn]at h;cases h
   | inr x=>
    obtain⟨kd,t,n⟩:=x;rw [hn]at h;simp only at h ⊢;rw [Option.map_eq_some_iff]at h;obtain⟨l',h1,rfl⟩:=h;by_cases Zp:out.length=8192
    ·rw [if_pos Zp]
    ·rw [if_neg Zp];exact Bo f _ _ _ l' h1 (by simp;omega) (by simp at h8 ⊢;omega)
theorem Cm {α:Type} {p:Ps α} {l:List Pc} (h:EA l) (hs:(dW l).length≤65536) (Q:α→Prop) (hp:∀(m:List aF) (e:aF),m.map jM=bP l→e.kind=0→∃a,Q a∧p (m++[e])= .good a [e]):
  (∃d,bH p (dW l)=(none,d)∧d.2.2=19)∨∃a,Q a∧bH p (dW l)=(some a,(0,0,0)):=by
 by_cases h8:(bP l).length≤8192
 ·obtain⟨m,e,h1,h2,h3⟩:=EF h hs h8;have he:e.kind=0:=congrArg Prod.fst h3;obtain⟨a,ha,hq⟩:=hp m e h1.symm he;exact .inr ⟨a,ha,JD h2 he hq⟩
 ·left;have h9:=Bo _ (dW l) (1,1) [] _ (kG l _ h.ok (Nat.lt_succ_self _)) (by simp) (by simpa using Nat.lt_of_not_le h8);refine⟨(fZ (dW l)).2, ?_, ?_⟩
  ·unfold bH;rw [if_neg];rw [xW _ hs,h9];decide
  ·rw [xW _ hs,h9]
theorem J9 {t:aZ} (h:aH 16 t=true) (hs:(bV t).length≤65536):(∃d,bH (bJ 100).typ (bV t)=(none,d)∧d.2.2=19)∨bH (bJ 100).typ (bV t)=(some t,(0,0,0)):=by
 obtain⟨h1,h2, _⟩:=xK 16 t h;rw [←h2]at hs ⊢;rcases Cm h1.1 hs (fun a=>a=t) fun ts e hm he=>⟨t,rfl,ER 16 t h 100 (by decide) ts [e] hm (fun s _=>oF he s)⟩with h | ⟨a,rfl,h⟩
 ·exact .inl h
 ·exact .inr h
theorem GQ {t:aZ} (h:lN t≠[]):aH 16 t=true∧lN t=bV t:=by
 unfold lN at*
 cases hw:aH 16 t with
 | true=>exact⟨rfl,by simp⟩
 | false=>rw [hw]at h;exact absurd rfl h
theorem GR {t:aZ} (h:lN t≠[]) (hl:(lN t).length≤20000):(bH (bJ 100).typ (lN t)).2.2.2=19∨(bH (bJ 100).typ (lN t)).2=(0,0,0)∧qV (bJ 100).typ (lN t) tZ=t:=by
 obtain⟨hw,he⟩:=GQ h;rw [he]at hl ⊢;rcases J9 hw (by omega)with⟨d,h1,h2⟩ | h1
 ·left;rw [h1];exact h2
 ·right;refine⟨by rw [h1], ?_⟩;unfold qV;rw [h1];rfl
theorem Nl (w:World) (b1 b2:Nat) (z1 z2:List Value) (t:aZ) (h1:nX w w.heap.size z1 t) (h2:nX w w.heap.size z2 t) (p1:w.heap[b1]? =some (.cells z1.toArray 57 (0,0))) (p2:w.heap[b2]? =some (.cells z2.toArray 57 (0,0))):
  Calls Tryz.prog 23 #[.agg #[.int .i64 0, .string ⟨#[]⟩, .int .i64 0, .int .i64 0, .int .i64 0, .slice (some ⟨b1,0,none⟩) 1 1, .slice none 0 0, .slice none 0 0], .agg #[.int .i64 0, .string ⟨#[]⟩, .int .i64 0, .int .i64 0, .int .i64 0, .slice (some ⟨b2,0,none⟩) 1 1, .slice none 0 0, .slice none 0 0]] w
   fun e w'=>e= .returned (.bool true)∧Below w.heap.size w w':=by
 have one:∀(b:Nat) (z:List Value),nX w w.heap.size z t→w.heap[b]? =some (.cells z.toArray 57 (0,0))→rA w w.heap.size [.int .i64 0,sv [], .int .i64 0, .int .i64 0, .int .i64 0, .slice (some ⟨b,0,none⟩) 1 1, .slice none 0 0, .slice none 0 0] (.mk 0 [] 0 0 0 [t] [] []):=by
  intro b z h hp;obtain⟨k,s,A1,n1,c1,A2,n2,c2,rfl⟩:=h.shape;have hs:dw w (fun j=>j=b) 4 (.slice (some ⟨b,0,none⟩) 1 1) _:=gI hp 4 1 rfl (by omega);exact .mk (hs.to fun g hg _=>hg) (.cons h .nil) (Sl.nil _ _ _) (Sl.nil _ _ _) .nil
 exact J5 _ w _ _ (one b1 z1 h1 p1) (one b2 z2 h2 p2)
theorem xM (z:List Value) (t:aZ) (w:World) (hr:nX w w.heap.size z t) (hok:CF t) (hc:iL t≤300000) (hX:jZ w):
  Calls Tryz.prog 8 #[.agg z.toArray] w fun e w'=>e= .returned (.bool true)∧Below w.heap.size w w':=by
 obtain⟨k,s,A1,n1,c1,A2,n2,c2,rfl⟩:=hr.shape;obtain⟨W,hW⟩:∃W,w.alloc (.cells #[.int .i64 k, .string s, .slice A1 n1 c1, .slice A2 n2 c2] 57)=W:=⟨_,rfl⟩
 have hb1:Below w.heap.size w W:=by rw [←hW];exact new1 _ _
 have hbx:W.heap[w.heap.size]? =some (.cells #[.int .i64 k, .string s, .slice A1 n1 c1, .slice A2 n2 c2] 57 (0,0)):=by rw [←hW];exact wY w _
 have HA:=hid (GA W (hX.below hb1));have HFR:=hid (fun(w1:World) (h:Below W.heap.size W w1)=>hr.far (Nat.le_refl _) (hb1.trans (h.mono hb1.size)));have HX:=hid (hX.below hb1);have HB:=hid hb1;have qB:=hid hbx;have zM:=hid hW;have HT:=hid (fun(w1:World) (h:Below W.heap.size W w1)=>JK w1 _ t (hr.far (Nat.le_refl _) (hb1.trans (h.mono hb1.size))) hok hc ((hX.below hb1).below h).t);have YD:=hid (fun(w1:World) (h:Below W.heap.size W w1)=>D9 w1 (lN t) ((hX.below hb1).below h));have QE:=hid (GR (t:=t));clear hr hX hb1 hbx hok hc;obtain⟨S,hS⟩:∃S,lN t=S:=⟨_,rfl⟩
 rw [hS]at HT YD QE;have Om:=bT S;clear hS;obtain⟨g0,g1,g2,g3⟩:=ni qB.out;go_enter Tryz.func8,Tryz.ntmps8;go_wp2_with fail;clear hW zM;refine HA.out.mono ?_;rintro e w2 ⟨rfl,hb⟩;have HB2:=hid hb;clear g0 g1 g2 g3;obtain⟨g0,g1,g2,g3⟩:=ni ((hb.block _ (block_lt qB.out)).trans qB.out);clear hb;go_wp2_with fail;refine(HT.out w2 HB2.out).mono ?_;rintro e w3 ⟨rfl,hb⟩;have HB3:=hid (HB2.out.trans (hb.mono HB2.out.size));clear hb g0 g1 g2 g3;by_cases h0:S=[]
 ·have q0:(S==[])=true:=by simp [h0]
  go_wp2_with fail;go_ret;exact⟨rfl,HB.out.trans (HB3.out.mono HB.out.size)⟩
 have q0:(S==[])=false:=by simp [h0]
 by_cases h5:(20000:Int)<S.length
 ·go_wp2_with fail;go_ret;exact⟨rfl,HB.out.trans (HB3.out.mono HB.out.size)⟩
 have hbk:=QE.out h0 (by omega);obtain⟨D,hD⟩:∃D,(bH (bJ 100).typ S).2=D:=⟨_,rfl⟩
 have YE:=YD.out w3 HB3.out;rw [hD]at hbk YE;have YF:=hid YE;have YG:=hid hbk;clear hbk YE hD QE YD h0;go_wp2_with fail;refine YF.out.mono ?_;rintro e w4 ⟨hb4,z4,rfl,SC⟩;have o8:=hid (HB3.out.trans (hb4.mono HB3.out.size));obtain⟨k4,s4,A3,n3,c3,A4,n4,c4,rfl⟩:=SC.shape';have hs4:=hb4.size;obtain⟨W4,Kl⟩:∃W4,(w4.alloc (.cells #[.int .i64 k4,sv s4, .slice A3 n3 c3, .slice A4 n4 c4] 57)).alloc (.cells #[.int .i64 0, .int .i64 D.1, .int .i64 D.2.1, .int .i64 D.2.2] 45)=W4:=⟨_,rfl⟩
 have Ab:Below w4.heap.size w4 W4:=by rw [←Kl];exact new2 _ _ _
 obtain⟨_, _,Qk,hd4⟩:=gL (G:=fun _=>False) (Turn.refl _ ((w4.alloc (.cells #[.int .i64 k4,sv s4, .slice A3 n3 c3, .slice A4 n4 c4] 57)).alloc (.cells #[.int .i64 0, .int .i64 D.1, .int .i64 D.2.1, .int .i64 D.2.2] 45)));rw [Kl]at Qk hd4;have RX:W4.heap.size=w4.heap.size+2:=by rw [←Kl];simp
 have N7:=hid (Qk id);have HD4:=hid (hd4 id);have JZ:=hid (o8.out.trans (Ab.mono o8.out.size));have uR:=hid (SC.turn (Turn.of_below (F:=fun _=>False) Ab) (fun _ _ _=>id));have U7:=hid Kl;clear hb4 SC Ab Qk hd4 Kl;rcases YG.out with h19 | ⟨hD0,Va⟩
 ·have q1:(D.2.2==19)=true:=by simp [h19]
  clear h19;go_wp2_with fail;go_ret;rw [U7.out];exact⟨rfl,HB.out.trans (JZ.out.mono HB.out.size)⟩
 have hz:=uR.out;rw [Va]at hz;obtain⟨W5,Vb⟩:∃W5,W4.alloc (.cells #[.int .i64 k4,sv s4, .slice A3 n3 c3, .slice A4 n4 c4] 57)=W5:=⟨_,rfl⟩
 obtain⟨W6,Ia⟩:∃W6,W5.alloc (.cells #[.int .i64 k, .string s, .slice A1 n1 c1, .slice A2 n2 c2] 57)=W6:=⟨_,rfl⟩
 have b5:Below W4.heap.size W4 W5:=by rw [←Vb];exact new1 _ _
 have b6:Below W5.heap.size W5 W6:=by rw [←Ia];exact new1 _ _
 have s5:W5.heap.size=W4.heap.size+1:=by rw [←Vb];simp
 have s6:W6.heap.size=W5.heap.size+1:=by rw [←Ia];simp
 have p5:W5.heap[W4.heap.size]? =some (.cells #[.int .i64 k4,sv s4, .slice A3 n3 c3, .slice A4 n4 c4] 57 (0,0)):=by rw [←Vb];exact wY _ _
 have p6:W6.heap[W5.heap.size]? =some (.cells #[.int .i64 k, .string s, .slice A1 n1 c1, .slice A2 n2 c2] 57 (0,0)):=by rw [←Ia];exact wY _ _
 have Vx:Below W4.heap.size W4 W6:=b5.trans (b6.mono b5.size);have Rq:=hid (JZ.out.trans (Vx.mono JZ.out.size));have HD6:=hid ((Vx.block _ (by omega)).trans HD4.out);have hc6:=Nl W6 W4.heap.size W5.heap.size _ _ t (hz.turn (Turn.of_below (F:=fun _=>False) Vx) (fun _ _ _=>id)).all (HFR.out W6 Rq.out) ((b6.block _ (by omega)).trans p5) p6;rw [s5,RX]at hc6;have Zq:=hid hc6;have Sw:=hid Ia;have Zr:=hid Vb;obtain⟨g0,g1,g2,g3⟩:=ni ((o8.out.block _ (block_lt qB.out)).trans qB.out);have gl:w.heap.size<w4.heap.size:=by have:=o8.out.size;have:=block_lt qB.out;omega
 have gl2:w.heap.size<w4.heap.size+1:=by omega
 have gl3:w.heap.size<w4.heap.size+1+1:=by omega
 subst hD0;clear Va hz b5 b6 p5 p6 Vx hc6 Vb Ia;have K4:=Zq.out;rw [←Sw.out, ←Zr.out, ←U7.out]at K4;have HC7:=hid K4;clear K4 Zq;go_wp2_with fail;refine HC7.out.mono ?_;rintro e w7 ⟨rfl,hb⟩;rw [U7.out,Zr.out,Sw.out]at hb;have zT:=hid (Rq.out.trans (hb.mono Rq.out.size));obtain⟨d0,d1,d2,d3,dz⟩:=bS ((hb.block _ (block_lt HD6.out)).trans HD6.out);clear hb g0 g1 g2 g3;go_wp2_with fail;go_ret;exact⟨rfl,HB.out.trans (zT.out.mono HB.out.size)⟩
section
open Go.ChangeShapes Go.WideShapes Go.ChangeAt Go.RowKit
theorem own:ownKnob Tryz.prog.godebug=none:=by kernel_rfl
theorem laidOut:laidOutB Tryz.prog=true:=by kernel_rfl
theorem Iy: "*" ++ "errors.errorString" = "*errors.errorString" :=by decide
theorem Nn (u:TypeId) (h:Tryz.prog.typeName? 3 u=some "*errors.errorString"):u=344:=
 typeName_ptr_named (nm:= "errors.errorString") (by rw [Iy];kernel_rfl) (by kernel_rfl) (by decide) u (by rw [Iy];exact h)
theorem Km {l:List (String ×DataW Unit)} {W:World} (hp:(l.all fun x=>x.2.handleName?.isNone)=true)
  (h1:(l.filter fun x=>x.1== "internal/strconv.uint64pow10")=[("internal/strconv.uint64pow10",Lib.tabData .u64 Lib.pow10Tab)])
  (h2:(l.filter fun x=>x.1== "strconv.ErrSyntax")=[("strconv.ErrSyntax",Rows.laid_strconv_ErrSyntax)])
  (h3:(l.filter fun x=>x.1== "strconv.ErrRange")=[("strconv.ErrRange",Rows.laid_strconv_ErrRange)])
  (h:laidMetH Tryz.prog l W):mO W:=by
 have g1:=laidMetH.filter (fun x=>x.1== "internal/strconv.uint64pow10") h;have g2:=laidMetH.filter (fun x=>x.1== "strconv.ErrSyntax") h;have g3:=laidMetH.filter (fun x=>x.1== "strconv.ErrRange") h;rw [h1]at g1;rw [h2]at g2;rw [h3]at g3;rw [MakeChecks.laidMetH_plain _ _ _ (by kernel_rfl)]at g1;rw [MakeChecks.laidMetH_plain _ _ _ (by kernel_rfl)]at g2;rw [MakeChecks.laidMetH_plain _ _ _ (by kernel_rfl)]at g3;obtain⟨a2, _,e2, _⟩:=laid_sentinel g2 (g:=4) (by kernel_rfl) (by kernel_rfl) Tryz.underlying116 Nn Tryz.underlying344 Tryz.underlying346 rfl rfl Tryz.underlying9 (by kernel_rfl) (by kernel_rfl);obtain⟨a3, _,e3, _⟩:=laid_sentinel g3 (g:=5) (by kernel_rfl) (by kernel_rfl) Tryz.underlying116 Nn Tryz.underlying344 Tryz.underlying346 rfl rfl Tryz.underlying9 (by kernel_rfl) (by kernel_rfl);refine⟨?_,⟨_, _,e2⟩,⟨_, _,e3⟩⟩;exact Lib.tabIs_of_head (g:=3) (by kernel_rfl) (by kernel_rfl) Tryz.underlying308 Tryz.underlying238 (by kernel_rfl) (by kernel_rfl) g1
theorem Kn {l:List (String ×DataW Unit)} {W:World}
  (h1:(l.filter fun x=>x.1== "strings.asciiSpace")=[("strings.asciiSpace",Lib.tabData .u8 Lib.asciiSpaceTab)])
  (h:laidMetH Tryz.prog l W):Lib.TabIs Tryz.prog W "strings.asciiSpace" .u8 Lib.asciiSpaceTab:=by
 have g1:=laidMetH.filter (fun x=>x.1== "strings.asciiSpace") h;rw [h1]at g1;rw [MakeChecks.laidMetH_plain _ _ _ (by kernel_rfl)]at g1;exact Lib.tabIs_of_head (g:=0) (by kernel_rfl) (by kernel_rfl) Tryz.underlying235 Tryz.underlying5 (by kernel_rfl) (by kernel_rfl) g1
end
section
open Go.ChangeShapes Go.WideShapes Go.ChangeAt Go.RowKit
inductive wQ {α β:Type} (Q:α→β→Prop):List α→List β→Prop
 | nil:wQ Q [] []
 | cons {a:α} {b:β} {l:List α} {m:List β}:Q a b→wQ Q l m→wQ Q (a :: l) (b :: m)
theorem wQ.snoc {α β:Type} {Q:α→β→Prop} {a:α} {b:β} (h:Q a b):∀ {l:List α} {m:List β},wQ Q l m→wQ Q (l++[a]) (m++[b])
 | _, _, .nil=> .cons h .nil
 | _, _, .cons h1 h2=> .cons h1 (h2.snoc h)
section
variable {H:Type} {enc:TypeId ×Value→H} {P:Program} {W:World}
theorem wQ.bulk {β:Type} {f:β→Nat}:∀ {l:List (DataW H)} {m:List β},wQ (fun d y=>f y≤Rows.uptoBulk d) l m→(m.map f).sum≤Rows.uptoBulkAll l
 | _, _, .nil=>by simp
 | _, _, .cons h1 h2=>by
  have:=wQ.bulk h2;rw [List.map_cons,List.sum_cons,Rows.uptoBulkAll];omega
theorem Ka {α:Type} {t e:TypeId} {k:Nat} (f:α→Nat) (ht:P.underlying t=some (.slice e)) (hc:P.cellsOf e=k) (hk:0<k) {fuel:Nat} {v:Value} {x:DataW H ×List MemPlace} (h:DataW.trod enc P W 0 (fun _=>true) true fuel t [v]=some x)
  (R:List Value→α→Prop) (hel:∀n cs' x',n<fuel→DataW.trod enc P W 0 (fun _=>true) true n e cs'=some x'→cs'.length=k→∃y,R cs' y∧f y≤Rows.uptoBulk x'.1):
  ∃(xs:List Value) (ys:List α),Sl W W.heap.size k v xs∧dh R k xs ys∧(ys.map f).sum+1≤Rows.uptoBulk x.1:=by
 rcases DataW.trod_slice ht h with⟨hcs,hx⟩ | ⟨a,len,cap,elems,rest,n,hf,hcs,hx,hb,hl,hm,hlen,hcell, _, _⟩
 ·obtain rfl:v= .slice none 0 0:=by simpa using hcs
  exact⟨[],[],Sl.nil _ _ _, .nil,by rw [hx];exact Nat.le_refl 1⟩
 ·obtain rfl:v= .slice (some a) len cap:=by simpa using hcs
  have hone:∀i,i<len→∃cs' y,W.cells? 0 (a.add (i*k)) k=some cs'∧R cs' y∧cs'.length=k∧∀(hi:i<elems.length),f y≤Rows.uptoBulk elems[i].1:=by
   intro i hi;have h1:=hcell i hi;rw [hc,List.getElem?_eq_getElem (by omega)]at h1;obtain⟨cs',h2,h3⟩:=Option.bind_eq_some_iff.1 h1;have hcl:=(World.cells?_some h2).2.1;obtain⟨y,hy1,hy2⟩:=hel n cs' _ (by omega) h3 hcl;exact⟨cs',y,h2,hy1,hcl,fun _=>hy2⟩
  have hall:∀m,m≤len→∃(xs:List Value) (ys:List α),dh R k xs ys∧ys.length=m∧(∀j u,xs[j]? =some u→W.cell? (a.add j)=some u)∧wQ (fun d y=>f y≤Rows.uptoBulk d) ((elems.take m).map (·.1)) ys:=by
   intro m;induction m with
   | zero=>exact fun _=>⟨[],[], .nil,rfl,fun j u hu=>by simp at hu,by simpa using wQ.nil⟩
   | succ m ih=>
    intro hm1;obtain⟨xs,ys,h1,h2,h3,h4⟩:=ih (by omega);obtain⟨cs',y,h5,h6,h7,h8⟩:=hone m (by omega);have hxl:xs.length=m*k:=by rw [h1.len,h2]
    refine⟨xs++cs',ys++[y],h1.snoc h7 h6,by rw [List.length_append,h2];rfl,fun j u hu=> ?_, ?_⟩
    ·rcases Nat.lt_or_ge j xs.length with hj | hj
     ·rw [List.getElem?_append_left hj]at hu;exact h3 j u hu
     ·rw [List.getElem?_append_right hj]at hu;have hjk:j - xs.length<k:=by
       rcases Nat.lt_or_ge (j - xs.length) k with hlt | hge
       ·exact hlt
       ·rw [List.getElem?_eq_none (by omega)]at hu;cases hu
      have h9:=(World.cells?_some h5).2.2 (j - xs.length) hjk;rw [hu]at h9;have hadd:(a.add (m*k)).add (j - xs.length)=a.add j:=by
       rw [Deep.add_add, ←hxl];congr 1;omega
      rw [hadd]at h9;exact h9
    ·rw [List.take_succ_eq_append_getElem (by omega),List.map_append];exact wQ.snoc (Q:=fun d y=>f y≤Rows.uptoBulk d) (h8 (by omega)) h4
  obtain⟨xs,ys,h1,h2,h3,h4⟩:=hall len (Nat.le_refl _);have hxl:xs.length=len*k:=by rw [h1.len,h2]
  refine⟨xs,ys,⟨some a,len,cap,rfl,hxl,hl,hm,fun h0=> ?_⟩,h1, ?_⟩
  ·have hp:0<xs.length:=by rw [hxl];exact Nat.mul_pos h0 hk
   have h5:=h3 0 xs[0] (by simp [hp]);obtain⟨b,off,spot⟩:=a;have hspot:spot=none:=by simpa [Addr.add]using World.cell?_spot h5
   subst hspot;refine⟨b,off,rfl, ?_,fun j u hu=> ?_⟩
   ·rw [jw]at h5;exact World.block_lt_of_cell? W _ h5
   ·have:=h3 j u hu;rw [jw]at this;exact this
  ·rw [←hlen,List.take_length]at h4;have:=h4.bulk;rw [hx,Rows.uptoBulk];omega
end
theorem Qn:∀l:List aZ,(l.map fun y=>4*iL y).sum=4*fH l
 | []=>by simp [fH]
 | t :: l=>by rw [List.map_cons,List.sum_cons,Qn l,fH];omega
section
variable {H:Type} {enc:TypeId ×Value→H} {W:World}
theorem zI (d:DataW H):1≤Rows.uptoBulk d:=by
 cases d <;> (try (rename_i l;cases l)) <;> simp [Rows.uptoBulk]
theorem Np:∀(fuel:Nat) (cs:List Value) (x:DataW H ×List MemPlace),DataW.trod enc Tryz.prog W 0 (fun _=>true) true fuel 57 cs=some x→∃y,nX W W.heap.size cs y∧CF y∧4*iL y≤Rows.uptoBulk x.1:=by
 intro fuel;induction fuel using Nat.strongRecOn with
 | _ fuel ih=>
  intro cs x h;obtain⟨xs,n,hn,rfl,hl,hlen,hf⟩:=DataW.trod_struct Tryz.underlying57 h;rw [show Tryz.prog.cellsOf 57=4 by kernel_rfl]at hl
  match cs,hl,xs,hlen with
  | [u0,u1,u2,u3], _,[y0,y1,y2,y3], _=>
   have t0:DataW.trod enc Tryz.prog W 0 (fun _=>true) true n 3 [u0]=some y0:=hf 0 _ rfl;have t1:DataW.trod enc Tryz.prog W 0 (fun _=>true) true n 9 [u1]=some y1:=hf 1 _ rfl;have t2:DataW.trod enc Tryz.prog W 0 (fun _=>true) true n 25 [u2]=some y2:=hf 2 _ rfl;have t3:DataW.trod enc Tryz.prog W 0 (fun _=>true) true n 49 [u3]=some y3:=hf 3 _ rfl;obtain⟨k,rfl,hk⟩:=Vy t0;obtain⟨nm,rfl,hnm⟩:=SH t1;obtain⟨ns,r2,o2⟩:=NJ t2
   obtain⟨zk,ks,f1,f2,f3⟩:=Ka (fun y=>4*iL y) Tryz.underlying49 (k:=4) (by kernel_rfl) (by omega) t3 (fun cs y=>nX W W.heap.size cs y∧CF y) (fun m cs' x' hm ht _=>by
    obtain⟨y,a1,a2,a3⟩:=ih m (by omega) cs' x' ht;exact⟨y,⟨a1,a2⟩,a3⟩)
   obtain⟨g1,g2⟩:=NI f2;refine⟨.mk k nm ns ks, .mk r2 f1 g1, ?_, ?_⟩
   ·rw [CF];exact⟨hk,hnm,o2,xX.2 g2⟩
   ·rw [Qn]at f3;rw [iL,Rows.uptoBulk];simp only [List.map_cons,List.map_nil,Rows.uptoBulkAll];have b0:=zI y0.1;have b1:=zI y1.1;have b2:=zI y2.1;omega
theorem E9 {v:Value} {d:DataW H} {p:List MemPlace} (hd:DataW.Trod enc Tryz.prog W 0 (fun _=>true) true 57 v d p):∃(z:List Value) (y:aZ),v=Value.agg z.toArray∧nX W W.heap.size z y∧CF y∧4*iL y≤Rows.uptoBulk d:=by
 obtain⟨z,hv,hz⟩:=IV (k:=4) (by omega) ⟨_,Tryz.underlying57⟩ (by kernel_rfl) hd;obtain⟨fuel,h⟩:=hd;rw [hz]at h;obtain⟨y,h1,h2,h3⟩:=Np fuel z _ h;exact⟨z,y,hv,h1,h2,h3⟩
end
end
end Go.Proofs.YtfgjkmipfikooaaGreatDoor
