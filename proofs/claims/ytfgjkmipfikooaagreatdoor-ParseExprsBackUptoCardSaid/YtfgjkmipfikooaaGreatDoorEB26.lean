/- RZ, RC, ON, OB, XW -/
import Derived.Test.YtfgjkmipfikooaaGreatDoorEB25
import Derived.Test.YtfgjkmipfikooaaGreatDoorCards
import Derived.Test.YtfgjkmipfikooaaGreatDoorTie
import Derived.LaidMore
import Derived.Stop.LaidErr
import Derived.Deep.DeepWitnessRowRef
set_option linter.unusedSimpArgs false
set_option linter.unusedVariables false
set_option maxRecDepth 100000
set_option maxHeartbeats 8000000
namespace Go.Proofs.YtfgjkmipfikooaaGreatDoor
open Go.RowKit
def Bf (x:bF):yS:=⟨[],[⟨[],false,[],[],[],x,0,0⟩]⟩
theorem Q9 {x y:bF}(h:fE x=fE y):zP (Bf x)=zP (Bf y):=by
 unfold Bf zP Mc;simp [h]
theorem FY (w:World)(B k:Nat):Sl w B k (.slice none 0 0) []:=⟨none,0,0,rfl,by simp,Nat.le_refl _,Nat.zero_le _,fun h=>absurd h (by simp)⟩
theorem Mv (w:World)(x:bF)(v0 v1 v2 v3 v4 v5 v6 v7:Value)(hz:tT w w.heap.size [v0,v1,v2,v3,v4,v5,v6,v7] x):
  Gr (w.alloc (.cells #[.string ⟨#[]⟩,.bool false,.slice none 0 0,.string ⟨#[]⟩,.slice none 0 0,v0,v1,v2,v3,v4,v5,v6,v7,.int .i64 0,.int .i64 0] 64)) (w.alloc (.cells #[.string ⟨#[]⟩,.bool false,.slice none 0 0,.string ⟨#[]⟩,.slice none 0 0,v0,v1,v2,v3,v4,v5,v6,v7,.int .i64 0,.int .i64 0] 64)).heap.size
   [.slice none 0 0,.slice (some ⟨w.heap.size,0,none⟩) 1 1] (Bf x):=by
 have hs:(w.alloc (.cells #[.string ⟨#[]⟩,.bool false,.slice none 0 0,.string ⟨#[]⟩,.slice none 0 0,v0,v1,v2,v3,v4,v5,v6,v7,.int .i64 0,.int .i64 0] 64)).heap.size=w.heap.size+1:=by simp
 have hsl:=iB w #[.string ⟨#[]⟩,.bool false,.slice none 0 0,.string ⟨#[]⟩,.slice none 0 0,v0,v1,v2,v3,v4,v5,v6,v7,.int .i64 0,.int .i64 0] 64 15 1 rfl (by decide);refine⟨_,[],_,_,rfl,FY _ _ _,.nil,by rw [hs];exact hsl,?_⟩;refine zX (by rfl) ⟨.slice none 0 0,[],.slice none 0 0,[],[v0,v1,v2,v3,v4,v5,v6,v7],rfl,FY _ _ _,.nil,FY _ _ _,.nil,?_⟩;exact hz.far (Nat.le_refl _) (new1 _ _)
theorem dG (k:Int)(t:Bt)(n:Int)(h:aD)(ts:List bC)(ns:List Bt)(ks:List bF):fE (aL k t n h ts ns ks)=.mk k t n 0 0 ts ns (aP ks):=by unfold aL;rw [fE]
theorem jW {N:Nat}{ts:List aD}:(aU (N+1)).expr ts=rA (aU N).typ (aU N).expr (aU N).unary ts:=rfl
theorem pW {typ:Ps bC}{expr unary:Ps bF}{t:aD}{k:Int}{s:Bt}(h1:t.kind=k)(h2:t.text=s){i:Nat}(h:([[108,101,116],[105,102],[102,110]]:List Bt).findIdx? (isK k s)=some i)(r:List aD):
  rA typ expr unary (t :: r)=(match i with
   |0=>au nameP fun s=>au (jd typ [] []) fun u=>au (bK expr [[61],[59]] []) fun k=>aJ (aL 5 s 0 t u [] k)
   |1=>au (bK expr [[],[116,104,101,110],[101,108,115,101]] []) fun k=>aJ (aL 11 [] 0 t [] [] k)
   |_=>au (kZ typ []) fun s=>au (bK expr [[61,62]] []) fun k=>aJ (aL 6 s.1 0 t s.2 [] k)) r:=by
 unfold rA;rw [aj (show fH (t :: r)=.good t (t :: r)from rfl),aj (fO h1 h2 h r)];rcases i with _ |_ |i <;> rfl
theorem pX {typ:Ps bC}{expr unary:Ps bF}{ts:List aD}(h:dF [[108,101,116],[105,102],[102,110]] ts):rA typ expr unary ts=jl typ unary 6 ts:=by
 unfold rA;rw [aj (show fH ts=.good (aW ts) ts from rfl),aj (kF h)]
theorem xA {x:bF}{h:Nat}(hx:dx h x=true){m r:List aD}(hm:m.map jK=aM (bO x)):dF [[108,101,116],[105,102],[102,110]] (m++r):=((rW h x hx).next hm).sub (by simp [DR])
theorem yK {N h:Nat}(H:JL N h):∀(ns:List Bt) (ks:List bF) (acc:List (Bt ×bF)) (f:Nat) (m:List aD) (c:aD) (r:List aD),(∀x∈ks,dx h x=true)->ns.length=ks.length->
  m.map jK=((ns.zip ks).map fun x=>((1,x.1) :: (5,[58]) :: aM (bO x.2):List KT)).flatMap (fun x=>(5,[44]) :: x)->ns.length<=f->c.kind=5->c.text=[125]->
  ∃ks',aP ks'=aP ks∧ks'.length=ns.length∧sG (iE (aU (N+2)).expr) f acc (m++(c :: r))=.good (acc++ns.zip ks') (c :: r)
 | [],ks,acc,f,m,c,r,hk,hl,hm,hf,c1,c2=>by
  obtain rfl:ks=[]:=List.eq_nil_of_length_eq_zero hl.symm;obtain rfl:=eG hm;refine⟨[],rfl,rfl,?_⟩;rw [List.nil_append,List.zip_nil_left,List.append_nil];cases f with
  |zero=>rfl
  |succ f=>
   unfold sG;rw [aj (sV (by rw [show aW (c :: r)=c from rfl,oD c1 c2];decide))];rfl
 |n :: ns,[],acc,f,m,c,r,hk,hl,_,_,_,_=>by cases hl
 |n :: ns,k :: ks,acc,f,m,c,r,hk,hl,hm,hf,c1,c2=>by
  cases f with
  |zero=>simp at hf
  |succ f=>
   rw [List.zip_cons_cons,List.map_cons,List.flatMap_cons,List.cons_append,List.cons_append,List.cons_append]at hm;obtain⟨d,m',rfl,d1,d2,hm⟩:=aI hm;obtain⟨t,m',rfl,t1,t2,hm⟩:=aI hm;obtain⟨g,m',rfl,g1,g2,hm⟩:=aI hm;obtain⟨m1,m2,rfl,hm1,hm⟩:=bG hm;have hr:dF M0 (m2++(c :: r)):=by
    cases ns with
    |nil=>
     obtain rfl:ks=[]:=List.eq_nil_of_length_eq_zero (by simpa using hl.symm);obtain rfl:=eG hm;exact aS c1 c2 (by decide)
    |cons n2 ns=>
     cases ks with
     |nil=>simp at hl
     |cons k2 ks=>
      rw [List.zip_cons_cons,List.map_cons,List.flatMap_cons,List.cons_append]at hm;obtain⟨e,m',rfl,e1,e2,_⟩:=aI hm;exact aS e1 e2 (by decide)
   obtain⟨k0,bk,he⟩:=fZ H (hk k (by simp)) hm1 hr;obtain⟨ks',j1,j2,j3⟩:=yK H ns ks (acc++[(n,k0)]) f m2 c r (fun x hx=>hk x (by simp [hx])) (by simpa using hl) hm (by simpa using hf) c1 c2;refine⟨k0 :: ks',by rw [aP,aP,bk,j1],by simp [j2],?_⟩;unfold sG;rw [List.cons_append,aj (wZ (.inr d1) d2 _)];simp only [if_true,List.cons_append,List.append_assoc]
   rw [aj (show iE (aU (N+2)).expr (t :: g :: (m1++(m2++(c :: r))))=.good (n,k0) (m2++(c :: r)) by
    unfold iE;rw [aj (lG t1 t2 _),aj (iG (.inr g1) g2 _),aj he];rfl)]
   rw [j3];simp
theorem JN {N h:Nat}(H:JL N h)(n:Bt)(k:bF)(ns:List Bt)(ks:List bF)(hk:∀x∈k :: ks,dx h x=true)(hl:ns.length=ks.length){m:List aD}{c:aD}{r:List aD}
  (hm:m.map jK=aM (ig n (bO k))++((ns.zip ks).map fun x=>((1,x.1) :: (5,[58]) :: aM (bO x.2):List KT)).flatMap (fun x=>(5,[44]) :: x)) (c1:c.kind=5) (c2:c.text=[125]):
  ∃ks',aP ks'=aP (k :: ks)∧jN (iE (aU (N+2)).expr) (m++(c :: r))=.good ((n :: ns).zip ks') (c :: r)∧ks'.length=(n :: ns).length:=by
 rw [show aM (ig n (bO k))=(1,n) :: (5,[58]) :: aM (bO k)from rfl,List.cons_append,List.cons_append]at hm;obtain⟨t,m',rfl,t1,t2,hm⟩:=aI hm;obtain⟨g,m',rfl,g1,g2,hm⟩:=aI hm;obtain⟨m1,m2,rfl,hm1,hm⟩:=bG hm;have hr:dF M0 (m2++(c :: r)):=by
  cases ns with
  |nil=>
   obtain rfl:ks=[]:=List.eq_nil_of_length_eq_zero (by simpa using hl.symm);obtain rfl:=eG hm;exact aS c1 c2 (by decide)
  |cons n2 ns=>
   cases ks with
   |nil=>simp at hl
   |cons k2 ks=>
    rw [List.zip_cons_cons,List.map_cons,List.flatMap_cons,List.cons_append]at hm;obtain⟨e,m',rfl,e1,e2,_⟩:=aI hm;exact aS e1 e2 (by decide)
 obtain⟨k0,bk,he⟩:=fZ H (hk k (by simp)) hm1 hr;have hlen:ns.length<=(m2++(c :: r)).length:=by
  have hh:∀(l:List (List KT)),l.length<=(l.flatMap (fun x=>((5,[44]):KT) :: x)).length:=by
   intro l;induction l with
   |nil=>simp
   |cons y l ih=>simp only [List.flatMap_cons,List.length_cons,List.length_append];omega
  have h3:=hh ((ns.zip ks).map fun x=>((1,x.1) :: (5,[58]) :: aM (bO x.2):List KT));rw [<-hm,List.length_map,List.length_map,List.length_zip]at h3;rw [List.length_append];omega
 obtain⟨ks',j1,j2,j3⟩:=yK H ns ks [(n,k0)] (m2++(c :: r)).length m2 c r (fun x hx=>hk x (by simp [hx])) hl hm hlen c1 c2;refine⟨k0 :: ks',by rw [aP,aP,bk,j1],?_,by simp [j2]⟩;unfold jN;simp only [List.cons_append,List.append_assoc]
 rw [aj (show iE (aU (N+2)).expr (t :: g :: (m1++(m2++(c :: r))))=.good (n,k0) (m2++(c :: r)) by
  unfold iE;rw [aj (lG t1 t2 _),aj (iG (.inr g1) g2 _),aj he];rfl)]
 rw [j3];simp
theorem vN:∀(h N:Nat),3*h+17<=N->JL N h
 |0,N,_=>fun x hx=>(by cases hx)
 |h+1,N,hN=>by
  obtain⟨M,rfl⟩:∃M,N=M+3:=⟨N - 3,by omega⟩
  have H0:=vN h M (by omega);have H1:=vN h (M+1) (by omega);have H3:=vN h (M+3) (by omega);intro x hx m r hm hr;cases vK hx with
  | @int n li co h0 h1=>
   rw [LA]at hm;obtain⟨t,m',rfl,t1,t2,hm⟩:=aI hm;obtain rfl:=eG hm;have ha:iJ (aU (M+3)).typ (aU (M+3)).expr (t :: r)=.good (aL 0 [] (fP (Lib.itoa n)).1 t [] [] []) r:=by
    unfold iJ;rw [aj (show fH (t :: r)=.good t (t :: r)from rfl),if_pos t1,aj (JM (by decide) t1 t2 r)];rfl
   obtain⟨f,hf,hp⟩:=jV ha;exact⟨_,f,by rw [dG,LP h0 h1,fE,aP],hf,hp⟩
  | @str s li co h0=>
   rw [LB]at hm;obtain⟨t,m',rfl,t1,t2,hm⟩:=aI hm;obtain rfl:=eG hm;have ha:iJ (aU (M+3)).typ (aU (M+3)).expr (t :: r)=.good (aL 1 s 0 t [] [] []) r:=by
    unfold iJ;rw [aj (show fH (t :: r)=.good t (t :: r)from rfl),if_neg (by rw [t1];decide),if_pos t1,aj (JM (by decide) t1 t2 r)];rfl
   obtain⟨f,hf,hp⟩:=jV ha;exact⟨_,f,by rw [dG,fE,aP],hf,hp⟩
  | @bool n li co h0=>
   rw [Gh]at hm;obtain⟨t,m',rfl,t1,t2,hm⟩:=aI hm;obtain rfl:=eG hm;have ha:iJ (aU (M+3)).typ (aU (M+3)).expr (t :: r)=.good (aL 2 [] n t [] [] []) r:=by
    unfold iJ;rw [aj (show fH (t :: r)=.good t (t :: r)from rfl),if_neg (by rw [t1];decide),if_neg (by rw [t1];decide)];rcases h0 with rfl |rfl
    ·rw [aj (fO t1 t2 (i:=0) (by decide) r)];rfl
    ·rw [aj (fO t1 t2 (i:=1) (by decide) r)];rfl
   obtain⟨f,hf,hp⟩:=jV ha;exact⟨_,f,by rw [dG,fE,aP],hf,hp⟩
  | @null li co=>
   rw [Gi]at hm;obtain⟨t,m',rfl,t1,t2,hm⟩:=aI hm;obtain rfl:=eG hm;have ha:iJ (aU (M+3)).typ (aU (M+3)).expr (t :: r)=.good (aL 3 [] 0 t [] [] []) r:=by
    unfold iJ;rw [aj (show fH (t :: r)=.good t (t :: r)from rfl),if_neg (by rw [t1];decide),if_neg (by rw [t1];decide),aj (fO t1 t2 (i:=2) (by decide) r)];rfl
   obtain⟨f,hf,hp⟩:=jV ha;exact⟨_,f,by rw [dG,fE,aP],hf,hp⟩
  | @name s li co h0=>
   rw [Gj]at hm;obtain⟨t,m',rfl,t1,t2,hm⟩:=aI hm;obtain rfl:=eG hm;have ha:iJ (aU (M+3)).typ (aU (M+3)).expr (t :: r)=.good (aL 4 s 0 t [] [] []) r:=by
    unfold iJ;rw [aj (show fH (t :: r)=.good t (t :: r)from rfl),if_neg (by rw [t1];decide),if_neg (by rw [t1];decide),aj (kF (rU t1 _ _))];show lK _ _ _= _;unfold lK;rw [aj (lG t1 t2 r),aj (sV (hr [91] (by simp)))];rfl
   obtain⟨f,hf,hp⟩:=jV ha;exact⟨_,f,by rw [dG,fE,aP],hf,hp⟩
  | @JD li co=>
   rw [Gl]at hm;obtain⟨t,m',rfl,t1,t2,hm⟩:=aI hm;obtain⟨o,m',rfl,o1,o2,hm⟩:=aI hm;obtain⟨c,m',rfl,c1,c2,hm⟩:=aI hm;obtain rfl:=eG hm;have ha:iJ (aU (M+3)).typ (aU (M+3)).expr (t :: o :: c :: r)=.good (aL 18 [] 0 t [] [] []) r:=by
    unfold iJ;rw [aj (show fH (t :: o :: c :: r)=.good t (t :: o :: c :: r)from rfl),if_neg (by rw [t1];decide),if_neg (by rw [t1];decide),aj (fO t1 t2 (i:=3) (by decide) _)];show au (jX [[40],[41]]) _ _= _;unfold jX;rw [aj (a:=()) (r:=r) (by rw [aj (iG (.inr o1) o2 _)];unfold jX;rw [aj (iG (.inr c1) c2 _)];rfl)];rfl
   obtain⟨f,hf,hp⟩:=jV ha;exact⟨_,f,by rw [dG,fE,aP],hf,hp⟩
  | @inst s li co y ts h0 h1=>
   rw [Gm,List.map_cons,sZ]at hm;obtain⟨t,m',rfl,t1,t2,hm⟩:=aI hm;obtain⟨o,m',rfl,o1,o2,hm⟩:=aI hm;obtain⟨m1,m2,rfl,hm1,hm⟩:=bG hm;obtain⟨c,m',rfl,c1,c2,hm⟩:=aI hm;obtain rfl:=eG hm;have e:t :: o :: (m1++[c])++r=t :: o :: (m1++(c :: r)):=by simp
   rw [e];have hz:(ts.map dZ).map aM=(ts.map fun x=>((aM (dZ x),x):List KT ×bC)).map (·.1):=by simp
   rw [hz]at hm1
   have hs:=JG (one:=(aU (M+3)).typ) (S:=yH) (by decide) (aM (dZ y),y) (ts.map fun x=>((aM (dZ x),x):List KT ×bC)) m1 (c :: r) (fun z hz m r hm hr=>by
    have hz2:∃x∈y :: ts,z=(aM (dZ x),x):=by
     rcases List.mem_cons.1 hz with rfl |hz
     ·exact⟨y,by simp,rfl⟩
     ·obtain⟨x,hx,rfl⟩:=List.mem_map.1 hz;exact⟨x,by simp [hx],rfl⟩
    obtain⟨x,hx,rfl⟩:=hz2;exact yI 16 x (h1 x hx) (M+3) (by omega) m r hm hr) hm1 (aS c1 c2 (by decide))
   have ha:iJ (aU (M+3)).typ (aU (M+3)).expr (t :: o :: (m1++(c :: r)))=.good (aL 19 s 0 t (y :: ts) [] []) r:=by
    unfold iJ;rw [aj (show fH (t :: o :: (m1++(c :: r)))=.good t (t :: o :: (m1++(c :: r)))from rfl),if_neg (by rw [t1];decide),if_neg (by rw [t1];decide),aj (kF (rU t1 _ _))];show lK _ _ _= _;unfold lK;rw [aj (lG t1 t2 _),aj (wZ (.inr o1) o2 _)];simp only [if_true];rw [aj hs,aj (iG (.inr c1) c2 _)];simp [aJ,Function.comp_def]
   obtain⟨f,hf,hp⟩:=jV ha;exact⟨_,f,by rw [dG,fE,aP],hf,hp⟩
  | @call li co a b ha hb=>
   rw [Gn]at hm;obtain⟨m0,m',rfl,hm0,hm⟩:=bG hm;obtain⟨o,m',rfl,o1,o2,hm⟩:=aI hm;obtain⟨m1,m2,rfl,hm1,hm⟩:=bG hm;obtain⟨c,m',rfl,c1,c2,hm⟩:=aI hm;obtain rfl:=eG hm;have e:m0++(o :: (m1++[c]))++r=m0++(o :: (m1++(c :: r))):=by simp
   rw [e];obtain⟨a0,f0,ba,hf0,hp⟩:=H3 a ha m0 (o :: (m1++(c :: r))) hm0 (aS o1 o2 (by decide));obtain⟨b0,bb,he⟩:=fZ H1 hb hm1 (r:=c :: r) (iw c1 c2 r);obtain⟨f,rfl⟩:∃f,f0=f+1:=⟨f0 - 1,by simp at hf0;omega⟩
   refine⟨aL 7 [] 0 o [] [] [a0,b0],f,by rw [dG,fE,aP,aP,aP,aP,aP,aP,ba,bb],by simp at hf0;omega,?_⟩;rw [hp,jB,aj (show fH (o :: (m1++(c :: r)))=.good o (o :: (m1++(c :: r)))from rfl),aj (fO o1 o2 (i:=0) (by decide) _)];simp only;rw [aj (show bK (aU (M+3)).expr [[]] [a0] (m1++(c :: r))=.good [a0,b0] (c :: r) by rw [zK he];rfl),aj (iG (.inr c1) c2 _)]
  | @sel s li co a h0 ha=>
   rw [LD]at hm;obtain⟨m0,m',rfl,hm0,hm⟩:=bG hm;obtain⟨o,m',rfl,o1,o2,hm⟩:=aI hm;obtain⟨n,m',rfl,n1,n2,hm⟩:=aI hm;obtain rfl:=eG hm;have e:m0++[o,n]++r=m0++(o :: n :: r):=by simp
   rw [e];obtain⟨a0,f0,ba,hf0,hp⟩:=H3 a ha m0 (o :: n :: r) hm0 (aS o1 o2 (by decide));obtain⟨f,rfl⟩:∃f,f0=f+1:=⟨f0 - 1,by simp at hf0;omega⟩
   refine⟨aL 9 s 0 o [] [] [a0],f,by rw [dG,fE,aP,aP,aP,aP,ba],by simp at hf0;omega,?_⟩;rw [hp,jB,aj (show fH (o :: n :: r)=.good o (o :: n :: r)from rfl),aj (fO o1 o2 (i:=1) (by decide) _)];simp only;rw [aj (lG n1 n2 _)]
  | @DJ li co a ha=>
   rw [DT]at hm;obtain⟨t,m',rfl,t1,t2,hm⟩:=aI hm;obtain⟨o,m',rfl,o1,o2,hm⟩:=aI hm;obtain⟨m1,m2,rfl,hm1,hm⟩:=bG hm;obtain⟨c,m',rfl,c1,c2,hm⟩:=aI hm;obtain rfl:=eG hm;have e:t :: o :: (m1++[c])++r=t :: o :: (m1++(c :: r)):=by simp
   rw [e];obtain⟨b0,bb,he⟩:=fZ H1 ha hm1 (r:=c :: r) (iw c1 c2 r);have hat:iJ (aU (M+3)).typ (aU (M+3)).expr (t :: o :: (m1++(c :: r)))=.good (aL 17 [] 0 t [] [] [b0]) r:=by
    unfold iJ;rw [aj (show fH (t :: o :: (m1++(c :: r)))=.good t (t :: o :: (m1++(c :: r)))from rfl),if_neg (by rw [t1];decide),if_neg (by rw [t1];decide),aj (fO t1 t2 (i:=4) (by decide) _)];show au (bK _ [[40]] []) _ _= _;rw [aj (show bK (aU (M+3)).expr [[40]] [] (o :: (m1++(c :: r)))=.good [b0] (c :: r) by rw [lC (by decide) (.inr o1) o2 he];rfl),aj (iG (.inr c1) c2 _)];rfl
   obtain⟨f,hf,hp⟩:=jV hat;exact⟨_,f,by rw [dG,fE,aP,aP,aP,aP,bb],hf,hp⟩
  | @with_ s li co a b h0 ha hb=>
   rw [Gp]at hm;obtain⟨o,m',rfl,o1,o2,hm⟩:=aI hm;obtain⟨m0,m2,rfl,hm0,hm⟩:=bG hm;obtain⟨w,m',rfl,w1,w2,hm⟩:=aI hm;obtain⟨n,m',rfl,n1,n2,hm⟩:=aI hm;obtain⟨k,m',rfl,k1,k2,hm⟩:=aI hm;obtain⟨m1,m2,rfl,hm1,hm⟩:=bG hm;obtain⟨c,m',rfl,c1,c2,hm⟩:=aI hm;obtain rfl:=eG hm;have e:o :: (m0++(w :: n :: k :: (m1++[c])))++r=o :: (m0++(w :: n :: k :: (m1++(c :: r)))):=by simp
   rw [e];obtain⟨a0,ba,Et⟩:=fZ H1 ha hm0 (r:=w :: n :: k :: (m1++(c :: r))) (aS w1 w2 (by decide));obtain⟨b0,bb,U4⟩:=fZ H1 hb hm1 (r:=c :: r) (aS c1 c2 (by decide));have Lv:∃t m0',m0=t :: m0'∧lV t [125]=false∧(t.kind==1 && lV (aW (m0'++(w :: n :: k :: (m1++(c :: r))))) [58])=false:=by
    obtain⟨kk,s0,r0,hk,hst,h2⟩:=rW h a ha;rw [hk]at hm0;obtain⟨t,m0',rfl,t1,t2,hm0⟩:=aI hm0;refine⟨t,m0',rfl,?_,?_⟩
    ·exact AO ha (m:=m0') (by rw [hk,List.map_cons,hm0];unfold jK;rw [t1,t2])
    ·by_cases hkk:kk=1
     ·rcases h2 hkk with rfl |⟨s2,r2,rfl,hs2⟩
      ·obtain rfl:=eG hm0;rw [List.nil_append,show aW (w :: n :: k :: (m1++(c :: r)))=w from rfl,oD w1 w2];rw [show isK 2 [119,105,116,104] [58]=false by decide,Bool.and_false]
      ·obtain⟨t3,m3,rfl,t31,t32,_⟩:=aI hm0;rw [List.cons_append,show aW (t3 :: (m3++(w :: n :: k :: (m1++(c :: r)))))=t3 from rfl,oD t31 t32];have:isK 5 s2 [58]=false:=by unfold isK;rw [beq_false_of_ne hs2,Bool.and_false]
       rw [this,Bool.and_false]
     ·rw [t1,beq_false_of_ne hkk,Bool.false_and]
   obtain⟨t,m0',rfl,hf1,hf2⟩:=Lv;have hat:iJ (aU (M+3)).typ (aU (M+3)).expr (o :: (t :: m0'++(w :: n :: k :: (m1++(c :: r)))))=.good (aL 10 s 0 o [] [] [a0,b0]) r:=by
    unfold iJ;rw [aj (show fH (o :: (t :: m0'++(w :: n :: k :: (m1++(c :: r)))))=.good o (o :: (t :: m0'++(w :: n :: k :: (m1++(c :: r)))))from rfl),if_neg (by rw [o1];decide),if_neg (by rw [o1];decide),aj (fO o1 o2 (i:=6) (by decide) _)];show au (rC _ _) _ _= _;have hrec:rC (aU (M+3)).expr o (t :: m0'++(w :: n :: k :: (m1++(c :: r))))=.good (aL 10 s 0 o [] [] [a0,b0]) (c :: r):=by
     unfold rC;rw [aj (a:=false) (r:=t :: m0'++(w :: n :: k :: (m1++(c :: r)))) (by unfold lg;exact congrArg (fun b=>Pr.good b _) hf1)];rw [if_neg Bool.false_ne_true,aj (a:=false) (r:=t :: m0'++(w :: n :: k :: (m1++(c :: r)))) (by unfold lg;exact congrArg (fun b=>Pr.good b _) hf2)];rw [if_neg Bool.false_ne_true,aj (show bK (aU (M+3)).expr [[]] [] (t :: m0'++(w :: n :: k :: (m1++(c :: r))))=.good [a0] (w :: n :: k :: (m1++(c :: r))) by rw [zK Et];rfl)];rw [aj (iG (.inl w1) w2 _),aj (lG n1 n2 _),aj (show bK (aU (M+3)).expr [[58]] [a0] (k :: (m1++(c :: r)))=.good [a0,b0] (c :: r) by rw [lC (by decide) (.inr k1) k2 U4];rfl)];rfl
    rw [aj hrec,aj (iG (.inr c1) c2 _)];rfl
   obtain⟨f,hf,hp⟩:=jV hat;exact⟨_,f,by rw [dG,fE,aP,aP,aP,aP,aP,aP,ba,bb],hf,hp⟩
  | @wM li co ns ks hns hks hl=>
   rw [LC]at hm;obtain⟨o,m',rfl,o1,o2,hm⟩:=aI hm;obtain⟨m1,m2,rfl,hm1,hm⟩:=bG hm;obtain⟨c,m',rfl,c1,c2,hm⟩:=aI hm;obtain rfl:=eG hm;have e:o :: (m1++[c])++r=o :: (m1++(c :: r)):=by simp
   rw [e];have key:∃ks',aP ks'=aP ks∧rC (aU (M+3)).expr o (m1++(c :: r))=.good (aL 8 [] 0 o [] ns ks') (c :: r):=by
    cases ns with
    |nil=>
     obtain rfl:ks=[]:=List.eq_nil_of_length_eq_zero hl.symm;obtain rfl:=eG hm1;refine⟨[],rfl,?_⟩;unfold rC;rw [List.nil_append,aj (a:=true) (r:=c :: r) (by unfold lg;exact congrArg (fun b=>Pr.good b _) (show lV c [125]=true by rw [oD c1 c2];decide))];rfl
    |cons n ns=>
     cases ks with
     |nil=>cases hl
     |cons b ks=>
      rw [List.map_cons,List.zipWith_cons_cons,sZ,AL 0]at hm1;obtain⟨ks',hk1,hk2⟩:∃ks',aP ks'=aP (b :: ks)∧jN (iE (aU (M+3)).expr) (m1++(c :: r))=.good ((n :: ns).zip ks') (c :: r)∧ks'.length=(n :: ns).length:=by
       exact JN H1 n b ns ks (fun x hx=>hks x hx) (by simpa using hl) hm1 c1 c2
      obtain⟨t,m1',rfl,t1,t2,hm1⟩:=aI hm1;obtain⟨g,aa8,rfl,g1,g2,hm1⟩:=aI hm1;refine⟨ks',hk1,?_⟩;unfold rC;rw [aj (a:=false) (r:=t :: g :: aa8++(c :: r)) (by unfold lg;exact congrArg (fun b=>Pr.good b _) (show lV t [125]=false by unfold lV;rw [t1];rfl))]
      rw [if_neg Bool.false_ne_true,aj (a:=true) (r:=t :: g :: aa8++(c :: r)) (by
       unfold lg;exact congrArg (fun b=>Pr.good b _) (show(t.kind==1 && lV g [58])=true by rw [t1,oD g1 g2];decide))]
      rw [if_pos rfl,aj hk2.1];simp only [aJ];rw [List.map_fst_zip (by omega),List.map_snd_zip (by omega)]
   obtain⟨ks',hk1,hk2⟩:=key;have hat:iJ (aU (M+3)).typ (aU (M+3)).expr (o :: (m1++(c :: r)))=.good (aL 8 [] 0 o [] ns ks') r:=by
    unfold iJ;rw [aj (show fH (o :: (m1++(c :: r)))=.good o (o :: (m1++(c :: r)))from rfl),if_neg (by rw [o1];decide),if_neg (by rw [o1];decide),aj (fO o1 o2 (i:=6) (by decide) _)];show au (rC _ _) _ _= _;rw [aj hk2,aj (iG (.inr c1) c2 _)];rfl
   obtain⟨f,hf,hp⟩:=jV hat;exact⟨_,f,by rw [dG,fE,hk1],hf,hp⟩
  | @SH s li co a b h0 ha hb=>
   rw [zJ,LJ,List.nil_append]at hm;obtain⟨o,m',rfl,o1,o2,hm⟩:=aI hm;obtain⟨l,m',rfl,l1,l2,hm⟩:=aI hm;obtain⟨n,m',rfl,n1,n2,hm⟩:=aI hm;obtain⟨q,m',rfl,q1,q2,hm⟩:=aI hm;obtain⟨m0,m2,rfl,hm0,hm⟩:=bG hm;obtain⟨d,m',rfl,d1,d2,hm⟩:=aI hm;obtain⟨m1,m2,rfl,hm1,hm⟩:=bG hm;obtain⟨c,m',rfl,c1,c2,hm⟩:=aI hm;obtain rfl:=eG hm;have e:o :: l :: n :: q :: (m0++(d :: (m1++[c])))++r=o :: ((l :: n :: q :: (m0++(d :: m1)))++(c :: r)):=by simp
   rw [e];obtain⟨a0,ba,Et⟩:=fZ H0 ha hm0 (r:=d :: (m1++(c :: r))) (aS d1 d2 (by decide));obtain⟨b0,bb,U4⟩:=fZ H0 hb hm1 (r:=c :: r) (iw c1 c2 r)
   obtain⟨f,hf,hp⟩:=jk (N:=M+3) (ts:=l :: n :: q :: (m0++(d :: m1))) (a:=aL 5 s 0 l [] [] [a0,b0]) o1 o2 c1 c2 (r:=r) (by
    rw [jW];have e2:l :: n :: q :: (m0++(d :: m1))++(c :: r)=l :: n :: q :: (m0++(d :: (m1++(c :: r)))):=by simp
    rw [e2,pW l1 l2 (i:=0) (by decide)];simp only
    rw [aj (lG n1 n2 _),aj (Fv (by rw [show aW (q :: (m0++(d :: (m1++(c :: r)))))=q from rfl,oD q1 q2];decide)),
     aj (show bK (aU (M+2)).expr [[61],[59]] [] (q :: (m0++(d :: (m1++(c :: r)))))=.good [a0,b0] (c :: r) by rw [lC (by decide) (.inr q1) q2 Et,lC (by decide) (.inr d1) d2 U4];rfl)]
    rfl)
   exact⟨_,f,by rw [dG,fE,aP,aP,aP,aP,aP,aP,ba,bb],hf,hp⟩
  | @SI s li co y a b h0 h1 ha hb=>
   rw [zJ,zL,List.cons_append]at hm;obtain⟨o,m',rfl,o1,o2,hm⟩:=aI hm;obtain⟨l,m',rfl,l1,l2,hm⟩:=aI hm;obtain⟨n,m',rfl,n1,n2,hm⟩:=aI hm;rw [<-List.cons_append]at hm;obtain⟨mn,m',rfl,hmn,hm⟩:=bG hm;obtain⟨q,m',rfl,q1,q2,hm⟩:=aI hm;obtain⟨m0,m2,rfl,hm0,hm⟩:=bG hm;obtain⟨d,m',rfl,d1,d2,hm⟩:=aI hm;obtain⟨m1,m2,rfl,hm1,hm⟩:=bG hm;obtain⟨c,m',rfl,c1,c2,hm⟩:=aI hm;obtain rfl:=eG hm;have e:o :: l :: n :: (mn++(q :: (m0++(d :: (m1++[c])))))++r=o :: ((l :: n :: (mn++(q :: (m0++(d :: m1)))))++(c :: r)):=by simp
   rw [e];obtain⟨a0,ba,Et⟩:=fZ H0 ha hm0 (r:=d :: (m1++(c :: r))) (aS d1 d2 (by decide));obtain⟨b0,bb,U4⟩:=fZ H0 hb hm1 (r:=c :: r) (iw c1 c2 r)
   obtain⟨f,hf,hp⟩:=jk (N:=M+3) (ts:=l :: n :: (mn++(q :: (m0++(d :: m1))))) (a:=aL 5 s 0 l [y] [] [a0,b0]) o1 o2 c1 c2 (r:=r) (by
    rw [jW];have e2:l :: n :: (mn++(q :: (m0++(d :: m1))))++(c :: r)=l :: n :: (mn++(q :: (m0++(d :: (m1++(c :: r)))))):=by simp
    rw [e2,pW l1 l2 (i:=0) (by decide)];simp only
    rw [aj (lG n1 n2 _),aj (vM (by omega) h1 hmn (aS q1 q2 (by decide))),
     aj (show bK (aU (M+2)).expr [[61],[59]] [] (q :: (m0++(d :: (m1++(c :: r)))))=.good [a0,b0] (c :: r) by rw [lC (by decide) (.inr q1) q2 Et,lC (by decide) (.inr d1) d2 U4];rfl)]
    rfl)
   exact⟨_,f,by rw [dG,fE,aP,aP,aP,aP,aP,aP,ba,bb],hf,hp⟩
  | @fn1 s li co y a h0 h1 ha=>
   rw [Fu,zL,LM,List.nil_append]at hm;obtain⟨o,m',rfl,o1,o2,hm⟩:=aI hm;obtain⟨l,m',rfl,l1,l2,hm⟩:=aI hm;obtain⟨p,m',rfl,p1,p2,hm⟩:=aI hm;obtain⟨n,m',rfl,n1,n2,hm⟩:=aI hm;obtain⟨mn,m',rfl,hmn,hm⟩:=bG hm;obtain⟨g,m',rfl,g1,g2,hm⟩:=aI hm;obtain⟨q,m',rfl,q1,q2,hm⟩:=aI hm;obtain⟨m0,m2,rfl,hm0,hm⟩:=bG hm;obtain⟨c,m',rfl,c1,c2,hm⟩:=aI hm;obtain rfl:=eG hm;have e:o :: l :: p :: n :: (mn++(g :: q :: (m0++[c])))++r=o :: ((l :: p :: n :: (mn++(g :: q :: m0)))++(c :: r)):=by simp
   rw [e];obtain⟨a0,ba,Et⟩:=fZ H0 ha hm0 (r:=c :: r) (iw c1 c2 r)
   obtain⟨f,hf,hp⟩:=jk (N:=M+3) (ts:=l :: p :: n :: (mn++(g :: q :: m0))) (a:=aL 6 s 0 l [y] [] [a0]) o1 o2 c1 c2 (r:=r) (by
    rw [jW];have e2:l :: p :: n :: (mn++(g :: q :: m0))++(c :: r)=l :: p :: n :: (mn++(g :: q :: (m0++(c :: r)))):=by simp
    rw [e2,pW l1 l2 (i:=2) (by decide)];simp only;have hh:kZ (aU (M+2)).typ [] (p :: n :: (mn++(g :: q :: (m0++(c :: r)))))=.good (s,[y]) (q :: (m0++(c :: r))):=by
     unfold kZ
     rw [aj (iG (.inr p1) p2 _),aj (lG n1 n2 _),aj (vM (by omega) h1 hmn (aS g1 g2 (by decide))),aj (iG (.inr g1) g2 _),
      aj (Fv (by rw [show aW (q :: (m0++(c :: r)))=q from rfl,oD q1 q2];decide))]
     rfl
    rw [aj hh,aj (show bK (aU (M+2)).expr [[61,62]] [] (q :: (m0++(c :: r)))=.good [a0] (c :: r) by rw [lC (by decide) (.inr q1) q2 Et];rfl)];rfl)
   exact⟨_,f,by rw [dG,fE,aP,aP,aP,aP,ba],hf,hp⟩
  | @fn2 s li co y z a h0 h1 h2 ha=>
   rw [Fu,zL,LK]at hm;obtain⟨o,m',rfl,o1,o2,hm⟩:=aI hm;obtain⟨l,m',rfl,l1,l2,hm⟩:=aI hm;obtain⟨p,m',rfl,p1,p2,hm⟩:=aI hm;obtain⟨n,m',rfl,n1,n2,hm⟩:=aI hm;obtain⟨mn,m',rfl,hmn,hm⟩:=bG hm;obtain⟨g,m',rfl,g1,g2,hm⟩:=aI hm;obtain⟨mz,m',rfl,hmz,hm⟩:=bG hm;obtain⟨q,m',rfl,q1,q2,hm⟩:=aI hm;obtain⟨m0,m2,rfl,hm0,hm⟩:=bG hm;obtain⟨c,m',rfl,c1,c2,hm⟩:=aI hm;obtain rfl:=eG hm;have e:o :: l :: p :: n :: (mn++(g :: (mz++(q :: (m0++[c])))))++r=o :: ((l :: p :: n :: (mn++(g :: (mz++(q :: m0)))))++(c :: r)):=by simp
   rw [e];obtain⟨a0,ba,Et⟩:=fZ H0 ha hm0 (r:=c :: r) (iw c1 c2 r)
   obtain⟨f,hf,hp⟩:=jk (N:=M+3) (ts:=l :: p :: n :: (mn++(g :: (mz++(q :: m0))))) (a:=aL 6 s 0 l [y,z] [] [a0]) o1 o2 c1 c2 (r:=r) (by
    rw [jW];have e2:l :: p :: n :: (mn++(g :: (mz++(q :: m0))))++(c :: r)=l :: p :: n :: (mn++(g :: (mz++(q :: (m0++(c :: r)))))):=by simp
    rw [e2,pW l1 l2 (i:=2) (by decide)];simp only;have hh:kZ (aU (M+2)).typ [] (p :: n :: (mn++(g :: (mz++(q :: (m0++(c :: r)))))))=.good (s,[y,z]) (q :: (m0++(c :: r))):=by
     unfold kZ
     rw [aj (iG (.inr p1) p2 _),aj (lG n1 n2 _),aj (vM (by omega) h1 hmn (aS g1 g2 (by decide))),aj (iG (.inr g1) g2 _),
      aj (vM (by omega) h2 hmz (aS q1 q2 (by decide)))]
     rfl
    rw [aj hh,aj (show bK (aU (M+2)).expr [[61,62]] [] (q :: (m0++(c :: r)))=.good [a0] (c :: r) by rw [lC (by decide) (.inr q1) q2 Et];rfl)];rfl)
   exact⟨_,f,by rw [dG,fE,aP,aP,aP,aP,ba],hf,hp⟩
  | @if_ li co a b d ha hb hd=>
   rw [SQ]at hm;obtain⟨o,m',rfl,o1,o2,hm⟩:=aI hm;obtain⟨l,m',rfl,l1,l2,hm⟩:=aI hm;obtain⟨m0,m2,rfl,hm0,hm⟩:=bG hm;obtain⟨q,m',rfl,q1,q2,hm⟩:=aI hm;obtain⟨m1,m2,rfl,hm1,hm⟩:=bG hm;obtain⟨g,m',rfl,g1,g2,hm⟩:=aI hm;obtain⟨m3,m2,rfl,hm3,hm⟩:=bG hm;obtain⟨c,m',rfl,c1,c2,hm⟩:=aI hm;obtain rfl:=eG hm;have e:o :: l :: (m0++(q :: (m1++(g :: (m3++[c])))))++r=o :: ((l :: (m0++(q :: (m1++(g :: m3)))))++(c :: r)):=by simp
   rw [e];obtain⟨a0,ba,Et⟩:=fZ H0 ha hm0 (r:=q :: (m1++(g :: (m3++(c :: r))))) (aS q1 q2 (by decide));obtain⟨b0,bb,U4⟩:=fZ H0 hb hm1 (r:=g :: (m3++(c :: r))) (aS g1 g2 (by decide));obtain⟨d0,bd,hed⟩:=fZ H0 hd hm3 (r:=c :: r) (iw c1 c2 r)
   obtain⟨f,hf,hp⟩:=jk (N:=M+3) (ts:=l :: (m0++(q :: (m1++(g :: m3))))) (a:=aL 11 [] 0 l [] [] [a0,b0,d0]) o1 o2 c1 c2 (r:=r) (by
    rw [jW];have e2:l :: (m0++(q :: (m1++(g :: m3))))++(c :: r)=l :: (m0++(q :: (m1++(g :: (m3++(c :: r)))))):=by simp
    rw [e2,pW l1 l2 (i:=1) (by decide)];simp only;rw [aj (show bK (aU (M+2)).expr [[],[116,104,101,110],[101,108,115,101]] [] (m0++(q :: (m1++(g :: (m3++(c :: r))))))=.good [a0,b0,d0] (c :: r) by rw [zK Et,lC (by decide) (.inl q1) q2 U4,lC (by decide) (.inl g1) g2 hed];rfl)];rfl)
   exact⟨_,f,by rw [dG,fE,aP,aP,aP,aP,aP,aP,aP,aP,ba,bb,bd],hf,hp⟩
  | @is_ n li co a h0 h1 ha=>
   rw [SS]at hm;obtain⟨o,m',rfl,o1,o2,hm⟩:=aI hm;obtain⟨m0,m2,rfl,hm0,hm⟩:=bG hm;obtain⟨q,m',rfl,q1,q2,hm⟩:=aI hm;obtain⟨g,m',rfl,g1,g2,hm⟩:=aI hm;obtain⟨c,m',rfl,c1,c2,hm⟩:=aI hm;obtain rfl:=eG hm;have e:o :: (m0++[q,g,c])++r=o :: ((m0++[q,g])++(c :: r)):=by simp
   rw [e];obtain⟨a0,ba,Et⟩:=lQ H1 ha hm0 (r:=q :: g :: c :: r) (aS q1 q2 (by decide));have htag:mg.findIdx? (lV g)=some n.toNat:=by
    rw [Ls g1 g2];have hn:n=0∨n=1∨n=2∨n=3∨n=4∨n=5:=by omega
    rcases hn with rfl |rfl |rfl |rfl |rfl |rfl <;> decide
   obtain⟨f,hf,hp⟩:=jk (N:=M+3) (ts:=m0++[q,g]) (a:=aL 12 [] n q [] [] [a0]) o1 o2 c1 c2 (r:=r) (by
    rw [jW];have e2:m0++[q,g]++(c :: r)=m0++(q :: g :: c :: r):=by simp
    rw [e2,pX (xA ha hm0)];refine yJ (g:=4) ?_ 6 (by decide) ((iw c1 c2 r).sub (fun s hs=>List.mem_append_right _ hs));unfold jl;rw [if_pos rfl];unfold Ei;rw [aj (pV (f:=3) Et (aS q1 q2 (by decide))),aj (show fH (q :: g :: c :: r)=.good q (q :: g :: c :: r)from rfl),aj (fO q1 q2 (i:=3) (by decide) _)];simp only;rw [if_pos True.intro,aj (xV htag _)];simp only;rw [show((n.toNat:Nat):Int)=n by omega];rfl)
   exact⟨_,f,by rw [dG,fE,aP,aP,aP,aP,ba],hf,hp⟩
  | @as_ li co y a h1 ha=>
   rw [SV]at hm;obtain⟨o,m',rfl,o1,o2,hm⟩:=aI hm;obtain⟨m0,m2,rfl,hm0,hm⟩:=bG hm;obtain⟨q,m',rfl,q1,q2,hm⟩:=aI hm;obtain⟨m1,m2,rfl,hm1,hm⟩:=bG hm;obtain⟨c,m',rfl,c1,c2,hm⟩:=aI hm;obtain rfl:=eG hm;have e:o :: (m0++(q :: (m1++[c])))++r=o :: ((m0++(q :: m1))++(c :: r)):=by simp
   rw [e];obtain⟨a0,ba,Et⟩:=lQ H1 ha hm0 (r:=q :: (m1++(c :: r))) (aS q1 q2 (by decide))
   obtain⟨f,hf,hp⟩:=jk (N:=M+3) (ts:=m0++(q :: m1)) (a:=aL 13 [] 0 q [y] [] [a0]) o1 o2 c1 c2 (r:=r) (by
    rw [jW];have e2:m0++(q :: m1)++(c :: r)=m0++(q :: (m1++(c :: r))):=by simp
    rw [e2,pX (xA ha hm0)];refine yJ (g:=4) ?_ 6 (by decide) ((iw c1 c2 r).sub (fun s hs=>List.mem_append_right _ hs));unfold jl;rw [if_pos rfl];unfold Ei;rw [aj (pV (f:=3) Et (aS q1 q2 (by decide))),aj (show fH (q :: (m1++(c :: r)))=.good q (q :: (m1++(c :: r)))from rfl),aj (fO q1 q2 (i:=4) (by decide) _)];simp only;rw [if_neg (by decide),if_pos True.intro,aj (yI 16 y h1 (M+2) (by omega) m1 (c :: r) hm1 (aS c1 c2 (by decide)))];rfl)
   exact⟨_,f,by rw [dG,fE,aP,aP,aP,aP,ba],hf,hp⟩
  | @op_ s li co a b h0 ha hb=>
   rw [SX]at hm;obtain⟨o,m',rfl,o1,o2,hm⟩:=aI hm;obtain⟨m0,m2,rfl,hm0,hm⟩:=bG hm;obtain⟨q,m',rfl,q1,q2,hm⟩:=aI hm;obtain⟨m1,m2,rfl,hm1,hm⟩:=bG hm;obtain⟨c,m',rfl,c1,c2,hm⟩:=aI hm;obtain rfl:=eG hm;have e:o :: (m0++(q :: (m1++[c])))++r=o :: ((m0++(q :: m1))++(c :: r)):=by simp
   rw [e];obtain⟨a0,ba,Et⟩:=lQ H1 ha hm0 (r:=q :: (m1++(c :: r))) (aS q1 q2 (JK s h0).2.2.2.2.2);obtain⟨b0,bb,U4⟩:=lQ H1 hb hm1 (r:=c :: r) (aS c1 c2 (by decide))
   obtain⟨f,hf,hp⟩:=jk (N:=M+3) (ts:=m0++(q :: m1)) (a:=aL 14 s 0 q [] [] [a0,b0]) o1 o2 c1 c2 (r:=r) (by
    rw [jW];have e2:m0++(q :: m1)++(c :: r)=m0++(q :: (m1++(c :: r))):=by simp
    rw [e2,pX (xA ha hm0)];exact U3 h0 q1 q2 Et U4 ((iw c1 c2 r).sub (fun s hs=>List.mem_append_right _ hs)))
   exact⟨_,f,by rw [dG,fE,aP,aP,aP,aP,aP,aP,ba,bb],hf,hp⟩
  | @not_ li co a ha=>
   rw [LG]at hm;obtain⟨o,m',rfl,o1,o2,hm⟩:=aI hm;obtain⟨q,m',rfl,q1,q2,hm⟩:=aI hm;obtain⟨m0,m2,rfl,hm0,hm⟩:=bG hm;obtain⟨c,m',rfl,c1,c2,hm⟩:=aI hm;obtain rfl:=eG hm;have e:o :: q :: (m0++[c])++r=o :: ((q :: m0)++(c :: r)):=by simp
   rw [e];obtain⟨a0,ba,Et⟩:=lQ H0 ha hm0 (r:=c :: r) (aS c1 c2 (by decide))
   obtain⟨f,hf,hp⟩:=jk (N:=M+3) (ts:=q :: m0) (a:=aL 15 [] 0 q [] [] [a0]) o1 o2 c1 c2 (r:=r) (by
    rw [jW,List.cons_append,pX (aS q1 q2 (by decide))];refine pV ?_ ((iw c1 c2 r).sub (fun s hs=>List.mem_append_right _ hs));show nR _ _ _ _= _;unfold nR;rw [aj (show fH (q :: (m0++(c :: r)))=.good q (q :: (m0++(c :: r)))from rfl),aj (fO q1 q2 (i:=1) (by decide) _)];show au (aU (M+1)).unary _ _= _;rw [aj Et];rfl)
   exact⟨_,f,by rw [dG,fE,aP,aP,aP,aP,ba],hf,hp⟩
  | @SK li co a ha=>
   rw [LH]at hm;obtain⟨o,m',rfl,o1,o2,hm⟩:=aI hm;obtain⟨q,m',rfl,q1,q2,hm⟩:=aI hm;obtain⟨m0,m2,rfl,hm0,hm⟩:=bG hm;obtain⟨c,m',rfl,c1,c2,hm⟩:=aI hm;obtain rfl:=eG hm;have e:o :: q :: (m0++[c])++r=o :: ((q :: m0)++(c :: r)):=by simp
   rw [e];obtain⟨a0,ba,Et⟩:=lQ H0 ha hm0 (r:=c :: r) (aS c1 c2 (by decide))
   obtain⟨f,hf,hp⟩:=jk (N:=M+3) (ts:=q :: m0) (a:=aL 16 [] 0 q [] [] [a0]) o1 o2 c1 c2 (r:=r) (by
    rw [jW,List.cons_append,pX (aS q1 q2 (by decide))];refine pV ?_ ((iw c1 c2 r).sub (fun s hs=>List.mem_append_right _ hs));show nR _ _ _ _= _;unfold nR;rw [aj (show fH (q :: (m0++(c :: r)))=.good q (q :: (m0++(c :: r)))from rfl),aj (fO q1 q2 (i:=0) (by decide) _)];show au (aU (M+1)).unary _ _= _;rw [aj Et];rfl)
   exact⟨_,f,by rw [dG,fE,aP,aP,aP,aP,ba],hf,hp⟩
theorem Fw:∀(f:Nat) (s:Bt) (p:Nat ×Nat) (out:List aD) (l:List (Int ×Bt)),yQ f s=some l->out.length<=8192->8192<out.length+l.length->(nO f s p out).2.2.2=19
 |0,s,p,out,l,h,_,_=>by simp [yQ]at h
 |f+1,s,p,out,l,h,ho,h8=>by
  rw [yQ]at h;rw [nO];by_cases hnil:s.drop (bB s)=[]
  ·rw [if_pos hnil]at h;injection h with h;subst h;simp at h8;omega
  ·rw [if_neg hnil]at h ⊢;cases hn:fu (s.drop (bB s))with
   |inl e=>rw [hn]at h;cases h
   |inr x=>
    obtain⟨kd,t,n⟩:=x;rw [hn]at h;simp only at h ⊢;rw [Option.map_eq_some_iff]at h;obtain⟨l',h1,rfl⟩:=h;by_cases h88:out.length=8192
    ·rw [if_pos h88]
    ·rw [if_neg h88];exact Fw f _ _ _ l' h1 (by simp;omega) (by simp at h8 ⊢;omega)
theorem Gq {α:Type}{p:Ps α}{l:List Pc}(h:Js l)(hs:(cK l).length<=65536)(Q:α->Prop)(hp:∀(m:List aD) (e:aD),m.map jK=aM l->e.kind=0->∃a,Q a∧p (m++[e])=.good a [e]):
  (∃d,bZ p (cK l)=(none,d)∧d.2.2=19)∨∃a,Q a∧bZ p (cK l)=(some a,(0,0,0)):=by
 by_cases h8:(aM l).length<=8192
 ·obtain⟨m,e,h1,h2,h3⟩:=Jw h hs h8;have he:e.kind=0:=congrArg Prod.fst h3;obtain⟨a,ha,hq⟩:=hp m e h1.symm he;exact .inr ⟨a,ha,OP h2 he hq⟩
 ·left;have h9:=Fw _ (cK l) (1,1) [] _ (nH l _ h.ok (Nat.lt_succ_self _)) (by simp) (by simpa using Nat.lt_of_not_le h8);refine⟨(iU (cK l)).2,?_,?_⟩
  ·unfold bZ;rw [if_neg];rw [BZ _ hs,h9];decide
  ·rw [BZ _ hs,h9]
theorem O1 {x:bF}(h:dx 25 x=true)(hs:(fT x).length<=65536):(∃d,bZ (aU 100).expr (fT x)=(none,d)∧d.2.2=19)∨∃a,fE a=fE x∧bZ (aU 100).expr (fT x)=(some a,(0,0,0)):=by
 obtain⟨h1,h2,_⟩:=fV 25 x h;rw [<-h2]at hs ⊢;exact Gq h1.1 hs _ fun ts e hm he=>fZ (vN 25 98 (by decide)) h hm (fun s _=>sQ he s)
theorem LQ {x:bF}(h:oP x≠[])(hl:(oP x).length<=20000):(bZ (aU 100).expr (oP x)).2.2.2=19∨(bZ (aU 100).expr (oP x)).2=(0,0,0)∧∃a,vQ (aU 100).expr (oP x) vX=a∧fE a=fE x:=by
 have hx:dx 25 x=true∧oP x=fT x:=by
  unfold oP at*
  cases hw:dx 25 x with
  |true=>exact⟨rfl,by simp⟩
  |false=>rw [hw]at h;exact absurd rfl h
 obtain⟨hw,he⟩:=hx;rw [he]at hl ⊢;rcases O1 hw (by omega)with⟨d,h1,h2⟩ |⟨a,h0,h1⟩
 ·left;rw [h1];exact h2
 ·right;refine⟨by rw [h1],a,?_,h0⟩;unfold vQ;rw [h1];rfl
theorem DV (z:List Value)(x:bF)(w:World)(hr:tT w w.heap.size z x)(hok:GN x)(hc:gT x<=300000)(hX:mY w):
  Calls Tryz.prog 7 #[.agg z.toArray] w fun e w'=>e=.returned (.bool true)∧Below w.heap.size w w':=by
 obtain⟨k,s,v2,v3,v4,A1,n1,c1,A2,n2,c2,A3,n3,c3,rfl⟩:=hr.shape;obtain⟨W,hW⟩:∃W,w.alloc (.cells #[.int .i64 k,.string s,.int .i64 v2,.int .i64 v3,.int .i64 v4,.slice A1 n1 c1,.slice A2 n2 c2,.slice A3 n3 c3] 52)=W:=⟨_,rfl⟩
 have hb1:Below w.heap.size w W:=by rw [<-hW];exact new1 _ _
 have hbx:W.heap[w.heap.size]? =some (.cells #[.int .i64 k,.string s,.int .i64 v2,.int .i64 v3,.int .i64 v4,.slice A1 n1 c1,.slice A2 n2 c2,.slice A3 n3 c3] 52 (0,0)):=by rw [<-hW];exact Dc w _
 have HA:=aZ (Jk W (hX.below hb1));have HFR:=aZ (fun(w1:World) (h:Below W.heap.size W w1)=>hr.far (Nat.le_refl _) (hb1.trans (h.mono hb1.size)));have HB:=aZ hb1;have vo:=aZ hbx;have uW:=aZ hW;have HT:=aZ (fun(w1:World) (h:Below W.heap.size W w1)=>EM w1 _ x (hr.far (Nat.le_refl _) (hb1.trans (h.mono hb1.size))) hok hc ((hX.below hb1).below h).t);have HPT:=aZ (fun(w1:World) (h:Below W.heap.size W w1)=>Jj w1 (oP x) ((hX.below hb1).below h));have WX:=aZ (LQ (x:=x));have Gw:=aZ hc;clear hr hX hb1 hbx hok hc;obtain⟨S,hS⟩:∃S,oP x=S:=⟨_,rfl⟩
 rw [hS]at HT HPT WX;have UG:=aT S;clear hS;obtain⟨g0,g1,g2,g3,g4,g5,g6,g7⟩:=gN vo.o;go_enter Tryz.func7,Tryz.ntmps7;go_wp2_with fail;clear hW uW;refine HA.o.mono ?_;rintro e w2 ⟨rfl,hb⟩;have HB2:=aZ hb;clear g0 g1 g2 g3 g4 g5 g6 g7;obtain⟨g0,g1,g2,g3,g4,g5,g6,g7⟩:=gN ((hb.block _ (block_lt vo.o)).trans vo.o);clear hb;go_wp2_with fail;refine(HT.o w2 HB2.o).mono ?_;rintro e w3 ⟨rfl,hb⟩;have HB3:=aZ (HB2.o.trans (hb.mono HB2.o.size));clear hb g0 g1 g2 g3 g4 g5 g6 g7;by_cases h0:S=[]
 ·have q0:(S==[])=true:=by simp [h0]
  go_wp2_with fail;go_ret;exact⟨rfl,HB.o.trans (HB3.o.mono HB.o.size)⟩
 have q0:(S==[])=false:=by simp [h0]
 by_cases h5:(20000:Int)<S.length
 ·go_wp2_with fail;go_ret;exact⟨rfl,HB.o.trans (HB3.o.mono HB.o.size)⟩
 have hbk:=WX.o h0 (by omega);obtain⟨D,hD⟩:∃D,(bZ (aU 100).expr S).2=D:=⟨_,rfl⟩
 obtain⟨a,hav⟩:∃a,vQ (aU 100).expr S vX=a:=⟨_,rfl⟩
 have hPT:=HPT.o w3 HB3.o;rw [hD,hav]at hbk hPT;have aa9:=aZ hPT;have abb:=aZ hbk;clear hbk hPT hD WX HPT h0 hav;go_wp2_with fail;refine aa9.o.mono ?_;rintro e w4 ⟨hb4,z4,rfl,YM⟩;have tC:=aZ (HB3.o.trans (hb4.mono HB3.o.size));obtain⟨k4,s4,m4,l4,o4,A4,n4,c4,A5,n5,c5,A6,n6,c6,rfl⟩:=YM.shape';have hs4:=hb4.size;obtain⟨W4,JU⟩:∃W4,(w4.alloc (.cells #[.int .i64 k4,sv s4,.int .i64 m4,.int .i64 l4,.int .i64 o4,.slice A4 n4 c4,.slice A5 n5 c5,.slice A6 n6 c6] 52)).alloc (.cells #[.int .i64 0,.int .i64 D.1,.int .i64 D.2.1,.int .i64 D.2.2] 45)=W4:=⟨_,rfl⟩
 have Ee:Below w4.heap.size w4 W4:=by rw [<-JU];exact new2 _ _ _
 obtain⟨_,_,WS,hd4⟩:=jC (G:=fun _=>False) (Turn.refl _ ((w4.alloc (.cells #[.int .i64 k4,sv s4,.int .i64 m4,.int .i64 l4,.int .i64 o4,.slice A4 n4 c4,.slice A5 n5 c5,.slice A6 n6 c6] 52)).alloc (.cells #[.int .i64 0,.int .i64 D.1,.int .i64 D.2.1,.int .i64 D.2.2] 45)));rw [JU]at WS hd4;have X6:W4.heap.size=w4.heap.size+2:=by rw [<-JU];simp
 have HD4:=aZ (hd4 id);have OW:=aZ (tC.o.trans (Ee.mono tC.o.size));have DY:=YM.turn (Turn.of_below (F:=fun _=>False) Ee) (fun _ _ _=>id);have zu:=aZ DY.all;have Vm:=aZ JU;clear hb4 YM DY Ee WS hd4 JU;rcases abb.o with h19 |⟨hD0,_,rfl,hba⟩
 ·have q1:(D.2.2==19)=true:=by simp [h19]
  clear h19;go_wp2_with fail;go_ret;rw [Vm.o];exact⟨rfl,HB.o.trans (OW.o.mono HB.o.size)⟩
 have HSB:=aZ (Q9 hba);have hca:gT a<=300000:=by rw [<-Dw a,hba,Dw x];exact Gw.o
 have LU:=Mv W4 a _ _ _ _ _ _ _ _ zu.o;obtain⟨W5,YN⟩:∃W5,W4.alloc (.cells #[.string ⟨#[]⟩,.bool false,.slice none 0 0,.string ⟨#[]⟩,.slice none 0 0,.int .i64 k4,sv s4,.int .i64 m4,.int .i64 l4,.int .i64 o4,.slice A4 n4 c4,.slice A5 n5 c5,.slice A6 n6 c6,.int .i64 0,.int .i64 0] 64)=W5:=⟨_,rfl⟩
 have hb5:Below W4.heap.size W4 W5:=by rw [<-YN];exact new1 _ _
 rw [YN,X6]at LU
 have hc5:=CU _ W5 _ LU (by simp [Bf]) (by simp [Bf]) (fun d hd=>by
  obtain rfl:d= _:=List.mem_singleton.1 hd;exact hca)
 subst hD0;rw [<-YN,<-Vm.o]at hc5;have HC5:=aZ hc5;have qN:=aZ (OW.o.trans (hb5.mono OW.o.size));have HD5:=aZ ((hb5.block _ (by omega)).trans HD4.o);have HW5:=aZ YN;have aik:W5.heap.size=W4.heap.size+1:=by rw [<-YN];simp
 clear hba LU hb5 hc5 YN HD4 abb aa9 HT HA;go_wp2_with fail;refine HC5.o.mono ?_;rintro e w5 ⟨z5,rfl,hm5,hb5⟩;rw [Vm.o,HW5.o]at hb5;obtain⟨P1,i1,P2,i2,_,_,rfl,_⟩:=hm5.parts;obtain⟨u1,hu1⟩:∃m,(zP (Bf a)).imps.length=m:=⟨_,rfl⟩
 obtain⟨u2,hu2⟩:∃m,(zP (Bf a)).decls.length=m:=⟨_,rfl⟩
 rw [hu1,hu2]at hm5;rw [hu1,hu2];clear hu1 hu2;have hs5:=hb5.size;obtain⟨W6,MO⟩:∃W6,w5.alloc (.cells #[.slice P1 u1 i1,.slice P2 u2 i2] 40)=W6:=⟨_,rfl⟩
 have hb6:Below w5.heap.size w5 W6:=by rw [<-MO];exact new1 _ _
 have hm6:=Dc w5 (.cells #[.slice P1 u1 i1,.slice P2 u2 i2] 40);rw [MO]at hm6;have aez:W6.heap.size=w5.heap.size+1:=by rw [<-MO];simp
 have Yk:=hb5.trans (hb6.mono hs5);have XJ:=aZ (qN.o.trans (Yk.mono qN.o.size));have HD6:=aZ ((Yk.block _ (block_lt HD5.o)).trans HD5.o);have HM6:=aZ (hm5.far (Nat.le_refl _) hb6);have HX6:=aZ hm6;have YJ:=aZ MO;have Yl:=qN.o.trans (hb5.mono qN.o.size);obtain⟨g0,g1,g2,g3,g4,g5,g6,g7⟩:=gN ((Yl.block _ (block_lt vo.o)).trans vo.o);have gl:w.heap.size<w5.heap.size:=by have:=Yl.size;have:=block_lt vo.o;omega
 have LU:=Mv W6 x _ _ _ _ _ _ _ _ (HFR.o W6 XJ.o);obtain⟨W7,YO⟩:∃W7,W6.alloc (.cells #[.string ⟨#[]⟩,.bool false,.slice none 0 0,.string ⟨#[]⟩,.slice none 0 0,.int .i64 k,.string s,.int .i64 v2,.int .i64 v3,.int .i64 v4,.slice A1 n1 c1,.slice A2 n2 c2,.slice A3 n3 c3,.int .i64 0,.int .i64 0] 64)=W7:=⟨_,rfl⟩
 have jq:Below W6.heap.size W6 W7:=by rw [<-YO];exact new1 _ _
 rw [YO,aez]at LU
 have Rh:=CU _ W7 _ LU (by simp [Bf]) (by simp [Bf]) (fun d hd=>by
  obtain rfl:d= _:=List.mem_singleton.1 hd;exact Gw.o)
 rw [<-YO,<-YJ.o]at Rh;have HC7:=aZ Rh;have abd:=aZ jq;have HW7:=aZ YO;have aiq:W7.heap.size=W6.heap.size+1:=by rw [<-YO];simp
 clear LU hb5 hb6 jq Rh MO YO hm5 hm6 Yk Yl;go_wp2_with fail;refine HC7.o.mono ?_;rintro e w7 ⟨z7,rfl,ME,jq⟩;rw [YJ.o,HW7.o]at jq;rw [<-HSB.o]at ME;obtain⟨Q1,j1,Q2,j2,_,_,rfl,_⟩:=ME.parts;obtain⟨u3,hu3⟩:∃m,(zP (Bf a)).imps.length=m:=⟨_,rfl⟩
 obtain⟨u4,hu4⟩:∃m,(zP (Bf a)).decls.length=m:=⟨_,rfl⟩
 rw [hu3,hu4]at ME;rw [hu3,hu4];clear hu3 hu4;have hs7:=jq.size;obtain⟨W8,tY⟩:∃W8,w7.alloc (.cells #[.slice Q1 u3 j1,.slice Q2 u4 j2] 40)=W8:=⟨_,rfl⟩
 have pO:Below w7.heap.size w7 W8:=by rw [<-tY];exact new1 _ _
 have Ym:=abd.o.trans (jq.mono abd.o.size);have U5:=Ym.trans (pO.mono (by omega));have hHS:=Ip _ W8 _ _ (HM6.o.far (Nat.le_refl _) U5) (ME.far (Nat.le_refl _) pO);rw [<-tY]at hHS;have HS:=aZ hHS;have HB8:=aZ (XJ.o.trans (U5.mono XJ.o.size));have HD8:=aZ ((U5.block _ (block_lt HD6.o)).trans HD6.o);have IW:=aZ tY;obtain⟨c10,c11⟩:=lJ ((Ym.block w5.heap.size (by omega)).trans HX6.o);have air:w5.heap.size<w7.heap.size:=by omega
 clear hHS jq pO Ym U5 tY ME g0 g1 g2 g3 g4 g5 g6 g7 gl;go_wp2_with fail;refine(HS.o).mono ?_;rintro e w9 ⟨rfl,Cv⟩;rw [IW.o]at Cv;have HBE:=aZ (HB8.o.trans (Cv.mono HB8.o.size));obtain⟨d0,d1,d2,d3,dz⟩:=dA ((Cv.block _ (block_lt HD8.o)).trans HD8.o);clear c10 c11 Cv;go_wp2_with fail;go_ret;exact⟨rfl,HB.o.trans (HBE.o.mono HB.o.size)⟩
section
open Go.ChangeShapes Go.WideShapes Go.ChangeAt Go.RowKit
inductive Bq {α β:Type}(Q:α->β->Prop):List α->List β->Prop
 |nil:Bq Q [] []
 |cons {a:α}{b:β}{l:List α}{m:List β}:Q a b->Bq Q l m->Bq Q (a :: l) (b :: m)
theorem Bq.snoc {α β:Type}{Q:α->β->Prop}{a:α}{b:β}(h:Q a b):∀{l:List α}{m:List β},Bq Q l m->Bq Q (l++[a]) (m++[b])
 |_,_,.nil=>.cons h .nil
 |_,_,.cons h1 h2=>.cons h1 (h2.snoc h)
section
variable {H:Type}{enc:TypeId ×Value->H}{P:Program}{W:World}
theorem Bq.bulk {β:Type}{f:β->Nat}:∀{l:List (DataW H)}{m:List β},Bq (fun d y=>f y<=Rows.uptoBulk d) l m->(m.map f).sum<=Rows.uptoBulkAll l
 |_,_,.nil=>by simp
 |_,_,.cons h1 h2=>by
  have:=Bq.bulk h2;rw [List.map_cons,List.sum_cons,Rows.uptoBulkAll];omega
theorem zM {α:Type}{t e:TypeId}{k:Nat}(f:α->Nat)(ht:P.underlying t=some (.slice e))(hc:P.cellsOf e=k)(hk:0<k){fuel:Nat}{v:Value}{x:DataW H ×List MemPlace}(h:DataW.trod enc P W 0 (fun _=>true) true fuel t [v]=some x)
  (R:List Value->α->Prop) (hel:∀n cs' x',n<fuel->DataW.trod enc P W 0 (fun _=>true) true n e cs'=some x'->cs'.length=k->∃y,R cs' y∧f y<=Rows.uptoBulk x'.1):
  ∃(xs:List Value) (ys:List α),Sl W W.heap.size k v xs∧dH R k xs ys∧(ys.map f).sum+1<=Rows.uptoBulk x.1:=by
 rcases DataW.trod_slice ht h with⟨hcs,hx⟩ |⟨a,len,cap,elems,rest,n,hf,hcs,hx,hb,hl,hm,hlen,hcell,_,_⟩
 ·obtain rfl:v=.slice none 0 0:=by simpa using hcs
  exact⟨[],[],Sl.nil _ _ _,.nil,by rw [hx];exact Nat.le_refl 1⟩
 ·obtain rfl:v=.slice (some a) len cap:=by simpa using hcs
  have hone:∀i,i<len->∃cs' y,W.cells? 0 (a.add (i*k)) k=some cs'∧R cs' y∧cs'.length=k∧∀(hi:i<elems.length),f y<=Rows.uptoBulk elems[i].1:=by
   intro i hi;have h1:=hcell i hi;rw [hc,List.getElem?_eq_getElem (by omega)]at h1;obtain⟨cs',h2,h3⟩:=Option.bind_eq_some_iff.1 h1;have hcl:=(World.cells?_some h2).2.1;obtain⟨y,hy1,hy2⟩:=hel n cs' _ (by omega) h3 hcl;exact⟨cs',y,h2,hy1,hcl,fun _=>hy2⟩
  have hall:∀m,m<=len->∃(xs:List Value) (ys:List α),dH R k xs ys∧ys.length=m∧(∀j u,xs[j]? =some u->W.cell? (a.add j)=some u)∧Bq (fun d y=>f y<=Rows.uptoBulk d) ((elems.take m).map (·.1)) ys:=by
   intro m;induction m with
   |zero=>exact fun _=>⟨[],[],.nil,rfl,fun j u hu=>by simp at hu,by simpa using Bq.nil⟩
   |succ m ih=>
    intro hm1;obtain⟨xs,ys,h1,h2,h3,h4⟩:=ih (by omega);obtain⟨cs',y,h5,h6,h7,h8⟩:=hone m (by omega);have hxl:xs.length=m*k:=by rw [h1.len,h2]
    refine⟨xs++cs',ys++[y],h1.snoc h7 h6,by rw [List.length_append,h2];rfl,fun j u hu=>?_,?_⟩
    ·rcases Nat.lt_or_ge j xs.length with hj |hj
     ·rw [List.getElem?_append_left hj]at hu;exact h3 j u hu
     ·rw [List.getElem?_append_right hj]at hu;have hjk:j - xs.length<k:=by
       rcases Nat.lt_or_ge (j - xs.length) k with hlt |hge
       ·exact hlt
       ·rw [List.getElem?_eq_none (by omega)]at hu;cases hu
      have h9:=(World.cells?_some h5).2.2 (j - xs.length) hjk;rw [hu]at h9;have hadd:(a.add (m*k)).add (j - xs.length)=a.add j:=by
       rw [Deep.add_add,<-hxl];congr 1;omega
      rw [hadd]at h9;exact h9
    ·rw [List.take_succ_eq_append_getElem (by omega),List.map_append];exact Bq.snoc (Q:=fun d y=>f y<=Rows.uptoBulk d) (h8 (by omega)) h4
  obtain⟨xs,ys,h1,h2,h3,h4⟩:=hall len (Nat.le_refl _);have hxl:xs.length=len*k:=by rw [h1.len,h2]
  refine⟨xs,ys,⟨some a,len,cap,rfl,hxl,hl,hm,fun h0=>?_⟩,h1,?_⟩
  ·have hp:0<xs.length:=by rw [hxl];exact Nat.mul_pos h0 hk
   have h5:=h3 0 xs[0] (by simp [hp]);obtain⟨b,off,spot⟩:=a;have hspot:spot=none:=by simpa [Addr.add]using World.cell?_spot h5
   subst hspot;refine⟨b,off,rfl,?_,fun j u hu=>?_⟩
   ·rw [jv]at h5;exact World.block_lt_of_cell? W _ h5
   ·have:=h3 j u hu;rw [jv]at this;exact this
  ·rw [<-hlen,List.take_length]at h4;have:=h4.bulk;rw [hx,Rows.uptoBulk];omega
end
theorem SY:∀l:List bC,(l.map fun y=>4*jS y).sum=4*dh l
 | []=>by simp [dh]
 |t :: l=>by rw [List.map_cons,List.sum_cons,SY l,dh];omega
theorem V3:∀l:List bF,(l.map fun y=>4*gT y).sum=4*fJ l
 | []=>by simp [fJ]
 |t :: l=>by rw [List.map_cons,List.sum_cons,V3 l,fJ];omega
section
variable {H:Type}{enc:TypeId ×Value->H}{W:World}
theorem pY (d:DataW H):1<=Rows.uptoBulk d:=by
 cases d <;> (try (rename_i l;cases l)) <;> simp [Rows.uptoBulk]
theorem S9:∀(fuel:Nat) (cs:List Value) (x:DataW H ×List MemPlace),DataW.trod enc Tryz.prog W 0 (fun _=>true) true fuel 57 cs=some x->∃y,tQ W W.heap.size cs y∧J6 y∧4*jS y<=Rows.uptoBulk x.1:=by
 intro fuel;induction fuel using Nat.strongRecOn with
 |_ fuel ih=>
  intro cs x h;obtain⟨xs,n,hn,rfl,hl,hlen,hf⟩:=DataW.trod_struct Tryz.underlying57 h;rw [show Tryz.prog.cellsOf 57=4 by kernel_rfl]at hl
  match cs,hl,xs,hlen with
  | [u0,u1,u2,u3],_,[y0,y1,y2,y3],_=>
   have t0:DataW.trod enc Tryz.prog W 0 (fun _=>true) true n 3 [u0]=some y0:=hf 0 _ rfl;have t1:DataW.trod enc Tryz.prog W 0 (fun _=>true) true n 9 [u1]=some y1:=hf 1 _ rfl;have t2:DataW.trod enc Tryz.prog W 0 (fun _=>true) true n 25 [u2]=some y2:=hf 2 _ rfl;have t3:DataW.trod enc Tryz.prog W 0 (fun _=>true) true n 49 [u3]=some y3:=hf 3 _ rfl;obtain⟨k,rfl,hk⟩:=Pt t0;obtain⟨nm,rfl,hnm⟩:=V9 t1;obtain⟨ns,r2,o2⟩:=Ma t2
   obtain⟨zk,ks,f1,f2,f3⟩:=zM (fun y=>4*jS y) Tryz.underlying49 (k:=4) (by kernel_rfl) (by omega) t3 (fun cs y=>tQ W W.heap.size cs y∧J6 y) (fun m cs' x' hm ht _=>by
    obtain⟨y,a1,a2,a3⟩:=ih m (by omega) cs' x' ht;exact⟨y,⟨a1,a2⟩,a3⟩)
   obtain⟨g1,g2⟩:=L9 f2;refine⟨.mk k nm ns ks,.mk r2 f1 g1,?_,?_⟩
   ·rw [J6];exact⟨hk,hnm,o2,Cb.2 g2⟩
   ·rw [SY]at f3;rw [jS,Rows.uptoBulk];simp only [List.map_cons,List.map_nil,Rows.uptoBulkAll];have b0:=pY y0.1;have b1:=pY y1.1;have b2:=pY y2.1;omega
theorem Ta:∀(fuel:Nat) (cs:List Value) (x:DataW H ×List MemPlace),DataW.trod enc Tryz.prog W 0 (fun _=>true) true fuel 52 cs=some x->∃y,tT W W.heap.size cs y∧GN y∧4*gT y<=Rows.uptoBulk x.1:=by
 intro fuel;induction fuel using Nat.strongRecOn with
 |_ fuel ih=>
  intro cs x h;obtain⟨xs,n,hn,rfl,hl,hlen,hf⟩:=DataW.trod_struct Tryz.underlying52 h;rw [show Tryz.prog.cellsOf 52=8 by kernel_rfl]at hl
  match cs,hl,xs,hlen with
  | [u0,u1,u2,u3,u4,u5,u6,u7],_,[y0,y1,y2,y3,y4,y5,y6,y7],_=>
   have t0:DataW.trod enc Tryz.prog W 0 (fun _=>true) true n 3 [u0]=some y0:=hf 0 _ rfl;have t1:DataW.trod enc Tryz.prog W 0 (fun _=>true) true n 9 [u1]=some y1:=hf 1 _ rfl;have t2:DataW.trod enc Tryz.prog W 0 (fun _=>true) true n 3 [u2]=some y2:=hf 2 _ rfl;have t3:DataW.trod enc Tryz.prog W 0 (fun _=>true) true n 3 [u3]=some y3:=hf 3 _ rfl;have t4:DataW.trod enc Tryz.prog W 0 (fun _=>true) true n 3 [u4]=some y4:=hf 4 _ rfl;have t5:DataW.trod enc Tryz.prog W 0 (fun _=>true) true n 49 [u5]=some y5:=hf 5 _ rfl;have t6:DataW.trod enc Tryz.prog W 0 (fun _=>true) true n 25 [u6]=some y6:=hf 6 _ rfl;have t7:DataW.trod enc Tryz.prog W 0 (fun _=>true) true n 50 [u7]=some y7:=hf 7 _ rfl;obtain⟨k,rfl,hk⟩:=Pt t0;obtain⟨tx,rfl,htx⟩:=V9 t1;obtain⟨nn,rfl,hnn⟩:=Pt t2;obtain⟨ln,rfl,hln⟩:=Pt t3;obtain⟨cl,rfl,hcl⟩:=Pt t4
   obtain⟨zt,ts,e1,e2,e3⟩:=zM (fun y=>4*jS y) Tryz.underlying49 (k:=4) (by kernel_rfl) (by omega) t5 (fun cs y=>tQ W W.heap.size cs y∧J6 y) (fun m cs' x' hm ht _=>by
    obtain⟨y,a1,a2,a3⟩:=S9 m cs' x' ht;exact⟨y,⟨a1,a2⟩,a3⟩)
   obtain⟨d1,d2⟩:=L9 e2;obtain⟨ns,r2,o2⟩:=Ma t6
   obtain⟨zk,ks,f1,f2,f3⟩:=zM (fun y=>4*gT y) Tryz.underlying50 (k:=8) (by kernel_rfl) (by omega) t7 (fun cs y=>tT W W.heap.size cs y∧GN y) (fun m cs' x' hm ht _=>by
    obtain⟨y,a1,a2,a3⟩:=ih m (by omega) cs' x' ht;exact⟨y,⟨a1,a2⟩,a3⟩)
   obtain⟨g1,g2⟩:=TA f2;refine⟨.mk k tx nn ln cl ts ns ks,.mk e1 d1 r2 f1 g1,?_,?_⟩
   ·rw [GN];exact⟨hk,htx,hnn,hln,hcl,d2,o2,uj.2 g2⟩
   ·rw [SY]at e3;rw [V3]at f3;rw [gT,Rows.uptoBulk];simp only [List.map_cons,List.map_nil,Rows.uptoBulkAll];have b0:=pY y0.1;have b1:=pY y1.1;have b2:=pY y2.1;have b3:=pY y3.1;omega
theorem LV {v:Value}{d:DataW H}{p:List MemPlace}(hd:DataW.Trod enc Tryz.prog W 0 (fun _=>true) true 52 v d p):∃(z:List Value) (y:bF),v=Value.agg z.toArray∧tT W W.heap.size z y∧GN y∧4*gT y<=Rows.uptoBulk d:=by
 obtain⟨z,hv,hz⟩:=Nj (k:=8) (by omega) ⟨_,Tryz.underlying52⟩ (by kernel_rfl) hd;obtain⟨fuel,h⟩:=hd;rw [hz]at h;obtain⟨y,h1,h2,h3⟩:=Ta fuel z _ h;exact⟨z,y,hv,h1,h2,h3⟩
end
end
section
open Go.ChangeShapes Go.WideShapes Go.ChangeAt Go.RowKit
theorem own:ownKnob Tryz.prog.godebug=none:=by kernel_rfl
theorem laidOut:laidOutB Tryz.prog=true:=by kernel_rfl
theorem M5: "*" ++ "errors.errorString" = "*errors.errorString" :=by decide
theorem Tc (u:TypeId) (h:Tryz.prog.typeName? 3 u=some "*errors.errorString"):u=344:=
 typeName_ptr_named (nm:= "errors.errorString") (by rw [M5];kernel_rfl) (by kernel_rfl) (by decide) u (by rw [M5];exact h)
theorem Td {l:List (String ×DataW Unit)}{W:World}(hp:(l.all fun x=>x.2.handleName?.isNone)=true)
  (h1:(l.filter fun x=>x.1== "internal/strconv.uint64pow10")=[("internal/strconv.uint64pow10",Lib.tabData .u64 Lib.pow10Tab)])
  (h2:(l.filter fun x=>x.1== "strconv.ErrSyntax")=[("strconv.ErrSyntax",Rows.laid_strconv_ErrSyntax)])
  (h3:(l.filter fun x=>x.1== "strconv.ErrRange")=[("strconv.ErrRange",Rows.laid_strconv_ErrRange)])
  (h:laidMetH Tryz.prog l W):qy W:=by
 have g1:=laidMetH.filter (fun x=>x.1== "internal/strconv.uint64pow10") h;have g2:=laidMetH.filter (fun x=>x.1== "strconv.ErrSyntax") h;have g3:=laidMetH.filter (fun x=>x.1== "strconv.ErrRange") h;rw [h1]at g1;rw [h2]at g2;rw [h3]at g3;rw [MakeChecks.laidMetH_plain _ _ _ (by kernel_rfl)]at g1;rw [MakeChecks.laidMetH_plain _ _ _ (by kernel_rfl)]at g2;rw [MakeChecks.laidMetH_plain _ _ _ (by kernel_rfl)]at g3;obtain⟨a2, _,e2, _⟩:=laid_sentinel g2 (g:=4) (by kernel_rfl) (by kernel_rfl) Tryz.underlying116 Tc Tryz.underlying344 Tryz.underlying346 rfl rfl Tryz.underlying9 (by kernel_rfl) (by kernel_rfl);obtain⟨a3, _,e3, _⟩:=laid_sentinel g3 (g:=5) (by kernel_rfl) (by kernel_rfl) Tryz.underlying116 Tc Tryz.underlying344 Tryz.underlying346 rfl rfl Tryz.underlying9 (by kernel_rfl) (by kernel_rfl);refine⟨?_,⟨_, _,e2⟩,⟨_, _,e3⟩⟩;exact Lib.tabIs_of_head (g:=3) (by kernel_rfl) (by kernel_rfl) Tryz.underlying308 Tryz.underlying238 (by kernel_rfl) (by kernel_rfl) g1
theorem Te {l:List (String ×DataW Unit)}{W:World}
  (h1:(l.filter fun x=>x.1== "strings.asciiSpace")=[("strings.asciiSpace",Lib.tabData .u8 Lib.asciiSpaceTab)])
  (h:laidMetH Tryz.prog l W):Lib.TabIs Tryz.prog W "strings.asciiSpace" .u8 Lib.asciiSpaceTab:=by
 have g1:=laidMetH.filter (fun x=>x.1== "strings.asciiSpace") h;rw [h1]at g1;rw [MakeChecks.laidMetH_plain _ _ _ (by kernel_rfl)]at g1;exact Lib.tabIs_of_head (g:=0) (by kernel_rfl) (by kernel_rfl) Tryz.underlying235 Tryz.underlying5 (by kernel_rfl) (by kernel_rfl) g1
end
end Go.Proofs.YtfgjkmipfikooaaGreatDoor
