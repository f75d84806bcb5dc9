/- GK, GL, TL, UM, YD, YG, YK -/
import Derived.Test.YtncnnedlgofccaaGreatDoorPT30
import Derived.Test.YtncnnedlgofccaaGreatDoorPT31
import Derived.Lib.ItoaLen
set_option linter.unusedSimpArgs false
set_option linter.unusedVariables false
set_option maxRecDepth 100000
set_option maxHeartbeats 2000000
namespace Go.Proofs.YtncnnedlgofccaaGreatDoor
open Go.RowKit
mutual
def afK:bZ->Nat
 |.mk _ _ _ ks=>1+ze ks
def ze:List bZ->Nat
 | []=>0
 |t :: l=>afK t+ze l
end
def kX (l:List Bt):Nat:=(l.map List.length).sum
theorem lJ (x:Bt)(l:List Bt):kX (x :: l)=x.length+kX l:=by simp [kX]
theorem wE (sep:Bt):∀l:List Bt,(BK sep l).length<=kX l+sep.length*l.length
 | []=>by simp [BK]
 | [x]=>by simp [BK,kX]
 |x :: y :: l=>by
  have h:=wE sep (y :: l);rw [BK,List.length_append,List.length_append,lJ,List.length_cons,Nat.mul_succ];omega
theorem wF {s:Bt}(h:gT s=true):s.length<=32:=by
 rcases Nat.lt_or_ge 32 s.length with h1 |h1
 ·rw [Je h1]at h;cases h
 ·exact h1
theorem Ev:∀(ns l:List Bt),(∀n∈ns,n.length<=32)->kX (List.zipWith wK ns l)<=kX l+34*l.length
 | [],l,_=>by simp [kX]
 |n :: ns,[],_=>by simp [kX]
 |n :: ns,x :: l,h=>by
  have h1:=Ev ns l fun y hy=>h y (List.mem_cons_of_mem _ hy);have h2:=h n (List.mem_cons_self ..);rw [List.zipWith_cons_cons,lJ,lJ,List.length_cons];have h3:(wK n x).length=n.length+(2+x.length):=by unfold wK;simp only [List.length_append,List.length_cons,List.length_nil]
  omega
theorem MQ {α β γ:Type}(f:α->β->γ):∀(a:List α) (b:List β),(List.zipWith f a b).length<=b.length
 | [],b=>by simp
 |x :: a,[]=>by simp
 |x :: a,y :: b=>by rw [List.length_zipWith];omega
theorem Ji (ks:List Int)(k:Int)(s:Bt):(AB ks k s).length<=s.length+2:=by
 unfold AB;split
 ·simp
 ·omega
theorem Lf (kk:List Int):∀(ks:List Int) (l:List Bt),kX (List.zipWith (AB kk) ks l)<=kX l+2*l.length
 | [],l=>by simp [kX]
 |k :: ks,[]=>by simp [kX]
 |k :: ks,x :: l=>by
  have h1:=Lf kk ks l;have h2:=Ji kk k x;rw [List.zipWith_cons_cons,lJ,lJ,List.length_cons];omega
theorem Qp (l:List Bt)(i:Nat):(l.getD i []).length<=kX l:=by
 induction l generalizing i with
 |nil=>simp [kX]
 |cons x l ih=>
  rw [lJ];cases i with
  |zero=>simp
  |succ i=>have:=ih i;simp only [List.getD_cons_succ];omega
theorem afL (l:List Bt):(l.getD 0 []).length+(l.getD 1 []).length<=kX l:=by
 match l with
 | []=>simp [kX]
 | [x]=>simp [kX]
 |x :: y :: l=>simp [kX]
theorem Kc (l:List bZ):(ji l).length=l.length:=by rw [AJ,List.length_map]
mutual
theorem adv:∀(t:bZ) (m:Nat),dx m t=true->(BL t).length+44<=80*afK t
 |.mk k nm ns ks,m,h=>by
  obtain⟨m,rfl⟩:∃q,m=q+1:=by
   cases m with
   |zero=>cases h
   |succ q=>exact⟨q,rfl⟩
  have h:(ns.all gT && ks.all (dx m) && iB k nm ns.length ks.length)=true:=h;rw [Bool.and_eq_true,Bool.and_eq_true]at h;obtain⟨⟨h1,h2⟩,h3⟩:=h;have hn:∀n∈ns,n.length<=32:=fun n hn=>wF (List.all_eq_true.1 h1 n hn);have hk:=zJ ks m h2;have hl:=Kc ks;rw [BL,afK];split
  ·simp;omega
  split
  ·simp;omega
  split
  ·simp;omega
  split
  ·simp;omega
  split
  ·simp;omega
  split
  ·have a1:=wE [44,32] (List.zipWith wK ns (ji ks));have a2:=Ev ns (ji ks) hn;have a3:=MQ wK ns (ji ks);simp only [List.length_append,List.length_cons,List.length_nil]at a1 ⊢;omega
  split
  ·have a1:=Ji [6] ((ks.map bZ.kind).getD 0 0) ((ji ks).getD 0 []);have a2:=afL (ji ks);simp only [List.length_append,List.length_cons,List.length_nil];omega
  split
  ·have a1:=wE [32,124,32] (List.zipWith (AB [6,7]) (ks.map bZ.kind) (ji ks));have a2:=Lf [6,7] (ks.map bZ.kind) (ji ks);have a3:=MQ (AB [6,7]) (ks.map bZ.kind) (ji ks);simp only [List.length_append,List.length_cons,List.length_nil]at a1 ⊢;omega
  ·have hnm:nm.length<=32:=by
    unfold iB at h3;split at h3
    ·rw [Bool.and_eq_true]at h3;exact wF h3.2
    ·split at h3
     ·cases h3
     ·rename_i h4
      have:nm=[]:=by
       rcases nm with _ |⟨c,r⟩
       ·rfl
       ·exact absurd (.inl (by simp)) h4
      rw [this];simp
   omega
theorem zJ:∀(l:List bZ) (m:Nat),l.all (dx m)=true->kX (ji l)+44*l.length<=80*ze l
 | [],_,_=>by simp [kX,ji]
 |t :: l,m,h=>by
  rw [List.all_cons,Bool.and_eq_true]at h;have h1:=adv t m h.1;have h2:=zJ l m h.2;rw [ji,lJ,ze,List.length_cons];omega
end
mutual
def Jj:bW->Nat
 |.mk _ _ _ _ _ ts _ ks=>1+ze ts+Ar ks
def Ar:List bW->Nat
 | []=>0
 |t :: l=>Jj t+Ar l
end
theorem Qq:∀{l:List bW}{t:bW},t∈l->Jj t<=Ar l
 | [],_,h=>by cases h
 |x :: l,t,h=>by
  rw [Ar];rcases List.mem_cons.1 h with rfl |h
  ·omega
  ·have:=Qq h;omega
theorem adw (t:bW):0<Jj t:=by cases t;rw [Jj];omega
theorem Ew:∀l:List bW,l.length<=Ar l
 | []=>by simp
 |t :: l=>by have:=Ew l;have:=adw t;rw [Ar,List.length_cons];omega
theorem ajT {α:Type}{c:Prop}[Decidable c]{P:α->Prop}{a b:α}(ha:P a)(hb:P b):P (if c then a else b):=by
 by_cases h:c
 ·rw [if_pos h];exact ha
 ·rw [if_neg h];exact hb
theorem amJ {s:Bt}(h:opsL.contains s=true):s.length<=3:=by
 have h1:s∈opsL:=by simpa using h
 have h2:∀x∈opsL,x.length<=3:=by decide
 exact h2 s h1
theorem Jk {k:Int}{s:Bt}{b:Bool}(h:vo k s b=true):s.length<=256:=by
 unfold vo at h;split at h
 ·have:=wF h;omega
 split at h
 ·unfold Lp at h;rw [Bool.and_eq_true,decide_eq_true_eq]at h;exact h.1
 split at h
 ·have:=amJ h;omega
 ·have:s=[]:=by simpa using h
  rw [this];simp
theorem XI (s:Bt):(QY s).length<=2*s.length+2:=by
 have h1:=afJ s;have h2:=afI s;unfold QY;rw [List.length_cons,List.length_append];simp only [List.length_cons,List.length_nil];omega
theorem adx (ts:List bZ)(m:Nat)(h:ts.all (dx m)=true):(EC ts 0).length+(EC ts 1).length<=80*ze ts:=by
 have h1:=zJ ts m h
 match ts,h1 with
 | [],_=>simp [EC]
 | [t],h1=>
  simp [EC,ji,kX]at h1 ⊢;omega
 |t :: u :: l,h1=>
  simp [EC,ji,kX]at h1 ⊢;omega
theorem ady (i:Nat):(mV.getD i []).length<=28:=by
 have:=Qp mV i;have h:kX mV=28:=by decide
 omega
theorem Vq:∀l:List Bt,(cat l).length=kX l
 | []=>rfl
 |x :: l=>by
  have:=Vq l;rw [lJ,<-this];simp [cat]
theorem XJ (l:List Bt):(l.getD 0 []).length+(l.getD 1 []).length+(l.getD 2 []).length<=kX l:=by
 match l with
 | []=>simp [kX]
 | [x]=>simp [kX]
 | [x,y]=>simp [kX]
 |x :: y :: z :: l=>simp [kX];omega
theorem uW (l:List bW):(qF l).length=l.length:=by rw [wL,List.length_map]
theorem In64.itoa {n:Int}(h:0<=n∧n<=9223372036854775807):(Lib.itoa n).length<=40:=by
 have:=Lib.itoa_length_le n (by omega) (by omega);omega
theorem adz (k:Int)(text:Bt)(n:Int)(ts:List bZ)(ns:List Bt)(s:List Bt)(m:Nat)(ht:text.length<=256)(hn:0<=n∧n<=9223372036854775807)(hts:ts.all (dx m)=true)(hns:∀x∈ns,x.length<=32):
  (Ko k text n ts ns s).length+44<=700+80*ze ts+(kX s+36*s.length):=by
 have a1:=adx ts m hts;have a2:=zJ ts m hts;have a3:=XJ s;have a4:=ady n.toNat;have a5:=XI text;have a6:=wE [44,32] (ts.map BL);have a7:=wE [44,32] (List.zipWith wK ns s);have a8:=Ev ns s hns;have a9:=MQ wK ns s;have M4:=Qp (ts.map BL) 0;have MH:=In64.itoa hn;rw [AJ]at a2;rw [List.length_map]at a6;simp only [List.length_cons,List.length_nil]at a6 a7;unfold Ko BM;generalize Lib.itoa n=it at*
 repeat' (refine ajT (P:=fun l:Bt=>l.length+44<=700+80*ze ts+(kX s+36*s.length)) ?_ ?_)
 all_goals first
  |omega
  |(rw [Vq];simp only [kX,List.map_cons,List.map_nil,List.sum_cons,List.sum_nil,List.length_cons,List.length_nil];simp only [kX]at*;omega)
  |(simp only [List.length_cons,List.length_nil];omega)
theorem adA {k:Int}{text:Bt}{n:Int}{a b c:Nat}(h:Lr k text n a b c=true):text.length<=256∧0<=n∧n<=9223372036854775807:=by
 unfold Lr at h;rw [Bool.and_eq_true,Bool.and_eq_true,Bool.and_eq_true,decide_eq_true_eq]at h;refine⟨Jk h.1.1.2,h.1.1.1.1,?_⟩;have h1:=h.1.1.1.2;have h2:(fH k).most<=9223372036854775807:=by
  show(fun h:ad7=>h.most<=9223372036854775807) (fH k);unfold fH
  repeat' (refine ajT (P:=fun h:ad7=>h.most<=9223372036854775807) ?_ ?_)
  all_goals (show(_:Int)<= _;decide)
 omega
mutual
theorem Jl:∀(x:bW) (m:Nat),ko m x=true->(vw x).length+44<=700*Jj x
 |.mk k text n li co ts ns ks,m,h=>by
  obtain⟨m,rfl⟩:∃q,m=q+1:=by
   cases m with
   |zero=>cases h
   |succ q=>exact⟨q,rfl⟩
  have h:(decide (0<=k∧k<20) && Lr k text n ts.length ns.length ks.length && ns.all gT && ts.all (dx 16) && ks.all (ko m))=true:=h;rw [Bool.and_eq_true,Bool.and_eq_true,Bool.and_eq_true,Bool.and_eq_true]at h;obtain⟨⟨⟨⟨h1,h2⟩,h3⟩,h4⟩,h5⟩:=h;obtain⟨o1,o2⟩:=adA h2;have hk:=Lg ks m h5;have hl:=uW ks;have hh:=adz k text n ts ns (qF ks) 16 o1 o2 h4 (fun x hx=>wF (List.all_eq_true.1 h3 x hx));rw [vw,Jj];omega
theorem Lg:∀(l:List bW) (m:Nat),l.all (ko m)=true->kX (qF l)+44*l.length<=700*Ar l
 | [],_,_=>by simp [kX,qF]
 |t :: l,m,h=>by
  rw [List.all_cons,Bool.and_eq_true]at h;have h1:=Jl t m h.1;have h2:=Lg l m h.2;rw [qF,lJ,Ar,List.length_cons];omega
end
theorem MR {w:World}{B:Nat}{A:Option Addr}{n c:Nat}{xk:List Value}{ks:List bZ}(h2:Sl w B 4 (.slice A n c) xk)(hr:lC w B xk ks){i:Nat}(hi:i<ks.length)(hn:n=ks.length):
  ∃b o k s A1 n1 c1 A2 n2 c2,A=some ⟨b,o,none⟩∧BO w B [I k,.string s,.slice A1 n1 c1,.slice A2 n2 c2] ks[i]∧w.cell? ⟨b,o+i*4,none⟩=some (I k)∧w.cell? ⟨b,o+i*4+1,none⟩=some (.string s)∧w.cell? ⟨b,o+i*4+2,none⟩=some (.slice A1 n1 c1)∧w.cell? ⟨b,o+i*4+3,none⟩=some (.slice A2 n2 c2):=by
 subst hn;obtain⟨b1,o1,rfl,hb1,hc1⟩:=BN h2 hi;have hr1:=hr.at i hi;obtain⟨kk,s,A1,n1,c1,A2,n2,c2,hv1⟩:=hr1.shape;rw [hv1]at hr1;refine⟨b1,o1,kk,s,A1,n1,c1,A2,n2,c2,rfl,hr1,?_,?_,?_,?_⟩
 ·have:=hc1 0 _ (lV hv1 (by omega:0<4));simpa using this
 ·have:=hc1 1 _ (lV hv1 (by omega:1<4));simpa [Nat.add_assoc]using this
 ·have:=hc1 2 _ (lV hv1 (by omega:2<4));simpa [Nat.add_assoc]using this
 ·have:=hc1 3 _ (lV hv1 (by omega:3<4));simpa [Nat.add_assoc]using this
theorem Vr {w:World}{B:Nat}{A:Option Addr}{n c:Nat}{ns:List Bt}(h:Ss w B (.slice A n c) ns){i:Nat}(hi:i<ns.length):
  ∃b o,A=some ⟨b,o,none⟩∧w.cell? ⟨b,o+i,none⟩=some (sv ns[i]):=by
 obtain⟨A',c',hv,_,_,hx⟩:=h.open_;injection hv with e1 e2 e3;subst e1 e2 e3;obtain⟨b,o,hA,_,hc⟩:=hx (by omega);exact⟨b,o,hA,hc i hi⟩
theorem mU {w:World}{b:Nat}{x0 x1 x2 x3 x4 x5 x6 x7:Value}{T:TypeId}(h:w.heap[b]? =some (.cells #[x0,x1,x2,x3,x4,x5,x6,x7] T (0,0))):
  w.cell? ⟨b,0,none⟩=some x0∧w.cell? ⟨b,1,none⟩=some x1∧w.cell? ⟨b,2,none⟩=some x2∧w.cell? ⟨b,3,none⟩=some x3∧w.cell? ⟨b,4,none⟩=some x4∧w.cell? ⟨b,5,none⟩=some x5∧w.cell? ⟨b,6,none⟩=some x6∧w.cell? ⟨b,7,none⟩=some x7:=
 ⟨(dY h),(dY h),(dY h),(dY h),(dY h),(dY h),(dY h),(dY h)⟩
theorem MS {w:World}{b:Nat}{x0 x1 x2 x3 x4:Value}{T:TypeId}(h:w.heap[b]? =some (.cells #[x0,x1,x2,x3,x4] T (0,0))):
  w.cell? ⟨b,0,none⟩=some x0∧w.cell? ⟨b,1,none⟩=some x1∧w.cell? ⟨b,2,none⟩=some x2∧w.cell? ⟨b,3,none⟩=some x3∧w.cell? ⟨b,4,none⟩=some x4:=
 ⟨(dY h),(dY h),(dY h),(dY h),(dY h)⟩
theorem rJ (w:World)(o1 o2:Obj):((w.alloc o1).alloc o2).heap[w.heap.size]? =some o1∧((w.alloc o1).alloc o2).heap[w.heap.size+1]? =some o2:=by
 have hs:(w.alloc o1).heap.size=w.heap.size+1:=by simp
 refine⟨?_,?_⟩
 ·exact ah (heap_alloc_new w o1) (Turn.alloc (fun _=>False) _ o2) (fun h=>h)
 ·have:=heap_alloc_new (w.alloc o1) o2;rwa [hs]at this
theorem Gi {w:World}{B:Nat}{A:Option Addr}{n c:Nat}{xk:List Value}{ks:List bW}(h2:Sl w B 8 (.slice A n c) xk)(hr:qX w B xk ks){i:Nat}(hi:i<ks.length)(hn:n=ks.length):
  ∃b o k s v2 v3 v4 A1 n1 c1 A2 n2 c2 A3 n3 c3,A=some ⟨b,o,none⟩∧Bv w B [I k,.string s,I v2,I v3,I v4,.slice A1 n1 c1,.slice A2 n2 c2,.slice A3 n3 c3] ks[i]∧
   w.cell? ⟨b,o+i*8,none⟩=some (I k)∧w.cell? ⟨b,o+i*8+1,none⟩=some (.string s)∧w.cell? ⟨b,o+i*8+2,none⟩=some (I v2)∧w.cell? ⟨b,o+i*8+3,none⟩=some (I v3)∧w.cell? ⟨b,o+i*8+4,none⟩=some (I v4)∧
   w.cell? ⟨b,o+i*8+5,none⟩=some (.slice A1 n1 c1)∧w.cell? ⟨b,o+i*8+6,none⟩=some (.slice A2 n2 c2)∧w.cell? ⟨b,o+i*8+7,none⟩=some (.slice A3 n3 c3):=by
 subst hn;obtain⟨b1,o1,rfl,hb1,hc1⟩:=BN h2 hi;have hr1:=hr.at i hi;obtain⟨kk,s,v2,v3,v4,A1,n1,c1,A2,n2,c2,A3,n3,c3,hv1⟩:=hr1.shape;rw [hv1]at hr1;refine⟨b1,o1,kk,s,v2,v3,v4,A1,n1,c1,A2,n2,c2,A3,n3,c3,rfl,hr1,?_,?_,?_,?_,?_,?_,?_,?_⟩
 ·have:=hc1 0 _ (lV hv1 (by omega:0<8));simpa using this
 ·have:=hc1 1 _ (lV hv1 (by omega:1<8));simpa [Nat.add_assoc]using this
 ·have:=hc1 2 _ (lV hv1 (by omega:2<8));simpa [Nat.add_assoc]using this
 ·have:=hc1 3 _ (lV hv1 (by omega:3<8));simpa [Nat.add_assoc]using this
 ·have:=hc1 4 _ (lV hv1 (by omega:4<8));simpa [Nat.add_assoc]using this
 ·have:=hc1 5 _ (lV hv1 (by omega:5<8));simpa [Nat.add_assoc]using this
 ·have:=hc1 6 _ (lV hv1 (by omega:6<8));simpa [Nat.add_assoc]using this
 ·have:=hc1 7 _ (lV hv1 (by omega:7<8));simpa [Nat.add_assoc]using this
theorem afM {α:Type}{l:List α}(h:l.length=2):∃a b,l=[a,b]:=by
 match l,h with
 | [a,b],_=>exact⟨a,b,rfl⟩
theorem Lh {m:Nat}{k:Int}{text:Bt}{n li co:Int}{ts:List bZ}{ns:List Bt}{ks:List bW}(h:ko m (.mk k text n li co ts ns ks)=true):
  ∃q,m=q+1∧(0<=k∧k<20)∧Lr k text n ts.length ns.length ks.length=true∧(∀x∈ns,x.length<=32)∧ts.all (dx 16)=true∧(∀x∈ks,ko q x=true):=by
 cases m with
 |zero=>cases h
 |succ q=>
  have h:(decide (0<=k∧k<20) && Lr k text n ts.length ns.length ks.length && ns.all gT && ts.all (dx 16) && ks.all (ko q))=true:=h;rw [Bool.and_eq_true,Bool.and_eq_true,Bool.and_eq_true,Bool.and_eq_true,decide_eq_true_eq]at h;exact⟨q,rfl,h.1.1.1.1,h.1.1.1.2,fun x hx=>wF (List.all_eq_true.1 h.1.1.2 x hx),h.1.2,fun x hx=>List.all_eq_true.1 h.2 x hx⟩
theorem Ey {P:Program}{ops:Array Oper}{o:Oper}{a:Act}{w:World}{K:Act->World->Prop}{Q:Exit->Act->World->Prop}{E:Prop}(hgd:o.guard=none)(s x:Operand)(t:TypeId)
  (ho:o.op=.call { callee:= .builtin .append,args:= #[s,x],argTypes:= #[t,t]})
  (base:Nat) {e:TypeId}{z:Value}(hE:oI P t e z 1 16) (v y:Value) (hs:a.eval s=v) (hx:a.eval x=y)
  {l:List Bt}(hown:iq w base e v l) {B:Nat}{m:List Bt}(hy:Ss w B y m) (hlen:l.length+m.length<=8796093022208) (hbase:base<=w.heap.size)
  (h:∀v' w',iq w' base e v' (l++m)->w.grownBy w' v.ownBlock->(v'.ownBlock=v.ownBlock∨v'.ownBlock=some w.heap.size)->K (a.put o.dst v') w'):
  if Region.wanted o (yielded ops a.tmps)=true then Oper.wp P o a w K Q else E:=
 gK hgd s x t ho base hE v y hs hx hown.row hy (wJ _) (by simp only [fE,maxLen];omega) (by rw [fE];omega) hbase
  (fun v' w' n' h1 h2 h3=>h v' w' ⟨n',by rw [mP];exact h1⟩ h2 h3)
structure Jm (w wr:World) (OB:Obj) (v:Value) (l:List Bt):Prop where
 box:wr.heap[w.heap.size+1]? =some (.cells #[v] 25 (0,0))
 own:iq wr (w.heap.size+2) 9 v l
 node:wr.heap[w.heap.size]? =some OB
 below:Below w.heap.size w wr
theorem Jm.far {w wr w':World}{OB:Obj}{v:Value}{l:List Bt}(h:Jm w wr OB v l)(hb:Below wr.heap.size wr w'):Jm w w' OB v l:=
 ⟨(hb.block _ (block_lt h.box)).trans h.box,h.own.below hb,(hb.block _ (block_lt h.node)).trans h.node,h.below.trans (hb.mono h.below.size)⟩
theorem Jm.cell {w wr:World}{OB:Obj}{v:Value}{l:List Bt}(h:Jm w wr OB v l):wr.cell? ⟨w.heap.size+1,0,none⟩=some v:=(dY h.box)
theorem Jm.grown {w wr w':World}{OB:Obj}{v v':Value}{l l':List Bt}(h:Jm w wr OB v l)(ho:iq w' (w.heap.size+2) 9 v' l')(hg:wr.grownBy w' v.ownBlock):
  w'.cell? ⟨w.heap.size+1,0,none⟩=some v∧w'.frozen? ⟨w.heap.size+1,0,none⟩=false∧Jm w (w'.setCell ⟨w.heap.size+1,0,none⟩ v') OB v' l':=by
 have hlt:=h.own.lt;have hb:=(hg.block _ (block_lt h.box) (by intro e;have:=(hlt _ e.symm).1;omega)).trans h.box;have hn:=(hg.block _ (block_lt h.node) (by intro e;have:=(hlt _ e.symm).1;omega)).trans h.node;have hbl:Below w.heap.size w w':=h.below.grown hg h.below.size (fun k hk=>by have:=(hlt k hk).1;omega);have t:=ak w' (w.heap.size+1) 0 v';refine⟨(dY hb),bG hb 0,heap_setCell_same _ _ _ _ _ _ hb,ho.turn t (fun g hg e=>by have:=(ho.lt g hg).1;omega),ah hn t,hbl.trans (t.below hbl.size (fun k hk e=>by omega))⟩
theorem iq.cell {w:World}{base:Nat}{e:TypeId}{g c n:Nat}{l:List Bt}(h:iq w base e (.slice (some ⟨g,0,none⟩) n c) l)(j:Nat)(hj:j<l.length):w.cell? ⟨g,j,none⟩=some (sv l[j]):=by
 have:=h.row.cells (g:=g) rfl j _ (FY l j hj);rwa [zi,Nat.zero_add]at this
theorem Vs {w:World}{B:Nat}{A:Option Addr}{n c:Nat}{xs:List Value}{l:List qY}(hs:Sl w B 15 (.slice A n c) xs)(hr:fA (Ju w B) 15 xs l){i:Nat}(hi:i<l.length)(hn:n=l.length):
  ∃b o A1 c1 A2 c2 kk s n1 l1 cc A3 n3 c3 A4 n4 c4 A5 n5 c5 nd md,A=some ⟨b,o,none⟩∧Ju w B [sv nd,.bool l[i].exp,.slice A1 l[i].vars.length c1,sv md,.slice A2 l[i].types.length c2,I kk,.string s,I n1,I l1,I cc,.slice A3 n3 c3,.slice A4 n4 c4,.slice A5 n5 c5,I l[i].line,I l[i].col] l[i]∧w.cell? ⟨b,o+i*15,none⟩=some (sv nd)∧w.cell? ⟨b,o+i*15+1,none⟩=some (.bool l[i].exp)∧w.cell? ⟨b,o+i*15+2,none⟩=some (.slice A1 l[i].vars.length c1)∧w.cell? ⟨b,o+i*15+3,none⟩=some (sv md)∧w.cell? ⟨b,o+i*15+4,none⟩=some (.slice A2 l[i].types.length c2)∧w.cell? ⟨b,o+i*15+5,none⟩=some (I kk)∧w.cell? ⟨b,o+i*15+6,none⟩=some (.string s)∧w.cell? ⟨b,o+i*15+7,none⟩=some (I n1)∧w.cell? ⟨b,o+i*15+8,none⟩=some (I l1)∧w.cell? ⟨b,o+i*15+9,none⟩=some (I cc)∧w.cell? ⟨b,o+i*15+10,none⟩=some (.slice A3 n3 c3)∧w.cell? ⟨b,o+i*15+11,none⟩=some (.slice A4 n4 c4)∧w.cell? ⟨b,o+i*15+12,none⟩=some (.slice A5 n5 c5)∧w.cell? ⟨b,o+i*15+13,none⟩=some (I l[i].line)∧w.cell? ⟨b,o+i*15+14,none⟩=some (I l[i].col):=by
 obtain⟨b,o,z,hA,hb,hz,hc⟩:=Q8 hs hr (by omega) hi hn;obtain⟨A1,c1,A2,c2,k,s,n,l1,c,A3,n3,c3,A4,n4,c4,A5,n5,c5,xv,xt,rfl,_⟩:=hz.parts;refine⟨b,o,A1,c1,A2,c2,k,s,n,l1,c,A3,n3,c3,A4,n4,c4,A5,n5,c5,l[i].name,l[i].param,hA,hz,by simpa using hc 0 _ rfl,hc 1 _ rfl,hc 2 _ rfl,hc 3 _ rfl,hc 4 _ rfl,hc 5 _ rfl,hc 6 _ rfl,hc 7 _ rfl,hc 8 _ rfl,hc 9 _ rfl,hc 10 _ rfl,hc 11 _ rfl,hc 12 _ rfl,hc 13 _ rfl,hc 14 _ rfl⟩
theorem afN {w:World}{B:Nat}{k:Int}{l:List Value}{t:bZ}(h:BO w B (I k :: l) t):t.kind=k:=by
 cases h;rfl
theorem adB {w:World}{B:Nat}{A:Option Addr}{n c:Nat}{xs:List Value}{l:List vC}(hs:Sl w B 5 (.slice A n c) xs)(hr:fA (VJ w B) 5 xs l){i:Nat}(hi:i<l.length)(hn:n=l.length):
  ∃b o k s A1 n1 c1 A2 n2 c2,A=some ⟨b,o,none⟩∧BO w B [I k,.string s,.slice A1 n1 c1,.slice A2 n2 c2] l[i].bound∧l[i].bound.kind=k∧w.cell? ⟨b,o+i*5,none⟩=some (sv l[i].name)∧w.cell? ⟨b,o+i*5+1,none⟩=some (I k)∧w.cell? ⟨b,o+i*5+2,none⟩=some (.string s)∧w.cell? ⟨b,o+i*5+3,none⟩=some (.slice A1 n1 c1)∧w.cell? ⟨b,o+i*5+4,none⟩=some (.slice A2 n2 c2):=by
 obtain⟨b,o,z,hA,hb,⟨y,rfl,hy⟩,hc⟩:=Q8 hs hr (by omega) hi hn;obtain⟨k,s,A1,n1,c1,A2,n2,c2,rfl⟩:=hy.shape;exact⟨b,o,k,s,A1,n1,c1,A2,n2,c2,hA,hy,afN hy,by simpa using hc 0 _ rfl,hc 1 _ rfl,hc 2 _ rfl,hc 3 _ rfl,hc 4 _ rfl⟩
theorem SS {a b:List Bt}{i:Nat}(ha:i<a.length)(hb:i<b.length)(h:a.take i=b.take i)(h2:a[i]=b[i]):a.take (i+1)=b.take (i+1):=by
 rw [List.take_succ_eq_append_getElem ha,List.take_succ_eq_append_getElem hb,h,h2]
theorem XK (va vb:Value)(a b:List Bt)(w:World)(ha:Ss w w.heap.size va a)(hb:Ss w w.heap.size vb b):
  Calls Tryz.prog 31 #[va,vb] w fun e w'=>e=.returned (.bool (decide (a=b)))∧Below w.heap.size w w':=by
 have HA:=aO ha;have HB:=aO hb;obtain⟨A,ca,rfl⟩:=fM ha (by omega) (m:=a.length) (by rw [fE];omega);obtain⟨B,cb,rfl⟩:=fM hb (by omega) (m:=b.length) (by rw [fE];omega);have l1:=(dU ha).2;have l2:=(dU hb).2;clear ha hb;by_cases hl:a.length=b.length
 case neg=>
  have g:((a.length:Int) != (b.length:Int))=true:=by rw [bne_iff_ne];omega
  have HR:bq (decide (a=b)=false):=aO (decide_eq_false (fun h=>hl (by rw [h])));clear hl;go_enter Tryz.func31,Tryz.ntmps31;go_wp2_with fail;go_ret;exact⟨by rw [HR.o];rfl,Below.refl _ _⟩
 obtain⟨n,hn⟩:∃n,a.length=n:=⟨_,rfl⟩
 have hm:b.length=n:=by omega
 rw [hn]at HA l1;rw [hm]at HB l2;rw [hn,hm];have HN:=aO hn;have HM:=aO hm;clear hl hn hm;go_enter Tryz.func31,Tryz.ntmps31;go_wp2_with fail;go_loopw [5] (fun v5 wr=>∃i:Nat,v5=I i∧i<=n∧a.take i=b.take i∧Below w.heap.size w wr) (fun v5 _=>n - (intOf v5).toNat)
 case atStart=>exact⟨0,rfl,by omega,by simp,Below.refl _ _⟩
 case round=>
  obtain⟨i,rfl,hi,heq,hbr⟩:=hrel;have HE:=aO heq;have Au:=aO hbr;clear heq;by_cases hlt:i<n
  ·have hia:i<a.length:=by rw [HN.o];exact hlt
   have hib:i<b.length:=by rw [HM.o];exact hlt
   obtain⟨b1,o1,rfl,d0⟩:=Vr (Sl.below HA.o hbr) hia;obtain⟨b2,o2,rfl,d1⟩:=Vr (Sl.below HB.o hbr) hib;have Jw:bq (a[i]=b[i]->a.take (i+1)=b.take (i+1)):=aO (fun h=>SS hia hib HE.o h);have HNE:bq (¬a[i]=b[i]->decide (a=b)=false):=aO (fun h=>decide_eq_false (fun h2=>h (by subst h2;rfl)));have D0:=aO d0;have D1:=aO d1;have HB0:bq (Below wr.heap.size wr wr.drew):=aO (aP wr 1);generalize a[i]=X at*
   generalize b[i]=Y at*
   clear hbr d0 d1;by_cases hxy:X=Y
   ·have H9:=aO (Jw.o hxy);subst hxy;clear Jw HNE;go_wp2_with fail;refine wp_region_held_drew (S:=fun w'=>Below wr.heap.size wr w') (by kernel_rfl) HB0.o (fun _=>?_)
    try simp only [sp,sq]
    refine tk 0 (.slice (some ⟨b1,o1,none⟩) n ca) HB0.o ?_;refine tk 1 (I i) HB0.o ?_;refine tk 2 (pP b1 (o1+i)) HB0.o ?_;refine jE 3 (sv X) (JG D0.o) HB0.o ?_;refine tk 4 (.slice (some ⟨b2,o2,none⟩) n cb) HB0.o ?_;refine tk 5 (I i) HB0.o ?_;refine tk 6 (pP b2 (o2+i)) HB0.o ?_;refine jE 7 (sv X) (JG D1.o) HB0.o ?_;refine tk 8 (.bool false) HB0.o ?_;refine eT _ ?_;go_wp2_with fail
    go_roundw
    case rel=>exact⟨i+1,rfl,by omega,H9.o,Au.o.trans (HB0.o.mono Au.o.size)⟩
    case measure=>simp [intOf];omega
   ·have g:(X != Y)=true:=by rw [bne_iff_ne];exact hxy
    have H9:=aO (HNE.o hxy);go_wp2_with fail;refine wp_region_held_drew (S:=fun w'=>Below wr.heap.size wr w') (by kernel_rfl) HB0.o (fun _=>?_)
    try simp only [sp,sq]
    refine tk 0 (.slice (some ⟨b1,o1,none⟩) n ca) HB0.o ?_;refine tk 1 (I i) HB0.o ?_;refine tk 2 (pP b1 (o1+i)) HB0.o ?_;refine jE 3 (sv X) (JG D0.o) HB0.o ?_;refine tk 4 (.slice (some ⟨b2,o2,none⟩) n cb) HB0.o ?_;refine tk 5 (I i) HB0.o ?_;refine tk 6 (pP b2 (o2+i)) HB0.o ?_;refine jE 7 (sv Y) (JG D1.o) HB0.o ?_;refine tk 8 (.bool true) HB0.o ?_;refine eT _ ?_;go_wp2_with fail;go_ret;exact⟨by rw [H9.o];rfl,Au.o.trans (HB0.o.mono Au.o.size)⟩
  ·obtain rfl:i=n:=by omega
   have H9:bq (decide (a=b)=true):=aO (decide_eq_true (by
    have h:=HE.o;rw [List.take_of_length_le (by rw [HN.o];omega),List.take_of_length_le (by rw [HM.o];omega)]at h;exact h))
   clear hbr hlt;go_wp2_with fail;go_ret;exact⟨by rw [H9.o];rfl,Au.o⟩
end Go.Proofs.YtncnnedlgofccaaGreatDoor
