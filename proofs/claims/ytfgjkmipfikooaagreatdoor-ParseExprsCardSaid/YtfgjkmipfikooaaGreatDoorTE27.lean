/- GK, GL, TL, UM, GM, GN, UI, UN -/
import Derived.Test.YtfgjkmipfikooaaGreatDoorTE26
import Derived.Lib.ItoaLen
import Derived.Shelf.Strings.IndexFuncSpace
import Derived.Deep.WholeRow
set_option linter.unusedSimpArgs false
set_option linter.unusedVariables false
set_option maxRecDepth 100000
set_option maxHeartbeats 8000000
namespace Go.Proofs.YtfgjkmipfikooaaGreatDoor
open Go.RowKit
mutual
def adg:bS->Nat
 |.mk _ _ _ ks=>1+xw ks
def xw:List bS->Nat
 | []=>0
 |t :: l=>adg t+xw l
end
def jX (l:List Bt):Nat:=(l.map List.length).sum
theorem kD (x:Bt)(l:List Bt):jX (x :: l)=x.length+jX l:=by simp [jX]
theorem uw (sep:Bt):∀l:List Bt,(zN sep l).length<=jX l+sep.length*l.length
 | []=>by simp [zN]
 | [x]=>by simp [zN,jX]
 |x :: y :: l=>by
  have h:=uw sep (y :: l);rw [zN,List.length_append,List.length_append,kD,List.length_cons,Nat.mul_succ];omega
theorem uy {s:Bt}(h:eG s=true):s.length<=32:=by
 rcases Nat.lt_or_ge 32 s.length with h1 |h1
 ·rw [G6 h1]at h;cases h
 ·exact h1
theorem CF:∀(ns l:List Bt),(∀n∈ns,n.length<=32)->jX (List.zipWith uH ns l)<=jX l+34*l.length
 | [],l,_=>by simp [jX]
 |n :: ns,[],_=>by simp [jX]
 |n :: ns,x :: l,h=>by
  have h1:=CF ns l fun y hy=>h y (List.mem_cons_of_mem _ hy);have h2:=h n (List.mem_cons_self ..);rw [List.zipWith_cons_cons,kD,kD,List.length_cons];have h3:(uH n x).length=n.length+(2+x.length):=by unfold uH;simp only [List.length_append,List.length_cons,List.length_nil]
  omega
theorem KN {α β γ:Type}(f:α->β->γ):∀(a:List α) (b:List β),(List.zipWith f a b).length<=b.length
 | [],b=>by simp
 |x :: a,[]=>by simp
 |x :: a,y :: b=>by rw [List.length_zipWith];omega
theorem He (ks:List Int)(k:Int)(s:Bt):(yV ks k s).length<=s.length+2:=by
 unfold yV;split
 ·simp
 ·omega
theorem JH (kk:List Int):∀(ks:List Int) (l:List Bt),jX (List.zipWith (yV kk) ks l)<=jX l+2*l.length
 | [],l=>by simp [jX]
 |k :: ks,[]=>by simp [jX]
 |k :: ks,x :: l=>by
  have h1:=JH kk ks l;have h2:=He kk k x;rw [List.zipWith_cons_cons,kD,kD,List.length_cons];omega
theorem Oc (l:List Bt)(i:Nat):(l.getD i []).length<=jX l:=by
 induction l generalizing i with
 |nil=>simp [jX]
 |cons x l ih=>
  rw [kD];cases i with
  |zero=>simp
  |succ i=>have:=ih i;simp only [List.getD_cons_succ];omega
theorem adh (l:List Bt):(l.getD 0 []).length+(l.getD 1 []).length<=jX l:=by
 match l with
 | []=>simp [jX]
 | [x]=>simp [jX]
 |x :: y :: l=>simp [jX]
theorem IE (l:List bS):(iH l).length=l.length:=by rw [yX,List.length_map]
mutual
theorem aaH:∀(t:bS) (m:Nat),bC m t=true->(zO t).length+44<=80*adg t
 |.mk k nm ns ks,m,h=>by
  obtain⟨m,rfl⟩:∃q,m=q+1:=by
   cases m with
   |zero=>cases h
   |succ q=>exact⟨q,rfl⟩
  have h:(ns.all eG && ks.all (bC m) && gH k nm ns.length ks.length)=true:=h;rw [Bool.and_eq_true,Bool.and_eq_true]at h;obtain⟨⟨h1,h2⟩,h3⟩:=h;have hn:∀n∈ns,n.length<=32:=fun n hn=>uy (List.all_eq_true.1 h1 n hn);have hk:=x9 ks m h2;have hl:=IE ks;rw [zO,adg];split
  ·simp;omega
  split
  ·simp;omega
  split
  ·simp;omega
  split
  ·simp;omega
  split
  ·simp;omega
  split
  ·have a1:=uw [44,32] (List.zipWith uH ns (iH ks));have a2:=CF ns (iH ks) hn;have a3:=KN uH ns (iH ks);simp only [List.length_append,List.length_cons,List.length_nil]at a1 ⊢;omega
  split
  ·have a1:=He [6] ((ks.map bS.kind).getD 0 0) ((iH ks).getD 0 []);have a2:=adh (iH ks);simp only [List.length_append,List.length_cons,List.length_nil];omega
  split
  ·have a1:=uw [32,124,32] (List.zipWith (yV [6,7]) (ks.map bS.kind) (iH ks));have a2:=JH [6,7] (ks.map bS.kind) (iH ks);have a3:=KN (yV [6,7]) (ks.map bS.kind) (iH ks);simp only [List.length_append,List.length_cons,List.length_nil]at a1 ⊢;omega
  ·have hnm:nm.length<=32:=by
    unfold gH at h3;split at h3
    ·rw [Bool.and_eq_true]at h3;exact uy h3.2
    ·split at h3
     ·cases h3
     ·rename_i h4
      have:nm=[]:=by
       rcases nm with _ |⟨c,r⟩
       ·rfl
       ·exact absurd (.inl (by simp)) h4
      rw [this];simp
   omega
theorem x9:∀(l:List bS) (m:Nat),l.all (bC m)=true->jX (iH l)+44*l.length<=80*xw l
 | [],_,_=>by simp [jX,iH]
 |t :: l,m,h=>by
  rw [List.all_cons,Bool.and_eq_true]at h;have h1:=aaH t m h.1;have h2:=x9 l m h.2;rw [iH,kD,xw,List.length_cons];omega
end
mutual
def Hf:bI->Nat
 |.mk _ _ _ _ _ ts _ ks=>1+xw ts+yP ks
def yP:List bI->Nat
 | []=>0
 |t :: l=>Hf t+yP l
end
theorem Od:∀{l:List bI}{t:bI},t∈l->Hf t<=yP l
 | [],_,h=>by cases h
 |x :: l,t,h=>by
  rw [yP];rcases List.mem_cons.1 h with rfl |h
  ·omega
  ·have:=Od h;omega
theorem aaI (t:bI):0<Hf t:=by cases t;rw [Hf];omega
theorem CG:∀l:List bI,l.length<=yP l
 | []=>by simp
 |t :: l=>by have:=CG l;have:=aaI t;rw [yP,List.length_cons];omega
theorem agc {α:Type}{c:Prop}[Decidable c]{P:α->Prop}{a b:α}(ha:P a)(hb:P b):P (if c then a else b):=by
 by_cases h:c
 ·rw [if_pos h];exact ha
 ·rw [if_neg h];exact hb
theorem aiV {s:Bt}(h:opsL.contains s=true):s.length<=3:=by
 have h1:s∈opsL:=by simpa using h
 have h2:∀x∈opsL,x.length<=3:=by decide
 exact h2 s h1
theorem Hg {k:Int}{s:Bt}{b:Bool}(h:sM k s b=true):s.length<=256:=by
 unfold sM at h;split at h
 ·have:=uy h;omega
 split at h
 ·unfold H8 at h;rw [Bool.and_eq_true,decide_eq_true_eq]at h;exact h.1
 split at h
 ·have:=aiV h;omega
 ·have:s=[]:=by simpa using h
  rw [this];simp
theorem Vu (s:Bt):(JL s).length<=2*s.length+2:=by
 have h1:=adf s;have h2:=ade s;unfold JL;rw [List.length_cons,List.length_append];simp only [List.length_cons,List.length_nil];omega
theorem aaJ (ts:List bS)(m:Nat)(h:ts.all (bC m)=true):(CQ ts 0).length+(CQ ts 1).length<=80*xw ts:=by
 have h1:=x9 ts m h
 match ts,h1 with
 | [],_=>simp [CQ]
 | [t],h1=>
  simp [CQ,iH,jX]at h1 ⊢;omega
 |t :: u :: l,h1=>
  simp [CQ,iH,jX]at h1 ⊢;omega
theorem aaK (i:Nat):(lS.getD i []).length<=28:=by
 have:=Oc lS i;have h:jX lS=28:=by decide
 omega
theorem Tw:∀l:List Bt,(cat l).length=jX l
 | []=>rfl
 |x :: l=>by
  have:=Tw l;rw [kD,<-this];simp [cat]
theorem Vv (l:List Bt):(l.getD 0 []).length+(l.getD 1 []).length+(l.getD 2 []).length<=jX l:=by
 match l with
 | []=>simp [jX]
 | [x]=>simp [jX]
 | [x,y]=>simp [jX]
 |x :: y :: z :: l=>simp [jX];omega
theorem sG (l:List bI):(oG l).length=l.length:=by rw [uI,List.length_map]
theorem In64.itoa {n:Int}(h:0<=n∧n<=9223372036854775807):(Lib.itoa n).length<=40:=by
 have:=Lib.itoa_length_le n (by omega) (by omega);omega
theorem aaL (k:Int)(text:Bt)(n:Int)(ts:List bS)(ns:List Bt)(s:List Bt)(m:Nat)(ht:text.length<=256)(hn:0<=n∧n<=9223372036854775807)(hts:ts.all (bC m)=true)(hns:∀x∈ns,x.length<=32):
  (IW k text n ts ns s).length+44<=700+80*xw ts+(jX s+36*s.length):=by
 have a1:=aaJ ts m hts;have a2:=x9 ts m hts;have a3:=Vv s;have a4:=aaK n.toNat;have a5:=Vu text;have a6:=uw [44,32] (ts.map zO);have a7:=uw [44,32] (List.zipWith uH ns s);have a8:=CF ns s hns;have a9:=KN uH ns s;have QH:=Oc (ts.map zO) 0;have OL:=In64.itoa hn;rw [yX]at a2;rw [List.length_map]at a6;simp only [List.length_cons,List.length_nil]at a6 a7;unfold IW zP;generalize Lib.itoa n=it at*
 repeat' (refine agc (P:=fun l:Bt=>l.length+44<=700+80*xw ts+(jX s+36*s.length)) ?_ ?_)
 all_goals first
  |omega
  |(rw [Tw];simp only [jX,List.map_cons,List.map_nil,List.sum_cons,List.sum_nil,List.length_cons,List.length_nil];simp only [jX]at*;omega)
  |(simp only [List.length_cons,List.length_nil];omega)
theorem aaM {k:Int}{text:Bt}{n:Int}{a b c:Nat}(h:JM k text n a b c=true):text.length<=256∧0<=n∧n<=9223372036854775807:=by
 unfold JM at h;rw [Bool.and_eq_true,Bool.and_eq_true,Bool.and_eq_true,decide_eq_true_eq]at h;refine⟨Hg h.1.1.2,h.1.1.1.1,?_⟩;have h1:=h.1.1.1.2;have h2:(eD k).most<=9223372036854775807:=by
  show(fun h:abp=>h.most<=9223372036854775807) (eD k);unfold eD
  repeat' (refine agc (P:=fun h:abp=>h.most<=9223372036854775807) ?_ ?_)
  all_goals (show(_:Int)<= _;decide)
 omega
mutual
theorem Hl:∀(x:bI) (m:Nat),d9 m x=true->(sN x).length+44<=700*Hf x
 |.mk k text n li co ts ns ks,m,h=>by
  obtain⟨m,rfl⟩:∃q,m=q+1:=by
   cases m with
   |zero=>cases h
   |succ q=>exact⟨q,rfl⟩
  have h:(decide (0<=k∧k<20) && JM k text n ts.length ns.length ks.length && ns.all eG && ts.all (bC 16) && ks.all (d9 m))=true:=h;rw [Bool.and_eq_true,Bool.and_eq_true,Bool.and_eq_true,Bool.and_eq_true]at h;obtain⟨⟨⟨⟨h1,h2⟩,h3⟩,h4⟩,h5⟩:=h;obtain⟨o1,o2⟩:=aaM h2;have hk:=JI ks m h5;have hl:=sG ks;have hh:=aaL k text n ts ns (oG ks) 16 o1 o2 h4 (fun x hx=>uy (List.all_eq_true.1 h3 x hx));rw [sN,Hf];omega
theorem JI:∀(l:List bI) (m:Nat),l.all (d9 m)=true->jX (oG l)+44*l.length<=700*yP l
 | [],_,_=>by simp [jX,oG]
 |t :: l,m,h=>by
  rw [List.all_cons,Bool.and_eq_true]at h;have h1:=Hl t m h.1;have h2:=JI l m h.2;rw [oG,kD,yP,List.length_cons];omega
end
theorem KO {w:World}{B:Nat}{A:Option Addr}{n c:Nat}{xk:List Value}{ks:List bS}(h2:Sl w B 4 (.slice A n c) xk)(hr:kg w B xk ks){i:Nat}(hi:i<ks.length)(hn:n=ks.length):
  ∃b o k s A1 n1 c1 A2 n2 c2,A=some ⟨b,o,none⟩∧BH w B [.int .i64 k,.string s,.slice A1 n1 c1,.slice A2 n2 c2] ks[i]∧w.cell? ⟨b,o+i*4,none⟩=some (.int .i64 k)∧w.cell? ⟨b,o+i*4+1,none⟩=some (.string s)∧w.cell? ⟨b,o+i*4+2,none⟩=some (.slice A1 n1 c1)∧w.cell? ⟨b,o+i*4+3,none⟩=some (.slice A2 n2 c2):=by
 subst hn;obtain⟨b1,o1,rfl,hb1,hc1⟩:=Eh h2 hi (by omega);have hr1:=hr.at i hi;obtain⟨kk,s,A1,n1,c1,A2,n2,c2,hv1⟩:=hr1.shape;rw [hv1]at hr1;refine⟨b1,o1,kk,s,A1,n1,c1,A2,n2,c2,rfl,hr1,?_,?_,?_,?_⟩
 ·have:=hc1 0 _ (kK hv1 (by omega:0<4));simpa using this
 ·have:=hc1 1 _ (kK hv1 (by omega:1<4));simpa [Nat.add_assoc]using this
 ·have:=hc1 2 _ (kK hv1 (by omega:2<4));simpa [Nat.add_assoc]using this
 ·have:=hc1 3 _ (kK hv1 (by omega:3<4));simpa [Nat.add_assoc]using this
theorem Tx {w:World}{B:Nat}{A:Option Addr}{n c:Nat}{ns:List Bt}(h:Ss w B (.slice A n c) ns){i:Nat}(hi:i<ns.length):
  ∃b o,A=some ⟨b,o,none⟩∧w.cell? ⟨b,o+i,none⟩=some (sv ns[i]):=by
 obtain⟨A',c',hv,_,_,hx⟩:=h.open_;injection hv with e1 e2 e3;subst e1 e2 e3;obtain⟨b,o,hA,_,hc⟩:=hx (by omega);exact⟨b,o,hA,hc i hi⟩
theorem lQ {w:World}{b:Nat}{x0 x1 x2 x3 x4 x5 x6 x7:Value}{T:TypeId}(h:w.heap[b]? =some (.cells #[x0,x1,x2,x3,x4,x5,x6,x7] T (0,0))):
  w.cell? ⟨b,0,none⟩=some x0∧w.cell? ⟨b,1,none⟩=some x1∧w.cell? ⟨b,2,none⟩=some x2∧w.cell? ⟨b,3,none⟩=some x3∧w.cell? ⟨b,4,none⟩=some x4∧w.cell? ⟨b,5,none⟩=some x5∧w.cell? ⟨b,6,none⟩=some x6∧w.cell? ⟨b,7,none⟩=some x7:=
 ⟨(cell_of_row _ _ _ _ _ _ h).trans rfl,(cell_of_row _ _ _ _ _ _ h).trans rfl,(cell_of_row _ _ _ _ _ _ h).trans rfl,(cell_of_row _ _ _ _ _ _ h).trans rfl,(cell_of_row _ _ _ _ _ _ h).trans rfl,(cell_of_row _ _ _ _ _ _ h).trans rfl,(cell_of_row _ _ _ _ _ _ h).trans rfl,(cell_of_row _ _ _ _ _ _ h).trans rfl⟩
theorem KP {w:World}{b:Nat}{x0 x1 x2 x3 x4:Value}{T:TypeId}(h:w.heap[b]? =some (.cells #[x0,x1,x2,x3,x4] T (0,0))):
  w.cell? ⟨b,0,none⟩=some x0∧w.cell? ⟨b,1,none⟩=some x1∧w.cell? ⟨b,2,none⟩=some x2∧w.cell? ⟨b,3,none⟩=some x3∧w.cell? ⟨b,4,none⟩=some x4:=
 ⟨(cell_of_row _ _ _ _ _ _ h).trans rfl,(cell_of_row _ _ _ _ _ _ h).trans rfl,(cell_of_row _ _ _ _ _ _ h).trans rfl,(cell_of_row _ _ _ _ _ _ h).trans rfl,(cell_of_row _ _ _ _ _ _ h).trans rfl⟩
theorem uZ (w:World)(o1 o2:Obj):((w.alloc o1).alloc o2).heap[w.heap.size]? =some o1∧((w.alloc o1).alloc o2).heap[w.heap.size+1]? =some o2:=by
 have hs:(w.alloc o1).heap.size=w.heap.size+1:=by simp
 refine⟨?_,?_⟩
 ·exact ah (heap_alloc_new w o1) (Turn.alloc (fun _=>False) _ o2) (fun h=>h)
 ·have:=heap_alloc_new (w.alloc o1) o2;rwa [hs]at this
theorem ED {w:World}{B:Nat}{A:Option Addr}{n c:Nat}{xk:List Value}{ks:List bI}(h2:Sl w B 8 (.slice A n c) xk)(hr:oZ w B xk ks){i:Nat}(hi:i<ks.length)(hn:n=ks.length):
  ∃b o k s v2 v3 v4 A1 n1 c1 A2 n2 c2 A3 n3 c3,A=some ⟨b,o,none⟩∧zC w B [.int .i64 k,.string s,.int .i64 v2,.int .i64 v3,.int .i64 v4,.slice A1 n1 c1,.slice A2 n2 c2,.slice A3 n3 c3] ks[i]∧
   w.cell? ⟨b,o+i*8,none⟩=some (.int .i64 k)∧w.cell? ⟨b,o+i*8+1,none⟩=some (.string s)∧w.cell? ⟨b,o+i*8+2,none⟩=some (.int .i64 v2)∧w.cell? ⟨b,o+i*8+3,none⟩=some (.int .i64 v3)∧w.cell? ⟨b,o+i*8+4,none⟩=some (.int .i64 v4)∧
   w.cell? ⟨b,o+i*8+5,none⟩=some (.slice A1 n1 c1)∧w.cell? ⟨b,o+i*8+6,none⟩=some (.slice A2 n2 c2)∧w.cell? ⟨b,o+i*8+7,none⟩=some (.slice A3 n3 c3):=by
 subst hn;obtain⟨b1,o1,rfl,hb1,hc1⟩:=Eh h2 hi (by omega);have hr1:=hr.at i hi;obtain⟨kk,s,v2,v3,v4,A1,n1,c1,A2,n2,c2,A3,n3,c3,hv1⟩:=hr1.shape;rw [hv1]at hr1;refine⟨b1,o1,kk,s,v2,v3,v4,A1,n1,c1,A2,n2,c2,A3,n3,c3,rfl,hr1,?_,?_,?_,?_,?_,?_,?_,?_⟩
 ·have:=hc1 0 _ (kK hv1 (by omega:0<8));simpa using this
 ·have:=hc1 1 _ (kK hv1 (by omega:1<8));simpa [Nat.add_assoc]using this
 ·have:=hc1 2 _ (kK hv1 (by omega:2<8));simpa [Nat.add_assoc]using this
 ·have:=hc1 3 _ (kK hv1 (by omega:3<8));simpa [Nat.add_assoc]using this
 ·have:=hc1 4 _ (kK hv1 (by omega:4<8));simpa [Nat.add_assoc]using this
 ·have:=hc1 5 _ (kK hv1 (by omega:5<8));simpa [Nat.add_assoc]using this
 ·have:=hc1 6 _ (kK hv1 (by omega:6<8));simpa [Nat.add_assoc]using this
 ·have:=hc1 7 _ (kK hv1 (by omega:7<8));simpa [Nat.add_assoc]using this
theorem adi {α:Type}{l:List α}(h:l.length=2):∃a b,l=[a,b]:=by
 match l,h with
 | [a,b],_=>exact⟨a,b,rfl⟩
theorem JJ {m:Nat}{k:Int}{text:Bt}{n li co:Int}{ts:List bS}{ns:List Bt}{ks:List bI}(h:d9 m (.mk k text n li co ts ns ks)=true):
  ∃q,m=q+1∧(0<=k∧k<20)∧JM k text n ts.length ns.length ks.length=true∧(∀x∈ns,x.length<=32)∧ts.all (bC 16)=true∧(∀x∈ks,d9 q x=true):=by
 cases m with
 |zero=>cases h
 |succ q=>
  have h:(decide (0<=k∧k<20) && JM k text n ts.length ns.length ks.length && ns.all eG && ts.all (bC 16) && ks.all (d9 q))=true:=h;rw [Bool.and_eq_true,Bool.and_eq_true,Bool.and_eq_true,Bool.and_eq_true,decide_eq_true_eq]at h;exact⟨q,rfl,h.1.1.1.1,h.1.1.1.2,fun x hx=>uy (List.all_eq_true.1 h.1.1.2 x hx),h.1.2,fun x hx=>List.all_eq_true.1 h.2 x hx⟩
theorem CJ {P:Program}{ops:Array Oper}{o:Oper}{a:Act}{w:World}{K:Act->World->Prop}{Q:Exit->Act->World->Prop}{E:Prop}(hgd:o.guard=none)(s x:Operand)(t:TypeId)
  (ho:o.op=.call { callee:= .builtin .append,args:= #[s,x],argTypes:= #[t,t]})
  (base:Nat) {e:TypeId}{z:Value}(hE:ng P t e z 1 16) (v y:Value) (hs:a.eval s=v) (hx:a.eval x=y)
  {l:List Bt}(hown:gZ w base e v l) {B:Nat}{m:List Bt}(hy:Ss w B y m) (hlen:l.length+m.length<=8796093022208) (hbase:base<=w.heap.size)
  (h:∀v' w',gZ w' base e v' (l++m)->w.grownBy w' v.ownBlock->(v'.ownBlock=v.ownBlock∨v'.ownBlock=some w.heap.size)->K (a.put o.dst v') w'):
  if Region.wanted o (yielded ops a.tmps)=true then Oper.wp P o a w K Q else E:=
 fT hgd s x t ho base hE v y hs hx hown.row hy (xE _) (by simp only [eX,maxLen];omega) (by rw [eX];omega) hbase
  (fun v' w' n' h1 h2 h3=>h v' w' ⟨n',by rw [ni];exact h1⟩ h2 h3)
structure Ho (w wr:World) (OB:Obj) (v:Value) (l:List Bt):Prop where
 box:wr.heap[w.heap.size+1]? =some (.cells #[v] 25 (0,0))
 own:gZ wr (w.heap.size+2) 9 v l
 node:wr.heap[w.heap.size]? =some OB
 below:Below w.heap.size w wr
theorem Ho.far {w wr w':World}{OB:Obj}{v:Value}{l:List Bt}(h:Ho w wr OB v l)(hb:Below wr.heap.size wr w'):Ho w w' OB v l:=
 ⟨(hb.block _ (block_lt h.box)).trans h.box,h.own.below hb,(hb.block _ (block_lt h.node)).trans h.node,h.below.trans (hb.mono h.below.size)⟩
theorem Ho.cell {w wr:World}{OB:Obj}{v:Value}{l:List Bt}(h:Ho w wr OB v l):wr.cell? ⟨w.heap.size+1,0,none⟩=some v:=(cell_of_row _ _ _ _ _ _ h.box).trans rfl
theorem Ho.grown {w wr w':World}{OB:Obj}{v v':Value}{l l':List Bt}(h:Ho w wr OB v l)(ho:gZ w' (w.heap.size+2) 9 v' l')(hg:wr.grownBy w' v.ownBlock):
  w'.cell? ⟨w.heap.size+1,0,none⟩=some v∧w'.frozen? ⟨w.heap.size+1,0,none⟩=false∧Ho w (w'.setCell ⟨w.heap.size+1,0,none⟩ v') OB v' l':=by
 have hlt:=h.own.lt;have hb:=(hg.block _ (block_lt h.box) (by intro e;have:=(hlt _ e.symm).1;omega)).trans h.box;have hn:=(hg.block _ (block_lt h.node) (by intro e;have:=(hlt _ e.symm).1;omega)).trans h.node;have hbl:Below w.heap.size w w':=h.below.grown hg h.below.size (fun k hk=>by have:=(hlt k hk).1;omega);have t:=ak w' (w.heap.size+1) 0 v';refine⟨(cell_of_row _ _ _ _ _ _ hb).trans rfl,bE hb 0,heap_setCell_same _ _ _ _ _ _ hb,ho.turn t (fun g hg e=>by have:=(ho.lt g hg).1;omega),ah hn t (by omega),hbl.trans (t.below hbl.size (fun k hk e=>by omega))⟩
theorem gZ.cell {w:World}{base:Nat}{e:TypeId}{g c n:Nat}{l:List Bt}(h:gZ w base e (.slice (some ⟨g,0,none⟩) n c) l)(j:Nat)(hj:j<l.length):w.cell? ⟨g,j,none⟩=some (sv l[j]):=by
 have:=h.row.cells (g:=g) rfl j _ (Ef l j hj);rwa [xC,Nat.zero_add]at this
def okS (s:Bt):Bool:=s.all (fun c=> !(decide (c<32) && c != 9 && c != 10))
def yA (n:Nat):Bool:=decide (n<32) && n != 9 && n != 10
theorem Tz (s:ByteArray)(i:Nat)(h:(s.get! i).toNat<128):Utf8.decode s i=((s.get! i).toNat,1):=by
 unfold Utf8.decode;simp only [Nat.add_zero];rw [if_pos h]
theorem pX (s:ByteArray)(i k:Nat)(h:(decide (i+k<s.size) && (s.get! (i+k)).toNat / 64==2)=true):128<=(s.get! (i+k)).toNat:=by
 rw [Bool.and_eq_true,beq_iff_eq]at h;omega
theorem Oe (s:ByteArray)(i:Nat)(h:128<=(s.get! i).toNat):128<=(Utf8.decode s i).1∧∀j,j<(Utf8.decode s i).2->128<=(s.get! (i+j)).toNat:=by
 have h0:∀j,j<1->128<=(s.get! (i+j)).toNat:=by
  intro j hj;obtain rfl:j=0:=by omega
  exact h
 unfold Utf8.decode;simp only [Nat.add_zero];rw [if_neg (by omega)];split
 ·rename_i h1
  rw [Bool.and_eq_true]at h1;have a1:=pX s i 1 h1.2;split
  ·rename_i h2
   refine⟨h2,fun j hj=>?_⟩;have hj:j<2:=hj;obtain rfl |rfl:j=0∨j=1:=by omega
   ·exact h
   ·exact a1
  ·exact⟨by decide,h0⟩
 split
 ·rename_i h1
  rw [Bool.and_eq_true,Bool.and_eq_true]at h1;have a1:=pX s i 1 h1.1.2;have a2:=pX s i 2 h1.2;split
  ·rename_i h2
   rw [Bool.and_eq_true,decide_eq_true_eq]at h2;refine⟨by have:=h2.1;omega,fun j hj=>?_⟩;have hj:j<3:=hj;obtain rfl |rfl |rfl:j=0∨j=1∨j=2:=by omega
   ·exact h
   ·exact a1
   ·exact a2
  ·exact⟨by decide,h0⟩
 split
 ·rename_i h1
  rw [Bool.and_eq_true,Bool.and_eq_true,Bool.and_eq_true]at h1;have a1:=pX s i 1 h1.1.1.2;have a2:=pX s i 2 h1.1.2;have a3:=pX s i 3 h1.2;split
  ·rename_i h2
   rw [Bool.and_eq_true,decide_eq_true_eq]at h2;refine⟨by have:=h2.1;omega,fun j hj=>?_⟩;have hj:j<4:=hj;obtain rfl |rfl |rfl |rfl:j=0∨j=1∨j=2∨j=3:=by omega
   ·exact h
   ·exact a1
   ·exact a2
   ·exact a3
  ·exact⟨by decide,h0⟩
 ·exact⟨by decide,h0⟩
theorem get_at (s:Bt)(i:Nat)(h:i<s.length):((⟨s.toArray⟩:ByteArray).get! i)=s[i]:=by
 show s.toArray[i]! =s[i];rw [getElem!_pos s.toArray i (by simpa using h)];simp
theorem Og (c:UInt8):yA c.toNat=(decide (c<32) && c != 9 && c != 10):=by
 have h1:(decide (c.toNat<32))=decide (c<32):=by
  rw [decide_eq_decide,UInt8.lt_iff_toNat_lt];rfl
 have h2:∀d:UInt8,(c.toNat != d.toNat)=(c != d):=by
  intro d;by_cases h:c=d
  ·subst h;simp
  ·have:c.toNat≠d.toNat:=fun e=>h (UInt8.toNat_inj.1 e);simp [bne,beq_eq_false_iff_ne.2 h,beq_eq_false_iff_ne.2 this]
 unfold yA;rw [h1,show(9:Nat)=(9:UInt8).toNat from rfl,show(10:Nat)=(10:UInt8).toNat from rfl,h2,h2]
def Hq (s:Bt)(p:Nat):Prop:=∀j,j<p->∀h:j<s.length,yA s[j].toNat=false
theorem Vw {s:Bt}{p:Nat}(h:Hq s p)(hp:p<s.length)(hb:yA (Utf8.decode ⟨s.toArray⟩ p).1=false):Hq s (p+(Utf8.decode ⟨s.toArray⟩ p).2):=by
 intro j hj hl;rcases Nat.lt_or_ge j p with h1 |h1
 ·exact h j h1 hl
 ·rcases Nat.lt_or_ge ((⟨s.toArray⟩:ByteArray).get! p).toNat 128 with h2 |h2
  ·rw [Tz _ _ h2]at hj hb;have hj:j<p+1:=hj;obtain rfl:j=p:=by omega
   rw [get_at s j hl]at hb;exact hb
  ·have h3:=(Oe _ _ h2).2 (j - p) (by omega);rw [show p+(j - p)=j by omega,get_at s j hl]at h3;have:decide (s[j].toNat<32)=false:=decide_eq_false (by omega);unfold yA;rw [this];rfl
theorem aaN {s:Bt}{p:Nat}(hp:p<s.length)(hb:yA (Utf8.decode ⟨s.toArray⟩ p).1=true):s.all (fun c=> !(decide (c<32) && c != 9 && c != 10))=false:=by
 rcases Nat.lt_or_ge ((⟨s.toArray⟩:ByteArray).get! p).toNat 128 with h2 |h2
 ·rw [Tz _ _ h2,get_at s p hp]at hb;cases ha:s.all (fun c=> !(decide (c<32) && c != 9 && c != 10))with
  |false=>rfl
  |true=>
   have:=List.all_eq_true.1 ha _ (List.getElem_mem hp);rw [<-Og]at this;have hb:yA s[p].toNat=true:=hb;rw [hb]at this;cases this
 ·have h3:=(Oe _ _ h2).1;unfold yA at hb;rw [decide_eq_false (by omega)]at hb;cases hb
theorem aaO {s:Bt}{p:Nat}(h:Hq s p)(hp:s.length<=p):s.all (fun c=> !(decide (c<32) && c != 9 && c != 10))=true:=by
 rw [List.all_eq_true];intro c hc;obtain⟨j,hj,rfl⟩:=List.getElem_of_mem hc;rw [<-Og,h j (by omega) hj];rfl
theorem aaP (R:Nat)(w:World)(h1:R<=1114111):Calls Tryz.prog 202 #[.int .i32 (R:Int)] w fun e w'=>e=.returned (.bool (yA R))∧w'=w:=by
 by_cases h32:R<32
 ·have g1:decide ((R:Int)<32)=true:=by simp;omega
  by_cases h9:R=9
  ·subst h9;go_enter Tryz.func202,Tryz.ntmps202;go_wp2_with fail;go_ret;exact⟨rfl,rfl⟩
  ·by_cases h10:R=10
   ·subst h10;go_enter Tryz.func202,Tryz.ntmps202;go_wp2_with fail;go_ret;exact⟨rfl,rfl⟩
   ·have g2:((R:Int) != 9)=true:=by rw [bne_iff_ne];omega
    have g3:((R:Int) != 10)=true:=by rw [bne_iff_ne];omega
    have HT:bN (yA R=true):=aZ (by unfold yA;simp [h32,h9,h10]);rw [HT.o];clear h32 h9 h10 h1;go_enter Tryz.func202,Tryz.ntmps202;go_wp2_with fail;go_ret;exact⟨rfl,rfl⟩
 ·have g1:decide ((R:Int)<32)=false:=by simp;omega
  have HT:bN (yA R=false):=aZ (by unfold yA;simp [h32]);rw [HT.o];clear h32 h1;go_enter Tryz.func202,Tryz.ntmps202;go_wp2_with fail;go_ret;exact⟨rfl,rfl⟩
def agf (s:Bt)(w:World)(e:Ending)(w':World):Prop:=(∃k:Int,e=.returned (.int .i64 k)∧(if okS s then k= -1 else 0<=k))∧Below w.heap.size w w'
set_option maxRecDepth 1000000 in
theorem KQ (s:Bt)(w:World):
  Calls Tryz.prog 227 #[sv s,.func (.func 202) #[] #[],.bool true] w (agf s w):=by
 have hsz:=bZ s;obtain⟨bs,hbs⟩:∃bs:ByteArray,bs=⟨s.toArray⟩:=⟨_,rfl⟩
 have HBS:=aZ hbs;rw [<-hbs]at hsz;show Calls Tryz.prog 227 #[.string ⟨s.toArray⟩,.func (.func 202) #[] #[],.bool true] w _;rw [<-hbs];clear hbs;go_enter Tryz.func227,Tryz.ntmps227;go_wp2_with fail
 go_loopg [] s.length (fun g wx=>∃pos:Nat,wx.heap[w.heap.size]? =some (.stringIter bs pos)∧Below w.heap.size w wx∧Hq s pos∧s.length<=pos+g)
 case atStart=>exact⟨0,World.iter_heap w bs 0,(Below.refl _ w).alloc (Nat.le_refl _) _,fun j hj=>by omega,by omega⟩
 case round=>
  obtain⟨pos,hit,hbw,hleft,hfu⟩:=hrel;have ayw:w.heap.size<wr.heap.size:=(Array.getElem?_eq_some_iff.1 hit).1;by_cases hp:pos<bs.size
  ·obtain⟨g,rfl⟩:∃g,gk=g+1:=⟨gk - 1,by omega⟩
   have hnx:∀ty,(Instr.next (.pointer (some ⟨w.heap.size,0,none⟩)) true ty).run Tryz.prog wr= _:=fun ty=>Lib.run_next_any_at wr w.heap.size bs pos ty hit hp;have hwd:=Lib.width_pos bs pos;have hr1:=Lib.rune_le bs pos;have hst:∀R K,Utf8.decode bs pos=(R,K)->(yA R=false->Hq s (pos+K))∧(yA R=true->okS s=false):=by
    intro R K h;rw [HBS.o]at h;have hps:pos<s.length:=by omega
    constructor
    ·intro hb;have:=Vw hleft hps (by rw [h];exact hb);rw [h]at this;exact this
    ·intro hb;exact aaN hps (by rw [h];exact hb)
   obtain⟨R,hR⟩:∃R,(Utf8.decode bs pos).1=R:=⟨_,rfl⟩
   obtain⟨K,hK⟩:∃K,(Utf8.decode bs pos).2=K:=⟨_,rfl⟩
   have hst:=hst R K (by rw [<-hR,<-hK]);rw [hR,hK]at hnx;rw [hR]at hr1;rw [hK]at hwd;have hit2:=Lib.iterAt_heap wr w.heap.size bs pos (pos+K) hit;have hbw2:=Lib.below_iterAt hbw (k:=w.heap.size) (Nat.le_refl _) bs (pos+K);obtain⟨W,hWd⟩:∃W,wr.iterAt w.heap.size bs (pos+K)=W:=⟨_,rfl⟩
   rw [hWd]at hnx hit2 hbw2;have HC:=aZ (aaP R W hr1);have HB2:=aZ hbw2;have HIT:=aZ hit2;cases hb:yA R with
   |true=>
    rw [hb]at HC;have HE:=aZ (hst.2 hb);clear hst hb hR hK hleft;go_wp2_with fail;refine HC.o.mono ?_;rintro e w2 ⟨rfl,rfl⟩;go_wp2_with fail;go_ret;exact⟨⟨pos,rfl,by rw [HE.o];simp⟩,HB2.o⟩
   |false=>
    rw [hb]at HC;have HE:=aZ (hst.1 hb);clear hst hb hR hK hleft;go_wp2_with fail;refine HC.o.mono ?_;rintro e w2 ⟨rfl,rfl⟩;go_wp2_with fail
    go_roundg g
    case measure=>omega
    case rel=>exact⟨pos+K,HIT.o,HB2.o,HE.o,by omega⟩
  ·have hnx:∀ty,(Instr.next (.pointer (some ⟨w.heap.size,0,none⟩)) true ty).run Tryz.prog wr= _:=fun ty=>Lib.run_next_end_at wr w.heap.size bs pos ty hit hp;have HE:bN (okS s=true):=aZ (aaO hleft (by omega));have HB:=aZ hbw;clear hleft hbw;go_wp2_with fail;go_ret;exact⟨⟨-1,rfl,by rw [HE.o];simp⟩,HB.o⟩
theorem Ed (s:Bt)(w:World):
  Calls Tryz.prog 201 #[sv s,.func (.func 202) #[] #[]] w fun e w'=>e=.returned (.bool (!okS s))∧Below w.heap.size w w':=by
 have HI:bN (∀w1,Calls Tryz.prog 217 #[sv s,.func (.func 202) #[] #[]] w1 (agf s w1)):=aZ (by
  intro w1;have HJ:=aZ (KQ s w1);go_enter Tryz.func217,Tryz.ntmps217;go_wp2_with fail;refine HJ.o.mono ?_;rintro e w2 ⟨⟨k,rfl,hk⟩,hbel⟩;have HK:=aZ hk;clear hk;go_wp2_with fail;go_ret;exact⟨⟨k,rfl,HK.o⟩,hbel⟩)
 cases hb:okS s
 all_goals
  go_enter Tryz.func201,Tryz.ntmps201;go_wp2_with fail;refine(HI.o w).mono ?_;rintro e w2 ⟨⟨k,rfl,hk⟩,hbel⟩;rw [hb]at hk;simp only [Bool.false_eq_true,if_false,if_true]at hk;have HB:=aZ hbel;clear hbel hb HI
 ·have hg:decide (0<=k)=true:=by simpa using hk
  go_wp2_with fail;go_ret;exact⟨rfl,HB.o⟩
 ·subst hk;go_wp2_with fail;go_ret;exact⟨rfl,HB.o⟩
theorem aaQ (s:Bt)(w:World)(hs:s.length<=maxLen):
  Calls Tryz.prog 169 #[sv s] w fun e w'=>e=.returned (.bool (H8 s))∧Below w.heap.size w w':=by
 have hsz:=bZ s;unfold maxLen at hs;by_cases hl:s.length<=256
 ·have hg:decide ((s.length:Int)<=256)=true:=by simp;omega
  have HT:bN (H8 s=okS s):=aZ (by unfold H8 okS;rw [decide_eq_true hl];rfl);rw [HT.o];have HC:=aZ (Ed s w);clear hl;generalize okS s=b at*
  go_enter Tryz.func169,Tryz.ntmps169;go_wp2_with fail;refine HC.o.mono ?_;rintro e w2 ⟨rfl,hb⟩;go_wp2_with fail;go_ret;cases b <;> exact⟨rfl,hb⟩
 ·have hg:decide ((s.length:Int)<=256)=false:=by simp;omega
  have HT:bN (H8 s=false):=aZ (by unfold H8;rw [decide_eq_false hl];rfl);rw [HT.o];clear hl;go_enter Tryz.func169,Tryz.ntmps169;go_wp2_with fail;go_ret;exact⟨rfl,Below.refl _ _⟩
def aaR:Bt:=[111,114,32,97,110,100,32,60,32,60,61,32,61,61,32,43,43,32,43,32,45,32,94,32,42,32,47,32,37,32,38,32,60,60,32,62,62]
theorem QN:Lib.fields aaR=opsL:=by kernel_rfl
theorem Vx:(aaR.all fun b=>decide (b.toNat<128))=true:=by kernel_rfl
theorem Oh:(⟨aaR.toArray⟩:ByteArray).data.toList=aaR:=rfl
theorem adj (w:World)(hL:lT w):Calls Tryz.prog 170 #[] w fun e w'=>∃v,e=.returned v∧Ss w' w'.heap.size v opsL∧Below w.heap.size w w':=by
 go_enter Tryz.func170,Tryz.ntmps170;go_wp2_with fail;refine(Tryz.strings_Fields ⟨aaR.toArray⟩ _ ?h1 ?h2 hL.2).mono ?_
 case h1=>decide
 case h2=>
  intro j b hb;rw [Oh]at hb;exact of_decide_eq_true (List.all_eq_true.1 Vx b (List.mem_of_getElem? hb))
 rintro e w1 ⟨rfl,rfl⟩;rw [Oh,QN];have hss:Ss (w.alloc (.cells (opsL.map fun l=>Value.string ⟨l.toArray⟩).toArray 9)) (w.alloc (.cells (opsL.map fun l=>Value.string ⟨l.toArray⟩).toArray 9)).heap.size (.slice (some ⟨w.heap.size,0,none⟩) opsL.length opsL.length) opsL:=by
  have:=gX w (opsL.map fun l=>Value.string ⟨l.toArray⟩).toArray 9 1 opsL.length (by simp) (by decide);rw [World.size_alloc];simpa [Ss,pU]using this
 have hb:Below w.heap.size w (w.alloc (.cells (opsL.map fun l=>Value.string ⟨l.toArray⟩).toArray 9)):=(Below.refl _ _).alloc (Nat.le_refl _) _;generalize(w.alloc (.cells (opsL.map fun l=>Value.string ⟨l.toArray⟩).toArray 9))=w2 at*
 generalize opsL.length=n at*
 go_wp2_with fail;go_ret;exact⟨_,rfl,hss,hb⟩
theorem aaS (w:World)(k:Int)(text:Bt)(v2 v3 v4:Int)(A5:Option Addr)(n5 c5:Nat)(A6:Option Addr)(n6 c6:Nat)(A7:Option Addr)(n7 c7:Nat)(ht:text.length<=maxLen)(hX:lT w)(b:Bool)(a1 a2 a3 a4:Int):
  Calls Tryz.prog 116 #[.agg #[.int .i64 k,sv text,.int .i64 v2,.int .i64 v3,.int .i64 v4,.slice A5 n5 c5,.slice A6 n6 c6,.slice A7 n7 c7],.agg #[.bool b,.int .i64 a1,.int .i64 a2,.int .i64 a3,.int .i64 a4]] w fun e w'=>e=.returned (.bool (sM k text b))∧Below w.heap.size w w':=by
 obtain⟨W,hW⟩:∃W,(w.alloc (.cells #[.int .i64 k,sv text,.int .i64 v2,.int .i64 v3,.int .i64 v4,.slice A5 n5 c5,.slice A6 n6 c6,.slice A7 n7 c7] 52)).alloc (.cells #[.bool b,.int .i64 a1,.int .i64 a2,.int .i64 a3,.int .i64 a4] 174)=W:=⟨_,rfl⟩
 have hb2:Below w.heap.size w W:=by rw [<-hW];exact((Below.refl _ _).alloc (Nat.le_refl _) _).alloc (by simp) _
 have HB:=aZ hb2;have HW:=aZ hW;have HX:=aZ (hX.below hb2);have HNM:=aZ (G7 W text (hX.below hb2) ht);have HST:=aZ (aaQ text W ht);have hbx:W.heap[w.heap.size]? =some (.cells #[.int .i64 k,sv text,.int .i64 v2,.int .i64 v3,.int .i64 v4,.slice A5 n5 c5,.slice A6 n6 c6,.slice A7 n7 c7] 52 (0,0)):=by rw [<-hW];exact(uZ w _ _).1
 obtain⟨_,g1,_⟩:=lQ hbx;have G1:=aZ g1;clear hX hbx g1 hb2 ht;cases b with
 |true=>
  have HT:bN (sM k text true=eG text):=aZ rfl;rw [HT.o];rw [<-hW]at HNM;clear hW;generalize eG text=q at*
  go_enter Tryz.func116,Tryz.ntmps116;go_wp2_with fail;refine HNM.o.mono ?_;rintro e w2 ⟨rfl,hb⟩;have hW:=HW.o;rw [hW]at hb;go_wp2_with fail;go_ret;exact⟨rfl,HB.o.trans (hb.mono HB.o.size)⟩
 |false=>
  by_cases k1:k=1
  ·subst k1;have HT:bN (sM 1 text false=H8 text):=aZ rfl;rw [HT.o];rw [<-hW]at HST;clear hW;generalize H8 text=q at*
   go_enter Tryz.func116,Tryz.ntmps116;go_wp2_with fail;refine HST.o.mono ?_;rintro e w2 ⟨rfl,hb⟩;have hW:=HW.o;rw [hW]at hb;go_wp2_with fail;go_ret;exact⟨rfl,HB.o.trans (hb.mono HB.o.size)⟩
  have q1:(k==1)=false:=beq_eq_false_iff_ne.mpr k1;by_cases k14:k=14
  ·subst k14;have HT:bN (sM 14 text false=decide (text∈opsL)):=aZ (by show opsL.contains text= _;rw [List.contains_eq_mem]);rw [HT.o];clear hW k1 q1;have HB0:bN (Below W.heap.size W W.drew):=aZ (aP W 1);have HO:=aZ (adj W.drew (HX.o.below HB0.o));have HCC:=aZ (fun v (w1:World) (h:Ss w1 w1.heap.size v opsL)=>o9 v opsL text w1 h);clear HT HNM HST;generalize decide (text∈opsL)=q at*
   go_enter Tryz.func116,Tryz.ntmps116;go_wp2_with fail;have hW:=HW.o;rw [hW];clear hW;refine wp_region_held_drew (S:=fun w'=>Below W.heap.size W w') (by kernel_rfl) HB0.o (fun _=>?_)
   try simp only [Act.put,sq]
   refine tk 1 (.pointer (some ⟨w.heap.size,1,none⟩)) HB0.o ?_;refine lJ 2 (sv text) (Um G1.o) HB0.o ?_;refine wpAnyH_ready (rs:=[0]) (by kernel_rfl) (by simp) ?_;refine AllReadyH.cons rfl (fun K hK=>?_) (AllReadyH.nil);go_simp;refine HO.o.mono ?_;rintro e w2 ⟨v2,rfl,hss,hb⟩;have DU:=aZ hss;have HB2:=aZ (HB0.o.trans (hb.mono HB0.o.size));clear hb hss;refine hK.out _ _ HB2.o (fun _=>?_);clear hK K
   try simp only [Act.put,sq]
   refine wpAnyH_ready (rs:=[3]) (by kernel_rfl) (by simp) ?_;refine AllReadyH.cons rfl (fun K hK=>?_) (AllReadyH.nil);go_simp;refine(HCC.o _ _ DU.o).mono ?_;rintro e w3 ⟨rfl,rfl⟩;refine hK.out _ _ HB2.o (fun _=>?_);clear hK K
   try simp only [Act.put,sq]
   refine tk 4 (.bool q) HB2.o ?_;refine wpAnyH_done (by kernel_rfl) ?_ _;go_wp2_with fail;go_ret;exact⟨rfl,HB.o.trans (HB2.o.mono HB.o.size)⟩
  have q14:(k==14)=false:=beq_eq_false_iff_ne.mpr k14;have HT:bN (sM k text false=(text==[])):=aZ (by unfold sM;rw [if_neg (by simp),if_neg k1,if_neg k14]);rw [HT.o];clear hW k1 k14 HNM HST HT;rw [<-HW.o]at HB;cases hq:(text==[])with
  |true=>
   obtain rfl:text=[]:=by simpa using hq
   go_enter Tryz.func116,Tryz.ntmps116;go_wp2_with fail;go_ret;exact⟨rfl,HB.o⟩
  |false=>
   go_enter Tryz.func116,Tryz.ntmps116;go_wp2_with fail;go_ret;exact⟨rfl,HB.o⟩
theorem KR {P:Program}{fn:Func}{p:Tmp}{ty:TypeId}(h:fn.results= #[.cell p ty])(tmps:Array Value)(w:World)(g:Nat)(t:TypeId)(cs:Array Value)(fr:Nat ×Nat)(d:TypeDesc)
  (hp:tmps.getD p undef=.pointer (some ⟨g,0,none⟩)) (hg:w.heap[g]? =some (.cells cs t fr))
  (hu:P.underlying ty=some d) (hd:(match d with |.struct _ |.array _ _=>true |_=>false)=true) (hi:(P.info? ty).map (·.size)=some cs.size):
  (results fn tmps).run P w=.ok (.agg cs) w:=by
 have hp':tmps[p]?.getD undef=.pointer (some ⟨g,0,none⟩):=by simpa using hp
 simp [results,h,hp',asAddr,run_loadVar_row w g t ty cs fr d hg hu hd hi,Result.andThen]
def zB:List Value:=[.bool false,.int .i64 0,.int .i64 0,.int .i64 0,.int .i64 9223372036854775807,.bool false,.int .i64 0,.int .i64 0,.int .i64 0,.int .i64 0,.bool false,.int .i64 0,.int .i64 0,.int .i64 0,.int .i64 1,.bool false,.int .i64 0,.int .i64 0,.int .i64 0,.int .i64 0,.bool true,.int .i64 0,.int .i64 0,.int .i64 0,.int .i64 0,.bool true,.int .i64 0,.int .i64 1,.int .i64 2,.int .i64 0,.bool true,.int .i64 1,.int .i64 2,.int .i64 1,.int .i64 0,.bool false,.int .i64 0,.int .i64 0,.int .i64 2,.int .i64 0,.bool false,.int .i64 0,.int .i64 0,.int .i64 (-1),.int .i64 0,.bool true,.int .i64 0,.int .i64 0,.int .i64 1,.int .i64 0,.bool true,.int .i64 0,.int .i64 0,.int .i64 2,.int .i64 0,.bool false,.int .i64 0,.int .i64 0,.int .i64 3,.int .i64 0,.bool false,.int .i64 0,.int .i64 0,.int .i64 1,.int .i64 5,.bool false,.int .i64 1,.int .i64 1,.int .i64 1,.int .i64 0,.bool false,.int .i64 0,.int .i64 0,.int .i64 2,.int .i64 0,.bool false,.int .i64 0,.int .i64 0,.int .i64 1,.int .i64 0,.bool false,.int .i64 0,.int .i64 0,.int .i64 1,.int .i64 0,.bool false,.int .i64 0,.int .i64 0,.int .i64 1,.int .i64 0,.bool false,.int .i64 0,.int .i64 0,.int .i64 0,.int .i64 0,.bool true,.int .i64 1,.int .i64 1048576,.int .i64 0,.int .i64 0]
theorem Vy (w:World):Calls Tryz.prog 115 #[] w fun e w'=>e=.returned (.agg zB.toArray)∧Below w.heap.size w w':=by
 have hst:∀L:List Value,L=zB->(storeCells ⟨w.heap.size,0,none⟩ L 0).run Tryz.prog (w.alloc (.cells Tryz.zeroCells175 175))=.ok () (w.alloc (.cells zB.toArray 175)):=by
  intro L h;subst h;have:=run_storeCells_new (P:=Tryz.prog) w 175 Tryz.zeroCells175 zB.toArray (by kernel_rfl) (by kernel_rfl) (by kernel_rfl);simpa using this
 go_enter Tryz.func115,Tryz.ntmps115;go_wp2_with fail;rw [hst _ (by kernel_rfl)];clear hst;have hK:zB.toArray.size=100:=by kernel_rfl
 generalize hKL:zB.toArray=L at*
 go_wp2_with fail;refine bodyPost_ret (KR rfl _ _ w.heap.size _ _ _ _ rfl (heap_alloc_new w _) Tryz.underlying175 rfl (by rw [hK];kernel_rfl)) rfl ?_;exact⟨by rw [hKL],(Below.refl _ _).alloc (Nat.le_refl _) _⟩
def aaT (h:abp):Value:= .agg #[.bool h.name,.int .i64 h.low,.int .i64 h.types,.int .i64 h.kids,.int .i64 h.most]
theorem Oi (k:Int)(h0:0<=k)(h1:k<20)(u:World):(Instr.index 175 (.agg zB.toArray) (.int .i64 k)).run Tryz.prog u=.ok (aaT (eD k)) u:=by
 have h:k=0∨k=1∨k=2∨k=3∨k=4∨k=5∨k=6∨k=7∨k=8∨k=9∨k=10∨k=11∨k=12∨k=13∨k=14∨k=15∨k=16∨k=17∨k=18∨k=19:=by omega
 clear h0 h1;rcases h with rfl |rfl |rfl |rfl |rfl |rfl |rfl |rfl |rfl |rfl |rfl |rfl |rfl |rfl |rfl |rfl |rfl |rfl |rfl |rfl
 all_goals (show _= _;kernel_rfl)
theorem Vz (w:World):Calls Tryz.prog 115 #[] w fun e w'=>(∃v,e=.returned v∧∀k:Int,0<=k->k<20->∀u,(Instr.index 175 v (.int .i64 k)).run Tryz.prog u=.ok (aaT (eD k)) u)∧Below w.heap.size w w':=
 (Vy w).mono fun e w' h=>⟨⟨_,h.1,fun k h0 h1 u=>Oi k h0 h1 u⟩,h.2⟩
def NdC (m:Nat):Prop:=∀(w:World) (z:List Value) (x:bI),zC w w.heap.size z x->okN x->lT w->
 Calls Tryz.prog 56 #[.agg z.toArray,.int .i64 m] w fun e w'=>e=.returned (.bool (d9 m x))∧Below w.heap.size w w'
theorem QO (m:Nat)(k:Int)(text:Bt)(n li co:Int)(ts:List bS)(ns:List Bt)(ks:List bI):d9 (m+1) (.mk k text n li co ts ns ks)=
  (decide (0<=k∧k<20) && JM k text n ts.length ns.length ks.length && ns.all eG && ts.all (bC 16) && ks.all (d9 m)):=rfl
theorem VA:NdC 0:=by
 intro w z x hr hok hX;have hw:d9 0 x=false:=rfl;rw [hw];obtain⟨k,s,n,l,o,A1,n1,c1,A2,n2,c2,A3,n3,c3,rfl⟩:=hr.shape;have HB:bN (Below w.heap.size w (w.alloc (.cells #[.int .i64 k,.string s,.int .i64 n,.int .i64 l,.int .i64 o,.slice A1 n1 c1,.slice A2 n2 c2,.slice A3 n3 c3] 52))):=aZ ((Below.refl _ _).alloc (Nat.le_refl _) _);clear hr hok hX hw;go_enter Tryz.func56,Tryz.ntmps56;go_wp2_with fail;go_ret;exact⟨rfl,HB.o⟩
def xA (k:Int)(names:Nat):Int:=if k<0 then names else k
theorem Hr (k:Int)(text:Bt)(n:Int)(a b d:Nat):JM k text n a b d=(decide (0<=n∧n<=(eD k).most) && sM k text (eD k).name && decide ((eD k).low<=a∧a<=(eD k).types) && (decide ((eD k).kids<0∨b=0) && decide ((d:Int)=xA (eD k).kids b))):=by
 unfold JM xA;congr 1;by_cases h:(eD k).kids<0
 ·rw [if_pos h,if_pos h];by_cases h2:d=b
  ·subst h2;simp [h]
  ·have:¬(d:Int)=(b:Int):=by omega
   simp [h,h2,this]
 ·rw [if_neg h,if_neg h];by_cases h2:b=0
  ·subst h2;by_cases h3:(d:Int)=(eD k).kids
   ·simp [h3]
   ·simp [h3]
  ·simp [h,h2]
theorem xB {P:Program}{ops:Array Oper}{o:Oper}{a:Act}{w:World}{K:Act->World->Prop}{Q:Exit->Act->World->Prop}{E:Prop}(hgd:o.guard=none)(ty:TypeId)(x y:Operand)(ho:o.op=.store ty x y)
  (g:Nat) (cells:Array Value) (hx:a.eval x=.pointer (some ⟨g,0,none⟩)) (hy:a.eval y=.agg cells)
  (t:TypeId) (old:Array Value) (hg:w.heap[g]? =some (.cells old t (0,0))) (hi:(P.info? ty).map (·.size)=some cells.size)
  (hold:old.size=cells.size) (h1:cells.all (·.oneCell')=true) (h:K (a.put o.dst undef) (w.setRow g cells)):
  if Region.wanted o (yielded ops a.tmps)=true then Oper.wp P o a w K Q else E:=by
 have hw:Region.wanted o (yielded ops a.tmps)=true:=by simp [Region.wanted,hgd]
 rw [if_pos hw];exact wp_store_row ty x y ho g cells hx hy t old hg hi hold h1 h
theorem VB (m:Nat)(hm:m<=40)(ih:NdC m):NdC (m+1):=by
 intro w z x hr hok hX;obtain⟨k,text,n,li,co,ts,ns,ks⟩:=x;rw [okN]at hok;obtain⟨ok1,ok2,ok3,ok4,ok5,ok6,ok7,ok8⟩:=hok;obtain⟨A1,c1,A2,c2,A3,c3,xt,xk,rfl,s1,r1,s2,s3,r3⟩:=hr.parts;have l1:=(fE s1).2;have l2:=(fE s2).2;have l3:=(fE s3).2;have TA:=QO m k text n li co ts ns ks;rw [Hr]at TA;obtain⟨res,hres⟩:∃res,d9 (m+1) (.mk k text n li co ts ns ks)=res:=⟨_,rfl⟩
 rw [hres]at TA ⊢;clear hres hr;obtain⟨W,hW⟩:∃W,w.alloc (.cells #[.int .i64 k,sv text,.int .i64 n,.int .i64 li,.int .i64 co,.slice A1 ts.length c1,.slice A2 ns.length c2,.slice A3 ks.length c3] 52)=W:=⟨_,rfl⟩
 have hb1:Below w.heap.size w W:=by rw [<-hW];exact(Below.refl _ _).alloc (Nat.le_refl _) _
 have hbx:W.heap[w.heap.size]? =some (.cells #[.int .i64 k,sv text,.int .i64 n,.int .i64 li,.int .i64 co,.slice A1 ts.length c1,.slice A2 ns.length c2,.slice A3 ks.length c3] 52 (0,0)):=by rw [<-hW];exact heap_alloc_new w _
 have HX:=aZ (hX.below hb1);have Rj:=aZ (And.intro (Sl.more (Sl.below s1 hb1) hb1.size) ((r1.keep hb1).more hb1.size));have HKK:=aZ (And.intro (Sl.more (Sl.below s3 hb1) hb1.size) ((r3.keep hb1).more hb1.size));have hs2:=Sl.more (Sl.below s2 hb1) hb1.size;have HNM:=aZ (fun wr (h:Below W.heap.size W wr)=>G9 _ ns wr (Sl.more (Sl.below hs2 h) h.size) ok7 (HX.o.below h));have HTX:=aZ (fun wr (h:Below W.heap.size W wr) (b:Bool) (a1 a2 a3 a4:Int)=>aaS wr k text n li co A1 ts.length c1 A2 ns.length c2 A3 ks.length c3 ok2 (HX.o.below h) b a1 a2 a3 a4);have HOT:=aZ ok6;have Rh:=aZ (zQ.1 ok8);have HIH:=aZ ih;have Xt:=aZ (DI 16 (by omega));have Es:=aZ hbx;have HB1:=aZ hb1;have QS:=aZ TA;have JC:=aZ hW;have Oj:=ok3;clear s1 r1 s2 s3 r3 ok1 ok2 ok3 ok4 ok5 ok6 ok7 ok8 hX ih hb1 hbx TA hs2 hW;obtain⟨a,hA⟩:∃a,ts.length=a:=⟨_,rfl⟩
 obtain⟨b,hB⟩:∃b,ns.length=b:=⟨_,rfl⟩
 obtain⟨d,hD⟩:∃d,ks.length=d:=⟨_,rfl⟩
 rw [hA]at l1 Rj HTX Es JC QS ⊢;rw [hB]at l2 HNM HTX Es JC QS ⊢;rw [hD]at l3 HKK HTX Es JC QS ⊢;have HA:=aZ hA;have HD:=aZ hD;clear hA hB hD;have hm0:(((m:Int)+1)==0)=false:=by rw [beq_eq_false_iff_ne];omega
 have hm1:(((m+1:Nat):Int)==0)=false:=by rw [beq_eq_false_iff_ne];omega
 generalize ns.all eG=q at*
 by_cases h0:k<0
 ·have g4:decide (k<0)=true:=by simpa using h0
  have HF:bN (res=false):=aZ (by rw [QS.o,decide_eq_false (by omega:¬(0<=k∧k<20))];rfl);clear h0 Oj;go_enter Tryz.func56,Tryz.ntmps56;go_wp2_with fail;go_ret;refine⟨by rw [HF.o];rfl,?_⟩;rw [JC.o];exact HB1.o
 have g4:decide (k<0)=false:=by simpa using h0
 by_cases h20:20<=k
 ·have g5:decide (20<=k)=true:=by simpa using h20
  have HF:bN (res=false):=aZ (by rw [QS.o,decide_eq_false (by omega:¬(0<=k∧k<20))];rfl);clear h0 h20 Oj;go_enter Tryz.func56,Tryz.ntmps56;go_wp2_with fail;go_ret;refine⟨by rw [HF.o];rfl,?_⟩;rw [JC.o];exact HB1.o
 have g5:decide (20<=k)=false:=by simpa using h20
 have HRK:bN (res=(decide (0<=n∧n<=(eD k).most) && sM k text (eD k).name && decide ((eD k).low<=a∧a<=(eD k).types) && (decide ((eD k).kids<0∨b=0) && decide ((d:Int)=xA (eD k).kids b)) && q && ts.all (bC 16) && ks.all (d9 m))):=aZ (by rw [QS.o,decide_eq_true (by omega:0<=k∧k<20),Bool.true_and]);have HKI:=aZ (fun w1=>(Vz w1).mono fun e w' (h: _∧ _)=>(⟨h.1.imp fun v hv=>⟨hv.1,hv.2 k (by omega) (by omega)⟩,h.2⟩:(∃v,e=.returned v∧∀u,(Instr.index 175 v (.int .i64 k)).run Tryz.prog u=.ok (aaT (eD k)) u)∧Below w1.heap.size w1 w'));have asX:=aZ Oj;clear h0 h20 QS Oj;go_enter Tryz.func56,Tryz.ntmps56
 go_upto_region 3 with(fail)
 have hW:=JC.o;rw [hW];clear hW hm0 hm1 g4 g5
 go_cut [5]from 10 (fun v5 wc=>∃b5,v5=.pointer (some ⟨b5,0,none⟩)∧W.heap.size<=b5∧wc.heap[b5]? =some (.cells #[.bool (eD k).name,.int .i64 ((eD k).low:Int),.int .i64 ((eD k).types:Int),.int .i64 (eD k).kids,.int .i64 (eD k).most] 174 (0,0))∧Below W.heap.size W wc)
 case first=>
  obtain⟨g0,_⟩:=lQ Es.o;have G0:=aZ g0;clear g0;have HB0:bN (Below W.heap.size W W.drew):=aZ (aP W 1);refine wp_region_held_drew (S:=fun w'=>Below W.heap.size W w') (by kernel_rfl) HB0.o (fun _=>?_)
  try simp only [Act.put,sq]
  refine tk 1 (.pointer (some ⟨w.heap.size,0,none⟩)) HB0.o ?_;refine lJ 2 (.int .i64 k) (Um G0.o) HB0.o ?_;refine wpAnyH_ready (rs:=[0,4]) (by kernel_rfl) (by simp) ?_;refine AllReadyH.cons rfl (fun K hK=>?_) (AllReadyH.cons rfl (fun K hK=>?_) AllReadyH.nil)
  ·go_simp;refine(HKI.o _).mono ?_;rintro e w2 ⟨⟨v,rfl,hix⟩,hb⟩;have HB2:=aZ (HB0.o.trans (hb.mono HB0.o.size));have HIX:=aZ hix;clear hb hix;refine hK.out _ _ HB2.o (fun _=>?_);clear hK K
   try simp only [Act.put,sq]
   refine wpAnyH_take (i:=3) (v:=(aaT (eD k))) rfl (by kernel_rfl) (by kernel_rfl) (by kernel_rfl) (fun _ _ _ h=>h) (Or.inl ⟨by kernel_rfl,by intro w' hSw;have hix:=HIX.o;go_simp⟩) HB2.o ?_
   try simp only [Act.put,sq]
   refine wpAnyH_ready (rs:=[4]) (by kernel_rfl) (by simp) ?_;refine AllReadyH.cons rfl (fun K hK=>?_) (AllReadyH.nil);go_simp;have HB3:=aZ (HB2.o.alloc HB2.o.size (.cells #[.bool false,.int .i64 0,.int .i64 0,.int .i64 0,.int .i64 0] 174));have hzz:=heap_alloc_new w2 (.cells #[.bool false,.int .i64 0,.int .i64 0,.int .i64 0,.int .i64 0] 174);refine hK.out _ _ HB3.o (fun _=>?_);clear hK K
   try simp only [Act.put,sq]
   refine wpAnyH_ready (rs:=[5]) (by kernel_rfl) (by simp) ?_;refine AllReadyH.cons rfl (fun K hK=>?_) AllReadyH.nil;refine xB rfl _ _ _ rfl w2.heap.size #[.bool (eD k).name,.int .i64 ((eD k).low:Int),.int .i64 ((eD k).types:Int),.int .i64 (eD k).kids,.int .i64 (eD k).most] rfl rfl _ _ hzz (by kernel_rfl) rfl (by simp [Value.oneCell']) ?_;have aaU:=setRow_heap _ w2.heap.size _ #[.bool (eD k).name,.int .i64 ((eD k).low:Int),.int .i64 ((eD k).types:Int),.int .i64 (eD k).kids,.int .i64 (eD k).most] _ _ hzz;have HB9:=aZ (below_setRow HB3.o HB2.o.size #[.bool (eD k).name,.int .i64 ((eD k).low:Int),.int .i64 ((eD k).types:Int),.int .i64 (eD k).kids,.int .i64 (eD k).most]);have HZ2:=aZ aaU;clear hzz aaU;refine hK.out _ _ HB9.o (fun _=>?_);clear hK K
   try simp only [Act.put,sq]
   refine wpAnyH_done (by kernel_rfl) ?_ _;go_wp2_with fail
   go_meet
   case rel=>exact⟨_,rfl,HB2.o.size,HZ2.o,HB9.o⟩
  ·go_simp;have HB3:=aZ (HB0.o.alloc HB0.o.size (.cells #[.bool false,.int .i64 0,.int .i64 0,.int .i64 0,.int .i64 0] 174));refine hK.out _ _ HB3.o (fun _=>?_);clear hK K
   try simp only [Act.put,sq]
   refine wpAnyH_ready (rs:=[0]) (by kernel_rfl) (by simp) ?_;refine AllReadyH.cons rfl (fun K hK=>?_) AllReadyH.nil;go_simp;refine(HKI.o _).mono ?_;rintro e w2 ⟨⟨v,rfl,hix⟩,hb⟩;have hzz:=(hb.block _ (block_lt (heap_alloc_new W.drew (.cells #[.bool false,.int .i64 0,.int .i64 0,.int .i64 0,.int .i64 0] 174)))).trans (heap_alloc_new W.drew (.cells #[.bool false,.int .i64 0,.int .i64 0,.int .i64 0,.int .i64 0] 174));have Bl:=aZ (HB3.o.trans (hb.mono HB3.o.size));have HIX:=aZ hix;clear hb hix;refine hK.out _ _ Bl.o (fun _=>?_);clear hK K
   try simp only [Act.put,sq]
   refine wpAnyH_take (i:=3) (v:=(aaT (eD k))) rfl (by kernel_rfl) (by kernel_rfl) (by kernel_rfl) (fun _ _ _ h=>h) (Or.inl ⟨by kernel_rfl,by intro w' hSw;have hix:=HIX.o;go_simp⟩) Bl.o ?_
   try simp only [Act.put,sq]
   refine wpAnyH_ready (rs:=[5]) (by kernel_rfl) (by simp) ?_;refine AllReadyH.cons rfl (fun K hK=>?_) AllReadyH.nil;refine xB rfl _ _ _ rfl W.heap.size #[.bool (eD k).name,.int .i64 ((eD k).low:Int),.int .i64 ((eD k).types:Int),.int .i64 (eD k).kids,.int .i64 (eD k).most] rfl rfl _ _ hzz (by kernel_rfl) rfl (by simp [Value.oneCell']) ?_;have aaU:=setRow_heap _ W.heap.size _ #[.bool (eD k).name,.int .i64 ((eD k).low:Int),.int .i64 ((eD k).types:Int),.int .i64 (eD k).kids,.int .i64 (eD k).most] _ _ hzz;have HB9:=aZ (below_setRow Bl.o (Nat.le_refl _) #[.bool (eD k).name,.int .i64 ((eD k).low:Int),.int .i64 ((eD k).types:Int),.int .i64 (eD k).kids,.int .i64 (eD k).most]);have HZ2:=aZ aaU;clear hzz aaU;refine hK.out _ _ HB9.o (fun _=>?_);clear hK K
   try simp only [Act.put,sq]
   refine wpAnyH_done (by kernel_rfl) ?_ _;go_wp2_with fail
   go_meet
   case rel=>exact⟨_,rfl,(Nat.le_refl _),HZ2.o,HB9.o⟩
 case rest=>
  obtain⟨b5,rfl,hb5,hrow,hbw⟩:=hcut;generalize(eD k).name=hn at*
  generalize(eD k).low=lo at*
  generalize(eD k).types=hi at*
  generalize(eD k).kids=kd at*
  generalize(eD k).most=mo at*
  have eu:=aZ hrow;have nI:=aZ hbw;clear HKI hrow hbw
  go_upto_block 0 with(fail)
  obtain⟨kv,hkv⟩:∃kv,xA kd b=kv:=⟨_,rfl⟩
  rw [hkv]at HRK;have HKV:=aZ hkv;clear hkv
  go_cut [5]from 10 (fun v5 wc=>v5=.pointer (some ⟨b5,0,none⟩)∧(kd<0∨b=0)∧wc.heap[b5]? =some (.cells #[.bool hn,.int .i64 lo,.int .i64 hi,.int .i64 kv,.int .i64 mo] 174 (0,0))∧Below W.heap.size W wc)
  case first=>
   obtain⟨e0,e1,e2,e3,e4⟩:=KP eu.o;have f3:=bE eu.o 3;obtain⟨p0,p1,p2,p3,p4,p5,p6,p7⟩:=lQ ((nI.o.block _ (block_lt Es.o)).trans Es.o);clear e0 e1 e2 e4 p0 p1 p2 p3 p4 p5 p7;by_cases hk:kd<0
   ·have g1:decide (kd<0)=true:=by simpa using hk
    have HV:bN (kv=(b:Int)):=aZ (by rw [<-HKV.o];unfold xA;rw [if_pos hk]);have LQ:=aZ hk;clear hk;go_wp2_with fail
    go_meet
    case rel=>
     refine⟨rfl,.inl LQ.o,?_,nI.o.trans ((ak wc b5 3 (.int .i64 b)).below nI.o.size (fun j hj e=>by omega))⟩;rw [HV.o];exact heap_setCell_same wc b5 3 _ _ _ eu.o
   ·have g1:decide (kd<0)=false:=by simpa using hk
    have HV:bN (kv=kd):=aZ (by rw [<-HKV.o];unfold xA;rw [if_neg hk]);have LQ:=aZ hk;clear hk;by_cases hb0:0<b
    ·have g2:decide ((0:Int)<(b:Int))=true:=by simp;omega
     have HF:bN (res=false):=aZ (by rw [HRK.o,decide_eq_false (by have:=LQ.o;omega:¬(kd<0∨b=0))];simp);go_wp2_with fail;go_ret;refine⟨by rw [HF.o];rfl,HB1.o.trans (nI.o.mono HB1.o.size)⟩
    ·have g2:decide ((0:Int)<(b:Int))=false:=by simp;omega
     have as0:bN (b=0):=aZ (by omega);go_wp2_with fail
     go_meet
     case rel=>
      refine⟨rfl,.inr as0.o,?_,nI.o⟩;rw [HV.o];exact eu.o
  case rest=>
   rename_i wc0
   clear eu nI HKV;obtain⟨rfl,hkb,hrow,hbw⟩:=hcut;have HRR:bN (res=(decide (0<=n∧n<=mo) && sM k text hn && decide (lo<=a∧a<=hi) && decide ((d:Int)=kv) && q && ts.all (bC 16) && ks.all (d9 m))):=aZ (by rw [HRK.o,decide_eq_true hkb,Bool.true_and]);have Vq:=aZ (HTX.o wc hbw hn lo hi kv mo);have eu:=aZ hrow;have nI:=aZ hbw;obtain⟨e0,e1,e2,e3,e4⟩:=KP hrow;obtain⟨p0,p1,p2,p3,p4,p5,p6,p7⟩:=lQ ((hbw.block _ (block_lt Es.o)).trans Es.o);clear HTX HRK hkb hrow hbw;generalize sM k text hn=tb at*
   by_cases n0:n<0
   ·have g1:decide (n<0)=true:=by simpa using n0
    have HF:bN (res=false):=aZ (by rw [HRR.o,decide_eq_false (by omega:¬(0<=n∧n<=mo))];simp);clear n0;go_wp2_with fail;go_ret;refine⟨by rw [HF.o];rfl,HB1.o.trans (nI.o.mono HB1.o.size)⟩
   have g1:decide (n<0)=false:=by simpa using n0
   by_cases n1:mo<n
   ·have g2:decide (mo<n)=true:=by simpa using n1
    have HF:bN (res=false):=aZ (by rw [HRR.o,decide_eq_false (by omega:¬(0<=n∧n<=mo))];simp);clear n0 n1;go_wp2_with fail;go_ret;refine⟨by rw [HF.o];rfl,HB1.o.trans (nI.o.mono HB1.o.size)⟩
   have g2:decide (mo<n)=false:=by simpa using n1
   have OE:bN (res=(tb && decide (lo<=a∧a<=hi) && decide ((d:Int)=kv) && q && ts.all (bC 16) && ks.all (d9 m))):=aZ (by rw [HRR.o,decide_eq_true (by omega:0<=n∧n<=mo),Bool.true_and]);clear HRR n0 n1;go_wp2_with fail;refine Vq.o.mono ?_;rintro e w3 ⟨rfl,hb3⟩;have uq:=nI.o.trans (hb3.mono nI.o.size);have hrow3:=(hb3.block _ (block_lt eu.o)).trans eu.o;have HB3:=aZ uq;have tC:=aZ hrow3;have HNW:=aZ (HNM.o w3 uq);clear e0 e1 e2 e3 e4 p0 p1 p2 p3 p4 p5 p6 p7 hb3;obtain⟨e0,e1,e2,e3,e4⟩:=KP hrow3;obtain⟨p0,p1,p2,p3,p4,p5,p6,p7⟩:=lQ ((uq.block _ (block_lt Es.o)).trans Es.o);clear uq hrow3 HNM Vq nI eu;cases tb with
   |false=>
    have HF:bN (res=false):=aZ (by rw [OE.o];simp);go_wp2_with fail;go_ret;refine⟨by rw [HF.o];rfl,HB1.o.trans (HB3.o.mono HB1.o.size)⟩
   |true=>
    go_wp2_with fail;refine HNW.o.mono ?_;rintro e w4 ⟨rfl,hb4⟩;have VD:=HB3.o.trans (hb4.mono HB3.o.size);have hrow4:=(hb4.block _ (block_lt tC.o)).trans tC.o;have Bl:=aZ VD;clear e0 e1 e2 e3 e4 p0 p1 p2 p3 p4 p5 p6 p7 hb4;obtain⟨e0,e1,e2,e3,e4⟩:=KP hrow4;obtain⟨p0,p1,p2,p3,p4,p5,p6,p7⟩:=lQ ((VD.block _ (block_lt Es.o)).trans Es.o);clear VD hrow4 HNW HB3 tC;cases q with
    |false=>
     have HF:bN (res=false):=aZ (by rw [OE.o];simp);go_wp2_with fail;go_ret;refine⟨by rw [HF.o];rfl,HB1.o.trans (Bl.o.mono HB1.o.size)⟩
    |true=>
     by_cases h1:a<lo
     ·have g3:decide ((a:Int)<(lo:Int))=true:=by simp;omega
      have HF:bN (res=false):=aZ (by rw [OE.o,decide_eq_false (by omega:¬(lo<=a∧a<=hi))];simp);go_wp2_with fail;go_ret;refine⟨by rw [HF.o];rfl,HB1.o.trans (Bl.o.mono HB1.o.size)⟩
     have g3:decide ((a:Int)<(lo:Int))=false:=by simp;omega
     by_cases h2:hi<a
     ·have g4:decide ((hi:Int)<(a:Int))=true:=by simp;omega
      have HF:bN (res=false):=aZ (by rw [OE.o,decide_eq_false (by omega:¬(lo<=a∧a<=hi))];simp);go_wp2_with fail;go_ret;refine⟨by rw [HF.o];rfl,HB1.o.trans (Bl.o.mono HB1.o.size)⟩
     have g4:decide ((hi:Int)<(a:Int))=false:=by simp;omega
     by_cases h3:(d:Int)=kv
     ·have HRT:bN (res=(ts.all (bC 16) && ks.all (d9 m))):=aZ (by rw [OE.o,decide_eq_true (by omega:lo<=a∧a<=hi),decide_eq_true h3];simp);have g5:((d:Int) != kv)=false:=by rw [bne_eq_false_iff_eq];exact h3
      clear h3 OE;go_wp2_with fail;clear e0 e1 e2 e3 e4 p0 p1 p2 p3 p4 p5 p6 p7 g1 g2 g3 g4 g5 h1 h2;go_loopw [88] (fun v88 wr=>∃i:Nat,v88=.int .i64 i∧i<=a∧(ts.take i).all (bC 16)=true∧Below W.heap.size W wr) (fun v88 _=>a - (intOf v88).toNat)
      case atStart=>exact⟨0,rfl,by omega,rfl,Bl.o⟩
      case round=>
       obtain⟨i,rfl,hi_,hinv,hbr⟩:=hrel;have HI:=aZ hinv;have HB:=aZ hbr;clear hinv;by_cases hlt:i<a
       ·have hil:i<ts.length:=by rw [HA.o];exact hlt
        obtain⟨b2,o2,kk,ss,A5,n5,c5,A6,n6,c6,rfl,hr1,e0,e1,e2,e3⟩:=KO (Sl.more (Sl.below Rj.o.1 hbr) hbr.size) ((Rj.o.2.keep hbr).more hbr.size) hil HA.o.symm;obtain⟨wA,Ol⟩:∃wA,wr.alloc (.cells #[.int .i64 kk,.string ss,.slice A5 n5 c5,.slice A6 n6 c6] 57)=wA:=⟨_,rfl⟩
        have Om:Below wr.heap.size wr wA:=by rw [<-Ol];exact(Below.refl _ _).alloc (Nat.le_refl _) _
        have HC:=aZ (Xt.o wA _ ts[i] (hr1.far (Nat.le_refl _) Om) (HOT.o _ (List.getElem_mem hil)) ((HX.o.below hbr).below Om));have Cn:=aZ Om;have HWA:=aZ Ol;have hst:=G8 hil;rw [<-Ol]at HC;clear hbr hr1 Om Ol;cases hq:bC 16 ts[i]with
        |false=>
         have hall:ts.all (bC 16)=false:=by
          cases h:ts.all (bC 16)with
          |false=>rfl
          |true=>rw [List.all_eq_true]at h;rw [h _ (List.getElem_mem hil)]at hq;cases hq
         have HF:bN (res=false):=aZ (by rw [HRT.o,hall];simp);rw [hq]at HC;clear hq hst hall;generalize ts[i]=X at*
         go_wp2_with fail;refine HC.o.mono ?_;rintro e w5 ⟨rfl,hb⟩;rw [HWA.o]at hb;have Kv:=aZ (HB.o.trans ((Cn.o.trans (hb.mono Cn.o.size)).mono HB.o.size));clear hb e0 e1 e2 e3;go_wp2_with fail;go_ret;refine⟨by rw [HF.o];rfl,HB1.o.trans (Kv.o.mono HB1.o.size)⟩
        |true=>
         have HST:bN ((ts.take (i+1)).all (bC 16)=true):=aZ (by rw [hst,List.all_append,HI.o];simp [hq]);rw [hq]at HC;clear hq hst;generalize ts[i]=X at*
         go_wp2_with fail;refine HC.o.mono ?_;rintro e w5 ⟨rfl,hb⟩;rw [HWA.o]at hb;have Kv:=aZ (HB.o.trans ((Cn.o.trans (hb.mono Cn.o.size)).mono HB.o.size));clear hb e0 e1 e2 e3;go_wp2_with fail
         go_roundw
         case rel=>exact⟨i+1,rfl,by omega,HST.o,Kv.o⟩
         case measure=>simp [intOf];omega
       ·obtain rfl:i=a:=by omega
        have HRU:bN (res=ks.all (d9 m)):=aZ (by
         have h:=HI.o;rw [List.take_of_length_le (by rw [HA.o];omega)]at h;rw [HRT.o,h,Bool.true_and])
        obtain⟨p0,p1,p2,p3,p4,p5,p6,p7⟩:=lQ ((hbr.block _ (block_lt Es.o)).trans Es.o);clear hlt hbr HI HRT;go_wp2_with fail;clear p0 p1 p2 p3 p4 p5 p6 p7;go_loopw [99] (fun v99 wr=>∃i:Nat,v99=.int .i64 i∧i<=d∧(ks.take i).all (d9 m)=true∧Below W.heap.size W wr) (fun v99 _=>d - (intOf v99).toNat)
        case atStart=>exact⟨0,rfl,by omega,rfl,HB.o⟩
        case round=>
         obtain⟨j,rfl,hj_,agi,uo⟩:=hrel;have HI2:=aZ agi;have HB2:=aZ uo;clear agi;by_cases hlt:j<d
         ·have hil:j<ks.length:=by rw [HD.o];exact hlt
          obtain⟨b2,o2,kk,ss,y2,y3,y4,A5,n5,c5,A6,n6,c6,A7,n7,c7,rfl,hr1,e0,e1,e2,e3,e4,e5,e6,e7⟩:=ED (Sl.more (Sl.below HKK.o.1 uo) uo.size) ((HKK.o.2.keep uo).more uo.size) hil HD.o.symm;obtain⟨wA,Ol⟩:∃wA,wr.alloc (.cells #[.int .i64 kk,.string ss,.int .i64 y2,.int .i64 y3,.int .i64 y4,.slice A5 n5 c5,.slice A6 n6 c6,.slice A7 n7 c7] 52)=wA:=⟨_,rfl⟩
          have Om:Below wr.heap.size wr wA:=by rw [<-Ol];exact(Below.refl _ _).alloc (Nat.le_refl _) _
          have HC:=aZ (HIH.o wA _ ks[j] (hr1.far (Nat.le_refl _) Om) (Rh.o _ (List.getElem_mem hil)) ((HX.o.below uo).below Om));have Cn:=aZ Om;have HWA:=aZ Ol;have hst:=G8 hil;rw [<-Ol]at HC;clear uo hr1 Om Ol;cases hq:d9 m ks[j]with
          |false=>
           have hall:ks.all (d9 m)=false:=by
            cases h:ks.all (d9 m)with
            |false=>rfl
            |true=>rw [List.all_eq_true]at h;rw [h _ (List.getElem_mem hil)]at hq;cases hq
           have HF:bN (res=false):=aZ (by rw [HRU.o,hall]);rw [hq]at HC;clear hq hst hall;generalize ks[j]=X at*
           go_wp2_with fail;refine HC.o.mono ?_;rintro e w5 ⟨rfl,hb⟩;rw [HWA.o]at hb;have Kv:=aZ (HB2.o.trans ((Cn.o.trans (hb.mono Cn.o.size)).mono HB2.o.size));clear hb e0 e1 e2 e3 e4 e5 e6 e7;go_wp2_with fail;go_ret;refine⟨by rw [HF.o];rfl,HB1.o.trans (Kv.o.mono HB1.o.size)⟩
          |true=>
           have HST:bN ((ks.take (j+1)).all (d9 m)=true):=aZ (by rw [hst,List.all_append,HI2.o];simp [hq]);rw [hq]at HC;clear hq hst;generalize ks[j]=X at*
           go_wp2_with fail;refine HC.o.mono ?_;rintro e w5 ⟨rfl,hb⟩;rw [HWA.o]at hb;have Kv:=aZ (HB2.o.trans ((Cn.o.trans (hb.mono Cn.o.size)).mono HB2.o.size));clear hb e0 e1 e2 e3 e4 e5 e6 e7;go_wp2_with fail
           go_roundw
           case rel=>exact⟨j+1,rfl,by omega,HST.o,Kv.o⟩
           case measure=>simp [intOf];omega
         ·obtain rfl:j=d:=by omega
          have HF:bN (res=true):=aZ (by
           have h:=HI2.o;rw [List.take_of_length_le (by rw [HD.o];omega)]at h;rw [HRU.o,h])
          clear uo hlt;go_wp2_with fail;go_ret;refine⟨by rw [HF.o];rfl,HB1.o.trans (HB2.o.mono HB1.o.size)⟩
     ·have HF:bN (res=false):=aZ (by rw [OE.o,decide_eq_false h3];simp);have g5:((d:Int) != kv)=true:=by rw [bne_iff_ne];exact h3
      clear h3;go_wp2_with fail;go_ret;refine⟨by rw [HF.o];rfl,HB1.o.trans (Bl.o.mono HB1.o.size)⟩
theorem Oo:∀m:Nat,m<=41->NdC m
 |0,_=>VA
 |m+1,h=>VB m (by omega) (Oo m (by omega))
def ExC (x:bI):Prop:=∀(w:World) (z:List Value) (m:Nat),zC w w.heap.size z x->okN x->d9 m x=true->Hf x<=300000->lT w->
 Calls Tryz.prog 57 #[.agg z.toArray] w fun e w'=>e=.returned (sv (sN x))∧Below w.heap.size w w'
end Go.Proofs.YtfgjkmipfikooaaGreatDoor
