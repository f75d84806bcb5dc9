/- GK, GL, TL, UM, GM, GN, UI, UN -/
import Derived.Test.YtfgjkmipfikooaaGreatDoorTTQ
import Derived.Test.YtfgjkmipfikooaaGreatDoorTT19
import Derived.Test.YtfgjkmipfikooaaGreatDoorTT02
import Derived.Lib.Join
import Derived.Lib.ItoaLen
import Derived.Test.YtfgjkmipfikooaaGreatDoorTT05
import Derived.Deep.RegionHeld
import Derived.Test.YtfgjkmipfikooaaGreatDoorTT01
import Derived.Lib.OthersKept
import Derived.Lib.TrimU
import Derived.Test.YtfgjkmipfikooaaGreatDoorTT03
import Derived.Deep.LoopGhost
import Derived.Shelf.Strings.IndexFuncSpace
import Derived.Test.YtfgjkmipfikooaaGreatDoorTT13
import Derived.Test.YtfgjkmipfikooaaGreatDoorProg
import Derived.Deep.WholeRow
import Derived.Deep.Cut
import Derived.Deep.CutBlock
import Derived.IntWalk
set_option linter.unusedSimpArgs false
set_option linter.unusedVariables false
set_option maxRecDepth 100000
set_option maxHeartbeats 8000000
namespace Go.Proofs.YtfgjkmipfikooaaGreatDoor
open Go.RowKit
mutual
def QK:bT→Nat
 | .mk _ _ _ ks=>1+qC ks
def qC:List bT→Nat
 | []=>0
 | t :: l=>QK t+qC l
end
def iL (l:List Bt):Nat:=(l.map List.length).sum
theorem iV (x:Bt) (l:List Bt):iL (x :: l)=x.length+iL l:=by simp [iL]
theorem nW (sep:Bt):∀l:List Bt,(tH sep l).length≤iL l+sep.length*l.length
 | []=>by simp [tH]
 | [x]=>by simp [tH,iL]
 | x :: y :: l=>by
  have h:=nW sep (y :: l);rw [tH,List.length_append,List.length_append,iV,List.length_cons,Nat.mul_succ];omega
theorem nX {s:Bt} (h:dS s=true):s.length≤32:=by
 rcases Nat.lt_or_ge 32 s.length with h1 | h1
 ·rw [zC h1]at h;cases h
 ·exact h1
theorem vS:∀(ns l:List Bt),(∀n∈ns,n.length≤32)→iL (List.zipWith om ns l)≤iL l+34*l.length
 | [],l, _=>by simp [iL]
 | n :: ns,[], _=>by simp [iL]
 | n :: ns,x :: l,h=>by
  have h1:=vS ns l fun y hy=>h y (List.mem_cons_of_mem _ hy);have h2:=h n (List.mem_cons_self ..);rw [List.zipWith_cons_cons,iV,iV,List.length_cons];have h3:(om n x).length=n.length+(2+x.length):=by unfold om;simp only [List.length_append,List.length_cons,List.length_nil]
  omega
theorem CG {α β γ:Type} (f:α→β→γ):∀(a:List α) (b:List β),(List.zipWith f a b).length≤b.length
 | [],b=>by simp
 | x :: a,[]=>by simp
 | x :: a,y :: b=>by rw [List.length_zipWith];omega
theorem zH (ks:List Int) (k:Int) (s:Bt):(rQ ks k s).length≤s.length+2:=by
 unfold rQ;split
 ·simp
 ·omega
theorem BG (kk:List Int):∀(ks:List Int) (l:List Bt),iL (List.zipWith (rQ kk) ks l)≤iL l+2*l.length
 | [],l=>by simp [iL]
 | k :: ks,[]=>by simp [iL]
 | k :: ks,x :: l=>by
  have h1:=BG kk ks l;have h2:=zH kk k x;rw [List.zipWith_cons_cons,iV,iV,List.length_cons];omega
theorem EY (l:List Bt) (i:Nat):(l.getD i []).length≤iL l:=by
 induction l generalizing i with
 | nil=>simp [iL]
 | cons x l ih=>
  rw [iV];cases i with
  | zero=>simp
  | succ i=>have:=ih i;simp only [List.getD_cons_succ];omega
theorem QL (l:List Bt):(l.getD 0 []).length+(l.getD 1 []).length≤iL l:=by
 match l with
 | []=>simp [iL]
 | [x]=>simp [iL]
 | x :: y :: l=>simp [iL]
theorem Ar (l:List bT):(gF l).length=l.length:=by rw [rR,List.length_map]
mutual
theorem NY:∀(t:bT) (m:Nat),bf m t=true→(tJ t).length+44≤80*QK t
 | .mk k nm ns ks,m,h=>by
  obtain⟨m,rfl⟩:∃q,m=q+1:=by
   cases m with
   | zero=>cases h
   | succ q=>exact⟨q,rfl⟩
  have h:(ns.all dS && ks.all (bf m) && fF k nm ns.length ks.length)=true:=h;rw [Bool.and_eq_true,Bool.and_eq_true]at h;obtain⟨⟨h1,h2⟩,h3⟩:=h;have hn:∀n∈ns,n.length≤32:=fun n hn=>nX (List.all_eq_true.1 h1 n hn);have hk:=qQ ks m h2;have hl:=Ar ks;rw [tJ,QK];split
  ·simp;omega
  split
  ·simp;omega
  split
  ·simp;omega
  split
  ·simp;omega
  split
  ·simp;omega
  split
  ·have a1:=nW [44,32] (List.zipWith om ns (gF ks));have a2:=vS ns (gF ks) hn;have a3:=CG om ns (gF ks);simp only [List.length_append,List.length_cons,List.length_nil]at a1 ⊢;omega
  split
  ·have a1:=zH [6] ((ks.map bT.kind).getD 0 0) ((gF ks).getD 0 []);have a2:=QL (gF ks);simp only [List.length_append,List.length_cons,List.length_nil];omega
  split
  ·have a1:=nW [32,124,32] (List.zipWith (rQ [6,7]) (ks.map bT.kind) (gF ks));have a2:=BG [6,7] (ks.map bT.kind) (gF ks);have a3:=CG (rQ [6,7]) (ks.map bT.kind) (gF ks);simp only [List.length_append,List.length_cons,List.length_nil]at a1 ⊢;omega
  ·have hnm:nm.length≤32:=by
    unfold fF at h3;split at h3
    ·rw [Bool.and_eq_true]at h3;exact nX h3.2
    ·split at h3
     ·cases h3
     ·rename_i h4
      have:nm=[]:=by
       rcases nm with _ | ⟨c,r⟩
       ·rfl
       ·exact absurd (.inl (by simp)) h4
      rw [this];simp
   omega
theorem qQ:∀(l:List bT) (m:Nat),l.all (bf m)=true→iL (gF l)+44*l.length≤80*qC l
 | [], _, _=>by simp [iL,gF]
 | t :: l,m,h=>by
  rw [List.all_cons,Bool.and_eq_true]at h;have h1:=NY t m h.1;have h2:=qQ l m h.2;rw [gF,iV,qC,List.length_cons];omega
end
mutual
def zI:bX→Nat
 | .mk _ _ _ _ _ ts _ ks=>1+qC ts+rH ks
def rH:List bX→Nat
 | []=>0
 | t :: l=>zI t+rH l
end
theorem EZ:∀ {l:List bX} {t:bX},t∈l→zI t≤rH l
 | [], _,h=>by cases h
 | x :: l,t,h=>by
  rw [rH];rcases List.mem_cons.1 h with rfl | h
  ·omega
  ·have:=EZ h;omega
theorem NZ (t:bX):0<zI t:=by cases t;rw [zI];omega
theorem vT:∀l:List bX,l.length≤rH l
 | []=>by simp
 | t :: l=>by have:=vT l;have:=NZ t;rw [rH,List.length_cons];omega
theorem SE {α:Type} {c:Prop} [Decidable c] {P:α→Prop} {a b:α} (ha:P a) (hb:P b):P (if c then a else b):=by
 by_cases h:c
 ·rw [if_pos h];exact ha
 ·rw [if_neg h];exact hb
theorem Vi {s:Bt} (h:opsL.contains s=true):s.length≤3:=by
 have h1:s∈opsL:=by simpa using h
 have h2:∀x∈opsL,x.length≤3:=by decide
 exact h2 s h1
theorem zJ {k:Int} {s:Bt} {b:Bool} (h:ny k s b=true):s.length≤256:=by
 unfold ny at h;split at h
 ·have:=nX h;omega
 split at h
 ·unfold zT at h;rw [Bool.and_eq_true,decide_eq_true_eq]at h;exact h.1
 split at h
 ·have:=Vi h;omega
 ·have:s=[]:=by simpa using h
  rw [this];simp
theorem KA (s:Bt):(BK s).length≤2*s.length+2:=by
 have h1:=QJ s;have h2:=QI s;unfold BK;rw [List.length_cons,List.length_append];simp only [List.length_cons,List.length_nil];omega
theorem N7 (ts:List bT) (m:Nat) (h:ts.all (bf m)=true):(vY ts 0).length+(vY ts 1).length≤80*qC ts:=by
 have h1:=qQ ts m h
 match ts,h1 with
 | [], _=>simp [vY]
 | [t],h1=>
  simp [vY,gF,iL]at h1 ⊢;omega
 | t :: u :: l,h1=>
  simp [vY,gF,iL]at h1 ⊢;omega
theorem N8 (i:Nat):(qY.getD i []).length≤28:=by
 have:=EY qY i;have h:iL qY=28:=by decide
 omega
theorem Je:∀l:List Bt,(cat l).length=iL l
 | []=>rfl
 | x :: l=>by
  have:=Je l;rw [iV, ←this];simp [cat]
theorem KC (l:List Bt):(l.getD 0 []).length+(l.getD 1 []).length+(l.getD 2 []).length≤iL l:=by
 match l with
 | []=>simp [iL]
 | [x]=>simp [iL]
 | [x,y]=>simp [iL]
 | x :: y :: z :: l=>simp [iL];omega
theorem ni (l:List bX):(kI l).length=l.length:=by rw [oq,List.length_map]
theorem In64.itoa {n:Int} (h:0≤n∧n≤9223372036854775807):(Lib.itoa n).length≤40:=by
 have:=Lib.itoa_length_le n (by omega) (by omega);omega
theorem N9 (k:Int) (text:Bt) (n:Int) (ts:List bT) (ns:List Bt) (s:List Bt) (m:Nat) (ht:text.length≤256) (hn:0≤n∧n≤9223372036854775807) (hts:ts.all (bf m)=true) (hns:∀x∈ns,x.length≤32):
  (AO k text n ts ns s).length+44≤700+80*qC ts+(iL s+36*s.length):=by
 have a1:=N7 ts m hts;have a2:=qQ ts m hts;have a3:=KC s;have a4:=N8 n.toNat;have a5:=KA text;have a6:=nW [44,32] (ts.map tJ);have a7:=nW [44,32] (List.zipWith om ns s);have a8:=vS ns s hns;have a9:=CG om ns s;have G6:=EY (ts.map tJ) 0;have FK:=In64.itoa hn;rw [rR]at a2;rw [List.length_map]at a6;simp only [List.length_cons,List.length_nil]at a6 a7;unfold AO tK;generalize Lib.itoa n=it at*
 repeat' (refine SE (P:=fun l:Bt=>l.length+44≤700+80*qC ts+(iL s+36*s.length)) ?_ ?_)
 all_goals first
  | omega
  | (rw [Je];simp only [iL,List.map_cons,List.map_nil,List.sum_cons,List.sum_nil,List.length_cons,List.length_nil];simp only [iL]at*;omega)
  | (simp only [List.length_cons,List.length_nil];omega)
theorem Oa {k:Int} {text:Bt} {n:Int} {a b c:Nat} (h:BL k text n a b c=true):text.length≤256∧0≤n∧n≤9223372036854775807:=by
 unfold BL at h;rw [Bool.and_eq_true,Bool.and_eq_true,Bool.and_eq_true,decide_eq_true_eq]at h;refine⟨zJ h.1.1.2,h.1.1.1.1, ?_⟩;have h1:=h.1.1.1.2;have h2:(dR k).most≤9223372036854775807:=by
  show(fun h:OV=>h.most≤9223372036854775807) (dR k);unfold dR
  repeat' (refine SE (P:=fun h:OV=>h.most≤9223372036854775807) ?_ ?_)
  all_goals (show(_:Int)≤ _;decide)
 omega
mutual
theorem zK:∀(x:bX) (m:Nat),dP m x=true→(nC x).length+44≤700*zI x
 | .mk k text n li co ts ns ks,m,h=>by
  obtain⟨m,rfl⟩:∃q,m=q+1:=by
   cases m with
   | zero=>cases h
   | succ q=>exact⟨q,rfl⟩
  have h:(decide (0≤k∧k<20) && BL k text n ts.length ns.length ks.length && ns.all dS && ts.all (bf 16) && ks.all (dP m))=true:=h;rw [Bool.and_eq_true,Bool.and_eq_true,Bool.and_eq_true,Bool.and_eq_true]at h;obtain⟨⟨⟨⟨h1,h2⟩,h3⟩,h4⟩,h5⟩:=h;obtain⟨o1,o2⟩:=Oa h2;have hk:=BH ks m h5;have hl:=ni ks;have hh:=N9 k text n ts ns (kI ks) 16 o1 o2 h4 (fun x hx=>nX (List.all_eq_true.1 h3 x hx));rw [nC,zI];omega
theorem BH:∀(l:List bX) (m:Nat),l.all (dP m)=true→iL (kI l)+44*l.length≤700*rH l
 | [], _, _=>by simp [iL,kI]
 | t :: l,m,h=>by
  rw [List.all_cons,Bool.and_eq_true]at h;have h1:=zK t m h.1;have h2:=BH l m h.2;rw [kI,iV,rH,List.length_cons];omega
end
theorem CJ {w:World} {B:Nat} {A:Option Addr} {n c:Nat} {xk:List Value} {ks:List bT} (h2:Sl w B 4 (.slice A n c) xk) (hr:iP w B xk ks) {i:Nat} (hi:i<ks.length) (hn:n=ks.length):
  ∃b o k s A1 n1 c1 A2 n2 c2,A=some ⟨b,o,none⟩∧sQ w B [.int .i64 k, .string s, .slice A1 n1 c1, .slice A2 n2 c2] ks[i]∧w.cell? ⟨b,o+i*4,none⟩=some (.int .i64 k)∧w.cell? ⟨b,o+i*4+1,none⟩=some (.string s)∧w.cell? ⟨b,o+i*4+2,none⟩=some (.slice A1 n1 c1)∧w.cell? ⟨b,o+i*4+3,none⟩=some (.slice A2 n2 c2):=by
 subst hn;obtain⟨b1,o1,rfl,hb1,hc1⟩:=xK h2 hi (by omega);have hr1:=hr.at i hi;obtain⟨kk,s,A1,n1,c1,A2,n2,c2,hv1⟩:=hr1.shape;rw [hv1]at hr1;refine⟨b1,o1,kk,s,A1,n1,c1,A2,n2,c2,rfl,hr1, ?_, ?_, ?_, ?_⟩
 ·have:=hc1 0 _ (iZ hv1 (by omega:0<4));simpa using this
 ·have:=hc1 1 _ (iZ hv1 (by omega:1<4));simpa [Nat.add_assoc]using this
 ·have:=hc1 2 _ (iZ hv1 (by omega:2<4));simpa [Nat.add_assoc]using this
 ·have:=hc1 3 _ (iZ hv1 (by omega:3<4));simpa [Nat.add_assoc]using this
theorem Jf {w:World} {B:Nat} {A:Option Addr} {n c:Nat} {ns:List Bt} (h:Ss w B (.slice A n c) ns) {i:Nat} (hi:i<ns.length):
  ∃b o,A=some ⟨b,o,none⟩∧w.cell? ⟨b,o+i,none⟩=some (sv ns[i]):=by
 obtain⟨A',c',hv, _, _,hx⟩:=h.open_;injection hv with e1 e2 e3;subst e1 e2 e3;obtain⟨b,o,hA, _,hc⟩:=hx (by omega);exact⟨b,o,hA,hc i hi⟩
theorem jB {w:World} {b:Nat} {x0 x1 x2 x3 x4 x5 x6 x7:Value} {T:TypeId} (h:w.heap[b]? =some (.cells #[x0,x1,x2,x3,x4,x5,x6,x7] T (0,0))):
  w.cell? ⟨b,0,none⟩=some x0∧w.cell? ⟨b,1,none⟩=some x1∧w.cell? ⟨b,2,none⟩=some x2∧w.cell? ⟨b,3,none⟩=some x3∧w.cell? ⟨b,4,none⟩=some x4∧w.cell? ⟨b,5,none⟩=some x5∧w.cell? ⟨b,6,none⟩=some x6∧w.cell? ⟨b,7,none⟩=some x7:=
 ⟨(cell_of_row _ _ _ _ _ _ h).trans rfl,(cell_of_row _ _ _ _ _ _ h).trans rfl,(cell_of_row _ _ _ _ _ _ h).trans rfl,(cell_of_row _ _ _ _ _ _ h).trans rfl,(cell_of_row _ _ _ _ _ _ h).trans rfl,(cell_of_row _ _ _ _ _ _ h).trans rfl,(cell_of_row _ _ _ _ _ _ h).trans rfl,(cell_of_row _ _ _ _ _ _ h).trans rfl⟩
theorem CK {w:World} {b:Nat} {x0 x1 x2 x3 x4:Value} {T:TypeId} (h:w.heap[b]? =some (.cells #[x0,x1,x2,x3,x4] T (0,0))):
  w.cell? ⟨b,0,none⟩=some x0∧w.cell? ⟨b,1,none⟩=some x1∧w.cell? ⟨b,2,none⟩=some x2∧w.cell? ⟨b,3,none⟩=some x3∧w.cell? ⟨b,4,none⟩=some x4:=
 ⟨(cell_of_row _ _ _ _ _ _ h).trans rfl,(cell_of_row _ _ _ _ _ _ h).trans rfl,(cell_of_row _ _ _ _ _ _ h).trans rfl,(cell_of_row _ _ _ _ _ _ h).trans rfl,(cell_of_row _ _ _ _ _ _ h).trans rfl⟩
theorem oU (w:World) (o1 o2:Obj):((w.alloc o1).alloc o2).heap[w.heap.size]? =some o1∧((w.alloc o1).alloc o2).heap[w.heap.size+1]? =some o2:=by
 have hs:(w.alloc o1).heap.size=w.heap.size+1:=by simp
 refine⟨?_, ?_⟩
 ·exact ah (heap_alloc_new w o1) (Turn.alloc (fun _=>False) _ o2) (fun h=>h)
 ·have:=heap_alloc_new (w.alloc o1) o2;rwa [hs]at this
theorem yu {w:World} {B:Nat} {A:Option Addr} {n c:Nat} {xk:List Value} {ks:List bX} (h2:Sl w B 8 (.slice A n c) xk) (hr:kX w B xk ks) {i:Nat} (hi:i<ks.length) (hn:n=ks.length):
  ∃b o k s v2 v3 v4 A1 n1 c1 A2 n2 c2 A3 n3 c3,A=some ⟨b,o,none⟩∧rT w B [.int .i64 k, .string s, .int .i64 v2, .int .i64 v3, .int .i64 v4, .slice A1 n1 c1, .slice A2 n2 c2, .slice A3 n3 c3] ks[i]∧
   w.cell? ⟨b,o+i*8,none⟩=some (.int .i64 k)∧w.cell? ⟨b,o+i*8+1,none⟩=some (.string s)∧w.cell? ⟨b,o+i*8+2,none⟩=some (.int .i64 v2)∧w.cell? ⟨b,o+i*8+3,none⟩=some (.int .i64 v3)∧w.cell? ⟨b,o+i*8+4,none⟩=some (.int .i64 v4)∧
   w.cell? ⟨b,o+i*8+5,none⟩=some (.slice A1 n1 c1)∧w.cell? ⟨b,o+i*8+6,none⟩=some (.slice A2 n2 c2)∧w.cell? ⟨b,o+i*8+7,none⟩=some (.slice A3 n3 c3):=by
 subst hn;obtain⟨b1,o1,rfl,hb1,hc1⟩:=xK h2 hi (by omega);have hr1:=hr.at i hi;obtain⟨kk,s,v2,v3,v4,A1,n1,c1,A2,n2,c2,A3,n3,c3,hv1⟩:=hr1.shape;rw [hv1]at hr1;refine⟨b1,o1,kk,s,v2,v3,v4,A1,n1,c1,A2,n2,c2,A3,n3,c3,rfl,hr1, ?_, ?_, ?_, ?_, ?_, ?_, ?_, ?_⟩
 ·have:=hc1 0 _ (iZ hv1 (by omega:0<8));simpa using this
 ·have:=hc1 1 _ (iZ hv1 (by omega:1<8));simpa [Nat.add_assoc]using this
 ·have:=hc1 2 _ (iZ hv1 (by omega:2<8));simpa [Nat.add_assoc]using this
 ·have:=hc1 3 _ (iZ hv1 (by omega:3<8));simpa [Nat.add_assoc]using this
 ·have:=hc1 4 _ (iZ hv1 (by omega:4<8));simpa [Nat.add_assoc]using this
 ·have:=hc1 5 _ (iZ hv1 (by omega:5<8));simpa [Nat.add_assoc]using this
 ·have:=hc1 6 _ (iZ hv1 (by omega:6<8));simpa [Nat.add_assoc]using this
 ·have:=hc1 7 _ (iZ hv1 (by omega:7<8));simpa [Nat.add_assoc]using this
theorem QM {α:Type} {l:List α} (h:l.length=2):∃a b,l=[a,b]:=by
 match l,h with
 | [a,b], _=>exact⟨a,b,rfl⟩
theorem BI {m:Nat} {k:Int} {text:Bt} {n li co:Int} {ts:List bT} {ns:List Bt} {ks:List bX} (h:dP m (.mk k text n li co ts ns ks)=true):
  ∃q,m=q+1∧(0≤k∧k<20)∧BL k text n ts.length ns.length ks.length=true∧(∀x∈ns,x.length≤32)∧ts.all (bf 16)=true∧(∀x∈ks,dP q x=true):=by
 cases m with
 | zero=>cases h
 | succ q=>
  have h:(decide (0≤k∧k<20) && BL k text n ts.length ns.length ks.length && ns.all dS && ts.all (bf 16) && ks.all (dP q))=true:=h;rw [Bool.and_eq_true,Bool.and_eq_true,Bool.and_eq_true,Bool.and_eq_true,decide_eq_true_eq]at h;exact⟨q,rfl,h.1.1.1.1,h.1.1.1.2,fun x hx=>nX (List.all_eq_true.1 h.1.1.2 x hx),h.1.2,fun x hx=>List.all_eq_true.1 h.2 x hx⟩
theorem vU {P:Program} {ops:Array Oper} {o:Oper} {a:Act} {w:World} {K:Act→World→Prop} {Q:Exit→Act→World→Prop} {E:Prop} (hgd:o.guard=none) (s x:Operand) (t:TypeId)
  (ho:o.op= .call { callee:= .builtin .append,args:= #[s,x],argTypes:= #[t,t]})
  (base:Nat) {e:TypeId} {z:Value} (hE:jT P t e z 1 16) (v y:Value) (hs:a.eval s=v) (hx:a.eval x=y)
  {l:List Bt} (hown:gI w base e v l) {B:Nat} {m:List Bt} (hy:Ss w B y m) (hlen:l.length+m.length≤8796093022208) (hbase:base≤w.heap.size)
  (h:∀v' w',gI w' base e v' (l++m)→w.grownBy w' v.ownBlock→(v'.ownBlock=v.ownBlock∨v'.ownBlock=some w.heap.size)→K (a.put o.dst v') w'):
  if Region.wanted o (yielded ops a.tmps)=true then Oper.wp P o a w K Q else E:=
 fq hgd s x t ho base hE v y hs hx hown.row hy (tC _) (by simp only [eH,maxLen];omega) (by rw [eH];omega) hbase
  (fun v' w' n' h1 h2 h3=>h v' w' ⟨n',by rw [lQ];exact h1⟩ h2 h3)
structure zL (w wr:World) (OB:Obj) (v:Value) (l:List Bt):Prop where
 box:wr.heap[w.heap.size+1]? =some (.cells #[v] 25 (0,0))
 own:gI wr (w.heap.size+2) 9 v l
 node:wr.heap[w.heap.size]? =some OB
 below:Below w.heap.size w wr
theorem zL.far {w wr w':World} {OB:Obj} {v:Value} {l:List Bt} (h:zL w wr OB v l) (hb:Below wr.heap.size wr w'):zL w w' OB v l:=
 ⟨(hb.block _ (block_lt h.box)).trans h.box,h.own.below hb,(hb.block _ (block_lt h.node)).trans h.node,h.below.trans (hb.mono h.below.size)⟩
theorem zL.cell {w wr:World} {OB:Obj} {v:Value} {l:List Bt} (h:zL w wr OB v l):wr.cell? ⟨w.heap.size+1,0,none⟩=some v:=(cell_of_row _ _ _ _ _ _ h.box).trans rfl
theorem zL.grown {w wr w':World} {OB:Obj} {v v':Value} {l l':List Bt} (h:zL w wr OB v l) (ho:gI w' (w.heap.size+2) 9 v' l') (hg:wr.grownBy w' v.ownBlock):
  w'.cell? ⟨w.heap.size+1,0,none⟩=some v∧w'.frozen? ⟨w.heap.size+1,0,none⟩=false∧zL w (w'.setCell ⟨w.heap.size+1,0,none⟩ v') OB v' l':=by
 have hlt:=h.own.lt;have hb:=(hg.block _ (block_lt h.box) (by intro e;have:=(hlt _ e.symm).1;omega)).trans h.box;have hn:=(hg.block _ (block_lt h.node) (by intro e;have:=(hlt _ e.symm).1;omega)).trans h.node;have hbl:Below w.heap.size w w':=h.below.grown hg h.below.size (fun k hk=>by have:=(hlt k hk).1;omega);have t:=ak w' (w.heap.size+1) 0 v';refine⟨(cell_of_row _ _ _ _ _ _ hb).trans rfl,bg hb 0,heap_setCell_same _ _ _ _ _ _ hb,ho.turn t (fun g hg e=>by have:=(ho.lt g hg).1;omega),ah hn t (by omega),hbl.trans (t.below hbl.size (fun k hk e=>by omega))⟩
theorem gI.cell {w:World} {base:Nat} {e:TypeId} {g c n:Nat} {l:List Bt} (h:gI w base e (.slice (some ⟨g,0,none⟩) n c) l) (j:Nat) (hj:j<l.length):w.cell? ⟨g,j,none⟩=some (sv l[j]):=by
 have:=h.row.cells (g:=g) rfl j _ (xJ l j hj);rwa [qF,Nat.zero_add]at this
def SF (s:Bt):Bool:=s.all (fun c=> !(decide (c<32) && c != 9 && c != 10))
def qV (n:Nat):Bool:=decide (n<32) && n != 9 && n != 10
theorem Jg (s:ByteArray) (i:Nat) (h:(s.get! i).toNat<128):Utf8.decode s i=((s.get! i).toNat,1):=by
 unfold Utf8.decode;simp only [Nat.add_zero];rw [if_pos h]
theorem lK (s:ByteArray) (i k:Nat) (h:(decide (i+k<s.size) && (s.get! (i+k)).toNat / 64==2)=true):128≤(s.get! (i+k)).toNat:=by
 rw [Bool.and_eq_true,beq_iff_eq]at h;omega
theorem E8 (s:ByteArray) (i:Nat) (h:128≤(s.get! i).toNat):128≤(Utf8.decode s i).1∧∀j,j<(Utf8.decode s i).2→128≤(s.get! (i+j)).toNat:=by
 have h0:∀j,j<1→128≤(s.get! (i+j)).toNat:=by
  intro j hj;obtain rfl:j=0:=by omega
  exact h
 unfold Utf8.decode;simp only [Nat.add_zero];rw [if_neg (by omega)];split
 ·rename_i h1
  rw [Bool.and_eq_true]at h1;have a1:=lK s i 1 h1.2;split
  ·rename_i h2
   refine⟨h2,fun j hj=> ?_⟩;have hj:j<2:=hj;obtain rfl | rfl:j=0∨j=1:=by omega
   ·exact h
   ·exact a1
  ·exact⟨by decide,h0⟩
 split
 ·rename_i h1
  rw [Bool.and_eq_true,Bool.and_eq_true]at h1;have a1:=lK s i 1 h1.1.2;have a2:=lK s i 2 h1.2;split
  ·rename_i h2
   rw [Bool.and_eq_true,decide_eq_true_eq]at h2;refine⟨by have:=h2.1;omega,fun j hj=> ?_⟩;have hj:j<3:=hj;obtain rfl | rfl | rfl:j=0∨j=1∨j=2:=by omega
   ·exact h
   ·exact a1
   ·exact a2
  ·exact⟨by decide,h0⟩
 split
 ·rename_i h1
  rw [Bool.and_eq_true,Bool.and_eq_true,Bool.and_eq_true]at h1;have a1:=lK s i 1 h1.1.1.2;have a2:=lK s i 2 h1.1.2;have a3:=lK s i 3 h1.2;split
  ·rename_i h2
   rw [Bool.and_eq_true,decide_eq_true_eq]at h2;refine⟨by have:=h2.1;omega,fun j hj=> ?_⟩;have hj:j<4:=hj;obtain rfl | rfl | rfl | rfl:j=0∨j=1∨j=2∨j=3:=by omega
   ·exact h
   ·exact a1
   ·exact a2
   ·exact a3
  ·exact⟨by decide,h0⟩
 ·exact⟨by decide,h0⟩
theorem get_at (s:Bt) (i:Nat) (h:i<s.length):((⟨s.toArray⟩:ByteArray).get! i)=s[i]:=by
 show s.toArray[i]! =s[i];rw [getElem!_pos s.toArray i (by simpa using h)];simp
theorem E9 (c:UInt8):qV c.toNat=(decide (c<32) && c != 9 && c != 10):=by
 have h1:(decide (c.toNat<32))=decide (c<32):=by
  rw [decide_eq_decide,UInt8.lt_iff_toNat_lt];rfl
 have h2:∀d:UInt8,(c.toNat != d.toNat)=(c != d):=by
  intro d;by_cases h:c=d
  ·subst h;simp
  ·have:c.toNat≠d.toNat:=fun e=>h (UInt8.toNat_inj.1 e);simp [bne,beq_eq_false_iff_ne.2 h,beq_eq_false_iff_ne.2 this]
 unfold qV;rw [h1,show(9:Nat)=(9:UInt8).toNat from rfl,show(10:Nat)=(10:UInt8).toNat from rfl,h2,h2]
def zM (s:Bt) (p:Nat):Prop:=∀j,j<p→∀h:j<s.length,qV s[j].toNat=false
theorem KD {s:Bt} {p:Nat} (h:zM s p) (hp:p<s.length) (hb:qV (Utf8.decode ⟨s.toArray⟩ p).1=false):zM s (p+(Utf8.decode ⟨s.toArray⟩ p).2):=by
 intro j hj hl;rcases Nat.lt_or_ge j p with h1 | h1
 ·exact h j h1 hl
 ·rcases Nat.lt_or_ge ((⟨s.toArray⟩:ByteArray).get! p).toNat 128 with h2 | h2
  ·rw [Jg _ _ h2]at hj hb;have hj:j<p+1:=hj;obtain rfl:j=p:=by omega
   rw [get_at s j hl]at hb;exact hb
  ·have h3:=(E8 _ _ h2).2 (j - p) (by omega);rw [show p+(j - p)=j by omega,get_at s j hl]at h3;have:decide (s[j].toNat<32)=false:=decide_eq_false (by omega);unfold qV;rw [this];rfl
theorem Ob {s:Bt} {p:Nat} (hp:p<s.length) (hb:qV (Utf8.decode ⟨s.toArray⟩ p).1=true):s.all (fun c=> !(decide (c<32) && c != 9 && c != 10))=false:=by
 rcases Nat.lt_or_ge ((⟨s.toArray⟩:ByteArray).get! p).toNat 128 with h2 | h2
 ·rw [Jg _ _ h2,get_at s p hp]at hb;cases ha:s.all (fun c=> !(decide (c<32) && c != 9 && c != 10))with
  | false=>rfl
  | true=>
   have:=List.all_eq_true.1 ha _ (List.getElem_mem hp);rw [←E9]at this;have hb:qV s[p].toNat=true:=hb;rw [hb]at this;cases this
 ·have h3:=(E8 _ _ h2).1;unfold qV at hb;rw [decide_eq_false (by omega)]at hb;cases hb
theorem Oc {s:Bt} {p:Nat} (h:zM s p) (hp:s.length≤p):s.all (fun c=> !(decide (c<32) && c != 9 && c != 10))=true:=by
 rw [List.all_eq_true];intro c hc;obtain⟨j,hj,rfl⟩:=List.getElem_of_mem hc;rw [←E9,h j (by omega) hj];rfl
theorem Od (R:Nat) (w:World) (h1:R≤1114111):Calls Tryz.prog 202 #[.int .i32 (R:Int)] w fun e w'=>e= .returned (.bool (qV R))∧w'=w:=by
 by_cases h32:R<32
 ·have g1:decide ((R:Int)<32)=true:=by simp;omega
  by_cases h9:R=9
  ·subst h9;go_enter Tryz.func202,Tryz.ntmps202;go_wp2_with fail;go_ret;exact⟨rfl,rfl⟩
  ·by_cases h10:R=10
   ·subst h10;go_enter Tryz.func202,Tryz.ntmps202;go_wp2_with fail;go_ret;exact⟨rfl,rfl⟩
   ·have g2:((R:Int) != 9)=true:=by rw [bne_iff_ne];omega
    have g3:((R:Int) != 10)=true:=by rw [bne_iff_ne];omega
    have HT:Hid (qV R=true):=hid (by unfold qV;simp [h32,h9,h10]);rw [HT.out];clear h32 h9 h10 h1;go_enter Tryz.func202,Tryz.ntmps202;go_wp2_with fail;go_ret;exact⟨rfl,rfl⟩
 ·have g1:decide ((R:Int)<32)=false:=by simp;omega
  have HT:Hid (qV R=false):=hid (by unfold qV;simp [h32]);rw [HT.out];clear h32 h1;go_enter Tryz.func202,Tryz.ntmps202;go_wp2_with fail;go_ret;exact⟨rfl,rfl⟩
def SG (s:Bt) (w:World) (e:Ending) (w':World):Prop:=(∃k:Int,e= .returned (.int .i64 k)∧(if SF s then k= -1 else 0≤k))∧Below w.heap.size w w'
set_option maxRecDepth 1000000 in
theorem CO (s:Bt) (w:World):
  Calls Tryz.prog 227 #[sv s, .func (.func 202) #[] #[], .bool true] w (SG s w):=by
 have hsz:=bP s;obtain⟨bs,hbs⟩:∃bs:ByteArray,bs=⟨s.toArray⟩:=⟨_,rfl⟩
 have HBS:=hid hbs;rw [←hbs]at hsz;show Calls Tryz.prog 227 #[.string ⟨s.toArray⟩, .func (.func 202) #[] #[], .bool true] w _;rw [←hbs];clear hbs;go_enter Tryz.func227,Tryz.ntmps227;go_wp2_with fail
 go_loopg [] s.length (fun g wx=>∃pos:Nat,wx.heap[w.heap.size]? =some (.stringIter bs pos)∧Below w.heap.size w wx∧zM s pos∧s.length≤pos+g)
 case atStart=>exact⟨0,World.iter_heap w bs 0,(Below.refl _ w).alloc (Nat.le_refl _) _,fun j hj=>by omega,by omega⟩
 case round=>
  obtain⟨pos,hit,hbw,hleft,hfu⟩:=hrel;have agU:w.heap.size<wr.heap.size:=(Array.getElem?_eq_some_iff.1 hit).1;by_cases hp:pos<bs.size
  ·obtain⟨g,rfl⟩:∃g,gk=g+1:=⟨gk - 1,by omega⟩
   have hnx:∀ty,(Instr.next (.pointer (some ⟨w.heap.size,0,none⟩)) true ty).run Tryz.prog wr= _:=fun ty=>Lib.run_next_any_at wr w.heap.size bs pos ty hit hp;have hwd:=Lib.width_pos bs pos;have hr1:=Lib.rune_le bs pos;have hst:∀R K,Utf8.decode bs pos=(R,K)→(qV R=false→zM s (pos+K))∧(qV R=true→SF s=false):=by
    intro R K h;rw [HBS.out]at h;have hps:pos<s.length:=by omega
    constructor
    ·intro hb;have:=KD hleft hps (by rw [h];exact hb);rw [h]at this;exact this
    ·intro hb;exact Ob hps (by rw [h];exact hb)
   obtain⟨R,hR⟩:∃R,(Utf8.decode bs pos).1=R:=⟨_,rfl⟩
   obtain⟨K,hK⟩:∃K,(Utf8.decode bs pos).2=K:=⟨_,rfl⟩
   have hst:=hst R K (by rw [←hR, ←hK]);rw [hR,hK]at hnx;rw [hR]at hr1;rw [hK]at hwd;have hit2:=Lib.iterAt_heap wr w.heap.size bs pos (pos+K) hit;have hbw2:=Lib.below_iterAt hbw (k:=w.heap.size) (Nat.le_refl _) bs (pos+K);obtain⟨W,hWd⟩:∃W,wr.iterAt w.heap.size bs (pos+K)=W:=⟨_,rfl⟩
   rw [hWd]at hnx hit2 hbw2;have HC:=hid (Od R W hr1);have HB2:=hid hbw2;have HIT:=hid hit2;cases hb:qV R with
   | true=>
    rw [hb]at HC;have HE:=hid (hst.2 hb);clear hst hb hR hK hleft;go_wp2_with fail;refine HC.out.mono ?_;rintro e w2 ⟨rfl,rfl⟩;go_wp2_with fail;go_ret;exact⟨⟨pos,rfl,by rw [HE.out];simp⟩,HB2.out⟩
   | false=>
    rw [hb]at HC;have HE:=hid (hst.1 hb);clear hst hb hR hK hleft;go_wp2_with fail;refine HC.out.mono ?_;rintro e w2 ⟨rfl,rfl⟩;go_wp2_with fail
    go_roundg g
    case measure=>omega
    case rel=>exact⟨pos+K,HIT.out,HB2.out,HE.out,by omega⟩
  ·have hnx:∀ty,(Instr.next (.pointer (some ⟨w.heap.size,0,none⟩)) true ty).run Tryz.prog wr= _:=fun ty=>Lib.run_next_end_at wr w.heap.size bs pos ty hit hp;have HE:Hid (SF s=true):=hid (Oc hleft (by omega));have HB:=hid hbw;clear hleft hbw;go_wp2_with fail;go_ret;exact⟨⟨-1,rfl,by rw [HE.out];simp⟩,HB.out⟩
theorem xH (s:Bt) (w:World):
  Calls Tryz.prog 201 #[sv s, .func (.func 202) #[] #[]] w fun e w'=>e= .returned (.bool (!SF s))∧Below w.heap.size w w':=by
 have HI:Hid (∀w1,Calls Tryz.prog 217 #[sv s, .func (.func 202) #[] #[]] w1 (SG s w1)):=hid (by
  intro w1;have HJ:=hid (CO s w1);go_enter Tryz.func217,Tryz.ntmps217;go_wp2_with fail;refine HJ.out.mono ?_;rintro e w2 ⟨⟨k,rfl,hk⟩,hbel⟩;have HK:=hid hk;clear hk;go_wp2_with fail;go_ret;exact⟨⟨k,rfl,HK.out⟩,hbel⟩)
 cases hb:SF s
 all_goals
  go_enter Tryz.func201,Tryz.ntmps201;go_wp2_with fail;refine(HI.out w).mono ?_;rintro e w2 ⟨⟨k,rfl,hk⟩,hbel⟩;rw [hb]at hk;simp only [Bool.false_eq_true,if_false,if_true]at hk;have HB:=hid hbel;clear hbel hb HI
 ·have hg:decide (0≤k)=true:=by simpa using hk
  go_wp2_with fail;go_ret;exact⟨rfl,HB.out⟩
 ·subst hk;go_wp2_with fail;go_ret;exact⟨rfl,HB.out⟩
theorem Oe (s:Bt) (w:World) (hs:s.length≤maxLen):
  Calls Tryz.prog 169 #[sv s] w fun e w'=>e= .returned (.bool (zT s))∧Below w.heap.size w w':=by
 have hsz:=bP s;unfold maxLen at hs;by_cases hl:s.length≤256
 ·have hg:decide ((s.length:Int)≤256)=true:=by simp;omega
  have HT:Hid (zT s=SF s):=hid (by unfold zT SF;rw [decide_eq_true hl];rfl);rw [HT.out];have HC:=hid (xH s w);clear hl;generalize SF s=b at*
  go_enter Tryz.func169,Tryz.ntmps169;go_wp2_with fail;refine HC.out.mono ?_;rintro e w2 ⟨rfl,hb⟩;go_wp2_with fail;go_ret;cases b <;> exact⟨rfl,hb⟩
 ·have hg:decide ((s.length:Int)≤256)=false:=by simp;omega
  have HT:Hid (zT s=false):=hid (by unfold zT;rw [decide_eq_false hl];rfl);rw [HT.out];clear hl;go_enter Tryz.func169,Tryz.ntmps169;go_wp2_with fail;go_ret;exact⟨rfl,Below.refl _ _⟩
def Og:Bt:=[111,114,32,97,110,100,32,60,32,60,61,32,61,61,32,43,43,32,43,32,45,32,94,32,42,32,47,32,37,32,38,32,60,60,32,62,62]
theorem Hg:Lib.fields Og=opsL:=by kernel_rfl
theorem KE:(Og.all fun b=>decide (b.toNat<128))=true:=by kernel_rfl
theorem Fa:(⟨Og.toArray⟩:ByteArray).data.toList=Og:=rfl
theorem QN (w:World) (hL:jD w):Calls Tryz.prog 170 #[] w fun e w'=>∃v,e= .returned v∧Ss w' w'.heap.size v opsL∧Below w.heap.size w w':=by
 go_enter Tryz.func170,Tryz.ntmps170;go_wp2_with fail;refine(Tryz.strings_Fields ⟨Og.toArray⟩ _ ?h1 ?h2 hL.2).mono ?_
 case h1=>decide
 case h2=>
  intro j b hb;rw [Fa]at hb;exact of_decide_eq_true (List.all_eq_true.1 KE b (List.mem_of_getElem? hb))
 rintro e w1 ⟨rfl,rfl⟩;rw [Fa,Hg];have hss:Ss (w.alloc (.cells (opsL.map fun l=>Value.string ⟨l.toArray⟩).toArray 9)) (w.alloc (.cells (opsL.map fun l=>Value.string ⟨l.toArray⟩).toArray 9)).heap.size (.slice (some ⟨w.heap.size,0,none⟩) opsL.length opsL.length) opsL:=by
  have:=fU w (opsL.map fun l=>Value.string ⟨l.toArray⟩).toArray 9 1 opsL.length (by simp) (by decide);rw [World.size_alloc];simpa [Ss,lG]using this
 have hb:Below w.heap.size w (w.alloc (.cells (opsL.map fun l=>Value.string ⟨l.toArray⟩).toArray 9)):=(Below.refl _ _).alloc (Nat.le_refl _) _;generalize(w.alloc (.cells (opsL.map fun l=>Value.string ⟨l.toArray⟩).toArray 9))=w2 at*
 generalize opsL.length=n at*
 go_wp2_with fail;go_ret;exact⟨_,rfl,hss,hb⟩
theorem Oh (w:World) (k:Int) (text:Bt) (v2 v3 v4:Int) (A5:Option Addr) (n5 c5:Nat) (A6:Option Addr) (n6 c6:Nat) (A7:Option Addr) (n7 c7:Nat) (ht:text.length≤maxLen) (hX:jD w) (b:Bool) (a1 a2 a3 a4:Int):
  Calls Tryz.prog 116 #[.agg #[.int .i64 k,sv text, .int .i64 v2, .int .i64 v3, .int .i64 v4, .slice A5 n5 c5, .slice A6 n6 c6, .slice A7 n7 c7], .agg #[.bool b, .int .i64 a1, .int .i64 a2, .int .i64 a3, .int .i64 a4]] w fun e w'=>e= .returned (.bool (ny k text b))∧Below w.heap.size w w':=by
 obtain⟨W,hW⟩:∃W,(w.alloc (.cells #[.int .i64 k,sv text, .int .i64 v2, .int .i64 v3, .int .i64 v4, .slice A5 n5 c5, .slice A6 n6 c6, .slice A7 n7 c7] 52)).alloc (.cells #[.bool b, .int .i64 a1, .int .i64 a2, .int .i64 a3, .int .i64 a4] 174)=W:=⟨_,rfl⟩
 have hb2:Below w.heap.size w W:=by rw [←hW];exact((Below.refl _ _).alloc (Nat.le_refl _) _).alloc (by simp) _
 have HB:=hid hb2;have HW:=hid hW;have HX:=hid (hX.below hb2);have OP:=hid (zD W text (hX.below hb2) ht);have HST:=hid (Oe text W ht);have hbx:W.heap[w.heap.size]? =some (.cells #[.int .i64 k,sv text, .int .i64 v2, .int .i64 v3, .int .i64 v4, .slice A5 n5 c5, .slice A6 n6 c6, .slice A7 n7 c7] 52 (0,0)):=by rw [←hW];exact(oU w _ _).1
 obtain⟨_,g1, _⟩:=jB hbx;have G1:=hid g1;clear hX hbx g1 hb2 ht;cases b with
 | true=>
  have HT:Hid (ny k text true=dS text):=hid rfl;rw [HT.out];rw [←hW]at OP;clear hW;generalize dS text=q at*
  go_enter Tryz.func116,Tryz.ntmps116;go_wp2_with fail;refine OP.out.mono ?_;rintro e w2 ⟨rfl,hb⟩;have hW:=HW.out;rw [hW]at hb;go_wp2_with fail;go_ret;exact⟨rfl,HB.out.trans (hb.mono HB.out.size)⟩
 | false=>
  by_cases k1:k=1
  ·subst k1;have HT:Hid (ny 1 text false=zT text):=hid rfl;rw [HT.out];rw [←hW]at HST;clear hW;generalize zT text=q at*
   go_enter Tryz.func116,Tryz.ntmps116;go_wp2_with fail;refine HST.out.mono ?_;rintro e w2 ⟨rfl,hb⟩;have hW:=HW.out;rw [hW]at hb;go_wp2_with fail;go_ret;exact⟨rfl,HB.out.trans (hb.mono HB.out.size)⟩
  have q1:(k==1)=false:=beq_eq_false_iff_ne.mpr k1;by_cases k14:k=14
  ·subst k14;have HT:Hid (ny 14 text false=decide (text∈opsL)):=hid (by show opsL.contains text= _;rw [List.contains_eq_mem]);rw [HT.out];clear hW k1 q1;have HB0:Hid (Below W.heap.size W W.drew):=hid (aJ W 1);have HO:=hid (QN W.drew (HX.out.below HB0.out));have HCC:=hid (fun v (w1:World) (h:Ss w1 w1.heap.size v opsL)=>lg v opsL text w1 h);clear HT OP HST;generalize decide (text∈opsL)=q at*
   go_enter Tryz.func116,Tryz.ntmps116;go_wp2_with fail;have hW:=HW.out;rw [hW];clear hW;refine wp_region_held_drew (S:=fun w'=>Below W.heap.size W w') (by kernel_rfl) HB0.out (fun _=> ?_)
   try simp only [Act.put,sq]
   refine tk 1 (.pointer (some ⟨w.heap.size,1,none⟩)) HB0.out ?_;refine oH 2 (sv text) (JW G1.out) HB0.out ?_;refine wpAnyH_ready (rs:=[0]) (by kernel_rfl) (by simp) ?_;refine AllReadyH.cons rfl (fun K hK=> ?_) (AllReadyH.nil);go_simp;refine HO.out.mono ?_;rintro e w2 ⟨v2,rfl,hss,hb⟩;have DL:=hid hss;have HB2:=hid (HB0.out.trans (hb.mono HB0.out.size));clear hb hss;refine hK.out _ _ HB2.out (fun _=> ?_);clear hK K
   try simp only [Act.put,sq]
   refine wpAnyH_ready (rs:=[3]) (by kernel_rfl) (by simp) ?_;refine AllReadyH.cons rfl (fun K hK=> ?_) (AllReadyH.nil);go_simp;refine(HCC.out _ _ DL.out).mono ?_;rintro e w3 ⟨rfl,rfl⟩;refine hK.out _ _ HB2.out (fun _=> ?_);clear hK K
   try simp only [Act.put,sq]
   refine tk 4 (.bool q) HB2.out ?_;refine wpAnyH_done (by kernel_rfl) ?_ _;go_wp2_with fail;go_ret;exact⟨rfl,HB.out.trans (HB2.out.mono HB.out.size)⟩
  have ZR:(k==14)=false:=beq_eq_false_iff_ne.mpr k14;have HT:Hid (ny k text false=(text==[])):=hid (by unfold ny;rw [if_neg (by simp),if_neg k1,if_neg k14]);rw [HT.out];clear hW k1 k14 OP HST HT;rw [←HW.out]at HB;cases hq:(text==[])with
  | true=>
   obtain rfl:text=[]:=by simpa using hq
   go_enter Tryz.func116,Tryz.ntmps116;go_wp2_with fail;go_ret;exact⟨rfl,HB.out⟩
  | false=>
   go_enter Tryz.func116,Tryz.ntmps116;go_wp2_with fail;go_ret;exact⟨rfl,HB.out⟩
theorem CP {P:Program} {fn:Func} {p:Tmp} {ty:TypeId} (h:fn.results= #[.cell p ty]) (tmps:Array Value) (w:World) (g:Nat) (t:TypeId) (cs:Array Value) (fr:Nat ×Nat) (d:TypeDesc)
  (hp:tmps.getD p undef= .pointer (some ⟨g,0,none⟩)) (hg:w.heap[g]? =some (.cells cs t fr))
  (hu:P.underlying ty=some d) (hd:(match d with | .struct _ | .array _ _=>true | _=>false)=true) (hi:(P.info? ty).map (·.size)=some cs.size):
  (results fn tmps).run P w= .ok (.agg cs) w:=by
 have hp':tmps[p]?.getD undef= .pointer (some ⟨g,0,none⟩):=by simpa using hp
 simp [results,h,hp',asAddr,run_loadVar_row w g t ty cs fr d hg hu hd hi,Result.andThen]
def sP:List Value:=[.bool false, .int .i64 0, .int .i64 0, .int .i64 0, .int .i64 9223372036854775807, .bool false, .int .i64 0, .int .i64 0, .int .i64 0, .int .i64 0, .bool false, .int .i64 0, .int .i64 0, .int .i64 0, .int .i64 1, .bool false, .int .i64 0, .int .i64 0, .int .i64 0, .int .i64 0, .bool true, .int .i64 0, .int .i64 0, .int .i64 0, .int .i64 0, .bool true, .int .i64 0, .int .i64 1, .int .i64 2, .int .i64 0, .bool true, .int .i64 1, .int .i64 2, .int .i64 1, .int .i64 0, .bool false, .int .i64 0, .int .i64 0, .int .i64 2, .int .i64 0, .bool false, .int .i64 0, .int .i64 0, .int .i64 (-1), .int .i64 0, .bool true, .int .i64 0, .int .i64 0, .int .i64 1, .int .i64 0, .bool true, .int .i64 0, .int .i64 0, .int .i64 2, .int .i64 0, .bool false, .int .i64 0, .int .i64 0, .int .i64 3, .int .i64 0, .bool false, .int .i64 0, .int .i64 0, .int .i64 1, .int .i64 5, .bool false, .int .i64 1, .int .i64 1, .int .i64 1, .int .i64 0, .bool false, .int .i64 0, .int .i64 0, .int .i64 2, .int .i64 0, .bool false, .int .i64 0, .int .i64 0, .int .i64 1, .int .i64 0, .bool false, .int .i64 0, .int .i64 0, .int .i64 1, .int .i64 0, .bool false, .int .i64 0, .int .i64 0, .int .i64 1, .int .i64 0, .bool false, .int .i64 0, .int .i64 0, .int .i64 0, .int .i64 0, .bool true, .int .i64 1, .int .i64 1048576, .int .i64 0, .int .i64 0]
theorem KF (w:World):Calls Tryz.prog 115 #[] w fun e w'=>e= .returned (.agg sP.toArray)∧Below w.heap.size w w':=by
 have hst:∀L:List Value,L=sP→(storeCells ⟨w.heap.size,0,none⟩ L 0).run Tryz.prog (w.alloc (.cells Tryz.zeroCells175 175))= .ok () (w.alloc (.cells sP.toArray 175)):=by
  intro L h;subst h;have:=run_storeCells_new (P:=Tryz.prog) w 175 Tryz.zeroCells175 sP.toArray (by kernel_rfl) (by kernel_rfl) (by kernel_rfl);simpa using this
 go_enter Tryz.func115,Tryz.ntmps115;go_wp2_with fail;rw [hst _ (by kernel_rfl)];clear hst;have hK:sP.toArray.size=100:=by kernel_rfl
 generalize hKL:sP.toArray=L at*
 go_wp2_with fail;refine bodyPost_ret (CP rfl _ _ w.heap.size _ _ _ _ rfl (heap_alloc_new w _) Tryz.underlying175 rfl (by rw [hK];kernel_rfl)) rfl ?_;exact⟨by rw [hKL],(Below.refl _ _).alloc (Nat.le_refl _) _⟩
def Oi (h:OV):Value:= .agg #[.bool h.name, .int .i64 h.low, .int .i64 h.types, .int .i64 h.kids, .int .i64 h.most]
theorem Fb (k:Int) (h0:0≤k) (h1:k<20) (u:World):(Instr.index 175 (.agg sP.toArray) (.int .i64 k)).run Tryz.prog u= .ok (Oi (dR k)) u:=by
 have h:k=0∨k=1∨k=2∨k=3∨k=4∨k=5∨k=6∨k=7∨k=8∨k=9∨k=10∨k=11∨k=12∨k=13∨k=14∨k=15∨k=16∨k=17∨k=18∨k=19:=by omega
 clear h0 h1;rcases h with rfl | rfl | rfl | rfl | rfl | rfl | rfl | rfl | rfl | rfl | rfl | rfl | rfl | rfl | rfl | rfl | rfl | rfl | rfl | rfl
 all_goals (show _= _;kernel_rfl)
theorem KG (w:World):Calls Tryz.prog 115 #[] w fun e w'=>(∃v,e= .returned v∧∀k:Int,0≤k→k<20→∀u,(Instr.index 175 v (.int .i64 k)).run Tryz.prog u= .ok (Oi (dR k)) u)∧Below w.heap.size w w':=
 (KF w).mono fun e w' h=>⟨⟨_,h.1,fun k h0 h1 u=>Fb k h0 h1 u⟩,h.2⟩
def Z4 (m:Nat):Prop:=∀(w:World) (z:List Value) (x:bX),rT w w.heap.size z x→OW x→jD w→
 Calls Tryz.prog 56 #[.agg z.toArray, .int .i64 m] w fun e w'=>e= .returned (.bool (dP m x))∧Below w.heap.size w w'
theorem Hl (m:Nat) (k:Int) (text:Bt) (n li co:Int) (ts:List bT) (ns:List Bt) (ks:List bX):dP (m+1) (.mk k text n li co ts ns ks)=
  (decide (0≤k∧k<20) && BL k text n ts.length ns.length ks.length && ns.all dS && ts.all (bf 16) && ks.all (dP m)):=rfl
theorem KH:Z4 0:=by
 intro w z x hr hok hX;have hw:dP 0 x=false:=rfl;rw [hw];obtain⟨k,s,n,l,o,A1,n1,c1,A2,n2,c2,A3,n3,c3,rfl⟩:=hr.shape;have HB:Hid (Below w.heap.size w (w.alloc (.cells #[.int .i64 k, .string s, .int .i64 n, .int .i64 l, .int .i64 o, .slice A1 n1 c1, .slice A2 n2 c2, .slice A3 n3 c3] 52))):=hid ((Below.refl _ _).alloc (Nat.le_refl _) _);clear hr hok hX hw;go_enter Tryz.func56,Tryz.ntmps56;go_wp2_with fail;go_ret;exact⟨rfl,HB.out⟩
def qD (k:Int) (names:Nat):Int:=if k<0 then names else k
theorem zN (k:Int) (text:Bt) (n:Int) (a b d:Nat):BL k text n a b d=(decide (0≤n∧n≤(dR k).most) && ny k text (dR k).name && decide ((dR k).low≤a∧a≤(dR k).types) && (decide ((dR k).kids<0∨b=0) && decide ((d:Int)=qD (dR k).kids b))):=by
 unfold BL qD;congr 1;by_cases h:(dR k).kids<0
 ·rw [if_pos h,if_pos h];by_cases h2:d=b
  ·subst h2;simp [h]
  ·have:¬(d:Int)=(b:Int):=by omega
   simp [h,h2,this]
 ·rw [if_neg h,if_neg h];by_cases h2:b=0
  ·subst h2;by_cases h3:(d:Int)=(dR k).kids
   ·simp [h3]
   ·simp [h3]
  ·simp [h,h2]
theorem qE {P:Program} {ops:Array Oper} {o:Oper} {a:Act} {w:World} {K:Act→World→Prop} {Q:Exit→Act→World→Prop} {E:Prop} (hgd:o.guard=none) (ty:TypeId) (x y:Operand) (ho:o.op= .store ty x y)
  (g:Nat) (cells:Array Value) (hx:a.eval x= .pointer (some ⟨g,0,none⟩)) (hy:a.eval y= .agg cells)
  (t:TypeId) (old:Array Value) (hg:w.heap[g]? =some (.cells old t (0,0))) (hi:(P.info? ty).map (·.size)=some cells.size)
  (hold:old.size=cells.size) (h1:cells.all (·.oneCell')=true) (h:K (a.put o.dst undef) (w.setRow g cells)):
  if Region.wanted o (yielded ops a.tmps)=true then Oper.wp P o a w K Q else E:=by
 have hw:Region.wanted o (yielded ops a.tmps)=true:=by simp [Region.wanted,hgd]
 rw [if_pos hw];exact wp_store_row ty x y ho g cells hx hy t old hg hi hold h1 h
theorem KI (m:Nat) (hm:m≤40) (ih:Z4 m):Z4 (m+1):=by
 intro w z x hr hok hX;obtain⟨k,text,n,li,co,ts,ns,ks⟩:=x;rw [OW]at hok;obtain⟨ok1,QG,NS,SC,Za,VQ,VR,SH⟩:=hok;obtain⟨A1,c1,A2,c2,A3,c3,xt,xk,rfl,s1,r1,s2,s3,r3⟩:=hr.parts;have l1:=(eF s1).2;have l2:=(eF s2).2;have l3:=(eF s3).2;have Jh:=Hl m k text n li co ts ns ks;rw [zN]at Jh;obtain⟨res,hres⟩:∃res,dP (m+1) (.mk k text n li co ts ns ks)=res:=⟨_,rfl⟩
 rw [hres]at Jh ⊢;clear hres hr;obtain⟨W,hW⟩:∃W,w.alloc (.cells #[.int .i64 k,sv text, .int .i64 n, .int .i64 li, .int .i64 co, .slice A1 ts.length c1, .slice A2 ns.length c2, .slice A3 ks.length c3] 52)=W:=⟨_,rfl⟩
 have hb1:Below w.heap.size w W:=by rw [←hW];exact(Below.refl _ _).alloc (Nat.le_refl _) _
 have hbx:W.heap[w.heap.size]? =some (.cells #[.int .i64 k,sv text, .int .i64 n, .int .i64 li, .int .i64 co, .slice A1 ts.length c1, .slice A2 ns.length c2, .slice A3 ks.length c3] 52 (0,0)):=by rw [←hW];exact heap_alloc_new w _
 have HX:=hid (hX.below hb1);have Ir:=hid (And.intro (Sl.more (Sl.below s1 hb1) hb1.size) ((r1.keep hb1).more hb1.size));have HKK:=hid (And.intro (Sl.more (Sl.below s3 hb1) hb1.size) ((r3.keep hb1).more hb1.size));have hs2:=Sl.more (Sl.below s2 hb1) hb1.size;have OP:=hid (fun wr (h:Below W.heap.size W wr)=>zG _ ns wr (Sl.more (Sl.below hs2 h) h.size) VR (HX.out.below h));have Zb:=hid (fun wr (h:Below W.heap.size W wr) (b:Bool) (a1 a2 a3 a4:Int)=>Oh wr k text n li co A1 ts.length c1 A2 ns.length c2 A3 ks.length c3 QG (HX.out.below h) b a1 a2 a3 a4);have HOT:=hid VQ;have Io:=hid (tL.1 SH);have QF:=hid ih;have RV:=hid (wN 16 (by omega));have xW:=hid hbx;have HB1:=hid hb1;have Ho:=hid Jh;have Bw:=hid hW;have Fe:=NS;clear s1 r1 s2 s3 r3 ok1 QG NS SC Za VQ VR SH hX ih hb1 hbx Jh hs2 hW;obtain⟨a,hA⟩:∃a,ts.length=a:=⟨_,rfl⟩
 obtain⟨b,hB⟩:∃b,ns.length=b:=⟨_,rfl⟩
 obtain⟨d,hD⟩:∃d,ks.length=d:=⟨_,rfl⟩
 rw [hA]at l1 Ir Zb xW Bw Ho ⊢;rw [hB]at l2 OP Zb xW Bw Ho ⊢;rw [hD]at l3 HKK Zb xW Bw Ho ⊢;have HA:=hid hA;have HD:=hid hD;clear hA hB hD;have hm0:(((m:Int)+1)==0)=false:=by rw [beq_eq_false_iff_ne];omega
 have hm1:(((m+1:Nat):Int)==0)=false:=by rw [beq_eq_false_iff_ne];omega
 generalize ns.all dS=q at*
 by_cases h0:k<0
 ·have g4:decide (k<0)=true:=by simpa using h0
  have HF:Hid (res=false):=hid (by rw [Ho.out,decide_eq_false (by omega:¬(0≤k∧k<20))];rfl);clear h0 Fe;go_enter Tryz.func56,Tryz.ntmps56;go_wp2_with fail;go_ret;refine⟨by rw [HF.out];rfl, ?_⟩;rw [Bw.out];exact HB1.out
 have g4:decide (k<0)=false:=by simpa using h0
 by_cases h20:20≤k
 ·have g5:decide (20≤k)=true:=by simpa using h20
  have HF:Hid (res=false):=hid (by rw [Ho.out,decide_eq_false (by omega:¬(0≤k∧k<20))];rfl);clear h0 h20 Fe;go_enter Tryz.func56,Tryz.ntmps56;go_wp2_with fail;go_ret;refine⟨by rw [HF.out];rfl, ?_⟩;rw [Bw.out];exact HB1.out
 have g5:decide (20≤k)=false:=by simpa using h20
 have Z5:Hid (res=(decide (0≤n∧n≤(dR k).most) && ny k text (dR k).name && decide ((dR k).low≤a∧a≤(dR k).types) && (decide ((dR k).kids<0∨b=0) && decide ((d:Int)=qD (dR k).kids b)) && q && ts.all (bf 16) && ks.all (dP m))):=hid (by rw [Ho.out,decide_eq_true (by omega:0≤k∧k<20),Bool.true_and]);have Ru:=hid (fun w1=>(KG w1).mono fun e w' (h: _∧ _)=>(⟨h.1.imp fun v hv=>⟨hv.1,hv.2 k (by omega) (by omega)⟩,h.2⟩:(∃v,e= .returned v∧∀u,(Instr.index 175 v (.int .i64 k)).run Tryz.prog u= .ok (Oi (dR k)) u)∧Below w1.heap.size w1 w'));have ac6:=hid Fe;clear h0 h20 Ho Fe;go_enter Tryz.func56,Tryz.ntmps56
 go_upto_region 3 with(fail)
 have hW:=Bw.out;rw [hW];clear hW hm0 hm1 g4 g5
 go_cut [5]from 10 (fun v5 wc=>∃b5,v5= .pointer (some ⟨b5,0,none⟩)∧W.heap.size≤b5∧wc.heap[b5]? =some (.cells #[.bool (dR k).name, .int .i64 ((dR k).low:Int), .int .i64 ((dR k).types:Int), .int .i64 (dR k).kids, .int .i64 (dR k).most] 174 (0,0))∧Below W.heap.size W wc)
 case first=>
  obtain⟨g0, _⟩:=jB xW.out;have G0:=hid g0;clear g0;have HB0:Hid (Below W.heap.size W W.drew):=hid (aJ W 1);refine wp_region_held_drew (S:=fun w'=>Below W.heap.size W w') (by kernel_rfl) HB0.out (fun _=> ?_)
  try simp only [Act.put,sq]
  refine tk 1 (.pointer (some ⟨w.heap.size,0,none⟩)) HB0.out ?_;refine oH 2 (.int .i64 k) (JW G0.out) HB0.out ?_;refine wpAnyH_ready (rs:=[0,4]) (by kernel_rfl) (by simp) ?_;refine AllReadyH.cons rfl (fun K hK=> ?_) (AllReadyH.cons rfl (fun K hK=> ?_) AllReadyH.nil)
  ·go_simp;refine(Ru.out _).mono ?_;rintro e w2 ⟨⟨v,rfl,hix⟩,hb⟩;have HB2:=hid (HB0.out.trans (hb.mono HB0.out.size));have HIX:=hid hix;clear hb hix;refine hK.out _ _ HB2.out (fun _=> ?_);clear hK K
   try simp only [Act.put,sq]
   refine wpAnyH_take (i:=3) (v:=(Oi (dR k))) rfl (by kernel_rfl) (by kernel_rfl) (by kernel_rfl) (fun _ _ _ h=>h) (Or.inl ⟨by kernel_rfl,by intro w' hSw;have hix:=HIX.out;go_simp⟩) HB2.out ?_
   try simp only [Act.put,sq]
   refine wpAnyH_ready (rs:=[4]) (by kernel_rfl) (by simp) ?_;refine AllReadyH.cons rfl (fun K hK=> ?_) (AllReadyH.nil);go_simp;have HB3:=hid (HB2.out.alloc HB2.out.size (.cells #[.bool false, .int .i64 0, .int .i64 0, .int .i64 0, .int .i64 0] 174));have hzz:=heap_alloc_new w2 (.cells #[.bool false, .int .i64 0, .int .i64 0, .int .i64 0, .int .i64 0] 174);refine hK.out _ _ HB3.out (fun _=> ?_);clear hK K
   try simp only [Act.put,sq]
   refine wpAnyH_ready (rs:=[5]) (by kernel_rfl) (by simp) ?_;refine AllReadyH.cons rfl (fun K hK=> ?_) AllReadyH.nil;refine qE rfl _ _ _ rfl w2.heap.size #[.bool (dR k).name, .int .i64 ((dR k).low:Int), .int .i64 ((dR k).types:Int), .int .i64 (dR k).kids, .int .i64 (dR k).most] rfl rfl _ _ hzz (by kernel_rfl) rfl (by simp [Value.oneCell']) ?_;have Oj:=setRow_heap _ w2.heap.size _ #[.bool (dR k).name, .int .i64 ((dR k).low:Int), .int .i64 ((dR k).types:Int), .int .i64 (dR k).kids, .int .i64 (dR k).most] _ _ hzz;have UA:=hid (below_setRow HB3.out HB2.out.size #[.bool (dR k).name, .int .i64 ((dR k).low:Int), .int .i64 ((dR k).types:Int), .int .i64 (dR k).kids, .int .i64 (dR k).most]);have HZ2:=hid Oj;clear hzz Oj;refine hK.out _ _ UA.out (fun _=> ?_);clear hK K
   try simp only [Act.put,sq]
   refine wpAnyH_done (by kernel_rfl) ?_ _;go_wp2_with fail
   go_meet
   case rel=>exact⟨_,rfl,HB2.out.size,HZ2.out,UA.out⟩
  ·go_simp;have HB3:=hid (HB0.out.alloc HB0.out.size (.cells #[.bool false, .int .i64 0, .int .i64 0, .int .i64 0, .int .i64 0] 174));refine hK.out _ _ HB3.out (fun _=> ?_);clear hK K
   try simp only [Act.put,sq]
   refine wpAnyH_ready (rs:=[0]) (by kernel_rfl) (by simp) ?_;refine AllReadyH.cons rfl (fun K hK=> ?_) AllReadyH.nil;go_simp;refine(Ru.out _).mono ?_;rintro e w2 ⟨⟨v,rfl,hix⟩,hb⟩;have hzz:=(hb.block _ (block_lt (heap_alloc_new W.drew (.cells #[.bool false, .int .i64 0, .int .i64 0, .int .i64 0, .int .i64 0] 174)))).trans (heap_alloc_new W.drew (.cells #[.bool false, .int .i64 0, .int .i64 0, .int .i64 0, .int .i64 0] 174));have uM:=hid (HB3.out.trans (hb.mono HB3.out.size));have HIX:=hid hix;clear hb hix;refine hK.out _ _ uM.out (fun _=> ?_);clear hK K
   try simp only [Act.put,sq]
   refine wpAnyH_take (i:=3) (v:=(Oi (dR k))) rfl (by kernel_rfl) (by kernel_rfl) (by kernel_rfl) (fun _ _ _ h=>h) (Or.inl ⟨by kernel_rfl,by intro w' hSw;have hix:=HIX.out;go_simp⟩) uM.out ?_
   try simp only [Act.put,sq]
   refine wpAnyH_ready (rs:=[5]) (by kernel_rfl) (by simp) ?_;refine AllReadyH.cons rfl (fun K hK=> ?_) AllReadyH.nil;refine qE rfl _ _ _ rfl W.heap.size #[.bool (dR k).name, .int .i64 ((dR k).low:Int), .int .i64 ((dR k).types:Int), .int .i64 (dR k).kids, .int .i64 (dR k).most] rfl rfl _ _ hzz (by kernel_rfl) rfl (by simp [Value.oneCell']) ?_;have Oj:=setRow_heap _ W.heap.size _ #[.bool (dR k).name, .int .i64 ((dR k).low:Int), .int .i64 ((dR k).types:Int), .int .i64 (dR k).kids, .int .i64 (dR k).most] _ _ hzz;have UA:=hid (below_setRow uM.out (Nat.le_refl _) #[.bool (dR k).name, .int .i64 ((dR k).low:Int), .int .i64 ((dR k).types:Int), .int .i64 (dR k).kids, .int .i64 (dR k).most]);have HZ2:=hid Oj;clear hzz Oj;refine hK.out _ _ UA.out (fun _=> ?_);clear hK K
   try simp only [Act.put,sq]
   refine wpAnyH_done (by kernel_rfl) ?_ _;go_wp2_with fail
   go_meet
   case rel=>exact⟨_,rfl,(Nat.le_refl _),HZ2.out,UA.out⟩
 case rest=>
  obtain⟨b5,rfl,hb5,hrow,hbw⟩:=hcut;generalize(dR k).name=hn at*
  generalize(dR k).low=lo at*
  generalize(dR k).types=hi at*
  generalize(dR k).kids=kd at*
  generalize(dR k).most=mo at*
  have dV:=hid hrow;have jY:=hid hbw;clear Ru hrow hbw
  go_upto_block 0 with(fail)
  obtain⟨kv,hkv⟩:∃kv,qD kd b=kv:=⟨_,rfl⟩
  rw [hkv]at Z5;have HKV:=hid hkv;clear hkv
  go_cut [5]from 10 (fun v5 wc=>v5= .pointer (some ⟨b5,0,none⟩)∧(kd<0∨b=0)∧wc.heap[b5]? =some (.cells #[.bool hn, .int .i64 lo, .int .i64 hi, .int .i64 kv, .int .i64 mo] 174 (0,0))∧Below W.heap.size W wc)
  case first=>
   obtain⟨e0,e1,e2,e3,e4⟩:=CK dV.out;have f3:=bg dV.out 3;obtain⟨p0,p1,p2,p3,p4,p5,p6,p7⟩:=jB ((jY.out.block _ (block_lt xW.out)).trans xW.out);clear e0 e1 e2 e4 p0 p1 p2 p3 p4 p5 p7;by_cases hk:kd<0
   ·have g1:decide (kd<0)=true:=by simpa using hk
    have HV:Hid (kv=(b:Int)):=hid (by rw [←HKV.out];unfold qD;rw [if_pos hk]);have Ec:=hid hk;clear hk;go_wp2_with fail
    go_meet
    case rel=>
     refine⟨rfl, .inl Ec.out, ?_,jY.out.trans ((ak wc b5 3 (.int .i64 b)).below jY.out.size (fun j hj e=>by omega))⟩;rw [HV.out];exact heap_setCell_same wc b5 3 _ _ _ dV.out
   ·have g1:decide (kd<0)=false:=by simpa using hk
    have HV:Hid (kv=kd):=hid (by rw [←HKV.out];unfold qD;rw [if_neg hk]);have Ec:=hid hk;clear hk;by_cases hb0:0<b
    ·have g2:decide ((0:Int)<(b:Int))=true:=by simp;omega
     have HF:Hid (res=false):=hid (by rw [Z5.out,decide_eq_false (by have:=Ec.out;omega:¬(kd<0∨b=0))];simp);go_wp2_with fail;go_ret;refine⟨by rw [HF.out];rfl,HB1.out.trans (jY.out.mono HB1.out.size)⟩
    ·have g2:decide ((0:Int)<(b:Int))=false:=by simp;omega
     have ac9:Hid (b=0):=hid (by omega);go_wp2_with fail
     go_meet
     case rel=>
      refine⟨rfl, .inr ac9.out, ?_,jY.out⟩;rw [HV.out];exact dV.out
  case rest=>
   rename_i wc0
   clear dV jY HKV;obtain⟨rfl,hkb,hrow,hbw⟩:=hcut;have HRR:Hid (res=(decide (0≤n∧n≤mo) && ny k text hn && decide (lo≤a∧a≤hi) && decide ((d:Int)=kv) && q && ts.all (bf 16) && ks.all (dP m))):=hid (by rw [Z5.out,decide_eq_true hkb,Bool.true_and]);have Kv:=hid (Zb.out wc hbw hn lo hi kv mo);have dV:=hid hrow;have jY:=hid hbw;obtain⟨e0,e1,e2,e3,e4⟩:=CK hrow;obtain⟨p0,p1,p2,p3,p4,p5,p6,p7⟩:=jB ((hbw.block _ (block_lt xW.out)).trans xW.out);clear Zb Z5 hkb hrow hbw;generalize ny k text hn=tb at*
   by_cases n0:n<0
   ·have g1:decide (n<0)=true:=by simpa using n0
    have HF:Hid (res=false):=hid (by rw [HRR.out,decide_eq_false (by omega:¬(0≤n∧n≤mo))];simp);clear n0;go_wp2_with fail;go_ret;refine⟨by rw [HF.out];rfl,HB1.out.trans (jY.out.mono HB1.out.size)⟩
   have g1:decide (n<0)=false:=by simpa using n0
   by_cases n1:mo<n
   ·have g2:decide (mo<n)=true:=by simpa using n1
    have HF:Hid (res=false):=hid (by rw [HRR.out,decide_eq_false (by omega:¬(0≤n∧n≤mo))];simp);clear n0 n1;go_wp2_with fail;go_ret;refine⟨by rw [HF.out];rfl,HB1.out.trans (jY.out.mono HB1.out.size)⟩
   have g2:decide (mo<n)=false:=by simpa using n1
   have Iw:Hid (res=(tb && decide (lo≤a∧a≤hi) && decide ((d:Int)=kv) && q && ts.all (bf 16) && ks.all (dP m))):=hid (by rw [HRR.out,decide_eq_true (by omega:0≤n∧n≤mo),Bool.true_and]);clear HRR n0 n1;go_wp2_with fail;refine Kv.out.mono ?_;rintro e w3 ⟨rfl,hb3⟩;have nV:=jY.out.trans (hb3.mono jY.out.size);have hrow3:=(hb3.block _ (block_lt dV.out)).trans dV.out;have HB3:=hid nV;have nO:=hid hrow3;have HNW:=hid (OP.out w3 nV);clear e0 e1 e2 e3 e4 p0 p1 p2 p3 p4 p5 p6 p7 hb3;obtain⟨e0,e1,e2,e3,e4⟩:=CK hrow3;obtain⟨p0,p1,p2,p3,p4,p5,p6,p7⟩:=jB ((nV.block _ (block_lt xW.out)).trans xW.out);clear nV hrow3 OP Kv jY dV;cases tb with
   | false=>
    have HF:Hid (res=false):=hid (by rw [Iw.out];simp);go_wp2_with fail;go_ret;refine⟨by rw [HF.out];rfl,HB1.out.trans (HB3.out.mono HB1.out.size)⟩
   | true=>
    go_wp2_with fail;refine HNW.out.mono ?_;rintro e w4 ⟨rfl,hb4⟩;have KJ:=HB3.out.trans (hb4.mono HB3.out.size);have hrow4:=(hb4.block _ (block_lt nO.out)).trans nO.out;have uM:=hid KJ;clear e0 e1 e2 e3 e4 p0 p1 p2 p3 p4 p5 p6 p7 hb4;obtain⟨e0,e1,e2,e3,e4⟩:=CK hrow4;obtain⟨p0,p1,p2,p3,p4,p5,p6,p7⟩:=jB ((KJ.block _ (block_lt xW.out)).trans xW.out);clear KJ hrow4 HNW HB3 nO;cases q with
    | false=>
     have HF:Hid (res=false):=hid (by rw [Iw.out];simp);go_wp2_with fail;go_ret;refine⟨by rw [HF.out];rfl,HB1.out.trans (uM.out.mono HB1.out.size)⟩
    | true=>
     by_cases h1:a<lo
     ·have g3:decide ((a:Int)<(lo:Int))=true:=by simp;omega
      have HF:Hid (res=false):=hid (by rw [Iw.out,decide_eq_false (by omega:¬(lo≤a∧a≤hi))];simp);go_wp2_with fail;go_ret;refine⟨by rw [HF.out];rfl,HB1.out.trans (uM.out.mono HB1.out.size)⟩
     have g3:decide ((a:Int)<(lo:Int))=false:=by simp;omega
     by_cases h2:hi<a
     ·have g4:decide ((hi:Int)<(a:Int))=true:=by simp;omega
      have HF:Hid (res=false):=hid (by rw [Iw.out,decide_eq_false (by omega:¬(lo≤a∧a≤hi))];simp);go_wp2_with fail;go_ret;refine⟨by rw [HF.out];rfl,HB1.out.trans (uM.out.mono HB1.out.size)⟩
     have g4:decide ((hi:Int)<(a:Int))=false:=by simp;omega
     by_cases h3:(d:Int)=kv
     ·have HRT:Hid (res=(ts.all (bf 16) && ks.all (dP m))):=hid (by rw [Iw.out,decide_eq_true (by omega:lo≤a∧a≤hi),decide_eq_true h3];simp);have g5:((d:Int) != kv)=false:=by rw [bne_eq_false_iff_eq];exact h3
      clear h3 Iw;go_wp2_with fail;clear e0 e1 e2 e3 e4 p0 p1 p2 p3 p4 p5 p6 p7 g1 g2 g3 g4 g5 h1 h2;go_loopw [88] (fun v88 wr=>∃i:Nat,v88= .int .i64 i∧i≤a∧(ts.take i).all (bf 16)=true∧Below W.heap.size W wr) (fun v88 _=>a - (intOf v88).toNat)
      case atStart=>exact⟨0,rfl,by omega,rfl,uM.out⟩
      case round=>
       obtain⟨i,rfl,hi_,hinv,hbr⟩:=hrel;have HI:=hid hinv;have HB:=hid hbr;clear hinv;by_cases hlt:i<a
       ·have hil:i<ts.length:=by rw [HA.out];exact hlt
        obtain⟨b2,o2,kk,ss,A5,n5,c5,A6,n6,c6,rfl,hr1,e0,e1,e2,e3⟩:=CJ (Sl.more (Sl.below Ir.out.1 hbr) hbr.size) ((Ir.out.2.keep hbr).more hbr.size) hil HA.out.symm;obtain⟨wA,Fg⟩:∃wA,wr.alloc (.cells #[.int .i64 kk, .string ss, .slice A5 n5 c5, .slice A6 n6 c6] 57)=wA:=⟨_,rfl⟩
        have Fh:Below wr.heap.size wr wA:=by rw [←Fg];exact(Below.refl _ _).alloc (Nat.le_refl _) _
        have HC:=hid (RV.out wA _ ts[i] (hr1.far (Nat.le_refl _) Fh) (HOT.out _ (List.getElem_mem hil)) ((HX.out.below hbr).below Fh));have Ac:=hid Fh;have Zc:=hid Fg;have hst:=zF hil;rw [←Fg]at HC;clear hbr hr1 Fh Fg;cases hq:bf 16 ts[i]with
        | false=>
         have hall:ts.all (bf 16)=false:=by
          cases h:ts.all (bf 16)with
          | false=>rfl
          | true=>rw [List.all_eq_true]at h;rw [h _ (List.getElem_mem hil)]at hq;cases hq
         have HF:Hid (res=false):=hid (by rw [HRT.out,hall];simp);rw [hq]at HC;clear hq hst hall;generalize ts[i]=X at*
         go_wp2_with fail;refine HC.out.mono ?_;rintro e w5 ⟨rfl,hb⟩;rw [Zc.out]at hb;have Ck:=hid (HB.out.trans ((Ac.out.trans (hb.mono Ac.out.size)).mono HB.out.size));clear hb e0 e1 e2 e3;go_wp2_with fail;go_ret;refine⟨by rw [HF.out];rfl,HB1.out.trans (Ck.out.mono HB1.out.size)⟩
        | true=>
         have HST:Hid ((ts.take (i+1)).all (bf 16)=true):=hid (by rw [hst,List.all_append,HI.out];simp [hq]);rw [hq]at HC;clear hq hst;generalize ts[i]=X at*
         go_wp2_with fail;refine HC.out.mono ?_;rintro e w5 ⟨rfl,hb⟩;rw [Zc.out]at hb;have Ck:=hid (HB.out.trans ((Ac.out.trans (hb.mono Ac.out.size)).mono HB.out.size));clear hb e0 e1 e2 e3;go_wp2_with fail
         go_roundw
         case rel=>exact⟨i+1,rfl,by omega,HST.out,Ck.out⟩
         case measure=>simp [intOf];omega
       ·obtain rfl:i=a:=by omega
        have HRU:Hid (res=ks.all (dP m)):=hid (by
         have h:=HI.out;rw [List.take_of_length_le (by rw [HA.out];omega)]at h;rw [HRT.out,h,Bool.true_and])
        obtain⟨p0,p1,p2,p3,p4,p5,p6,p7⟩:=jB ((hbr.block _ (block_lt xW.out)).trans xW.out);clear hlt hbr HI HRT;go_wp2_with fail;clear p0 p1 p2 p3 p4 p5 p6 p7;go_loopw [99] (fun v99 wr=>∃i:Nat,v99= .int .i64 i∧i≤d∧(ks.take i).all (dP m)=true∧Below W.heap.size W wr) (fun v99 _=>d - (intOf v99).toNat)
        case atStart=>exact⟨0,rfl,by omega,rfl,HB.out⟩
        case round=>
         obtain⟨j,rfl,hj_,SI,nU⟩:=hrel;have HI2:=hid SI;have HB2:=hid nU;clear SI;by_cases hlt:j<d
         ·have hil:j<ks.length:=by rw [HD.out];exact hlt
          obtain⟨b2,o2,kk,ss,y2,y3,y4,A5,n5,c5,A6,n6,c6,A7,n7,c7,rfl,hr1,e0,e1,e2,e3,e4,e5,e6,e7⟩:=yu (Sl.more (Sl.below HKK.out.1 nU) nU.size) ((HKK.out.2.keep nU).more nU.size) hil HD.out.symm;obtain⟨wA,Fg⟩:∃wA,wr.alloc (.cells #[.int .i64 kk, .string ss, .int .i64 y2, .int .i64 y3, .int .i64 y4, .slice A5 n5 c5, .slice A6 n6 c6, .slice A7 n7 c7] 52)=wA:=⟨_,rfl⟩
          have Fh:Below wr.heap.size wr wA:=by rw [←Fg];exact(Below.refl _ _).alloc (Nat.le_refl _) _
          have HC:=hid (QF.out wA _ ks[j] (hr1.far (Nat.le_refl _) Fh) (Io.out _ (List.getElem_mem hil)) ((HX.out.below nU).below Fh));have Ac:=hid Fh;have Zc:=hid Fg;have hst:=zF hil;rw [←Fg]at HC;clear nU hr1 Fh Fg;cases hq:dP m ks[j]with
          | false=>
           have hall:ks.all (dP m)=false:=by
            cases h:ks.all (dP m)with
            | false=>rfl
            | true=>rw [List.all_eq_true]at h;rw [h _ (List.getElem_mem hil)]at hq;cases hq
           have HF:Hid (res=false):=hid (by rw [HRU.out,hall]);rw [hq]at HC;clear hq hst hall;generalize ks[j]=X at*
           go_wp2_with fail;refine HC.out.mono ?_;rintro e w5 ⟨rfl,hb⟩;rw [Zc.out]at hb;have Ck:=hid (HB2.out.trans ((Ac.out.trans (hb.mono Ac.out.size)).mono HB2.out.size));clear hb e0 e1 e2 e3 e4 e5 e6 e7;go_wp2_with fail;go_ret;refine⟨by rw [HF.out];rfl,HB1.out.trans (Ck.out.mono HB1.out.size)⟩
          | true=>
           have HST:Hid ((ks.take (j+1)).all (dP m)=true):=hid (by rw [hst,List.all_append,HI2.out];simp [hq]);rw [hq]at HC;clear hq hst;generalize ks[j]=X at*
           go_wp2_with fail;refine HC.out.mono ?_;rintro e w5 ⟨rfl,hb⟩;rw [Zc.out]at hb;have Ck:=hid (HB2.out.trans ((Ac.out.trans (hb.mono Ac.out.size)).mono HB2.out.size));clear hb e0 e1 e2 e3 e4 e5 e6 e7;go_wp2_with fail
           go_roundw
           case rel=>exact⟨j+1,rfl,by omega,HST.out,Ck.out⟩
           case measure=>simp [intOf];omega
         ·obtain rfl:j=d:=by omega
          have HF:Hid (res=true):=hid (by
           have h:=HI2.out;rw [List.take_of_length_le (by rw [HD.out];omega)]at h;rw [HRU.out,h])
          clear nU hlt;go_wp2_with fail;go_ret;refine⟨by rw [HF.out];rfl,HB1.out.trans (HB2.out.mono HB1.out.size)⟩
     ·have HF:Hid (res=false):=hid (by rw [Iw.out,decide_eq_false h3];simp);have g5:((d:Int) != kv)=true:=by rw [bne_iff_ne];exact h3
      clear h3;go_wp2_with fail;go_ret;refine⟨by rw [HF.out];rfl,HB1.out.trans (uM.out.mono HB1.out.size)⟩
theorem Fj:∀m:Nat,m≤41→Z4 m
 | 0, _=>KH
 | m+1,h=>KI m (by omega) (Fj m (by omega))
def Zd (x:bX):Prop:=∀(w:World) (z:List Value) (m:Nat),rT w w.heap.size z x→OW x→dP m x=true→zI x≤300000→jD w→
 Calls Tryz.prog 57 #[.agg z.toArray] w fun e w'=>e= .returned (sv (nC x))∧Below w.heap.size w w'
end Go.Proofs.YtfgjkmipfikooaaGreatDoor
