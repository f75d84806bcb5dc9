/- GK, GL, TL, UM, GM, GN, UI, UN -/
import Derived.Test.YtmbppnbekkbibaaGreatDoorPB16
import Derived.Test.YtmbppnbekkbibaaGreatDoorPB02
import Derived.Lib.Join
import Derived.Lib.ItoaLen
import Derived.Test.YtmbppnbekkbibaaGreatDoorPB05
import Derived.Deep.RegionHeld
import Derived.Test.YtmbppnbekkbibaaGreatDoorPB01
import Derived.Lib.OthersKept
import Derived.Lib.TrimU
import Derived.Test.YtmbppnbekkbibaaGreatDoorPB03
import Derived.Deep.LoopGhost
import Derived.Shelf.Strings.IndexFuncSpace
import Derived.Test.YtmbppnbekkbibaaGreatDoorProg
import Derived.Deep.WholeRow
import Derived.Deep.Cut
import Derived.Deep.CutBlock
import Derived.IntWalk
set_option linter.unusedSimpArgs false
set_option linter.unusedVariables false
section
set_option linter.unusedVariables false
namespace Go.Proofs.YtmbppnbekkbibaaGreatDoor
mutual
def jR:bO→Nat
 | .mk _ _ _ ks=>1+dR ks
def dR:List bO→Nat
 | []=>0
 | t :: l=>jR t+dR l
end
def iE (l:List Bt):Nat:=(l.map List.length).sum
theorem iO (x:Bt) (l:List Bt):iE (x :: l)=x.length+iE l:=by simp [iE]
theorem nu (sep:Bt):∀l:List Bt,(rO sep l).length≤iE l+sep.length*l.length
 | []=>by simp [rO]
 | [x]=>by simp [rO,iE]
 | x :: y :: l=>by
  have h:=nu sep (y :: l)
  rw [rO,List.length_append,List.length_append,iO,List.length_cons,Nat.mul_succ]
  omega
theorem nA {s:Bt} (h:eu s=true):s.length≤32:=by
 rcases Nat.lt_or_ge 32 s.length with h1 | h1
 ·rw [yC h1]at h;cases h
 ·exact h1
theorem uJ:∀(ns l:List Bt),(∀n∈ns,n.length≤32)→iE (List.zipWith nE ns l)≤iE l+34*l.length
 | [],l, _=>by simp [iE]
 | n :: ns,[], _=>by simp [iE]
 | n :: ns,x :: l,h=>by
  have h1:=uJ ns l fun y hy=>h y (List.mem_cons_of_mem _ hy)
  have h2:=h n (List.mem_cons_self ..)
  rw [List.zipWith_cons_cons,iO,iO,List.length_cons]
  have h3:(nE n x).length=n.length+(2+x.length):=by unfold nE;simp only [List.length_append,List.length_cons,List.length_nil]
  omega
theorem Bh {α β γ:Type} (f:α→β→γ):∀(a:List α) (b:List β),(List.zipWith f a b).length≤b.length
 | [],b=>by simp
 | x :: a,[]=>by simp
 | x :: a,y :: b=>by rw [List.length_zipWith];omega
theorem yG (ks:List Int) (k:Int) (s:Bt):(qF ks k s).length≤s.length+2:=by
 unfold qF
 split
 ·simp
 ·omega
theorem zY (kk:List Int):∀(ks:List Int) (l:List Bt),iE (List.zipWith (qF kk) ks l)≤iE l+2*l.length
 | [],l=>by simp [iE]
 | k :: ks,[]=>by simp [iE]
 | k :: ks,x :: l=>by
  have h1:=zY kk ks l
  have h2:=yG kk k x
  rw [List.zipWith_cons_cons,iO,iO,List.length_cons]
  omega
theorem Dn (l:List Bt) (i:Nat):(l.getD i []).length≤iE l:=by
 induction l generalizing i with
 | nil=>simp [iE]
 | cons x l ih=>
  rw [iO]
  cases i with
  | zero=>simp
  | succ i=>have:=ih i;simp only [List.getD_cons_succ];omega
theorem M5 (l:List Bt):(l.getD 0 []).length+(l.getD 1 []).length≤iE l:=by
 match l with
 | []=>simp [iE]
 | [x]=>simp [iE]
 | x :: y :: l=>simp [iE]
theorem zq (l:List bO):(fJ l).length=l.length:=by rw [qG,List.length_map]
mutual
theorem Lf:∀(t:bO) (m:Nat),bH m t=true→(rP t).length+44≤80*jR t
 | .mk k nm ns ks,m,h=>by
  obtain⟨m,rfl⟩:∃q,m=q+1:=by
   cases m with
   | zero=>cases h
   | succ q=>exact⟨q,rfl⟩
  have h:(ns.all eu && ks.all (bH m) && eG k nm ns.length ks.length)=true:=h
  rw [Bool.and_eq_true,Bool.and_eq_true]at h
  obtain⟨⟨h1,h2⟩,h3⟩:=h
  have hn:∀n∈ns,n.length≤32:=fun n hn=>nA (List.all_eq_true.1 h1 n hn)
  have hk:=pY ks m h2
  have hl:=zq ks
  rw [rP,jR]
  split
  ·simp;omega
  split
  ·simp;omega
  split
  ·simp;omega
  split
  ·simp;omega
  split
  ·simp;omega
  split
  ·have a1:=nu [44,32] (List.zipWith nE ns (fJ ks))
   have a2:=uJ ns (fJ ks) hn
   have a3:=Bh nE ns (fJ ks)
   simp only [List.length_append,List.length_cons,List.length_nil]at a1 ⊢
   omega
  split
  ·have a1:=yG [6] ((ks.map bO.kind).getD 0 0) ((fJ ks).getD 0 [])
   have a2:=M5 (fJ ks)
   simp only [List.length_append,List.length_cons,List.length_nil]
   omega
  split
  ·have a1:=nu [32,124,32] (List.zipWith (qF [6,7]) (ks.map bO.kind) (fJ ks))
   have a2:=zY [6,7] (ks.map bO.kind) (fJ ks)
   have a3:=Bh (qF [6,7]) (ks.map bO.kind) (fJ ks)
   simp only [List.length_append,List.length_cons,List.length_nil]at a1 ⊢
   omega
  ·have hnm:nm.length≤32:=by
    unfold eG at h3
    split at h3
    ·rw [Bool.and_eq_true]at h3
     exact nA h3.2
    ·split at h3
     ·cases h3
     ·rename_i h4
      have:nm=[]:=by
       rcases nm with _ | ⟨c,r⟩
       ·rfl
       ·exact absurd (.inl (by simp)) h4
      rw [this];simp
   omega
theorem pY:∀(l:List bO) (m:Nat),l.all (bH m)=true→iE (fJ l)+44*l.length≤80*dR l
 | [], _, _=>by simp [iE,fJ]
 | t :: l,m,h=>by
  rw [List.all_cons,Bool.and_eq_true]at h
  have h1:=Lf t m h.1
  have h2:=pY l m h.2
  rw [fJ,iO,dR,List.length_cons]
  omega
end
end Go.Proofs.YtmbppnbekkbibaaGreatDoor
set_option linter.unusedVariables false
namespace Go.Proofs.YtmbppnbekkbibaaGreatDoor
open Go.RowKit
end Go.Proofs.YtmbppnbekkbibaaGreatDoor
set_option linter.unusedVariables false
namespace Go.Proofs.YtmbppnbekkbibaaGreatDoor
open Go.RowKit
end Go.Proofs.YtmbppnbekkbibaaGreatDoor
set_option linter.unusedVariables false
namespace Go.Proofs.YtmbppnbekkbibaaGreatDoor
mutual
def dZ:bD→Nat
 | .mk _ _ _ _ _ ts _ ks=>1+dR ts+fT ks
def fT:List bD→Nat
 | []=>0
 | t :: l=>dZ t+fT l
end
theorem yH:∀ {l:List bD} {t:bD},t∈l→dZ t≤fT l
 | [], _,h=>by cases h
 | x :: l,t,h=>by
  rw [fT]
  rcases List.mem_cons.1 h with rfl | h
  ·omega
  ·have:=yH h;omega
theorem Lg (t:bD):0<dZ t:=by cases t;rw [dZ];omega
theorem qc:∀l:List bD,l.length≤fT l
 | []=>by simp
 | t :: l=>by have:=qc l;have:=Lg t;rw [fT,List.length_cons];omega
end Go.Proofs.YtmbppnbekkbibaaGreatDoor
set_option linter.unusedVariables false
namespace Go.Proofs.YtmbppnbekkbibaaGreatDoor
theorem Oc {α:Type} {c:Prop} [Decidable c] {P:α→Prop} {a b:α} (ha:P a) (hb:P b):P (if c then a else b):=by
 by_cases h:c
 ·rw [if_pos h];exact ha
 ·rw [if_neg h];exact hb
theorem Qv {s:Bt} (h:opsL.contains s=true):s.length≤3:=by
 have h1:s∈opsL:=by simpa using h
 have h2:∀x∈opsL,x.length≤3:=by decide
 exact h2 s h1
theorem yI {k:Int} {s:Bt} {b:Bool} (h:mH k s b=true):s.length≤256:=by
 unfold mH at h
 split at h
 ·have:=nA h;omega
 split at h
 ·unfold Ae at h
  rw [Bool.and_eq_true,decide_eq_true_eq]at h
  exact h.1
 split at h
 ·have:=Qv h;omega
 ·have:s=[]:=by simpa using h
  rw [this];simp
theorem IG (s:Bt):(Ee s).length≤2*s.length+2:=by
 have h1:=M4 s
 have h2:=M0 s
 unfold Ee
 rw [List.length_cons,List.length_append]
 simp only [List.length_cons,List.length_nil]
 omega
theorem Lh (ts:List bO) (m:Nat) (h:ts.all (bH m)=true):(uP ts 0).length+(uP ts 1).length≤80*dR ts:=by
 have h1:=pY ts m h
 match ts,h1 with
 | [], _=>simp [uP]
 | [t],h1=>
  simp [uP,fJ,iE]at h1 ⊢
  omega
 | t :: u :: l,h1=>
  simp [uP,fJ,iE]at h1 ⊢
  omega
theorem Li (i:Nat):(qm.getD i []).length≤28:=by
 have:=Dn qm i
 have h:iE qm=28:=by decide
 omega
theorem Gs:∀l:List Bt,(cat l).length=iE l
 | []=>rfl
 | x :: l=>by
  have:=Gs l
  rw [iO, ←this]
  simp [cat]
theorem II (l:List Bt):(l.getD 0 []).length+(l.getD 1 []).length+(l.getD 2 []).length≤iE l:=by
 match l with
 | []=>simp [iE]
 | [x]=>simp [iE]
 | [x,y]=>simp [iE]
 | x :: y :: z :: l=>simp [iE];omega
theorem mF (l:List bD):(jZ l).length=l.length:=by rw [nG,List.length_map]
theorem In64.itoa {n:Int} (h:0≤n∧n≤9223372036854775807):(Lib.itoa n).length≤40:=by
 have:=Lib.itoa_length_le n (by omega) (by omega)
 omega
theorem Lj (k:Int) (text:Bt) (n:Int) (ts:List bO) (ns:List Bt) (s:List Bt) (m:Nat) (ht:text.length≤256) (hn:0≤n∧n≤9223372036854775807) (hts:ts.all (bH m)=true) (hns:∀x∈ns,x.length≤32):
  (zB k text n ts ns s).length+44≤700+80*dR ts+(iE s+36*s.length):=by
 have a1:=Lh ts m hts
 have a2:=pY ts m hts
 have a3:=II s
 have a4:=Li n.toNat
 have a5:=IG text
 have a6:=nu [44,32] (ts.map rP)
 have a7:=nu [44,32] (List.zipWith nE ns s)
 have a8:=uJ ns s hns
 have a9:=Bh nE ns s
 have BD:=Dn (ts.map rP) 0
 have AX:=In64.itoa hn
 rw [qG]at a2
 rw [List.length_map]at a6
 simp only [List.length_cons,List.length_nil]at a6 a7
 unfold zB rQ
 generalize Lib.itoa n=it at*
 repeat' (refine Oc (P:=fun l:Bt=>l.length+44≤700+80*dR ts+(iE s+36*s.length)) ?_ ?_)
 all_goals first
  | omega
  | (rw [Gs];simp only [iE,List.map_cons,List.map_nil,List.sum_cons,List.sum_nil,List.length_cons,List.length_nil];simp only [iE]at*;omega)
  | (simp only [List.length_cons,List.length_nil];omega)
theorem Ll {k:Int} {text:Bt} {n:Int} {a b c:Nat} (h:Af k text n a b c=true):text.length≤256∧0≤n∧n≤9223372036854775807:=by
 unfold Af at h
 rw [Bool.and_eq_true,Bool.and_eq_true,Bool.and_eq_true,decide_eq_true_eq]at h
 refine⟨yI h.1.1.2,h.1.1.1.1, ?_⟩
 have h1:=h.1.1.1.2
 have h2:(dD k).most≤9223372036854775807:=by
  show(fun h:Mi=>h.most≤9223372036854775807) (dD k)
  unfold dD
  repeat' (refine Oc (P:=fun h:Mi=>h.most≤9223372036854775807) ?_ ?_)
  all_goals (show(_:Int)≤ _;decide)
 omega
mutual
theorem yJ:∀(x:bD) (m:Nat),gX m x=true→(mI x).length+44≤700*dZ x
 | .mk k text n li co ts ns ks,m,h=>by
  obtain⟨m,rfl⟩:∃q,m=q+1:=by
   cases m with
   | zero=>cases h
   | succ q=>exact⟨q,rfl⟩
  have h:(decide (0≤k∧k<20) && Af k text n ts.length ns.length ks.length && ns.all eu && ts.all (bH 16) && ks.all (gX m))=true:=h
  rw [Bool.and_eq_true,Bool.and_eq_true,Bool.and_eq_true,Bool.and_eq_true]at h
  obtain⟨⟨⟨⟨h1,h2⟩,h3⟩,h4⟩,h5⟩:=h
  obtain⟨o1,o2⟩:=Ll h2
  have hk:=zZ ks m h5
  have hl:=mF ks
  have hh:=Lj k text n ts ns (jZ ks) 16 o1 o2 h4 (fun x hx=>nA (List.all_eq_true.1 h3 x hx))
  rw [mI,dZ]
  omega
theorem zZ:∀(l:List bD) (m:Nat),l.all (gX m)=true→iE (jZ l)+44*l.length≤700*fT l
 | [], _, _=>by simp [iE,jZ]
 | t :: l,m,h=>by
  rw [List.all_cons,Bool.and_eq_true]at h
  have h1:=yJ t m h.1
  have h2:=zZ l m h.2
  rw [jZ,iO,fT,List.length_cons]
  omega
end
end Go.Proofs.YtmbppnbekkbibaaGreatDoor
set_option linter.unusedVariables false
namespace Go.Proofs.YtmbppnbekkbibaaGreatDoor
end Go.Proofs.YtmbppnbekkbibaaGreatDoor
end
section
set_option linter.unusedVariables false
namespace Go.Proofs.YtmbppnbekkbibaaGreatDoor
open Go.RowKit
end Go.Proofs.YtmbppnbekkbibaaGreatDoor
set_option linter.unusedVariables false
namespace Go.Proofs.YtmbppnbekkbibaaGreatDoor
open Go.RowKit
theorem Bj {w:World} {B:Nat} {A:Option Addr} {n c:Nat} {xk:List Value} {ks:List bO} (h2:Sl w B 4 (.slice A n c) xk) (hr:iq w B xk ks) {i:Nat} (hi:i<ks.length) (hn:n=ks.length):
  ∃b o k s A1 n1 c1 A2 n2 c2,A=some ⟨b,o,none⟩∧rR w B [.int .i64 k, .string s, .slice A1 n1 c1, .slice A2 n2 c2] ks[i]∧w.cell? ⟨b,o+i*4,none⟩=some (.int .i64 k)∧w.cell? ⟨b,o+i*4+1,none⟩=some (.string s)∧w.cell? ⟨b,o+i*4+2,none⟩=some (.slice A1 n1 c1)∧w.cell? ⟨b,o+i*4+3,none⟩=some (.slice A2 n2 c2):=by
 subst hn
 obtain⟨b1,o1,rfl,hb1,hc1⟩:=pK h2 hi (by omega)
 have hr1:=hr.at i hi
 obtain⟨kk,s,A1,n1,c1,A2,n2,c2,hv1⟩:=hr1.shape
 rw [hv1]at hr1
 refine⟨b1,o1,kk,s,A1,n1,c1,A2,n2,c2,rfl,hr1, ?_, ?_, ?_, ?_⟩
 ·have:=hc1 0 _ (fq hv1 (by omega:0<4));simpa using this
 ·have:=hc1 1 _ (fq hv1 (by omega:1<4));simpa [Nat.add_assoc]using this
 ·have:=hc1 2 _ (fq hv1 (by omega:2<4));simpa [Nat.add_assoc]using this
 ·have:=hc1 3 _ (fq hv1 (by omega:3<4));simpa [Nat.add_assoc]using this
theorem Gt {w:World} {B:Nat} {A:Option Addr} {n c:Nat} {ns:List Bt} (h:Ss w B (.slice A n c) ns) {i:Nat} (hi:i<ns.length):
  ∃b o,A=some ⟨b,o,none⟩∧w.cell? ⟨b,o+i,none⟩=some (sv ns[i]):=by
 obtain⟨A',c',hv, _, _,hx⟩:=h.open_
 injection hv with e1 e2 e3
 subst e1 e2 e3
 obtain⟨b,o,hA, _,hc⟩:=hx (by omega)
 exact⟨b,o,hA,hc i hi⟩
end Go.Proofs.YtmbppnbekkbibaaGreatDoor
set_option linter.unusedVariables false
namespace Go.Proofs.YtmbppnbekkbibaaGreatDoor
open Go.RowKit
theorem gq {w:World} {b:Nat} {x0 x1 x2 x3 x4 x5 x6 x7:Value} {T:TypeId} (h:w.heap[b]? =some (.cells #[x0,x1,x2,x3,x4,x5,x6,x7] T (0,0))):
  w.cell? ⟨b,0,none⟩=some x0∧w.cell? ⟨b,1,none⟩=some x1∧w.cell? ⟨b,2,none⟩=some x2∧w.cell? ⟨b,3,none⟩=some x3∧w.cell? ⟨b,4,none⟩=some x4∧w.cell? ⟨b,5,none⟩=some x5∧w.cell? ⟨b,6,none⟩=some x6∧w.cell? ⟨b,7,none⟩=some x7:=
 ⟨(cell_of_row _ _ _ _ _ _ h).trans rfl,(cell_of_row _ _ _ _ _ _ h).trans rfl,(cell_of_row _ _ _ _ _ _ h).trans rfl,(cell_of_row _ _ _ _ _ _ h).trans rfl,(cell_of_row _ _ _ _ _ _ h).trans rfl,(cell_of_row _ _ _ _ _ _ h).trans rfl,(cell_of_row _ _ _ _ _ _ h).trans rfl,(cell_of_row _ _ _ _ _ _ h).trans rfl⟩
theorem Bl {w:World} {b:Nat} {x0 x1 x2 x3 x4:Value} {T:TypeId} (h:w.heap[b]? =some (.cells #[x0,x1,x2,x3,x4] T (0,0))):
  w.cell? ⟨b,0,none⟩=some x0∧w.cell? ⟨b,1,none⟩=some x1∧w.cell? ⟨b,2,none⟩=some x2∧w.cell? ⟨b,3,none⟩=some x3∧w.cell? ⟨b,4,none⟩=some x4:=
 ⟨(cell_of_row _ _ _ _ _ _ h).trans rfl,(cell_of_row _ _ _ _ _ _ h).trans rfl,(cell_of_row _ _ _ _ _ _ h).trans rfl,(cell_of_row _ _ _ _ _ _ h).trans rfl,(cell_of_row _ _ _ _ _ _ h).trans rfl⟩
theorem iY (w:World) (o1 o2:Obj):((w.alloc o1).alloc o2).heap[w.heap.size]? =some o1∧((w.alloc o1).alloc o2).heap[w.heap.size+1]? =some o2:=by
 have hs:(w.alloc o1).heap.size=w.heap.size+1:=by simp
 refine⟨?_, ?_⟩
 ·exact ah (heap_alloc_new w o1) (Turn.alloc (fun _=>False) _ o2) (fun h=>h)
 ·have:=heap_alloc_new (w.alloc o1) o2
  rwa [hs]at this
theorem wS {w:World} {B:Nat} {A:Option Addr} {n c:Nat} {xk:List Value} {ks:List bD} (h2:Sl w B 8 (.slice A n c) xk) (hr:kr w B xk ks) {i:Nat} (hi:i<ks.length) (hn:n=ks.length):
  ∃b o k s v2 v3 v4 A1 n1 c1 A2 n2 c2 A3 n3 c3,A=some ⟨b,o,none⟩∧qH w B [.int .i64 k, .string s, .int .i64 v2, .int .i64 v3, .int .i64 v4, .slice A1 n1 c1, .slice A2 n2 c2, .slice A3 n3 c3] ks[i]∧
   w.cell? ⟨b,o+i*8,none⟩=some (.int .i64 k)∧w.cell? ⟨b,o+i*8+1,none⟩=some (.string s)∧w.cell? ⟨b,o+i*8+2,none⟩=some (.int .i64 v2)∧w.cell? ⟨b,o+i*8+3,none⟩=some (.int .i64 v3)∧w.cell? ⟨b,o+i*8+4,none⟩=some (.int .i64 v4)∧
   w.cell? ⟨b,o+i*8+5,none⟩=some (.slice A1 n1 c1)∧w.cell? ⟨b,o+i*8+6,none⟩=some (.slice A2 n2 c2)∧w.cell? ⟨b,o+i*8+7,none⟩=some (.slice A3 n3 c3):=by
 subst hn
 obtain⟨b1,o1,rfl,hb1,hc1⟩:=pK h2 hi (by omega)
 have hr1:=hr.at i hi
 obtain⟨kk,s,v2,v3,v4,A1,n1,c1,A2,n2,c2,A3,n3,c3,hv1⟩:=hr1.shape
 rw [hv1]at hr1
 refine⟨b1,o1,kk,s,v2,v3,v4,A1,n1,c1,A2,n2,c2,A3,n3,c3,rfl,hr1, ?_, ?_, ?_, ?_, ?_, ?_, ?_, ?_⟩
 ·have:=hc1 0 _ (fq hv1 (by omega:0<8));simpa using this
 ·have:=hc1 1 _ (fq hv1 (by omega:1<8));simpa [Nat.add_assoc]using this
 ·have:=hc1 2 _ (fq hv1 (by omega:2<8));simpa [Nat.add_assoc]using this
 ·have:=hc1 3 _ (fq hv1 (by omega:3<8));simpa [Nat.add_assoc]using this
 ·have:=hc1 4 _ (fq hv1 (by omega:4<8));simpa [Nat.add_assoc]using this
 ·have:=hc1 5 _ (fq hv1 (by omega:5<8));simpa [Nat.add_assoc]using this
 ·have:=hc1 6 _ (fq hv1 (by omega:6<8));simpa [Nat.add_assoc]using this
 ·have:=hc1 7 _ (fq hv1 (by omega:7<8));simpa [Nat.add_assoc]using this
end Go.Proofs.YtmbppnbekkbibaaGreatDoor
end
section
set_option linter.unusedVariables false
namespace Go.Proofs.YtmbppnbekkbibaaGreatDoor
open Go.RowKit
theorem M6 {α:Type} {l:List α} (h:l.length=2):∃a b,l=[a,b]:=by
 match l,h with
 | [a,b], _=>exact⟨a,b,rfl⟩
end Go.Proofs.YtmbppnbekkbibaaGreatDoor
end
section
set_option linter.unusedVariables false
namespace Go.Proofs.YtmbppnbekkbibaaGreatDoor
open Go.RowKit
theorem z8 {m:Nat} {k:Int} {text:Bt} {n li co:Int} {ts:List bO} {ns:List Bt} {ks:List bD} (h:gX m (.mk k text n li co ts ns ks)=true):
  ∃q,m=q+1∧(0≤k∧k<20)∧Af k text n ts.length ns.length ks.length=true∧(∀x∈ns,x.length≤32)∧ts.all (bH 16)=true∧(∀x∈ks,gX q x=true):=by
 cases m with
 | zero=>cases h
 | succ q=>
  have h:(decide (0≤k∧k<20) && Af k text n ts.length ns.length ks.length && ns.all eu && ts.all (bH 16) && ks.all (gX q))=true:=h
  rw [Bool.and_eq_true,Bool.and_eq_true,Bool.and_eq_true,Bool.and_eq_true,decide_eq_true_eq]at h
  exact⟨q,rfl,h.1.1.1.1,h.1.1.1.2,fun x hx=>nA (List.all_eq_true.1 h.1.1.2 x hx),h.1.2,fun x hx=>List.all_eq_true.1 h.2 x hx⟩
theorem uK {P:Program} {ops:Array Oper} {o:Oper} {a:Act} {w:World} {K:Act→World→Prop} {Q:Exit→Act→World→Prop} {E:Prop} (hgd:o.guard=none) (s x:Operand) (t:TypeId)
  (ho:o.op= .call { callee:= .builtin .append,args:= #[s,x],argTypes:= #[t,t]})
  (base:Nat) {e:TypeId} {z:Value} (hE:iP P t e z 1 16) (v y:Value) (hs:a.eval s=v) (hx:a.eval x=y)
  {l:List Bt} (hown:gD w base e v l) {B:Nat} {m:List Bt} (hy:Ss w B y m) (hlen:l.length+m.length≤8796093022208) (hbase:base≤w.heap.size)
  (h:∀v' w',gD w' base e v' (l++m)→w.grownBy w' v.ownBlock→(v'.ownBlock=v.ownBlock∨v'.ownBlock=some w.heap.size)→K (a.put o.dst v') w'):
  if Region.wanted o (yielded ops a.tmps)=true then Oper.wp P o a w K Q else E:=
 dX hgd s x t ho base hE v y hs hx hown.row hy (wD _) (by simp only [dS,maxLen];omega) (by rw [dS];omega) hbase
  (fun v' w' n' h1 h2 h3=>h v' w' ⟨n',by rw [nD];exact h1⟩ h2 h3)
structure yK (w wr:World) (OB:Obj) (v:Value) (l:List Bt):Prop where
 box:wr.heap[w.heap.size+1]? =some (.cells #[v] 25 (0,0))
 own:gD wr (w.heap.size+2) 9 v l
 node:wr.heap[w.heap.size]? =some OB
 below:Below w.heap.size w wr
theorem yK.far {w wr w':World} {OB:Obj} {v:Value} {l:List Bt} (h:yK w wr OB v l) (hb:Below wr.heap.size wr w'):yK w w' OB v l:=
 ⟨(hb.block _ (block_lt h.box)).trans h.box,h.own.below hb,(hb.block _ (block_lt h.node)).trans h.node,h.below.trans (hb.mono h.below.size)⟩
theorem yK.cell {w wr:World} {OB:Obj} {v:Value} {l:List Bt} (h:yK w wr OB v l):wr.cell? ⟨w.heap.size+1,0,none⟩=some v:=(cell_of_row _ _ _ _ _ _ h.box).trans rfl
theorem yK.grown {w wr w':World} {OB:Obj} {v v':Value} {l l':List Bt} (h:yK w wr OB v l) (ho:gD w' (w.heap.size+2) 9 v' l') (hg:wr.grownBy w' v.ownBlock):
  w'.cell? ⟨w.heap.size+1,0,none⟩=some v∧w'.frozen? ⟨w.heap.size+1,0,none⟩=false∧yK w (w'.setCell ⟨w.heap.size+1,0,none⟩ v') OB v' l':=by
 have hlt:=h.own.lt
 have hb:=(hg.block _ (block_lt h.box) (by intro e;have:=(hlt _ e.symm).1;omega)).trans h.box
 have hn:=(hg.block _ (block_lt h.node) (by intro e;have:=(hlt _ e.symm).1;omega)).trans h.node
 have hbl:Below w.heap.size w w':=h.below.grown hg h.below.size (fun k hk=>by have:=(hlt k hk).1;omega)
 have t:=ak w' (w.heap.size+1) 0 v'
 refine⟨(cell_of_row _ _ _ _ _ _ hb).trans rfl,bI hb 0,heap_setCell_same _ _ _ _ _ _ hb,ho.turn t (fun g hg e=>by have:=(ho.lt g hg).1;omega),ah hn t (by omega),hbl.trans (t.below hbl.size (fun k hk e=>by omega))⟩
theorem gD.cell {w:World} {base:Nat} {e:TypeId} {g c n:Nat} {l:List Bt} (h:gD w base e (.slice (some ⟨g,0,none⟩) n c) l) (j:Nat) (hj:j<l.length):w.cell? ⟨g,j,none⟩=some (sv l[j]):=by
 have:=h.row.cells (g:=g) rfl j _ (wE l j hj)
 rwa [pI,Nat.zero_add]at this
end Go.Proofs.YtmbppnbekkbibaaGreatDoor
end
section
set_option linter.unusedVariables false
namespace Go.Proofs.YtmbppnbekkbibaaGreatDoor
def Od (s:Bt):Bool:=s.all (fun c=> !(decide (c<32) && c != 9 && c != 10))
def qj (n:Nat):Bool:=decide (n<32) && n != 9 && n != 10
theorem Gu (s:ByteArray) (i:Nat) (h:(s.get! i).toNat<128):Utf8.decode s i=((s.get! i).toNat,1):=by
 unfold Utf8.decode
 simp only [Nat.add_zero]
 rw [if_pos h]
theorem kR (s:ByteArray) (i k:Nat) (h:(decide (i+k<s.size) && (s.get! (i+k)).toNat / 64==2)=true):128≤(s.get! (i+k)).toNat:=by
 rw [Bool.and_eq_true,beq_iff_eq]at h
 omega
theorem Dp (s:ByteArray) (i:Nat) (h:128≤(s.get! i).toNat):128≤(Utf8.decode s i).1∧∀j,j<(Utf8.decode s i).2→128≤(s.get! (i+j)).toNat:=by
 have h0:∀j,j<1→128≤(s.get! (i+j)).toNat:=by
  intro j hj
  obtain rfl:j=0:=by omega
  exact h
 unfold Utf8.decode
 simp only [Nat.add_zero]
 rw [if_neg (by omega)]
 split
 ·rename_i h1
  rw [Bool.and_eq_true]at h1
  have a1:=kR s i 1 h1.2
  split
  ·rename_i h2
   refine⟨h2,fun j hj=> ?_⟩
   have hj:j<2:=hj
   obtain rfl | rfl:j=0∨j=1:=by omega
   ·exact h
   ·exact a1
  ·exact⟨by decide,h0⟩
 split
 ·rename_i h1
  rw [Bool.and_eq_true,Bool.and_eq_true]at h1
  have a1:=kR s i 1 h1.1.2
  have a2:=kR s i 2 h1.2
  split
  ·rename_i h2
   rw [Bool.and_eq_true,decide_eq_true_eq]at h2
   refine⟨by have:=h2.1;omega,fun j hj=> ?_⟩
   have hj:j<3:=hj
   obtain rfl | rfl | rfl:j=0∨j=1∨j=2:=by omega
   ·exact h
   ·exact a1
   ·exact a2
  ·exact⟨by decide,h0⟩
 split
 ·rename_i h1
  rw [Bool.and_eq_true,Bool.and_eq_true,Bool.and_eq_true]at h1
  have a1:=kR s i 1 h1.1.1.2
  have a2:=kR s i 2 h1.1.2
  have a3:=kR s i 3 h1.2
  split
  ·rename_i h2
   rw [Bool.and_eq_true,decide_eq_true_eq]at h2
   refine⟨by have:=h2.1;omega,fun j hj=> ?_⟩
   have hj:j<4:=hj
   obtain rfl | rfl | rfl | rfl:j=0∨j=1∨j=2∨j=3:=by omega
   ·exact h
   ·exact a1
   ·exact a2
   ·exact a3
  ·exact⟨by decide,h0⟩
 ·exact⟨by decide,h0⟩
theorem get_at (s:Bt) (i:Nat) (h:i<s.length):((⟨s.toArray⟩:ByteArray).get! i)=s[i]:=by
 show s.toArray[i]! =s[i]
 rw [getElem!_pos s.toArray i (by simpa using h)]
 simp
theorem Dq (c:UInt8):qj c.toNat=(decide (c<32) && c != 9 && c != 10):=by
 have h1:(decide (c.toNat<32))=decide (c<32):=by
  rw [decide_eq_decide,UInt8.lt_iff_toNat_lt];rfl
 have h2:∀d:UInt8,(c.toNat != d.toNat)=(c != d):=by
  intro d
  by_cases h:c=d
  ·subst h;simp
  ·have:c.toNat≠d.toNat:=fun e=>h (UInt8.toNat_inj.1 e)
   simp [bne,beq_eq_false_iff_ne.2 h,beq_eq_false_iff_ne.2 this]
 unfold qj
 rw [h1,show(9:Nat)=(9:UInt8).toNat from rfl,show(10:Nat)=(10:UInt8).toNat from rfl,h2,h2]
def yL (s:Bt) (p:Nat):Prop:=∀j,j<p→∀h:j<s.length,qj s[j].toNat=false
theorem IJ {s:Bt} {p:Nat} (h:yL s p) (hp:p<s.length) (hb:qj (Utf8.decode ⟨s.toArray⟩ p).1=false):yL s (p+(Utf8.decode ⟨s.toArray⟩ p).2):=by
 intro j hj hl
 rcases Nat.lt_or_ge j p with h1 | h1
 ·exact h j h1 hl
 ·rcases Nat.lt_or_ge ((⟨s.toArray⟩:ByteArray).get! p).toNat 128 with h2 | h2
  ·rw [Gu _ _ h2]at hj hb
   have hj:j<p+1:=hj
   obtain rfl:j=p:=by omega
   rw [get_at s j hl]at hb
   exact hb
  ·have h3:=(Dp _ _ h2).2 (j - p) (by omega)
   rw [show p+(j - p)=j by omega,get_at s j hl]at h3
   have:decide (s[j].toNat<32)=false:=decide_eq_false (by omega)
   unfold qj
   rw [this];rfl
theorem Lm {s:Bt} {p:Nat} (hp:p<s.length) (hb:qj (Utf8.decode ⟨s.toArray⟩ p).1=true):s.all (fun c=> !(decide (c<32) && c != 9 && c != 10))=false:=by
 rcases Nat.lt_or_ge ((⟨s.toArray⟩:ByteArray).get! p).toNat 128 with h2 | h2
 ·rw [Gu _ _ h2,get_at s p hp]at hb
  cases ha:s.all (fun c=> !(decide (c<32) && c != 9 && c != 10))with
  | false=>rfl
  | true=>
   have:=List.all_eq_true.1 ha _ (List.getElem_mem hp)
   rw [←Dq]at this
   have hb:qj s[p].toNat=true:=hb
   rw [hb]at this
   cases this
 ·have h3:=(Dp _ _ h2).1
  unfold qj at hb
  rw [decide_eq_false (by omega)]at hb
  cases hb
theorem Lp {s:Bt} {p:Nat} (h:yL s p) (hp:s.length≤p):s.all (fun c=> !(decide (c<32) && c != 9 && c != 10))=true:=by
 rw [List.all_eq_true]
 intro c hc
 obtain⟨j,hj,rfl⟩:=List.getElem_of_mem hc
 rw [←Dq,h j (by omega) hj]
 rfl
end Go.Proofs.YtmbppnbekkbibaaGreatDoor
set_option linter.unusedVariables false
namespace Go.Proofs.YtmbppnbekkbibaaGreatDoor
open Go.RowKit
theorem Lr (R:Nat) (w:World) (h1:R≤1114111):Calls Tryz.prog 176 #[.int .i32 (R:Int)] w fun e w'=>e= .returned (.bool (qj R))∧w'=w:=by
 by_cases h32:R<32
 ·have g1:decide ((R:Int)<32)=true:=by simp;omega
  by_cases h9:R=9
  ·subst h9
   go_enter Tryz.func176,Tryz.ntmps176
   go_wp2_with fail
   go_ret
   exact⟨rfl,rfl⟩
  ·by_cases h10:R=10
   ·subst h10
    go_enter Tryz.func176,Tryz.ntmps176
    go_wp2_with fail
    go_ret
    exact⟨rfl,rfl⟩
   ·have g2:((R:Int) != 9)=true:=by rw [bne_iff_ne];omega
    have g3:((R:Int) != 10)=true:=by rw [bne_iff_ne];omega
    have HT:Hid (qj R=true):=hid (by unfold qj;simp [h32,h9,h10])
    rw [HT.out]
    clear h32 h9 h10 h1
    go_enter Tryz.func176,Tryz.ntmps176
    go_wp2_with fail
    go_ret
    exact⟨rfl,rfl⟩
 ·have g1:decide ((R:Int)<32)=false:=by simp;omega
  have HT:Hid (qj R=false):=hid (by unfold qj;simp [h32])
  rw [HT.out]
  clear h32 h1
  go_enter Tryz.func176,Tryz.ntmps176
  go_wp2_with fail
  go_ret
  exact⟨rfl,rfl⟩
def Oe (s:Bt) (w:World) (e:Ending) (w':World):Prop:=(∃k:Int,e= .returned (.int .i64 k)∧(if Od s then k= -1 else 0≤k))∧Below w.heap.size w w'
set_option maxHeartbeats 2000000 in
set_option maxRecDepth 1000000 in
theorem Bn (s:Bt) (w:World):
  Calls Tryz.prog 209 #[sv s, .func (.func 176) #[] #[], .bool true] w (Oe s w):=by
 have hsz:=cu s
 obtain⟨bs,hbs⟩:∃bs:ByteArray,bs=⟨s.toArray⟩:=⟨_,rfl⟩
 have HBS:=hid hbs
 rw [←hbs]at hsz
 show Calls Tryz.prog 209 #[.string ⟨s.toArray⟩, .func (.func 176) #[] #[], .bool true] w _
 rw [←hbs]
 clear hbs
 go_enter Tryz.func209,Tryz.ntmps209
 go_wp2_with fail
 go_loopg [] s.length (fun g wx=>∃pos:Nat,wx.heap[w.heap.size]? =some (.stringIter bs pos)∧Below w.heap.size w wx∧yL s pos∧s.length≤pos+g)
 case atStart=>exact⟨0,World.iter_heap w bs 0,(Below.refl _ w).alloc (Nat.le_refl _) _,fun j hj=>by omega,by omega⟩
 case round=>
  obtain⟨pos,hit,hbw,hleft,hfu⟩:=hrel
  have aaP:w.heap.size<wr.heap.size:=(Array.getElem?_eq_some_iff.1 hit).1
  by_cases hp:pos<bs.size
  ·obtain⟨g,rfl⟩:∃g,gk=g+1:=⟨gk - 1,by omega⟩
   have hnx:∀ty,(Instr.next (.pointer (some ⟨w.heap.size,0,none⟩)) true ty).run Tryz.prog wr= _:=fun ty=>Lib.run_next_any_at wr w.heap.size bs pos ty hit hp
   have hwd:=Lib.width_pos bs pos
   have hr1:=Lib.rune_le bs pos
   have hst:∀R K,Utf8.decode bs pos=(R,K)→(qj R=false→yL s (pos+K))∧(qj R=true→Od s=false):=by
    intro R K h
    rw [HBS.out]at h
    have hps:pos<s.length:=by omega
    constructor
    ·intro hb
     have:=IJ hleft hps (by rw [h];exact hb)
     rw [h]at this
     exact this
    ·intro hb
     exact Lm hps (by rw [h];exact hb)
   obtain⟨R,hR⟩:∃R,(Utf8.decode bs pos).1=R:=⟨_,rfl⟩
   obtain⟨K,hK⟩:∃K,(Utf8.decode bs pos).2=K:=⟨_,rfl⟩
   have hst:=hst R K (by rw [←hR, ←hK])
   rw [hR,hK]at hnx
   rw [hR]at hr1
   rw [hK]at hwd
   have hit2:=Lib.iterAt_heap wr w.heap.size bs pos (pos+K) hit
   have hbw2:=Lib.below_iterAt hbw (k:=w.heap.size) (Nat.le_refl _) bs (pos+K)
   obtain⟨W,hWd⟩:∃W,wr.iterAt w.heap.size bs (pos+K)=W:=⟨_,rfl⟩
   rw [hWd]at hnx hit2 hbw2
   have HC:=hid (Lr R W hr1)
   have HB2:=hid hbw2
   have HIT:=hid hit2
   cases hb:qj R with
   | true=>
    rw [hb]at HC
    have HE:=hid (hst.2 hb)
    clear hst hb hR hK hleft
    go_wp2_with fail
    refine HC.out.mono ?_
    rintro e w2 ⟨rfl,rfl⟩
    go_wp2_with fail
    go_ret
    exact⟨⟨pos,rfl,by rw [HE.out];simp⟩,HB2.out⟩
   | false=>
    rw [hb]at HC
    have HE:=hid (hst.1 hb)
    clear hst hb hR hK hleft
    go_wp2_with fail
    refine HC.out.mono ?_
    rintro e w2 ⟨rfl,rfl⟩
    go_wp2_with fail
    go_roundg g
    case measure=>omega
    case rel=>exact⟨pos+K,HIT.out,HB2.out,HE.out,by omega⟩
  ·have hnx:∀ty,(Instr.next (.pointer (some ⟨w.heap.size,0,none⟩)) true ty).run Tryz.prog wr= _:=fun ty=>Lib.run_next_end_at wr w.heap.size bs pos ty hit hp
   have HE:Hid (Od s=true):=hid (Lp hleft (by omega))
   have HB:=hid hbw
   clear hleft hbw
   go_wp2_with fail
   go_ret
   exact⟨⟨-1,rfl,by rw [HE.out];simp⟩,HB.out⟩
theorem wu (s:Bt) (w:World):
  Calls Tryz.prog 175 #[sv s, .func (.func 176) #[] #[]] w fun e w'=>e= .returned (.bool (!Od s))∧Below w.heap.size w w':=by
 have HI:Hid (∀w1,Calls Tryz.prog 193 #[sv s, .func (.func 176) #[] #[]] w1 (Oe s w1)):=hid (by
  intro w1
  have HJ:=hid (Bn s w1)
  go_enter Tryz.func193,Tryz.ntmps193
  go_wp2_with fail
  refine HJ.out.mono ?_
  rintro e w2 ⟨⟨k,rfl,hk⟩,hbel⟩
  have HK:=hid hk
  clear hk
  go_wp2_with fail
  go_ret
  exact⟨⟨k,rfl,HK.out⟩,hbel⟩)
 cases hb:Od s
 all_goals
  go_enter Tryz.func175,Tryz.ntmps175
  go_wp2_with fail
  refine(HI.out w).mono ?_
  rintro e w2 ⟨⟨k,rfl,hk⟩,hbel⟩
  rw [hb]at hk
  simp only [Bool.false_eq_true,if_false,if_true]at hk
  have HB:=hid hbel
  clear hbel hb HI
 ·have hg:decide (0≤k)=true:=by simpa using hk
  go_wp2_with fail
  go_ret
  exact⟨rfl,HB.out⟩
 ·subst hk
  go_wp2_with fail
  go_ret
  exact⟨rfl,HB.out⟩
theorem Ls (s:Bt) (w:World) (hs:s.length≤maxLen):
  Calls Tryz.prog 151 #[sv s] w fun e w'=>e= .returned (.bool (Ae s))∧Below w.heap.size w w':=by
 have hsz:=cu s
 unfold maxLen at hs
 by_cases hl:s.length≤256
 ·have hg:decide ((s.length:Int)≤256)=true:=by simp;omega
  have HT:Hid (Ae s=Od s):=hid (by unfold Ae Od;rw [decide_eq_true hl];rfl)
  rw [HT.out]
  have HC:=hid (wu s w)
  clear hl
  generalize Od s=b at*
  go_enter Tryz.func151,Tryz.ntmps151
  go_wp2_with fail
  refine HC.out.mono ?_
  rintro e w2 ⟨rfl,hb⟩
  go_wp2_with fail
  go_ret
  cases b <;> exact⟨rfl,hb⟩
 ·have hg:decide ((s.length:Int)≤256)=false:=by simp;omega
  have HT:Hid (Ae s=false):=hid (by unfold Ae;rw [decide_eq_false hl];rfl)
  rw [HT.out]
  clear hl
  go_enter Tryz.func151,Tryz.ntmps151
  go_wp2_with fail
  go_ret
  exact⟨rfl,Below.refl _ _⟩
end Go.Proofs.YtmbppnbekkbibaaGreatDoor
set_option linter.unusedVariables false
namespace Go.Proofs.YtmbppnbekkbibaaGreatDoor
open Go.RowKit
def Lu:Bt:=[111,114,32,97,110,100,32,60,32,60,61,32,61,61,32,43,43,32,43,32,45,32,94,32,42,32,47,32,37,32,38,32,60,60,32,62,62]
theorem Fz:Lib.fields Lu=opsL:=by kernel_rfl
theorem IK:(Lu.all fun b=>decide (b.toNat<128))=true:=by kernel_rfl
theorem Dr:(⟨Lu.toArray⟩:ByteArray).data.toList=Lu:=rfl
set_option maxRecDepth 100000 in
theorem M7 (w:World) (hL:jk w):Calls Tryz.prog 152 #[] w fun e w'=>∃v,e= .returned v∧Ss w' w'.heap.size v opsL∧Below w.heap.size w w':=by
 go_enter Tryz.func152,Tryz.ntmps152
 go_wp2_with fail
 refine(Tryz.strings_Fields ⟨Lu.toArray⟩ _ ?h1 ?h2 hL.2).mono ?_
 case h1=>decide
 case h2=>
  intro j b hb
  rw [Dr]at hb
  exact of_decide_eq_true (List.all_eq_true.1 IK b (List.mem_of_getElem? hb))
 rintro e w1 ⟨rfl,rfl⟩
 rw [Dr,Fz]
 have hss:Ss (w.alloc (.cells (opsL.map fun l=>Value.string ⟨l.toArray⟩).toArray 9)) (w.alloc (.cells (opsL.map fun l=>Value.string ⟨l.toArray⟩).toArray 9)).heap.size (.slice (some ⟨w.heap.size,0,none⟩) opsL.length opsL.length) opsL:=by
  have:=fD w (opsL.map fun l=>Value.string ⟨l.toArray⟩).toArray 9 1 opsL.length (by simp) (by decide)
  rw [World.size_alloc]
  simpa [Ss,nC]using this
 have hb:Below w.heap.size w (w.alloc (.cells (opsL.map fun l=>Value.string ⟨l.toArray⟩).toArray 9)):=(Below.refl _ _).alloc (Nat.le_refl _) _
 generalize(w.alloc (.cells (opsL.map fun l=>Value.string ⟨l.toArray⟩).toArray 9))=w2 at*
 generalize opsL.length=n at*
 go_wp2_with fail
 go_ret
 exact⟨_,rfl,hss,hb⟩
end Go.Proofs.YtmbppnbekkbibaaGreatDoor
set_option linter.unusedVariables false
namespace Go.Proofs.YtmbppnbekkbibaaGreatDoor
open Go.RowKit
end Go.Proofs.YtmbppnbekkbibaaGreatDoor
end
section
set_option linter.unusedVariables false
namespace Go.Proofs.YtmbppnbekkbibaaGreatDoor
open Go.RowKit
set_option maxRecDepth 100000 in
set_option maxHeartbeats 2000000 in
theorem Lv (w:World) (k:Int) (text:Bt) (v2 v3 v4:Int) (A5:Option Addr) (n5 c5:Nat) (A6:Option Addr) (n6 c6:Nat) (A7:Option Addr) (n7 c7:Nat) (ht:text.length≤maxLen) (hX:jk w) (b:Bool) (a1 a2 a3 a4:Int):
  Calls Tryz.prog 111 #[.agg #[.int .i64 k,sv text, .int .i64 v2, .int .i64 v3, .int .i64 v4, .slice A5 n5 c5, .slice A6 n6 c6, .slice A7 n7 c7], .agg #[.bool b, .int .i64 a1, .int .i64 a2, .int .i64 a3, .int .i64 a4]] w fun e w'=>e= .returned (.bool (mH k text b))∧Below w.heap.size w w':=by
 obtain⟨W,hW⟩:∃W,(w.alloc (.cells #[.int .i64 k,sv text, .int .i64 v2, .int .i64 v3, .int .i64 v4, .slice A5 n5 c5, .slice A6 n6 c6, .slice A7 n7 c7] 49)).alloc (.cells #[.bool b, .int .i64 a1, .int .i64 a2, .int .i64 a3, .int .i64 a4] 165)=W:=⟨_,rfl⟩
 have hb2:Below w.heap.size w W:=by rw [←hW];exact((Below.refl _ _).alloc (Nat.le_refl _) _).alloc (by simp) _
 have HB:=hid hb2
 have HW:=hid hW
 have HX:=hid (hX.below hb2)
 have Mf:=hid (yD W text (hX.below hb2) ht)
 have HST:=hid (Ls text W ht)
 have hbx:W.heap[w.heap.size]? =some (.cells #[.int .i64 k,sv text, .int .i64 v2, .int .i64 v3, .int .i64 v4, .slice A5 n5 c5, .slice A6 n6 c6, .slice A7 n7 c7] 49 (0,0)):=by rw [←hW];exact(iY w _ _).1
 obtain⟨_,g1, _⟩:=gq hbx
 have G1:=hid g1
 clear hX hbx g1 hb2 ht
 cases b with
 | true=>
  have HT:Hid (mH k text true=eu text):=hid rfl
  rw [HT.out]
  rw [←hW]at Mf
  clear hW
  generalize eu text=q at*
  go_enter Tryz.func111,Tryz.ntmps111
  go_wp2_with fail
  refine Mf.out.mono ?_
  rintro e w2 ⟨rfl,hb⟩
  have hW:=HW.out
  rw [hW]at hb
  go_wp2_with fail
  go_ret
  exact⟨rfl,HB.out.trans (hb.mono HB.out.size)⟩
 | false=>
  by_cases k1:k=1
  ·subst k1
   have HT:Hid (mH 1 text false=Ae text):=hid rfl
   rw [HT.out]
   rw [←hW]at HST
   clear hW
   generalize Ae text=q at*
   go_enter Tryz.func111,Tryz.ntmps111
   go_wp2_with fail
   refine HST.out.mono ?_
   rintro e w2 ⟨rfl,hb⟩
   have hW:=HW.out
   rw [hW]at hb
   go_wp2_with fail
   go_ret
   exact⟨rfl,HB.out.trans (hb.mono HB.out.size)⟩
  have q1:(k==1)=false:=beq_eq_false_iff_ne.mpr k1
  by_cases k14:k=14
  ·subst k14
   have HT:Hid (mH 14 text false=decide (text∈opsL)):=hid (by show opsL.contains text= _;rw [List.contains_eq_mem])
   rw [HT.out]
   clear hW k1 q1
   have HB0:Hid (Below W.heap.size W W.drew):=hid (aM W 1)
   have HO:=hid (M7 W.drew (HX.out.below HB0.out))
   have RI:=hid (fun v (w1:World) (h:Ss w1 w1.heap.size v opsL)=>kE v opsL text w1 h)
   clear HT Mf HST
   generalize decide (text∈opsL)=q at*
   go_enter Tryz.func111,Tryz.ntmps111
   go_wp2_with fail
   have hW:=HW.out
   rw [hW]
   clear hW
   refine wp_region_held_drew (S:=fun w'=>Below W.heap.size W w') (by kernel_rfl) HB0.out (fun _=> ?_)
   try simp only [Act.put,List.getElem_toArray,List.getElem_cons_zero,List.getElem_cons_succ,List.setIfInBounds_toArray,List.set_cons_zero,List.set_cons_succ]
   refine tk 1 (.pointer (some ⟨w.heap.size,1,none⟩)) HB0.out ?_
   refine qP 2 (sv text) (za G1.out) HB0.out ?_
   refine wpAnyH_ready (rs:=[0]) (by kernel_rfl) (by simp) ?_
   refine AllReadyH.cons rfl (fun K hK=> ?_) (AllReadyH.nil)
   go_simp
   refine HO.out.mono ?_
   rintro e w2 ⟨v2,rfl,hss,hb⟩
   have Cg:=hid hss
   have HB2:=hid (HB0.out.trans (hb.mono HB0.out.size))
   clear hb hss
   refine hK.out _ _ HB2.out (fun _=> ?_)
   clear hK K
   try simp only [Act.put,List.getElem_toArray,List.getElem_cons_zero,List.getElem_cons_succ,List.setIfInBounds_toArray,List.set_cons_zero,List.set_cons_succ]
   refine wpAnyH_ready (rs:=[3]) (by kernel_rfl) (by simp) ?_
   refine AllReadyH.cons rfl (fun K hK=> ?_) (AllReadyH.nil)
   go_simp
   refine(RI.out _ _ Cg.out).mono ?_
   rintro e w3 ⟨rfl,rfl⟩
   refine hK.out _ _ HB2.out (fun _=> ?_)
   clear hK K
   try simp only [Act.put,List.getElem_toArray,List.getElem_cons_zero,List.getElem_cons_succ,List.setIfInBounds_toArray,List.set_cons_zero,List.set_cons_succ]
   refine tk 4 (.bool q) HB2.out ?_
   refine wpAnyH_done (by kernel_rfl) ?_ _
   go_wp2_with fail
   go_ret
   exact⟨rfl,HB.out.trans (HB2.out.mono HB.out.size)⟩
  have q14:(k==14)=false:=beq_eq_false_iff_ne.mpr k14
  have HT:Hid (mH k text false=(text==[])):=hid (by unfold mH;rw [if_neg (by simp),if_neg k1,if_neg k14])
  rw [HT.out]
  clear hW k1 k14 Mf HST HT
  rw [←HW.out]at HB
  cases hq:(text==[])with
  | true=>
   obtain rfl:text=[]:=by simpa using hq
   go_enter Tryz.func111,Tryz.ntmps111
   go_wp2_with fail
   go_ret
   exact⟨rfl,HB.out⟩
  | false=>
   go_enter Tryz.func111,Tryz.ntmps111
   go_wp2_with fail
   go_ret
   exact⟨rfl,HB.out⟩
end Go.Proofs.YtmbppnbekkbibaaGreatDoor
set_option linter.unusedVariables false
namespace Go.Proofs.YtmbppnbekkbibaaGreatDoor
open Go.RowKit
theorem Bo {P:Program} {fn:Func} {p:Tmp} {ty:TypeId} (h:fn.results= #[.cell p ty]) (tmps:Array Value) (w:World) (g:Nat) (t:TypeId) (cs:Array Value) (fr:Nat ×Nat) (d:TypeDesc)
  (hp:tmps.getD p undef= .pointer (some ⟨g,0,none⟩)) (hg:w.heap[g]? =some (.cells cs t fr))
  (hu:P.underlying ty=some d) (hd:(match d with | .struct _ | .array _ _=>true | _=>false)=true) (hi:(P.info? ty).map (·.size)=some cs.size):
  (results fn tmps).run P w= .ok (.agg cs) w:=by
 have hp':tmps[p]?.getD undef= .pointer (some ⟨g,0,none⟩):=by simpa using hp
 simp [results,h,hp',asAddr,run_loadVar_row w g t ty cs fr d hg hu hd hi,Result.andThen]
def rC:List Value:=[.bool false, .int .i64 0, .int .i64 0, .int .i64 0, .int .i64 9223372036854775807, .bool false, .int .i64 0, .int .i64 0, .int .i64 0, .int .i64 0, .bool false, .int .i64 0, .int .i64 0, .int .i64 0, .int .i64 1, .bool false, .int .i64 0, .int .i64 0, .int .i64 0, .int .i64 0, .bool true, .int .i64 0, .int .i64 0, .int .i64 0, .int .i64 0, .bool true, .int .i64 0, .int .i64 1, .int .i64 2, .int .i64 0, .bool true, .int .i64 1, .int .i64 2, .int .i64 1, .int .i64 0, .bool false, .int .i64 0, .int .i64 0, .int .i64 2, .int .i64 0, .bool false, .int .i64 0, .int .i64 0, .int .i64 (-1), .int .i64 0, .bool true, .int .i64 0, .int .i64 0, .int .i64 1, .int .i64 0, .bool true, .int .i64 0, .int .i64 0, .int .i64 2, .int .i64 0, .bool false, .int .i64 0, .int .i64 0, .int .i64 3, .int .i64 0, .bool false, .int .i64 0, .int .i64 0, .int .i64 1, .int .i64 5, .bool false, .int .i64 1, .int .i64 1, .int .i64 1, .int .i64 0, .bool false, .int .i64 0, .int .i64 0, .int .i64 2, .int .i64 0, .bool false, .int .i64 0, .int .i64 0, .int .i64 1, .int .i64 0, .bool false, .int .i64 0, .int .i64 0, .int .i64 1, .int .i64 0, .bool false, .int .i64 0, .int .i64 0, .int .i64 1, .int .i64 0, .bool false, .int .i64 0, .int .i64 0, .int .i64 0, .int .i64 0, .bool true, .int .i64 1, .int .i64 1048576, .int .i64 0, .int .i64 0]
set_option maxRecDepth 100000 in
set_option maxHeartbeats 2000000 in
theorem IL (w:World):Calls Tryz.prog 110 #[] w fun e w'=>e= .returned (.agg rC.toArray)∧Below w.heap.size w w':=by
 have hst:∀L:List Value,L=rC→(storeCells ⟨w.heap.size,0,none⟩ L 0).run Tryz.prog (w.alloc (.cells Tryz.zeroCells166 166))= .ok () (w.alloc (.cells rC.toArray 166)):=by
  intro L h
  subst h
  have:=run_storeCells_new (P:=Tryz.prog) w 166 Tryz.zeroCells166 rC.toArray (by kernel_rfl) (by kernel_rfl) (by kernel_rfl)
  simpa using this
 go_enter Tryz.func110,Tryz.ntmps110
 go_wp2_with fail
 rw [hst _ (by kernel_rfl)]
 clear hst
 have hK:rC.toArray.size=100:=by kernel_rfl
 generalize hKL:rC.toArray=L at*
 go_wp2_with fail
 refine bodyPost_ret (Bo rfl _ _ w.heap.size _ _ _ _ rfl (heap_alloc_new w _) Tryz.underlying166 rfl (by rw [hK];kernel_rfl)) rfl ?_
 exact⟨by rw [hKL],(Below.refl _ _).alloc (Nat.le_refl _) _⟩
def Lx (h:Mi):Value:= .agg #[.bool h.name, .int .i64 (h.low:Int), .int .i64 (h.types:Int), .int .i64 h.kids, .int .i64 h.most]
theorem Dt (k:Int) (h0:0≤k) (h1:k<20) (u:World):(Instr.index 166 (.agg rC.toArray) (.int .i64 k)).run Tryz.prog u= .ok (Lx (dD k)) u:=by
 have h:k=0∨k=1∨k=2∨k=3∨k=4∨k=5∨k=6∨k=7∨k=8∨k=9∨k=10∨k=11∨k=12∨k=13∨k=14∨k=15∨k=16∨k=17∨k=18∨k=19:=by omega
 clear h0 h1
 rcases h with rfl | rfl | rfl | rfl | rfl | rfl | rfl | rfl | rfl | rfl | rfl | rfl | rfl | rfl | rfl | rfl | rfl | rfl | rfl | rfl
 all_goals (show _= _;kernel_rfl)
theorem IQ (w:World):Calls Tryz.prog 110 #[] w fun e w'=>(∃v,e= .returned v∧∀k:Int,0≤k→k<20→∀u,(Instr.index 166 v (.int .i64 k)).run Tryz.prog u= .ok (Lx (dD k)) u)∧Below w.heap.size w w':=
 (IL w).mono fun e w' h=>⟨⟨_,h.1,fun k h0 h1 u=>Dt k h0 h1 u⟩,h.2⟩
end Go.Proofs.YtmbppnbekkbibaaGreatDoor
end
section
set_option linter.unusedVariables false
namespace Go.Proofs.YtmbppnbekkbibaaGreatDoor
open Go.RowKit
def UY (m:Nat):Prop:=∀(w:World) (z:List Value) (x:bD),qH w w.heap.size z x→Mj x→jk w→
 Calls Tryz.prog 60 #[.agg z.toArray, .int .i64 (m:Int)] w fun e w'=>e= .returned (.bool (gX m x))∧Below w.heap.size w w'
theorem FB (m:Nat) (k:Int) (text:Bt) (n li co:Int) (ts:List bO) (ns:List Bt) (ks:List bD):gX (m+1) (.mk k text n li co ts ns ks)=
  (decide (0≤k∧k<20) && Af k text n ts.length ns.length ks.length && ns.all eu && ts.all (bH 16) && ks.all (gX m)):=rfl
theorem IU:UY 0:=by
 intro w z x hr hok hX
 have hw:gX 0 x=false:=rfl
 rw [hw]
 obtain⟨k,s,n,l,o,A1,n1,c1,A2,n2,c2,A3,n3,c3,rfl⟩:=hr.shape
 have HB:Hid (Below w.heap.size w (w.alloc (.cells #[.int .i64 k, .string s, .int .i64 n, .int .i64 l, .int .i64 o, .slice A1 n1 c1, .slice A2 n2 c2, .slice A3 n3 c3] 49))):=hid ((Below.refl _ _).alloc (Nat.le_refl _) _)
 clear hr hok hX hw
 go_enter Tryz.func60,Tryz.ntmps60
 go_wp2_with fail
 go_ret
 exact⟨rfl,HB.out⟩
def pF (k:Int) (names:Nat):Int:=if k<0 then names else k
theorem yM (k:Int) (text:Bt) (n:Int) (a b d:Nat):Af k text n a b d=(decide (0≤n∧n≤(dD k).most) && mH k text (dD k).name && decide ((dD k).low≤a∧a≤(dD k).types) && (decide ((dD k).kids<0∨b=0) && decide ((d:Int)=pF (dD k).kids b))):=by
 unfold Af pF
 congr 1
 by_cases h:(dD k).kids<0
 ·rw [if_pos h,if_pos h]
  by_cases h2:d=b
  ·subst h2;simp [h]
  ·have:¬(d:Int)=(b:Int):=by omega
   simp [h,h2,this]
 ·rw [if_neg h,if_neg h]
  by_cases h2:b=0
  ·subst h2
   by_cases h3:(d:Int)=(dD k).kids
   ·simp [h3]
   ·simp [h3]
  ·simp [h,h2]
theorem pG {P:Program} {ops:Array Oper} {o:Oper} {a:Act} {w:World} {K:Act→World→Prop} {Q:Exit→Act→World→Prop} {E:Prop} (hgd:o.guard=none) (ty:TypeId) (x y:Operand) (ho:o.op= .store ty x y)
  (g:Nat) (cells:Array Value) (hx:a.eval x= .pointer (some ⟨g,0,none⟩)) (hy:a.eval y= .agg cells)
  (t:TypeId) (old:Array Value) (hg:w.heap[g]? =some (.cells old t (0,0))) (hi:(P.info? ty).map (·.size)=some cells.size)
  (hold:old.size=cells.size) (h1:cells.all (·.oneCell')=true) (h:K (a.put o.dst undef) (w.setRow g cells)):
  if Region.wanted o (yielded ops a.tmps)=true then Oper.wp P o a w K Q else E:=by
 have hw:Region.wanted o (yielded ops a.tmps)=true:=by simp [Region.wanted,hgd]
 rw [if_pos hw]
 exact wp_store_row ty x y ho g cells hx hy t old hg hi hold h1 h
set_option maxRecDepth 100000 in
set_option maxHeartbeats 8000000 in
theorem IV (m:Nat) (hm:m≤40) (ih:UY m):UY (m+1):=by
 intro w z x hr hok hX
 obtain⟨k,text,n,li,co,ts,ns,ks⟩:=x
 rw [Mj]at hok
 obtain⟨ok1,MX,Lb,Ob,TJ,Rk,Rl,Og⟩:=hok
 obtain⟨A1,c1,A2,c2,A3,c3,xt,xk,rfl,s1,r1,s2,s3,r3⟩:=hr.parts
 have l1:=(bL s1).2
 have l2:=(bL s2).2
 have l3:=(bL s3).2
 have Gv:=FB m k text n li co ts ns ks
 rw [yM]at Gv
 obtain⟨res,hres⟩:∃res,gX (m+1) (.mk k text n li co ts ns ks)=res:=⟨_,rfl⟩
 rw [hres]at Gv ⊢
 clear hres hr
 obtain⟨W,hW⟩:∃W,w.alloc (.cells #[.int .i64 k,sv text, .int .i64 n, .int .i64 li, .int .i64 co, .slice A1 ts.length c1, .slice A2 ns.length c2, .slice A3 ks.length c3] 49)=W:=⟨_,rfl⟩
 have hb1:Below w.heap.size w W:=by rw [←hW];exact(Below.refl _ _).alloc (Nat.le_refl _) _
 have hbx:W.heap[w.heap.size]? =some (.cells #[.int .i64 k,sv text, .int .i64 n, .int .i64 li, .int .i64 co, .slice A1 ts.length c1, .slice A2 ns.length c2, .slice A3 ks.length c3] 49 (0,0)):=by rw [←hW];exact heap_alloc_new w _
 have HX:=hid (hX.below hb1)
 have F4:=hid (And.intro (Sl.more (Sl.below s1 hb1) hb1.size) ((r1.keep hb1).more hb1.size))
 have HKK:=hid (And.intro (Sl.more (Sl.below s3 hb1) hb1.size) ((r3.keep hb1).more hb1.size))
 have hs2:=Sl.more (Sl.below s2 hb1) hb1.size
 have Mf:=hid (fun wr (h:Below W.heap.size W wr)=>yF _ ns wr (Sl.more (Sl.below hs2 h) h.size) Rl (HX.out.below h))
 have TK:=hid (fun wr (h:Below W.heap.size W wr) (b:Bool) (a1 a2 a3 a4:Int)=>Lv wr k text n li co A1 ts.length c1 A2 ns.length c2 A3 ks.length c3 MX (HX.out.below h) b a1 a2 a3 a4)
 have HOT:=hid Rk
 have FY:=hid (rT.1 Og)
 have MW:=hid ih
 have Oh:=hid (vJ 16 (by omega))
 have ug:=hid hbx
 have HB1:=hid hb1
 have FC:=hid Gv
 have BF:=hid hW
 have Du:=Lb
 clear s1 r1 s2 s3 r3 ok1 MX Lb Ob TJ Rk Rl Og hX ih hb1 hbx Gv hs2 hW
 obtain⟨a,hA⟩:∃a,ts.length=a:=⟨_,rfl⟩
 obtain⟨b,hB⟩:∃b,ns.length=b:=⟨_,rfl⟩
 obtain⟨d,hD⟩:∃d,ks.length=d:=⟨_,rfl⟩
 rw [hA]at l1 F4 TK ug BF FC ⊢
 rw [hB]at l2 Mf TK ug BF FC ⊢
 rw [hD]at l3 HKK TK ug BF FC ⊢
 have HA:=hid hA
 have HD:=hid hD
 clear hA hB hD
 have hm0:(((m:Int)+1)==0)=false:=by rw [beq_eq_false_iff_ne];omega
 have hm1:(((m+1:Nat):Int)==0)=false:=by rw [beq_eq_false_iff_ne];omega
 generalize ns.all eu=q at*
 by_cases h0:k<0
 ·have g4:decide (k<0)=true:=by simpa using h0
  have HF:Hid (res=false):=hid (by rw [FC.out,decide_eq_false (by omega:¬(0≤k∧k<20))];rfl)
  clear h0 Du
  go_enter Tryz.func60,Tryz.ntmps60
  go_wp2_with fail
  go_ret
  refine⟨by rw [HF.out];rfl, ?_⟩
  rw [BF.out]
  exact HB1.out
 have g4:decide (k<0)=false:=by simpa using h0
 by_cases h20:20≤k
 ·have g5:decide (20≤k)=true:=by simpa using h20
  have HF:Hid (res=false):=hid (by rw [FC.out,decide_eq_false (by omega:¬(0≤k∧k<20))];rfl)
  clear h0 h20 Du
  go_enter Tryz.func60,Tryz.ntmps60
  go_wp2_with fail
  go_ret
  refine⟨by rw [HF.out];rfl, ?_⟩
  rw [BF.out]
  exact HB1.out
 have g5:decide (20≤k)=false:=by simpa using h20
 have UZ:Hid (res=(decide (0≤n∧n≤(dD k).most) && mH k text (dD k).name && decide ((dD k).low≤a∧a≤(dD k).types) && (decide ((dD k).kids<0∨b=0) && decide ((d:Int)=pF (dD k).kids b)) && q && ts.all (bH 16) && ks.all (gX m))):=hid (by rw [FC.out,decide_eq_true (by omega:0≤k∧k<20),Bool.true_and])
 have NM:=hid (fun w1=>(IQ w1).mono fun e w' (h: _∧ _)=>(⟨h.1.imp fun v hv=>⟨hv.1,hv.2 k (by omega) (by omega)⟩,h.2⟩:(∃v,e= .returned v∧∀u,(Instr.index 166 v (.int .i64 k)).run Tryz.prog u= .ok (Lx (dD k)) u)∧Below w1.heap.size w1 w'))
 have XB:=hid Du
 clear h0 h20 FC Du
 go_enter Tryz.func60,Tryz.ntmps60
 go_upto_region 3 with(fail)
 have hW:=BF.out
 rw [hW]
 clear hW hm0 hm1 g4 g5
 go_cut [5]from 10 (fun v5 wc=>∃b5,v5= .pointer (some ⟨b5,0,none⟩)∧W.heap.size≤b5∧wc.heap[b5]? =some (.cells #[.bool (dD k).name, .int .i64 ((dD k).low:Int), .int .i64 ((dD k).types:Int), .int .i64 (dD k).kids, .int .i64 (dD k).most] 165 (0,0))∧Below W.heap.size W wc)
 case first=>
  obtain⟨g0, _⟩:=gq ug.out
  have G0:=hid g0
  clear g0
  have HB0:Hid (Below W.heap.size W W.drew):=hid (aM W 1)
  refine wp_region_held_drew (S:=fun w'=>Below W.heap.size W w') (by kernel_rfl) HB0.out (fun _=> ?_)
  try simp only [Act.put,List.getElem_toArray,List.getElem_cons_zero,List.getElem_cons_succ,List.setIfInBounds_toArray,List.set_cons_zero,List.set_cons_succ]
  refine tk 1 (.pointer (some ⟨w.heap.size,0,none⟩)) HB0.out ?_
  refine qP 2 (.int .i64 k) (za G0.out) HB0.out ?_
  refine wpAnyH_ready (rs:=[0,4]) (by kernel_rfl) (by simp) ?_
  refine AllReadyH.cons rfl (fun K hK=> ?_) (AllReadyH.cons rfl (fun K hK=> ?_) AllReadyH.nil)
  ·go_simp
   refine(NM.out _).mono ?_
   rintro e w2 ⟨⟨v,rfl,hix⟩,hb⟩
   have HB2:=hid (HB0.out.trans (hb.mono HB0.out.size))
   have XC:=hid hix
   clear hb hix
   refine hK.out _ _ HB2.out (fun _=> ?_)
   clear hK K
   try simp only [Act.put,List.getElem_toArray,List.getElem_cons_zero,List.getElem_cons_succ,List.setIfInBounds_toArray,List.set_cons_zero,List.set_cons_succ]
   refine wpAnyH_take (i:=3) (v:=(Lx (dD k))) rfl (by kernel_rfl) (by kernel_rfl) (by kernel_rfl) (fun _ _ _ h=>h) (Or.inl ⟨by kernel_rfl,by intro w' hSw;have hix:=XC.out;go_simp⟩) HB2.out ?_
   try simp only [Act.put,List.getElem_toArray,List.getElem_cons_zero,List.getElem_cons_succ,List.setIfInBounds_toArray,List.set_cons_zero,List.set_cons_succ]
   refine wpAnyH_ready (rs:=[4]) (by kernel_rfl) (by simp) ?_
   refine AllReadyH.cons rfl (fun K hK=> ?_) (AllReadyH.nil)
   go_simp
   have HB3:=hid (HB2.out.alloc HB2.out.size (.cells #[.bool false, .int .i64 0, .int .i64 0, .int .i64 0, .int .i64 0] 165))
   have hzz:=heap_alloc_new w2 (.cells #[.bool false, .int .i64 0, .int .i64 0, .int .i64 0, .int .i64 0] 165)
   refine hK.out _ _ HB3.out (fun _=> ?_)
   clear hK K
   try simp only [Act.put,List.getElem_toArray,List.getElem_cons_zero,List.getElem_cons_succ,List.setIfInBounds_toArray,List.set_cons_zero,List.set_cons_succ]
   refine wpAnyH_ready (rs:=[5]) (by kernel_rfl) (by simp) ?_
   refine AllReadyH.cons rfl (fun K hK=> ?_) AllReadyH.nil
   refine pG rfl _ _ _ rfl w2.heap.size #[.bool (dD k).name, .int .i64 ((dD k).low:Int), .int .i64 ((dD k).types:Int), .int .i64 (dD k).kids, .int .i64 (dD k).most] rfl rfl _ _ hzz (by kernel_rfl) rfl (by simp [Value.oneCell']) ?_
   have LA:=setRow_heap _ w2.heap.size _ #[.bool (dD k).name, .int .i64 ((dD k).low:Int), .int .i64 ((dD k).types:Int), .int .i64 (dD k).kids, .int .i64 (dD k).most] _ _ hzz
   have Py:=hid (below_setRow HB3.out HB2.out.size #[.bool (dD k).name, .int .i64 ((dD k).low:Int), .int .i64 ((dD k).types:Int), .int .i64 (dD k).kids, .int .i64 (dD k).most])
   have HZ2:=hid LA
   clear hzz LA
   refine hK.out _ _ Py.out (fun _=> ?_)
   clear hK K
   try simp only [Act.put,List.getElem_toArray,List.getElem_cons_zero,List.getElem_cons_succ,List.setIfInBounds_toArray,List.set_cons_zero,List.set_cons_succ]
   refine wpAnyH_done (by kernel_rfl) ?_ _
   go_wp2_with fail
   go_meet
   case rel=>exact⟨_,rfl,HB2.out.size,HZ2.out,Py.out⟩
  ·go_simp
   have HB3:=hid (HB0.out.alloc HB0.out.size (.cells #[.bool false, .int .i64 0, .int .i64 0, .int .i64 0, .int .i64 0] 165))
   refine hK.out _ _ HB3.out (fun _=> ?_)
   clear hK K
   try simp only [Act.put,List.getElem_toArray,List.getElem_cons_zero,List.getElem_cons_succ,List.setIfInBounds_toArray,List.set_cons_zero,List.set_cons_succ]
   refine wpAnyH_ready (rs:=[0]) (by kernel_rfl) (by simp) ?_
   refine AllReadyH.cons rfl (fun K hK=> ?_) AllReadyH.nil
   go_simp
   refine(NM.out _).mono ?_
   rintro e w2 ⟨⟨v,rfl,hix⟩,hb⟩
   have hzz:=(hb.block _ (block_lt (heap_alloc_new W.drew (.cells #[.bool false, .int .i64 0, .int .i64 0, .int .i64 0, .int .i64 0] 165)))).trans (heap_alloc_new W.drew (.cells #[.bool false, .int .i64 0, .int .i64 0, .int .i64 0, .int .i64 0] 165))
   have o9:=hid (HB3.out.trans (hb.mono HB3.out.size))
   have XC:=hid hix
   clear hb hix
   refine hK.out _ _ o9.out (fun _=> ?_)
   clear hK K
   try simp only [Act.put,List.getElem_toArray,List.getElem_cons_zero,List.getElem_cons_succ,List.setIfInBounds_toArray,List.set_cons_zero,List.set_cons_succ]
   refine wpAnyH_take (i:=3) (v:=(Lx (dD k))) rfl (by kernel_rfl) (by kernel_rfl) (by kernel_rfl) (fun _ _ _ h=>h) (Or.inl ⟨by kernel_rfl,by intro w' hSw;have hix:=XC.out;go_simp⟩) o9.out ?_
   try simp only [Act.put,List.getElem_toArray,List.getElem_cons_zero,List.getElem_cons_succ,List.setIfInBounds_toArray,List.set_cons_zero,List.set_cons_succ]
   refine wpAnyH_ready (rs:=[5]) (by kernel_rfl) (by simp) ?_
   refine AllReadyH.cons rfl (fun K hK=> ?_) AllReadyH.nil
   refine pG rfl _ _ _ rfl W.heap.size #[.bool (dD k).name, .int .i64 ((dD k).low:Int), .int .i64 ((dD k).types:Int), .int .i64 (dD k).kids, .int .i64 (dD k).most] rfl rfl _ _ hzz (by kernel_rfl) rfl (by simp [Value.oneCell']) ?_
   have LA:=setRow_heap _ W.heap.size _ #[.bool (dD k).name, .int .i64 ((dD k).low:Int), .int .i64 ((dD k).types:Int), .int .i64 (dD k).kids, .int .i64 (dD k).most] _ _ hzz
   have Py:=hid (below_setRow o9.out (Nat.le_refl _) #[.bool (dD k).name, .int .i64 ((dD k).low:Int), .int .i64 ((dD k).types:Int), .int .i64 (dD k).kids, .int .i64 (dD k).most])
   have HZ2:=hid LA
   clear hzz LA
   refine hK.out _ _ Py.out (fun _=> ?_)
   clear hK K
   try simp only [Act.put,List.getElem_toArray,List.getElem_cons_zero,List.getElem_cons_succ,List.setIfInBounds_toArray,List.set_cons_zero,List.set_cons_succ]
   refine wpAnyH_done (by kernel_rfl) ?_ _
   go_wp2_with fail
   go_meet
   case rel=>exact⟨_,rfl,(Nat.le_refl _),HZ2.out,Py.out⟩
 case rest=>
  obtain⟨b5,rfl,hb5,hrow,hbw⟩:=hcut
  generalize(dD k).name=hn at*
  generalize(dD k).low=lo at*
  generalize(dD k).types=hi at*
  generalize(dD k).kids=kd at*
  generalize(dD k).most=mo at*
  have dP:=hid hrow
  have jP:=hid hbw
  clear NM hrow hbw
  go_upto_block 0 with(fail)
  obtain⟨kv,hkv⟩:∃kv,pF kd b=kv:=⟨_,rfl⟩
  rw [hkv]at UZ
  have XD:=hid hkv
  clear hkv
  go_cut [5]from 10 (fun v5 wc=>v5= .pointer (some ⟨b5,0,none⟩)∧(kd<0∨b=0)∧wc.heap[b5]? =some (.cells #[.bool hn, .int .i64 (lo:Int), .int .i64 (hi:Int), .int .i64 kv, .int .i64 mo] 165 (0,0))∧Below W.heap.size W wc)
  case first=>
   obtain⟨e0,e1,e2,e3,e4⟩:=Bl dP.out
   have f3:=bI dP.out 3
   obtain⟨p0,p1,p2,p3,p4,p5,p6,p7⟩:=gq ((jP.out.block _ (block_lt ug.out)).trans ug.out)
   clear e0 e1 e2 e4 p0 p1 p2 p3 p4 p5 p7
   by_cases hk:kd<0
   ·have g1:decide (kd<0)=true:=by simpa using hk
    have HV:Hid (kv=(b:Int)):=hid (by rw [←XD.out];unfold pF;rw [if_pos hk])
    have CB:=hid hk
    clear hk
    go_wp2_with fail
    go_meet
    case rel=>
     refine⟨rfl, .inl CB.out, ?_,jP.out.trans ((ak wc b5 3 (.int .i64 (b:Int))).below jP.out.size (fun j hj e=>by omega))⟩
     rw [HV.out]
     exact heap_setCell_same wc b5 3 _ _ _ dP.out
   ·have g1:decide (kd<0)=false:=by simpa using hk
    have HV:Hid (kv=kd):=hid (by rw [←XD.out];unfold pF;rw [if_neg hk])
    have CB:=hid hk
    clear hk
    by_cases hb0:0<b
    ·have g2:decide ((0:Int)<(b:Int))=true:=by simp;omega
     have HF:Hid (res=false):=hid (by rw [UZ.out,decide_eq_false (by have:=CB.out;omega:¬(kd<0∨b=0))];simp)
     go_wp2_with fail
     go_ret
     refine⟨by rw [HF.out];rfl,HB1.out.trans (jP.out.mono HB1.out.size)⟩
    ·have g2:decide ((0:Int)<(b:Int))=false:=by simp;omega
     have XE:Hid (b=0):=hid (by omega)
     go_wp2_with fail
     go_meet
     case rel=>
      refine⟨rfl, .inr XE.out, ?_,jP.out⟩
      rw [HV.out]
      exact dP.out
  case rest=>
   rename_i wc0
   clear dP jP XD
   obtain⟨rfl,hkb,hrow,hbw⟩:=hcut
   have HRR:Hid (res=(decide (0≤n∧n≤mo) && mH k text hn && decide (lo≤a∧a≤hi) && decide ((d:Int)=kv) && q && ts.all (bH 16) && ks.all (gX m))):=hid (by rw [UZ.out,decide_eq_true hkb,Bool.true_and])
   have Iy:=hid (TK.out wc hbw hn lo hi kv mo)
   have dP:=hid hrow
   have jP:=hid hbw
   obtain⟨e0,e1,e2,e3,e4⟩:=Bl hrow
   obtain⟨p0,p1,p2,p3,p4,p5,p6,p7⟩:=gq ((hbw.block _ (block_lt ug.out)).trans ug.out)
   clear TK UZ hkb hrow hbw
   generalize mH k text hn=tb at*
   by_cases n0:n<0
   ·have g1:decide (n<0)=true:=by simpa using n0
    have HF:Hid (res=false):=hid (by rw [HRR.out,decide_eq_false (by omega:¬(0≤n∧n≤mo))];simp)
    clear n0
    go_wp2_with fail
    go_ret
    refine⟨by rw [HF.out];rfl,HB1.out.trans (jP.out.mono HB1.out.size)⟩
   have g1:decide (n<0)=false:=by simpa using n0
   by_cases n1:mo<n
   ·have g2:decide (mo<n)=true:=by simpa using n1
    have HF:Hid (res=false):=hid (by rw [HRR.out,decide_eq_false (by omega:¬(0≤n∧n≤mo))];simp)
    clear n0 n1
    go_wp2_with fail
    go_ret
    refine⟨by rw [HF.out];rfl,HB1.out.trans (jP.out.mono HB1.out.size)⟩
   have g2:decide (mo<n)=false:=by simpa using n1
   have F6:Hid (res=(tb && decide (lo≤a∧a≤hi) && decide ((d:Int)=kv) && q && ts.all (bH 16) && ks.all (gX m))):=hid (by rw [HRR.out,decide_eq_true (by omega:0≤n∧n≤mo),Bool.true_and])
   clear HRR n0 n1
   go_wp2_with fail
   refine Iy.out.mono ?_
   rintro e w3 ⟨rfl,hb3⟩
   have nU:=jP.out.trans (hb3.mono jP.out.size)
   have hrow3:=(hb3.block _ (block_lt dP.out)).trans dP.out
   have HB3:=hid nU
   have mV:=hid hrow3
   have YT:=hid (Mf.out w3 nU)
   clear e0 e1 e2 e3 e4 p0 p1 p2 p3 p4 p5 p6 p7 hb3
   obtain⟨e0,e1,e2,e3,e4⟩:=Bl hrow3
   obtain⟨p0,p1,p2,p3,p4,p5,p6,p7⟩:=gq ((nU.block _ (block_lt ug.out)).trans ug.out)
   clear nU hrow3 Mf Iy jP dP
   cases tb with
   | false=>
    have HF:Hid (res=false):=hid (by rw [F6.out];simp)
    go_wp2_with fail
    go_ret
    refine⟨by rw [HF.out];rfl,HB1.out.trans (HB3.out.mono HB1.out.size)⟩
   | true=>
    go_wp2_with fail
    refine YT.out.mono ?_
    rintro e w4 ⟨rfl,hb4⟩
    have IW:=HB3.out.trans (hb4.mono HB3.out.size)
    have hrow4:=(hb4.block _ (block_lt mV.out)).trans mV.out
    have o9:=hid IW
    clear e0 e1 e2 e3 e4 p0 p1 p2 p3 p4 p5 p6 p7 hb4
    obtain⟨e0,e1,e2,e3,e4⟩:=Bl hrow4
    obtain⟨p0,p1,p2,p3,p4,p5,p6,p7⟩:=gq ((IW.block _ (block_lt ug.out)).trans ug.out)
    clear IW hrow4 YT HB3 mV
    cases q with
    | false=>
     have HF:Hid (res=false):=hid (by rw [F6.out];simp)
     go_wp2_with fail
     go_ret
     refine⟨by rw [HF.out];rfl,HB1.out.trans (o9.out.mono HB1.out.size)⟩
    | true=>
     by_cases h1:a<lo
     ·have g3:decide ((a:Int)<(lo:Int))=true:=by simp;omega
      have HF:Hid (res=false):=hid (by rw [F6.out,decide_eq_false (by omega:¬(lo≤a∧a≤hi))];simp)
      go_wp2_with fail
      go_ret
      refine⟨by rw [HF.out];rfl,HB1.out.trans (o9.out.mono HB1.out.size)⟩
     have g3:decide ((a:Int)<(lo:Int))=false:=by simp;omega
     by_cases h2:hi<a
     ·have g4:decide ((hi:Int)<(a:Int))=true:=by simp;omega
      have HF:Hid (res=false):=hid (by rw [F6.out,decide_eq_false (by omega:¬(lo≤a∧a≤hi))];simp)
      go_wp2_with fail
      go_ret
      refine⟨by rw [HF.out];rfl,HB1.out.trans (o9.out.mono HB1.out.size)⟩
     have g4:decide ((hi:Int)<(a:Int))=false:=by simp;omega
     by_cases h3:(d:Int)=kv
     ·have XF:Hid (res=(ts.all (bH 16) && ks.all (gX m))):=hid (by rw [F6.out,decide_eq_true (by omega:lo≤a∧a≤hi),decide_eq_true h3];simp)
      have g5:((d:Int) != kv)=false:=by rw [bne_eq_false_iff_eq];exact h3
      clear h3 F6
      go_wp2_with fail
      clear e0 e1 e2 e3 e4 p0 p1 p2 p3 p4 p5 p6 p7 g1 g2 g3 g4 g5 h1 h2
      go_loopw [88] (fun XG wr=>∃i:Nat,XG= .int .i64 i∧i≤a∧(ts.take i).all (bH 16)=true∧Below W.heap.size W wr) (fun XG _=>a - (intOf XG).toNat)
      case atStart=>exact⟨0,rfl,by omega,rfl,o9.out⟩
      case round=>
       obtain⟨i,rfl,hi_,hinv,hbr⟩:=hrel
       have HI:=hid hinv
       have HB:=hid hbr
       clear hinv
       by_cases hlt:i<a
       ·have hil:i<ts.length:=by rw [HA.out];exact hlt
        obtain⟨b2,o2,kk,ss,A5,n5,c5,A6,n6,c6,rfl,hr1,e0,e1,e2,e3⟩:=Bj (Sl.more (Sl.below F4.out.1 hbr) hbr.size) ((F4.out.2.keep hbr).more hbr.size) hil HA.out.symm
        obtain⟨wA,Dv⟩:∃wA,wr.alloc (.cells #[.int .i64 kk, .string ss, .slice A5 n5 c5, .slice A6 n6 c6] 63)=wA:=⟨_,rfl⟩
        have Dw:Below wr.heap.size wr wA:=by rw [←Dv];exact(Below.refl _ _).alloc (Nat.le_refl _) _
        have HC:=hid (Oh.out wA _ ts[i] (hr1.far (Nat.le_refl _) Dw) (HOT.out _ (List.getElem_mem hil)) ((HX.out.below hbr).below Dw))
        have Ip:=hid Dw
        have TL:=hid Dv
        have hst:=yE hil
        rw [←Dv]at HC
        clear hbr hr1 Dw Dv
        cases hq:bH 16 ts[i]with
        | false=>
         have hall:ts.all (bH 16)=false:=by
          cases h:ts.all (bH 16)with
          | false=>rfl
          | true=>rw [List.all_eq_true]at h;rw [h _ (List.getElem_mem hil)]at hq;cases hq
         have HF:Hid (res=false):=hid (by rw [XF.out,hall];simp)
         rw [hq]at HC
         clear hq hst hall
         generalize ts[i]=X at*
         go_wp2_with fail
         refine HC.out.mono ?_
         rintro e w5 ⟨rfl,hb⟩
         rw [TL.out]at hb
         have nk:=hid (HB.out.trans ((Ip.out.trans (hb.mono Ip.out.size)).mono HB.out.size))
         clear hb e0 e1 e2 e3
         go_wp2_with fail
         go_ret
         refine⟨by rw [HF.out];rfl,HB1.out.trans (nk.out.mono HB1.out.size)⟩
        | true=>
         have HST:Hid ((ts.take (i+1)).all (bH 16)=true):=hid (by rw [hst,List.all_append,HI.out];simp [hq])
         rw [hq]at HC
         clear hq hst
         generalize ts[i]=X at*
         go_wp2_with fail
         refine HC.out.mono ?_
         rintro e w5 ⟨rfl,hb⟩
         rw [TL.out]at hb
         have nk:=hid (HB.out.trans ((Ip.out.trans (hb.mono Ip.out.size)).mono HB.out.size))
         clear hb e0 e1 e2 e3
         go_wp2_with fail
         go_roundw
         case rel=>exact⟨i+1,rfl,by omega,HST.out,nk.out⟩
         case measure=>simp [intOf];omega
       ·obtain rfl:i=a:=by omega
        have YU:Hid (res=ks.all (gX m)):=hid (by
         have h:=HI.out
         rw [List.take_of_length_le (by rw [HA.out];omega)]at h
         rw [XF.out,h,Bool.true_and])
        obtain⟨p0,p1,p2,p3,p4,p5,p6,p7⟩:=gq ((hbr.block _ (block_lt ug.out)).trans ug.out)
        clear hlt hbr HI XF
        go_wp2_with fail
        clear p0 p1 p2 p3 p4 p5 p6 p7
        go_loopw [99] (fun XH wr=>∃i:Nat,XH= .int .i64 i∧i≤d∧(ks.take i).all (gX m)=true∧Below W.heap.size W wr) (fun XH _=>d - (intOf XH).toNat)
        case atStart=>exact⟨0,rfl,by omega,rfl,HB.out⟩
        case round=>
         obtain⟨j,rfl,hj_,Oi,tJ⟩:=hrel
         have HI2:=hid Oi
         have HB2:=hid tJ
         clear Oi
         by_cases hlt:j<d
         ·have hil:j<ks.length:=by rw [HD.out];exact hlt
          obtain⟨b2,o2,kk,ss,y2,y3,y4,A5,n5,c5,A6,n6,c6,A7,n7,c7,rfl,hr1,e0,e1,e2,e3,e4,e5,e6,e7⟩:=wS (Sl.more (Sl.below HKK.out.1 tJ) tJ.size) ((HKK.out.2.keep tJ).more tJ.size) hil HD.out.symm
          obtain⟨wA,Dv⟩:∃wA,wr.alloc (.cells #[.int .i64 kk, .string ss, .int .i64 y2, .int .i64 y3, .int .i64 y4, .slice A5 n5 c5, .slice A6 n6 c6, .slice A7 n7 c7] 49)=wA:=⟨_,rfl⟩
          have Dw:Below wr.heap.size wr wA:=by rw [←Dv];exact(Below.refl _ _).alloc (Nat.le_refl _) _
          have HC:=hid (MW.out wA _ ks[j] (hr1.far (Nat.le_refl _) Dw) (FY.out _ (List.getElem_mem hil)) ((HX.out.below tJ).below Dw))
          have Ip:=hid Dw
          have TL:=hid Dv
          have hst:=yE hil
          rw [←Dv]at HC
          clear tJ hr1 Dw Dv
          cases hq:gX m ks[j]with
          | false=>
           have hall:ks.all (gX m)=false:=by
            cases h:ks.all (gX m)with
            | false=>rfl
            | true=>rw [List.all_eq_true]at h;rw [h _ (List.getElem_mem hil)]at hq;cases hq
           have HF:Hid (res=false):=hid (by rw [YU.out,hall])
           rw [hq]at HC
           clear hq hst hall
           generalize ks[j]=X at*
           go_wp2_with fail
           refine HC.out.mono ?_
           rintro e w5 ⟨rfl,hb⟩
           rw [TL.out]at hb
           have nk:=hid (HB2.out.trans ((Ip.out.trans (hb.mono Ip.out.size)).mono HB2.out.size))
           clear hb e0 e1 e2 e3 e4 e5 e6 e7
           go_wp2_with fail
           go_ret
           refine⟨by rw [HF.out];rfl,HB1.out.trans (nk.out.mono HB1.out.size)⟩
          | true=>
           have HST:Hid ((ks.take (j+1)).all (gX m)=true):=hid (by rw [hst,List.all_append,HI2.out];simp [hq])
           rw [hq]at HC
           clear hq hst
           generalize ks[j]=X at*
           go_wp2_with fail
           refine HC.out.mono ?_
           rintro e w5 ⟨rfl,hb⟩
           rw [TL.out]at hb
           have nk:=hid (HB2.out.trans ((Ip.out.trans (hb.mono Ip.out.size)).mono HB2.out.size))
           clear hb e0 e1 e2 e3 e4 e5 e6 e7
           go_wp2_with fail
           go_roundw
           case rel=>exact⟨j+1,rfl,by omega,HST.out,nk.out⟩
           case measure=>simp [intOf];omega
         ·obtain rfl:j=d:=by omega
          have HF:Hid (res=true):=hid (by
           have h:=HI2.out
           rw [List.take_of_length_le (by rw [HD.out];omega)]at h
           rw [YU.out,h])
          clear tJ hlt
          go_wp2_with fail
          go_ret
          refine⟨by rw [HF.out];rfl,HB1.out.trans (HB2.out.mono HB1.out.size)⟩
     ·have HF:Hid (res=false):=hid (by rw [F6.out,decide_eq_false h3];simp)
      have g5:((d:Int) != kv)=true:=by rw [bne_iff_ne];exact h3
      clear h3
      go_wp2_with fail
      go_ret
      refine⟨by rw [HF.out];rfl,HB1.out.trans (o9.out.mono HB1.out.size)⟩
theorem Dx:∀m:Nat,m≤41→UY m
 | 0, _=>IU
 | m+1,h=>IV m (by omega) (Dx m (by omega))
end Go.Proofs.YtmbppnbekkbibaaGreatDoor
end
section
set_option linter.unusedVariables false
namespace Go.Proofs.YtmbppnbekkbibaaGreatDoor
open Go.RowKit
def TM (x:bD):Prop:=∀(w:World) (z:List Value) (m:Nat),qH w w.heap.size z x→Mj x→gX m x=true→dZ x≤100000→jk w→
 Calls Tryz.prog 61 #[.agg z.toArray] w fun e w'=>e= .returned (sv (mI x))∧Below w.heap.size w w'
end Go.Proofs.YtmbppnbekkbibaaGreatDoor
end
