/- GK, GL, TL, TM, UM, GM, GN -/
import Derived.Test.YtfgjkmipfikooaaGreatDoorTKQ
import Derived.Test.YtfgjkmipfikooaaGreatDoorTK17
import Derived.Test.YtfgjkmipfikooaaGreatDoorTK03
import Derived.Lib.Join
import Derived.Lib.ItoaLen
import Derived.Test.YtfgjkmipfikooaaGreatDoorTK06
import Derived.Deep.RegionHeld
import Derived.Test.YtfgjkmipfikooaaGreatDoorTK01
import Derived.Lib.OthersKept
import Derived.Lib.TrimU
import Derived.Test.YtfgjkmipfikooaaGreatDoorTK04
import Derived.Deep.LoopGhost
import Derived.Shelf.Strings.IndexFuncSpace
import Derived.Test.YtfgjkmipfikooaaGreatDoorTK02
import Derived.Test.YtfgjkmipfikooaaGreatDoorProg
import Derived.Deep.WholeRow
set_option linter.unusedSimpArgs false
set_option linter.unusedVariables false
set_option maxRecDepth 100000
set_option maxHeartbeats 4000000
namespace Go.Proofs.YtfgjkmipfikooaaGreatDoor
open Go.RowKit
mutual
def iL:aZ→Nat
 | .mk _ _ _ ks=>1+fH ks
def fH:List aZ→Nat
 | []=>0
 | t :: l=>iL t+fH l
end
def iM (l:List Bt):Nat:=(l.map List.length).sum
theorem iV (x:Bt) (l:List Bt):iM (x :: l)=x.length+iM l:=by simp [iM]
theorem nS (sep:Bt):∀l:List Bt,(jd sep l).length≤iM l+sep.length*l.length
 | []=>by simp [jd]
 | [x]=>by simp [jd,iM]
 | x :: y :: l=>by
  have h:=nS sep (y :: l);rw [jd,List.length_append,List.length_append,iV,List.length_cons,Nat.mul_succ];omega
theorem lH {s:Bt} (h:bY s=true):s.length≤32:=by
 rcases Nat.lt_or_ge 32 s.length with h1 | h1
 ·rw [yY h1]at h;cases h
 ·exact h1
theorem vw:∀(ns l:List Bt),(∀n∈ns,n.length≤32)→iM (List.zipWith gu ns l)≤iM l+34*l.length
 | [],l, _=>by simp [iM]
 | n :: ns,[], _=>by simp [iM]
 | n :: ns,x :: l,h=>by
  have h1:=vw ns l fun y hy=>h y (List.mem_cons_of_mem _ hy);have h2:=h n (List.mem_cons_self ..);rw [List.zipWith_cons_cons,iV,iV,List.length_cons];have h3:(gu n x).length=n.length+(2+x.length):=by unfold gu;simp only [List.length_append,List.length_cons,List.length_nil]
  omega
theorem Ca {α β γ:Type} (f:α→β→γ):∀(a:List α) (b:List β),(List.zipWith f a b).length≤b.length
 | [],b=>by simp
 | x :: a,[]=>by simp
 | x :: a,y :: b=>by rw [List.length_zipWith];omega
theorem y9 (ks:List Int) (k:Int) (s:Bt):(gK ks k s).length≤s.length+2:=by
 unfold gK;split
 ·simp
 ·omega
theorem Bd (kk:List Int):∀(ks:List Int) (l:List Bt),iM (List.zipWith (gK kk) ks l)≤iM l+2*l.length
 | [],l=>by simp [iM]
 | k :: ks,[]=>by simp [iM]
 | k :: ks,x :: l=>by
  have h1:=Bd kk ks l;have h2:=y9 kk k x;rw [List.zipWith_cons_cons,iV,iV,List.length_cons];omega
theorem Ee (l:List Bt) (i:Nat):(l.getD i []).length≤iM l:=by
 induction l generalizing i with
 | nil=>simp [iM]
 | cons x l ih=>
  rw [iV];cases i with
  | zero=>simp
  | succ i=>have:=ih i;simp only [List.getD_cons_succ];omega
theorem OC (l:List Bt):(l.getD 0 []).length+(l.getD 1 []).length≤iM l:=by
 match l with
 | []=>simp [iM]
 | [x]=>simp [iM]
 | x :: y :: l=>simp [iM]
theorem nk (l:List aZ):(dB l).length=l.length:=by rw [lM,List.length_map]
mutual
theorem nT:∀(t:aZ) (m:Nat),aH m t=true→(bV t).length+44≤80*iL t
 | .mk k nm ns ks,m,h=>by
  obtain⟨m,rfl⟩:∃q,m=q+1:=by
   cases m with
   | zero=>cases h
   | succ q=>exact⟨q,rfl⟩
  have h:(ns.all bY && ks.all (aH m) && dI k nm ns.length ks.length)=true:=h;rw [Bool.and_eq_true,Bool.and_eq_true]at h;obtain⟨⟨h1,h2⟩,h3⟩:=h;have hn:∀n∈ns,n.length≤32:=fun n hn=>lH (List.all_eq_true.1 h1 n hn);have hk:=qE ks m h2;have hl:=nk ks;rw [bV,iL];split
  ·simp;omega
  split
  ·simp;omega
  split
  ·simp;omega
  split
  ·simp;omega
  split
  ·simp;omega
  split
  ·have a1:=nS [44,32] (List.zipWith gu ns (dB ks));have a2:=vw ns (dB ks) hn;have a3:=Ca gu ns (dB ks);simp only [List.length_append,List.length_cons,List.length_nil]at a1 ⊢;omega
  split
  ·have a1:=y9 [6] ((ks.map aZ.kind).getD 0 0) ((dB ks).getD 0 []);have a2:=OC (dB ks);simp only [List.length_append,List.length_cons,List.length_nil];omega
  split
  ·have a1:=nS [32,124,32] (List.zipWith (gK [6,7]) (ks.map aZ.kind) (dB ks));have a2:=Bd [6,7] (ks.map aZ.kind) (dB ks);have a3:=Ca (gK [6,7]) (ks.map aZ.kind) (dB ks);simp only [List.length_append,List.length_cons,List.length_nil]at a1 ⊢;omega
  ·have hnm:nm.length≤32:=by
    unfold dI at h3;split at h3
    ·rw [Bool.and_eq_true]at h3;exact lH h3.2
    ·split at h3
     ·cases h3
     ·rename_i h4
      have:nm=[]:=by
       rcases nm with _ | ⟨c,r⟩
       ·rfl
       ·exact absurd (.inl (by simp)) h4
      rw [this];simp
   omega
theorem qE:∀(l:List aZ) (m:Nat),l.all (aH m)=true→iM (dB l)+44*l.length≤80*fH l
 | [], _, _=>by simp [iM,dB]
 | t :: l,m,h=>by
  rw [List.all_cons,Bool.and_eq_true]at h;have h1:=nT t m h.1;have h2:=qE l m h.2;rw [dB,iV,fH,List.length_cons];omega
end
def za (t:aZ):Prop:=∀(w:World) (z:List Value) (m:Nat),nX w w.heap.size z t→aH m t=true→iL t≤300000→
 Calls Tryz.prog 60 #[.agg z.toArray] w fun e w'=>e= .returned (sv (bV t))∧Below w.heap.size w w'
theorem ze (t:aZ) (hS:za t) (w:World) (z:List Value) (m:Nat) (hr:nX w w.heap.size z t) (hw:aH m t=true) (hc:iL t≤300000) (bq:Nat) (kk:List Int) (hk:kk.length≤10) (hq:∀j,j<kk.length→w.cell? ⟨bq,0+j,none⟩=some (.int .i64 (kk.getD j 0))) (hbq:bq<w.heap.size):
  Calls Tryz.prog 124 #[.agg z.toArray, .slice (some ⟨bq,0,none⟩) kk.length kk.length] w fun e w'=>e= .returned (sv (gK kk t.kind (bV t)))∧Below w.heap.size w w':=by
 have hlen:=nT t m hw;obtain⟨k,nm,ns,ks⟩:=t;obtain⟨A1,c1,A2,c2,xk,hz,s1,s2,r2⟩:=hr.parts;have hb1:Below w.heap.size w (w.alloc (.cells z.toArray 57)):=(Below.refl _ _).alloc (Nat.le_refl _) _;have HS:=hid (hS _ z m (hr.far (Nat.le_refl _) hb1) hw hc);have HC:=hid (Tryz.slices_Contains_int bq 0 kk.length kk.length kk k (w.alloc (.cells z.toArray 57)) (Nat.le_refl _) (by omega) (fun j hj=>rC hb1 (hq j hj) hbq));have HB:=hid hb1;subst hz;have hki:(aZ.mk k nm ns ks).kind=k:=rfl;rw [hki];generalize bV (.mk k nm ns ks)=s at*
 generalize iL (.mk k nm ns ks)=N at*
 rw [List.take_length]at HC;have hsz:=bT s;have h1:¬(9223372036854775807<1+s.length):=by omega
 have h2:¬(9223372036854775807<1+s.length+1):=by omega
 clear hr hw hS hb1 hq hbq s1 s2 r2 hki hlen hc;cases hcn:kk.contains k with
 | true=>
  rw [hcn]at HC;have HT:Hid (gK kk k s=[40]++(s++[41])):=hid (by unfold gK;rw [hcn];rfl);clear hcn;go_enter Tryz.func124,Tryz.ntmps124;go_wp2_with fail;refine HC.out.mono ?_;rintro e w2 ⟨rfl,rfl⟩;go_wp2_with fail;refine HS.out.mono ?_;rintro e w3 ⟨rfl,hb3⟩;go_wp2_with fail;go_ret;refine⟨?_,HB.out.trans (hb3.mono HB.out.size)⟩;rw [HT.out];have e:(⟨#[40]⟩:ByteArray)++⟨s.toArray⟩++⟨#[41]⟩=⟨([40]++(s++[41])).toArray⟩:=by
   rw [show(⟨#[40]⟩:ByteArray)=⟨([40]:Bt).toArray⟩from rfl,show(⟨#[41]⟩:ByteArray)=⟨([41]:Bt).toArray⟩from rfl,dX,dX,List.append_assoc]
  exact congrArg (fun b=>Ending.returned (Value.string b)) e
 | false=>
  rw [hcn]at HC;have HT:Hid (gK kk k s=s):=hid (by unfold gK;rw [hcn];rfl);clear hcn;go_enter Tryz.func124,Tryz.ntmps124;go_wp2_with fail;refine HC.out.mono ?_;rintro e w2 ⟨rfl,rfl⟩;go_wp2_with fail;refine HS.out.mono ?_;rintro e w3 ⟨rfl,hb3⟩;go_wp2_with fail;go_ret;exact⟨by rw [HT.out];rfl,HB.out.trans (hb3.mono HB.out.size)⟩
theorem sj (sep:Bt):∀l:List Bt,Lib.join l sep=jd sep l
 | []=>rfl
 | [x]=>Lib.join_one x sep
 | x :: y :: l=>by
  have h:=sj sep (y :: l);rw [jd, ←h];simp [Lib.join,List.intercalate]
theorem Ef (w:World) (v:Value) (l:List Bt) (sep:Bt) (hv:Ss w w.heap.size v l) (hn:l.length≤140737488355328) (hlen:(jd sep l).length≤140737488355328):
  Calls Tryz.prog 69 #[v,sv sep] w fun e w'=>e= .returned (sv (jd sep l))∧Below w.heap.size w w':=by
 obtain⟨A,c,rfl,hlc,hcm,hcell⟩:=hv.open_;rcases Nat.eq_zero_or_pos l.length with h0 | h0
 ·have hl:l=[]:=List.length_eq_zero_iff.1 h0;subst hl;refine(Tryz.strings_Join_none A c ⟨sep.toArray⟩ w).mono ?_;rintro e w2 ⟨rfl,rfl⟩;exact⟨rfl,Below.refl _ _⟩
 ·obtain⟨b,off,rfl,hb,hc⟩:=hcell h0;have hmap:(l.map fun x:Bt=>(⟨x.toArray⟩:ByteArray)).map (·.data.toList)=l:=by
   rw [List.map_map]
   conv=>rhs;rw [←List.map_id l]
   apply List.map_congr_left;intro x _;simp
  have h:=Tryz.strings_Join b off c (l.map fun x:Bt=>⟨x.toArray⟩) ⟨sep.toArray⟩ w (fun j x hx=>by
   rw [List.getElem?_map]at hx;rcases hj:l[j]? with _ | y
   ·rw [hj]at hx;cases hx
   ·rw [hj]at hx;injection hx with hx;obtain⟨hjl,rfl⟩:=List.getElem?_eq_some_iff.1 hj;rw [←hx];exact hc j hjl) hb (by rw [List.length_map];exact hn) (by rw [List.length_map];exact hlc) (by rw [hmap];show(Lib.join l sep.toArray.toList).length≤ _;rw [List.toList_toArray,sj];exact hlen)
  rw [hmap,List.length_map]at h;refine h.mono ?_;rintro e w2 ⟨rfl,hb2⟩;refine⟨?_,hb2⟩;show Ending.returned (Value.string ⟨(Lib.join l sep.toArray.toList).toArray⟩)= _;rw [List.toList_toArray,sj]
theorem xG:∀ {l:List aZ} {t:aZ},t∈l→iL t≤fH l
 | [], _,h=>by cases h
 | x :: l,t,h=>by
  rw [fH];rcases List.mem_cons.1 h with rfl | h
  ·omega
  ·have:=xG h;omega
theorem OD (t:aZ):0<iL t:=by cases t;rw [iL];omega
theorem zf:∀l:List aZ,l.length≤fH l
 | []=>by simp
 | t :: l=>by have:=zf l;have:=OD t;rw [fH,List.length_cons];omega
mutual
def zh:bR→Nat
 | .mk _ _ _ _ _ ts _ ks=>1+fH ts+qY ks
def qY:List bR→Nat
 | []=>0
 | t :: l=>zh t+qY l
end
theorem Eh:∀ {l:List bR} {t:bR},t∈l→zh t≤qY l
 | [], _,h=>by cases h
 | x :: l,t,h=>by
  rw [qY];rcases List.mem_cons.1 h with rfl | h
  ·omega
  ·have:=Eh h;omega
theorem MC (t:bR):0<zh t:=by cases t;rw [zh];omega
theorem vB:∀l:List bR,l.length≤qY l
 | []=>by simp
 | t :: l=>by have:=vB l;have:=MC t;rw [qY,List.length_cons];omega
theorem Qc {α:Type} {c:Prop} [Decidable c] {P:α→Prop} {a b:α} (ha:P a) (hb:P b):P (if c then a else b):=by
 by_cases h:c
 ·rw [if_pos h];exact ha
 ·rw [if_neg h];exact hb
theorem RL {s:Bt} (h:opsL.contains s=true):s.length≤3:=by
 have h1:s∈opsL:=by simpa using h
 have h2:∀x∈opsL,x.length≤3:=by decide
 exact h2 s h1
theorem zi {k:Int} {s:Bt} {b:Bool} (h:nA k s b=true):s.length≤256:=by
 unfold nA at h;split at h
 ·have:=lH h;omega
 split at h
 ·unfold zO at h;rw [Bool.and_eq_true,decide_eq_true_eq]at h;exact h.1
 split at h
 ·have:=RL h;omega
 ·have:s=[]:=by simpa using h
  rw [this];simp
theorem JE (s:Bt):(Br s).length≤2*s.length+2:=by
 have h1:=OA s;have h2:=Oz s;unfold Br;rw [List.length_cons,List.length_append];simp only [List.length_cons,List.length_nil];omega
theorem ME (ts:List aZ) (m:Nat) (h:ts.all (aH m)=true):(vJ ts 0).length+(vJ ts 1).length≤80*fH ts:=by
 have h1:=qE ts m h
 match ts,h1 with
 | [], _=>simp [vJ]
 | [t],h1=>
  simp [vJ,dB,iM]at h1 ⊢;omega
 | t :: u :: l,h1=>
  simp [vJ,dB,iM]at h1 ⊢;omega
theorem MF (i:Nat):(qN.getD i []).length≤28:=by
 have:=Ee qN i;have h:iM qN=28:=by decide
 omega
theorem Ik:∀l:List Bt,(cat l).length=iM l
 | []=>rfl
 | x :: l=>by
  have:=Ik l;rw [iV, ←this];simp [cat]
theorem JF (l:List Bt):(l.getD 0 []).length+(l.getD 1 []).length+(l.getD 2 []).length≤iM l:=by
 match l with
 | []=>simp [iM]
 | [x]=>simp [iM]
 | [x,y]=>simp [iM]
 | x :: y :: z :: l=>simp [iM];omega
theorem nu (l:List bR):(kM l).length=l.length:=by rw [nW,List.length_map]
theorem In64.itoa {n:Int} (h:0≤n∧n≤9223372036854775807):(Lib.itoa n).length≤40:=by
 have:=Lib.itoa_length_le n (by omega) (by omega);omega
theorem MG (k:Int) (text:Bt) (n:Int) (ts:List aZ) (ns:List Bt) (s:List Bt) (m:Nat) (ht:text.length≤256) (hn:0≤n∧n≤9223372036854775807) (hts:ts.all (aH m)=true) (hns:∀x∈ns,x.length≤32):
  (Aj k text n ts ns s).length+44≤700+80*fH ts+(iM s+36*s.length):=by
 have a1:=ME ts m hts;have a2:=qE ts m hts;have a3:=JF s;have a4:=MF n.toNat;have a5:=JE text;have a6:=nS [44,32] (ts.map bV);have a7:=nS [44,32] (List.zipWith gu ns s);have a8:=vw ns s hns;have a9:=Ca gu ns s;have Gl:=Ee (ts.map bV) 0;have EY:=In64.itoa hn;rw [lM]at a2;rw [List.length_map]at a6;simp only [List.length_cons,List.length_nil]at a6 a7;unfold Aj sM;generalize Lib.itoa n=it at*
 repeat' (refine Qc (P:=fun l:Bt=>l.length+44≤700+80*fH ts+(iM s+36*s.length)) ?_ ?_)
 all_goals first
  | omega
  | (rw [Ik];simp only [iM,List.map_cons,List.map_nil,List.sum_cons,List.sum_nil,List.length_cons,List.length_nil];simp only [iM]at*;omega)
  | (simp only [List.length_cons,List.length_nil];omega)
theorem MH {k:Int} {text:Bt} {n:Int} {a b c:Nat} (h:Bu k text n a b c=true):text.length≤256∧0≤n∧n≤9223372036854775807:=by
 unfold Bu at h;rw [Bool.and_eq_true,Bool.and_eq_true,Bool.and_eq_true,decide_eq_true_eq]at h;refine⟨zi h.1.1.2,h.1.1.1.1, ?_⟩;have h1:=h.1.1.1.2;have h2:(dH k).most≤9223372036854775807:=by
  show(fun h:NG=>h.most≤9223372036854775807) (dH k);unfold dH
  repeat' (refine Qc (P:=fun h:NG=>h.most≤9223372036854775807) ?_ ?_)
  all_goals (show(_:Int)≤ _;decide)
 omega
mutual
theorem zl:∀(x:bR) (m:Nat),dD m x=true→(nC x).length+44≤700*zh x
 | .mk k text n li co ts ns ks,m,h=>by
  obtain⟨m,rfl⟩:∃q,m=q+1:=by
   cases m with
   | zero=>cases h
   | succ q=>exact⟨q,rfl⟩
  have h:(decide (0≤k∧k<20) && Bu k text n ts.length ns.length ks.length && ns.all bY && ts.all (aH 16) && ks.all (dD m))=true:=h;rw [Bool.and_eq_true,Bool.and_eq_true,Bool.and_eq_true,Bool.and_eq_true]at h;obtain⟨⟨⟨⟨h1,h2⟩,h3⟩,h4⟩,h5⟩:=h;obtain⟨o1,o2⟩:=MH h2;have hk:=Bf ks m h5;have hl:=nu ks;have hh:=MG k text n ts ns (kM ks) 16 o1 o2 h4 (fun x hx=>lH (List.all_eq_true.1 h3 x hx));rw [nC,zh];omega
theorem Bf:∀(l:List bR) (m:Nat),l.all (dD m)=true→iM (kM l)+44*l.length≤700*qY l
 | [], _, _=>by simp [iM,kM]
 | t :: l,m,h=>by
  rw [List.all_cons,Bool.and_eq_true]at h;have h1:=zl t m h.1;have h2:=Bf l m h.2;rw [kM,iV,qY,List.length_cons];omega
end
theorem Gs (w:World) (n:Nat) (hn:n≤1000000):∃w1,(Instr.makeSlice 25 (.int .i64 n) (.int .i64 n)).run Tryz.prog w= .ok (.slice (some ⟨w.heap.size,0,none⟩) n n) w1∧
  (∃cur:List Value,w1.heap[w.heap.size]? =some (.cells cur.toArray 9 (0,0))∧cur.length=n)∧Below w.heap.size w w1:=by
 obtain⟨ht,hinfo, _, _⟩:=pI;obtain⟨i,hi,hz,hs,hb⟩:=info_parts hinfo;have hr:=run_make (P:=Tryz.prog) w 25 9 i _ ht hi hz .i64 .i64 n n (by omega) (Int.le_refl _) (by rw [hb];omega) (by omega);simp only [Int.toNat_natCast]at hr;refine⟨_,hr,⟨(madeCells (sv []).cells (n*i.size)).toList,by rw [Array.toArray_toList];exact heap_alloc_new w _,by rw [Array.length_toList,size_madeCells,hs,Nat.mul_one]⟩,(Below.refl _ _).alloc (Nat.le_refl _) _⟩
theorem JG {w:World} {b:Nat} {l:List Bt} {t:TypeId} {n:Nat} (hn:n=l.length) (h:w.heap[b]? =some (.cells (mD l).toArray t (0,0))) (hl:l.length≤maxLen):Ss w w.heap.size (.slice (some ⟨b,0,none⟩) n n) l:=by
 subst hn;refine⟨_,l.length,l.length,rfl,by simp [dR],Nat.le_refl _,hl,fun _=>⟨b,0,rfl,block_lt h,fun j u hu=> ?_⟩⟩;rw [Nat.zero_add,cell_of_row _ _ _ _ _ (0,0) h];simpa using hu
theorem MI {l:List Bt} {i:Nat} (h:i<l.length):mD (l.take (i+1))=mD (l.take i)++[sv l[i]]:=by
 rw [List.take_succ_eq_append_getElem h,jN];rfl
theorem MJ (F:Nat) (eg:∀args w,(callFunc F args).run Tryz.prog w= .ok (.enter F args) w) (caps:Array Value) (l:List Bt) (w:World) (hn:l.length≤1000000) (hlen:(jd [44,32] l).length≤140737488355328)
  (hF:∀(i:Nat) (hi:i<l.length) (w1:World),Below w.heap.size w w1→Calls Tryz.prog F (#[.int .i64 i]++caps) w1 fun e w2=>e= .returned (sv l[i])∧Below w1.heap.size w1 w2):
  Calls Tryz.prog 118 #[.int .i64 l.length, .func (.func F) #[] caps] w fun e w'=>e= .returned (sv (jd [44,32] l))∧Below w.heap.size w w':=by
 obtain⟨w1,hmk,⟨X6,hcur,hcl⟩,hb1⟩:=Gs w l.length hn;have HF:=hid hF;have UN:=hid hcur;have HB1:=hid hb1;have HLEN:=hid hlen;clear hF hcur hb1 hlen;obtain⟨n,hnl⟩:∃n,n=l.length:=⟨_,rfl⟩
 have UO:=hid hnl;rw [←hnl]at hmk hcl hn ⊢;clear hnl;obtain⟨bb,RN⟩:∃bb,bb=w.heap.size:=⟨_,rfl⟩
 have X8:=hid RN;rw [←RN]at UN hmk;clear RN;go_enter Tryz.func118,Tryz.ntmps118;go_wp2_with fail;clear hmk;go_loopw [10] (fun v10 wr=>∃(k:Nat) (cur:List Value),v10= .int .i64 k∧k≤n∧wr.heap[bb]? =some (.cells cur.toArray 9 (0,0))∧cur.length=n∧cur.take k=mD (l.take k)∧Below w.heap.size w wr) (fun v10 _=>n - (intOf v10).toNat)
 case atStart=>exact⟨0,X6,rfl,by omega,UN.out,hcl,rfl,HB1.out⟩
 case round=>
  obtain⟨k,cur,rfl,hk,hcur,hcn,htk,hbr⟩:=hrel;have Hu:=hid htk;clear htk;by_cases hlt:k<n
  ·have hkl:k<l.length:=by rw [←UO.out];exact hlt
   have HC:=hid (HF.out k hkl wr hbr);have HB:=hid hbr;have Zi:=hid hcur;have HST:=hid (MI hkl);generalize l[k]=X at*
   clear hbr hcur;go_wp2_with fail;refine HC.out.mono ?_;rintro e w2 ⟨rfl,hb⟩;have Il:=(hb.block _ (block_lt Zi.out)).trans Zi.out;have z1:w2.cell? ⟨bb,k,none⟩=some (cur[k]'(by omega)):=(cell_of_row _ _ _ _ _ (0,0) Il).trans (by simp [hcn,hlt]);have z2:=bL Il k;have hnew:=heap_setCell_same w2 bb k _ _ (sv X) Il;rw [List.setIfInBounds_toArray]at hnew;have X9:=hid hnew;have hb2:=HB.out.trans (hb.mono HB.out.size);have hbn:=hb2.trans ((ak w2 bb k (sv X)).below hb2.size (fun j hj h=>by have:=X8.out;omega));have htn:=Aa (v:=sv X) Hu.out (by omega);have vQ:=hid htn;have nL:=hid hbn;have Ya:=hid hcn;clear hnew htn Il hb hbn hb2;generalize cur[k]=cj at*
   go_wp2_with fail
   go_roundw
   case rel=>exact⟨k+1, _,rfl,by omega,X9.out,by rw [List.length_set];exact Ya.out,by rw [vQ.out,HST.out],nL.out⟩
   case measure=>simp [intOf];omega
  ·obtain rfl:k=n:=by omega
   have hcc:cur=mD l:=by
    have h1:=Hu.out;rw [List.take_of_length_le (by omega),List.take_of_length_le (by rw [←UO.out];omega)]at h1;exact h1
   subst hcc;have HJ:=hid (Ef wr (.slice (some ⟨bb,0,none⟩) k k) l [44,32] (JG UO.out hcur (by rw [←UO.out];unfold maxLen;omega)) (by rw [←UO.out];omega) HLEN.out);have HB:=hid hbr;clear hbr hcur;go_wp2_with fail;refine HJ.out.mono ?_;rintro e w2 ⟨rfl,hb⟩;go_wp2_with fail;go_ret;exact⟨rfl,HB.out.trans (hb.mono HB.out.size)⟩
theorem kp {w w':World} {a:Addr} {v:Value} (h:Below w.heap.size w w') (d:w.cell? a=some v):w'.cell? a=some v:=(h.cell (World.block_lt_of_cell? w a d)).trans d
theorem oG {w:World} {B:Nat} {A:Option Addr} {n c:Nat} {xk:List Value} {ks:List aZ} (h2:Sl w B 4 (.slice A n c) xk) (hr:iJ w B xk ks) {i:Nat} (hi:i<ks.length) (hn:n=ks.length):
  ∃b o k s A1 n1 c1 A2 n2 c2,A=some ⟨b,o,none⟩∧nX w B [.int .i64 k, .string s, .slice A1 n1 c1, .slice A2 n2 c2] ks[i]∧w.cell? ⟨b,o+i*4,none⟩=some (.int .i64 k)∧w.cell? ⟨b,o+i*4+1,none⟩=some (.string s)∧w.cell? ⟨b,o+i*4+2,none⟩=some (.slice A1 n1 c1)∧w.cell? ⟨b,o+i*4+3,none⟩=some (.slice A2 n2 c2):=by
 subst hn;obtain⟨b1,o1,rfl,hb1,hc1⟩:=wT h2 hi (by omega);have hr1:=hr.at i hi;obtain⟨kk,s,A1,n1,c1,A2,n2,c2,hv1⟩:=hr1.shape;rw [hv1]at hr1;refine⟨b1,o1,kk,s,A1,n1,c1,A2,n2,c2,rfl,hr1, ?_, ?_, ?_, ?_⟩
 ·have:=hc1 0 _ (iX hv1 (by omega:0<4));simpa using this
 ·have:=hc1 1 _ (iX hv1 (by omega:1<4));simpa [Nat.add_assoc]using this
 ·have:=hc1 2 _ (iX hv1 (by omega:2<4));simpa [Nat.add_assoc]using this
 ·have:=hc1 3 _ (iX hv1 (by omega:3<4));simpa [Nat.add_assoc]using this
theorem Cb {w:World} {B:Nat} {A:Option Addr} {n c:Nat} {ns:List Bt} (h:Ss w B (.slice A n c) ns) {i:Nat} (hi:i<ns.length):
  ∃b o,A=some ⟨b,o,none⟩∧w.cell? ⟨b,o+i,none⟩=some (sv ns[i]):=by
 obtain⟨A',c',hv, _, _,hx⟩:=h.open_;injection hv with e1 e2 e3;subst e1 e2 e3;obtain⟨b,o,hA, _,hc⟩:=hx (by omega);exact⟨b,o,hA,hc i hi⟩
theorem JH (w:World) (bt:Nat) (k:Int) (nm:Bt) (ns:List Bt) (ks:List aZ) (A1:Option Addr) (c1:Nat) (A2:Option Addr) (c2:Nat) (xk:List Value)
  (hbt:w.heap[bt]? =some (.cells #[.int .i64 k,sv nm, .slice A1 ns.length c1, .slice A2 ks.length c2] 57 (0,0))) (s1:Ss w w.heap.size (.slice A1 ns.length c1) ns) (s2:Sl w w.heap.size 4 (.slice A2 ks.length c2) xk) (r2:iJ w w.heap.size xk ks)
  (i:Nat) (hi:i<ks.length) (hin:i<ns.length) (hS:za ks[i]) (m:Nat) (hw:aH m ks[i]=true) (hc:iL ks[i]≤300000) (hnm:ns[i].length≤32):
  Calls Tryz.prog 123 #[.int .i64 i, .pointer (some ⟨bt,0,none⟩)] w fun e w'=>e= .returned (sv (gu ns[i] (bV ks[i])))∧Below w.heap.size w w':=by
 obtain⟨_, _,g2,g3⟩:=ni hbt;obtain⟨b1,o1,rfl,d0⟩:=Cb s1 hin;obtain⟨b2,o2,kk,ss,A3,n3,c3,A4,n4,c4,rfl,hr1,e0,e1,e2,e3⟩:=oG s2 r2 hi rfl;have hlen:=nT ks[i] m hw;have HS:=hid (fun w1 (h:Below w.heap.size w w1)=>hS w1 _ m (hr1.far (Nat.le_refl _) h) hw hc);have l1:=(cu s1).2;have l2:=(cu s2).2;have hsz0:=bT ns[i];have hsz1:=bT (bV ks[i]);generalize ns[i]=X at*
 generalize bV ks[i]=s at*
 generalize iL ks[i]=N at*
 clear hS hw hr1 r2 s1 s2 hbt;generalize ns.length=a at*
 generalize ks.length=b at*
 have HF:Hid (gu X s=(X++[58,32])++s):=hid (by unfold gu;rw [List.append_assoc]);have q1:¬(9223372036854775807<X.length+2):=by omega
 have q2:¬(9223372036854775807<X.length+2+s.length):=by omega
 have G2:=hid g2;have G3:=hid g3;have D0:=hid d0;have E0:=hid e0;have E1:=hid e1;have E2:=hid e2;have E3:=hid e3;have HB0:Hid (Below w.heap.size w w.drew):=hid (aN w 1);clear hc hlen g2 g3 d0 e0 e1 e2 e3 hnm;go_enter Tryz.func123,Tryz.ntmps123;go_wp2_with fail;refine wp_region_held_drew (S:=fun w'=>Below w.heap.size w w') (by kernel_rfl) HB0.out (fun _=> ?_)
 try simp only [Act.put,sq]
 refine tk 0 (.pointer (some ⟨bt,2,none⟩)) HB0.out ?_;refine uK 1 (.slice (some ⟨b1,o1,none⟩) a c1) (Ct G2.out) HB0.out ?_;refine tk 2 (.int .i64 i) HB0.out ?_;refine tk 3 (.pointer (some ⟨b1,o1+i,none⟩)) HB0.out ?_;refine uK 4 (sv X) (Ct D0.out) HB0.out ?_;refine tk 5 (.string ((⟨X.toArray⟩:ByteArray)++⟨#[58,32]⟩)) HB0.out ?_;refine tk 6 (.pointer (some ⟨bt,3,none⟩)) HB0.out ?_;refine uK 7 (.slice (some ⟨b2,o2,none⟩) b c2) (Ct G3.out) HB0.out ?_;refine tk 8 (.int .i64 i) HB0.out ?_;refine tk 9 (.pointer (some ⟨b2,o2+i*4,none⟩)) HB0.out ?_;refine uK 10 (.agg #[.int .i64 kk, .string ss, .slice A3 n3 c3, .slice A4 n4 c4]) (SV E0.out E1.out E2.out E3.out) HB0.out ?_;refine wpAnyH_ready (rs:=[11]) (by kernel_rfl) (by simp) ?_;refine AllReadyH.cons rfl (fun K hK=> ?_) (AllReadyH.nil);go_simp;refine(HS.out _ HB0.out).mono ?_;rintro e w2 ⟨rfl,hb⟩;have HB2:=hid (HB0.out.trans (hb.mono HB0.out.size));clear hb;refine hK.out _ _ HB2.out (fun _=> ?_);clear hK K
 try simp only [Act.put,sq]
 refine tk 12 (.string ((⟨X.toArray⟩:ByteArray)++⟨#[58,32]⟩++⟨s.toArray⟩)) HB2.out ?_;refine tk 13 (.string ((⟨X.toArray⟩:ByteArray)++⟨#[58,32]⟩++⟨s.toArray⟩)) HB2.out ?_;refine wpAnyH_done (by kernel_rfl) ?_ _;go_wp2_with fail;go_ret;refine⟨?_,HB2.out⟩;rw [HF.out];have e:(⟨X.toArray⟩:ByteArray)++⟨#[58,32]⟩++⟨s.toArray⟩=⟨((X++[58,32])++s).toArray⟩:=by
  rw [show(⟨#[58,32]⟩:ByteArray)=⟨([58,32]:Bt).toArray⟩from rfl,dX,dX]
 exact congrArg (fun b=>Ending.returned (Value.string b)) e
theorem jv {w:World} {b:Nat} {x0 x1 x2 x3 x4 x5 x6 x7:Value} {T:TypeId} (h:w.heap[b]? =some (.cells #[x0,x1,x2,x3,x4,x5,x6,x7] T (0,0))):
  w.cell? ⟨b,0,none⟩=some x0∧w.cell? ⟨b,1,none⟩=some x1∧w.cell? ⟨b,2,none⟩=some x2∧w.cell? ⟨b,3,none⟩=some x3∧w.cell? ⟨b,4,none⟩=some x4∧w.cell? ⟨b,5,none⟩=some x5∧w.cell? ⟨b,6,none⟩=some x6∧w.cell? ⟨b,7,none⟩=some x7:=
 ⟨(cell_of_row _ _ _ _ _ _ h).trans rfl,(cell_of_row _ _ _ _ _ _ h).trans rfl,(cell_of_row _ _ _ _ _ _ h).trans rfl,(cell_of_row _ _ _ _ _ _ h).trans rfl,(cell_of_row _ _ _ _ _ _ h).trans rfl,(cell_of_row _ _ _ _ _ _ h).trans rfl,(cell_of_row _ _ _ _ _ _ h).trans rfl,(cell_of_row _ _ _ _ _ _ h).trans rfl⟩
theorem Cc {w:World} {b:Nat} {x0 x1 x2 x3 x4:Value} {T:TypeId} (h:w.heap[b]? =some (.cells #[x0,x1,x2,x3,x4] T (0,0))):
  w.cell? ⟨b,0,none⟩=some x0∧w.cell? ⟨b,1,none⟩=some x1∧w.cell? ⟨b,2,none⟩=some x2∧w.cell? ⟨b,3,none⟩=some x3∧w.cell? ⟨b,4,none⟩=some x4:=
 ⟨(cell_of_row _ _ _ _ _ _ h).trans rfl,(cell_of_row _ _ _ _ _ _ h).trans rfl,(cell_of_row _ _ _ _ _ _ h).trans rfl,(cell_of_row _ _ _ _ _ _ h).trans rfl,(cell_of_row _ _ _ _ _ _ h).trans rfl⟩
theorem mV (w:World) (o1 o2:Obj):((w.alloc o1).alloc o2).heap[w.heap.size]? =some o1∧((w.alloc o1).alloc o2).heap[w.heap.size+1]? =some o2:=by
 have hs:(w.alloc o1).heap.size=w.heap.size+1:=by simp
 refine⟨?_, ?_⟩
 ·exact ah (heap_alloc_new w o1) (Turn.alloc (fun _=>False) _ o2) (fun h=>h)
 ·have:=heap_alloc_new (w.alloc o1) o2;rwa [hs]at this
theorem xH {w:World} {B:Nat} {A:Option Addr} {n c:Nat} {xk:List Value} {ks:List bR} (h2:Sl w B 8 (.slice A n c) xk) (hr:kV w B xk ks) {i:Nat} (hi:i<ks.length) (hn:n=ks.length):
  ∃b o k s v2 v3 v4 A1 n1 c1 A2 n2 c2 A3 n3 c3,A=some ⟨b,o,none⟩∧rA w B [.int .i64 k, .string s, .int .i64 v2, .int .i64 v3, .int .i64 v4, .slice A1 n1 c1, .slice A2 n2 c2, .slice A3 n3 c3] ks[i]∧
   w.cell? ⟨b,o+i*8,none⟩=some (.int .i64 k)∧w.cell? ⟨b,o+i*8+1,none⟩=some (.string s)∧w.cell? ⟨b,o+i*8+2,none⟩=some (.int .i64 v2)∧w.cell? ⟨b,o+i*8+3,none⟩=some (.int .i64 v3)∧w.cell? ⟨b,o+i*8+4,none⟩=some (.int .i64 v4)∧
   w.cell? ⟨b,o+i*8+5,none⟩=some (.slice A1 n1 c1)∧w.cell? ⟨b,o+i*8+6,none⟩=some (.slice A2 n2 c2)∧w.cell? ⟨b,o+i*8+7,none⟩=some (.slice A3 n3 c3):=by
 subst hn;obtain⟨b1,o1,rfl,hb1,hc1⟩:=wT h2 hi (by omega);have hr1:=hr.at i hi;obtain⟨kk,s,v2,v3,v4,A1,n1,c1,A2,n2,c2,A3,n3,c3,hv1⟩:=hr1.shape;rw [hv1]at hr1;refine⟨b1,o1,kk,s,v2,v3,v4,A1,n1,c1,A2,n2,c2,A3,n3,c3,rfl,hr1, ?_, ?_, ?_, ?_, ?_, ?_, ?_, ?_⟩
 ·have:=hc1 0 _ (iX hv1 (by omega:0<8));simpa using this
 ·have:=hc1 1 _ (iX hv1 (by omega:1<8));simpa [Nat.add_assoc]using this
 ·have:=hc1 2 _ (iX hv1 (by omega:2<8));simpa [Nat.add_assoc]using this
 ·have:=hc1 3 _ (iX hv1 (by omega:3<8));simpa [Nat.add_assoc]using this
 ·have:=hc1 4 _ (iX hv1 (by omega:4<8));simpa [Nat.add_assoc]using this
 ·have:=hc1 5 _ (iX hv1 (by omega:5<8));simpa [Nat.add_assoc]using this
 ·have:=hc1 6 _ (iX hv1 (by omega:6<8));simpa [Nat.add_assoc]using this
 ·have:=hc1 7 _ (iX hv1 (by omega:7<8));simpa [Nat.add_assoc]using this
theorem Gt {k:Int} {nm:Bt} {a b:Nat} (h:dI k nm a b=true):0≤k∧k≤8:=by
 unfold dI at h;split at h
 ·omega
 split at h
 ·cases h
 ·rename_i h1 h2
  constructor <;> (apply Classical.byContradiction;intro h3;exact h2 (by omega))
theorem JI {nm:Bt} {a b:Nat} (h:dI 5 nm a b=true):a=b:=by
 unfold dI at h;split at h
 ·omega
 split at h
 ·cases h
 ·simpa using h
theorem MK {nm:Bt} {a b:Nat} (h:dI 6 nm a b=true):b=2:=by
 unfold dI at h;split at h
 ·omega
 split at h
 ·cases h
 ·simp at h;exact h.2
theorem JJ (ns:List Bt) (ks:List aZ) (i:Nat) (hi:i<(List.zipWith gu ns (dB ks)).length) (h1:i<ns.length) (h2:i<ks.length):(List.zipWith gu ns (dB ks))[i]=gu ns[i] (bV ks[i]):=by
 rw [List.getElem_zipWith];simp [lM]
theorem Im {α:Type} {l:List α} (h:l.length=2):∃a b,l=[a,b]:=by
 match l,h with
 | [a,b], _=>exact⟨a,b,rfl⟩
theorem lC {m:Nat} {k:Int} {nm:Bt} {ns:List Bt} {ks:List aZ} (h:aH m (.mk k nm ns ks)=true):∃q,m=q+1∧(∀n∈ns,n.length≤32)∧(∀x∈ks,aH q x=true)∧dI k nm ns.length ks.length=true:=by
 cases m with
 | zero=>cases h
 | succ q=>
  have h:(ns.all bY && ks.all (aH q) && dI k nm ns.length ks.length)=true:=h;rw [Bool.and_eq_true,Bool.and_eq_true]at h;exact⟨q,rfl,fun n hn=>lH (List.all_eq_true.1 h.1.1 n hn),fun x hx=>List.all_eq_true.1 h.1.2 x hx,h.2⟩
def ug (k:Int) (nm:Bt) (ns:List Bt) (ks:List aZ):Prop:=∀(w:World) (z:List Value) (m:Nat),nX w w.heap.size z (.mk k nm ns ks)→aH m (.mk k nm ns ks)=true→iL (.mk k nm ns ks)≤300000→
 Calls Tryz.prog 60 #[.agg z.toArray] w fun e w'=>e= .returned (sv (bV (.mk k nm ns ks)))∧Below w.heap.size w w'
theorem OE (nm:Bt) (ns:List Bt) (ks:List aZ):ug 0 nm ns ks:=by
 intro w z m hr hw hc;obtain⟨A1,c1,A2,c2,xk,rfl,s1,s2,r2⟩:=hr.parts;have HT:Hid (bV (.mk 0 nm ns ks)=[97,110,121]):=hid (by rw [bV];rfl);have HB:Hid (Below w.heap.size w (w.alloc (.cells #[.int .i64 0,sv nm, .slice A1 ns.length c1, .slice A2 ks.length c2] 57))):=hid ((Below.refl _ _).alloc (Nat.le_refl _) _);rw [HT.out];clear hr hw hc s1 s2 r2;go_enter Tryz.func60,Tryz.ntmps60;go_wp2_with fail;go_ret;exact⟨rfl,HB.out⟩
theorem OG (nm:Bt) (ns:List Bt) (ks:List aZ):ug 1 nm ns ks:=by
 intro w z m hr hw hc;obtain⟨A1,c1,A2,c2,xk,rfl,s1,s2,r2⟩:=hr.parts;have HT:Hid (bV (.mk 1 nm ns ks)=[110,117,108,108]):=hid (by rw [bV];rfl);have HB:Hid (Below w.heap.size w (w.alloc (.cells #[.int .i64 1,sv nm, .slice A1 ns.length c1, .slice A2 ks.length c2] 57))):=hid ((Below.refl _ _).alloc (Nat.le_refl _) _);rw [HT.out];clear hr hw hc s1 s2 r2;go_enter Tryz.func60,Tryz.ntmps60;go_wp2_with fail;go_ret;exact⟨rfl,HB.out⟩
theorem OH (nm:Bt) (ns:List Bt) (ks:List aZ):ug 2 nm ns ks:=by
 intro w z m hr hw hc;obtain⟨A1,c1,A2,c2,xk,rfl,s1,s2,r2⟩:=hr.parts;have HT:Hid (bV (.mk 2 nm ns ks)=[98,111,111,108]):=hid (by rw [bV];rfl);have HB:Hid (Below w.heap.size w (w.alloc (.cells #[.int .i64 2,sv nm, .slice A1 ns.length c1, .slice A2 ks.length c2] 57))):=hid ((Below.refl _ _).alloc (Nat.le_refl _) _);rw [HT.out];clear hr hw hc s1 s2 r2;go_enter Tryz.func60,Tryz.ntmps60;go_wp2_with fail;go_ret;exact⟨rfl,HB.out⟩
theorem OI (nm:Bt) (ns:List Bt) (ks:List aZ):ug 3 nm ns ks:=by
 intro w z m hr hw hc;obtain⟨A1,c1,A2,c2,xk,rfl,s1,s2,r2⟩:=hr.parts;have HT:Hid (bV (.mk 3 nm ns ks)=[105,110,116]):=hid (by rw [bV];rfl);have HB:Hid (Below w.heap.size w (w.alloc (.cells #[.int .i64 3,sv nm, .slice A1 ns.length c1, .slice A2 ks.length c2] 57))):=hid ((Below.refl _ _).alloc (Nat.le_refl _) _);rw [HT.out];clear hr hw hc s1 s2 r2;go_enter Tryz.func60,Tryz.ntmps60;go_wp2_with fail;go_ret;exact⟨rfl,HB.out⟩
theorem OJ (nm:Bt) (ns:List Bt) (ks:List aZ):ug 4 nm ns ks:=by
 intro w z m hr hw hc;obtain⟨A1,c1,A2,c2,xk,rfl,s1,s2,r2⟩:=hr.parts;have HT:Hid (bV (.mk 4 nm ns ks)=[115,116,114]):=hid (by rw [bV];rfl);have HB:Hid (Below w.heap.size w (w.alloc (.cells #[.int .i64 4,sv nm, .slice A1 ns.length c1, .slice A2 ks.length c2] 57))):=hid ((Below.refl _ _).alloc (Nat.le_refl _) _);rw [HT.out];clear hr hw hc s1 s2 r2;go_enter Tryz.func60,Tryz.ntmps60;go_wp2_with fail;go_ret;exact⟨rfl,HB.out⟩
theorem OL (nm:Bt) (ns:List Bt) (ks:List aZ):ug 8 nm ns ks:=by
 intro w z m hr hw hc;obtain⟨A1,c1,A2,c2,xk,rfl,s1,s2,r2⟩:=hr.parts;have HT:Hid (bV (.mk 8 nm ns ks)=nm):=hid (by rw [bV];rfl);have HB:Hid (Below w.heap.size w (w.alloc (.cells #[.int .i64 8,sv nm, .slice A1 ns.length c1, .slice A2 ks.length c2] 57))):=hid ((Below.refl _ _).alloc (Nat.le_refl _) _);rw [HT.out];clear hr hw hc s1 s2 r2;go_enter Tryz.func60,Tryz.ntmps60;go_wp2_with fail;go_ret;exact⟨rfl,HB.out⟩
theorem OM (nm:Bt) (ns:List Bt) (ks:List aZ) (ih:∀x∈ks,za x):ug 5 nm ns ks:=by
 intro w z m hr hw hc;obtain⟨A1,c1,A2,c2,xk,rfl,s1,s2,r2⟩:=hr.parts;have hlen:=nT _ m hw;obtain⟨q,rfl,h1,h2,h3⟩:=lC hw;have hab:=JI h3;have HT0:bV (.mk 5 nm ns ks)=[123]++(jd [44,32] (List.zipWith gu ns (dB ks))++[125]):=by rw [bV];rfl
 rw [HT0]at hlen;have HT:=hid HT0;clear HT0;rw [HT.out];have hcl:=zf ks;rw [iL]at hc hlen;have hzl:(List.zipWith gu ns (dB ks)).length=ks.length:=by rw [List.length_zipWith,nk];omega
 simp only [List.length_append,List.length_cons,List.length_nil]at hlen;obtain⟨W1,hW1⟩:∃W1,W1=w.alloc (.cells #[.int .i64 5,sv nm, .slice A1 ns.length c1, .slice A2 ks.length c2] 57):=⟨_,rfl⟩
 have hb1:Below w.heap.size w W1:=by rw [hW1];exact(Below.refl _ _).alloc (Nat.le_refl _) _
 have hbx:W1.heap[w.heap.size]? =some (.cells #[.int .i64 5,sv nm, .slice A1 ns.length c1, .slice A2 ks.length c2] 57 (0,0)):=by rw [hW1];exact heap_alloc_new w _
 have HL:=MJ 123 (fun _ _=>by kernel_rfl) #[.pointer (some ⟨w.heap.size,0,none⟩)] (List.zipWith gu ns (dB ks)) W1 (by omega) (by omega) (fun i hi w1 hb=>by
  rw [hzl]at hi;have hin:i<ns.length:=by omega
  have hbw:Below w.heap.size w w1:=hb1.trans (hb.mono hb1.size);rw [JJ ns ks i _ hin hi];exact JH w1 w.heap.size 5 nm ns ks A1 c1 A2 c2 xk ((hb.block _ (block_lt hbx)).trans hbx) (Sl.more (Sl.below s1 hbw) hbw.size) (Sl.more (Sl.below s2 hbw) hbw.size) ((r2.keep hbw).more hbw.size) i hi hin (ih _ (List.getElem_mem hi)) q (h2 _ (List.getElem_mem hi)) (by have:=xG (List.getElem_mem hi);omega) (h1 _ (List.getElem_mem hin)))
 rw [hzl]at HL;have HL:=hid HL;have HB:=hid hb1;have zM:=hid hW1;have hl2:=(cu s2).2;rw [hW1]at HL;generalize jd [44,32] (List.zipWith gu ns (dB ks))=s at*
 have hsz:=bT s;have q1:¬(9223372036854775807<1+s.length):=by omega
 have q2:¬(9223372036854775807<1+s.length+1):=by omega
 have KZ:∀(fn:Fn) (first cap:Array Value) (w:World),(Instr.makeFunc fn first cap).run Tryz.prog w= .ok (.func fn first cap) w:=fun _ _ _ _=>rfl;clear hr hw hc s1 s2 r2 hlen h1 h2 h3 ih hcl hzl hW1 hb1 hbx HT hab;go_enter Tryz.func60,Tryz.ntmps60;go_wp2_with fail;refine HL.out.mono ?_;rintro e w2 ⟨rfl,hb⟩;rw [←zM.out]at hb;have HB2:=hid (HB.out.trans (hb.mono HB.out.size));clear hb;go_wp2_with fail;go_ret;refine⟨?_,HB2.out⟩;have e:(⟨#[123]⟩:ByteArray)++⟨s.toArray⟩++⟨#[125]⟩=⟨([123]++(s++[125])).toArray⟩:=by
  rw [show(⟨#[123]⟩:ByteArray)=⟨([123]:Bt).toArray⟩from rfl,show(⟨#[125]⟩:ByteArray)=⟨([125]:Bt).toArray⟩from rfl,dX,dX,List.append_assoc]
 exact congrArg (fun b=>Ending.returned (Value.string b)) e
theorem OO (nm:Bt) (ns:List Bt) (ks:List aZ) (ih:∀x∈ks,za x):ug 6 nm ns ks:=by
 intro w z m hr hw hc;obtain⟨A1,c1,A2,c2,xk,rfl,s1,s2,r2⟩:=hr.parts;have hlen:=nT _ m hw;obtain⟨q,rfl,h1,h2,h3⟩:=lC hw;obtain⟨t0,t1,rfl⟩:=Im (MK h3);have HT0:bV (.mk 6 nm ns [t0,t1])=gK [6] t0.kind (bV t0)++([32,45,62,32]++bV t1):=by rw [bV];rfl
 rw [HT0]at hlen;have HT:=hid HT0;clear HT0;rw [HT.out];rw [iL,fH,fH,fH]at hc hlen;simp only [List.length_append,List.length_cons,List.length_nil]at hlen;obtain⟨b2,o2,k0,ss0,A3,n3,c3,A4,n4,c4,rfl,hr0,d0,d1,d2,d3⟩:=oG s2 r2 (i:=0) (by simp) rfl;obtain⟨b2',o2',k1,ss1,A5,n5,c5,A6,n6,c6,hbe,hr1,e0,e1,e2,e3⟩:=oG s2 r2 (i:=1) (by simp) rfl;injection hbe with hbe;injection hbe with Yb Yc aa8;subst Yb Yc;simp only [List.getElem_cons_zero,List.getElem_cons_succ,Nat.zero_mul,Nat.one_mul,Nat.add_zero,Nat.add_assoc]at hr0 hr1 d0 d1 d2 d3 e0 e1 e2 e3;obtain⟨W,hW⟩:∃W,w.alloc (.cells #[.int .i64 6,sv nm, .slice A1 ns.length c1, .slice (some ⟨b2,o2,none⟩) 2 c2] 57)=W:=⟨_,rfl⟩
 have hb1:Below w.heap.size w W:=by rw [←hW];exact(Below.refl _ _).alloc (Nat.le_refl _) _
 have hbx:W.heap[w.heap.size]? =some (.cells #[.int .i64 6,sv nm, .slice A1 ns.length c1, .slice (some ⟨b2,o2,none⟩) 2 c2] 57 (0,0)):=by rw [←hW];exact heap_alloc_new w _
 obtain⟨_, _, _,g3⟩:=ni hbx
 have HI:=hid (fun(w1:World) (h:Below W.heap.size W w1) (bq:Nat) (hq:w1.cell? ⟨bq,0,none⟩=some (.int .i64 6))=>ze t0 (ih t0 (by simp)) w1 _ q (hr0.far (Nat.le_refl _) (hb1.trans (h.mono hb1.size))) (h2 t0 (by simp)) (by omega) bq [6] (by simp) (fun j hj=>by
  obtain rfl:j=0:=by simpa using hj
  exact hq) (World.block_lt_of_cell? w1 _ hq))
 have HS:=hid (fun(w1:World) (h:Below W.heap.size W w1)=>ih t1 (by simp) w1 _ q (hr1.far (Nat.le_refl _) (hb1.trans (h.mono hb1.size))) (h2 t1 (by simp)) (by omega));have G3:=hid g3;have D0:=hid (kp hb1 d0);have D1:=hid (kp hb1 d1);have D2:=hid (kp hb1 d2);have D3:=hid (kp hb1 d3);have E0:=hid (kp hb1 e0);have E1:=hid (kp hb1 e1);have E2:=hid (kp hb1 e2);have E3:=hid (kp hb1 e3);have HB:=hid hb1;have HW:=hid hW;have hl2:=(cu s2).2;generalize gK [6] t0.kind (bV t0)=s at*
 generalize bV t1=u at*
 have hsz:=bT s;have hsz1:=bT u;have q1:¬(9223372036854775807<s.length+4):=by omega
 have q2:¬(9223372036854775807<s.length+4+u.length):=by omega
 have HB0:Hid (Below W.heap.size W W.drew):=hid (aN W 1);clear hr hw hc s1 s2 r2 hlen h1 h2 h3 ih hW hb1 hbx hr0 hr1 g3 d0 d1 d2 d3 e0 e1 e2 e3 HT;go_enter Tryz.func60,Tryz.ntmps60;go_wp2_with fail;have hW:=HW.out;rw [hW];clear hW;refine wp_region_held_drew (S:=fun w'=>Below W.heap.size W w') (by kernel_rfl) HB0.out (fun _=> ?_)
 try simp only [Act.put,sq]
 refine tk 0 (.pointer (some ⟨w.heap.size,3,none⟩)) HB0.out ?_;refine uK 1 (.slice (some ⟨b2,o2,none⟩) 2 c2) (Ct G3.out) HB0.out ?_;refine tk 2 (.pointer (some ⟨b2,o2,none⟩)) HB0.out ?_;refine uK 3 (.agg #[.int .i64 k0, .string ss0, .slice A3 n3 c3, .slice A4 n4 c4]) (SV D0.out D1.out D2.out D3.out) HB0.out ?_;refine tk 7 (.pointer (some ⟨w.heap.size,3,none⟩)) HB0.out ?_;refine uK 8 (.slice (some ⟨b2,o2,none⟩) 2 c2) (Ct G3.out) HB0.out ?_;refine tk 9 (.pointer (some ⟨b2,o2+4,none⟩)) HB0.out ?_;refine uK 10 (.agg #[.int .i64 k1, .string ss1, .slice A5 n5 c5, .slice A6 n6 c6]) (SV E0.out E1.out E2.out E3.out) HB0.out ?_;refine wpAnyH_ready (rs:=[4]) (by kernel_rfl) (by simp) ?_;refine AllReadyH.cons rfl (fun K hK=> ?_) (AllReadyH.nil);go_simp;have HB3:=hid (HB0.out.alloc HB0.out.size (.cells #[.int .i64 6] 3));refine hK.out _ _ HB3.out (fun _=> ?_);clear hK K
 try simp only [Act.put,sq]
 refine wpAnyH_ready (rs:=[5]) (by kernel_rfl) (by simp) ?_;refine AllReadyH.cons rfl (fun K hK=> ?_) (AllReadyH.nil);go_simp;refine(HI.out _ HB3.out _ ((cell_of_row _ _ _ _ _ _ (heap_alloc_new W.drew _)).trans rfl)).mono ?_;rintro e w2 ⟨rfl,hb⟩;have HB2:=hid (HB3.out.trans (hb.mono HB3.out.size));clear hb;refine hK.out _ _ HB2.out (fun _=> ?_);clear hK K
 try simp only [Act.put,sq]
 refine tk 6 (.string ((⟨s.toArray⟩:ByteArray)++⟨#[32,45,62,32]⟩)) HB2.out ?_;refine wpAnyH_ready (rs:=[11]) (by kernel_rfl) (by simp) ?_;refine AllReadyH.cons rfl (fun K hK=> ?_) (AllReadyH.nil);go_simp;refine(HS.out _ HB2.out).mono ?_;rintro e w4 ⟨rfl,hb⟩;have o8:=hid (HB2.out.trans (hb.mono HB2.out.size));clear hb;refine hK.out _ _ o8.out (fun _=> ?_);clear hK K
 try simp only [Act.put,sq]
 refine tk 12 (.string ((⟨s.toArray⟩:ByteArray)++⟨#[32,45,62,32]⟩++⟨u.toArray⟩)) o8.out ?_;refine tk 13 (.string ((⟨s.toArray⟩:ByteArray)++⟨#[32,45,62,32]⟩++⟨u.toArray⟩)) o8.out ?_;refine wpAnyH_done (by kernel_rfl) ?_ _;go_wp2_with fail;go_ret;refine⟨?_,HB.out.trans (o8.out.mono HB.out.size)⟩;have e:(⟨s.toArray⟩:ByteArray)++⟨#[32,45,62,32]⟩++⟨u.toArray⟩=⟨(s++([32,45,62,32]++u)).toArray⟩:=by
  rw [show(⟨#[32,45,62,32]⟩:ByteArray)=⟨([32,45,62,32]:Bt).toArray⟩from rfl,dX,dX,List.append_assoc]
 exact congrArg (fun b=>Ending.returned (Value.string b)) e
theorem OP (nm:Bt) (ns:List Bt) (ks:List aZ) (ih:∀x∈ks,za x):ug 7 nm ns ks:=by
 intro w z m hr hw hc;obtain⟨A1,c1,A2,c2,xk,rfl,s1,s2,r2⟩:=hr.parts;have hlen:=nT _ m hw;obtain⟨q,rfl,h1,h2,h3⟩:=lC hw;obtain⟨L,hL⟩:∃L,L=List.zipWith (gK [6,7]) (ks.map aZ.kind) (dB ks):=⟨_,rfl⟩
 have HT0:bV (.mk 7 nm ns ks)=jd [32,124,32] L:=by rw [hL,bV];rfl
 rw [HT0]at hlen ⊢;have hcl:=zf ks;rw [iL]at hc hlen;have hll:L.length=ks.length:=by rw [hL,List.length_zipWith,nk,List.length_map];omega
 have Yd:Hid (∀(i:Nat) (h:i<ks.length) (h2:i<L.length),L[i]=gK [6,7] ks[i].kind (bV ks[i])):=hid (by
  intro i h h2;subst hL;rw [List.getElem_zipWith];simp [lM])
 obtain⟨W1,hW1⟩:∃W1,w.alloc (.cells #[.int .i64 7,sv nm, .slice A1 ns.length c1, .slice A2 ks.length c2] 57)=W1:=⟨_,rfl⟩
 have hb1:Below w.heap.size w W1:=by rw [←hW1];exact(Below.refl _ _).alloc (Nat.le_refl _) _
 have l2:=(cu s2).2;have HS:=hid (And.intro (Sl.more (Sl.below s2 hb1) hb1.size) ((r2.keep hb1).more hb1.size));have Mv:=hid ih;have H2:=hid h2;have HB1:=hid hb1;obtain⟨d,hd⟩:∃d,ks.length=d:=⟨_,rfl⟩
 rw [hd]at hcl hll l2 HS hW1 ⊢;have HD:=hid hd;have Ya:=hid (fun(x:aZ) (hx:x∈ks)=>xG hx);have HLEN:=hid hlen;have HW:=hid hW1;clear hr hw s1 s2 r2 h1 h2 h3 ih hb1 hL HT0 hd hlen hW1;go_enter Tryz.func60,Tryz.ntmps60;go_wp2_with fail;have hW:=HW.out;rw [hW];clear hW;go_loopw [3,47] (fun v3 v47 wr=>∃i:Nat,v47= .int .i64 i∧i≤d∧gq wr W1.heap.size 9 v3 (L.take i)∧Below W1.heap.size W1 wr) (fun v3 v47 _=>d - (intOf v47).toNat)
 case atStart=>exact⟨0,rfl,by omega,gq.nil _ _ _,Below.refl _ _⟩
 case round=>
  obtain⟨i,rfl,hi,hown,hbr⟩:=hrel;have HOWN:=hid hown;have HB:=hid hbr;clear hown;by_cases hlt:i<d
  ·have hil:i<ks.length:=by rw [HD.out];exact hlt
   have Zj:i<L.length:=by omega
   obtain⟨b2,o2,kk,ss,A3,n3,c3,A4,n4,c4,rfl,hr1,e0,e1,e2,e3⟩:=oG (Sl.more (Sl.below HS.out.1 hbr) hbr.size) ((HS.out.2.keep hbr).more hbr.size) hil HD.out.symm;obtain⟨wB,UQ⟩:∃wB,(wr.alloc (.cells #[.int .i64 kk, .string ss, .slice A3 n3 c3, .slice A4 n4 c4] 57)).alloc (.cells #[.int .i64 6, .int .i64 7] 3)=wB:=⟨_,rfl⟩
   have NT:Below wr.heap.size wr wB:=by rw [←UQ];exact((Below.refl _ _).alloc (Nat.le_refl _) _).alloc (by simp) _
   have hq:wB.heap[wr.heap.size+1]? =some (.cells #[.int .i64 6, .int .i64 7] 3 (0,0)):=by rw [←UQ];exact(mV wr _ _).2
   have HI:=hid (ze ks[i] (Mv.out _ (List.getElem_mem hil)) wB _ q (hr1.far (Nat.le_refl _) NT) (H2.out _ (List.getElem_mem hil)) (by have:=Ya.out _ (List.getElem_mem hil);omega) (wr.heap.size+1) [6,7] (by simp) (fun j hj=>by
    have hj2:j=0∨j=1:=by simp at hj;omega
    rcases hj2 with rfl | rfl <;> exact(cell_of_row _ _ _ _ _ _ hq).trans rfl) (block_lt hq))
   rw [←Yd.out i hil Zj]at HI;have HST:=hid (vg Zj);have Cx:=hid NT;have uy:=hid UQ;generalize L[i]=X at*
   generalize ks[i]=kx at*
   rw [←UQ]at HI;clear hbr hr1 NT hq UQ hil;go_wp2_with fail;refine HI.out.mono ?_;rintro e w2 ⟨rfl,hb⟩;rw [uy.out]at hb;have hbw2:=Cx.out.trans (hb.mono Cx.out.size);have hown2:=HOWN.out.below hbw2;have hb2:=HB.out.trans (hbw2.mono HB.out.size);clear hb hbw2 e0 e1 e2 e3;go_wp2_with (at_builtin;refine CB rfl (.tmp 51) (.tmp 55) _ rfl W1.heap.size pI _ _ rfl rfl (hown2.alloc _) (pE w2 X _) (by simp;omega) (gZ hb2.size _) (fun v3 w3 hown3 hg3 Ye=> ?_);have hb3:=Fq (hb2.alloc hb2.size _) (hown2.alloc _) hg3 (Nat.le_refl _) (gZ hb2.size _);have UR:=hid hown3;have HB3:=hid hb3;clear hown3 hb3 hown2 hb2 hg3 Ye)
   go_roundw
   case rel=>exact⟨i+1,rfl,by omega,by rw [HST.out];exact UR.out,HB3.out⟩
   case measure=>simp [intOf];omega
  ·obtain rfl:i=d:=by omega
   have hown:=HOWN.out;rw [List.take_of_length_le (by omega)]at hown;obtain⟨A5,n5,c5,rfl⟩:=fM hown.ss;have HJ:=hid (Ef wr _ L [32,124,32] hown.ss (by omega) (by have:=HLEN.out;omega));clear hown hbr hlt;go_wp2_with fail;refine HJ.out.mono ?_;rintro e w2 ⟨rfl,hb⟩;go_wp2_with fail;go_ret;exact⟨rfl,HB1.out.trans ((HB.out.trans (hb.mono HB.out.size)).mono HB1.out.size)⟩
theorem ML (t:aZ):za t:=by
 induction h:iL t using Nat.strongRecOn generalizing t with
 | _ n ih=>
  obtain⟨k,nm,ns,ks⟩:=t;have ihk:∀x∈ks,za x:=fun x hx=>ih (iL x) (by rw [←h,iL];have:=xG hx;omega) x rfl;intro w z m hr hw hc;have hk:0≤k∧k≤8:=by obtain⟨q,rfl,h1,h2,h3⟩:=lC hw;exact Gt h3
  have hk2:k=0∨k=1∨k=2∨k=3∨k=4∨k=5∨k=6∨k=7∨k=8:=by omega
  rcases hk2 with rfl | rfl | rfl | rfl | rfl | rfl | rfl | rfl | rfl
  ·exact OE nm ns ks w z m hr hw hc
  ·exact OG nm ns ks w z m hr hw hc
  ·exact OH nm ns ks w z m hr hw hc
  ·exact OI nm ns ks w z m hr hw hc
  ·exact OJ nm ns ks w z m hr hw hc
  ·exact OM nm ns ks ihk w z m hr hw hc
  ·exact OO nm ns ks ihk w z m hr hw hc
  ·exact OP nm ns ks ihk w z m hr hw hc
  ·exact OL nm ns ks w z m hr hw hc
theorem JK (w:World) (z:List Value) (t:aZ) (hr:nX w w.heap.size z t) (hok:CF t) (hc:iL t≤300000) (hX:je w):
  Calls Tryz.prog 28 #[.agg z.toArray] w fun e w'=>e= .returned (sv (lN t))∧Below w.heap.size w w':=by
 obtain⟨k,s,A1,n1,c1,A2,n2,c2,rfl⟩:=hr.shape;obtain⟨W1,hW1⟩:∃W1,W1=w.alloc (.cells #[.int .i64 k, .string s, .slice A1 n1 c1, .slice A2 n2 c2] 57):=⟨_,rfl⟩
 have hb1:Below w.heap.size w W1:=by rw [hW1];exact(Below.refl _ _).alloc (Nat.le_refl _) _
 have hbx:W1.heap[w.heap.size]? =some (.cells #[.int .i64 k, .string s, .slice A1 n1 c1, .slice A2 n2 c2] 57 (0,0)):=by rw [hW1];exact heap_alloc_new w _
 have HW:=qh 16 (by omega) W1 _ t (hr.far (Nat.le_refl _) hb1) hok (hX.below hb1);rw [hW1]at HW;have HW:=hid HW;have HB:=hid hb1;have zM:=hid hW1;have qB:=hid hbx;have HR:=hid hr;clear hb1 hbx hr hX hW1 hok;cases hq:aH 16 t with
 | false=>
  have HT:Hid (lN t=[]):=hid (by unfold lN;rw [hq];rfl);rw [hq]at HW;rw [HT.out];clear hq HT;go_enter Tryz.func28,Tryz.ntmps28;go_wp2_with fail;refine HW.out.mono ?_;rintro e w2 ⟨rfl,hb⟩;rw [←zM.out]at hb;go_wp2_with fail;go_ret;exact⟨rfl,HB.out.trans (hb.mono HB.out.size)⟩
 | true=>
  have HT:Hid (lN t=bV t):=hid (by unfold lN;rw [hq];rfl);rw [hq]at HW;rw [HT.out];have HS:Hid (∀w2,Below w.heap.size w w2→Calls Tryz.prog 60 #[.agg [.int .i64 k, .string s, .slice A1 n1 c1, .slice A2 n2 c2].toArray] w2 fun e w'=>e= .returned (sv (bV t))∧Below w2.heap.size w2 w'):=hid (fun w2 hb2=>ML t w2 _ 16 (HR.out.far (Nat.le_refl _) hb2) hq hc);clear hq HT HR;generalize bV t=u at*
  go_enter Tryz.func28,Tryz.ntmps28;go_wp2_with fail;refine HW.out.mono ?_;rintro e w2 ⟨rfl,hb⟩;rw [←zM.out]at hb;have HB2:=hid (HB.out.trans (hb.mono HB.out.size));obtain⟨g0,g1,g2,g3⟩:=ni ((hb.block _ (block_lt qB.out)).trans qB.out);clear hb;go_wp2_with fail;refine(HS.out _ HB2.out).mono ?_;rintro e w3 ⟨rfl,hb3⟩;go_wp2_with fail;go_ret;exact⟨rfl,HB2.out.trans (hb3.mono HB2.out.size)⟩
theorem Bg {m:Nat} {k:Int} {text:Bt} {n li co:Int} {ts:List aZ} {ns:List Bt} {ks:List bR} (h:dD m (.mk k text n li co ts ns ks)=true):
  ∃q,m=q+1∧(0≤k∧k<20)∧Bu k text n ts.length ns.length ks.length=true∧(∀x∈ns,x.length≤32)∧ts.all (aH 16)=true∧(∀x∈ks,dD q x=true):=by
 cases m with
 | zero=>cases h
 | succ q=>
  have h:(decide (0≤k∧k<20) && Bu k text n ts.length ns.length ks.length && ns.all bY && ts.all (aH 16) && ks.all (dD q))=true:=h;rw [Bool.and_eq_true,Bool.and_eq_true,Bool.and_eq_true,Bool.and_eq_true,decide_eq_true_eq]at h;exact⟨q,rfl,h.1.1.1.1,h.1.1.1.2,fun x hx=>lH (List.all_eq_true.1 h.1.1.2 x hx),h.1.2,fun x hx=>List.all_eq_true.1 h.2 x hx⟩
theorem vC {P:Program} {ops:Array Oper} {o:Oper} {a:Act} {w:World} {K:Act→World→Prop} {Q:Exit→Act→World→Prop} {E:Prop} (hgd:o.guard=none) (s x:Operand) (t:TypeId)
  (ho:o.op= .call { callee:= .builtin .append,args:= #[s,x],argTypes:= #[t,t]})
  (base:Nat) {e:TypeId} {z:Value} (hE:jH P t e z 1 16) (v y:Value) (hs:a.eval s=v) (hx:a.eval x=y)
  {l:List Bt} (hown:gq w base e v l) {B:Nat} {m:List Bt} (hy:Ss w B y m) (hlen:l.length+m.length≤8796093022208) (hbase:base≤w.heap.size)
  (h:∀v' w',gq w' base e v' (l++m)→w.grownBy w' v.ownBlock→(v'.ownBlock=v.ownBlock∨v'.ownBlock=some w.heap.size)→K (a.put o.dst v') w'):
  if Region.wanted o (yielded ops a.tmps)=true then Oper.wp P o a w K Q else E:=
 eB hgd s x t ho base hE v y hs hx hown.row hy (sK _) (by simp only [dR,maxLen];omega) (by rw [dR];omega) hbase
  (fun v' w' n' h1 h2 h3=>h v' w' ⟨n',by rw [jN];exact h1⟩ h2 h3)
structure zm (w wr:World) (OB:Obj) (v:Value) (l:List Bt):Prop where
 box:wr.heap[w.heap.size+1]? =some (.cells #[v] 25 (0,0))
 own:gq wr (w.heap.size+2) 9 v l
 node:wr.heap[w.heap.size]? =some OB
 below:Below w.heap.size w wr
theorem zm.far {w wr w':World} {OB:Obj} {v:Value} {l:List Bt} (h:zm w wr OB v l) (hb:Below wr.heap.size wr w'):zm w w' OB v l:=
 ⟨(hb.block _ (block_lt h.box)).trans h.box,h.own.below hb,(hb.block _ (block_lt h.node)).trans h.node,h.below.trans (hb.mono h.below.size)⟩
theorem zm.cell {w wr:World} {OB:Obj} {v:Value} {l:List Bt} (h:zm w wr OB v l):wr.cell? ⟨w.heap.size+1,0,none⟩=some v:=(cell_of_row _ _ _ _ _ _ h.box).trans rfl
theorem zm.grown {w wr w':World} {OB:Obj} {v v':Value} {l l':List Bt} (h:zm w wr OB v l) (ho:gq w' (w.heap.size+2) 9 v' l') (hg:wr.grownBy w' v.ownBlock):
  w'.cell? ⟨w.heap.size+1,0,none⟩=some v∧w'.frozen? ⟨w.heap.size+1,0,none⟩=false∧zm w (w'.setCell ⟨w.heap.size+1,0,none⟩ v') OB v' l':=by
 have hlt:=h.own.lt;have hb:=(hg.block _ (block_lt h.box) (by intro e;have:=(hlt _ e.symm).1;omega)).trans h.box;have hn:=(hg.block _ (block_lt h.node) (by intro e;have:=(hlt _ e.symm).1;omega)).trans h.node;have hbl:Below w.heap.size w w':=h.below.grown hg h.below.size (fun k hk=>by have:=(hlt k hk).1;omega);have t:=ak w' (w.heap.size+1) 0 v';refine⟨(cell_of_row _ _ _ _ _ _ hb).trans rfl,bL hb 0,heap_setCell_same _ _ _ _ _ _ hb,ho.turn t (fun g hg e=>by have:=(ho.lt g hg).1;omega),ah hn t (by omega),hbl.trans (t.below hbl.size (fun k hk e=>by omega))⟩
theorem gq.cell {w:World} {base:Nat} {e:TypeId} {g c n:Nat} {l:List Bt} (h:gq w base e (.slice (some ⟨g,0,none⟩) n c) l) (j:Nat) (hj:j<l.length):w.cell? ⟨g,j,none⟩=some (sv l[j]):=by
 have:=h.row.cells (g:=g) rfl j _ (wS l j hj);rwa [jw,Nat.zero_add]at this
def Qd (s:Bt):Bool:=s.all (fun c=> !(decide (c<32) && c != 9 && c != 10))
def qK (n:Nat):Bool:=decide (n<32) && n != 9 && n != 10
theorem Io (s:ByteArray) (i:Nat) (h:(s.get! i).toNat<128):Utf8.decode s i=((s.get! i).toNat,1):=by
 unfold Utf8.decode;simp only [Nat.add_zero];rw [if_pos h]
theorem lI (s:ByteArray) (i k:Nat) (h:(decide (i+k<s.size) && (s.get! (i+k)).toNat / 64==2)=true):128≤(s.get! (i+k)).toNat:=by
 rw [Bool.and_eq_true,beq_iff_eq]at h;omega
theorem Ei (s:ByteArray) (i:Nat) (h:128≤(s.get! i).toNat):128≤(Utf8.decode s i).1∧∀j,j<(Utf8.decode s i).2→128≤(s.get! (i+j)).toNat:=by
 have h0:∀j,j<1→128≤(s.get! (i+j)).toNat:=by
  intro j hj;obtain rfl:j=0:=by omega
  exact h
 unfold Utf8.decode;simp only [Nat.add_zero];rw [if_neg (by omega)];split
 ·rename_i h1
  rw [Bool.and_eq_true]at h1;have a1:=lI s i 1 h1.2;split
  ·rename_i h2
   refine⟨h2,fun j hj=> ?_⟩;have hj:j<2:=hj;obtain rfl | rfl:j=0∨j=1:=by omega
   ·exact h
   ·exact a1
  ·exact⟨by decide,h0⟩
 split
 ·rename_i h1
  rw [Bool.and_eq_true,Bool.and_eq_true]at h1;have a1:=lI s i 1 h1.1.2;have a2:=lI s i 2 h1.2;split
  ·rename_i h2
   rw [Bool.and_eq_true,decide_eq_true_eq]at h2;refine⟨by have:=h2.1;omega,fun j hj=> ?_⟩;have hj:j<3:=hj;obtain rfl | rfl | rfl:j=0∨j=1∨j=2:=by omega
   ·exact h
   ·exact a1
   ·exact a2
  ·exact⟨by decide,h0⟩
 split
 ·rename_i h1
  rw [Bool.and_eq_true,Bool.and_eq_true,Bool.and_eq_true]at h1;have a1:=lI s i 1 h1.1.1.2;have a2:=lI s i 2 h1.1.2;have a3:=lI s i 3 h1.2;split
  ·rename_i h2
   rw [Bool.and_eq_true,decide_eq_true_eq]at h2;refine⟨by have:=h2.1;omega,fun j hj=> ?_⟩;have hj:j<4:=hj;obtain rfl | rfl | rfl | rfl:j=0∨j=1∨j=2∨j=3:=by omega
   ·exact h
   ·exact a1
   ·exact a2
   ·exact a3
  ·exact⟨by decide,h0⟩
 ·exact⟨by decide,h0⟩
theorem get_at (s:Bt) (i:Nat) (h:i<s.length):((⟨s.toArray⟩:ByteArray).get! i)=s[i]:=by
 show s.toArray[i]! =s[i];rw [getElem!_pos s.toArray i (by simpa using h)];simp
theorem Ej (c:UInt8):qK c.toNat=(decide (c<32) && c != 9 && c != 10):=by
 have h1:(decide (c.toNat<32))=decide (c<32):=by
  rw [decide_eq_decide,UInt8.lt_iff_toNat_lt];rfl
 have h2:∀d:UInt8,(c.toNat != d.toNat)=(c != d):=by
  intro d;by_cases h:c=d
  ·subst h;simp
  ·have:c.toNat≠d.toNat:=fun e=>h (UInt8.toNat_inj.1 e);simp [bne,beq_eq_false_iff_ne.2 h,beq_eq_false_iff_ne.2 this]
 unfold qK;rw [h1,show(9:Nat)=(9:UInt8).toNat from rfl,show(10:Nat)=(10:UInt8).toNat from rfl,h2,h2]
def zn (s:Bt) (p:Nat):Prop:=∀j,j<p→∀h:j<s.length,qK s[j].toNat=false
theorem JL {s:Bt} {p:Nat} (h:zn s p) (hp:p<s.length) (hb:qK (Utf8.decode ⟨s.toArray⟩ p).1=false):zn s (p+(Utf8.decode ⟨s.toArray⟩ p).2):=by
 intro j hj hl;rcases Nat.lt_or_ge j p with h1 | h1
 ·exact h j h1 hl
 ·rcases Nat.lt_or_ge ((⟨s.toArray⟩:ByteArray).get! p).toNat 128 with h2 | h2
  ·rw [Io _ _ h2]at hj hb;have hj:j<p+1:=hj;obtain rfl:j=p:=by omega
   rw [get_at s j hl]at hb;exact hb
  ·have h3:=(Ei _ _ h2).2 (j - p) (by omega);rw [show p+(j - p)=j by omega,get_at s j hl]at h3;have:decide (s[j].toNat<32)=false:=decide_eq_false (by omega);unfold qK;rw [this];rfl
theorem MN {s:Bt} {p:Nat} (hp:p<s.length) (hb:qK (Utf8.decode ⟨s.toArray⟩ p).1=true):s.all (fun c=> !(decide (c<32) && c != 9 && c != 10))=false:=by
 rcases Nat.lt_or_ge ((⟨s.toArray⟩:ByteArray).get! p).toNat 128 with h2 | h2
 ·rw [Io _ _ h2,get_at s p hp]at hb;cases ha:s.all (fun c=> !(decide (c<32) && c != 9 && c != 10))with
  | false=>rfl
  | true=>
   have:=List.all_eq_true.1 ha _ (List.getElem_mem hp);rw [←Ej]at this;have hb:qK s[p].toNat=true:=hb;rw [hb]at this;cases this
 ·have h3:=(Ei _ _ h2).1;unfold qK at hb;rw [decide_eq_false (by omega)]at hb;cases hb
theorem MO {s:Bt} {p:Nat} (h:zn s p) (hp:s.length≤p):s.all (fun c=> !(decide (c<32) && c != 9 && c != 10))=true:=by
 rw [List.all_eq_true];intro c hc;obtain⟨j,hj,rfl⟩:=List.getElem_of_mem hc;rw [←Ej,h j (by omega) hj];rfl
theorem MP (R:Nat) (w:World) (h1:R≤1114111):Calls Tryz.prog 202 #[.int .i32 (R:Int)] w fun e w'=>e= .returned (.bool (qK R))∧w'=w:=by
 by_cases h32:R<32
 ·have g1:decide ((R:Int)<32)=true:=by simp;omega
  by_cases h9:R=9
  ·subst h9;go_enter Tryz.func202,Tryz.ntmps202;go_wp2_with fail;go_ret;exact⟨rfl,rfl⟩
  ·by_cases h10:R=10
   ·subst h10;go_enter Tryz.func202,Tryz.ntmps202;go_wp2_with fail;go_ret;exact⟨rfl,rfl⟩
   ·have g2:((R:Int) != 9)=true:=by rw [bne_iff_ne];omega
    have g3:((R:Int) != 10)=true:=by rw [bne_iff_ne];omega
    have HT:Hid (qK R=true):=hid (by unfold qK;simp [h32,h9,h10]);rw [HT.out];clear h32 h9 h10 h1;go_enter Tryz.func202,Tryz.ntmps202;go_wp2_with fail;go_ret;exact⟨rfl,rfl⟩
 ·have g1:decide ((R:Int)<32)=false:=by simp;omega
  have HT:Hid (qK R=false):=hid (by unfold qK;simp [h32]);rw [HT.out];clear h32 h1;go_enter Tryz.func202,Tryz.ntmps202;go_wp2_with fail;go_ret;exact⟨rfl,rfl⟩
def Qe (s:Bt) (w:World) (e:Ending) (w':World):Prop:=(∃k:Int,e= .returned (.int .i64 k)∧(if Qd s then k= -1 else 0≤k))∧Below w.heap.size w w'
set_option maxRecDepth 1000000 in
theorem Ce (s:Bt) (w:World):
  Calls Tryz.prog 227 #[sv s, .func (.func 202) #[] #[], .bool true] w (Qe s w):=by
 have hsz:=bT s;obtain⟨bs,hbs⟩:∃bs:ByteArray,bs=⟨s.toArray⟩:=⟨_,rfl⟩
 have HBS:=hid hbs;rw [←hbs]at hsz;show Calls Tryz.prog 227 #[.string ⟨s.toArray⟩, .func (.func 202) #[] #[], .bool true] w _;rw [←hbs];clear hbs;go_enter Tryz.func227,Tryz.ntmps227;go_wp2_with fail
 go_loopg [] s.length (fun g wx=>∃pos:Nat,wx.heap[w.heap.size]? =some (.stringIter bs pos)∧Below w.heap.size w wx∧zn s pos∧s.length≤pos+g)
 case atStart=>exact⟨0,World.iter_heap w bs 0,(Below.refl _ w).alloc (Nat.le_refl _) _,fun j hj=>by omega,by omega⟩
 case round=>
  obtain⟨pos,hit,hbw,hleft,hfu⟩:=hrel;have abb:w.heap.size<wr.heap.size:=(Array.getElem?_eq_some_iff.1 hit).1;by_cases hp:pos<bs.size
  ·obtain⟨g,rfl⟩:∃g,gk=g+1:=⟨gk - 1,by omega⟩
   have hnx:∀ty,(Instr.next (.pointer (some ⟨w.heap.size,0,none⟩)) true ty).run Tryz.prog wr= _:=fun ty=>Lib.run_next_any_at wr w.heap.size bs pos ty hit hp;have hwd:=Lib.width_pos bs pos;have hr1:=Lib.rune_le bs pos;have hst:∀R K,Utf8.decode bs pos=(R,K)→(qK R=false→zn s (pos+K))∧(qK R=true→Qd s=false):=by
    intro R K h;rw [HBS.out]at h;have hps:pos<s.length:=by omega
    constructor
    ·intro hb;have:=JL hleft hps (by rw [h];exact hb);rw [h]at this;exact this
    ·intro hb;exact MN hps (by rw [h];exact hb)
   obtain⟨R,hR⟩:∃R,(Utf8.decode bs pos).1=R:=⟨_,rfl⟩
   obtain⟨K,hK⟩:∃K,(Utf8.decode bs pos).2=K:=⟨_,rfl⟩
   have hst:=hst R K (by rw [←hR, ←hK]);rw [hR,hK]at hnx;rw [hR]at hr1;rw [hK]at hwd;have hit2:=Lib.iterAt_heap wr w.heap.size bs pos (pos+K) hit;have hbw2:=Lib.below_iterAt hbw (k:=w.heap.size) (Nat.le_refl _) bs (pos+K);obtain⟨W,hWd⟩:∃W,wr.iterAt w.heap.size bs (pos+K)=W:=⟨_,rfl⟩
   rw [hWd]at hnx hit2 hbw2;have HC:=hid (MP R W hr1);have HB2:=hid hbw2;have HIT:=hid hit2;cases hb:qK R with
   | true=>
    rw [hb]at HC;have HE:=hid (hst.2 hb);clear hst hb hR hK hleft;go_wp2_with fail;refine HC.out.mono ?_;rintro e w2 ⟨rfl,rfl⟩;go_wp2_with fail;go_ret;exact⟨⟨pos,rfl,by rw [HE.out];simp⟩,HB2.out⟩
   | false=>
    rw [hb]at HC;have HE:=hid (hst.1 hb);clear hst hb hR hK hleft;go_wp2_with fail;refine HC.out.mono ?_;rintro e w2 ⟨rfl,rfl⟩;go_wp2_with fail
    go_roundg g
    case measure=>omega
    case rel=>exact⟨pos+K,HIT.out,HB2.out,HE.out,by omega⟩
  ·have hnx:∀ty,(Instr.next (.pointer (some ⟨w.heap.size,0,none⟩)) true ty).run Tryz.prog wr= _:=fun ty=>Lib.run_next_end_at wr w.heap.size bs pos ty hit hp;have HE:Hid (Qd s=true):=hid (MO hleft (by omega));have HB:=hid hbw;clear hleft hbw;go_wp2_with fail;go_ret;exact⟨⟨-1,rfl,by rw [HE.out];simp⟩,HB.out⟩
theorem wN (s:Bt) (w:World):
  Calls Tryz.prog 201 #[sv s, .func (.func 202) #[] #[]] w fun e w'=>e= .returned (.bool (!Qd s))∧Below w.heap.size w w':=by
 have HI:Hid (∀w1,Calls Tryz.prog 217 #[sv s, .func (.func 202) #[] #[]] w1 (Qe s w1)):=hid (by
  intro w1;have HJ:=hid (Ce s w1);go_enter Tryz.func217,Tryz.ntmps217;go_wp2_with fail;refine HJ.out.mono ?_;rintro e w2 ⟨⟨k,rfl,hk⟩,hbel⟩;have HK:=hid hk;clear hk;go_wp2_with fail;go_ret;exact⟨⟨k,rfl,HK.out⟩,hbel⟩)
 cases hb:Qd s
 all_goals
  go_enter Tryz.func201,Tryz.ntmps201;go_wp2_with fail;refine(HI.out w).mono ?_;rintro e w2 ⟨⟨k,rfl,hk⟩,hbel⟩;rw [hb]at hk;simp only [Bool.false_eq_true,if_false,if_true]at hk;have HB:=hid hbel;clear hbel hb HI
 ·have hg:decide (0≤k)=true:=by simpa using hk
  go_wp2_with fail;go_ret;exact⟨rfl,HB.out⟩
 ·subst hk;go_wp2_with fail;go_ret;exact⟨rfl,HB.out⟩
theorem MQ (s:Bt) (w:World) (hs:s.length≤maxLen):
  Calls Tryz.prog 169 #[sv s] w fun e w'=>e= .returned (.bool (zO s))∧Below w.heap.size w w':=by
 have hsz:=bT s;unfold maxLen at hs;by_cases hl:s.length≤256
 ·have hg:decide ((s.length:Int)≤256)=true:=by simp;omega
  have HT:Hid (zO s=Qd s):=hid (by unfold zO Qd;rw [decide_eq_true hl];rfl);rw [HT.out];have HC:=hid (wN s w);clear hl;generalize Qd s=b at*
  go_enter Tryz.func169,Tryz.ntmps169;go_wp2_with fail;refine HC.out.mono ?_;rintro e w2 ⟨rfl,hb⟩;go_wp2_with fail;go_ret;cases b <;> exact⟨rfl,hb⟩
 ·have hg:decide ((s.length:Int)≤256)=false:=by simp;omega
  have HT:Hid (zO s=false):=hid (by unfold zO;rw [decide_eq_false hl];rfl);rw [HT.out];clear hl;go_enter Tryz.func169,Tryz.ntmps169;go_wp2_with fail;go_ret;exact⟨rfl,Below.refl _ _⟩
def MR:Bt:=[111,114,32,97,110,100,32,60,32,60,61,32,61,61,32,43,43,32,43,32,45,32,94,32,42,32,47,32,37,32,38,32,60,60,32,62,62]
theorem Gu:Lib.fields MR=opsL:=by kernel_rfl
theorem JM:(MR.all fun b=>decide (b.toNat<128))=true:=by kernel_rfl
theorem El:(⟨MR.toArray⟩:ByteArray).data.toList=MR:=rfl
theorem OQ (w:World) (hL:je w):Calls Tryz.prog 170 #[] w fun e w'=>∃v,e= .returned v∧Ss w' w'.heap.size v opsL∧Below w.heap.size w w':=by
 go_enter Tryz.func170,Tryz.ntmps170;go_wp2_with fail;refine(Tryz.strings_Fields ⟨MR.toArray⟩ _ ?h1 ?h2 hL.2).mono ?_
 case h1=>decide
 case h2=>
  intro j b hb;rw [El]at hb;exact of_decide_eq_true (List.all_eq_true.1 JM b (List.mem_of_getElem? hb))
 rintro e w1 ⟨rfl,rfl⟩;rw [El,Gu];have hss:Ss (w.alloc (.cells (opsL.map fun l=>Value.string ⟨l.toArray⟩).toArray 9)) (w.alloc (.cells (opsL.map fun l=>Value.string ⟨l.toArray⟩).toArray 9)).heap.size (.slice (some ⟨w.heap.size,0,none⟩) opsL.length opsL.length) opsL:=by
  have:=gU w (opsL.map fun l=>Value.string ⟨l.toArray⟩).toArray 9 1 opsL.length (by simp) (by decide);rw [World.size_alloc];simpa [Ss,mD]using this
 have hb:Below w.heap.size w (w.alloc (.cells (opsL.map fun l=>Value.string ⟨l.toArray⟩).toArray 9)):=(Below.refl _ _).alloc (Nat.le_refl _) _;generalize(w.alloc (.cells (opsL.map fun l=>Value.string ⟨l.toArray⟩).toArray 9))=w2 at*
 generalize opsL.length=n at*
 go_wp2_with fail;go_ret;exact⟨_,rfl,hss,hb⟩
theorem MS (w:World) (k:Int) (text:Bt) (v2 v3 v4:Int) (A5:Option Addr) (n5 c5:Nat) (A6:Option Addr) (n6 c6:Nat) (A7:Option Addr) (n7 c7:Nat) (ht:text.length≤maxLen) (hX:je w) (b:Bool) (a1 a2 a3 a4:Int):
  Calls Tryz.prog 116 #[.agg #[.int .i64 k,sv text, .int .i64 v2, .int .i64 v3, .int .i64 v4, .slice A5 n5 c5, .slice A6 n6 c6, .slice A7 n7 c7], .agg #[.bool b, .int .i64 a1, .int .i64 a2, .int .i64 a3, .int .i64 a4]] w fun e w'=>e= .returned (.bool (nA k text b))∧Below w.heap.size w w':=by
 obtain⟨W,hW⟩:∃W,(w.alloc (.cells #[.int .i64 k,sv text, .int .i64 v2, .int .i64 v3, .int .i64 v4, .slice A5 n5 c5, .slice A6 n6 c6, .slice A7 n7 c7] 52)).alloc (.cells #[.bool b, .int .i64 a1, .int .i64 a2, .int .i64 a3, .int .i64 a4] 174)=W:=⟨_,rfl⟩
 have hb2:Below w.heap.size w W:=by rw [←hW];exact((Below.refl _ _).alloc (Nat.le_refl _) _).alloc (by simp) _
 have HB:=hid hb2;have HW:=hid hW;have HX:=hid (hX.below hb2);have NA:=hid (yZ W text (hX.below hb2) ht);have HST:=hid (MQ text W ht);have hbx:W.heap[w.heap.size]? =some (.cells #[.int .i64 k,sv text, .int .i64 v2, .int .i64 v3, .int .i64 v4, .slice A5 n5 c5, .slice A6 n6 c6, .slice A7 n7 c7] 52 (0,0)):=by rw [←hW];exact(mV w _ _).1
 obtain⟨_,g1, _⟩:=jv hbx;have G1:=hid g1;clear hX hbx g1 hb2 ht;cases b with
 | true=>
  have HT:Hid (nA k text true=bY text):=hid rfl;rw [HT.out];rw [←hW]at NA;clear hW;generalize bY text=q at*
  go_enter Tryz.func116,Tryz.ntmps116;go_wp2_with fail;refine NA.out.mono ?_;rintro e w2 ⟨rfl,hb⟩;have hW:=HW.out;rw [hW]at hb;go_wp2_with fail;go_ret;exact⟨rfl,HB.out.trans (hb.mono HB.out.size)⟩
 | false=>
  by_cases k1:k=1
  ·subst k1;have HT:Hid (nA 1 text false=zO text):=hid rfl;rw [HT.out];rw [←hW]at HST;clear hW;generalize zO text=q at*
   go_enter Tryz.func116,Tryz.ntmps116;go_wp2_with fail;refine HST.out.mono ?_;rintro e w2 ⟨rfl,hb⟩;have hW:=HW.out;rw [hW]at hb;go_wp2_with fail;go_ret;exact⟨rfl,HB.out.trans (hb.mono HB.out.size)⟩
  have q1:(k==1)=false:=beq_eq_false_iff_ne.mpr k1;by_cases k14:k=14
  ·subst k14;have HT:Hid (nA 14 text false=decide (text∈opsL)):=hid (by show opsL.contains text= _;rw [List.contains_eq_mem]);rw [HT.out];clear hW k1 q1;have HB0:Hid (Below W.heap.size W W.drew):=hid (aN W 1);have HO:=hid (OQ W.drew (HX.out.below HB0.out));have VO:=hid (fun v (w1:World) (h:Ss w1 w1.heap.size v opsL)=>kY v opsL text w1 h);clear HT NA HST;generalize decide (text∈opsL)=q at*
   go_enter Tryz.func116,Tryz.ntmps116;go_wp2_with fail;have hW:=HW.out;rw [hW];clear hW;refine wp_region_held_drew (S:=fun w'=>Below W.heap.size W w') (by kernel_rfl) HB0.out (fun _=> ?_)
   try simp only [Act.put,sq]
   refine tk 1 (.pointer (some ⟨w.heap.size,1,none⟩)) HB0.out ?_;refine uK 2 (sv text) (Ct G1.out) HB0.out ?_;refine wpAnyH_ready (rs:=[0]) (by kernel_rfl) (by simp) ?_;refine AllReadyH.cons rfl (fun K hK=> ?_) (AllReadyH.nil);go_simp;refine HO.out.mono ?_;rintro e w2 ⟨v2,rfl,hss,hb⟩;have FI:=hid hss;have HB2:=hid (HB0.out.trans (hb.mono HB0.out.size));clear hb hss;refine hK.out _ _ HB2.out (fun _=> ?_);clear hK K
   try simp only [Act.put,sq]
   refine wpAnyH_ready (rs:=[3]) (by kernel_rfl) (by simp) ?_;refine AllReadyH.cons rfl (fun K hK=> ?_) (AllReadyH.nil);go_simp;refine(VO.out _ _ FI.out).mono ?_;rintro e w3 ⟨rfl,rfl⟩;refine hK.out _ _ HB2.out (fun _=> ?_);clear hK K
   try simp only [Act.put,sq]
   refine tk 4 (.bool q) HB2.out ?_;refine wpAnyH_done (by kernel_rfl) ?_ _;go_wp2_with fail;go_ret;exact⟨rfl,HB.out.trans (HB2.out.mono HB.out.size)⟩
  have q14:(k==14)=false:=beq_eq_false_iff_ne.mpr k14;have HT:Hid (nA k text false=(text==[])):=hid (by unfold nA;rw [if_neg (by simp),if_neg k1,if_neg k14]);rw [HT.out];clear hW k1 k14 NA HST HT;rw [←HW.out]at HB;cases hq:(text==[])with
  | true=>
   obtain rfl:text=[]:=by simpa using hq
   go_enter Tryz.func116,Tryz.ntmps116;go_wp2_with fail;go_ret;exact⟨rfl,HB.out⟩
  | false=>
   go_enter Tryz.func116,Tryz.ntmps116;go_wp2_with fail;go_ret;exact⟨rfl,HB.out⟩
theorem Cg {P:Program} {fn:Func} {p:Tmp} {ty:TypeId} (h:fn.results= #[.cell p ty]) (tmps:Array Value) (w:World) (g:Nat) (t:TypeId) (cs:Array Value) (fr:Nat ×Nat) (d:TypeDesc)
  (hp:tmps.getD p undef= .pointer (some ⟨g,0,none⟩)) (hg:w.heap[g]? =some (.cells cs t fr))
  (hu:P.underlying ty=some d) (hd:(match d with | .struct _ | .array _ _=>true | _=>false)=true) (hi:(P.info? ty).map (·.size)=some cs.size):
  (results fn tmps).run P w= .ok (.agg cs) w:=by
 have hp':tmps[p]?.getD undef= .pointer (some ⟨g,0,none⟩):=by simpa using hp
 simp [results,h,hp',asAddr,run_loadVar_row w g t ty cs fr d hg hu hd hi,Result.andThen]
def su:List Value:=[.bool false, .int .i64 0, .int .i64 0, .int .i64 0, .int .i64 9223372036854775807, .bool false, .int .i64 0, .int .i64 0, .int .i64 0, .int .i64 0, .bool false, .int .i64 0, .int .i64 0, .int .i64 0, .int .i64 1, .bool false, .int .i64 0, .int .i64 0, .int .i64 0, .int .i64 0, .bool true, .int .i64 0, .int .i64 0, .int .i64 0, .int .i64 0, .bool true, .int .i64 0, .int .i64 1, .int .i64 2, .int .i64 0, .bool true, .int .i64 1, .int .i64 2, .int .i64 1, .int .i64 0, .bool false, .int .i64 0, .int .i64 0, .int .i64 2, .int .i64 0, .bool false, .int .i64 0, .int .i64 0, .int .i64 (-1), .int .i64 0, .bool true, .int .i64 0, .int .i64 0, .int .i64 1, .int .i64 0, .bool true, .int .i64 0, .int .i64 0, .int .i64 2, .int .i64 0, .bool false, .int .i64 0, .int .i64 0, .int .i64 3, .int .i64 0, .bool false, .int .i64 0, .int .i64 0, .int .i64 1, .int .i64 5, .bool false, .int .i64 1, .int .i64 1, .int .i64 1, .int .i64 0, .bool false, .int .i64 0, .int .i64 0, .int .i64 2, .int .i64 0, .bool false, .int .i64 0, .int .i64 0, .int .i64 1, .int .i64 0, .bool false, .int .i64 0, .int .i64 0, .int .i64 1, .int .i64 0, .bool false, .int .i64 0, .int .i64 0, .int .i64 1, .int .i64 0, .bool false, .int .i64 0, .int .i64 0, .int .i64 0, .int .i64 0, .bool true, .int .i64 1, .int .i64 1048576, .int .i64 0, .int .i64 0]
theorem JN (w:World):Calls Tryz.prog 115 #[] w fun e w'=>e= .returned (.agg su.toArray)∧Below w.heap.size w w':=by
 have hst:∀L:List Value,L=su→(storeCells ⟨w.heap.size,0,none⟩ L 0).run Tryz.prog (w.alloc (.cells Tryz.zeroCells175 175))= .ok () (w.alloc (.cells su.toArray 175)):=by
  intro L h;subst h;have:=run_storeCells_new (P:=Tryz.prog) w 175 Tryz.zeroCells175 su.toArray (by kernel_rfl) (by kernel_rfl) (by kernel_rfl);simpa using this
 go_enter Tryz.func115,Tryz.ntmps115;go_wp2_with fail;rw [hst _ (by kernel_rfl)];clear hst;have hK:su.toArray.size=100:=by kernel_rfl
 generalize hKL:su.toArray=L at*
 go_wp2_with fail;refine bodyPost_ret (Cg rfl _ _ w.heap.size _ _ _ _ rfl (heap_alloc_new w _) Tryz.underlying175 rfl (by rw [hK];kernel_rfl)) rfl ?_;exact⟨by rw [hKL],(Below.refl _ _).alloc (Nat.le_refl _) _⟩
def MU (h:NG):Value:= .agg #[.bool h.name, .int .i64 h.low, .int .i64 h.types, .int .i64 h.kids, .int .i64 h.most]
theorem Em (k:Int) (h0:0≤k) (h1:k<20) (u:World):(Instr.index 175 (.agg su.toArray) (.int .i64 k)).run Tryz.prog u= .ok (MU (dH k)) u:=by
 have h:k=0∨k=1∨k=2∨k=3∨k=4∨k=5∨k=6∨k=7∨k=8∨k=9∨k=10∨k=11∨k=12∨k=13∨k=14∨k=15∨k=16∨k=17∨k=18∨k=19:=by omega
 clear h0 h1;rcases h with rfl | rfl | rfl | rfl | rfl | rfl | rfl | rfl | rfl | rfl | rfl | rfl | rfl | rfl | rfl | rfl | rfl | rfl | rfl | rfl
 all_goals (show _= _;kernel_rfl)
theorem JO (w:World):Calls Tryz.prog 115 #[] w fun e w'=>(∃v,e= .returned v∧∀k:Int,0≤k→k<20→∀u,(Instr.index 175 v (.int .i64 k)).run Tryz.prog u= .ok (MU (dH k)) u)∧Below w.heap.size w w':=
 (JN w).mono fun e w' h=>⟨⟨_,h.1,fun k h0 h1 u=>Em k h0 h1 u⟩,h.2⟩
end Go.Proofs.YtfgjkmipfikooaaGreatDoor
