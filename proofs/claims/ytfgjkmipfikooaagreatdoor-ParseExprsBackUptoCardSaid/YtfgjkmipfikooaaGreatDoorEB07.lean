/- GK, MQ, GL, YD, GM, GN -/
import Derived.Test.YtfgjkmipfikooaaGreatDoorEB05
import Derived.Test.YtfgjkmipfikooaaGreatDoorEB06
import Derived.Lib.ItoaLen
import Derived.Shelf.Strings.IndexFuncSpace
import Derived.Deep.WholeRow
set_option linter.unusedSimpArgs false
set_option linter.unusedVariables false
set_option maxRecDepth 100000
set_option maxHeartbeats 2000000
namespace Go.Proofs.YtfgjkmipfikooaaGreatDoor
open Go.RowKit
mutual
def jS:bC->Nat
 |.mk _ _ _ ks=>1+dh ks
def dh:List bC->Nat
 | []=>0
 |t :: l=>jS t+dh l
end
def kr (l:List Bt):Nat:=(l.map List.length).sum
theorem kM (x:Bt)(l:List Bt):kr (x :: l)=x.length+kr l:=by simp [kr]
theorem oH (sep:Bt):∀l:List Bt,(jc sep l).length<=kr l+sep.length*l.length
 | []=>by simp [jc]
 | [x]=>by simp [jc,kr]
 |x :: y :: l=>by
  have h:=oH sep (y :: l);rw [jc,List.length_append,List.length_append,kM,List.length_cons,Nat.mul_succ];omega
theorem oI {s:Bt}(h:dM s=true):s.length<=32:=by
 rcases Nat.lt_or_ge 32 s.length with h1 |h1
 ·rw [Cn h1]at h;cases h
 ·exact h1
theorem yZ:∀(ns l:List Bt),(∀n∈ns,n.length<=32)->kr (List.zipWith gI ns l)<=kr l+34*l.length
 | [],l,_=>by simp [kr]
 |n :: ns,[],_=>by simp [kr]
 |n :: ns,x :: l,h=>by
  have h1:=yZ ns l fun y hy=>h y (List.mem_cons_of_mem _ hy);have h2:=h n (List.mem_cons_self ..);rw [List.zipWith_cons_cons,kM,kM,List.length_cons];have h3:(gI n x).length=n.length+(2+x.length):=by unfold gI;simp only [List.length_append,List.length_cons,List.length_nil]
  omega
theorem FP {α β γ:Type}(f:α->β->γ):∀(a:List α) (b:List β),(List.zipWith f a b).length<=b.length
 | [],b=>by simp
 |x :: a,[]=>by simp
 |x :: a,y :: b=>by rw [List.length_zipWith];omega
theorem Cx (ks:List Int)(k:Int)(s:Bt):(jy ks k s).length<=s.length+2:=by
 unfold jy;split
 ·simp
 ·omega
theorem EK (kk:List Int):∀(ks:List Int) (l:List Bt),kr (List.zipWith (jy kk) ks l)<=kr l+2*l.length
 | [],l=>by simp [kr]
 |k :: ks,[]=>by simp [kr]
 |k :: ks,x :: l=>by
  have h1:=EK kk ks l;have h2:=Cx kk k x;rw [List.zipWith_cons_cons,kM,kM,List.length_cons];omega
theorem H8 (l:List Bt)(i:Nat):(l.getD i []).length<=kr l:=by
 induction l generalizing i with
 |nil=>simp [kr]
 |cons x l ih=>
  rw [kM];cases i with
  |zero=>simp
  |succ i=>have:=ih i;simp only [List.getD_cons_succ];omega
theorem TS (l:List Bt):(l.getD 0 []).length+(l.getD 1 []).length<=kr l:=by
 match l with
 | []=>simp [kr]
 | [x]=>simp [kr]
 |x :: y :: l=>simp [kr]
theorem qL (l:List bC):(eT l).length=l.length:=by rw [mG,List.length_map]
mutual
theorem oW:∀(t:bC) (m:Nat),aK m t=true->(cO t).length+44<=80*jS t
 |.mk k nm ns ks,m,h=>by
  obtain⟨m,rfl⟩:∃q,m=q+1:=by
   cases m with
   |zero=>cases h
   |succ q=>exact⟨q,rfl⟩
  have h:(ns.all dM && ks.all (aK m) && eZ k nm ns.length ks.length)=true:=h;rw [Bool.and_eq_true,Bool.and_eq_true]at h;obtain⟨⟨h1,h2⟩,h3⟩:=h;have hn:∀n∈ns,n.length<=32:=fun n hn=>oI (List.all_eq_true.1 h1 n hn);have hk:=qZ ks m h2;have hl:=qL ks;rw [cO,jS];split
  ·simp;omega
  split
  ·simp;omega
  split
  ·simp;omega
  split
  ·simp;omega
  split
  ·simp;omega
  split
  ·have a1:=oH [44,32] (List.zipWith gI ns (eT ks));have a2:=yZ ns (eT ks) hn;have a3:=FP gI ns (eT ks);simp only [List.length_append,List.length_cons,List.length_nil]at a1 ⊢;omega
  split
  ·have a1:=Cx [6] ((ks.map bC.kind).getD 0 0) ((eT ks).getD 0 []);have a2:=TS (eT ks);simp only [List.length_append,List.length_cons,List.length_nil];omega
  split
  ·have a1:=oH [32,124,32] (List.zipWith (jy [6,7]) (ks.map bC.kind) (eT ks));have a2:=EK [6,7] (ks.map bC.kind) (eT ks);have a3:=FP (jy [6,7]) (ks.map bC.kind) (eT ks);simp only [List.length_append,List.length_cons,List.length_nil]at a1 ⊢;omega
  ·have hnm:nm.length<=32:=by
    unfold eZ at h3;split at h3
    ·rw [Bool.and_eq_true]at h3;exact oI h3.2
    ·split at h3
     ·cases h3
     ·rename_i h4
      have:nm=[]:=by
       rcases nm with _ |⟨c,r⟩
       ·rfl
       ·exact absurd (.inl (by simp)) h4
      rw [this];simp
   omega
theorem qZ:∀(l:List bC) (m:Nat),l.all (aK m)=true->kr (eT l)+44*l.length<=80*dh l
 | [],_,_=>by simp [kr,eT]
 |t :: l,m,h=>by
  rw [List.all_cons,Bool.and_eq_true]at h;have h1:=oW t m h.1;have h2:=qZ l m h.2;rw [eT,kM,dh,List.length_cons];omega
end
def Cy (t:bC):Prop:=∀(w:World) (z:List Value) (m:Nat),tQ w w.heap.size z t->aK m t=true->jS t<=300000->
 Calls Tryz.prog 60 #[.agg z.toArray] w fun e w'=>e=.returned (sv (cO t))∧Below w.heap.size w w'
theorem Cz (t:bC)(hS:Cy t)(w:World)(z:List Value)(m:Nat)(hr:tQ w w.heap.size z t)(hw:aK m t=true)(hc:jS t<=300000)(bq:Nat)(kk:List Int)(hk:kk.length<=10)(hq:∀j,j<kk.length->w.cell? ⟨bq,0+j,none⟩=some (.int .i64 (kk.getD j 0)))(hbq:bq<w.heap.size):
  Calls Tryz.prog 124 #[.agg z.toArray,.slice (some ⟨bq,0,none⟩) kk.length kk.length] w fun e w'=>e=.returned (sv (jy kk t.kind (cO t)))∧Below w.heap.size w w':=by
 have hlen:=oW t m hw;obtain⟨k,nm,ns,ks⟩:=t;obtain⟨A1,c1,A2,c2,xk,hz,s1,s2,r2⟩:=hr.parts;have hb1:Below w.heap.size w (w.alloc (.cells z.toArray 57)):=(Below.refl _ _).alloc (Nat.le_refl _) _;have HS:=aZ (hS _ z m (hr.far (Nat.le_refl _) hb1) hw hc);have HC:=aZ (Tryz.slices_Contains_int bq 0 kk.length kk.length kk k (w.alloc (.cells z.toArray 57)) (Nat.le_refl _) (by omega) (fun j hj=>wu hb1 (hq j hj) hbq));have HB:=aZ hb1;subst hz;have hki:(bC.mk k nm ns ks).kind=k:=rfl;rw [hki];generalize cO (.mk k nm ns ks)=s at*
 generalize jS (.mk k nm ns ks)=N at*
 rw [List.take_length]at HC;have hsz:=aT s;have h1:¬(9223372036854775807<1+s.length):=by omega
 have h2:¬(9223372036854775807<1+s.length+1):=by omega
 clear hr hw hS hb1 hq hbq s1 s2 r2 hki hlen hc;cases hcn:kk.contains k with
 |true=>
  rw [hcn]at HC;have HT:bR (jy kk k s=[40]++(s++[41])):=aZ (by unfold jy;rw [hcn];rfl);clear hcn;go_enter Tryz.func124,Tryz.ntmps124;go_wp2_with fail;refine HC.o.mono ?_;rintro e w2 ⟨rfl,rfl⟩;go_wp2_with fail;refine HS.o.mono ?_;rintro e w3 ⟨rfl,hb3⟩;go_wp2_with fail;go_ret;refine⟨?_,HB.o.trans (hb3.mono HB.o.size)⟩;rw [HT.o];have e:(⟨#[40]⟩:ByteArray)++⟨s.toArray⟩++⟨#[41]⟩=⟨([40]++(s++[41])).toArray⟩:=by
   rw [show(⟨#[40]⟩:ByteArray)=⟨([40]:Bt).toArray⟩from rfl,show(⟨#[41]⟩:ByteArray)=⟨([41]:Bt).toArray⟩from rfl,aF,aF,List.append_assoc]
  exact congrArg (fun b=>Ending.returned (Value.string b)) e
 |false=>
  rw [hcn]at HC;have HT:bR (jy kk k s=s):=aZ (by unfold jy;rw [hcn];rfl);clear hcn;go_enter Tryz.func124,Tryz.ntmps124;go_wp2_with fail;refine HC.o.mono ?_;rintro e w2 ⟨rfl,rfl⟩;go_wp2_with fail;refine HS.o.mono ?_;rintro e w3 ⟨rfl,hb3⟩;go_wp2_with fail;go_ret;exact⟨by rw [HT.o];rfl,HB.o.trans (hb3.mono HB.o.size)⟩
theorem wH (sep:Bt):∀l:List Bt,Lib.join l sep=jc sep l
 | []=>rfl
 | [x]=>Lib.join_one x sep
 |x :: y :: l=>by
  have h:=wH sep (y :: l);rw [jc,<-h];simp [Lib.join,List.intercalate]
theorem Ia (w:World)(v:Value)(l:List Bt)(sep:Bt)(hv:Ss w w.heap.size v l)(hn:l.length<=140737488355328)(hlen:(jc sep l).length<=140737488355328):
  Calls Tryz.prog 69 #[v,sv sep] w fun e w'=>e=.returned (sv (jc sep l))∧Below w.heap.size w w':=by
 obtain⟨A,c,rfl,hlc,hcm,hcell⟩:=hv.open_;rcases Nat.eq_zero_or_pos l.length with h0 |h0
 ·have hl:l=[]:=List.length_eq_zero_iff.1 h0;subst hl;refine(Tryz.strings_Join_none A c ⟨sep.toArray⟩ w).mono ?_;rintro e w2 ⟨rfl,rfl⟩;exact⟨rfl,Below.refl _ _⟩
 ·obtain⟨b,off,rfl,hb,hc⟩:=hcell h0;have hmap:(l.map fun x:Bt=>(⟨x.toArray⟩:ByteArray)).map (·.data.toList)=l:=by
   rw [List.map_map]
   conv=>rhs;rw [<-List.map_id l]
   apply List.map_congr_left;intro x _;simp
  have h:=Tryz.strings_Join b off c (l.map fun x:Bt=>⟨x.toArray⟩) ⟨sep.toArray⟩ w (fun j x hx=>by
   rw [List.getElem?_map]at hx;rcases hj:l[j]? with _ |y
   ·rw [hj]at hx;cases hx
   ·rw [hj]at hx;injection hx with hx;obtain⟨hjl,rfl⟩:=List.getElem?_eq_some_iff.1 hj;rw [<-hx];exact hc j hjl) hb (by rw [List.length_map];exact hn) (by rw [List.length_map];exact hlc) (by rw [hmap];show(Lib.join l sep.toArray.toList).length<= _;rw [List.toList_toArray,wH];exact hlen)
  rw [hmap,List.length_map]at h;refine h.mono ?_;rintro e w2 ⟨rfl,hb2⟩;refine⟨?_,hb2⟩;show Ending.returned (Value.string ⟨(Lib.join l sep.toArray.toList).toArray⟩)= _;rw [List.toList_toArray,wH]
theorem uZ:∀{l:List bC}{t:bC},t∈l->jS t<=dh l
 | [],_,h=>by cases h
 |x :: l,t,h=>by
  rw [dh];rcases List.mem_cons.1 h with rfl |h
  ·omega
  ·have:=uZ h;omega
theorem TT (t:bC):0<jS t:=by cases t;rw [jS];omega
theorem xP:∀l:List bC,l.length<=dh l
 | []=>by simp
 |t :: l=>by have:=xP l;have:=TT t;rw [dh,List.length_cons];omega
mutual
def gT:bF->Nat
 |.mk _ _ _ _ _ ts _ ks=>1+dh ts+fJ ks
def fJ:List bF->Nat
 | []=>0
 |t :: l=>gT t+fJ l
end
theorem uF:∀{l:List bF}{t:bF},t∈l->gT t<=fJ l
 | [],_,h=>by cases h
 |x :: l,t,h=>by
  rw [fJ];rcases List.mem_cons.1 h with rfl |h
  ·omega
  ·have:=uF h;omega
theorem QB (t:bF):0<gT t:=by cases t;rw [gT];omega
theorem vg:∀l:List bF,l.length<=fJ l
 | []=>by simp
 |t :: l=>by have:=vg l;have:=QB t;rw [fJ,List.length_cons];omega
theorem Ve {α:Type}{c:Prop}[Decidable c]{P:α->Prop}{a b:α}(ha:P a)(hb:P b):P (if c then a else b):=by
 by_cases h:c
 ·rw [if_pos h];exact ha
 ·rw [if_neg h];exact hb
theorem WB {s:Bt}(h:opsL.contains s=true):s.length<=3:=by
 have h1:s∈opsL:=by simpa using h
 have h2:∀x∈opsL,x.length<=3:=by decide
 exact h2 s h1
theorem CB {k:Int}{s:Bt}{b:Bool}(h:qx k s b=true):s.length<=256:=by
 unfold qx at h;split at h
 ·have:=oI h;omega
 split at h
 ·unfold yR at h;rw [Bool.and_eq_true,decide_eq_true_eq]at h;exact h.1
 split at h
 ·have:=WB h;omega
 ·have:s=[]:=by simpa using h
  rw [this];simp
theorem NQ (s:Bt):(mE s).length<=2*s.length+2:=by
 have h1:=FM s;have h2:=xM s;unfold mE;rw [List.length_cons,List.length_append];simp only [List.length_cons,List.length_nil];omega
theorem QC (ts:List bC)(m:Nat)(h:ts.all (aK m)=true):(jR ts 0).length+(jR ts 1).length<=80*dh ts:=by
 have h1:=qZ ts m h
 match ts,h1 with
 | [],_=>simp [jR]
 | [t],h1=>
  simp [jR,eT,kr]at h1 ⊢;omega
 |t :: u :: l,h1=>
  simp [jR,eT,kr]at h1 ⊢;omega
theorem QD (i:Nat):(mg.getD i []).length<=28:=by
 have:=H8 mg i;have h:kr mg=28:=by decide
 omega
theorem Mj:∀l:List Bt,(cat l).length=kr l
 | []=>rfl
 |x :: l=>by
  have:=Mj l;rw [kM,<-this];simp [cat]
theorem NR (l:List Bt):(l.getD 0 []).length+(l.getD 1 []).length+(l.getD 2 []).length<=kr l:=by
 match l with
 | []=>simp [kr]
 | [x]=>simp [kr]
 | [x,y]=>simp [kr]
 |x :: y :: z :: l=>simp [kr];omega
theorem qM (l:List bF):(fU l).length=l.length:=by rw [rZ,List.length_map]
theorem In64.itoa {n:Int}(h:0<=n∧n<=9223372036854775807):(Lib.itoa n).length<=40:=by
 have:=Lib.itoa_length_le n (by omega) (by omega);omega
theorem QE (k:Int)(text:Bt)(n:Int)(ts:List bC)(ns:List Bt)(s:List Bt)(m:Nat)(ht:text.length<=256)(hn:0<=n∧n<=9223372036854775807)(hts:ts.all (aK m)=true)(hns:∀x∈ns,x.length<=32):
  (dY k text n ts ns s).length+44<=700+80*dh ts+(kr s+36*s.length):=by
 have a1:=QC ts m hts;have a2:=qZ ts m hts;have a3:=NR s;have a4:=QD n.toNat;have a5:=NQ text;have a6:=oH [44,32] (ts.map cO);have a7:=oH [44,32] (List.zipWith gI ns s);have a8:=yZ ns s hns;have a9:=FP gI ns s;have Gx:=H8 (ts.map cO) 0;have FQ:=In64.itoa hn;rw [mG]at a2;rw [List.length_map]at a6;simp only [List.length_cons,List.length_nil]at a6 a7;unfold dY iC;generalize Lib.itoa n=it at*
 repeat' (refine Ve (P:=fun l:Bt=>l.length+44<=700+80*dh ts+(kr s+36*s.length)) ?_ ?_)
 all_goals first
  |omega
  |(rw [Mj];simp only [kr,List.map_cons,List.map_nil,List.sum_cons,List.sum_nil,List.length_cons,List.length_nil];simp only [kr]at*;omega)
  |(simp only [List.length_cons,List.length_nil];omega)
theorem QF {k:Int}{text:Bt}{n:Int}{a b c:Nat}(h:Ca k text n a b c=true):text.length<=256∧0<=n∧n<=9223372036854775807:=by
 unfold Ca at h;rw [Bool.and_eq_true,Bool.and_eq_true,Bool.and_eq_true,decide_eq_true_eq]at h;refine⟨CB h.1.1.2,h.1.1.1.1,?_⟩;have h1:=h.1.1.1.2;have h2:(dK k).most<=9223372036854775807:=by
  show(fun h:Tz=>h.most<=9223372036854775807) (dK k);unfold dK
  repeat' (refine Ve (P:=fun h:Tz=>h.most<=9223372036854775807) ?_ ?_)
  all_goals (show(_:Int)<= _;decide)
 omega
mutual
theorem xQ:∀(x:bF) (m:Nat),dx m x=true->(fT x).length+44<=700*gT x
 |.mk k text n li co ts ns ks,m,h=>by
  obtain⟨m,rfl⟩:∃q,m=q+1:=by
   cases m with
   |zero=>cases h
   |succ q=>exact⟨q,rfl⟩
  have h:(decide (0<=k∧k<20) && Ca k text n ts.length ns.length ks.length && ns.all dM && ts.all (aK 16) && ks.all (dx m))=true:=h;rw [Bool.and_eq_true,Bool.and_eq_true,Bool.and_eq_true,Bool.and_eq_true]at h;obtain⟨⟨⟨⟨h1,h2⟩,h3⟩,h4⟩,h5⟩:=h;obtain⟨o1,o2⟩:=QF h2;have hk:=EL ks m h5;have hl:=qM ks;have hh:=QE k text n ts ns (fU ks) 16 o1 o2 h4 (fun x hx=>oI (List.all_eq_true.1 h3 x hx));rw [fT,gT];omega
theorem EL:∀(l:List bF) (m:Nat),l.all (dx m)=true->kr (fU l)+44*l.length<=700*fJ l
 | [],_,_=>by simp [kr,fU]
 |t :: l,m,h=>by
  rw [List.all_cons,Bool.and_eq_true]at h;have h1:=xQ t m h.1;have h2:=EL l m h.2;rw [fU,kM,fJ,List.length_cons];omega
end
section
variable {P:Program}{md:Region.Mode}{ops:Array Oper}{Q:Exit->Act->World->Prop}{S:World->Prop}
theorem tk (i:Nat)(v:Value){oi:Oper}{fuel:Nat}{listed listed':Array Bool}{a a':Act}{w:World}(hS:S w)(h:wpAnyH P md ops Q S fuel listed' a' w)
  (hi:ops[i]? =some oi:=by rfl) (hs:Region.noSelect ops=true:=by kernel_rfl) (hf:Region.free md ops listed i=true:=by kernel_rfl) (hr:(Region.ready md ops listed).contains i=true:=by kernel_rfl)
  (hQ:∀c a w,Q (.panic c) (a.put oi.dst v) w->Q (.panic c) a w:=by exact fun _ _ _ h=>h) (hw:Region.wanted oi (yielded ops a.tmps)=true:=by kernel_rfl)
  (hy:∀w,S w->(execOp a.eval oi).run P w=.ok (.value v) w:=by intro w' hSw;go_simp)
  (hl:listed.setIfInBounds i true=listed':=by(try simp only [List.setIfInBounds_toArray,List.set_cons_zero,List.set_cons_succ]);rfl)
  (ha:a.put oi.dst v=a':=by(try simp only [Act.put,sq]);rfl):wpAnyH P md ops Q S (fuel+1) listed a w:=by
 subst hl ha;exact wpAnyH_take hi hs hf hr hQ (.inl ⟨hw,hy⟩) hS h
theorem jE (i:Nat)(v:Value){F:World->Prop}(f:∀w',S w'->F w'){oi:Oper}{fuel:Nat}{listed listed':Array Bool}{a a':Act}{w:World}(hS:S w)(h:wpAnyH P md ops Q S fuel listed' a' w)
  (hi:ops[i]? =some oi:=by rfl) (hs:Region.noSelect ops=true:=by kernel_rfl) (hf:Region.free md ops listed i=true:=by kernel_rfl) (hr:(Region.ready md ops listed).contains i=true:=by kernel_rfl)
  (hQ:∀c a w,Q (.panic c) (a.put oi.dst v) w->Q (.panic c) a w:=by exact fun _ _ _ h=>h) (hw:Region.wanted oi (yielded ops a.tmps)=true:=by kernel_rfl)
  (hy:∀w,F w->(execOp a.eval oi).run P w=.ok (.value v) w:=by intro w' hSw;go_simp)
  (hl:listed.setIfInBounds i true=listed':=by(try simp only [List.setIfInBounds_toArray,List.set_cons_zero,List.set_cons_succ]);rfl)
  (ha:a.put oi.dst v=a':=by(try simp only [Act.put,sq]);rfl):wpAnyH P md ops Q S (fuel+1) listed a w:=by
 subst hl ha;exact wpAnyH_take hi hs hf hr hQ (.inl ⟨hw,fun w h=>hy w (f w h)⟩) hS h
end
section
variable {w:World}{a0 a1 a2 a3 a4 a5 a6 a7:Addr}{v0 v1 v2 v3 v4 v5 v6 v7:Value}
theorem kb {w w':World}{a:Addr}{v:Value}(h:Below w.heap.size w w')(d:w.cell? a=some v):w'.cell? a=some v:=(h.cell (World.block_lt_of_cell? w a d)).trans d
theorem kU (d0:w.cell? a0=some v0):∀w',Below w.heap.size w w'->w'.cell? a0=some v0:=fun _ h=>kb h d0
theorem Vf (d0:w.cell? a0=some v0)(d1:w.cell? a1=some v1)(d2:w.cell? a2=some v2)(d3:w.cell? a3=some v3):
  ∀w',Below w.heap.size w w'->w'.cell? a0=some v0∧w'.cell? a1=some v1∧w'.cell? a2=some v2∧w'.cell? a3=some v3:=fun _ h=>⟨kb h d0,kb h d1,kb h d2,kb h d3⟩
theorem kp8 (d0:w.cell? a0=some v0)(d1:w.cell? a1=some v1)(d2:w.cell? a2=some v2)(d3:w.cell? a3=some v3)(d4:w.cell? a4=some v4)(d5:w.cell? a5=some v5)(d6:w.cell? a6=some v6)(d7:w.cell? a7=some v7):
  ∀w',Below w.heap.size w w'->w'.cell? a0=some v0∧w'.cell? a1=some v1∧w'.cell? a2=some v2∧w'.cell? a3=some v3∧w'.cell? a4=some v4∧w'.cell? a5=some v5∧w'.cell? a6=some v6∧w'.cell? a7=some v7:=fun _ h=>⟨kb h d0,kb h d1,kb h d2,kb h d3,kb h d4,kb h d5,kb h d6,kb h d7⟩
end
theorem Kl (w:World)(n:Nat)(hn:n<=1000000):∃w1,(Instr.makeSlice 25 (.int .i64 n) (.int .i64 n)).run Tryz.prog w=.ok (.slice (some ⟨w.heap.size,0,none⟩) n n) w1∧
  (∃cur:List Value,w1.heap[w.heap.size]? =some (.cells cur.toArray 9 (0,0))∧cur.length=n)∧Below w.heap.size w w1:=by
 obtain⟨ht,hinfo,_,_⟩:=oQ;obtain⟨i,hi,hz,hs,hb⟩:=info_parts hinfo;have hr:=run_make (P:=Tryz.prog) w 25 9 i _ ht hi hz .i64 .i64 n n (by omega) (Int.le_refl _) (by rw [hb];omega) (by omega);simp only [Int.toNat_natCast]at hr;refine⟨_,hr,⟨(madeCells (sv []).cells (n*i.size)).toList,by rw [Array.toArray_toList];exact heap_alloc_new w _,by rw [Array.length_toList,size_madeCells,hs,Nat.mul_one]⟩,(Below.refl _ _).alloc (Nat.le_refl _) _⟩
theorem NS {w:World}{b:Nat}{l:List Bt}{t:TypeId}{n:Nat}(hn:n=l.length)(h:w.heap[b]? =some (.cells (mW l).toArray t (0,0)))(hl:l.length<=maxLen):Ss w w.heap.size (.slice (some ⟨b,0,none⟩) n n) l:=by
 subst hn;refine⟨_,l.length,l.length,rfl,by simp [dV],Nat.le_refl _,hl,fun _=>⟨b,0,rfl,block_lt h,fun j u hu=>?_⟩⟩;rw [Nat.zero_add,cell_of_row _ _ _ _ _ (0,0) h];simpa using hu
theorem QG {l:List Bt}{i:Nat}(h:i<l.length):mW (l.take (i+1))=mW (l.take i)++[sv l[i]]:=by
 rw [List.take_succ_eq_append_getElem h,mF];rfl
theorem CF (F:Nat)(eg:∀args w,(callFunc F args).run Tryz.prog w=.ok (.enter F args) w)(caps:Array Value)(l:List Bt)(w:World)(hn:l.length<=1000000)(hlen:(jc [44,32] l).length<=140737488355328)
  (hF:∀(i:Nat) (hi:i<l.length) (w1:World),Below w.heap.size w w1->Calls Tryz.prog F (#[.int .i64 i]++caps) w1 fun e w2=>e=.returned (sv l[i])∧Below w1.heap.size w1 w2):
  Calls Tryz.prog 118 #[.int .i64 l.length,.func (.func F) #[] caps] w fun e w'=>e=.returned (sv (jc [44,32] l))∧Below w.heap.size w w':=by
 obtain⟨w1,hmk,⟨Qw,hcur,hcl⟩,hb1⟩:=Kl w l.length hn;have HF:=aZ hF;have Hz:=aZ hcur;have HB1:=aZ hb1;have HLEN:=aZ hlen;clear hF hcur hb1 hlen;obtain⟨n,hnl⟩:∃n,n=l.length:=⟨_,rfl⟩
 have JR:=aZ hnl;rw [<-hnl]at hmk hcl hn ⊢;clear hnl;obtain⟨bb,yY⟩:∃bb,bb=w.heap.size:=⟨_,rfl⟩
 have Wy:=aZ yY;rw [<-yY]at Hz hmk;clear yY;go_enter Tryz.func118,Tryz.ntmps118;go_wp2_with fail;clear hmk;go_loopw [10] (fun v10 wr=>∃(k:Nat) (cur:List Value),v10=.int .i64 k∧k<=n∧wr.heap[bb]? =some (.cells cur.toArray 9 (0,0))∧cur.length=n∧cur.take k=mW (l.take k)∧Below w.heap.size w wr) (fun v10 _=>n - (intOf v10).toNat)
 case atStart=>exact⟨0,Qw,rfl,by omega,Hz.o,hcl,rfl,HB1.o⟩
 case round=>
  obtain⟨k,cur,rfl,hk,hcur,hcn,htk,hbr⟩:=hrel;have Cu:=aZ htk;clear htk;by_cases hlt:k<n
  ·have hkl:k<l.length:=by rw [<-JR.o];exact hlt
   have HC:=aZ (HF.o k hkl wr hbr);have HB:=aZ hbr;have HCR:=aZ hcur;have HST:=aZ (QG hkl);generalize l[k]=X at*
   clear hbr hcur;go_wp2_with fail;refine HC.o.mono ?_;rintro e w2 ⟨rfl,hb⟩;have Mk:=(hb.block _ (block_lt HCR.o)).trans HCR.o;have z1:w2.cell? ⟨bb,k,none⟩=some (cur[k]'(by omega)):=(cell_of_row _ _ _ _ _ (0,0) Mk).trans (by simp [hcn,hlt]);have z2:=bI Mk k;have hnew:=heap_setCell_same w2 bb k _ _ (sv X) Mk;rw [List.setIfInBounds_toArray]at hnew;have Qz:=aZ hnew;have hb2:=HB.o.trans (hb.mono HB.o.size);have hbn:=hb2.trans ((ak w2 bb k (sv X)).below hb2.size (fun j hj h=>by have:=Wy.o;omega));have htn:=qK (v:=sv X) Cu.o (by omega);have xB:=aZ htn;have qA:=aZ hbn;have Gw:=aZ hcn;clear hnew htn Mk hb hbn hb2;generalize cur[k]=cj at*
   go_wp2_with fail
   go_roundw
   case rel=>exact⟨k+1,_,rfl,by omega,Qz.o,by rw [List.length_set];exact Gw.o,by rw [xB.o,HST.o],qA.o⟩
   case measure=>simp [intOf];omega
  ·obtain rfl:k=n:=by omega
   have hcc:cur=mW l:=by
    have h1:=Cu.o;rw [List.take_of_length_le (by omega),List.take_of_length_le (by rw [<-JR.o];omega)]at h1;exact h1
   subst hcc;have HJ:=aZ (Ia wr (.slice (some ⟨bb,0,none⟩) k k) l [44,32] (NS JR.o hcur (by rw [<-JR.o];unfold maxLen;omega)) (by rw [<-JR.o];omega) HLEN.o);have HB:=aZ hbr;clear hbr hcur;go_wp2_with fail;refine HJ.o.mono ?_;rintro e w2 ⟨rfl,hb⟩;go_wp2_with fail;go_ret;exact⟨rfl,HB.o.trans (hb.mono HB.o.size)⟩
theorem kp {w w':World}{a:Addr}{v:Value}(h:Below w.heap.size w w')(d:w.cell? a=some v):w'.cell? a=some v:=(h.cell (World.block_lt_of_cell? w a d)).trans d
theorem mO {w:World}{B:Nat}{A:Option Addr}{n c:Nat}{xk:List Value}{ks:List bC}(h2:Sl w B 4 (.slice A n c) xk)(hr:jo w B xk ks){i:Nat}(hi:i<ks.length)(hn:n=ks.length):
  ∃b o k s A1 n1 c1 A2 n2 c2,A=some ⟨b,o,none⟩∧tQ w B [.int .i64 k,.string s,.slice A1 n1 c1,.slice A2 n2 c2] ks[i]∧w.cell? ⟨b,o+i*4,none⟩=some (.int .i64 k)∧w.cell? ⟨b,o+i*4+1,none⟩=some (.string s)∧w.cell? ⟨b,o+i*4+2,none⟩=some (.slice A1 n1 c1)∧w.cell? ⟨b,o+i*4+3,none⟩=some (.slice A2 n2 c2):=by
 subst hn;obtain⟨b1,o1,rfl,hb1,hc1⟩:=uT h2 hi (by omega);have hr1:=hr.at i hi;obtain⟨kk,s,A1,n1,c1,A2,n2,c2,hv1⟩:=hr1.shape;rw [hv1]at hr1;refine⟨b1,o1,kk,s,A1,n1,c1,A2,n2,c2,rfl,hr1,?_,?_,?_,?_⟩
 ·have:=hc1 0 _ (iD hv1 (by omega:0<4));simpa using this
 ·have:=hc1 1 _ (iD hv1 (by omega:1<4));simpa [Nat.add_assoc]using this
 ·have:=hc1 2 _ (iD hv1 (by omega:2<4));simpa [Nat.add_assoc]using this
 ·have:=hc1 3 _ (iD hv1 (by omega:3<4));simpa [Nat.add_assoc]using this
theorem BD {w:World}{B:Nat}{A:Option Addr}{n c:Nat}{ns:List Bt}(h:Ss w B (.slice A n c) ns){i:Nat}(hi:i<ns.length):
  ∃b o,A=some ⟨b,o,none⟩∧w.cell? ⟨b,o+i,none⟩=some (sv ns[i]):=by
 obtain⟨A',c',hv,_,_,hx⟩:=h.open_;injection hv with e1 e2 e3;subst e1 e2 e3;obtain⟨b,o,hA,_,hc⟩:=hx (by omega);exact⟨b,o,hA,hc i hi⟩
theorem NT (w:World)(bt:Nat)(k:Int)(nm:Bt)(ns:List Bt)(ks:List bC)(A1:Option Addr)(c1:Nat)(A2:Option Addr)(c2:Nat)(xk:List Value)
  (hbt:w.heap[bt]? =some (.cells #[.int .i64 k,sv nm,.slice A1 ns.length c1,.slice A2 ks.length c2] 57 (0,0))) (s1:Ss w w.heap.size (.slice A1 ns.length c1) ns) (s2:Sl w w.heap.size 4 (.slice A2 ks.length c2) xk) (r2:jo w w.heap.size xk ks)
  (i:Nat) (hi:i<ks.length) (hin:i<ns.length) (hS:Cy ks[i]) (m:Nat) (hw:aK m ks[i]=true) (hc:jS ks[i]<=300000) (hnm:ns[i].length<=32):
  Calls Tryz.prog 123 #[.int .i64 i,.pointer (some ⟨bt,0,none⟩)] w fun e w'=>e=.returned (sv (gI ns[i] (cO ks[i])))∧Below w.heap.size w w':=by
 obtain⟨_,_,g2,g3⟩:=uD hbt;obtain⟨b1,o1,rfl,d0⟩:=BD s1 hin;obtain⟨b2,o2,kk,ss,A3,n3,c3,A4,n4,c4,rfl,hr1,e0,e1,e2,e3⟩:=mO s2 r2 hi rfl;have hlen:=oW ks[i] m hw;have HS:=aZ (fun w1 (h:Below w.heap.size w w1)=>hS w1 _ m (hr1.far (Nat.le_refl _) h) hw hc);have l1:=(bN s1).2;have l2:=(bN s2).2;have hsz0:=aT ns[i];have hsz1:=aT (cO ks[i]);generalize ns[i]=X at*
 generalize cO ks[i]=s at*
 generalize jS ks[i]=N at*
 clear hS hw hr1 r2 s1 s2 hbt;generalize ns.length=a at*
 generalize ks.length=b at*
 have HF:bR (gI X s=(X++[58,32])++s):=aZ (by unfold gI;rw [List.append_assoc]);have q1:¬(9223372036854775807<X.length+2):=by omega
 have q2:¬(9223372036854775807<X.length+2+s.length):=by omega
 have G2:=aZ g2;have G3:=aZ g3;have D0:=aZ d0;have E0:=aZ e0;have E1:=aZ e1;have E2:=aZ e2;have E3:=aZ e3;have HB0:bR (Below w.heap.size w w.drew):=aZ (aH w 1);clear hc hlen g2 g3 d0 e0 e1 e2 e3 hnm;go_enter Tryz.func123,Tryz.ntmps123;go_wp2_with fail;refine wp_region_held_drew (S:=fun w'=>Below w.heap.size w w') (by kernel_rfl) HB0.o (fun _=>?_)
 try simp only [Act.put,sq]
 refine tk 0 (.pointer (some ⟨bt,2,none⟩)) HB0.o ?_;refine jE 1 (.slice (some ⟨b1,o1,none⟩) a c1) (kU G2.o) HB0.o ?_;refine tk 2 (.int .i64 i) HB0.o ?_;refine tk 3 (.pointer (some ⟨b1,o1+i,none⟩)) HB0.o ?_;refine jE 4 (sv X) (kU D0.o) HB0.o ?_;refine tk 5 (.string ((⟨X.toArray⟩:ByteArray)++⟨#[58,32]⟩)) HB0.o ?_;refine tk 6 (.pointer (some ⟨bt,3,none⟩)) HB0.o ?_;refine jE 7 (.slice (some ⟨b2,o2,none⟩) b c2) (kU G3.o) HB0.o ?_;refine tk 8 (.int .i64 i) HB0.o ?_;refine tk 9 (.pointer (some ⟨b2,o2+i*4,none⟩)) HB0.o ?_;refine jE 10 (.agg #[.int .i64 kk,.string ss,.slice A3 n3 c3,.slice A4 n4 c4]) (Vf E0.o E1.o E2.o E3.o) HB0.o ?_;refine wpAnyH_ready (rs:=[11]) (by kernel_rfl) (by simp) ?_;refine AllReadyH.cons rfl (fun K hK=>?_) (AllReadyH.nil);go_simp;refine(HS.o _ HB0.o).mono ?_;rintro e w2 ⟨rfl,hb⟩;have HB2:=aZ (HB0.o.trans (hb.mono HB0.o.size));clear hb;refine hK.out _ _ HB2.o (fun _=>?_);clear hK K
 try simp only [Act.put,sq]
 refine tk 12 (.string ((⟨X.toArray⟩:ByteArray)++⟨#[58,32]⟩++⟨s.toArray⟩)) HB2.o ?_;refine tk 13 (.string ((⟨X.toArray⟩:ByteArray)++⟨#[58,32]⟩++⟨s.toArray⟩)) HB2.o ?_;refine wpAnyH_done (by kernel_rfl) ?_ _;go_wp2_with fail;go_ret;refine⟨?_,HB2.o⟩;rw [HF.o];have e:(⟨X.toArray⟩:ByteArray)++⟨#[58,32]⟩++⟨s.toArray⟩=⟨((X++[58,32])++s).toArray⟩:=by
  rw [show(⟨#[58,32]⟩:ByteArray)=⟨([58,32]:Bt).toArray⟩from rfl,aF,aF]
 exact congrArg (fun b=>Ending.returned (Value.string b)) e
theorem gN {w:World}{b:Nat}{x0 x1 x2 x3 x4 x5 x6 x7:Value}{T:TypeId}(h:w.heap[b]? =some (.cells #[x0,x1,x2,x3,x4,x5,x6,x7] T (0,0))):
  w.cell? ⟨b,0,none⟩=some x0∧w.cell? ⟨b,1,none⟩=some x1∧w.cell? ⟨b,2,none⟩=some x2∧w.cell? ⟨b,3,none⟩=some x3∧w.cell? ⟨b,4,none⟩=some x4∧w.cell? ⟨b,5,none⟩=some x5∧w.cell? ⟨b,6,none⟩=some x6∧w.cell? ⟨b,7,none⟩=some x7:=
 ⟨(cell_of_row _ _ _ _ _ _ h).trans rfl,(cell_of_row _ _ _ _ _ _ h).trans rfl,(cell_of_row _ _ _ _ _ _ h).trans rfl,(cell_of_row _ _ _ _ _ _ h).trans rfl,(cell_of_row _ _ _ _ _ _ h).trans rfl,(cell_of_row _ _ _ _ _ _ h).trans rfl,(cell_of_row _ _ _ _ _ _ h).trans rfl,(cell_of_row _ _ _ _ _ _ h).trans rfl⟩
theorem FR {w:World}{b:Nat}{x0 x1 x2 x3 x4:Value}{T:TypeId}(h:w.heap[b]? =some (.cells #[x0,x1,x2,x3,x4] T (0,0))):
  w.cell? ⟨b,0,none⟩=some x0∧w.cell? ⟨b,1,none⟩=some x1∧w.cell? ⟨b,2,none⟩=some x2∧w.cell? ⟨b,3,none⟩=some x3∧w.cell? ⟨b,4,none⟩=some x4:=
 ⟨(cell_of_row _ _ _ _ _ _ h).trans rfl,(cell_of_row _ _ _ _ _ _ h).trans rfl,(cell_of_row _ _ _ _ _ _ h).trans rfl,(cell_of_row _ _ _ _ _ _ h).trans rfl,(cell_of_row _ _ _ _ _ _ h).trans rfl⟩
theorem kP (w:World)(o1 o2:Obj):((w.alloc o1).alloc o2).heap[w.heap.size]? =some o1∧((w.alloc o1).alloc o2).heap[w.heap.size+1]? =some o2:=by
 have hs:(w.alloc o1).heap.size=w.heap.size+1:=by simp
 refine⟨?_,?_⟩
 ·exact ah (heap_alloc_new w o1) (Turn.alloc (fun _=>False) _ o2) (fun h=>h)
 ·have:=heap_alloc_new (w.alloc o1) o2;rwa [hs]at this
theorem BF {w:World}{B:Nat}{A:Option Addr}{n c:Nat}{xk:List Value}{ks:List bF}(h2:Sl w B 8 (.slice A n c) xk)(hr:nP w B xk ks){i:Nat}(hi:i<ks.length)(hn:n=ks.length):
  ∃b o k s v2 v3 v4 A1 n1 c1 A2 n2 c2 A3 n3 c3,A=some ⟨b,o,none⟩∧tT w B [.int .i64 k,.string s,.int .i64 v2,.int .i64 v3,.int .i64 v4,.slice A1 n1 c1,.slice A2 n2 c2,.slice A3 n3 c3] ks[i]∧
   w.cell? ⟨b,o+i*8,none⟩=some (.int .i64 k)∧w.cell? ⟨b,o+i*8+1,none⟩=some (.string s)∧w.cell? ⟨b,o+i*8+2,none⟩=some (.int .i64 v2)∧w.cell? ⟨b,o+i*8+3,none⟩=some (.int .i64 v3)∧w.cell? ⟨b,o+i*8+4,none⟩=some (.int .i64 v4)∧
   w.cell? ⟨b,o+i*8+5,none⟩=some (.slice A1 n1 c1)∧w.cell? ⟨b,o+i*8+6,none⟩=some (.slice A2 n2 c2)∧w.cell? ⟨b,o+i*8+7,none⟩=some (.slice A3 n3 c3):=by
 subst hn;obtain⟨b1,o1,rfl,hb1,hc1⟩:=uT h2 hi (by omega);have hr1:=hr.at i hi;obtain⟨kk,s,v2,v3,v4,A1,n1,c1,A2,n2,c2,A3,n3,c3,hv1⟩:=hr1.shape;rw [hv1]at hr1;refine⟨b1,o1,kk,s,v2,v3,v4,A1,n1,c1,A2,n2,c2,A3,n3,c3,rfl,hr1,?_,?_,?_,?_,?_,?_,?_,?_⟩
 ·have:=hc1 0 _ (iD hv1 (by omega:0<8));simpa using this
 ·have:=hc1 1 _ (iD hv1 (by omega:1<8));simpa [Nat.add_assoc]using this
 ·have:=hc1 2 _ (iD hv1 (by omega:2<8));simpa [Nat.add_assoc]using this
 ·have:=hc1 3 _ (iD hv1 (by omega:3<8));simpa [Nat.add_assoc]using this
 ·have:=hc1 4 _ (iD hv1 (by omega:4<8));simpa [Nat.add_assoc]using this
 ·have:=hc1 5 _ (iD hv1 (by omega:5<8));simpa [Nat.add_assoc]using this
 ·have:=hc1 6 _ (iD hv1 (by omega:6<8));simpa [Nat.add_assoc]using this
 ·have:=hc1 7 _ (iD hv1 (by omega:7<8));simpa [Nat.add_assoc]using this
theorem Ml {w:World}{B:Nat}{A:Option Addr}{n c:Nat}{xs:List Value}{l:List nV}(hs:Sl w B 15 (.slice A n c) xs)(hr:dH (Bw w B) 15 xs l){i:Nat}(hi:i<l.length)(hn:n=l.length):
  ∃b o A1 c1 A2 c2 kk s n1 l1 cc A3 n3 c3 A4 n4 c4 A5 n5 c5 nd md,A=some ⟨b,o,none⟩∧Bw w B [sv nd,.bool l[i].exp,.slice A1 l[i].vars.length c1,sv md,.slice A2 l[i].types.length c2,.int .i64 kk,.string s,.int .i64 n1,.int .i64 l1,.int .i64 cc,.slice A3 n3 c3,.slice A4 n4 c4,.slice A5 n5 c5,.int .i64 l[i].line,.int .i64 l[i].col] l[i]∧w.cell? ⟨b,o+i*15,none⟩=some (sv nd)∧w.cell? ⟨b,o+i*15+1,none⟩=some (.bool l[i].exp)∧w.cell? ⟨b,o+i*15+2,none⟩=some (.slice A1 l[i].vars.length c1)∧w.cell? ⟨b,o+i*15+3,none⟩=some (sv md)∧w.cell? ⟨b,o+i*15+4,none⟩=some (.slice A2 l[i].types.length c2)∧w.cell? ⟨b,o+i*15+5,none⟩=some (.int .i64 kk)∧w.cell? ⟨b,o+i*15+6,none⟩=some (.string s)∧w.cell? ⟨b,o+i*15+7,none⟩=some (.int .i64 n1)∧w.cell? ⟨b,o+i*15+8,none⟩=some (.int .i64 l1)∧w.cell? ⟨b,o+i*15+9,none⟩=some (.int .i64 cc)∧w.cell? ⟨b,o+i*15+10,none⟩=some (.slice A3 n3 c3)∧w.cell? ⟨b,o+i*15+11,none⟩=some (.slice A4 n4 c4)∧w.cell? ⟨b,o+i*15+12,none⟩=some (.slice A5 n5 c5)∧w.cell? ⟨b,o+i*15+13,none⟩=some (.int .i64 l[i].line)∧w.cell? ⟨b,o+i*15+14,none⟩=some (.int .i64 l[i].col):=by
 obtain⟨b,o,z,hA,hb,hz,hc⟩:=Fy hs hr (by omega) hi hn;obtain⟨A1,c1,A2,c2,k,s,n,l1,c,A3,n3,c3,A4,n4,c4,A5,n5,c5,xv,xt,rfl,_⟩:=hz.parts;refine⟨b,o,A1,c1,A2,c2,k,s,n,l1,c,A3,n3,c3,A4,n4,c4,A5,n5,c5,l[i].name,l[i].param,hA,hz,by simpa using hc 0 _ rfl,hc 1 _ rfl,hc 2 _ rfl,hc 3 _ rfl,hc 4 _ rfl,hc 5 _ rfl,hc 6 _ rfl,hc 7 _ rfl,hc 8 _ rfl,hc 9 _ rfl,hc 10 _ rfl,hc 11 _ rfl,hc 12 _ rfl,hc 13 _ rfl,hc 14 _ rfl⟩
def Vg (s:Bt):Bool:=s.all (fun c=> !(decide (c<32) && c != 9 && c != 10))
def vP (n:Nat):Bool:=decide (n<32) && n != 9 && n != 10
theorem Mq (s:ByteArray)(i:Nat)(h:(s.get! i).toNat<128):Utf8.decode s i=((s.get! i).toNat,1):=by
 unfold Utf8.decode;simp only [Nat.add_zero];rw [if_pos h]
theorem oJ (s:ByteArray)(i k:Nat)(h:(decide (i+k<s.size) && (s.get! (i+k)).toNat / 64==2)=true):128<=(s.get! (i+k)).toNat:=by
 rw [Bool.and_eq_true,beq_iff_eq]at h;omega
theorem Ib (s:ByteArray)(i:Nat)(h:128<=(s.get! i).toNat):128<=(Utf8.decode s i).1∧∀j,j<(Utf8.decode s i).2->128<=(s.get! (i+j)).toNat:=by
 have h0:∀j,j<1->128<=(s.get! (i+j)).toNat:=by
  intro j hj;obtain rfl:j=0:=by omega
  exact h
 unfold Utf8.decode;simp only [Nat.add_zero];rw [if_neg (by omega)];split
 ·rename_i h1
  rw [Bool.and_eq_true]at h1;have a1:=oJ s i 1 h1.2;split
  ·rename_i h2
   refine⟨h2,fun j hj=>?_⟩;have hj:j<2:=hj;obtain rfl |rfl:j=0∨j=1:=by omega
   ·exact h
   ·exact a1
  ·exact⟨by decide,h0⟩
 split
 ·rename_i h1
  rw [Bool.and_eq_true,Bool.and_eq_true]at h1;have a1:=oJ s i 1 h1.1.2;have a2:=oJ s i 2 h1.2;split
  ·rename_i h2
   rw [Bool.and_eq_true,decide_eq_true_eq]at h2;refine⟨by have:=h2.1;omega,fun j hj=>?_⟩;have hj:j<3:=hj;obtain rfl |rfl |rfl:j=0∨j=1∨j=2:=by omega
   ·exact h
   ·exact a1
   ·exact a2
  ·exact⟨by decide,h0⟩
 split
 ·rename_i h1
  rw [Bool.and_eq_true,Bool.and_eq_true,Bool.and_eq_true]at h1;have a1:=oJ s i 1 h1.1.1.2;have a2:=oJ s i 2 h1.1.2;have a3:=oJ s i 3 h1.2;split
  ·rename_i h2
   rw [Bool.and_eq_true,decide_eq_true_eq]at h2;refine⟨by have:=h2.1;omega,fun j hj=>?_⟩;have hj:j<4:=hj;obtain rfl |rfl |rfl |rfl:j=0∨j=1∨j=2∨j=3:=by omega
   ·exact h
   ·exact a1
   ·exact a2
   ·exact a3
  ·exact⟨by decide,h0⟩
 ·exact⟨by decide,h0⟩
theorem get_at (s:Bt)(i:Nat)(h:i<s.length):((⟨s.toArray⟩:ByteArray).get! i)=s[i]:=by
 show s.toArray[i]! =s[i];rw [getElem!_pos s.toArray i (by simpa using h)];simp
theorem Ic (c:UInt8):vP c.toNat=(decide (c<32) && c != 9 && c != 10):=by
 have h1:(decide (c.toNat<32))=decide (c<32):=by
  rw [decide_eq_decide,UInt8.lt_iff_toNat_lt];rfl
 have h2:∀d:UInt8,(c.toNat != d.toNat)=(c != d):=by
  intro d;by_cases h:c=d
  ·subst h;simp
  ·have:c.toNat≠d.toNat:=fun e=>h (UInt8.toNat_inj.1 e);simp [bne,beq_eq_false_iff_ne.2 h,beq_eq_false_iff_ne.2 this]
 unfold vP;rw [h1,show(9:Nat)=(9:UInt8).toNat from rfl,show(10:Nat)=(10:UInt8).toNat from rfl,h2,h2]
def CG (s:Bt)(p:Nat):Prop:=∀j,j<p->∀h:j<s.length,vP s[j].toNat=false
theorem NU {s:Bt}{p:Nat}(h:CG s p)(hp:p<s.length)(hb:vP (Utf8.decode ⟨s.toArray⟩ p).1=false):CG s (p+(Utf8.decode ⟨s.toArray⟩ p).2):=by
 intro j hj hl;rcases Nat.lt_or_ge j p with h1 |h1
 ·exact h j h1 hl
 ·rcases Nat.lt_or_ge ((⟨s.toArray⟩:ByteArray).get! p).toNat 128 with h2 |h2
  ·rw [Mq _ _ h2]at hj hb;have hj:j<p+1:=hj;obtain rfl:j=p:=by omega
   rw [get_at s j hl]at hb;exact hb
  ·have h3:=(Ib _ _ h2).2 (j - p) (by omega);rw [show p+(j - p)=j by omega,get_at s j hl]at h3;have:decide (s[j].toNat<32)=false:=decide_eq_false (by omega);unfold vP;rw [this];rfl
theorem QH {s:Bt}{p:Nat}(hp:p<s.length)(hb:vP (Utf8.decode ⟨s.toArray⟩ p).1=true):s.all (fun c=> !(decide (c<32) && c != 9 && c != 10))=false:=by
 rcases Nat.lt_or_ge ((⟨s.toArray⟩:ByteArray).get! p).toNat 128 with h2 |h2
 ·rw [Mq _ _ h2,get_at s p hp]at hb;cases ha:s.all (fun c=> !(decide (c<32) && c != 9 && c != 10))with
  |false=>rfl
  |true=>
   have:=List.all_eq_true.1 ha _ (List.getElem_mem hp);rw [<-Ic]at this;have hb:vP s[p].toNat=true:=hb;rw [hb]at this;cases this
 ·have h3:=(Ib _ _ h2).1;unfold vP at hb;rw [decide_eq_false (by omega)]at hb;cases hb
theorem QI {s:Bt}{p:Nat}(h:CG s p)(hp:s.length<=p):s.all (fun c=> !(decide (c<32) && c != 9 && c != 10))=true:=by
 rw [List.all_eq_true];intro c hc;obtain⟨j,hj,rfl⟩:=List.getElem_of_mem hc;rw [<-Ic,h j (by omega) hj];rfl
theorem QJ (R:Nat)(w:World)(h1:R<=1114111):Calls Tryz.prog 202 #[.int .i32 (R:Int)] w fun e w'=>e=.returned (.bool (vP R))∧w'=w:=by
 by_cases h32:R<32
 ·have g1:decide ((R:Int)<32)=true:=by simp;omega
  by_cases h9:R=9
  ·subst h9;go_enter Tryz.func202,Tryz.ntmps202;go_wp2_with fail;go_ret;exact⟨rfl,rfl⟩
  ·by_cases h10:R=10
   ·subst h10;go_enter Tryz.func202,Tryz.ntmps202;go_wp2_with fail;go_ret;exact⟨rfl,rfl⟩
   ·have g2:((R:Int) != 9)=true:=by rw [bne_iff_ne];omega
    have g3:((R:Int) != 10)=true:=by rw [bne_iff_ne];omega
    have HT:bR (vP R=true):=aZ (by unfold vP;simp [h32,h9,h10]);rw [HT.o];clear h32 h9 h10 h1;go_enter Tryz.func202,Tryz.ntmps202;go_wp2_with fail;go_ret;exact⟨rfl,rfl⟩
 ·have g1:decide ((R:Int)<32)=false:=by simp;omega
  have HT:bR (vP R=false):=aZ (by unfold vP;simp [h32]);rw [HT.o];clear h32 h1;go_enter Tryz.func202,Tryz.ntmps202;go_wp2_with fail;go_ret;exact⟨rfl,rfl⟩
def Vh (s:Bt)(w:World)(e:Ending)(w':World):Prop:=(∃k:Int,e=.returned (.int .i64 k)∧(if Vg s then k= -1 else 0<=k))∧Below w.heap.size w w'
set_option maxRecDepth 1000000 in
theorem FT (s:Bt)(w:World):
  Calls Tryz.prog 227 #[sv s,.func (.func 202) #[] #[],.bool true] w (Vh s w):=by
 have hsz:=aT s;obtain⟨bs,hbs⟩:∃bs:ByteArray,bs=⟨s.toArray⟩:=⟨_,rfl⟩
 have HBS:=aZ hbs;rw [<-hbs]at hsz;show Calls Tryz.prog 227 #[.string ⟨s.toArray⟩,.func (.func 202) #[] #[],.bool true] w _;rw [<-hbs];clear hbs;go_enter Tryz.func227,Tryz.ntmps227;go_wp2_with fail
 go_loopg [] s.length (fun g wx=>∃pos:Nat,wx.heap[w.heap.size]? =some (.stringIter bs pos)∧Below w.heap.size w wx∧CG s pos∧s.length<=pos+g)
 case atStart=>exact⟨0,World.iter_heap w bs 0,(Below.refl _ w).alloc (Nat.le_refl _) _,fun j hj=>by omega,by omega⟩
 case round=>
  obtain⟨pos,hit,hbw,hleft,hfu⟩:=hrel;have afS:w.heap.size<wr.heap.size:=(Array.getElem?_eq_some_iff.1 hit).1;by_cases hp:pos<bs.size
  ·obtain⟨g,rfl⟩:∃g,gk=g+1:=⟨gk - 1,by omega⟩
   have hnx:∀ty,(Instr.next (.pointer (some ⟨w.heap.size,0,none⟩)) true ty).run Tryz.prog wr= _:=fun ty=>Lib.run_next_any_at wr w.heap.size bs pos ty hit hp;have hwd:=Lib.width_pos bs pos;have hr1:=Lib.rune_le bs pos;have hst:∀R K,Utf8.decode bs pos=(R,K)->(vP R=false->CG s (pos+K))∧(vP R=true->Vg s=false):=by
    intro R K h;rw [HBS.o]at h;have hps:pos<s.length:=by omega
    constructor
    ·intro hb;have:=NU hleft hps (by rw [h];exact hb);rw [h]at this;exact this
    ·intro hb;exact QH hps (by rw [h];exact hb)
   obtain⟨R,hR⟩:∃R,(Utf8.decode bs pos).1=R:=⟨_,rfl⟩
   obtain⟨K,hK⟩:∃K,(Utf8.decode bs pos).2=K:=⟨_,rfl⟩
   have hst:=hst R K (by rw [<-hR,<-hK]);rw [hR,hK]at hnx;rw [hR]at hr1;rw [hK]at hwd;have hit2:=Lib.iterAt_heap wr w.heap.size bs pos (pos+K) hit;have hbw2:=Lib.below_iterAt hbw (k:=w.heap.size) (Nat.le_refl _) bs (pos+K);obtain⟨W,hWd⟩:∃W,wr.iterAt w.heap.size bs (pos+K)=W:=⟨_,rfl⟩
   rw [hWd]at hnx hit2 hbw2;have HC:=aZ (QJ R W hr1);have HB2:=aZ hbw2;have HIT:=aZ hit2;cases hb:vP R with
   |true=>
    rw [hb]at HC;have HE:=aZ (hst.2 hb);clear hst hb hR hK hleft;go_wp2_with fail;refine HC.o.mono ?_;rintro e w2 ⟨rfl,rfl⟩;go_wp2_with fail;go_ret;exact⟨⟨pos,rfl,by rw [HE.o];simp⟩,HB2.o⟩
   |false=>
    rw [hb]at HC;have HE:=aZ (hst.1 hb);clear hst hb hR hK hleft;go_wp2_with fail;refine HC.o.mono ?_;rintro e w2 ⟨rfl,rfl⟩;go_wp2_with fail
    go_roundg g
    case measure=>omega
    case rel=>exact⟨pos+K,HIT.o,HB2.o,HE.o,by omega⟩
  ·have hnx:∀ty,(Instr.next (.pointer (some ⟨w.heap.size,0,none⟩)) true ty).run Tryz.prog wr= _:=fun ty=>Lib.run_next_end_at wr w.heap.size bs pos ty hit hp;have HE:bR (Vg s=true):=aZ (QI hleft (by omega));have HB:=aZ hbw;clear hleft hbw;go_wp2_with fail;go_ret;exact⟨⟨-1,rfl,by rw [HE.o];simp⟩,HB.o⟩
theorem Ba (s:Bt)(w:World):
  Calls Tryz.prog 201 #[sv s,.func (.func 202) #[] #[]] w fun e w'=>e=.returned (.bool (!Vg s))∧Below w.heap.size w w':=by
 have HI:bR (∀w1,Calls Tryz.prog 217 #[sv s,.func (.func 202) #[] #[]] w1 (Vh s w1)):=aZ (by
  intro w1;have HJ:=aZ (FT s w1);go_enter Tryz.func217,Tryz.ntmps217;go_wp2_with fail;refine HJ.o.mono ?_;rintro e w2 ⟨⟨k,rfl,hk⟩,hbel⟩;have HK:=aZ hk;clear hk;go_wp2_with fail;go_ret;exact⟨⟨k,rfl,HK.o⟩,hbel⟩)
 cases hb:Vg s
 all_goals
  go_enter Tryz.func201,Tryz.ntmps201;go_wp2_with fail;refine(HI.o w).mono ?_;rintro e w2 ⟨⟨k,rfl,hk⟩,hbel⟩;rw [hb]at hk;simp only [Bool.false_eq_true,if_false,if_true]at hk;have HB:=aZ hbel;clear hbel hb HI
 ·have hg:decide (0<=k)=true:=by simpa using hk
  go_wp2_with fail;go_ret;exact⟨rfl,HB.o⟩
 ·subst hk;go_wp2_with fail;go_ret;exact⟨rfl,HB.o⟩
theorem QK (s:Bt)(w:World)(hs:s.length<=maxLen):
  Calls Tryz.prog 169 #[sv s] w fun e w'=>e=.returned (.bool (yR s))∧Below w.heap.size w w':=by
 have hsz:=aT s;unfold maxLen at hs;by_cases hl:s.length<=256
 ·have hg:decide ((s.length:Int)<=256)=true:=by simp;omega
  have HT:bR (yR s=Vg s):=aZ (by unfold yR Vg;rw [decide_eq_true hl];rfl);rw [HT.o];have HC:=aZ (Ba s w);clear hl;generalize Vg s=b at*
  go_enter Tryz.func169,Tryz.ntmps169;go_wp2_with fail;refine HC.o.mono ?_;rintro e w2 ⟨rfl,hb⟩;go_wp2_with fail;go_ret;cases b <;> exact⟨rfl,hb⟩
 ·have hg:decide ((s.length:Int)<=256)=false:=by simp;omega
  have HT:bR (yR s=false):=aZ (by unfold yR;rw [decide_eq_false hl];rfl);rw [HT.o];clear hl;go_enter Tryz.func169,Tryz.ntmps169;go_wp2_with fail;go_ret;exact⟨rfl,Below.refl _ _⟩
def QL:Bt:=[111,114,32,97,110,100,32,60,32,60,61,32,61,61,32,43,43,32,43,32,45,32,94,32,42,32,47,32,37,32,38,32,60,60,32,62,62]
theorem Km:Lib.fields QL=opsL:=by kernel_rfl
theorem NV:(QL.all fun b=>decide (b.toNat<128))=true:=by kernel_rfl
theorem Ie:(⟨QL.toArray⟩:ByteArray).data.toList=QL:=rfl
theorem TW (w:World)(hL:kX w):Calls Tryz.prog 170 #[] w fun e w'=>∃v,e=.returned v∧Ss w' w'.heap.size v opsL∧Below w.heap.size w w':=by
 go_enter Tryz.func170,Tryz.ntmps170;go_wp2_with fail;refine(Tryz.strings_Fields ⟨QL.toArray⟩ _ ?h1 ?h2 hL.2).mono ?_
 case h1=>decide
 case h2=>
  intro j b hb;rw [Ie]at hb;exact of_decide_eq_true (List.all_eq_true.1 NV b (List.mem_of_getElem? hb))
 rintro e w1 ⟨rfl,rfl⟩;rw [Ie,Km];have hss:Ss (w.alloc (.cells (opsL.map fun l=>Value.string ⟨l.toArray⟩).toArray 9)) (w.alloc (.cells (opsL.map fun l=>Value.string ⟨l.toArray⟩).toArray 9)).heap.size (.slice (some ⟨w.heap.size,0,none⟩) opsL.length opsL.length) opsL:=by
  have:=iB w (opsL.map fun l=>Value.string ⟨l.toArray⟩).toArray 9 1 opsL.length (by simp) (by decide);rw [World.size_alloc];simpa [Ss,mW]using this
 have hb:Below w.heap.size w (w.alloc (.cells (opsL.map fun l=>Value.string ⟨l.toArray⟩).toArray 9)):=(Below.refl _ _).alloc (Nat.le_refl _) _;generalize(w.alloc (.cells (opsL.map fun l=>Value.string ⟨l.toArray⟩).toArray 9))=w2 at*
 generalize opsL.length=n at*
 go_wp2_with fail;go_ret;exact⟨_,rfl,hss,hb⟩
theorem QM (w:World)(k:Int)(text:Bt)(v2 v3 v4:Int)(A5:Option Addr)(n5 c5:Nat)(A6:Option Addr)(n6 c6:Nat)(A7:Option Addr)(n7 c7:Nat)(ht:text.length<=maxLen)(hX:kX w)(b:Bool)(a1 a2 a3 a4:Int):
  Calls Tryz.prog 116 #[.agg #[.int .i64 k,sv text,.int .i64 v2,.int .i64 v3,.int .i64 v4,.slice A5 n5 c5,.slice A6 n6 c6,.slice A7 n7 c7],.agg #[.bool b,.int .i64 a1,.int .i64 a2,.int .i64 a3,.int .i64 a4]] w fun e w'=>e=.returned (.bool (qx k text b))∧Below w.heap.size w w':=by
 obtain⟨W,hW⟩:∃W,(w.alloc (.cells #[.int .i64 k,sv text,.int .i64 v2,.int .i64 v3,.int .i64 v4,.slice A5 n5 c5,.slice A6 n6 c6,.slice A7 n7 c7] 52)).alloc (.cells #[.bool b,.int .i64 a1,.int .i64 a2,.int .i64 a3,.int .i64 a4] 174)=W:=⟨_,rfl⟩
 have hb2:Below w.heap.size w W:=by rw [<-hW];exact((Below.refl _ _).alloc (Nat.le_refl _) _).alloc (by simp) _
 have HB:=aZ hb2;have HW:=aZ hW;have HX:=aZ (hX.below hb2);have O4:=aZ (Co W text (hX.below hb2) ht);have HST:=aZ (QK text W ht);have hbx:W.heap[w.heap.size]? =some (.cells #[.int .i64 k,sv text,.int .i64 v2,.int .i64 v3,.int .i64 v4,.slice A5 n5 c5,.slice A6 n6 c6,.slice A7 n7 c7] 52 (0,0)):=by rw [<-hW];exact(kP w _ _).1
 obtain⟨_,g1,_⟩:=gN hbx;have G1:=aZ g1;clear hX hbx g1 hb2 ht;cases b with
 |true=>
  have HT:bR (qx k text true=dM text):=aZ rfl;rw [HT.o];rw [<-hW]at O4;clear hW;generalize dM text=q at*
  go_enter Tryz.func116,Tryz.ntmps116;go_wp2_with fail;refine O4.o.mono ?_;rintro e w2 ⟨rfl,hb⟩;have hW:=HW.o;rw [hW]at hb;go_wp2_with fail;go_ret;exact⟨rfl,HB.o.trans (hb.mono HB.o.size)⟩
 |false=>
  by_cases k1:k=1
  ·subst k1;have HT:bR (qx 1 text false=yR text):=aZ rfl;rw [HT.o];rw [<-hW]at HST;clear hW;generalize yR text=q at*
   go_enter Tryz.func116,Tryz.ntmps116;go_wp2_with fail;refine HST.o.mono ?_;rintro e w2 ⟨rfl,hb⟩;have hW:=HW.o;rw [hW]at hb;go_wp2_with fail;go_ret;exact⟨rfl,HB.o.trans (hb.mono HB.o.size)⟩
  have q1:(k==1)=false:=beq_eq_false_iff_ne.mpr k1;by_cases k14:k=14
  ·subst k14;have HT:bR (qx 14 text false=decide (text∈opsL)):=aZ (by show opsL.contains text= _;rw [List.contains_eq_mem]);rw [HT.o];clear hW k1 q1;have HB0:bR (Below W.heap.size W W.drew):=aZ (aH W 1);have HO:=aZ (TW W.drew (HX.o.below HB0.o));have Y9:=aZ (fun v (w1:World) (h:Ss w1 w1.heap.size v opsL)=>nZ v opsL text w1 h);clear HT O4 HST;generalize decide (text∈opsL)=q at*
   go_enter Tryz.func116,Tryz.ntmps116;go_wp2_with fail;have hW:=HW.o;rw [hW];clear hW;refine wp_region_held_drew (S:=fun w'=>Below W.heap.size W w') (by kernel_rfl) HB0.o (fun _=>?_)
   try simp only [Act.put,sq]
   refine tk 1 (.pointer (some ⟨w.heap.size,1,none⟩)) HB0.o ?_;refine jE 2 (sv text) (kU G1.o) HB0.o ?_;refine wpAnyH_ready (rs:=[0]) (by kernel_rfl) (by simp) ?_;refine AllReadyH.cons rfl (fun K hK=>?_) (AllReadyH.nil);go_simp;refine HO.o.mono ?_;rintro e w2 ⟨v2,rfl,hss,hb⟩;have Gt:=aZ hss;have HB2:=aZ (HB0.o.trans (hb.mono HB0.o.size));clear hb hss;refine hK.out _ _ HB2.o (fun _=>?_);clear hK K
   try simp only [Act.put,sq]
   refine wpAnyH_ready (rs:=[3]) (by kernel_rfl) (by simp) ?_;refine AllReadyH.cons rfl (fun K hK=>?_) (AllReadyH.nil);go_simp;refine(Y9.o _ _ Gt.o).mono ?_;rintro e w3 ⟨rfl,rfl⟩;refine hK.out _ _ HB2.o (fun _=>?_);clear hK K
   try simp only [Act.put,sq]
   refine tk 4 (.bool q) HB2.o ?_;refine wpAnyH_done (by kernel_rfl) ?_ _;go_wp2_with fail;go_ret;exact⟨rfl,HB.o.trans (HB2.o.mono HB.o.size)⟩
  have q14:(k==14)=false:=beq_eq_false_iff_ne.mpr k14;have HT:bR (qx k text false=(text==[])):=aZ (by unfold qx;rw [if_neg (by simp),if_neg k1,if_neg k14]);rw [HT.o];clear hW k1 k14 O4 HST HT;rw [<-HW.o]at HB;cases hq:(text==[])with
  |true=>
   obtain rfl:text=[]:=by simpa using hq
   go_enter Tryz.func116,Tryz.ntmps116;go_wp2_with fail;go_ret;exact⟨rfl,HB.o⟩
  |false=>
   go_enter Tryz.func116,Tryz.ntmps116;go_wp2_with fail;go_ret;exact⟨rfl,HB.o⟩
theorem FU {P:Program}{fn:Func}{p:Tmp}{ty:TypeId}(h:fn.results= #[.cell p ty])(tmps:Array Value)(w:World)(g:Nat)(t:TypeId)(cs:Array Value)(fr:Nat ×Nat)(d:TypeDesc)
  (hp:tmps.getD p undef=.pointer (some ⟨g,0,none⟩)) (hg:w.heap[g]? =some (.cells cs t fr))
  (hu:P.underlying ty=some d) (hd:(match d with |.struct _ |.array _ _=>true |_=>false)=true) (hi:(P.info? ty).map (·.size)=some cs.size):
  (results fn tmps).run P w=.ok (.agg cs) w:=by
 have hp':tmps[p]?.getD undef=.pointer (some ⟨g,0,none⟩):=by simpa using hp
 simp [results,h,hp',asAddr,run_loadVar_row w g t ty cs fr d hg hu hd hi,Result.andThen]
def wI:List Value:=[.bool false,.int .i64 0,.int .i64 0,.int .i64 0,.int .i64 9223372036854775807,.bool false,.int .i64 0,.int .i64 0,.int .i64 0,.int .i64 0,.bool false,.int .i64 0,.int .i64 0,.int .i64 0,.int .i64 1,.bool false,.int .i64 0,.int .i64 0,.int .i64 0,.int .i64 0,.bool true,.int .i64 0,.int .i64 0,.int .i64 0,.int .i64 0,.bool true,.int .i64 0,.int .i64 1,.int .i64 2,.int .i64 0,.bool true,.int .i64 1,.int .i64 2,.int .i64 1,.int .i64 0,.bool false,.int .i64 0,.int .i64 0,.int .i64 2,.int .i64 0,.bool false,.int .i64 0,.int .i64 0,.int .i64 (-1),.int .i64 0,.bool true,.int .i64 0,.int .i64 0,.int .i64 1,.int .i64 0,.bool true,.int .i64 0,.int .i64 0,.int .i64 2,.int .i64 0,.bool false,.int .i64 0,.int .i64 0,.int .i64 3,.int .i64 0,.bool false,.int .i64 0,.int .i64 0,.int .i64 1,.int .i64 5,.bool false,.int .i64 1,.int .i64 1,.int .i64 1,.int .i64 0,.bool false,.int .i64 0,.int .i64 0,.int .i64 2,.int .i64 0,.bool false,.int .i64 0,.int .i64 0,.int .i64 1,.int .i64 0,.bool false,.int .i64 0,.int .i64 0,.int .i64 1,.int .i64 0,.bool false,.int .i64 0,.int .i64 0,.int .i64 1,.int .i64 0,.bool false,.int .i64 0,.int .i64 0,.int .i64 0,.int .i64 0,.bool true,.int .i64 1,.int .i64 1048576,.int .i64 0,.int .i64 0]
theorem NW (w:World):Calls Tryz.prog 115 #[] w fun e w'=>e=.returned (.agg wI.toArray)∧Below w.heap.size w w':=by
 have hst:∀L:List Value,L=wI->(storeCells ⟨w.heap.size,0,none⟩ L 0).run Tryz.prog (w.alloc (.cells Tryz.zeroCells175 175))=.ok () (w.alloc (.cells wI.toArray 175)):=by
  intro L h;subst h;have:=run_storeCells_new (P:=Tryz.prog) w 175 Tryz.zeroCells175 wI.toArray (by kernel_rfl) (by kernel_rfl) (by kernel_rfl);simpa using this
 go_enter Tryz.func115,Tryz.ntmps115;go_wp2_with fail;rw [hst _ (by kernel_rfl)];clear hst;have hK:wI.toArray.size=100:=by kernel_rfl
 generalize hKL:wI.toArray=L at*
 go_wp2_with fail;refine bodyPost_ret (FU rfl _ _ w.heap.size _ _ _ _ rfl (heap_alloc_new w _) Tryz.underlying175 rfl (by rw [hK];kernel_rfl)) rfl ?_;exact⟨by rw [hKL],(Below.refl _ _).alloc (Nat.le_refl _) _⟩
def QN (h:Tz):Value:= .agg #[.bool h.name,.int .i64 h.low,.int .i64 h.types,.int .i64 h.kids,.int .i64 h.most]
theorem Ig (k:Int)(h0:0<=k)(h1:k<20)(u:World):(Instr.index 175 (.agg wI.toArray) (.int .i64 k)).run Tryz.prog u=.ok (QN (dK k)) u:=by
 have h:k=0∨k=1∨k=2∨k=3∨k=4∨k=5∨k=6∨k=7∨k=8∨k=9∨k=10∨k=11∨k=12∨k=13∨k=14∨k=15∨k=16∨k=17∨k=18∨k=19:=by omega
 clear h0 h1;rcases h with rfl |rfl |rfl |rfl |rfl |rfl |rfl |rfl |rfl |rfl |rfl |rfl |rfl |rfl |rfl |rfl |rfl |rfl |rfl |rfl
 all_goals (show _= _;kernel_rfl)
theorem NY (w:World):Calls Tryz.prog 115 #[] w fun e w'=>(∃v,e=.returned v∧∀k:Int,0<=k->k<20->∀u,(Instr.index 175 v (.int .i64 k)).run Tryz.prog u=.ok (QN (dK k)) u)∧Below w.heap.size w w':=
 (NW w).mono fun e w' h=>⟨⟨_,h.1,fun k h0 h1 u=>Ig k h0 h1 u⟩,h.2⟩
end Go.Proofs.YtfgjkmipfikooaaGreatDoor
