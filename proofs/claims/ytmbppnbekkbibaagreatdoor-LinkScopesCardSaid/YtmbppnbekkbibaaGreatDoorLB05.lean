/- FC, MQ, FD, FE, FF, FG, FJ, NA, JA, JB -/
import Derived.Test.YtmbppnbekkbibaaGreatDoorLB04
import Derived.Test.YtmbppnbekkbibaaGreatDoorLB02
import Derived.Deep.RegionHeld
import Derived.WalkKit
import Derived.Test.YtmbppnbekkbibaaGreatDoorLB01
import Derived.Recover
import Derived.Maps.OwnSet
import Derived.Test.YtmbppnbekkbibaaGreatDoorLB03
set_option linter.unusedSimpArgs false
set_option linter.unusedVariables false
set_option maxRecDepth 100000
set_option maxHeartbeats 4000000
namespace Go.Proofs.YtmbppnbekkbibaaGreatDoor
open Go.RowKit
def nV (t:aF):Value:= .agg #[.int .i64 t.kind,sv t.text, .int .i64 t.line, .int .i64 t.col]
theorem jA (w:World) (bp B:Nat) (ts:List aF) (d:Int) (h:bB w bp B ts d):
  Calls Tryz.prog 75 #[.pointer (some ⟨bp,0,none⟩)] w fun e w'=>e= .returned (nV (aS ts))∧Below w.heap.size w w':=by
 have hlt:=h.lt;obtain⟨b,o,c,t,r,rfl,hc,hcm,hl,hB,hb,hbk,hs,d0,d1,z0,c0,c1,c2,c3⟩:=h.open_;have hbs:b<w.heap.size:=by omega
 clear h hs hbk;rw [show aS (t :: r)=t from rfl];unfold nV;go_enter Tryz.func75,Tryz.ntmps75;go_wp2_with fail;refine bodyPost_ret (aV rfl rfl (heap_alloc_new w _) Tryz.underlying70 rfl (by kernel_rfl)) rfl ?_;exact⟨rfl,(Below.refl _ _).alloc (Nat.le_refl _) _⟩
theorem EH (w:World) (t:aF) (s:Bt):Calls Tryz.prog 140 #[nV t,sv s] w fun e w'=>e= .returned (.bool (mR t s))∧Below w.heap.size w w':=by
 obtain⟨k,x,l,c⟩:=t;unfold nV mR;simp only;by_cases h2:k=2
 ·subst h2;cases hq:(x==s)
  ·rw [show((2:Int)==2 || (2:Int)==5)=true from rfl,Bool.true_and];go_enter Tryz.func140,Tryz.ntmps140;go_wp2_with fail;go_ret;exact⟨rfl,(Below.refl _ _).alloc (Nat.le_refl _) _⟩
  ·rw [show((2:Int)==2 || (2:Int)==5)=true from rfl,Bool.true_and];go_enter Tryz.func140,Tryz.ntmps140;go_wp2_with fail;go_ret;exact⟨rfl,(Below.refl _ _).alloc (Nat.le_refl _) _⟩
 ·by_cases h5:k=5
  ·subst h5;cases hq:(x==s)
   ·rw [show((5:Int)==2 || (5:Int)==5)=true from rfl,Bool.true_and];go_enter Tryz.func140,Tryz.ntmps140;go_wp2_with fail;go_ret;exact⟨rfl,(Below.refl _ _).alloc (Nat.le_refl _) _⟩
   ·rw [show((5:Int)==2 || (5:Int)==5)=true from rfl,Bool.true_and];go_enter Tryz.func140,Tryz.ntmps140;go_wp2_with fail;go_ret;exact⟨rfl,(Below.refl _ _).alloc (Nat.le_refl _) _⟩
  ·rw [beq_false_of_ne h2,beq_false_of_ne h5,Bool.false_or,Bool.false_and];go_enter Tryz.func140,Tryz.ntmps140;go_wp2_with fail;go_ret;exact⟨rfl,(Below.refl _ _).alloc (Nat.le_refl _) _⟩
theorem qA (w:World) (bp B:Nat) (ts:List aF) (d:Int) (g:Int) (h:bB w bp B ts d):
  Calls Tryz.prog 128 #[.pointer (some ⟨bp,0,none⟩), .int .i64 g] w fun e w'=>e=yA ((aS ts).line,(aS ts).col,g)∧Below w.heap.size w w':=by
 have HN:=hid (jA w bp B ts d h);have MB:=hid (fun(w1:World) (hb:Below w.heap.size w w1)=>jA w1 bp B ts d (h.below hb));clear h;generalize aS ts=t at*
 go_enter Tryz.func128,Tryz.ntmps128;go_wp2_with fail;refine HN.out.mono ?_;rintro e w1 ⟨rfl,hb⟩;have HB:=hid hb;have f2:∀w:World,(Instr.field 70 (nV t) 2).run Tryz.prog w= .ok (.int .i64 t.line) w:=fun _=>by kernel_rfl
 have f3:∀w:World,(Instr.field 70 (nV t) 3).run Tryz.prog w= .ok (.int .i64 t.col) w:=fun _=>by kernel_rfl
 clear hb;go_wp2_with fail;refine(MB.out _ HB.out).mono ?_;rintro e w2 ⟨rfl,hb⟩;have HB2:=hid (HB.out.trans (hb.mono HB.out.size));clear hb;go_wp2_with fail;exact⟨rfl,rfl,HB2.out⟩
section
variable {P:Program} {md:Region.Mode} {ops:Array Oper} {Q:Exit→Act→World→Prop} {S:World→Prop}
theorem tk (i:Nat) (v:Value) {oi:Oper} {fuel:Nat} {listed listed':Array Bool} {a a':Act} {w:World} (hS:S w) (h:wpAnyH P md ops Q S fuel listed' a' w)
  (hi:ops[i]? =some oi:=by rfl) (hs:Region.noSelect ops=true:=by kernel_rfl) (hf:Region.free md ops listed i=true:=by kernel_rfl) (hr:(Region.ready md ops listed).contains i=true:=by kernel_rfl)
  (hQ:∀c a w,Q (.panic c) (a.put oi.dst v) w→Q (.panic c) a w:=by exact fun _ _ _ h=>h) (hw:Region.wanted oi (yielded ops a.tmps)=true:=by kernel_rfl)
  (hy:∀w,S w→(execOp a.eval oi).run P w= .ok (.value v) w:=by intro w' hSw;go_simp)
  (hl:listed.setIfInBounds i true=listed':=by(try simp only [List.setIfInBounds_toArray,List.set_cons_zero,List.set_cons_succ]);rfl)
  (ha:a.put oi.dst v=a':=by(try simp only [Act.put,List.getElem_toArray,List.getElem_cons_zero,List.getElem_cons_succ,List.setIfInBounds_toArray,List.set_cons_zero,List.set_cons_succ]);rfl):wpAnyH P md ops Q S (fuel+1) listed a w:=by
 subst hl ha;exact wpAnyH_take hi hs hf hr hQ (.inl ⟨hw,hy⟩) hS h
theorem sZ (i:Nat) (v:Value) {F:World→Prop} (f:∀w',S w'→F w') {oi:Oper} {fuel:Nat} {listed listed':Array Bool} {a a':Act} {w:World} (hS:S w) (h:wpAnyH P md ops Q S fuel listed' a' w)
  (hi:ops[i]? =some oi:=by rfl) (hs:Region.noSelect ops=true:=by kernel_rfl) (hf:Region.free md ops listed i=true:=by kernel_rfl) (hr:(Region.ready md ops listed).contains i=true:=by kernel_rfl)
  (hQ:∀c a w,Q (.panic c) (a.put oi.dst v) w→Q (.panic c) a w:=by exact fun _ _ _ h=>h) (hw:Region.wanted oi (yielded ops a.tmps)=true:=by kernel_rfl)
  (hy:∀w,F w→(execOp a.eval oi).run P w= .ok (.value v) w:=by intro w' hSw;go_simp)
  (hl:listed.setIfInBounds i true=listed':=by(try simp only [List.setIfInBounds_toArray,List.set_cons_zero,List.set_cons_succ]);rfl)
  (ha:a.put oi.dst v=a':=by(try simp only [Act.put,List.getElem_toArray,List.getElem_cons_zero,List.getElem_cons_succ,List.setIfInBounds_toArray,List.set_cons_zero,List.set_cons_succ]);rfl):wpAnyH P md ops Q S (fuel+1) listed a w:=by
 subst hl ha;exact wpAnyH_take hi hs hf hr hQ (.inl ⟨hw,fun w h=>hy w (f w h)⟩) hS h
end
section
variable {w:World} {a0 a1 a2 a3 a4 a5 a6 a7:Addr} {v0 v1 v2 v3 v4 v5 v6 v7:Value}
theorem kb {w w':World} {a:Addr} {v:Value} (h:Below w.heap.size w w') (d:w.cell? a=some v):w'.cell? a=some v:=(h.cell (World.block_lt_of_cell? w a d)).trans d
end
theorem Iw (w:World) (bp B:Nat) (ts:List aF) (d:Int) (h:bB w bp B ts d) (p:Nat) (hp:w.cell? ⟨p,0,none⟩=some (.pointer (some ⟨bp,0,none⟩))) (s:Bt):
  Calls Tryz.prog 139 #[sv s, .pointer (some ⟨p,0,none⟩)] w fun e w'=>e= .returned (.bool (mR (aS ts) s))∧Below w.heap.size w w':=by
 have HN:=hid (jA w bp B ts d h);clear h;generalize aS ts=t at*
 have HI:=hid (fun w1=>EH w1 t s);go_enter Tryz.func139,Tryz.ntmps139;go_wp2_with fail;refine HN.out.mono ?_;rintro e w1 ⟨rfl,hb⟩;have HB:=hid hb;clear hb hp;go_wp2_with fail;refine(HI.out _).mono ?_;rintro e w2 ⟨rfl,hb⟩;have HB2:=hid (HB.out.trans (hb.mono HB.out.size));clear hb;go_wp2_with fail;go_ret;exact⟨rfl,HB2.out⟩
def Pq (o:Option Nat):Int:=match o with | some i=>(i:Int) | none=> -1
theorem Iy {p:Bt→Bool} {l:List Bt} {k:Nat} (hk:k<l.length) (h:(l.take k).findIdx? p=none):(l.take (k+1)).findIdx? p=if p l[k]then some k else none:=by
 rw [List.take_succ_eq_append_getElem hk,List.findIdx?_append,h];have:(l.take k).length=k:=by rw [List.length_take];omega
 cases hp:p l[k] <;> simp [hp,this]
theorem EI {p:Bt→Bool} {l:List Bt} {k j:Nat} (h:(l.take k).findIdx? p=some j):l.findIdx? p=some j:=by
 rw [←List.take_append_drop k l,List.findIdx?_append,h];rfl
theorem EJ (w:World) (bp B:Nat) (ts:List aF) (d:Int) (h:bB w bp B ts d) (p:Nat) (hp:w.cell? ⟨p,0,none⟩=some (.pointer (some ⟨bp,0,none⟩))) (v:Value) (l:List Bt) (hv:Ss w w.heap.size v l) (hl:l.length≤100000):
  Calls Tryz.prog 138 #[v, .func (.func 139) #[] #[.pointer (some ⟨p,0,none⟩)]] w fun e w'=>e= .returned (.int .i64 (Pq (l.findIdx? (mR (aS ts)))))∧Below w.heap.size w w':=by
 obtain⟨A,c,rfl,hn,hc,hx⟩:=hv.open_;unfold maxLen at hc;have hx:0<l.length→∃b off,A=some ⟨b,off,none⟩∧b<w.heap.size∧∀(j:Nat) (s:Bt),l[j]? =some s→w.cell? ⟨b,off+j,none⟩=some (sv s):=fun h0=>by
  obtain⟨b,o,h1,h2,h3⟩:=hx h0;refine⟨b,o,h1,h2,fun j s hj=> ?_⟩;obtain⟨hj1,rfl⟩:=List.getElem?_eq_some_iff.1 hj;exact h3 j hj1
 have HT:=hid (fun(w1:World) (hb:Below w.heap.size w w1) (s:Bt)=>Iw w1 bp B ts d (h.below hb) p (kb hb hp) s);have HX:=hid hx;clear h hp hv hx;generalize aS ts=t at*
 obtain⟨m,hm⟩:∃m,l.length=m:=⟨_,rfl⟩
 rw [hm]at hn HX hl;rw [hm];have HM:=hid hm;clear hm;go_enter Tryz.func138,Tryz.ntmps138;go_wp2_with fail;go_loopw [8] (fun v8 wr=>∃k:Nat,v8= .int .i64 k∧k≤m∧(l.take k).findIdx? (mR t)=none∧Below w.heap.size w wr) (fun v8 _=>m - (intOf v8).toNat)
 case atStart=>exact⟨0,rfl,by omega,rfl,Below.refl _ _⟩
 case round=>
  obtain⟨k,rfl,hk,hinv,hbr⟩:=hrel;have HB:=hid hbr;by_cases hlt:k<m
  ·have hlt':k<l.length:=by rw [HM.out];exact hlt
   obtain⟨b,o,rfl,hb,hcell⟩:=HX.out (by omega);obtain⟨s,hs⟩:∃s,l[k]? =some s:=⟨_,List.getElem?_eq_getElem hlt'⟩
   have hst:=Iy hlt' hinv;rw [(List.getElem?_eq_some_iff.1 hs).2]at hst;have d0:=kb hbr (hcell k s hs);have HC:=hid (HT.out wr hbr s);clear hs;have HI:=hid hinv;clear hinv hbr;cases hq:mR t s
   ·rw [hq]at HC hst;have HS:=hid hst;clear hst hq;go_wp2_with fail;refine HC.out.mono ?_;rintro e w2 ⟨rfl,hb2⟩;have HB2:=hid (HB.out.trans (hb2.mono HB.out.size));clear hb2 d0;go_wp2_with fail
    go_roundw
    case rel=>exact⟨k+1,rfl,by omega,HS.out,HB2.out⟩
    case measure=>simp [intOf];omega
   ·rw [hq]at HC hst;have HS:=hid (EI hst);clear hst hq;go_wp2_with fail;refine HC.out.mono ?_;rintro e w2 ⟨rfl,hb2⟩;have HB2:=hid (HB.out.trans (hb2.mono HB.out.size));clear hb2 d0;go_wp2_with fail;go_ret;exact⟨by rw [HS.out];rfl,HB2.out⟩
  ·obtain rfl:k=m:=by omega
   rw [List.take_of_length_le (by rw [HM.out];exact Nat.le_refl _)]at hinv;have HI:=hid hinv;clear hinv hbr;go_wp2_with fail;go_ret;exact⟨by rw [HI.out];rfl,HB.out⟩
theorem aM {w w':World} {G:Nat→Prop} {b o:Nat} {v:Value} (h:w.cell? ⟨b,o,none⟩=some v) (t:Turn G w w') (hd:¬G b):w'.cell? ⟨b,o,none⟩=some v:=by
 have hb:=t.block (World.block_lt_of_cell? w _ h) hd;simp only [World.cell?,hb]at h ⊢;exact h
def Od (w:World) (v:Value) (o:Option Nat):Prop:=v= .tuple #[.int .i64 ((o.getD 0:Nat):Int), .bool o.isSome]
theorem tq (w:World) (bp B:Nat) (ts:List aF) (d:Int) (h:bB w bp B ts d) (v:Value) (l:List Bt) (hv:Ss w w.heap.size v l) (hl:l.length≤100000):
  Calls Tryz.prog 90 #[.pointer (some ⟨bp,0,none⟩),v] w (aD Od bp B d w (bR l ts)):=by
 have hlt:=h.lt;obtain⟨W,hW⟩:∃W,w.alloc (.cells #[.pointer (some ⟨bp,0,none⟩)] 179)=W:=⟨_,rfl⟩
 have hb1:Below w.heap.size w W:=by rw [←hW];exact(Below.refl _ _).alloc (Nat.le_refl _) _
 have hbt:W.heap[w.heap.size]? =some (.cells #[.pointer (some ⟨bp,0,none⟩)] 179 (0,0)):=by rw [←hW];exact heap_alloc_new _ _
 have hbc:W.cell? ⟨w.heap.size,0,none⟩=some (.pointer (some ⟨bp,0,none⟩)):=(cell_of_row _ _ _ _ _ _ hbt).trans rfl;have hT:=h.below hb1;have HI:=hid (EJ W bp B ts d hT w.heap.size hbc v l (Sl.more (Sl.below hv hb1) hb1.size) hl);have HB:=hid hb1;have HT:=hid hT;have HW:=hid hW;have HBC:=hid hbc;obtain⟨A,c,rfl,hn,hc,hx0⟩:=hv.open_;clear hx0;unfold maxLen at hc;have hw:=h.wf;clear h hv hb1 hT hW hbt hbc;rcases hq:l.findIdx? (mR (aS ts))with _ | i
 ·rw [hq]at HI;have HQ:Hid (bR l ts= .good none ts):=hid (by unfold bR;rw [hq]);have CB:=hid hw;clear hq hw;generalize l.length=m at*
  go_enter Tryz.func90,Tryz.ntmps90;go_wp2_with fail;rw [HW.out];refine HI.out.mono ?_;rintro e w2 ⟨rfl,hb⟩;have HB2:=hid (HB.out.trans (hb.mono HB.out.size));have HT2:=hid (HT.out.below hb);clear hb;unfold Pq;go_wp2_with fail
  go_ret2
  exact aD.done HQ.out (Turn.of_below HB2.out) rfl HT2.out
 ·rw [hq]at HI;obtain⟨t,r,rfl⟩:∃t r,ts=t :: r:=by
   rcases hw.cases with⟨e,rfl, _⟩ | ⟨t,r,rfl, _⟩
   ·exact⟨e,[],rfl⟩
   ·exact⟨t,r,rfl⟩
  have HQ:Hid (bR l (t :: r)= .good (some i) r):=hid (by unfold bR;rw [hq];rfl);have CB:=hid hw;clear hq hw;generalize l.length=m at*
  go_enter Tryz.func90,Tryz.ntmps90;go_wp2_with fail;rw [HW.out];refine HI.out.mono ?_;rintro e w2 ⟨rfl,hb⟩;have HB2:=hid (HB.out.trans (hb.mono HB.out.size));have HT2:=hid (HT.out.below hb);have p0:=kb hb HBC.out;clear hb;unfold Pq;obtain⟨b,o,c2,t',r',he,hc2,hcm2,hok,hB2,SC,hbk,hsl,d0,d1,z0,c0,c1,c2',c3⟩:=HT2.out.open_;injection he with he1 he2;subst he1 he2;obtain⟨A',SE,hA',hrun⟩:=Ab hsl;have sj:=hid ((HT2.out.tok hbk).behind (n':=r.length) (c':=c2 - 1) SE);clear SE;have HA:=hid hA';have SF:=hid hbk;have Ww:=hid hok;have hne:¬w.heap.size=bp:=by omega
  have P0:=hid (fun(w':World) (h:Turn (fun j=>j=bp) w2 w')=>aM p0 h hne);have D0:=hid d0;have HD0:Hid (Turn (fun j=>j=bp) w2 w2.drew):=hid ⟨rfl,rfl,rfl,Nat.le_refl _,fun _ _ _=>rfl⟩;clear hsl hbk hok hA' c0 c1 c2' c3 d1 p0;go_wp2_with fail;refine wp_region_held_drew (S:=fun w'=>Turn (fun j=>j=bp) w2 w') (by kernel_rfl) HD0.out (fun _=> ?_)
  try simp only [Act.put,List.getElem_toArray,List.getElem_cons_zero,List.getElem_cons_succ,List.setIfInBounds_toArray,List.set_cons_zero,List.set_cons_succ]
  refine sZ 0 (.pointer (some ⟨bp,0,none⟩)) P0.out HD0.out ?_;refine sZ 1 (.pointer (some ⟨bp,0,none⟩)) P0.out HD0.out ?_;refine tk 2 (.pointer (some ⟨bp,0,none⟩)) HD0.out ?_;refine tk 3 (.pointer (some ⟨bp,0,none⟩)) HD0.out ?_;refine wpAnyH_ready (rs:=[4]) (by kernel_rfl) (by simp) ?_;refine AllReadyH.cons rfl (fun K hK=> ?_) AllReadyH.nil;go_simp;refine hK.out _ _ HD0.out (fun _=> ?_);clear hK K
  try simp only [Act.put,List.getElem_toArray,List.getElem_cons_zero,List.getElem_cons_succ,List.setIfInBounds_toArray,List.set_cons_zero,List.set_cons_succ]
  refine wpAnyH_ready (rs:=[5]) (by kernel_rfl) (by simp) ?_;refine AllReadyH.cons rfl (fun K hK=> ?_) AllReadyH.nil;go_simp;refine hK.out _ _ HD0.out (fun _=> ?_);clear hK K
  try simp only [Act.put,List.getElem_toArray,List.getElem_cons_zero,List.getElem_cons_succ,List.setIfInBounds_toArray,List.set_cons_zero,List.set_cons_succ]
  refine tk 6 (.pointer (some ⟨bp,0,none⟩)) HD0.out ?_;refine tk 7 (.pointer (some ⟨bp,0,none⟩)) HD0.out ?_;refine wpAnyH_ready (rs:=[8]) (by kernel_rfl) (by simp) ?_;refine AllReadyH.cons rfl (fun K hK=> ?_) AllReadyH.nil
  try rw [if_pos (by kernel_rfl)]
  go_simp;have wG:Hid (Turn (fun j=>j=bp) w2 (w2.drew.setCell ⟨bp,0,none⟩ (.slice A' r.length (c2 - 1)))):=hid (HD0.out.trans (ay _ _ _ _) (fun _ _ h=>h));refine hK.out _ _ wG.out (fun _=> ?_);clear hK K
  try simp only [Act.put,List.getElem_toArray,List.getElem_cons_zero,List.getElem_cons_succ,List.setIfInBounds_toArray,List.set_cons_zero,List.set_cons_succ]
  refine wpAnyH_done (by kernel_rfl) ?_ _;go_wp2_with fail
  go_ret2
  refine aD.done HQ.out ((Turn.of_below (F:=fun k=>k=bp) HB2.out).trans wG.out (fun _ _ h=>h)) rfl ⟨hB2,Ww.out.tail,((Sf.dJ l).good CB.out HQ.out).1, _,heap_setCell_same _ bp 0 _ _ _ SF.out, ?_⟩;have hbw:=(wG.out).below (B:=B) (by have:=HB2.out.size;omega) (fun k hk e=>by omega);exact⟨Sl.below HA.out hbw,HT2.out.laid.below hbw,sj.out.below hbw⟩
def SG (w:World) (v:Value) (b:Bool):Prop:=v= .bool b
def SH (w:World) (v:Value) (b:Bt):Prop:=v=sv b
def PUnit (w:World) (v:Value) (b:Unit):Prop:=True
theorem Iz (s:Bt) (ts:List aF):dI s ts=ak (bR [s]) (fun o=>aG o.isSome) ts:=by
 unfold dI ak bR;cases h:mR (aS ts) s <;> simp [h,aG]
theorem fJ {l:List Bt} {ts:List aF} {g:zx} (h:bR l ts= .bad g):False:=by
 unfold bR at h;split at h <;> cases h
theorem jc (w:World) (bp B:Nat) (ts:List aF) (d:Int) (h:bB w bp B ts d) (s:Bt):
  Calls Tryz.prog 76 #[.pointer (some ⟨bp,0,none⟩),sv s] w (aD SG bp B d w (dI s ts)):=by
 obtain⟨W,hW⟩:∃W,w.alloc (.cells #[sv s] 9)=W:=⟨_,rfl⟩
 have hb1:Below w.heap.size w W:=by rw [←hW];exact(Below.refl _ _).alloc (Nat.le_refl _) _
 have hs:Ss W W.heap.size (.slice (some ⟨w.heap.size,0,none⟩) 1 1) [s]:=by rw [←hW];exact(AZ w s _).more (by simp)
 have HT:=hid (tq W bp B ts d (h.below hb1) _ [s] hs (by simp));have HB:=hid hb1;have HW:=hid hW;obtain⟨Q,hQ⟩:∃Q,dI s ts=Q:=⟨_,rfl⟩
 rw [hQ];rw [Iz]at hQ;have HQ:=hid hQ;clear hQ hs hb1 hW h;go_enter Tryz.func76,Tryz.ntmps76;go_wp2_with fail;rw [HW.out];refine HT.out.mono ?_;rintro e w2 h2;rcases hq:bR [s] ts with g | ⟨o,r⟩
 ·exact(fJ hq).elim
 obtain⟨v,rfl,t2,rfl,hR⟩:=h2.aL hq;have lg:=hid (HQ.out.symm.trans (aj hq));have HT2:=hid ((Turn.of_below (F:=fun k=>k=bp) HB.out).trans t2 (fun _ _ h=>h));have HR:=hid hR;clear h2 t2 hR hq;go_wp2_with fail;go_ret;exact aD.done lg.out HT2.out rfl HR.out
theorem CF (w:World) (bp B:Nat) (ts:List aF) (d:Int) (h:bB w bp B ts d) (v:Value) (l:List Bt) (hv:Ss w w.heap.size v l) (hl:l.length≤100000):
  Calls Tryz.prog 129 #[.pointer (some ⟨bp,0,none⟩),v] w (aD PUnit bp B d w (je l ts)):=by
 obtain⟨A,c,rfl,hn,hc,hx⟩:=hv.open_;unfold maxLen at hc;have hx:0<l.length→∃b off,A=some ⟨b,off,none⟩∧b<w.heap.size∧∀(j:Nat) (s:Bt),l[j]? =some s→w.cell? ⟨b,off+j,none⟩=some (sv s):=fun h0=>by
  obtain⟨b,o,h1,h2,h3⟩:=hx h0;refine⟨b,o,h1,h2,fun j s hj=> ?_⟩;obtain⟨hj1,rfl⟩:=List.getElem?_eq_some_iff.1 hj;exact h3 j hj1
 have HX:=hid hx;have H0:=hid h;obtain⟨Q,hQ⟩:∃Q,je l ts=Q:=⟨_,rfl⟩
 rw [hQ];have HQ:=hid hQ;clear h hv hx hQ;obtain⟨m,hm⟩:∃m,l.length=m:=⟨_,rfl⟩
 rw [hm]at hn HX hl;rw [hm];have HM:=hid hm;clear hm;go_enter Tryz.func129,Tryz.ntmps129;go_wp2_with fail;go_loopw [8] (fun v8 wr=>∃(k:Nat) (r:List aF),v8= .int .i64 k∧k≤m∧je (l.drop k) r=Q∧Turn (fun j=>j=bp) w wr∧bB wr bp B r d) (fun v8 _=>m - (intOf v8).toNat)
 case atStart=>exact⟨0,ts,rfl,by omega,HQ.out,Turn.refl _ _,H0.out⟩
 case round=>
  obtain⟨k,r,rfl,hk,hinv,htr,hR⟩:=hrel;have HT:=hid htr;by_cases hlt:k<m
  ·have hlt':k<l.length:=by rw [HM.out];exact hlt
   obtain⟨b,o,rfl,hb,hcell⟩:=HX.out (by omega);obtain⟨s,hs⟩:∃s,l[k]? =some s:=⟨_,List.getElem?_eq_getElem hlt'⟩
   have RQ:=hcell k s hs;have d0:=aM RQ htr (H0.out.text RQ);obtain⟨hj1,hj2⟩:=List.getElem?_eq_some_iff.1 hs;have hd:l.drop k=s :: l.drop (k+1):=by rw [←hj2];exact List.drop_eq_getElem_cons hlt'
   rw [hd]at hinv;have HI:Hid (ak (aI s) (fun _=>je (l.drop (k+1))) r=Q):=hid hinv;have HH:=hid (jc wr bp B r d hR s);have HF:=hid (fun(w1:World) (r1:List aF) (h1:bB w1 bp B r1 d)=>qA w1 bp B r1 d 7 h1);clear hs hj1 hj2 hd hinv htr RQ hR hlt' hcell;rcases hq:dI s r with g | ⟨o1,r1⟩
   ·exfalso;unfold dI at hq;split at hq <;> cases hq
   cases o1
   ·have kS:Hid (aI s r=jl 7 r1):=hid (by unfold aI;rw [aj hq];rfl);go_wp2_with fail;refine HH.out.mono ?_;rintro e w2 h2;obtain⟨v,rfl,t2,rfl,hR⟩:=h2.aL hq;have HT2:=hid (HT.out.trans t2 (fun _ _ h=>h));have HR:=hid hR;clear h2 t2 hR hq;go_wp2_with fail;refine(HF.out _ _ HR.out).mono ?_;rintro e w3 ⟨rfl,hb3⟩;have HT3:=hid (dB.below HT2.out HR.out.bp hb3);clear hb3;go_wp2_with fail;exact⟨rfl,aD.fail (HI.out.symm.trans (aB (kS.out.trans rfl))) HT3.out⟩
   ·have kS:Hid (aI s r= .good () r1):=hid (by unfold aI;rw [aj hq];rfl);go_wp2_with fail;refine HH.out.mono ?_;rintro e w2 h2;obtain⟨v,rfl,t2,rfl,hR⟩:=h2.aL hq;have HT2:=hid (HT.out.trans t2 (fun _ _ h=>h));have HR:=hid hR;clear h2 t2 hR hq;go_wp2_with fail
    go_roundw
    case rel=>exact⟨k+1,r1,rfl,by omega,(aj kS.out).symm.trans HI.out,HT2.out,HR.out⟩
    case measure=>simp [intOf];omega
  ·obtain rfl:k=m:=by omega
   rw [List.drop_of_length_le (by rw [HM.out];exact Nat.le_refl _)]at hinv;have HI:=hid hinv;have HR:=hid hR;clear hinv htr hR;go_wp2_with fail;go_end0;exact aD.done HI.out.symm HT.out trivial HR.out
theorem tu (w:World) (bp B:Nat) (ts:List aF) (d:Int) (h:bB w bp B ts d) (k:Int):
  Calls Tryz.prog 74 #[.pointer (some ⟨bp,0,none⟩), .int .i64 k] w (aD SH bp B d w (dL k ts)):=by
 have HN:=hid (jA w bp B ts d h);have HF:=hid (fun(w1:World) (h1:bB w1 bp B ts d)=>qA w1 bp B ts d 7 h1);have H0:=hid h;have hlt:=h.lt;have hwf:=h.wf;clear h;by_cases hk:(aS ts).kind=k
 ·by_cases h0:k=0
  ·subst h0;have HQ:Hid (dL 0 ts= .good (aS ts).text ts):=hid (by unfold dL;rw [if_pos hk];rfl);clear hwf;generalize aS ts=t at*
   obtain⟨Wx,tx,tl,tc⟩:=t;simp only at hk;subst hk;unfold nV at HN;go_enter Tryz.func74,Tryz.ntmps74;go_wp2_with fail;refine HN.out.mono ?_;rintro e w1 ⟨rfl,hb⟩;have HB:=hid hb;have HR:=hid (H0.out.below hb);clear hb;go_wp2_with fail;go_ret;exact aD.done HQ.out (Turn.of_below (HB.out.alloc HB.out.size _)) rfl (HR.out.below ((Below.refl _ _).alloc (Nat.le_refl _) _))
  ·obtain⟨t,r,rfl⟩:∃t r,ts=t :: r:=by
    rcases hwf.cases with⟨e,rfl, _⟩ | ⟨t,r,rfl, _⟩
    ·exact⟨e,[],rfl⟩
    ·exact⟨t,r,rfl⟩
   have HQ:Hid (dL k (t :: r)= .good t.text r):=hid (by unfold dL;rw [if_pos hk,if_neg h0];rfl);have CB:=hid hwf;clear hwf;rw [show aS (t :: r)=t from rfl]at*
   obtain⟨Wx,tx,tl,tc⟩:=t;simp only at hk;subst hk;unfold nV at HN;go_enter Tryz.func74,Tryz.ntmps74;go_wp2_with fail;refine HN.out.mono ?_;rintro e w1 ⟨rfl,hb⟩;have HB:=hid hb;have hR:=H0.out.below hb;have Oe:=hid hR.laid;have hlt1:=hR.lt;obtain⟨b,o,c2,t',r',he,hc2,hcm2,hok,hB2,SC,hbk,hsl,d0,d1,z0,c0,c1,c2',c3⟩:=hR.open_;injection he with he1 he2;subst he1 he2;obtain⟨A',SE,hA',hrun⟩:=Ab hsl;have sj:=hid ((hR.tok hbk).behind (n':=r.length) (c':=c2 - 1) SE);clear SE;have HA:=hid hA';have SF:=hid hbk;have Ww:=hid hok;have hbs:b<w1.heap.size:=by omega
   clear hb hR hsl hbk hok hA' c0 c1 c2' c3 d1;go_wp2_with fail;go_ret;have t2:=ay w1 bp 0 (.slice A' r.length (c2 - 1));have hb2:=heap_setCell_same w1 bp 0 _ _ (.slice A' r.length (c2 - 1)) SF.out;generalize hw2:w1.setCell _ _=w2 at*
   have hlt2:=block_lt hb2;have hbl:Below w2.heap.size w2 (w2.alloc (.cells #[.int .i64 Wx, .string ⟨tx.toArray⟩, .int .i64 tl, .int .i64 tc] 70)):=(Below.refl _ _).alloc (Nat.le_refl _) _;have t3:=t2.trans (Turn.of_below (F:=fun j=>j=bp) hbl) (fun _ _ h=>h);refine aD.done HQ.out ((Turn.of_below (F:=fun k=>k=bp) HB.out).trans t3 (fun _ _ h=>h)) rfl ⟨hB2,Ww.out.tail,((Sf.kind _).good CB.out HQ.out).1, _,(hbl.block _ hlt2).trans hb2, ?_⟩;have hbw:=t3.below (B:=B) (by omega) (fun k hk e=>by omega);exact⟨Sl.below HA.out hbw,Oe.out.below hbw,sj.out.below hbw⟩
 ·have HQ:Hid (dL k ts= .bad ((aS ts).line,(aS ts).col,7)):=hid (by unfold dL;rw [if_neg hk]);clear hwf;generalize aS ts=t at*
  obtain⟨Wx,tx,tl,tc⟩:=t;simp only at hk;unfold nV at HN;go_enter Tryz.func74,Tryz.ntmps74;go_wp2_with fail;refine HN.out.mono ?_;rintro e w1 ⟨rfl,hb⟩;have HB:=hid hb;have HR:=hid (H0.out.below hb);clear hb;go_wp2_with fail;refine(HF.out _ (HR.out.below ((Below.refl _ _).alloc (Nat.le_refl _) _))).mono ?_;rintro e w3 ⟨rfl,hb3⟩;have HT3:=hid (dB.below (Turn.of_below (F:=fun j=>j=bp) (HB.out.alloc HB.out.size _)) (HR.out.below ((Below.refl _ _).alloc (Nat.le_refl _) _)).bp hb3);clear hb3;go_wp2_with fail;exact⟨rfl,aD.fail HQ.out HT3.out⟩
theorem eO (w:World) (bp B:Nat) (ts:List aF) (d:Int) (h:bB w bp B ts d):
  Calls Tryz.prog 92 #[.pointer (some ⟨bp,0,none⟩)] w (aD SH bp B d w (nameP ts)):=by
 have HK:=hid (tu w bp B ts d h 1);clear h;obtain⟨Q,hQ⟩:∃Q,nameP ts=Q:=⟨_,rfl⟩
 rw [show dL 1 ts=Q from hQ]at HK;rw [hQ];clear hQ;go_enter Tryz.func92,Tryz.ntmps92;go_wp2_with fail;refine HK.out.mono ?_;rintro e w2 h2;rcases Q with g | ⟨x,r⟩
 ·obtain⟨rfl,t2⟩:=h2.bD rfl;have HT:=hid t2;clear t2 h2;go_wp2_with fail;exact⟨rfl,aD.fail rfl HT.out⟩
 ·obtain⟨v,rfl,t2,rfl,hR⟩:=h2.aL rfl;have HT:=hid t2;have HR:=hid hR;clear t2 h2 hR;go_wp2_with fail;go_ret;exact aD.done rfl HT.out rfl HR.out
theorem bB.deep {w w':World} {bp B:Nat} {ts:List aF} {d e:Int} (h:bB w bp B ts d) (hw:w'=w.setCell ⟨bp,1,none⟩ (.int .i64 e)):bB w' bp B ts e:=by
 subst hw;have hlt:=h.lt;obtain⟨h1,h2,h5,v,h3,h4,h6,h7⟩:=h;have hb:=(ay w bp 1 (.int .i64 e)).below (B:=B) (by omega) (fun k hk e=>by omega);exact⟨h1,h2,h5,v,heap_setCell_same _ bp 1 _ _ _ h3,Sl.below h4 hb,h6.below hb,h7.below hb⟩
theorem uU (w:World) (bp B:Nat) (ts:List aF) (d:Int) (h:bB w bp B ts d) (h0:0≤d) (h1:d<100):
  Calls Tryz.prog 88 #[.pointer (some ⟨bp,0,none⟩)] w fun e w'=>e= .returned (.func (.func 137) #[] #[.pointer (some ⟨w.heap.size,0,none⟩)])∧Turn (fun k=>k=bp) w w'∧w'.cell? ⟨w.heap.size,0,none⟩=some (.pointer (some ⟨bp,0,none⟩))∧bB w' bp B ts (d+1):=by
 have H0:=hid h;have hlt:=h.lt;obtain⟨b,o,c,t,r,rfl,hc,hcm,hl,hB,hb,hbk,hs,d0,d1,z0,c0,c1,c2,c3⟩:=h.open_;have hne:¬d=100:=by omega
 have Pt:∀(fn:Fn) (first cap:Array Value) (w:World),(Instr.makeFunc fn first cap).run Tryz.prog w= .ok (.func fn first cap) w:=fun _ _ _ _=>rfl;clear h hs hbk d0 c0 c1 c2 c3;go_enter Tryz.func88,Tryz.ntmps88;go_wp2_with fail;go_ret;have t1:=ay w bp 1 (.int .i64 (d+1));have hR:=H0.out.deep (e:=d+1) (w':=w.setCell ⟨bp,1,none⟩ (.int .i64 (d+1))) rfl;have hs:(w.setCell ⟨bp,1,none⟩ (.int .i64 (d+1))).heap.size=w.heap.size:=by simp
 refine⟨rfl,t1.trans (Turn.alloc _ _ _) (fun _ _ h=>h), ?_,hR.below ((Below.refl _ _).alloc (Nat.le_refl _) _)⟩;have hn:=heap_alloc_new (w.setCell ⟨bp,1,none⟩ (.int .i64 (d+1))) (.cells #[.pointer (some ⟨bp,0,none⟩)] 94);rw [hs]at hn;exact(cell_of_row _ _ _ _ _ _ hn).trans rfl
theorem rF (w:World) (bp B:Nat) (ts:List aF) (h:bB w bp B ts 100):
  Calls Tryz.prog 88 #[.pointer (some ⟨bp,0,none⟩)] w fun e w'=>e=yA ((aS ts).line,(aS ts).col,6)∧dB bp w w':=by
 have H0:=hid h;have HF:=hid (fun(w1:World) (h1:bB w1 bp B ts 100)=>qA w1 bp B ts 100 6 h1);have hlt:=h.lt;obtain⟨b,o,c,t,r,he,hc,hcm,hl,hB,hb,hbk,hs,d0,d1,z0,c0,c1,c2,c3⟩:=h.open_;clear h hs hbk d0 c0 c1 c2 c3 he;go_enter Tryz.func88,Tryz.ntmps88;go_wp2_with fail;refine(HF.out _ (H0.out.below ((Below.refl _ _).alloc (Nat.le_refl _) _))).mono ?_;rintro e w3 ⟨rfl,hb3⟩;have HT3:=hid (dB.below (Turn.of_below (F:=fun j=>j=bp) ((Below.refl _ _).alloc (Nat.le_refl _) _)) (H0.out.below ((Below.refl _ _).alloc (Nat.le_refl _) _)).bp hb3);clear hb3;go_wp2_with fail;exact⟨rfl,rfl,HT3.out⟩
theorem Ac (w:World) (bp x:Nat) (v:Value) (d:Int) (u:FrameMode) (h:w.heap[bp]? =some (.cells #[v, .int .i64 d] 140 (0,0))) (hx:w.cell? ⟨x,0,none⟩=some (.pointer (some ⟨bp,0,none⟩))):
  CallsD Tryz.prog 137 #[.pointer (some ⟨x,0,none⟩)] u w fun e u' w'=>u'=u∧(e= .returned (.tuple #[])∧w'=w.setCell ⟨bp,1,none⟩ (.int .i64 (wrap64 (d - 1)))):=by
 have d1:w.cell? ⟨bp,1,none⟩=some (.int .i64 d):=(cell_of_row _ _ _ _ _ _ h).trans rfl;have z0:∀i,w.frozen? ⟨bp,i,none⟩=false:=fun i=>frozen_of_row _ _ _ _ _ h;clear h
 go_enter_d Tryz.func137,Tryz.ntmps137
 go_wp2_with fail;go_end0;exact⟨rfl,rfl⟩
def leftOf (w:World) (bp:Nat):Nat:=match w.cell? ⟨bp,0,none⟩with | some (.slice _ n _)=>n | _=>0
theorem bB.left {w:World} {bp B:Nat} {ts:List aF} {d:Int} (h:bB w bp B ts d):leftOf w bp=ts.length:=by
 obtain⟨b,o,c,t,r,rfl,hc,hcm,hl,hB,hb,hbk,hs,d0,d1,z0,c0,c1,c2,c3⟩:=h.open_;unfold leftOf;rw [d0];rfl
def dh {α:Type} (Inv:World→List α→Prop) (G:Nat→Prop) (bp B:Nat) (d:Int) (w:World) (q:Pr (List α)) (e:Ending) (w':World):Prop:=match q with
 | .good l r=>e= .returned (.tuple #[])∧Turn G w w'∧Inv w' l∧bB w' bp B r d
 | .bad g=>e=yA g∧Turn G w w'∧rE w' bp
section
variable {α:Type} {Inv:World→List α→Prop} {G:Nat→Prop} {bp B:Nat} {d:Int} {w w':World} {q:Pr (List α)} {e:Ending}
theorem dh.bD {g:zx} (h:dh Inv G bp B d w q e w') (hq:q= .bad g):e=yA g∧Turn G w w'∧rE w' bp:=by
 subst hq;exact h
theorem dh.aL {x:List α} {r:List aF} (h:dh Inv G bp B d w q e w') (hq:q= .good x r):e= .returned (.tuple #[])∧Turn G w w'∧Inv w' x∧bB w' bp B r d:=by
 subst hq;exact h
theorem dh.fail {g:zx} (hq:q= .bad g) (t:Turn G w w') (hb:rE w' bp):dh Inv G bp B d w q (yA g) w':=by
 subst hq;exact⟨rfl,t,hb⟩
theorem dh.done {x:List α} {r:List aF} (hq:q= .good x r) (t:Turn G w w') (hI:Inv w' x) (hR:bB w' bp B r d):dh Inv G bp B d w q (.returned (.tuple #[])) w':=by
 subst hq;exact⟨rfl,t,hI,hR⟩
end
def nA {α:Type} (one:Ps α) (l:List α):Ps (List α):=ak one fun x=>aG (l++[x])
theorem Ae {α:Type} {one:Ps α} {l:List α} {ts:List aF} {g:zx} (h:one ts= .bad g):nA one l ts= .bad g:=aB h
theorem yB {α:Type} {one:Ps α} {l:List α} {ts r:List aF} {x:α} (h:one ts= .good x r):nA one l ts= .good (l++[x]) r:=aj h
theorem gu {s:Bt} {ts:List aF} {g:zx} (h:dI s ts= .bad g):False:=by
 unfold dI at h;split at h <;> cases h
theorem qB {s:Bt} {ts r:List aF} (h:dI s ts= .good true r) (hw:1≤ts.length):r.length<ts.length:=by
 unfold dI at h;split at h
 ·injection h with _ h;subst h;rw [List.length_drop];omega
 ·injection h with h;cases h
theorem jm {α:Type} (one:Ps α) (hone:Sf one) (K:Nat) (caps:Array Value) (Inv:World→List α→Prop) (G:Nat→Prop) (d:Int) (w:World) (bp B:Nat) (ts:List aF) (hG:G bp)
  (hInv:∀(w1 w2:World) (l:List α),Turn (fun k=>k=bp) w1 w2→Inv w1 l→Inv w2 l) (hnew:∀g,w.heap.size≤g→G g)
  (HC:∀(w1:World) (r:List aF) (l:List α),l.length≤8193→w.heap.size≤w1.heap.size→Inv w1 l→bB w1 bp B r d→Calls Tryz.prog K caps w1 (dh Inv G bp B d w1 (nA one l r)))
  (hent:∀w:World,(callFunc K caps).run Tryz.prog w= .ok (.enter K caps) w) (h:bB w bp B ts d) (hI:Inv w []):
  Calls Tryz.prog 130 #[.pointer (some ⟨bp,0,none⟩), .func (.func K) #[] caps] w (dh Inv G bp B d w (iD one ts)):=by
 have HC0:=hid (HC w ts [] (by simp) (Nat.le_refl _) hI h);have hn:=h.2.1.1;have HN:=hid hn;have HCC:=hid HC;have SI:=hid hInv;obtain⟨Q,hQ⟩:∃Q,iD one ts=Q:=⟨_,rfl⟩
 rw [hQ];have HQ:=hid hQ;have HW0:=hid h.wf;clear HC hI hQ hInv h hn;go_enter Tryz.func130,Tryz.ntmps130;go_wp2_with fail;refine HC0.out.mono ?_;rintro e w1 h1;rcases hq:one ts with g | ⟨x,r1⟩
 ·obtain⟨rfl,t1,b1⟩:=h1.bD (Ae hq);have HT:=hid t1;have HB:=hid b1;have kS:=hid (HQ.out.symm.trans (show iD one ts= .bad g from aB hq));clear h1 t1 b1 hq;go_wp2_with fail;exact⟨rfl,dh.fail kS.out HT.out HB.out⟩
 ·obtain⟨rfl,t1,i1,k1⟩:=h1.aL (yB hq);have HT1:=hid t1;have HI1:=hid i1;have lF:=hid k1;have wG:=hid ((hone.good HW0.out hq).2.length_le);have kS:=hid ((show iD one ts=oQ one r1.length [x] r1 from aj hq).symm.trans HQ.out);clear h1 t1 i1 k1 hq;go_wp2_with fail;go_loopw [6] (fun _ wr=>∃(f:Nat) (l:List α) (r:List aF),oQ one f l r=Q∧r.length≤f∧l.length+r.length≤ts.length+1∧Turn G w wr∧Inv wr l∧bB wr bp B r d) (fun _ wr=>leftOf wr bp)
  case atStart=>exact⟨_, _,r1,kS.out,Nat.le_refl _,by have:=wG.out;simp only [List.length_singleton];omega,HT1.out,HI1.out,lF.out⟩
  case round=>
   obtain⟨f,l,r,hs,hf,hlr,ht,hi,hk⟩:=hrel;have hwf:=hk.wf;have hpos:=hwf.pos;obtain⟨f,rfl⟩:∃f',f=f'+1:=⟨f - 1,by omega⟩
   have HS:Hid (ak (dI [44]) (fun b=>if b then ak one fun a=>oQ one f (l++[a])else aG l) r=Q):=hid hs;have HLEN:=hid hk.left;have HF:=hid hf;have HT:=hid ht;have HI:=hid hi;have CB:=hid hwf;have HH:=hid (jc wr bp B r d hk [44]);have HP:=hid hpos;have MC:=hid hlr;clear hs hf ht hi hk hwf hpos hlr;rcases hq:dI [44] r with g | ⟨b,r2⟩
   ·exact(gu hq).elim
   cases b
   ·have lg:Hid (Pr.good l r2=Q):=hid ((aj hq).symm.trans HS.out);go_wp2_with fail;refine HH.out.mono ?_;rintro e w2 h2;obtain⟨v,rfl,t2,rfl,k2⟩:=h2.aL hq;have HT2:=hid (HT.out.trans t2 (fun j _ hj=>by subst hj;exact hG));have HI2:=hid (SI.out _ _ _ t2 HI.out);have kH:=hid k2;clear h2 t2 k2 hq;go_wp2_with fail;go_end0;exact dh.done lg.out.symm HT2.out HI2.out kH.out
   ·have lg:Hid (ak one (fun a=>oQ one f (l++[a])) r2=Q):=hid ((aj hq).symm.trans HS.out);have HL2:=hid (qB hq HP.out);go_wp2_with fail;refine HH.out.mono ?_;rintro e w2 h2;obtain⟨v,rfl,t2,rfl,k2⟩:=h2.aL hq;have HT2:=hid (HT.out.trans t2 (fun j _ hj=>by subst hj;exact hG));have Pv:=hid (HCC.out w2 r2 l (by have:=MC.out;have:=HL2.out;have:=HN.out;omega) (HT2.out.size) (SI.out _ _ _ t2 HI.out) k2);have Wy:=hid k2.wf;clear h2 t2 k2 hq;go_wp2_with fail;refine Pv.out.mono ?_;rintro e w3 h3;rcases hq3:one r2 with g | ⟨y,r3⟩
    ·obtain⟨rfl,t3,b3⟩:=h3.bD (Ae hq3);have HT3:=hid (HT2.out.trans t3 (fun _ _ h=>h));have HB3:=hid b3;have gM:=hid (lg.out.symm.trans (aB hq3));clear h3 t3 b3 hq3;go_wp2_with fail;exact⟨rfl,dh.fail gM.out HT3.out HB3.out⟩
    ·obtain⟨rfl,t3,i3,k3⟩:=h3.aL (yB hq3);have HT3:=hid (HT2.out.trans t3 (fun _ _ h=>h));have HI3:=hid i3;have jg:=hid k3;have gM:Hid (oQ one f (l++[y]) r3=Q):=hid ((aj hq3).symm.trans lg.out);have Pw:=hid ((hone.good Wy.out hq3).2.length_le);clear h3 t3 i3 k3 hq3;go_wp2_with fail
     go_roundw
     case rel=>exact⟨f, _,r3,gM.out,by have:=Pw.out;have:=HL2.out;have:=HF.out;omega,by have:=Pw.out;have:=HL2.out;have:=MC.out;simp only [List.length_append,List.length_singleton];omega,HT3.out,HI3.out,jg.out⟩
     case measure=>rw [jg.out.left,HLEN.out];have:=Pw.out;have:=HL2.out;omega
theorem fK {α β γ:Type} {p:Ps α} {f:α→Ps β} {g:β→Ps γ} {ts r:List aF} {a:α} (h:p ts= .good a r):ak (ak p f) g ts=ak (f a) g r:=by
 unfold ak;rw [h]
theorem qC {α β γ:Type} {p:Ps α} {f:α→Ps β} {g:β→Ps γ} {ts:List aF} {d:zx} (h:p ts= .bad d):ak (ak p f) g ts= .bad d:=aB (aB h)
theorem new1 (w:World) (o1:Obj):Below w.heap.size w (w.alloc o1):=(Below.refl _ _).alloc (Nat.le_refl _) _
theorem new2 (w:World) (o1 o2:Obj):Below w.heap.size w ((w.alloc o1).alloc o2):=(new1 w o1).alloc (by simp) _
theorem Px (w:World) (o1 o2 o3:Obj):Below w.heap.size w (((w.alloc o1).alloc o2).alloc o3):=(new2 w o1 o2).alloc (by simp;omega) _
theorem Wz (w:World) (o1 o2 o3 o4:Obj):Below w.heap.size w ((((w.alloc o1).alloc o2).alloc o3).alloc o4):=(Px w o1 o2 o3).alloc (by simp;omega) _
theorem oF (w:World) (o:Obj):(w.alloc o).heap[w.heap.size]? =some o:=heap_alloc_new w o
theorem bJ {w:World} {b:Nat} {o o':Obj} (h:w.heap[b]? =some o):(w.alloc o').heap[b]? =some o:=ah h (Turn.alloc (fun _=>False) _ _) id
section
variable {G:Nat→Prop} {w w2:World} {o1 o2 o3 o4:Obj}
theorem bf (t:Turn G (w.alloc o1) w2):Turn G w w2∧w.heap.size+1≤w2.heap.size∧(¬G w.heap.size→w2.heap[w.heap.size]? =some o1):=by
 have hs:=t.size;simp at hs;exact⟨(Turn.alloc G _ _).trans t (fun _ _ h=>h),hs,fun h=>ah (oF w o1) t h⟩
theorem kK (t:Turn G ((w.alloc o1).alloc o2) w2):Turn G w w2∧w.heap.size+2≤w2.heap.size∧(¬G w.heap.size→w2.heap[w.heap.size]? =some o1)∧(¬G (w.heap.size+1)→w2.heap[w.heap.size+1]? =some o2):=by
 obtain⟨t1,h1,h2⟩:=bf t;obtain⟨t0,h3,h4⟩:=bf t1;simp at h1 h2;exact⟨t0,by omega,h4,h2⟩
theorem nW (t:Turn G (((w.alloc o1).alloc o2).alloc o3) w2):Turn G w w2∧w.heap.size+3≤w2.heap.size∧(¬G w.heap.size→w2.heap[w.heap.size]? =some o1)∧(¬G (w.heap.size+1)→w2.heap[w.heap.size+1]? =some o2)∧(¬G (w.heap.size+1+1)→w2.heap[w.heap.size+1+1]? =some o3):=by
 obtain⟨t1,h1,h2⟩:=bf t;obtain⟨t0,h3,h4,h5⟩:=kK t1;simp at h1 h2;exact⟨t0,by omega,h4,h5,h2⟩
end
theorem mI {G:Nat→Prop} (w:World) {w2:World} (cs:Array Value) (t:TypeId) (k n:Nat) (hs:cs.size=n*k) (hn:n≤maxLen) (t2:Turn G (w.alloc (.cells cs t)) w2) (hG:¬G w.heap.size):
  Sl w2 (w.heap.size+1) k (.slice (some ⟨w.heap.size,0,none⟩) n n) cs.toList:=by
 refine⟨_,n,n,rfl,by simpa using hs,Nat.le_refl _,hn,fun _=>⟨w.heap.size,0,rfl,by omega,fun j u hu=> ?_⟩⟩;rw [cell_of_row _ _ _ cs t (0,0) ((bf t2).2.2 hG)];simpa using hu
theorem ig (w:World) (cs:Array Value) (t:TypeId) (k n:Nat) (hs:cs.size=n*k) (hn:n≤maxLen):dx (w.alloc (.cells cs t)) (fun j=>j=w.heap.size) k (.slice (some ⟨w.heap.size,0,none⟩) n n) cs.toList:=by
 refine⟨_,n,n,rfl,by simpa using hs,Nat.le_refl _,hn,fun _=>⟨w.heap.size,0,rfl,rfl,by simp,fun j u hu=> ?_⟩⟩;rw [cell_of_row _ _ _ cs t (0,0) (heap_alloc_new w _)];simpa using hu
theorem Bn (w:World) (a:Nat) (ha:a=w.heap.size) (l:List Bt) (cs:Array Value) (t:TypeId) (n:Nat) (hcs:cs.toList=mZ l) (hn:n=l.length) (hm:n≤100000):Ss (w.alloc (.cells cs t)) (w.alloc (.cells cs t)).heap.size (.slice (some ⟨a,0,none⟩) n n) l:=by
 subst ha hn
 have h:=fT w cs t 1 l.length (by
  have:=congrArg List.length hcs;simp [mZ]at this;omega) (by unfold maxLen;omega)
 rw [hcs]at h;exact h.more (by simp)
theorem aA {bp:Nat} {a b c:World} (h:Turn (fun k=>k=bp) a b) (k:Turn (fun k=>k=bp) b c):Turn (fun k=>k=bp) a c:=h.trans k fun _ _ h=>h
theorem bM {w:World} {b:Nat} {a0 a1 a2 a3:Value} {t:TypeId} (h:w.heap[b]? =some (.cells #[a0,a1,a2,a3] t (0,0))):w.cell? ⟨b,0,none⟩=some a0∧w.cell? ⟨b,1,none⟩=some a1∧w.cell? ⟨b,2,none⟩=some a2∧w.cell? ⟨b,3,none⟩=some a3∧∀i,w.frozen? ⟨b,i,none⟩=false:=
 ⟨(cell_of_row _ _ _ _ _ _ h).trans rfl,(cell_of_row _ _ _ _ _ _ h).trans rfl,(cell_of_row _ _ _ _ _ _ h).trans rfl,(cell_of_row _ _ _ _ _ _ h).trans rfl,fun i=>frozen_of_row _ _ _ _ _ h⟩
theorem aH {w:World} {b:Nat} {a0 a1 a2 a3 a4 a5 a6 a7:Value} {t:TypeId} (h:w.heap[b]? =some (.cells #[a0,a1,a2,a3,a4,a5,a6,a7] t (0,0))):w.cell? ⟨b,0,none⟩=some a0∧w.cell? ⟨b,1,none⟩=some a1∧w.cell? ⟨b,2,none⟩=some a2∧w.cell? ⟨b,3,none⟩=some a3∧
  w.cell? ⟨b,4,none⟩=some a4∧w.cell? ⟨b,5,none⟩=some a5∧w.cell? ⟨b,6,none⟩=some a6∧w.cell? ⟨b,7,none⟩=some a7∧∀i,w.frozen? ⟨b,i,none⟩=false:=
 ⟨(cell_of_row _ _ _ _ _ _ h).trans rfl,(cell_of_row _ _ _ _ _ _ h).trans rfl,(cell_of_row _ _ _ _ _ _ h).trans rfl,(cell_of_row _ _ _ _ _ _ h).trans rfl,(cell_of_row _ _ _ _ _ _ h).trans rfl,(cell_of_row _ _ _ _ _ _ h).trans rfl,(cell_of_row _ _ _ _ _ _ h).trans rfl,(cell_of_row _ _ _ _ _ _ h).trans rfl,fun i=>frozen_of_row _ _ _ _ _ h⟩
theorem aZ {w:World} {b:Nat} {a0:Value} {t:TypeId} (h:w.heap[b]? =some (.cells #[a0] t (0,0))):w.cell? ⟨b,0,none⟩=some a0:=(cell_of_row _ _ _ _ _ _ h).trans rfl
abbrev jB (w:World) (b:Nat) (v0 v1 v2 v3:Value):World:=(((w.setCell ⟨b,0,none⟩ v0).setCell ⟨b,1,none⟩ v1).setCell ⟨b,2,none⟩ v2).setCell ⟨b,3,none⟩ v3
theorem dR (w:World) (b:Nat) (v0 v1 v2 v3:Value):Turn (fun k=>k=b) w (jB w b v0 v1 v2 v3):=
 (((ay w b 0 v0).trans (ay _ b 1 v1) (fun _ _ h=>h)).trans (ay _ b 2 v2) (fun _ _ h=>h)).trans (ay _ b 3 v3) (fun _ _ h=>h)
theorem bZ {w:World} {b:Nat} {a0 a1 a2 a3:Value} {t:TypeId} (h:w.heap[b]? =some (.cells #[a0,a1,a2,a3] t (0,0))) (v0 v1 v2 v3:Value):(jB w b v0 v1 v2 v3).heap[b]? =some (.cells #[v0,v1,v2,v3] t (0,0)):=
 heap_setCell_same _ b 3 _ _ v3 (heap_setCell_same _ b 2 _ _ v2 (heap_setCell_same _ b 1 _ _ v1 (heap_setCell_same w b 0 _ _ v0 h)))
abbrev wH (w:World) (b:Nat) (v0 v1 v2 v3 v4 v5 v6 v7:Value):World:=(((((((w.setCell ⟨b,0,none⟩ v0).setCell ⟨b,1,none⟩ v1).setCell ⟨b,2,none⟩ v2).setCell ⟨b,3,none⟩ v3).setCell ⟨b,4,none⟩ v4).setCell ⟨b,5,none⟩ v5).setCell ⟨b,6,none⟩ v6).setCell ⟨b,7,none⟩ v7
theorem aY (w:World) (b:Nat) (v0 v1 v2 v3 v4 v5 v6 v7:Value):Turn (fun k=>k=b) w (wH w b v0 v1 v2 v3 v4 v5 v6 v7):=
 ((((dR w b v0 v1 v2 v3).trans (ay _ b 4 v4) (fun _ _ h=>h)).trans (ay _ b 5 v5) (fun _ _ h=>h)).trans (ay _ b 6 v6) (fun _ _ h=>h)).trans (ay _ b 7 v7) (fun _ _ h=>h)
theorem aT {w:World} {b:Nat} {a0 a1 a2 a3 a4 a5 a6 a7:Value} {t:TypeId} (h:w.heap[b]? =some (.cells #[a0,a1,a2,a3,a4,a5,a6,a7] t (0,0))) (v0 v1 v2 v3 v4 v5 v6 v7:Value):(wH w b v0 v1 v2 v3 v4 v5 v6 v7).heap[b]? =some (.cells #[v0,v1,v2,v3,v4,v5,v6,v7] t (0,0)):=by
 have h0:(w.setCell ⟨b,0,none⟩ v0).heap[b]? =some (.cells #[v0,a1,a2,a3,a4,a5,a6,a7] t (0,0)):=heap_setCell_same _ b 0 _ _ v0 h;have h1:((w.setCell ⟨b,0,none⟩ v0).setCell ⟨b,1,none⟩ v1).heap[b]? =some (.cells #[v0,v1,a2,a3,a4,a5,a6,a7] t (0,0)):=heap_setCell_same _ b 1 _ _ v1 h0;have h2:(((w.setCell ⟨b,0,none⟩ v0).setCell ⟨b,1,none⟩ v1).setCell ⟨b,2,none⟩ v2).heap[b]? =some (.cells #[v0,v1,v2,a3,a4,a5,a6,a7] t (0,0)):=heap_setCell_same _ b 2 _ _ v2 h1;have h3:((((w.setCell ⟨b,0,none⟩ v0).setCell ⟨b,1,none⟩ v1).setCell ⟨b,2,none⟩ v2).setCell ⟨b,3,none⟩ v3).heap[b]? =some (.cells #[v0,v1,v2,v3,a4,a5,a6,a7] t (0,0)):=heap_setCell_same _ b 3 _ _ v3 h2;have h4:(((((w.setCell ⟨b,0,none⟩ v0).setCell ⟨b,1,none⟩ v1).setCell ⟨b,2,none⟩ v2).setCell ⟨b,3,none⟩ v3).setCell ⟨b,4,none⟩ v4).heap[b]? =some (.cells #[v0,v1,v2,v3,v4,a5,a6,a7] t (0,0)):=heap_setCell_same _ b 4 _ _ v4 h3;have h5:((((((w.setCell ⟨b,0,none⟩ v0).setCell ⟨b,1,none⟩ v1).setCell ⟨b,2,none⟩ v2).setCell ⟨b,3,none⟩ v3).setCell ⟨b,4,none⟩ v4).setCell ⟨b,5,none⟩ v5).heap[b]? =some (.cells #[v0,v1,v2,v3,v4,v5,a6,a7] t (0,0)):=heap_setCell_same _ b 5 _ _ v5 h4;have h6:(((((((w.setCell ⟨b,0,none⟩ v0).setCell ⟨b,1,none⟩ v1).setCell ⟨b,2,none⟩ v2).setCell ⟨b,3,none⟩ v3).setCell ⟨b,4,none⟩ v4).setCell ⟨b,5,none⟩ v5).setCell ⟨b,6,none⟩ v6).heap[b]? =some (.cells #[v0,v1,v2,v3,v4,v5,v6,a7] t (0,0)):=heap_setCell_same _ b 6 _ _ v6 h5;have h7:((((((((w.setCell ⟨b,0,none⟩ v0).setCell ⟨b,1,none⟩ v1).setCell ⟨b,2,none⟩ v2).setCell ⟨b,3,none⟩ v3).setCell ⟨b,4,none⟩ v4).setCell ⟨b,5,none⟩ v5).setCell ⟨b,6,none⟩ v6).setCell ⟨b,7,none⟩ v7).heap[b]? =some (.cells #[v0,v1,v2,v3,v4,v5,v6,v7] t (0,0)):=heap_setCell_same _ b 7 _ _ v7 h6;exact h7
abbrev Iv (a b:Nat):Nat→Prop:=fun j=>a≤j∧j<b
theorem lW.iv {w:World} {a:Nat} {z:List Value} {t:cZ} (h:lW w (fun j=>a≤j) z t):lW w (Iv a w.heap.size) z t:=h.mono fun _ hg h=>⟨h,hg⟩
theorem qy.iv {w:World} {a:Nat} {z:List Value} {t:bT} (h:qy w (fun j=>a≤j) z t):qy w (Iv a w.heap.size) z t:=h.mono fun _ hg h=>⟨h,hg⟩
theorem dB.mk2 {bp:Nat} {a c:World} (t:Turn (fun k=>k=bp) a c) (h:rE c bp):dB bp a c:=⟨t,h⟩
theorem dB.more {bp:Nat} {a b c:World} {G:Nat→Prop} (t:Turn (fun k=>k=bp) a b) (k:Turn G b c) (hG:∀i,i<a.heap.size→G i→i=bp) (h:rE c bp):dB bp a c:=⟨t.trans k hG,h⟩
theorem lW.shape' {w:World} {F:Nat→Prop} {z:List Value} {t:cZ} (h:lW w F z t):∃k s A1 n1 c1 A2 n2 c2,z=[.int .i64 k,sv s, .slice A1 n1 c1, .slice A2 n2 c2]:=by
 cases h with
 | mk h1 h2 h3=>
  obtain⟨A1,n1,c1,rfl, _⟩:=h1;obtain⟨A2,n2,c2,rfl, _⟩:=h2;exact⟨_, _, _, _, _, _, _, _,rfl⟩
theorem qy.shape' {w:World} {F:Nat→Prop} {z:List Value} {t:bT} (h:qy w F z t):∃k s a b c A1 n1 c1 A2 n2 c2 A3 n3 c3,z=[.int .i64 k,sv s, .int .i64 a, .int .i64 b, .int .i64 c, .slice A1 n1 c1, .slice A2 n2 c2, .slice A3 n3 c3]:=by
 cases h with
 | mk h1 h2 h3 h4 h5=>
  obtain⟨A1,n1,c1,rfl, _⟩:=h1;obtain⟨A2,n2,c2,rfl, _⟩:=h3;obtain⟨A3,n3,c3,rfl, _⟩:=h4;exact⟨_, _, _, _, _, _, _, _, _, _, _, _, _, _,rfl⟩
theorem nC (w:World) (F:Nat→Prop) (k:Int) (s:Bt):lW w F [.int .i64 k,sv s, .slice none 0 0, .slice none 0 0] (.mk k s [] []):= .mk (dx.nil _ _ _) (dx.nil _ _ _) .nil
def j5 (w:World) (g o:Nat):List Value→World
 | []=>w
 | v :: l=>j5 (w.setCell ⟨g,o,none⟩ v) g (o+1) l
def M6 (xs:List Value) (o:Nat):List Value→List Value
 | []=>xs
 | v :: l=>M6 (xs.set o v) (o+1) l
theorem dW (g:Nat):∀(l:List Value) (w:World) (o:Nat),Turn (fun k=>k=g) w (j5 w g o l)
 | [],w, _=>Turn.refl _ _
 | v :: l,w,o=>(ay w g o v).trans (dW g l _ _) (fun _ _ h=>h)
theorem CG {base g:Nat} {e:TypeId} {k:Nat} {v:Value} {n:Nat} (hg:v.ownBlock=some g):∀(l:List Value) (w:World) (o:Nat) (xs:List Value),w.ownsRow base e k v n xs→(j5 w g o l).ownsRow base e k v n (M6 xs o l)
 | [],w, _,xs,h=>h
 | u :: l,w,o,xs,h=>CG hg l _ _ _ (Gf h hg)
theorem CJ:∀(l olds ys:List Value) (o:Nat),ys.length=o→olds.length=l.length→M6 (ys++olds) o l=ys++l
 | [],[],ys, _, _, _=>rfl
 | v :: l,a :: olds,ys,o,h,h2=>by
  show M6 ((ys++a :: olds).set o v) (o+1) l= _;have e:(ys++a :: olds).set o v=(ys++[v])++olds:=by
   rw [List.set_append_right _ _ (by omega),h,Nat.sub_self];simp
  rw [e,CJ l olds (ys++[v]) (o+1) (by simp [h]) (by simpa using h2)];simp
 | [], _ :: _, _, _, _,h2=>by cases h2
 | _ :: _,[], _, _, _,h2=>by cases h2
theorem wZ {w:World} {base g:Nat} {e:TypeId} {k:Nat} {v:Value} {n:Nat} {ys olds z:List Value} (h:w.ownsRow base e k v n (ys++olds)) (hg:v.ownBlock=some g) (hz:olds.length=z.length) {o:Nat} (ho:ys.length=o):(j5 w g o z).ownsRow base e k v n (ys++z):=by
 have:=CG hg z w o _ h;rwa [CJ z olds ys o ho hz]at this
theorem lG (w0:World) (bp B:Nat) (ts:List aF) (d:Int) (h:bB w0 bp B ts d) (l:List Bt) (cs:Array Value) (t:TypeId) (n a:Nat) (hcs:cs.toList=mZ l:=by rfl) (hn:n=l.length:=by rfl) (ha:a=w0.heap.size:=by simp) (hm:n≤100000:=by decide):
  Calls Tryz.prog 90 #[.pointer (some ⟨bp,0,none⟩), .slice (some ⟨a,0,none⟩) n n] (w0.alloc (.cells cs t)) (aD Od bp B d w0 (bR l ts)):=by
 refine(tq _ bp B ts d (h.below (new1 _ _)) _ l (Bn w0 a ha l cs t n hcs hn hm) (by omega)).mono ?_;intro e w' h2;rcases hq:bR l ts with g | ⟨o,r⟩
 ·exact(fJ hq).elim
 ·rw [hq]at h2;obtain⟨v,rfl,t2,hP,hR⟩:=h2.aL rfl;exact aD.done rfl (bf t2).1 hP hR
theorem Py (s:Bt) (ts:List aF):je [s] ts=aI s ts:=by
 show ak (aI s) (fun _=>aG ()) ts= _;unfold ak;cases aI s ts <;> rfl
theorem dH (w0:World) (bp B:Nat) (ts:List aF) (d:Int) (h:bB w0 bp B ts d) (s:Bt) (t:TypeId) (a:Nat) (ha:a=w0.heap.size:=by simp):
  Calls Tryz.prog 129 #[.pointer (some ⟨bp,0,none⟩), .slice (some ⟨a,0,none⟩) 1 1] (w0.alloc (.cells #[sv s] t)) (aD PUnit bp B d w0 (aI s ts)):=by
 refine(CF _ bp B ts d (h.below (new1 _ _)) _ [s] (Bn w0 a ha [s] #[sv s] t 1 rfl rfl (by decide)) (by simp)).mono ?_;intro e w' h2;rw [Py]at h2;rcases hq:aI s ts with g | ⟨o,r⟩
 ·rw [hq]at h2;obtain⟨rfl,b2,b3⟩:=h2.bD rfl;exact aD.fail rfl ⟨(bf b2).1,b3⟩
 ·rw [hq]at h2;obtain⟨v,rfl,t2,hP,hR⟩:=h2.aL rfl;exact aD.done rfl (bf t2).1 hP hR
theorem eu {w:World} {base:Nat} {e:TypeId} {k:Nat} {v:Value} {n:Nat} {xs:List Value} (h:w.ownsRow base e k v n xs):∃A c,v= .slice A n c∧n≤c∧c≤maxLen:=by
 rcases h.2 with⟨rfl,rfl⟩ | ⟨g,cap,cur,rfl, _, _,h1,h2, _⟩
 ·exact⟨_, _,rfl,Nat.le_refl _,Nat.zero_le _⟩
 ·exact⟨_, _,rfl,h1,h2⟩
theorem xq:∀u∈[Value.int .i64 0, .string ⟨#[]⟩, .slice none 0 0, .slice none 0 0],u.oneCell'=true:=by
 intro u hu;simp only [List.mem_cons,List.not_mem_nil,or_false]at hu;rcases hu with rfl | rfl | rfl | rfl <;> rfl
theorem xw:∀u∈[Value.int .i64 0, .string ⟨#[]⟩, .int .i64 0, .int .i64 0, .int .i64 0, .slice none 0 0, .slice none 0 0, .slice none 0 0],u.oneCell'=true:=by
 intro u hu;simp only [List.mem_cons,List.not_mem_nil,or_false]at hu;rcases hu with rfl | rfl | rfl | rfl | rfl | rfl | rfl | rfl <;> rfl
theorem Gl (k:Int) (s:Bt) (A1 A2:Option Addr) (n1 c1 n2 c2:Nat):∀u∈ #[Value.int .i64 k,sv s, .slice A1 n1 c1, .slice A2 n2 c2].toList,u.oneCell'=true:=by
 intro u hu;simp only [List.mem_cons,List.not_mem_nil,or_false]at hu;rcases hu with rfl | rfl | rfl | rfl <;> rfl
def eB {α:Type} (P:World→Value→α→Prop) (G:Nat→Prop) (bp B:Nat) (d:Int) (w:World) (q:Pr α) (e:Ending) (w':World):Prop:=
 match q with
  | .good x r=>∃v,e= .returned v∧Turn G w w'∧P w' v x∧bB w' bp B r d
  | .bad g=>e=yA g∧Turn G w w'∧rE w' bp
section
variable {α:Type} {P:World→Value→α→Prop} {G:Nat→Prop} {bp B:Nat} {d:Int} {w w':World} {q:Pr α} {e:Ending}
theorem eB.bD {g:zx} (h:eB P G bp B d w q e w') (hq:q= .bad g):e=yA g∧Turn G w w'∧rE w' bp:=by
 subst hq;exact h
theorem eB.aL {x:α} {r:List aF} (h:eB P G bp B d w q e w') (hq:q= .good x r):∃v,e= .returned v∧Turn G w w'∧P w' v x∧bB w' bp B r d:=by
 subst hq;exact h
theorem eB.fail {g:zx} (hq:q= .bad g) (t:Turn G w w') (hb:rE w' bp):eB P G bp B d w q (yA g) w':=by
 subst hq;exact⟨rfl,t,hb⟩
theorem eB.done {x:α} {r:List aF} {v:Value} (hq:q= .good x r) (t:Turn G w w') (hP:P w' v x) (hR:bB w' bp B r d):eB P G bp B d w q (.returned v) w':=by
 subst hq;exact⟨v,rfl,t,hP,hR⟩
end
theorem yC:iF Tryz.prog 46 63 (.agg #[.int .i64 0, .string ⟨#[]⟩, .slice none 0 0, .slice none 0 0]) 4 72:=⟨Tryz.underlying46,by kernel_rfl,rfl,by omega⟩
theorem CK:iF Tryz.prog 47 49 (.agg #[.int .i64 0, .string ⟨#[]⟩, .int .i64 0, .int .i64 0, .int .i64 0, .slice none 0 0, .slice none 0 0, .slice none 0 0]) 8 120:=⟨Tryz.underlying47,by kernel_rfl,rfl,by omega⟩
structure jo where
 name:Bt
 text:Bt
structure kT where
 module:Int
 line:Int
 col:Int
 e:Int
structure jN where
 name:Bt
 module:Nat
 decl:Nat
structure SK where
 names:List Bt
 mods:List eH
 scopes:List (List jN)
 main:jN
def iI:eH:=⟨[],[]⟩
def aO (s:Bt):eH:=(cK bC s).1.getD iI
def mV (s:Bt):zx:=(cK bC s).2
def iQ (i:Nat) (had:List Bt) (s:jo):List kT:=
 if sI s.name=false then [⟨i,1,1,10⟩]
 else if s.name∈had then [⟨i,1,1,8⟩]
 else if(mV s.text).2.2≠0 then [⟨i,(mV s.text).1,(mV s.text).2.1,(mV s.text).2.2⟩]else []
def iq:Nat→List Bt→List jo→List kT
 | _, _,[]=>[]
 | i,had,s :: l=>iQ i had s++iq (i+1) (had++[s.name]) l
def gT (l:List jo):List kT:=if 16<l.length then [⟨16,1,1,19⟩]else iq 0 [] l
def lH (s:Bt) (l:List jN):Bool:=l.any fun e=>e.name==s
def kL (m:eH) (s:Bt):Option Nat:=m.decls.findIdx? fun d=>d.name==s
abbrev wI:=List jN ×List kT
def name1 (mods:List eH) (i from_:Nat) (x:kG) (st:wI) (n:Bt):wI:=
 match kL (mods.getD from_ iI) n with
 | none=>(st.1,st.2++[⟨i,x.line,x.col,12⟩])
 | some k=>
  if((mods.getD from_ iI).decls[k]?.map (·.exp)).getD false=false then(st.1,st.2++[⟨i,x.line,x.col,12⟩])
  else if lH n st.1 then(st.1,st.2++[⟨i,x.line,x.col,8⟩])
  else(st.1++[⟨n,from_,k⟩],st.2)
def fP (names:List Bt) (mods:List eH) (i:Nat) (st:wI) (x:kG):wI:=
 match names.findIdx? (· ==x.from_)with
 | none=>(st.1,st.2++[⟨i,x.line,x.col,11⟩])
 | some from_=>x.names.foldl (name1 mods i from_ x) st
def decl1 (i:Nat) (st:wI) (k:Nat) (d:jJ):wI:=
 if lH d.name st.1 then(st.1,st.2++[⟨i,d.line,d.col,8⟩])else(st.1++[⟨d.name,i,k⟩],st.2)
def jC (i:Nat):Nat→wI→List jJ→wI
 | _,st,[]=>st
 | k,st,d :: l=>jC i (k+1) (decl1 i st k d) l
def yD (names:List Bt) (mods:List eH) (i:Nat) (m:eH) (bad:List kT):wI:=jC i 0 (m.imps.foldl (fP names mods i) ([],bad)) m.decls
def dz (names:List Bt) (mods:List eH):Nat→List kT→List eH→List (List jN) ×List kT
 | _,bad,[]=>([],bad)
 | i,bad,m :: l=>((yD names mods i m bad).1 :: (dz names mods (i+1) (yD names mods i m bad).2 l).1,(dz names mods (i+1) (yD names mods i m bad).2 l).2)
def pO (names:List Bt) (mods:List eH) (i:Nat):List Nat:=(mods.getD i iI).imps.map fun x=>(names.findIdx? (· ==x.from_)).getD 0
inductive oJ (names:List Bt) (mods:List eH):Nat→Nat→Prop
 | refl (i:Nat):oJ names mods i i
 | step {i j k:Nat}:oJ names mods i j→k∈pO names mods j→oJ names mods i k
open Classical in
noncomputable def iR (names:List Bt) (mods:List eH) (i:Nat) (x:kG):List kT:=
 if oJ names mods ((names.findIdx? (· ==x.from_)).getD 0) i then [⟨i,x.line,x.col,13⟩]else []
noncomputable def fC (names:List Bt) (mods:List eH):Nat→List eH→List kT
 | _,[]=>[]
 | i,m :: l=>m.imps.flatMap (iR names mods i)++fC names mods (i+1) l
def iw:Bt:=[109,97,105,110]
def Km:jN:=⟨[],0,0⟩
def iV (names:List Bt) (mods:List eH):jN ×List kT:=
 match names.findIdx? (· ==iw)with
 | none=>(Km,[⟨0,1,1,14⟩])
 | some i=>match kL (mods.getD i iI) iw with
  | none=>(Km,[⟨i,1,1,14⟩])
  | some k=>(⟨iw,i,k⟩,match(mods.getD i iI).decls[k]? with
   | some d=>if d.vars.isEmpty then []else [⟨i,d.line,d.col,14⟩]
   | none=>[])
def uV:SK:=⟨[],[],[],Km⟩
open Classical in
noncomputable def eP (l:List jo):SK ×List kT:=
 let names:=l.map (·.name)
 let mods:=l.map fun s=>aO s.text
 if gT l≠[]then(uV,gT l)
 else if(dz names mods 0 [] mods).2≠[]then(uV,(dz names mods 0 [] mods).2)
 else if fC names mods 0 mods≠[]then(uV,fC names mods 0 mods)
 else if(iV names mods).2≠[]then(uV,(iV names mods).2)
 else(⟨names,mods,(dz names mods 0 [] mods).1,(iV names mods).1⟩,[])
def RS (s:jo):List Value:=[sv s.name,sv s.text]
def VE (d:kT):List Value:=[.int .i64 d.module, .int .i64 d.line, .int .i64 d.col, .int .i64 d.e]
def WA (e:jN):List Value:=[sv e.name, .int .i64 e.module, .int .i64 e.decl]
def nX (l:List jo):List Value:=l.flatMap RS
def CO (l:List kT):List Value:=l.flatMap VE
def zI (l:List jN):List Value:=l.flatMap WA
theorem gy {α:Type} {f:α→List Value} {k:Nat} (hf:∀x,(f x).length=k):∀l:List α,(l.flatMap f).length=l.length*k
 | []=>by simp
 | x :: l=>by rw [List.flatMap_cons,List.length_append,hf x,gy hf l,List.length_cons,Nat.add_mul,Nat.one_mul,Nat.add_comm]
theorem nY {α:Type} {f:α→List Value} {k:Nat} (hf:∀x,(f x).length=k):∀(l:List α) (i:Nat) (hi:i<l.length) (j:Nat),j<k→(l.flatMap f)[i*k+j]? =(f l[i])[j]?
 | [],i,hi,j,hj=>by simp at hi
 | x :: l,0,hi,j,hj=>by
  rw [List.flatMap_cons,Nat.zero_mul,Nat.zero_add,List.getElem?_append_left (by rw [hf];exact hj)];rfl
 | x :: l,i+1,hi,j,hj=>by
  rw [List.flatMap_cons,List.getElem?_append_right (by rw [hf,Nat.add_mul];omega),hf,show(i+1)*k+j - k=i*k+j by rw [Nat.add_mul];omega];exact nY hf l i (by simpa using hi) j hj
theorem jS (s:jo):(RS s).length=2:=rfl
theorem xA (s:kT):(VE s).length=4:=rfl
theorem tC (s:jN):(WA s).length=3:=rfl
theorem IB (l:List kT) (d:kT):CO (l++[d])=CO l++VE d:=by unfold CO;simp
theorem IC (l:List jN) (d:jN):zI (l++[d])=zI l++WA d:=by unfold zI;simp
theorem SL:iF Tryz.prog 32 55 (.agg #[.int .i64 0, .int .i64 0, .int .i64 0, .int .i64 0]) 4 32:=⟨Tryz.underlying32,by kernel_rfl,rfl,by omega⟩
theorem SN:iF Tryz.prog 42 29 (.agg #[.string ⟨#[]⟩, .int .i64 0, .int .i64 0]) 3 32:=⟨Tryz.underlying42,by kernel_rfl,rfl,by omega⟩
theorem Kn:iF Tryz.prog 26 40 (.agg #[.slice none 0 0, .slice none 0 0]) 2 48:=⟨Tryz.underlying26,by kernel_rfl,rfl,by omega⟩
theorem SQ:iF Tryz.prog 27 42 (.slice none 0 0) 1 24:=⟨Tryz.underlying27,by kernel_rfl,rfl,by omega⟩
theorem Pz (a b c d:Int):∀u∈ #[Value.int .i64 a, .int .i64 b, .int .i64 c, .int .i64 d].toList,u.oneCell'=true:=by
 intro u hu;simp only [List.mem_cons,List.not_mem_nil,or_false]at hu;rcases hu with rfl | rfl | rfl | rfl <;> rfl
theorem PE (s:Bt) (b c:Int):∀u∈ #[sv s,Value.int .i64 b, .int .i64 c].toList,u.oneCell'=true:=by
 intro u hu;simp only [List.mem_cons,List.not_mem_nil,or_false]at hu;rcases hu with rfl | rfl | rfl <;> rfl
def Moved (w:World) (v v':Value):Prop:=v'.ownBlock=v.ownBlock∨∃n,w.heap.size≤n∧v'.ownBlock=some n
theorem Moved.trans {w w1:World} {a b c:Value} (h:Moved w a b) (k:Moved w1 b c) (hs:w.heap.size≤w1.heap.size):Moved w a c:=by
 rcases k with k | ⟨n,hn,k⟩
 ·rcases h with h | ⟨m,hm,h⟩
  ·exact .inl (k.trans h)
  ·exact .inr ⟨m,hm,k.trans h⟩
 ·exact .inr ⟨n,by omega,k⟩
theorem Moved.refl (w:World) (v:Value):Moved w v v:= .inl rfl
def mJ (w:World) (base:Nat) (v:Value) (l:List kT):Prop:=w.ownsRow base 55 4 v l.length (CO l)
theorem mJ.turn {w w':World} {base:Nat} {v:Value} {l:List kT} {G:Nat→Prop} (h:mJ w base v l) (t:Turn G w w') (hd:∀g,v.ownBlock=some g→¬G g):mJ w' base v l:=bK h t hd
theorem mJ.lt {w:World} {base:Nat} {v:Value} {l:List kT} (h:mJ w base v l):∀g,v.ownBlock=some g→base≤g∧g<w.heap.size:=World.ownsRow.lt h
def M7 (lb base:Nat) (a0 a1 a2 a3 a4 a5 a6 vB:Value) (bad:List kT) (w w':World):Prop:=
 ∃uW,w'.heap[lb]? =some (.cells #[a0,a1,a2,a3,a4,a5,a6,uW] 79 (0,0))∧mJ w' base uW bad∧Moved w vB uW∧Turn (fun k=>k=lb∨vB.ownBlock=some k) w w'
theorem uX (w:World) (lb base:Nat) (a0 a1 a2 a3 a4 a5 a6 vB:Value) (bad:List kT) (d:kT) (hblk:w.heap[lb]? =some (.cells #[a0,a1,a2,a3,a4,a5,a6,vB] 79 (0,0))) (hrow:mJ w base vB bad)
  (hlen:bad.length≤1000000000000) (hlb:lb<base) (hbase:base≤w.heap.size):
  Calls Tryz.prog 62 #[.pointer (some ⟨lb,0,none⟩), .int .i64 d.module, .int .i64 d.line, .int .i64 d.col, .int .i64 d.e] w fun e w'=>e= .returned (.tuple #[])∧M7 lb base a0 a1 a2 a3 a4 a5 a6 vB (bad++[d]) w w':=by
 obtain⟨m,l,c,e⟩:=d;have hrl:=hrow.1;rw [show CO bad=bad.flatMap VE from rfl,gy xA]at hrl;obtain⟨A0,c0,rfl, _, _⟩:=eu hrow;obtain⟨p0,p1,p2,p3,p4,p5,p6,p7,pz⟩:=aH hblk;have hll:=block_lt hblk;have dP:=hid (World.ownsRow.alloc hrow (.cells #[.int .i64 m, .int .i64 l, .int .i64 c, .int .i64 e] 55));have uY:=hid hrow.lt;have rG:=hid hblk;have HSL:=hid (fT w #[.int .i64 m, .int .i64 l, .int .i64 c, .int .i64 e] 55 4 1 rfl (by decide));have hdl:(CO bad).length=bad.length*4:=gy xA bad;clear hblk hrow p0 p1 p2 p3 p4 p5 p6;go_enter Tryz.func62,Tryz.ntmps62;go_wp2_with (at_builtin;go_must (refine iG rfl (.tmp 14) (.tmp 20) _ rfl base SL _ _ rfl rfl dP.out HSL.out (Pz m l c e) (by simp [maxLen];omega) (by simp;omega) (by simp;omega) (fun v9 w9 n9 fF rZ jH=> ?_));obtain⟨A9,c9,rfl, _, _⟩:=eu fF;have oG:=hid fF;have JC:=hid rZ;have yE:=hid jH;have wJ:=ah rG.out ((Turn.alloc (fun j=>(Value.slice A0 bad.length c0).ownBlock=some j) _ (.cells #[.int .i64 m, .int .i64 l, .int .i64 c, .int .i64 e] 55)).trans (Turn.aP rZ (F:=fun j=>(Value.slice A0 bad.length c0).ownBlock=some j) (fun _ h=>h)) (fun _ _ h=>h)) (fun e=>by have:=(uY.out _ e).1;omega);have SS:=(aH wJ).2.2.2.2.2.2.2.1;have RU:=bI wJ 7;have WB:=hid wJ;clear fF rZ jH wJ);go_end0;have hn:n9=(bad++[(⟨m,l,c,e⟩:kT)]).length:=by
  have:=oG.out.1;rw [List.length_append,hdl]at this;simp at this;rw [List.length_append,List.length_singleton];omega
 subst hn;have tl:=ay w9 lb 7 (.slice A9 (bad++[(⟨m,l,c,e⟩:kT)]).length c9);have tg:Turn (fun j=>(Value.slice A0 bad.length c0).ownBlock=some j) w w9:=(Turn.alloc (fun j=>(Value.slice A0 bad.length c0).ownBlock=some j) _ _).trans (Turn.aP JC.out (F:=fun j=>(Value.slice A0 bad.length c0).ownBlock=some j) (fun _ h=>h)) (fun _ _ h=>h);refine⟨rfl, _,heap_setCell_same _ _ 7 _ _ _ WB.out, ?_, ?_,(tg.mono (G:=fun k=>k=lb∨(Value.slice A0 bad.length c0).ownBlock=some k) (fun _ _ h=> .inr h)).trans tl (fun _ _ h=> .inl h)⟩
 ·have h9:=oG.out;refine bK (G:=fun k=>k=lb) ?_ tl (fun g hg e=>by have:=(h9.lt g hg).1;omega);rw [IB];exact h9
 ·rcases yE.out with h | h
  ·exact .inl h
  ·exact .inr ⟨_,by simp,h⟩
section
open Go.Maps (has IsMap Keyed)
def MapAt (K E:TypeId) (w:World) (b N:Nat) (get:Lit→Option (DataW Unit)):Prop:=∃(n:Nat) (D:DataW Unit),n≤N∧w.ownsMap Tryz.prog K (plainElem Tryz.prog E) b n D∧∀kl z,D.atKey kl z=(get kl).getD z
section
variable {K E:TypeId} {w w':World} {b N:Nat} {get:Lit→Option (DataW Unit)}
theorem MapAt.turn {G:Nat→Prop} (h:MapAt K E w b N get) (t:Turn G w w') (hd:¬G b):MapAt K E w' b N get:=by
 obtain⟨n,D,h0,h1,h2⟩:=h;exact⟨n,D,h0,Ca h1 t hd,h2⟩
theorem MapAt.lt (h:MapAt K E w b N get):b<w.heap.size:=by
 obtain⟨n,D,h0,h1,h2⟩:=h;exact h1.lt
theorem MapAt.made (w:World) (K E:TypeId):MapAt K E (w.alloc (.map #[] 0)) w.heap.size 0 (fun _=>none):=⟨0, .map [],Nat.le_refl _,World.ownsMap_made w _ _ _,fun _ _=>rfl⟩
theorem MapAt.more {N':Nat} (h:MapAt K E w b N get) (hN:N≤N'):MapAt K E w b N' get:=by
 obtain⟨n,D,h0,h1,h2⟩:=h;exact⟨n,D,by omega,h1,h2⟩
open Classical in
theorem MapAt.put {t:TypeId} (h:MapAt K E w b N get) (L:Keyed Tryz.prog K) (ht:Tryz.prog.underlying t=some (.map K E)) (hN:N<maxLen) {key val:Value} {kl:Lit} {d:DataW Unit} {ps:List MemPlace} (hkey:keyOf Tryz.prog K key=some kl) (hv:plainElem Tryz.prog E val=some (d,ps)):
  ∃w',(Instr.mapUpdate t (.map (some b)) key val).run Tryz.prog w= .ok () w'∧MapAt K E w' b (N+1) (fun k=>if k=kl then some d else get k)∧Turn (fun j=>j=b) w w':=by
 obtain⟨n,D,h0,h1,h2⟩:=h;obtain⟨w',hrun,r1,r2⟩:=h1.update L ht (Nat.lt_of_le_of_lt h0 hN) hkey hv;refine⟨w',hrun,⟨n+1, _,by omega,r1,fun k z=> ?_⟩,Turn.aP r2 (fun k e=>(Option.some.inj e).symm)⟩;by_cases hk:k=kl
 ·subst hk;rw [Maps.atKey_put_same h1.isMap (L.key hkey)];show d=(if k=k then some d else get k).getD z;rw [if_pos rfl];rfl
 ·rw [Maps.atKey_put_other hk,h2];show _=(if k=kl then some d else get k).getD z;rw [if_neg hk]
theorem MapAt.look_ok {t:TypeId} (h:MapAt K E w b N get) (L:Keyed Tryz.prog K) (ht:Tryz.prog.underlying t=some (.map K E)) {z:Value} (hz:(zeroValue E).run Tryz.prog w= .ok z w) {zd:DataW Unit} {zp:List MemPlace} (hzd:plainElem Tryz.prog E z=some (zd,zp))
  {key:Value} {kl:Lit} (hkey:keyOf Tryz.prog K key=some kl):∃v ps,(Instr.lookup t (.map (some b)) key true).run Tryz.prog w= .ok (.tuple #[v, .bool (get kl).isSome]) w∧plainElem Tryz.prog E v=some ((get kl).getD zd,ps):=by
 obtain⟨n,D,h0,h1,h2⟩:=h;obtain⟨v,ps,hrun,hv⟩:=h1.look_ok L ht hz hzd hkey;rw [h2]at hv;refine⟨v,ps, ?_,hv⟩;rw [hrun];have hh:Maps.has D kl=(get kl).isSome:=by
  cases hg:get kl with
  | none=>exact Maps.has_false_of_atKey fun z=>by rw [h2,hg];rfl
  | some d=>exact Maps.has_true_of_atKey (y:=d) fun z=>by rw [h2,hg];rfl
 rw [hh]
theorem MapAt.look {t:TypeId} (h:MapAt K E w b N get) (L:Keyed Tryz.prog K) (ht:Tryz.prog.underlying t=some (.map K E)) {z:Value} (hz:(zeroValue E).run Tryz.prog w= .ok z w) {zd:DataW Unit} {zp:List MemPlace} (hzd:plainElem Tryz.prog E z=some (zd,zp))
  {key:Value} {kl:Lit} (hkey:keyOf Tryz.prog K key=some kl):∃v ps,(Instr.lookup t (.map (some b)) key false).run Tryz.prog w= .ok v w∧plainElem Tryz.prog E v=some ((get kl).getD zd,ps):=by
 obtain⟨n,D,h0,h1,h2⟩:=h;obtain⟨v,ps,hrun,hv⟩:=h1.lookup L ht hz hzd hkey;rw [h2]at hv;exact⟨v,ps,hrun,hv⟩
end
theorem pQ:Keyed Tryz.prog 9:=Maps.string_keyed Tryz.underlying9
theorem Gm:Keyed Tryz.prog 3:=Maps.int_keyed Tryz.underlying3
theorem pR {x:Bt} (hx:x.length≤maxLen):keyOf Tryz.prog 9 (sv x)=some (.string x):=by
 have:=WideMaps.keyOf_string_mk (P:=Tryz.prog) Tryz.underlying9 (s:=⟨x.toArray⟩) (by simpa [ByteArray.size]using hx);simpa using this
theorem Gn {i:Int} (hi:In64 i):keyOf Tryz.prog 3 (.int .i64 i)=some (.int .i64 i):=Maps.keyOf_int_mk Tryz.underlying3 (F8 hi)
theorem CP (w:World):(zeroValue 3).run Tryz.prog w= .ok (.int .i64 0) w:=by kernel_rfl
open Classical in
noncomputable def yF (l:List Lit) (k:Lit):Option (DataW Unit):=if k∈l then some (.lit (.bool true))else none
def IE (names:List Bt) (k:Lit):Option (DataW Unit):=match k with
 | .string s=>(names.findIdx? (· ==s)).map fun i=> .lit (.int .i64 (i:Nat))
 | _=>none
def nD (w:World) (b:Nat) (l:List Bt):Prop:=MapAt 9 4 w b l.length (yF (l.map .string))
def pU (w:World) (b:Nat) (names:List Bt):Prop:=MapAt 9 3 w b names.length (IE names)
def jD (w:World) (b:Nat) (l:List Nat):Prop:=MapAt 3 4 w b l.length (yF (l.map fun i=> .int .i64 (i:Nat)))
open Classical in
theorem Af (l:List Lit) (k:Lit):(fun x=>if x=k then some (.lit (.bool true))else yF l x)=yF (l++[k]):=by
 funext x;unfold yF;by_cases hx:x=k
 ·subst hx;simp
 ·rw [if_neg hx];simp [hx]
theorem Ag {s:Bt} {l:List Bt}:Lit.string s∈l.map Lit.string↔s∈l:=by
 rw [List.mem_map];exact⟨fun⟨a,h,e⟩=>by injection e with e;subst e;exact h,fun h=>⟨s,h,rfl⟩⟩
theorem CQ {i:Nat} {l:List Nat}:Lit.int .i64 (i:Nat)∈l.map (fun i=>Lit.int .i64 ((i:Nat):Int))↔i∈l:=by
 rw [List.mem_map];exact⟨fun⟨a,h,e⟩=>by injection e with _ e;(have:a=i:=by omega);subst this;exact h,fun h=>⟨i,h,rfl⟩⟩
theorem CS {w:World} {b:Nat} {l:List Bt} (h:nD w b l) {s:Bt} (hs:s.length≤maxLen):(Instr.lookup 119 (.map (some b)) (sv s) false).run Tryz.prog w= .ok (.bool (decide (s∈l))) w:=by
 obtain⟨v,ps,hrun,hv⟩:=MapAt.look h pQ Tryz.underlying119 (uS w) (plainElem_bool Tryz.underlying4 false) (pR hs);rw [hrun];unfold yF at hv;by_cases hin:s∈l
 ·rw [if_pos (Ag.2 hin)]at hv;rw [ny hv,decide_eq_true hin]
 ·rw [if_neg (fun h=>hin (Ag.1 h))]at hv;rw [ny hv,decide_eq_false hin]
theorem uZ {w:World} {b:Nat} {l:List Nat} (h:jD w b l) {i:Nat} (hi:i≤1000000):(Instr.lookup 124 (.map (some b)) (.int .i64 i) false).run Tryz.prog w= .ok (.bool (decide (i∈l))) w:=by
 obtain⟨v,ps,hrun,hv⟩:=MapAt.look h Gm Tryz.underlying124 (uS w) (plainElem_bool Tryz.underlying4 false) (Gn (i:=(i:Int)) (by unfold In64;omega));rw [hrun];unfold yF at hv;by_cases hin:i∈l
 ·rw [if_pos (CQ.2 hin)]at hv;rw [ny hv,decide_eq_true hin]
 ·rw [if_neg (fun h=>hin (CQ.1 h))]at hv;rw [ny hv,decide_eq_false hin]
theorem Gp {v:Value} {i:Int} {ps:List MemPlace} (h:plainElem (H:=Unit) Tryz.prog 3 v=some (.lit (.int .i64 i),ps)):v= .int .i64 i:=by
 obtain⟨c,rfl,hc, _⟩:=plainElem_int_inv Tryz.underlying3 h;simp only [Prod.mk.injEq,DataW.lit.injEq,Lit.int.injEq,true_and]at hc;rw [hc.1]
def fM (names:List Bt) (s:Bt):Nat:=(names.findIdx? (· ==s)).getD 0
theorem CU {names:List Bt} {s:Bt} {v:Value} {ps:List MemPlace} (hv:plainElem (H:=Unit) Tryz.prog 3 v=some ((IE names (.string s)).getD (.lit (.int .i64 0)),ps)):v= .int .i64 (fM names s:Nat):=by
 unfold IE at hv;unfold fM;cases h:names.findIdx? (· ==s)with
 | none=>simp only [h]at hv;exact Gp hv
 | some i=>simp only [h]at hv;exact Gp hv
theorem rH {w:World} {b:Nat} {names:List Bt} (h:pU w b names) {s:Bt} (hs:s.length≤maxLen):(Instr.lookup 77 (.map (some b)) (sv s) true).run Tryz.prog w= .ok (.tuple #[.int .i64 (fM names s:Nat), .bool (names.findIdx? (· ==s)).isSome]) w:=by
 obtain⟨v,ps,hrun,hv⟩:=MapAt.look_ok h pQ Tryz.underlying77 (CP w) (plainElem_int Tryz.underlying3 (by decide)) (pR hs);rw [hrun,CU hv];unfold IE;simp only;cases names.findIdx? (· ==s) <;> rfl
theorem xB {w:World} {b:Nat} {names:List Bt} (h:pU w b names) {s:Bt} (hs:s.length≤maxLen):(Instr.lookup 77 (.map (some b)) (sv s) false).run Tryz.prog w= .ok (.int .i64 (fM names s:Nat)) w:=by
 obtain⟨v,ps,hrun,hv⟩:=MapAt.look h pQ Tryz.underlying77 (CP w) (plainElem_int Tryz.underlying3 (by decide)) (pR hs);rw [hrun,CU hv]
theorem M8 {w:World} {b:Nat} {l:List Bt} (h:nD w b l) {s:Bt} (hs:s.length≤maxLen) (hl:l.length<maxLen):∃w',(Instr.mapUpdate 119 (.map (some b)) (sv s) (.bool true)).run Tryz.prog w= .ok () w'∧nD w' b (l++[s])∧Turn (fun j=>j=b) w w':=by
 obtain⟨w',h1,h2,h3⟩:=MapAt.put h pQ Tryz.underlying119 hl (pR hs) (plainElem_bool Tryz.underlying4 true);refine⟨w',h1, ?_,h3⟩;rw [Af]at h2;unfold nD;rw [List.length_append,List.map_append];exact h2
theorem Ko {w:World} {b:Nat} {l:List Nat} (h:jD w b l) {i:Nat} (hi:i≤1000000) (hl:l.length<maxLen):∃w',(Instr.mapUpdate 124 (.map (some b)) (.int .i64 i) (.bool true)).run Tryz.prog w= .ok () w'∧jD w' b (l++[i])∧Turn (fun j=>j=b) w w':=by
 obtain⟨w',h1,h2,h3⟩:=MapAt.put h Gm Tryz.underlying124 hl (Gn (i:=(i:Int)) (by unfold In64;omega)) (plainElem_bool Tryz.underlying4 true);refine⟨w',h1, ?_,h3⟩;rw [Af]at h2;unfold jD;rw [List.length_append,List.map_append];exact h2
open Classical in
theorem EK {w:World} {b:Nat} {names:List Bt} (h:pU w b names) {s:Bt} (hs:s.length≤maxLen) (hl:names.length<1000000) (hn:names.findIdx? (· ==s)=none):∃w',(Instr.mapUpdate 77 (.map (some b)) (sv s) (.int .i64 names.length)).run Tryz.prog w= .ok () w'∧pU w' b (names++[s])∧Turn (fun j=>j=b) w w':=by
 obtain⟨w',h1,h2,h3⟩:=MapAt.put h pQ Tryz.underlying77 (by unfold maxLen;omega) (pR hs) (plainElem_int Tryz.underlying3 (a:=(names.length:Nat)) (F8 (by unfold In64;omega)));refine⟨w',h1, ?_,h3⟩;unfold pU;rw [List.length_append];have e:(fun k=>if k=Lit.string s then some (DataW.lit (.int .i64 names.length))else IE names k)=IE (names++[s]):=by
  funext k;by_cases hk:k= .string s
  ·subst hk;rw [if_pos rfl];unfold IE;simp only [List.findIdx?_append,hn];simp
  ·rw [if_neg hk];unfold IE;cases k <;> try rfl
   rename_i x
   have hx:(s==x)=false:=by rw [beq_eq_false_iff_ne];exact fun e=>hk (by rw [e])
   simp [List.findIdx?_append,List.findIdx?_cons,hx]
 rw [e]at h2;exact h2
theorem Gq {w:World} {b:Nat} {names:List Bt} (h:pU w b names) {s:Bt} {i:Nat} (hn:names.findIdx? (· ==s)=some i):pU w b (names++[s]):=by
 unfold pU at h ⊢;have e:IE (names++[s])=IE names:=by
  funext k;unfold IE;cases k <;> try rfl
  rename_i x
  simp only [List.findIdx?_append];cases hx:names.findIdx? (· ==x)with
  | some j=>rfl
  | none=>
   have hsx:(s==x)=false:=by
    rw [beq_eq_false_iff_ne];rintro rfl;rw [hn]at hx;cases hx
   simp [List.findIdx?_cons,hsx]
 rw [e];exact h.more (by simp)
end
end Go.Proofs.YtmbppnbekkbibaaGreatDoor
