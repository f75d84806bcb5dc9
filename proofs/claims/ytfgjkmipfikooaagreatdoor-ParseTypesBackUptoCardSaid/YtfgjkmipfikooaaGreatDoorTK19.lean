/- UI, UN, UN5, US, HK, YH, YK -/
import Derived.Test.YtfgjkmipfikooaaGreatDoorTKQ
import Derived.Test.YtfgjkmipfikooaaGreatDoorTK06
import Derived.Test.YtfgjkmipfikooaaGreatDoorTK18
import Derived.Deep.Cut
import Derived.Deep.CutBlock
import Derived.IntWalk
import Derived.Test.YtfgjkmipfikooaaGreatDoorTK15
import Derived.Test.YtfgjkmipfikooaaGreatDoorTK16
import Derived.Test.YtfgjkmipfikooaaGreatDoorTK17
import Derived.Test.YtfgjkmipfikooaaGreatDoorTK02
set_option linter.unusedSimpArgs false
set_option linter.unusedVariables false
set_option maxRecDepth 100000
set_option maxHeartbeats 8000000
namespace Go.Proofs.YtfgjkmipfikooaaGreatDoor
open Go.RowKit
def Vu (m:Nat):Prop:=∀(w:World) (z:List Value) (x:bR),rA w w.heap.size z x→NH x→je w→
 Calls Tryz.prog 56 #[.agg z.toArray, .int .i64 m] w fun e w'=>e= .returned (.bool (dD m x))∧Below w.heap.size w w'
theorem Gv (m:Nat) (k:Int) (text:Bt) (n li co:Int) (ts:List aZ) (ns:List Bt) (ks:List bR):dD (m+1) (.mk k text n li co ts ns ks)=
  (decide (0≤k∧k<20) && Bu k text n ts.length ns.length ks.length && ns.all bY && ts.all (aH 16) && ks.all (dD m)):=rfl
theorem JQ:Vu 0:=by
 intro w z x hr hok hX;have hw:dD 0 x=false:=rfl;rw [hw];obtain⟨k,s,n,l,o,A1,n1,c1,A2,n2,c2,A3,n3,c3,rfl⟩:=hr.shape;have HB:Hid (Below w.heap.size w (w.alloc (.cells #[.int .i64 k, .string s, .int .i64 n, .int .i64 l, .int .i64 o, .slice A1 n1 c1, .slice A2 n2 c2, .slice A3 n3 c3] 52))):=hid ((Below.refl _ _).alloc (Nat.le_refl _) _);clear hr hok hX hw;go_enter Tryz.func56,Tryz.ntmps56;go_wp2_with fail;go_ret;exact⟨rfl,HB.out⟩
def qj (k:Int) (names:Nat):Int:=if k<0 then names else k
theorem zo (k:Int) (text:Bt) (n:Int) (a b d:Nat):Bu k text n a b d=(decide (0≤n∧n≤(dH k).most) && nA k text (dH k).name && decide ((dH k).low≤a∧a≤(dH k).types) && (decide ((dH k).kids<0∨b=0) && decide ((d:Int)=qj (dH k).kids b))):=by
 unfold Bu qj;congr 1;by_cases h:(dH k).kids<0
 ·rw [if_pos h,if_pos h];by_cases h2:d=b
  ·subst h2;simp [h]
  ·have:¬(d:Int)=(b:Int):=by omega
   simp [h,h2,this]
 ·rw [if_neg h,if_neg h];by_cases h2:b=0
  ·subst h2;by_cases h3:(d:Int)=(dH k).kids
   ·simp [h3]
   ·simp [h3]
  ·simp [h,h2]
theorem ql {P:Program} {ops:Array Oper} {o:Oper} {a:Act} {w:World} {K:Act→World→Prop} {Q:Exit→Act→World→Prop} {E:Prop} (hgd:o.guard=none) (ty:TypeId) (x y:Operand) (ho:o.op= .store ty x y)
  (g:Nat) (cells:Array Value) (hx:a.eval x= .pointer (some ⟨g,0,none⟩)) (hy:a.eval y= .agg cells)
  (t:TypeId) (old:Array Value) (hg:w.heap[g]? =some (.cells old t (0,0))) (hi:(P.info? ty).map (·.size)=some cells.size)
  (hold:old.size=cells.size) (h1:cells.all (·.oneCell')=true) (h:K (a.put o.dst undef) (w.setRow g cells)):
  if Region.wanted o (yielded ops a.tmps)=true then Oper.wp P o a w K Q else E:=by
 have hw:Region.wanted o (yielded ops a.tmps)=true:=by simp [Region.wanted,hgd]
 rw [if_pos hw];exact wp_store_row ty x y ho g cells hx hy t old hg hi hold h1 h
theorem JR (m:Nat) (hm:m≤40) (ih:Vu m):Vu (m+1):=by
 intro w z x hr hok hX;obtain⟨k,text,n,li,co,ts,ns,ks⟩:=x;rw [NH]at hok;obtain⟨ok1,Ox,Mw,Qb,UU,SA,SB,Qf⟩:=hok;obtain⟨A1,c1,A2,c2,A3,c3,xt,xk,rfl,s1,r1,s2,s3,r3⟩:=hr.parts;have l1:=(cu s1).2;have l2:=(cu s2).2;have l3:=(cu s3).2;have Ip:=Gv m k text n li co ts ns ks;rw [zo]at Ip;obtain⟨res,hres⟩:∃res,dD (m+1) (.mk k text n li co ts ns ks)=res:=⟨_,rfl⟩
 rw [hres]at Ip ⊢;clear hres hr;obtain⟨W,hW⟩:∃W,w.alloc (.cells #[.int .i64 k,sv text, .int .i64 n, .int .i64 li, .int .i64 co, .slice A1 ts.length c1, .slice A2 ns.length c2, .slice A3 ks.length c3] 52)=W:=⟨_,rfl⟩
 have hb1:Below w.heap.size w W:=by rw [←hW];exact(Below.refl _ _).alloc (Nat.le_refl _) _
 have hbx:W.heap[w.heap.size]? =some (.cells #[.int .i64 k,sv text, .int .i64 n, .int .i64 li, .int .i64 co, .slice A1 ts.length c1, .slice A2 ns.length c2, .slice A3 ks.length c3] 52 (0,0)):=by rw [←hW];exact heap_alloc_new w _
 have HX:=hid (hX.below hb1);have Hl:=hid (And.intro (Sl.more (Sl.below s1 hb1) hb1.size) ((r1.keep hb1).more hb1.size));have HKK:=hid (And.intro (Sl.more (Sl.below s3 hb1) hb1.size) ((r3.keep hb1).more hb1.size));have hs2:=Sl.more (Sl.below s2 hb1) hb1.size;have NA:=hid (fun wr (h:Below W.heap.size W wr)=>y8 _ ns wr (Sl.more (Sl.below hs2 h) h.size) SB (HX.out.below h));have UW:=hid (fun wr (h:Below W.heap.size W wr) (b:Bool) (a1 a2 a3 a4:Int)=>MS wr k text n li co A1 ts.length c1 A2 ns.length c2 A3 ks.length c3 Ox (HX.out.below h) b a1 a2 a3 a4);have HOT:=hid SA;have G9:=hid (sN.1 Qf);have Mv:=hid ih;have HWR:=hid (qh 16 (by omega));have qB:=hid hbx;have HB1:=hid hb1;have Gw:=hid Ip;have zM:=hid hW;have En:=Mw;clear s1 r1 s2 s3 r3 ok1 Ox Mw Qb UU SA SB Qf hX ih hb1 hbx Ip hs2 hW;obtain⟨a,hA⟩:∃a,ts.length=a:=⟨_,rfl⟩
 obtain⟨b,hB⟩:∃b,ns.length=b:=⟨_,rfl⟩
 obtain⟨d,hD⟩:∃d,ks.length=d:=⟨_,rfl⟩
 rw [hA]at l1 Hl UW qB zM Gw ⊢;rw [hB]at l2 NA UW qB zM Gw ⊢;rw [hD]at l3 HKK UW qB zM Gw ⊢;have HA:=hid hA;have HD:=hid hD;clear hA hB hD;have hm0:(((m:Int)+1)==0)=false:=by rw [beq_eq_false_iff_ne];omega
 have hm1:(((m+1:Nat):Int)==0)=false:=by rw [beq_eq_false_iff_ne];omega
 generalize ns.all bY=q at*
 by_cases h0:k<0
 ·have g4:decide (k<0)=true:=by simpa using h0
  have HF:Hid (res=false):=hid (by rw [Gw.out,decide_eq_false (by omega:¬(0≤k∧k<20))];rfl);clear h0 En;go_enter Tryz.func56,Tryz.ntmps56;go_wp2_with fail;go_ret;refine⟨by rw [HF.out];rfl, ?_⟩;rw [zM.out];exact HB1.out
 have g4:decide (k<0)=false:=by simpa using h0
 by_cases h20:20≤k
 ·have g5:decide (20≤k)=true:=by simpa using h20
  have HF:Hid (res=false):=hid (by rw [Gw.out,decide_eq_false (by omega:¬(0≤k∧k<20))];rfl);clear h0 h20 En;go_enter Tryz.func56,Tryz.ntmps56;go_wp2_with fail;go_ret;refine⟨by rw [HF.out];rfl, ?_⟩;rw [zM.out];exact HB1.out
 have g5:decide (20≤k)=false:=by simpa using h20
 have Vv:Hid (res=(decide (0≤n∧n≤(dH k).most) && nA k text (dH k).name && decide ((dH k).low≤a∧a≤(dH k).types) && (decide ((dH k).kids<0∨b=0) && decide ((d:Int)=qj (dH k).kids b)) && q && ts.all (aH 16) && ks.all (dD m))):=hid (by rw [Gw.out,decide_eq_true (by omega:0≤k∧k<20),Bool.true_and]);have Pw:=hid (fun w1=>(JO w1).mono fun e w' (h: _∧ _)=>(⟨h.1.imp fun v hv=>⟨hv.1,hv.2 k (by omega) (by omega)⟩,h.2⟩:(∃v,e= .returned v∧∀u,(Instr.index 175 v (.int .i64 k)).run Tryz.prog u= .ok (MU (dH k)) u)∧Below w1.heap.size w1 w'));have Yf:=hid En;clear h0 h20 Gw En;go_enter Tryz.func56,Tryz.ntmps56
 go_upto_region 3 with(fail)
 have hW:=zM.out;rw [hW];clear hW hm0 hm1 g4 g5
 go_cut [5]from 10 (fun v5 wc=>∃b5,v5= .pointer (some ⟨b5,0,none⟩)∧W.heap.size≤b5∧wc.heap[b5]? =some (.cells #[.bool (dH k).name, .int .i64 ((dH k).low:Int), .int .i64 ((dH k).types:Int), .int .i64 (dH k).kids, .int .i64 (dH k).most] 174 (0,0))∧Below W.heap.size W wc)
 case first=>
  obtain⟨g0, _⟩:=jv qB.out;have G0:=hid g0;clear g0;have HB0:Hid (Below W.heap.size W W.drew):=hid (aN W 1);refine wp_region_held_drew (S:=fun w'=>Below W.heap.size W w') (by kernel_rfl) HB0.out (fun _=> ?_)
  try simp only [Act.put,sq]
  refine tk 1 (.pointer (some ⟨w.heap.size,0,none⟩)) HB0.out ?_;refine uK 2 (.int .i64 k) (Ct G0.out) HB0.out ?_;refine wpAnyH_ready (rs:=[0,4]) (by kernel_rfl) (by simp) ?_;refine AllReadyH.cons rfl (fun K hK=> ?_) (AllReadyH.cons rfl (fun K hK=> ?_) AllReadyH.nil)
  ·go_simp;refine(Pw.out _).mono ?_;rintro e w2 ⟨⟨v,rfl,hix⟩,hb⟩;have HB2:=hid (HB0.out.trans (hb.mono HB0.out.size));have Yg:=hid hix;clear hb hix;refine hK.out _ _ HB2.out (fun _=> ?_);clear hK K
   try simp only [Act.put,sq]
   refine wpAnyH_take (i:=3) (v:=(MU (dH k))) rfl (by kernel_rfl) (by kernel_rfl) (by kernel_rfl) (fun _ _ _ h=>h) (Or.inl ⟨by kernel_rfl,by intro w' hSw;have hix:=Yg.out;go_simp⟩) HB2.out ?_
   try simp only [Act.put,sq]
   refine wpAnyH_ready (rs:=[4]) (by kernel_rfl) (by simp) ?_;refine AllReadyH.cons rfl (fun K hK=> ?_) (AllReadyH.nil);go_simp;have HB3:=hid (HB2.out.alloc HB2.out.size (.cells #[.bool false, .int .i64 0, .int .i64 0, .int .i64 0, .int .i64 0] 174));have hzz:=heap_alloc_new w2 (.cells #[.bool false, .int .i64 0, .int .i64 0, .int .i64 0, .int .i64 0] 174);refine hK.out _ _ HB3.out (fun _=> ?_);clear hK K
   try simp only [Act.put,sq]
   refine wpAnyH_ready (rs:=[5]) (by kernel_rfl) (by simp) ?_;refine AllReadyH.cons rfl (fun K hK=> ?_) AllReadyH.nil;refine ql rfl _ _ _ rfl w2.heap.size #[.bool (dH k).name, .int .i64 ((dH k).low:Int), .int .i64 ((dH k).types:Int), .int .i64 (dH k).kids, .int .i64 (dH k).most] rfl rfl _ _ hzz (by kernel_rfl) rfl (by simp [Value.oneCell']) ?_;have MV:=setRow_heap _ w2.heap.size _ #[.bool (dH k).name, .int .i64 ((dH k).low:Int), .int .i64 ((dH k).types:Int), .int .i64 (dH k).kids, .int .i64 (dH k).most] _ _ hzz;have Rb:=hid (below_setRow HB3.out HB2.out.size #[.bool (dH k).name, .int .i64 ((dH k).low:Int), .int .i64 ((dH k).types:Int), .int .i64 (dH k).kids, .int .i64 (dH k).most]);have HZ2:=hid MV;clear hzz MV;refine hK.out _ _ Rb.out (fun _=> ?_);clear hK K
   try simp only [Act.put,sq]
   refine wpAnyH_done (by kernel_rfl) ?_ _;go_wp2_with fail
   go_meet
   case rel=>exact⟨_,rfl,HB2.out.size,HZ2.out,Rb.out⟩
  ·go_simp;have HB3:=hid (HB0.out.alloc HB0.out.size (.cells #[.bool false, .int .i64 0, .int .i64 0, .int .i64 0, .int .i64 0] 174));refine hK.out _ _ HB3.out (fun _=> ?_);clear hK K
   try simp only [Act.put,sq]
   refine wpAnyH_ready (rs:=[0]) (by kernel_rfl) (by simp) ?_;refine AllReadyH.cons rfl (fun K hK=> ?_) AllReadyH.nil;go_simp;refine(Pw.out _).mono ?_;rintro e w2 ⟨⟨v,rfl,hix⟩,hb⟩;have hzz:=(hb.block _ (block_lt (heap_alloc_new W.drew (.cells #[.bool false, .int .i64 0, .int .i64 0, .int .i64 0, .int .i64 0] 174)))).trans (heap_alloc_new W.drew (.cells #[.bool false, .int .i64 0, .int .i64 0, .int .i64 0, .int .i64 0] 174));have o8:=hid (HB3.out.trans (hb.mono HB3.out.size));have Yg:=hid hix;clear hb hix;refine hK.out _ _ o8.out (fun _=> ?_);clear hK K
   try simp only [Act.put,sq]
   refine wpAnyH_take (i:=3) (v:=(MU (dH k))) rfl (by kernel_rfl) (by kernel_rfl) (by kernel_rfl) (fun _ _ _ h=>h) (Or.inl ⟨by kernel_rfl,by intro w' hSw;have hix:=Yg.out;go_simp⟩) o8.out ?_
   try simp only [Act.put,sq]
   refine wpAnyH_ready (rs:=[5]) (by kernel_rfl) (by simp) ?_;refine AllReadyH.cons rfl (fun K hK=> ?_) AllReadyH.nil;refine ql rfl _ _ _ rfl W.heap.size #[.bool (dH k).name, .int .i64 ((dH k).low:Int), .int .i64 ((dH k).types:Int), .int .i64 (dH k).kids, .int .i64 (dH k).most] rfl rfl _ _ hzz (by kernel_rfl) rfl (by simp [Value.oneCell']) ?_;have MV:=setRow_heap _ W.heap.size _ #[.bool (dH k).name, .int .i64 ((dH k).low:Int), .int .i64 ((dH k).types:Int), .int .i64 (dH k).kids, .int .i64 (dH k).most] _ _ hzz;have Rb:=hid (below_setRow o8.out (Nat.le_refl _) #[.bool (dH k).name, .int .i64 ((dH k).low:Int), .int .i64 ((dH k).types:Int), .int .i64 (dH k).kids, .int .i64 (dH k).most]);have HZ2:=hid MV;clear hzz MV;refine hK.out _ _ Rb.out (fun _=> ?_);clear hK K
   try simp only [Act.put,sq]
   refine wpAnyH_done (by kernel_rfl) ?_ _;go_wp2_with fail
   go_meet
   case rel=>exact⟨_,rfl,(Nat.le_refl _),HZ2.out,Rb.out⟩
 case rest=>
  obtain⟨b5,rfl,hb5,hrow,hbw⟩:=hcut;generalize(dH k).name=hn at*
  generalize(dH k).low=lo at*
  generalize(dH k).types=hi at*
  generalize(dH k).kids=kd at*
  generalize(dH k).most=mo at*
  have dU:=hid hrow;have kD:=hid hbw;clear Pw hrow hbw
  go_upto_block 0 with(fail)
  obtain⟨kv,hkv⟩:∃kv,qj kd b=kv:=⟨_,rfl⟩
  rw [hkv]at Vv;have Yh:=hid hkv;clear hkv
  go_cut [5]from 10 (fun v5 wc=>v5= .pointer (some ⟨b5,0,none⟩)∧(kd<0∨b=0)∧wc.heap[b5]? =some (.cells #[.bool hn, .int .i64 lo, .int .i64 hi, .int .i64 kv, .int .i64 mo] 174 (0,0))∧Below W.heap.size W wc)
  case first=>
   obtain⟨e0,e1,e2,e3,e4⟩:=Cc dU.out;have f3:=bL dU.out 3;obtain⟨p0,p1,p2,p3,p4,p5,p6,p7⟩:=jv ((kD.out.block _ (block_lt qB.out)).trans qB.out);clear e0 e1 e2 e4 p0 p1 p2 p3 p4 p5 p7;by_cases hk:kd<0
   ·have g1:decide (kd<0)=true:=by simpa using hk
    have HV:Hid (kv=(b:Int)):=hid (by rw [←Yh.out];unfold qj;rw [if_pos hk]);have Dr:=hid hk;clear hk;go_wp2_with fail
    go_meet
    case rel=>
     refine⟨rfl, .inl Dr.out, ?_,kD.out.trans ((ak wc b5 3 (.int .i64 b)).below kD.out.size (fun j hj e=>by omega))⟩;rw [HV.out];exact heap_setCell_same wc b5 3 _ _ _ dU.out
   ·have g1:decide (kd<0)=false:=by simpa using hk
    have HV:Hid (kv=kd):=hid (by rw [←Yh.out];unfold qj;rw [if_neg hk]);have Dr:=hid hk;clear hk;by_cases hb0:0<b
    ·have g2:decide ((0:Int)<(b:Int))=true:=by simp;omega
     have HF:Hid (res=false):=hid (by rw [Vv.out,decide_eq_false (by have:=Dr.out;omega:¬(kd<0∨b=0))];simp);go_wp2_with fail;go_ret;refine⟨by rw [HF.out];rfl,HB1.out.trans (kD.out.mono HB1.out.size)⟩
    ·have g2:decide ((0:Int)<(b:Int))=false:=by simp;omega
     have Yi:Hid (b=0):=hid (by omega);go_wp2_with fail
     go_meet
     case rel=>
      refine⟨rfl, .inr Yi.out, ?_,kD.out⟩;rw [HV.out];exact dU.out
  case rest=>
   rename_i wc0
   clear dU kD Yh;obtain⟨rfl,hkb,hrow,hbw⟩:=hcut;have HRR:Hid (res=(decide (0≤n∧n≤mo) && nA k text hn && decide (lo≤a∧a≤hi) && decide ((d:Int)=kv) && q && ts.all (aH 16) && ks.all (dD m))):=hid (by rw [Vv.out,decide_eq_true hkb,Bool.true_and]);have JB:=hid (UW.out wc hbw hn lo hi kv mo);have dU:=hid hrow;have kD:=hid hbw;obtain⟨e0,e1,e2,e3,e4⟩:=Cc hrow;obtain⟨p0,p1,p2,p3,p4,p5,p6,p7⟩:=jv ((hbw.block _ (block_lt qB.out)).trans qB.out);clear UW Vv hkb hrow hbw;generalize nA k text hn=tb at*
   by_cases n0:n<0
   ·have g1:decide (n<0)=true:=by simpa using n0
    have HF:Hid (res=false):=hid (by rw [HRR.out,decide_eq_false (by omega:¬(0≤n∧n≤mo))];simp);clear n0;go_wp2_with fail;go_ret;refine⟨by rw [HF.out];rfl,HB1.out.trans (kD.out.mono HB1.out.size)⟩
   have g1:decide (n<0)=false:=by simpa using n0
   by_cases n1:mo<n
   ·have g2:decide (mo<n)=true:=by simpa using n1
    have HF:Hid (res=false):=hid (by rw [HRR.out,decide_eq_false (by omega:¬(0≤n∧n≤mo))];simp);clear n0 n1;go_wp2_with fail;go_ret;refine⟨by rw [HF.out];rfl,HB1.out.trans (kD.out.mono HB1.out.size)⟩
   have g2:decide (mo<n)=false:=by simpa using n1
   have Hq:Hid (res=(tb && decide (lo≤a∧a≤hi) && decide ((d:Int)=kv) && q && ts.all (aH 16) && ks.all (dD m))):=hid (by rw [HRR.out,decide_eq_true (by omega:0≤n∧n≤mo),Bool.true_and]);clear HRR n0 n1;go_wp2_with fail;refine JB.out.mono ?_;rintro e w3 ⟨rfl,hb3⟩;have rZ:=kD.out.trans (hb3.mono kD.out.size);have hrow3:=(hb3.block _ (block_lt dU.out)).trans dU.out;have HB3:=hid rZ;have nM:=hid hrow3;have Zk:=hid (NA.out w3 rZ);clear e0 e1 e2 e3 e4 p0 p1 p2 p3 p4 p5 p6 p7 hb3;obtain⟨e0,e1,e2,e3,e4⟩:=Cc hrow3;obtain⟨p0,p1,p2,p3,p4,p5,p6,p7⟩:=jv ((rZ.block _ (block_lt qB.out)).trans qB.out);clear rZ hrow3 NA JB kD dU;cases tb with
   | false=>
    have HF:Hid (res=false):=hid (by rw [Hq.out];simp);go_wp2_with fail;go_ret;refine⟨by rw [HF.out];rfl,HB1.out.trans (HB3.out.mono HB1.out.size)⟩
   | true=>
    go_wp2_with fail;refine Zk.out.mono ?_;rintro e w4 ⟨rfl,hb4⟩;have Ab:=HB3.out.trans (hb4.mono HB3.out.size);have hrow4:=(hb4.block _ (block_lt nM.out)).trans nM.out;have o8:=hid Ab;clear e0 e1 e2 e3 e4 p0 p1 p2 p3 p4 p5 p6 p7 hb4;obtain⟨e0,e1,e2,e3,e4⟩:=Cc hrow4;obtain⟨p0,p1,p2,p3,p4,p5,p6,p7⟩:=jv ((Ab.block _ (block_lt qB.out)).trans qB.out);clear Ab hrow4 Zk HB3 nM;cases q with
    | false=>
     have HF:Hid (res=false):=hid (by rw [Hq.out];simp);go_wp2_with fail;go_ret;refine⟨by rw [HF.out];rfl,HB1.out.trans (o8.out.mono HB1.out.size)⟩
    | true=>
     by_cases h1:a<lo
     ·have g3:decide ((a:Int)<(lo:Int))=true:=by simp;omega
      have HF:Hid (res=false):=hid (by rw [Hq.out,decide_eq_false (by omega:¬(lo≤a∧a≤hi))];simp);go_wp2_with fail;go_ret;refine⟨by rw [HF.out];rfl,HB1.out.trans (o8.out.mono HB1.out.size)⟩
     have g3:decide ((a:Int)<(lo:Int))=false:=by simp;omega
     by_cases h2:hi<a
     ·have g4:decide ((hi:Int)<(a:Int))=true:=by simp;omega
      have HF:Hid (res=false):=hid (by rw [Hq.out,decide_eq_false (by omega:¬(lo≤a∧a≤hi))];simp);go_wp2_with fail;go_ret;refine⟨by rw [HF.out];rfl,HB1.out.trans (o8.out.mono HB1.out.size)⟩
     have g4:decide ((hi:Int)<(a:Int))=false:=by simp;omega
     by_cases h3:(d:Int)=kv
     ·have Yj:Hid (res=(ts.all (aH 16) && ks.all (dD m))):=hid (by rw [Hq.out,decide_eq_true (by omega:lo≤a∧a≤hi),decide_eq_true h3];simp);have g5:((d:Int) != kv)=false:=by rw [bne_eq_false_iff_eq];exact h3
      clear h3 Hq;go_wp2_with fail;clear e0 e1 e2 e3 e4 p0 p1 p2 p3 p4 p5 p6 p7 g1 g2 g3 g4 g5 h1 h2;go_loopw [88] (fun Yk wr=>∃i:Nat,Yk= .int .i64 i∧i≤a∧(ts.take i).all (aH 16)=true∧Below W.heap.size W wr) (fun Yk _=>a - (intOf Yk).toNat)
      case atStart=>exact⟨0,rfl,by omega,rfl,o8.out⟩
      case round=>
       obtain⟨i,rfl,hi_,hinv,hbr⟩:=hrel;have HI:=hid hinv;have HB:=hid hbr;clear hinv;by_cases hlt:i<a
       ·have hil:i<ts.length:=by rw [HA.out];exact hlt
        obtain⟨b2,o2,kk,ss,A5,n5,c5,A6,n6,c6,rfl,hr1,e0,e1,e2,e3⟩:=oG (Sl.more (Sl.below Hl.out.1 hbr) hbr.size) ((Hl.out.2.keep hbr).more hbr.size) hil HA.out.symm;obtain⟨wA,Eo⟩:∃wA,wr.alloc (.cells #[.int .i64 kk, .string ss, .slice A5 n5 c5, .slice A6 n6 c6] 57)=wA:=⟨_,rfl⟩
        have Ep:Below wr.heap.size wr wA:=by rw [←Eo];exact(Below.refl _ _).alloc (Nat.le_refl _) _
        have HC:=hid (HWR.out wA _ ts[i] (hr1.far (Nat.le_refl _) Ep) (HOT.out _ (List.getElem_mem hil)) ((HX.out.below hbr).below Ep));have Jv:=hid Ep;have UY:=hid Eo;have hst:=vg hil;rw [←Eo]at HC;clear hbr hr1 Ep Eo;cases hq:aH 16 ts[i]with
        | false=>
         have hall:ts.all (aH 16)=false:=by
          cases h:ts.all (aH 16)with
          | false=>rfl
          | true=>rw [List.all_eq_true]at h;rw [h _ (List.getElem_mem hil)]at hq;cases hq
         have HF:Hid (res=false):=hid (by rw [Yj.out,hall];simp);rw [hq]at HC;clear hq hst hall;generalize ts[i]=X at*
         go_wp2_with fail;refine HC.out.mono ?_;rintro e w5 ⟨rfl,hb⟩;rw [UY.out]at hb;have EW:=hid (HB.out.trans ((Jv.out.trans (hb.mono Jv.out.size)).mono HB.out.size));clear hb e0 e1 e2 e3;go_wp2_with fail;go_ret;refine⟨by rw [HF.out];rfl,HB1.out.trans (EW.out.mono HB1.out.size)⟩
        | true=>
         have HST:Hid ((ts.take (i+1)).all (aH 16)=true):=hid (by rw [hst,List.all_append,HI.out];simp [hq]);rw [hq]at HC;clear hq hst;generalize ts[i]=X at*
         go_wp2_with fail;refine HC.out.mono ?_;rintro e w5 ⟨rfl,hb⟩;rw [UY.out]at hb;have EW:=hid (HB.out.trans ((Jv.out.trans (hb.mono Jv.out.size)).mono HB.out.size));clear hb e0 e1 e2 e3;go_wp2_with fail
         go_roundw
         case rel=>exact⟨i+1,rfl,by omega,HST.out,EW.out⟩
         case measure=>simp [intOf];omega
       ·obtain rfl:i=a:=by omega
        have Zl:Hid (res=ks.all (dD m)):=hid (by
         have h:=HI.out;rw [List.take_of_length_le (by rw [HA.out];omega)]at h;rw [Yj.out,h,Bool.true_and])
        obtain⟨p0,p1,p2,p3,p4,p5,p6,p7⟩:=jv ((hbr.block _ (block_lt qB.out)).trans qB.out);clear hlt hbr HI Yj;go_wp2_with fail;clear p0 p1 p2 p3 p4 p5 p6 p7;go_loopw [99] (fun Yl wr=>∃i:Nat,Yl= .int .i64 i∧i≤d∧(ks.take i).all (dD m)=true∧Below W.heap.size W wr) (fun Yl _=>d - (intOf Yl).toNat)
        case atStart=>exact⟨0,rfl,by omega,rfl,HB.out⟩
        case round=>
         obtain⟨j,rfl,hj_,Qg,uh⟩:=hrel;have HI2:=hid Qg;have HB2:=hid uh;clear Qg;by_cases hlt:j<d
         ·have hil:j<ks.length:=by rw [HD.out];exact hlt
          obtain⟨b2,o2,kk,ss,y2,y3,y4,A5,n5,c5,A6,n6,c6,A7,n7,c7,rfl,hr1,e0,e1,e2,e3,e4,e5,e6,e7⟩:=xH (Sl.more (Sl.below HKK.out.1 uh) uh.size) ((HKK.out.2.keep uh).more uh.size) hil HD.out.symm;obtain⟨wA,Eo⟩:∃wA,wr.alloc (.cells #[.int .i64 kk, .string ss, .int .i64 y2, .int .i64 y3, .int .i64 y4, .slice A5 n5 c5, .slice A6 n6 c6, .slice A7 n7 c7] 52)=wA:=⟨_,rfl⟩
          have Ep:Below wr.heap.size wr wA:=by rw [←Eo];exact(Below.refl _ _).alloc (Nat.le_refl _) _
          have HC:=hid (Mv.out wA _ ks[j] (hr1.far (Nat.le_refl _) Ep) (G9.out _ (List.getElem_mem hil)) ((HX.out.below uh).below Ep));have Jv:=hid Ep;have UY:=hid Eo;have hst:=vg hil;rw [←Eo]at HC;clear uh hr1 Ep Eo;cases hq:dD m ks[j]with
          | false=>
           have hall:ks.all (dD m)=false:=by
            cases h:ks.all (dD m)with
            | false=>rfl
            | true=>rw [List.all_eq_true]at h;rw [h _ (List.getElem_mem hil)]at hq;cases hq
           have HF:Hid (res=false):=hid (by rw [Zl.out,hall]);rw [hq]at HC;clear hq hst hall;generalize ks[j]=X at*
           go_wp2_with fail;refine HC.out.mono ?_;rintro e w5 ⟨rfl,hb⟩;rw [UY.out]at hb;have EW:=hid (HB2.out.trans ((Jv.out.trans (hb.mono Jv.out.size)).mono HB2.out.size));clear hb e0 e1 e2 e3 e4 e5 e6 e7;go_wp2_with fail;go_ret;refine⟨by rw [HF.out];rfl,HB1.out.trans (EW.out.mono HB1.out.size)⟩
          | true=>
           have HST:Hid ((ks.take (j+1)).all (dD m)=true):=hid (by rw [hst,List.all_append,HI2.out];simp [hq]);rw [hq]at HC;clear hq hst;generalize ks[j]=X at*
           go_wp2_with fail;refine HC.out.mono ?_;rintro e w5 ⟨rfl,hb⟩;rw [UY.out]at hb;have EW:=hid (HB2.out.trans ((Jv.out.trans (hb.mono Jv.out.size)).mono HB2.out.size));clear hb e0 e1 e2 e3 e4 e5 e6 e7;go_wp2_with fail
           go_roundw
           case rel=>exact⟨j+1,rfl,by omega,HST.out,EW.out⟩
           case measure=>simp [intOf];omega
         ·obtain rfl:j=d:=by omega
          have HF:Hid (res=true):=hid (by
           have h:=HI2.out;rw [List.take_of_length_le (by rw [HD.out];omega)]at h;rw [Zl.out,h])
          clear uh hlt;go_wp2_with fail;go_ret;refine⟨by rw [HF.out];rfl,HB1.out.trans (HB2.out.mono HB1.out.size)⟩
     ·have HF:Hid (res=false):=hid (by rw [Hq.out,decide_eq_false h3];simp);have g5:((d:Int) != kv)=true:=by rw [bne_iff_ne];exact h3
      clear h3;go_wp2_with fail;go_ret;refine⟨by rw [HF.out];rfl,HB1.out.trans (o8.out.mono HB1.out.size)⟩
theorem Er:∀m:Nat,m≤41→Vu m
 | 0, _=>JQ
 | m+1,h=>JR m (by omega) (Er m (by omega))
def UZ (x:bR):Prop:=∀(w:World) (z:List Value) (m:Nat),rA w w.heap.size z x→NH x→dD m x=true→zh x≤300000→je w→
 Calls Tryz.prog 57 #[.agg z.toArray] w fun e w'=>e= .returned (sv (nC x))∧Below w.heap.size w w'
theorem MW (text:Bt) (n li co:Int) (ts:List aZ) (ns:List Bt) (ks:List bR) (ih:∀y∈ks,UZ y):UZ (.mk 14 text n li co ts ns ks):=by
 intro w z m hr hok hnd hc hX;have hlen:=zl _ m hnd;obtain⟨q,rfl,RO,hown,hns,hts,hkk⟩:=Bg hnd;rw [zo,Bool.and_eq_true,Bool.and_eq_true,Bool.and_eq_true,Bool.and_eq_true,decide_eq_true_eq,decide_eq_true_eq,decide_eq_true_eq,decide_eq_true_eq]at hown;obtain⟨⟨⟨⟨hn0,hn1⟩,htx⟩,hlo,hhi⟩,hkn,hkd⟩:=hown;have htl:=zi htx;rw [NH]at hok;obtain⟨ok1,Ox,Mw,Qb,UU,SA,SB,Qf⟩:=hok;obtain⟨A1,c1,A2,c2,A3,c3,xt,xk,rfl,s1,r1,s2,s3,r3⟩:=hr.parts;have l1:=(cu s1).2;have l2:=(cu s2).2;have l3:=(cu s3).2;rw [nC]at hlen ⊢;rw [zh]at hc hlen;have Ym:fH ts≤300000:=by omega
 have hcK:qY ks≤300000:=by omega
 have hdc:ks.length≤300000:=Nat.le_trans (vB ks) hcK;obtain⟨S,hS⟩:∃S,kM ks=S:=⟨_,rfl⟩
 have MX:S.length=ks.length:=by rw [←hS,nu]
 have Yn:Hid (∀(i:Nat) (h:i<ks.length) (h2:i<S.length),S[i]=nC ks[i]):=hid (by
  intro i h h2;subst hS;simp [nW])
 rw [hS]at hlen ⊢;have HKK:=hid (And.intro s3 r3);have Hl:=hid (And.intro s1 r1);have FI:=hid s2;have Mv:=hid ih;have G9:=hid (sN.1 Qf);have Yo:=hid hkk;have Yp:=hid hcK;have HCT:=hid Ym;have Y8:=hid hts;have Bb:=hid hns;have HX:=hid hX;have En:=Mw;clear hr s1 r1 s2 s3 r3 ih ok1 Ox Mw Qb UU SA SB Qf hkk hts hns hX hS hnd RO;obtain⟨a,hA⟩:∃a,ts.length=a:=⟨_,rfl⟩
 obtain⟨b,hB⟩:∃b,ns.length=b:=⟨_,rfl⟩
 obtain⟨d,hD⟩:∃d,ks.length=d:=⟨_,rfl⟩
 rw [hA]at l1 Hl hlo hhi;rw [hB]at l2 FI hkn hkd;rw [hD]at l3 HKK hkd hdc MX;rw [hA,hB,hD];have HA:=hid hA;have nL:=hid hB;have HD:=hid hD;have HSL:=hid MX;clear hA hB hD;have hd0:d=2:=by
  have h:(dH 14).kids=2:=rfl;rw [h]at hkd;unfold qj at hkd;rw [if_neg (by decide)]at hkd;omega
 have HD0:=hid hd0;clear hd0 hkd hkn;obtain⟨OB,RP⟩:∃OB,Obj.cells #[.int .i64 14,sv text, .int .i64 n, .int .i64 li, .int .i64 co, .slice A1 a c1, .slice A2 b c2, .slice A3 d c3] 52 (0,0)=OB:=⟨_,rfl⟩
 obtain⟨W,hW⟩:∃W,(w.alloc (.cells #[.int .i64 14,sv text, .int .i64 n, .int .i64 li, .int .i64 co, .slice A1 a c1, .slice A2 b c2, .slice A3 d c3] 52)).alloc (.cells #[.slice none 0 0] 25)=W:=⟨_,rfl⟩
 have RQ:Hid (zm w W OB (.slice none 0 0) (S.take 0)):=hid (by
  rw [←hW, ←RP];exact⟨(mV w _ _).2,gq.nil _ _ _,(mV w _ _).1,((Below.refl _ _).alloc (Nat.le_refl _) _).alloc (by simp) _⟩)
 have oU:=hid RP;have zM:=hid hW;clear hW RP;go_enter Tryz.func57,Tryz.ntmps57;go_wp2_with fail;have hW:=zM.out;rw [hW];clear hW;go_loopw [10] (fun v10 wr=>∃(i:Nat) (v:Value),v10= .int .i64 i∧i≤d∧zm w wr OB v (S.take i)) (fun v10 _=>d - (intOf v10).toNat)
 case atStart=>exact⟨0, _,rfl,by omega,RQ.out⟩
 case round=>
  obtain⟨i,v,rfl,hi_,hat⟩:=hrel;have zq:=hid hat;clear hat;by_cases hlt:i<d
  ·have hil:i<ks.length:=by rw [HD.out];exact hlt
   have Zm:i<S.length:=by rw [HSL.out];exact hlt
   have hbr:=zq.out.below;obtain⟨b2,o2,kk,ss,y2,y3,y4,A5,n5,c5,A6,n6,c6,A7,n7,c7,hA3,hr1,e0,e1,e2,e3,e4,e5,e6,e7⟩:=xH (Sl.more (Sl.below HKK.out.1 hbr) hbr.size) ((HKK.out.2.keep hbr).more hbr.size) hil HD.out.symm;obtain⟨wA,Eo⟩:∃wA,wr.alloc (.cells #[.int .i64 kk, .string ss, .int .i64 y2, .int .i64 y3, .int .i64 y4, .slice A5 n5 c5, .slice A6 n6 c6, .slice A7 n7 c7] 52)=wA:=⟨_,rfl⟩
   have Ep:Below wr.heap.size wr wA:=by rw [←Eo];exact(Below.refl _ _).alloc (Nat.le_refl _) _
   have hsA:wA.heap[wr.heap.size]? =some (.cells #[.int .i64 kk, .string ss, .int .i64 y2, .int .i64 y3, .int .i64 y4, .slice A5 n5 c5, .slice A6 n6 c6, .slice A7 n7 c7] 52 (0,0)):=by rw [←Eo];exact heap_alloc_new wr _
   have HE:=hid (fun w1 (h:Below wA.heap.size wA w1)=>Mv.out ks[i] (List.getElem_mem hil) w1 _ q (hr1.far (Nat.le_refl _) (Ep.trans (h.mono Ep.size))) (G9.out _ (List.getElem_mem hil)) (Yo.out _ (List.getElem_mem hil)) (Nat.le_trans (Eh (List.getElem_mem hil)) Yp.out) ((HX.out.below hbr).below (Ep.trans (h.mono Ep.size))));rw [←Yn.out i hil Zm]at HE;have HST:=hid (vg Zm);have Sy:Hid (∀g,v.ownBlock=some g→g<wr.heap.size):=hid (fun g hg=>(zq.out.own.lt g hg).2);have Yq:Hid (Below wA.heap.size wA wA.drew):=hid (aN wA 1);have kD:Hid (Below wr.heap.size wr wA.drew):=hid (Ep.trans (Yq.out.mono Ep.size));have FU:Hid (wA.drew.heap[wr.heap.size]? =some (.cells #[.int .i64 kk, .string ss, .int .i64 y2, .int .i64 y3, .int .i64 y4, .slice A5 n5 c5, .slice A6 n6 c6, .slice A7 n7 c7] 52 (0,0))):=hid hsA;have gk:=(zq.out.far kD.out).cell;have hA:=hid Eo;obtain⟨Av,nv,cv,rfl⟩:=fM zq.out.own.ss;generalize S[i]=X at*
   generalize ks[i]=kx at*
   clear hbr hr1 Ep hsA hil Eo;subst hA3;go_wp2_with fail;have Eo:=hA.out;rw [Eo];clear Eo e0 e1 e2 e3 e4 e5 e6 e7;refine wp_region_held_drew (S:=fun w'=>w'.heap[wr.heap.size]? =some (.cells #[.int .i64 kk, .string ss, .int .i64 y2, .int .i64 y3, .int .i64 y4, .slice A5 n5 c5, .slice A6 n6 c6, .slice A7 n7 c7] 52 (0,0))) (by kernel_rfl) FU.out (fun _=> ?_)
   try simp only [Act.put,sq]
   refine wpAnyH_take (i:=1) (v:=(.agg #[.int .i64 kk, .string ss, .int .i64 y2, .int .i64 y3, .int .i64 y4, .slice A5 n5 c5, .slice A6 n6 c6, .slice A7 n7 c7])) rfl (by kernel_rfl) (by kernel_rfl) (by kernel_rfl) (fun _ _ _ h=>h) (Or.inl ⟨by kernel_rfl,by intro w' hSw;obtain⟨u0,u1,u2,u3,u4,u5,u6,u7⟩:=jv hSw;go_simp⟩) FU.out ?_
   try simp only [Act.put,sq]
   refine wpAnyH_ready (rs:=[0,2]) (by kernel_rfl) (by simp) ?_;refine AllReadyH.cons rfl (fun K hK=> ?_) (AllReadyH.cons rfl (fun K hK=> ?_) AllReadyH.nil)
   ·go_simp;refine hK.out _ _ FU.out (fun _=> ?_);clear hK K
    try simp only [Act.put,sq]
    refine wpAnyH_ready (rs:=[2]) (by kernel_rfl) (by simp) ?_;refine AllReadyH.cons rfl (fun K hK=> ?_) AllReadyH.nil;go_simp;refine(HE.out _ Yq.out).mono ?_;rintro e w2 ⟨rfl,hb⟩;have uh:=kD.out.trans (hb.mono kD.out.size);have wO:=hid (zq.out.far uh);have HS2:=hid ((hb.block _ (block_lt FU.out)).trans FU.out);clear hb uh;refine hK.out _ _ HS2.out (fun _=> ?_);clear hK K
    try simp only [Act.put,sq]
    refine wpAnyH_ready (rs:=[3]) (by kernel_rfl) (by simp) ?_;refine AllReadyH.cons rfl (fun K hK=> ?_) AllReadyH.nil;go_simp;have Gx:=hid ((((Below.refl w2.heap.size w2).alloc (Nat.le_refl _) (.cells #[sv X] 9)).block _ (block_lt HS2.out)).trans HS2.out);refine hK.out _ _ Gx.out (fun _=> ?_);clear hK K
    try simp only [Act.put,sq]
    refine wpAnyH_ready (rs:=[4]) (by kernel_rfl) (by simp) ?_;refine AllReadyH.cons rfl (fun K hK=> ?_) AllReadyH.nil;refine vC rfl (.tmp 14) (.tmp 17) _ rfl (w.heap.size+2) pI _ _ rfl rfl (wO.out.own.alloc _) (pE w2 X _) (by simp;omega) (by have:=block_lt wO.out.box;rw [World.size_alloc];omega) (fun v4 w4 mW hg4 MZ=> ?_);obtain⟨g4,c4,n4,rfl⟩:=vo mW (by simp);rw [←HST.out]at mW;obtain⟨x1,x2,x3⟩:=(wO.out.far ((Below.refl _ _).alloc (Nat.le_refl _) _)).grown mW hg4;have DT:=hid ((hg4.block _ (block_lt Gx.out) (by intro e;have:=Sy.out _ e.symm;omega)).trans Gx.out);have X3:=hid x3;have Cv:=hid (ah DT.out (ak w4 (w.heap.size+1) 0 (.slice (some ⟨g4,0,none⟩) n4 c4)) (by have:=block_lt zq.out.box;omega));clear x3 mW hg4 MZ;refine hK.out _ _ DT.out (fun _=> ?_);clear hK K
    try simp only [Act.put,sq]
    refine wpAnyH_ready (rs:=[5]) (by kernel_rfl) (by simp) ?_;refine AllReadyH.cons rfl (fun K hK=> ?_) AllReadyH.nil;go_simp;refine hK.out _ _ Cv.out (fun _=> ?_);clear hK K
    try simp only [Act.put,sq]
    refine wpAnyH_done (by kernel_rfl) ?_ _;go_wp2_with fail
    go_roundw
    case rel=>exact⟨i+1, _,rfl,by omega,X3.out⟩
    case measure=>simp [intOf];omega
   ·go_simp;refine(HE.out _ Yq.out).mono ?_;rintro e w2 ⟨rfl,hb⟩;have uh:=kD.out.trans (hb.mono kD.out.size);have wO:=hid (zq.out.far uh);have HS2:=hid ((hb.block _ (block_lt FU.out)).trans FU.out);clear hb uh;have gk2:=wO.out.cell;refine hK.out _ _ HS2.out (fun _=> ?_);clear hK K
    try simp only [Act.put,sq]
    refine wpAnyH_ready (rs:=[0,3]) (by kernel_rfl) (by simp) ?_;refine AllReadyH.cons rfl (fun K hK=> ?_) (AllReadyH.cons rfl (fun K hK=> ?_) AllReadyH.nil)
    ·go_simp;refine hK.out _ _ HS2.out (fun _=> ?_);clear hK K
     try simp only [Act.put,sq]
     refine wpAnyH_ready (rs:=[3]) (by kernel_rfl) (by simp) ?_;refine AllReadyH.cons rfl (fun K hK=> ?_) AllReadyH.nil;go_simp;have Gx:=hid ((((Below.refl w2.heap.size w2).alloc (Nat.le_refl _) (.cells #[sv X] 9)).block _ (block_lt HS2.out)).trans HS2.out);refine hK.out _ _ Gx.out (fun _=> ?_);clear hK K
     try simp only [Act.put,sq]
     refine wpAnyH_ready (rs:=[4]) (by kernel_rfl) (by simp) ?_;refine AllReadyH.cons rfl (fun K hK=> ?_) AllReadyH.nil;refine vC rfl (.tmp 14) (.tmp 17) _ rfl (w.heap.size+2) pI _ _ rfl rfl (wO.out.own.alloc _) (pE w2 X _) (by simp;omega) (by have:=block_lt wO.out.box;rw [World.size_alloc];omega) (fun v4 w4 mW hg4 MZ=> ?_);obtain⟨g4,c4,n4,rfl⟩:=vo mW (by simp);rw [←HST.out]at mW;obtain⟨x1,x2,x3⟩:=(wO.out.far ((Below.refl _ _).alloc (Nat.le_refl _) _)).grown mW hg4;have DT:=hid ((hg4.block _ (block_lt Gx.out) (by intro e;have:=Sy.out _ e.symm;omega)).trans Gx.out);have X3:=hid x3;have Cv:=hid (ah DT.out (ak w4 (w.heap.size+1) 0 (.slice (some ⟨g4,0,none⟩) n4 c4)) (by have:=block_lt zq.out.box;omega));clear x3 mW hg4 MZ;refine hK.out _ _ DT.out (fun _=> ?_);clear hK K
     try simp only [Act.put,sq]
     refine wpAnyH_ready (rs:=[5]) (by kernel_rfl) (by simp) ?_;refine AllReadyH.cons rfl (fun K hK=> ?_) AllReadyH.nil;go_simp;refine hK.out _ _ Cv.out (fun _=> ?_);clear hK K
     try simp only [Act.put,sq]
     refine wpAnyH_done (by kernel_rfl) ?_ _;go_wp2_with fail
     go_roundw
     case rel=>exact⟨i+1, _,rfl,by omega,X3.out⟩
     case measure=>simp [intOf];omega
    ·go_simp;have Gx:=hid ((((Below.refl w2.heap.size w2).alloc (Nat.le_refl _) (.cells #[sv X] 9)).block _ (block_lt HS2.out)).trans HS2.out);have gk3:=(wO.out.far ((Below.refl w2.heap.size w2).alloc (Nat.le_refl _) (.cells #[sv X] 9))).cell;refine hK.out _ _ Gx.out (fun _=> ?_);clear hK K
     try simp only [Act.put,sq]
     refine wpAnyH_ready (rs:=[0]) (by kernel_rfl) (by simp) ?_;refine AllReadyH.cons rfl (fun K hK=> ?_) AllReadyH.nil;go_simp;refine hK.out _ _ Gx.out (fun _=> ?_);clear hK K
     try simp only [Act.put,sq]
     refine wpAnyH_ready (rs:=[4]) (by kernel_rfl) (by simp) ?_;refine AllReadyH.cons rfl (fun K hK=> ?_) AllReadyH.nil;refine vC rfl (.tmp 14) (.tmp 17) _ rfl (w.heap.size+2) pI _ _ rfl rfl (wO.out.own.alloc _) (pE w2 X _) (by simp;omega) (by have:=block_lt wO.out.box;rw [World.size_alloc];omega) (fun v4 w4 mW hg4 MZ=> ?_);obtain⟨g4,c4,n4,rfl⟩:=vo mW (by simp);rw [←HST.out]at mW;obtain⟨x1,x2,x3⟩:=(wO.out.far ((Below.refl _ _).alloc (Nat.le_refl _) _)).grown mW hg4;have DT:=hid ((hg4.block _ (block_lt Gx.out) (by intro e;have:=Sy.out _ e.symm;omega)).trans Gx.out);have X3:=hid x3;have Cv:=hid (ah DT.out (ak w4 (w.heap.size+1) 0 (.slice (some ⟨g4,0,none⟩) n4 c4)) (by have:=block_lt zq.out.box;omega));clear x3 mW hg4 MZ;refine hK.out _ _ DT.out (fun _=> ?_);clear hK K
     try simp only [Act.put,sq]
     refine wpAnyH_ready (rs:=[5]) (by kernel_rfl) (by simp) ?_;refine AllReadyH.cons rfl (fun K hK=> ?_) AllReadyH.nil;go_simp;refine hK.out _ _ Cv.out (fun _=> ?_);clear hK K
     try simp only [Act.put,sq]
     refine wpAnyH_done (by kernel_rfl) ?_ _;go_wp2_with fail
     go_roundw
     case rel=>exact⟨i+1, _,rfl,by omega,X3.out⟩
     case measure=>simp [intOf];omega
  ·obtain rfl:i=d:=by omega
   have hex:=zq.out;rw [List.take_of_length_le (by rw [HSL.out];omega)]at hex;have hbr:=hex.below;obtain⟨g0,g1,g2,g3,g4,g5,g6,g7⟩:=jv (hex.node.trans (congrArg some oU.out.symm));have gb:=hex.cell;have hown:=hex.own;have EZ:=hid hbr;clear hlt zq hex;have hd0:=HD0.out;have hsl:=HSL.out;subst hd0;obtain⟨s0,s1,rfl⟩:=Im hsl;obtain⟨g,c,rfl,hgb,hgl,hgc,hgm⟩:=gJ hown.row (by simp);simp only [List.length_cons,List.length_nil,Nat.zero_add]at gb hown hgc;have d0:=hown.cell 0 (by simp);have d1:=hown.cell 1 (by simp);simp only [List.getElem_cons_zero,List.getElem_cons_succ]at d0 d1;have HT:Hid (Aj 14 text n ts ns [s0,s1]=([40]:Bt)++(s0++([32]:Bt)++text++([32]:Bt)++s1)++([41]:Bt)):=hid (by simp [Aj,cat]);rw [HT.out]at hlen;simp only [List.length_append,List.length_cons,List.length_nil]at hlen;have hz0:=bT s0;have hz1:=bT text;have hz2:=bT s1;have q0:¬(9223372036854775807<s0.length+1):=by omega
   have q1:¬(9223372036854775807<s0.length+1+text.length):=by omega
   have q2:¬(9223372036854775807<s0.length+1+text.length+1):=by omega
   have q3:¬(9223372036854775807<s0.length+1+text.length+1+s1.length):=by omega
   have q4:¬(9223372036854775807<1+(s0.length+1+text.length+1+s1.length)):=by omega
   have q5:¬(9223372036854775807<1+(s0.length+1+text.length+1+s1.length)+1):=by omega
   have G1:=hid g1;have G2:=hid g2;have G5:=hid g5;have GB:=hid gb;have D0:=hid d0;have D1:=hid d1;have HB0:Hid (Below wr.heap.size wr wr.drew):=hid (aN wr 1);clear g1 g2 g3 g4 g5 g6 g7 gb hown hbr hlen d0 d1;go_wp2_with fail;refine wp_region_held_drew (S:=fun w'=>Below wr.heap.size wr w') (by kernel_rfl) HB0.out (fun _=> ?_)
   try simp only [Act.put,sq]
   refine uK 0 (.slice (some ⟨g,0,none⟩) 2 c) (Ct GB.out) HB0.out ?_;refine tk 1 (.pointer (some ⟨g,0,none⟩)) HB0.out ?_;refine uK 2 (sv s0) (Ct D0.out) HB0.out ?_;refine tk 3 (.string ((⟨s0.toArray⟩:ByteArray)++⟨#[32]⟩)) HB0.out ?_;refine tk 4 (.pointer (some ⟨w.heap.size,1,none⟩)) HB0.out ?_;refine uK 5 (sv text) (Ct G1.out) HB0.out ?_;refine tk 6 (.string ((⟨s0.toArray⟩:ByteArray)++⟨#[32]⟩++⟨text.toArray⟩)) HB0.out ?_;refine tk 7 (.string ((⟨s0.toArray⟩:ByteArray)++⟨#[32]⟩++⟨text.toArray⟩++⟨#[32]⟩)) HB0.out ?_;refine uK 8 (.slice (some ⟨g,0,none⟩) 2 c) (Ct GB.out) HB0.out ?_;refine tk 9 (.pointer (some ⟨g,1,none⟩)) HB0.out ?_;refine uK 10 (sv s1) (Ct D1.out) HB0.out ?_;refine tk 11 (.string ((⟨s0.toArray⟩:ByteArray)++⟨#[32]⟩++⟨text.toArray⟩++⟨#[32]⟩++⟨s1.toArray⟩)) HB0.out ?_;refine tk 12 (.string ((⟨s0.toArray⟩:ByteArray)++⟨#[32]⟩++⟨text.toArray⟩++⟨#[32]⟩++⟨s1.toArray⟩)) HB0.out ?_;refine wpAnyH_done (by kernel_rfl) ?_ _;go_wp2_with fail;go_ret;refine⟨?_,EZ.out.trans (HB0.out.mono EZ.out.size)⟩;rw [HT.out];have e:(⟨([40]:Bt).toArray⟩:ByteArray)++((⟨s0.toArray⟩:ByteArray)++⟨([32]:Bt).toArray⟩++⟨text.toArray⟩++⟨([32]:Bt).toArray⟩++⟨s1.toArray⟩)++⟨([41]:Bt).toArray⟩=⟨(([40]:Bt)++(s0++([32]:Bt)++text++([32]:Bt)++s1)++([41]:Bt)).toArray⟩:=by
    rw [dX,dX,dX,dX,dX,dX]
   exact congrArg (fun b=>Ending.returned (Value.string b)) e
theorem Es (w:World) (z:List Value) (k:Int) (text:Bt) (n li co:Int) (ts:List aZ) (ns:List Bt) (ks:List bR) (hr:rA w w.heap.size z (.mk k text n li co ts ns ks)) (hk:k=4):
  Calls Tryz.prog 120 #[.agg z.toArray] w fun e w'=>e= .returned (sv (sM k text n ts))∧Below w.heap.size w w':=by
 subst hk;obtain⟨A1,c1,A2,c2,A3,c3,xt,xk,rfl,s1,r1,s2,s3,r3⟩:=hr.parts;clear hr s1 r1 s2 s3 r3;rw [show sM 4 text n ts=text from rfl];go_enter Tryz.func120,Tryz.ntmps120;go_wp2_with fail;go_ret;exact⟨rfl,(Below.refl _ _).alloc (Nat.le_refl _) _⟩
theorem JU (k:Int) (hk:k=4) (text:Bt) (n li co:Int) (ts:List aZ) (ns:List Bt) (ks:List bR) (ih:∀y∈ks,UZ y):UZ (.mk k text n li co ts ns ks):=by
 intro w z m hr hok hnd hc hX;have hlen:=zl _ m hnd;obtain⟨q,rfl,RO,hown,hns,hts,hkk⟩:=Bg hnd;rw [zo,Bool.and_eq_true,Bool.and_eq_true,Bool.and_eq_true,Bool.and_eq_true,decide_eq_true_eq,decide_eq_true_eq,decide_eq_true_eq,decide_eq_true_eq]at hown;obtain⟨⟨⟨⟨hn0,hn1⟩,htx⟩,hlo,hhi⟩,hkn,hkd⟩:=hown;have htl:=zi htx;rw [NH]at hok;obtain⟨ok1,Ox,Mw,Qb,UU,SA,SB,Qf⟩:=hok;obtain⟨A1,c1,A2,c2,A3,c3,xt,xk,rfl,s1,r1,s2,s3,r3⟩:=hr.parts;have l1:=(cu s1).2;have l2:=(cu s2).2;have l3:=(cu s3).2;rw [nC]at hlen ⊢;rw [zh]at hc hlen;have Ym:fH ts≤300000:=by omega
 have hcK:qY ks≤300000:=by omega
 have hdc:ks.length≤300000:=Nat.le_trans (vB ks) hcK;obtain⟨S,hS⟩:∃S,kM ks=S:=⟨_,rfl⟩
 have MX:S.length=ks.length:=by rw [←hS,nu]
 have Yn:Hid (∀(i:Nat) (h:i<ks.length) (h2:i<S.length),S[i]=nC ks[i]):=hid (by
  intro i h h2;subst hS;simp [nW])
 rw [hS]at hlen ⊢;have HKK:=hid (And.intro s3 r3);have HR:=hid hr;have Hl:=hid (And.intro s1 r1);have FI:=hid s2;have Mv:=hid ih;have G9:=hid (sN.1 Qf);have Yo:=hid hkk;have Yp:=hid hcK;have HCT:=hid Ym;have Y8:=hid hts;have Bb:=hid hns;have HX:=hid hX;have En:=Mw;clear hr s1 r1 s2 s3 r3 ih ok1 Ox Mw Qb UU SA SB Qf hkk hts hns hX hS hnd RO;obtain⟨a,hA⟩:∃a,ts.length=a:=⟨_,rfl⟩
 obtain⟨b,hB⟩:∃b,ns.length=b:=⟨_,rfl⟩
 obtain⟨d,hD⟩:∃d,ks.length=d:=⟨_,rfl⟩
 rw [hA]at l1 Hl hlo hhi;rw [hB]at l2 FI hkn hkd;rw [hD]at l3 HKK hkd hdc MX;rw [hA,hB,hD]at HR;rw [hA,hB,hD];have HA:=hid hA;have nL:=hid hB;have HD:=hid hD;have HSL:=hid MX;clear hA hB hD;have hk0:(dH k).kids=0:=by subst hk;rfl
 have hd0:d=0:=by
  rw [hk0]at hkd;unfold qj at hkd;rw [if_neg (by decide)]at hkd;omega
 have HT:Hid (Aj k text n ts ns S=sM k text n ts):=hid (by subst hk;rfl);have Yr:=hid hk;have HTL:=hid htl;have Yf:=hid En;have q7:(k==7)=false:=by rw [beq_eq_false_iff_ne];subst hk;decide
 have q9:(k==9)=false:=by rw [beq_eq_false_iff_ne];subst hk;decide
 have q10:(k==10)=false:=by rw [beq_eq_false_iff_ne];subst hk;decide
 have q8:(k==8)=false:=by rw [beq_eq_false_iff_ne];subst hk;decide
 have q17:(k==17)=false:=by rw [beq_eq_false_iff_ne];subst hk;decide
 have q5:(k==5)=false:=by rw [beq_eq_false_iff_ne];subst hk;decide
 have q6:(k==6)=false:=by rw [beq_eq_false_iff_ne];subst hk;decide
 have q11:(k==11)=false:=by rw [beq_eq_false_iff_ne];subst hk;decide
 have q12:(k==12)=false:=by rw [beq_eq_false_iff_ne];subst hk;decide
 have q13:(k==13)=false:=by rw [beq_eq_false_iff_ne];subst hk;decide
 have q14:(k==14)=false:=by rw [beq_eq_false_iff_ne];subst hk;decide
 have q15:(k==15)=false:=by rw [beq_eq_false_iff_ne];subst hk;decide
 have q16:(k==16)=false:=by rw [beq_eq_false_iff_ne];subst hk;decide
 subst hd0;clear hk hk0 hkd hkn htx hlo hhi hn0 hn1 En HKK Mv G9 Yo Yp Yn;obtain⟨OB,RP⟩:∃OB,Obj.cells #[.int .i64 k,sv text, .int .i64 n, .int .i64 li, .int .i64 co, .slice A1 a c1, .slice A2 b c2, .slice A3 0 c3] 52 (0,0)=OB:=⟨_,rfl⟩
 obtain⟨W,hW⟩:∃W,(w.alloc (.cells #[.int .i64 k,sv text, .int .i64 n, .int .i64 li, .int .i64 co, .slice A1 a c1, .slice A2 b c2, .slice A3 0 c3] 52)).alloc (.cells #[.slice none 0 0] 25)=W:=⟨_,rfl⟩
 have RQ:Hid (zm w W OB (.slice none 0 0) (S.take 0)):=hid (by
  rw [←hW, ←RP];exact⟨(mV w _ _).2,gq.nil _ _ _,(mV w _ _).1,((Below.refl _ _).alloc (Nat.le_refl _) _).alloc (by simp) _⟩)
 have oU:=hid RP;have zM:=hid hW;clear hW RP;go_enter Tryz.func57,Tryz.ntmps57;go_wp2_with fail;have hW:=zM.out;rw [hW];clear hW;go_loopw [10] (fun v10 wr=>v10= .int .i64 0∧wr=W) (fun _ _=>0)
 case atStart=>exact⟨rfl,rfl⟩
 case round=>
  obtain⟨rfl,rfl⟩:=hrel;have hat:=RQ.out;have hbr:=hat.below;obtain⟨g0,g1,g2,g3,g4,g5,g6,g7⟩:=jv (hat.node.trans (congrArg some oU.out.symm));have HC:=hid (Es wr _ k text n li co ts ns ks ((HR.out.keep hbr).more hbr.size) Yr.out);have HB:=hid hbr;clear hat hbr;go_wp2_with fail;refine HC.out.mono ?_;rintro e w2 ⟨rfl,hb⟩;go_wp2_with fail;go_ret;exact⟨by rw [HT.out];rfl,HB.out.trans (hb.mono HB.out.size)⟩
inductive RS:bR→Prop
 | name {t:Bt} {n l c:Int} {ts:List aZ} {ns:List Bt} {ks:List bR} (h:ks=[]):RS (.mk 4 t n l c ts ns ks)
 | op {t:Bt} {n l c:Int} {ts:List aZ} {ns:List Bt} {a b:bR}:RS a→RS b→RS (.mk 14 t n l c ts ns [a,b])
theorem Gy {x:bR} (h:RS x):UZ x:=by
 induction h with
 | @name t n l c ts ns ks h=>subst h;exact JU 4 rfl t n l c ts ns [] (fun y hy=>by cases hy)
 | @op t n l c ts ns a b _ _ ha hb=>exact MW t n l c ts ns [a,b] (fun y hy=>by
   rcases List.mem_cons.1 hy with rfl | hy
   ·exact ha
   ·rcases List.mem_cons.1 hy with rfl | hy
    ·exact hb
    ·cases hy)
theorem Gz (w:World) (z:List Value) (x:bR) (hsm:RS x) (hr:rA w w.heap.size z x) (hok:NH x) (hc:zh x≤300000) (hX:je w):
  Calls Tryz.prog 26 #[.agg z.toArray] w fun e w'=>e= .returned (sv (Aq x))∧Below w.heap.size w w':=by
 obtain⟨k,s,v2,v3,v4,A1,n1,c1,A2,n2,c2,A3,n3,c3,rfl⟩:=hr.shape;obtain⟨W1,hW1⟩:∃W1,W1=w.alloc (.cells #[.int .i64 k, .string s, .int .i64 v2, .int .i64 v3, .int .i64 v4, .slice A1 n1 c1, .slice A2 n2 c2, .slice A3 n3 c3] 52):=⟨_,rfl⟩
 have hb1:Below w.heap.size w W1:=by rw [hW1];exact(Below.refl _ _).alloc (Nat.le_refl _) _
 have hbx:W1.heap[w.heap.size]? =some (.cells #[.int .i64 k, .string s, .int .i64 v2, .int .i64 v3, .int .i64 v4, .slice A1 n1 c1, .slice A2 n2 c2, .slice A3 n3 c3] 52 (0,0)):=by rw [hW1];exact heap_alloc_new w _
 have HW:=Er 25 (by omega) W1 _ x (hr.far (Nat.le_refl _) hb1) hok (hX.below hb1);rw [hW1]at HW;have HW:=hid HW;have HB:=hid hb1;have zM:=hid hW1;have qB:=hid hbx;have HR:=hid hr;have HX:=hid hX;have G9:=hid hok;clear hb1 hbx hr hX hW1 hok;cases hq:dD 25 x with
 | false=>
  have HT:Hid (Aq x=[]):=hid (by unfold Aq;rw [hq];rfl);rw [hq]at HW;rw [HT.out];clear hq HT;go_enter Tryz.func26,Tryz.ntmps26;go_wp2_with fail;refine HW.out.mono ?_;rintro e w2 ⟨rfl,hb⟩;rw [←zM.out]at hb;go_wp2_with fail;go_ret;exact⟨rfl,HB.out.trans (hb.mono HB.out.size)⟩
 | true=>
  have HT:Hid (Aq x=nC x):=hid (by unfold Aq;rw [hq];rfl);rw [hq]at HW;rw [HT.out];have HS:Hid (∀w2,Below w.heap.size w w2→Calls Tryz.prog 57 #[.agg [.int .i64 k, .string s, .int .i64 v2, .int .i64 v3, .int .i64 v4, .slice A1 n1 c1, .slice A2 n2 c2, .slice A3 n3 c3].toArray] w2 fun e w'=>e= .returned (sv (nC x))∧Below w2.heap.size w2 w'):=hid (fun w2 hb2=>Gy hsm w2 _ 25 (HR.out.far (Nat.le_refl _) hb2) G9.out hq hc (HX.out.below hb2));clear hq HT HR;generalize nC x=u at*
  go_enter Tryz.func26,Tryz.ntmps26;go_wp2_with fail;refine HW.out.mono ?_;rintro e w2 ⟨rfl,hb⟩;rw [←zM.out]at hb;have HB2:=hid (HB.out.trans (hb.mono HB.out.size));obtain⟨g0,g1,g2,g3,g4,g5,g6,g7⟩:=jv ((hb.block _ (block_lt qB.out)).trans qB.out);clear hb;go_wp2_with fail;refine(HS.out _ HB2.out).mono ?_;rintro e w3 ⟨rfl,hb3⟩;go_wp2_with fail;go_ret;exact⟨rfl,HB2.out.trans (hb3.mono HB2.out.size)⟩
def RU:bR:= .mk 14 [45] 0 1 7 [] [] [(.mk 14 [45] 0 1 3 [] [] [(.mk 4 [97] 0 1 1 [] [] []),(.mk 4 [98] 0 1 5 [] [] [])]),(.mk 14 [42] 0 1 11 [] [] [(.mk 4 [99] 0 1 9 [] [] []),(.mk 4 [100] 0 1 13 [] [] [])])]
def Yt:aZ:= .mk 6 [] [] [(.mk 7 [] [] [(.mk 3 [] [] []),(.mk 1 [] [] [])]),(.mk 5 [] [[97]] [(.mk 4 [] [] [])])]
def Yu:zJ:=⟨[],[⟨[102],false,[],[120],[(.mk 0 [] [] []),(.mk 0 [] [] [])],(.mk 4 [120] 0 1 11 [] [] []),1,1⟩]⟩
theorem Qh:bH (bJ 100).expr [97,32,45,32,98,32,45,32,99,32,42,32,100]=(some RU,(0,0,0)):=by kernel_rfl
theorem Qi:bH (bJ 100).typ [105,110,116,32,124,32,110,117,108,108,32,45,62,32,123,97,58,32,115,116,114,125]=(some Yt,(0,0,0)):=by kernel_rfl
theorem Qj:bH dJ [102,110,32,102,40,120,41,32,61,32,120,59]=(some Yu,(0,0,0)):=by kernel_rfl
theorem U0:bH dJ [102,110,32,102,40,120,41,32,61,32,59]=(none,(1,11,7)):=by kernel_rfl
theorem Yv:RS RU:= .op (.op (.name rfl) (.name rfl)) (.op (.name rfl) (.name rfl))
theorem RV:Aq RU=[40,40,97,32,45,32,98,41,32,45,32,40,99,32,42,32,100,41,41]:=by kernel_rfl
theorem M0 {w:World} {F:Nat→Prop} {z:List Value} (h:Ie w F z Yu):∃A1 n1 c1 b o c2 A2 c3,z=[.slice A1 n1 c1, .slice (some ⟨b,o,none⟩) 1 c2]∧w.cell? ⟨b,o+4,none⟩=some (.slice A2 2 c3)∧b<w.heap.size∧1≤c2:=by
 obtain⟨A1,c1,A2,c2,xi,xd,rfl,h1,h2,h3,h4⟩:=h.all.parts;obtain⟨A,n,c,hv,hl,hn,hc,hx⟩:=h3;injection hv with hv1 hv2 hv3;have hv2:(1:Nat)=n:=hv2;subst hv1 hv3;subst hv2;obtain⟨b,o,rfl,hb,hcell⟩:=hx (by omega);have h4:dh (Co w w.heap.size) 15 xd [⟨[102],false,[],[120],[.mk 0 [] [] [], .mk 0 [] [] []], .mk 4 [120] 0 1 11 [] [] [],1,1⟩]:=h4;cases h4 with
 | cons hz hd ht=>
  cases ht;obtain⟨B1,d1,B2,d2,k,s,n,l,c,A3,n3,c3,A4,n4,c4,A5,n5,c5,xv,xt,rfl, _⟩:=hd.parts;exact⟨A1, _,c1,b,o,c2,B2,d2,rfl,hcell 4 _ rfl,hb,hn⟩
theorem JV {w:World} {F:Nat→Prop} {z:List Value} (h:oO w F z RU):∃A1 n1 c1 A2 n2 c2 A3 n3 c3,z=[.int .i64 14,sv [45], .int .i64 0, .int .i64 1, .int .i64 7, .slice A1 n1 c1, .slice A2 n2 c2, .slice A3 n3 c3]:=by
 cases h with
 | mk h1 h2 h3 h4 h5=>
  obtain⟨A1,n1,c1,rfl, _⟩:=h1;obtain⟨A2,n2,c2,rfl, _⟩:=h3;obtain⟨A3,n3,c3,rfl, _⟩:=h4;exact⟨_, _, _, _, _, _, _, _, _,rfl⟩
theorem JW {w:World} {F:Nat→Prop} {z:List Value} (h:kX w F z Yt):∃A1 n1 c1 A2 n2 c2,z=[.int .i64 6,sv [], .slice A1 n1 c1, .slice A2 n2 c2]:=by
 cases h with
 | mk h1 h2 h3=>
  obtain⟨A1,n1,c1,rfl, _⟩:=h1;obtain⟨A2,n2,c2,rfl, _⟩:=h2;exact⟨_, _, _, _, _, _,rfl⟩
theorem GA (w:World) (hX:jZ w):Calls Tryz.prog 18 #[] w fun e w'=>e= .returned (.bool true)∧Below w.heap.size w w':=by
 have HX:=hid hX;have HA:=hid (Mq w [97,32,45,32,98,32,45,32,99,32,42,32,100] hX);clear hX;go_enter Tryz.func18,Tryz.ntmps18;go_wp2_with fail;refine(HA.out).mono ?_;rintro e w1 ⟨hb1,z1,rfl,hz1⟩;rw [show qV (bJ 100).expr [97,32,45,32,98,32,45,32,99,32,42,32,100] wm=RU by unfold qV;rw [Qh];rfl]at hz1;rw [show(bH (bJ 100).expr [97,32,45,32,98,32,45,32,99,32,42,32,100]).2=(0,0,0) by rw [Qh]];obtain⟨A1,n1,c1,A2,n2,c2,A3,n3,c3,rfl⟩:=JV hz1;have hs1:=hb1.size;have HB1:=hid hb1;have HZ1:=hid hz1;have qJ:=hid (HX.out.below hb1);obtain⟨W1,hW1⟩:∃W1,(w1.alloc (.cells #[.int .i64 14, .string ⟨#[45]⟩, .int .i64 0, .int .i64 1, .int .i64 7, .slice A1 n1 c1, .slice A2 n2 c2, .slice A3 n3 c3] 52)).alloc (.cells #[.int .i64 0, .int .i64 0, .int .i64 0, .int .i64 0] 45)=W1:=⟨_,rfl⟩
 have OT:Below w1.heap.size w1 W1:=by rw [←hW1];exact new2 _ _ _
 obtain⟨_, _,hn1,hd1⟩:=gL (G:=fun _=>False) (Turn.refl _ ((w1.alloc (.cells #[.int .i64 14, .string ⟨#[45]⟩, .int .i64 0, .int .i64 1, .int .i64 7, .slice A1 n1 c1, .slice A2 n2 c2, .slice A3 n3 c3] 52)).alloc (.cells #[.int .i64 0, .int .i64 0, .int .i64 0, .int .i64 0] 45)));rw [hW1]at hn1 hd1;have abk:W1.heap.size=w1.heap.size+2:=by rw [←hW1];simp
 have Zn:=hid (hn1 id);have HD1:=hid (hd1 id);have Yw:=hid (hb1.trans (OT.mono hs1));have U1:=hid (qJ.out.below OT);have Yx:=hid (hz1.turn (Turn.of_below (F:=fun _=>False) OT) (fun _ _ _=>id));have HW1:=hid hW1;have HT:=hid (D9 W1 [105,110,116,32,124,32,110,117,108,108,32,45,62,32,123,97,58,32,115,116,114,125] U1.out);clear hb1 hz1 OT hn1 hd1 hW1;go_wp2_with fail;rw [HW1.out];refine(HT.out).mono ?_;rintro e w2 ⟨hb2,z2,rfl,hz2⟩;rw [show qV (bJ 100).typ [105,110,116,32,124,32,110,117,108,108,32,45,62,32,123,97,58,32,115,116,114,125] tZ=Yt by unfold qV;rw [Qi];rfl]at hz2;rw [show(bH (bJ 100).typ [105,110,116,32,124,32,110,117,108,108,32,45,62,32,123,97,58,32,115,116,114,125]).2=(0,0,0) by rw [Qi]];obtain⟨B1,m1,e1,B2,m2,e2,rfl⟩:=JW hz2;have hs2:=hb2.size;obtain⟨W2,hW2⟩:∃W2,(w2.alloc (.cells #[.int .i64 6, .string ⟨#[]⟩, .slice B1 m1 e1, .slice B2 m2 e2] 57)).alloc (.cells #[.int .i64 0, .int .i64 0, .int .i64 0, .int .i64 0] 45)=W2:=⟨_,rfl⟩
 have hbw2:Below w2.heap.size w2 W2:=by rw [←hW2];exact new2 _ _ _
 obtain⟨_, _,hn2,hd2⟩:=gL (G:=fun _=>False) (Turn.refl _ ((w2.alloc (.cells #[.int .i64 6, .string ⟨#[]⟩, .slice B1 m1 e1, .slice B2 m2 e2] 57)).alloc (.cells #[.int .i64 0, .int .i64 0, .int .i64 0, .int .i64 0] 45)));rw [hW2]at hn2 hd2;have abl:W2.heap.size=w2.heap.size+2:=by rw [←hW2];simp
 have Ed:=hb2.trans (hbw2.mono hs2);have QC:=hid (hn2 id);have HD2:=hid (hd2 id);have U2:=hid (Yw.out.trans (Ed.mono (by omega)));have JX:=hid Ed;have U3:=hid (U1.out.below Ed);have HW2:=hid hW2;have HP:=hid (D8 W2 [102,110,32,102,40,120,41,32,61,32,120,59] U3.out);clear hb2 hz2 hbw2 hn2 hd2 hW2 Ed;go_wp2_with fail;rw [HW2.out];refine(HP.out).mono ?_;rintro e w3 ⟨hb3,z3,rfl,hz3⟩;rw [show qV dJ [102,110,32,102,40,120,41,32,61,32,120,59] wh=Yu by unfold qV;rw [Qj];rfl]at hz3;rw [show(bH dJ [102,110,32,102,40,120,41,32,61,32,120,59]).2=(0,0,0) by rw [Qj]];obtain⟨G1,p1,q1,bd,od,q2,G2,q3,rfl,hty,hbl,hq2⟩:=M0 hz3;have hs3:=hb3.size;obtain⟨W3,hW3⟩:∃W3,(w3.alloc (.cells #[.slice G1 p1 q1, .slice (some ⟨bd,od,none⟩) 1 q2] 40)).alloc (.cells #[.int .i64 0, .int .i64 0, .int .i64 0, .int .i64 0] 45)=W3:=⟨_,rfl⟩
 have rZ:Below w3.heap.size w3 W3:=by rw [←hW3];exact new2 _ _ _
 obtain⟨_, _,Vd,hd3⟩:=gL (G:=fun _=>False) (Turn.refl _ ((w3.alloc (.cells #[.slice G1 p1 q1, .slice (some ⟨bd,od,none⟩) 1 q2] 40)).alloc (.cells #[.int .i64 0, .int .i64 0, .int .i64 0, .int .i64 0] 45)));rw [hW3]at Vd hd3;have abm:W3.heap.size=w3.heap.size+2:=by rw [←hW3];simp
 have OU:=hb3.trans (rZ.mono hs3);have Dn:=hid (Vd id);have HD3:=hid (hd3 id);have rM:=hid ((rZ.cell (p:=⟨bd,od+4,none⟩) hbl).trans hty);have U4:=hid (U2.out.trans (OU.mono (by have:=U2.out.size;omega)));have JY:=hid OU;have U5:=hid (U3.out.below OU);have HW3:=hid hW3;have HQ:=hid (D8 W3 [102,110,32,102,40,120,41,32,61,32,59] U5.out);clear hb3 hz3 rZ Vd hd3 hW3 OU hty;go_wp2_with fail;rw [HW3.out];refine(HQ.out).mono ?_;rintro e w4 ⟨hb4,z4,rfl,SC⟩;rw [show(bH dJ [102,110,32,102,40,120,41,32,61,32,59]).2=(1,11,7) by rw [U0]];have hzc:=SC;obtain⟨vi,xi,vd,xd,rfl,⟨K1,r1,r2,rfl, _⟩, _,⟨K2,r3,r4,rfl, _⟩, _⟩:=hzc;have hs4:=hb4.size;obtain⟨W4,Kl⟩:∃W4,(w4.alloc (.cells #[.slice K1 r1 r2, .slice K2 r3 r4] 40)).alloc (.cells #[.int .i64 0, .int .i64 1, .int .i64 11, .int .i64 7] 45)=W4:=⟨_,rfl⟩
 have Ab:Below w4.heap.size w4 W4:=by rw [←Kl];exact new2 _ _ _
 obtain⟨_, _, _,hd4⟩:=gL (G:=fun _=>False) (Turn.refl _ ((w4.alloc (.cells #[.slice K1 r1 r2, .slice K2 r3 r4] 40)).alloc (.cells #[.int .i64 0, .int .i64 1, .int .i64 11, .int .i64 7] 45)));rw [Kl]at hd4;have RX:W4.heap.size=w4.heap.size+2:=by rw [←Kl];simp
 have Et:=hb4.trans (Ab.mono hs4);have JZ:=hid (U4.out.trans (Et.mono (by have:=U4.out.size;omega)));have OV:Below W1.heap.size W1 W4:=(JX.out.trans (JY.out.mono JX.out.size)).trans (Et.mono (by have:=JX.out.size;have:=JY.out.size;omega));have RY:Below W2.heap.size W2 W4:=JY.out.trans (Et.mono JY.out.size);have HD4:=hid (hd4 id);have RZ:=hid ((OV.block w1.heap.size (by omega)).trans Zn.out);have abn:=hid ((OV.block (w1.heap.size+1) (by omega)).trans HD1.out);have R3:=hid ((RY.block w2.heap.size (by omega)).trans QC.out);have R4:=hid ((RY.block (w2.heap.size+1) (by omega)).trans HD2.out);have R5:=hid ((Et.block w3.heap.size (by omega)).trans Dn.out);have R6:=hid ((Et.block (w3.heap.size+1) (by omega)).trans HD3.out);have Yy:=hid ((Et.cell (p:=⟨bd,od+4,none⟩) (by show bd< _;omega)).trans rM.out);have U6:=Yx.out.turn (Turn.of_below (F:=fun _=>False) OV) (fun _ _ _=>id);have HE:=hid (Gz W4 _ RU Yv U6.all (by unfold RU;simp [NH,IU,IQ,In64,maxLen]) (by decide) (U5.out.below Et).t);rw [RV]at HE;have U7:=hid Kl;have HE:=hid (by have h:=HE;rw [←Kl]at h;exact h);have Eu:Below W1.heap.size W1 w4:=(JX.out.trans (JY.out.mono JX.out.size)).trans (hb4.mono (by have:=JX.out.size;have:=JY.out.size;omega));obtain⟨x0,x1,x2,x3,x4,x5,x6,x7,xz⟩:=aP ((Eu.block w1.heap.size (by omega)).trans Zn.out);obtain⟨a0,a1,a2,a3,az⟩:=bS ((Eu.block (w1.heap.size+1) (by omega)).trans HD1.out);have abo:w1.heap.size<w4.heap.size:=by have:=Eu.size;omega
 have TV:w1.heap.size+1<w4.heap.size:=by have:=Eu.size;omega
 clear Eu;have DT:=hid RX;clear hb4 SC Ab hd4 Kl Et OV RY U6;go_wp2_with fail;refine(HE.out).mono ?_;rintro e w5 ⟨rfl,hb5⟩;rw [U7.out]at hb5;have EW:=hid (JZ.out.trans (hb5.mono (by have:=JZ.out.size;omega)));have hs5:=hb5.size;clear x0 x1 x2 x3 x4 x5 x6 x7 xz a0 a1 a2 a3 az;have RZ:=hid ((hb5.block w1.heap.size (by omega)).trans RZ.out);have R4:=hid ((hb5.block (w2.heap.size+1) (by omega)).trans R4.out);have R3:=hid ((hb5.block w2.heap.size (by omega)).trans R3.out);have R5:=hid ((hb5.block w3.heap.size (by omega)).trans R5.out);have R6:=hid ((hb5.block (w3.heap.size+1) (by omega)).trans R6.out);have Yz:=hid ((hb5.block (w4.heap.size+1) (by omega)).trans HD4.out);have hty:=(hb5.cell (p:=⟨bd,od+4,none⟩) (by show bd< _;omega)).trans Yy.out;obtain⟨x0,x1,x2,x3,x4,x5,x6,x7,xz⟩:=aP RZ.out;obtain⟨b0,b1,b2,b3,bz⟩:=bS R4.out;obtain⟨y0,y1,y2,y3,yz⟩:=bS R3.out;obtain⟨m0,m1',mz⟩:=yU R5.out;obtain⟨d0,d1,d2,d3,dz⟩:=bS R6.out;obtain⟨f0,f1,f2,f3,fz⟩:=bS Yz.out;clear hb5;go_wp2_with fail;go_ret;exact⟨rfl,EW.out⟩
structure SmM (m:zJ):Prop where
 imps:m.imps.length≤100
 decls:m.decls.length≤100
 names:∀i∈m.imps,i.names.length≤100
 vars:∀d∈m.decls,d.vars.length≤100
 types:∀d∈m.decls,d.types.length≤100
 bounds:∀d∈m.decls,∀v∈d.vars,iL v.bound≤300000
 sorts:∀d∈m.decls,fH d.types≤300000
 body:∀d∈m.decls,zh d.body≤300000
theorem GD {a b:List Bt} {i:Nat} (ha:i<a.length) (hb:i<b.length) (h:a.take i=b.take i) (h2:a[i]=b[i]):a.take (i+1)=b.take (i+1):=by
 rw [List.take_succ_eq_append_getElem ha,List.take_succ_eq_append_getElem hb,h,h2]
theorem J2 (va vb:Value) (a b:List Bt) (w:World) (ha:Ss w w.heap.size va a) (hb:Ss w w.heap.size vb b):
  Calls Tryz.prog 42 #[va,vb] w fun e w'=>e= .returned (.bool (decide (a=b)))∧Below w.heap.size w w':=by
 have HA:=hid ha;have HB:=hid hb;obtain⟨A,ca,rfl⟩:=dS ha (by omega) (m:=a.length) (by rw [dR];omega);obtain⟨B,cb,rfl⟩:=dS hb (by omega) (m:=b.length) (by rw [dR];omega);have l1:=(cu ha).2;have l2:=(cu hb).2;clear ha hb;by_cases hl:a.length=b.length
 case neg=>
  have g:((a.length:Int) != (b.length:Int))=true:=by rw [bne_iff_ne];omega
  have HR:Hid (decide (a=b)=false):=hid (decide_eq_false (fun h=>hl (by rw [h])));clear hl;go_enter Tryz.func42,Tryz.ntmps42;go_wp2_with fail;go_ret;exact⟨by rw [HR.out];rfl,Below.refl _ _⟩
 obtain⟨n,hn⟩:∃n,a.length=n:=⟨_,rfl⟩
 have hm:b.length=n:=by omega
 rw [hn]at HA l1;rw [hm]at HB l2;rw [hn,hm];have HN:=hid hn;have HM:=hid hm;clear hl hn hm;go_enter Tryz.func42,Tryz.ntmps42;go_wp2_with fail;go_loopw [5] (fun v5 wr=>∃i:Nat,v5= .int .i64 i∧i≤n∧a.take i=b.take i∧Below w.heap.size w wr) (fun v5 _=>n - (intOf v5).toNat)
 case atStart=>exact⟨0,rfl,by omega,by simp,Below.refl _ _⟩
 case round=>
  obtain⟨i,rfl,hi,heq,hbr⟩:=hrel;have HE:=hid heq;have EZ:=hid hbr;clear heq;by_cases hlt:i<n
  ·have hia:i<a.length:=by rw [HN.out];exact hlt
   have hib:i<b.length:=by rw [HM.out];exact hlt
   obtain⟨b1,o1,rfl,d0⟩:=Cb (Sl.below HA.out hbr) hia;obtain⟨b2,o2,rfl,d1⟩:=Cb (Sl.below HB.out hbr) hib;have CU:Hid (a[i]=b[i]→a.take (i+1)=b.take (i+1)):=hid (fun h=>GD hia hib HE.out h);have VW:Hid (¬a[i]=b[i]→decide (a=b)=false):=hid (fun h=>decide_eq_false (fun h2=>h (by subst h2;rfl)));have D0:=hid d0;have D1:=hid d1;have HB0:Hid (Below wr.heap.size wr wr.drew):=hid (aN wr 1);generalize a[i]=X at*
   generalize b[i]=Y at*
   clear hbr d0 d1;by_cases hxy:X=Y
   ·have H9:=hid (CU.out hxy);subst hxy;clear CU VW;go_wp2_with fail;refine wp_region_held_drew (S:=fun w'=>Below wr.heap.size wr w') (by kernel_rfl) HB0.out (fun _=> ?_)
    try simp only [Act.put,sq]
    refine tk 0 (.slice (some ⟨b1,o1,none⟩) n ca) HB0.out ?_;refine tk 1 (.int .i64 i) HB0.out ?_;refine tk 2 (.pointer (some ⟨b1,o1+i,none⟩)) HB0.out ?_;refine uK 3 (sv X) (Ct D0.out) HB0.out ?_;refine tk 4 (.slice (some ⟨b2,o2,none⟩) n cb) HB0.out ?_;refine tk 5 (.int .i64 i) HB0.out ?_;refine tk 6 (.pointer (some ⟨b2,o2+i,none⟩)) HB0.out ?_;refine uK 7 (sv X) (Ct D1.out) HB0.out ?_;refine tk 8 (.bool false) HB0.out ?_;refine wpAnyH_done (by kernel_rfl) ?_ _;go_wp2_with fail
    go_roundw
    case rel=>exact⟨i+1,rfl,by omega,H9.out,EZ.out.trans (HB0.out.mono EZ.out.size)⟩
    case measure=>simp [intOf];omega
   ·have g:(X != Y)=true:=by rw [bne_iff_ne];exact hxy
    have H9:=hid (VW.out hxy);go_wp2_with fail;refine wp_region_held_drew (S:=fun w'=>Below wr.heap.size wr w') (by kernel_rfl) HB0.out (fun _=> ?_)
    try simp only [Act.put,sq]
    refine tk 0 (.slice (some ⟨b1,o1,none⟩) n ca) HB0.out ?_;refine tk 1 (.int .i64 i) HB0.out ?_;refine tk 2 (.pointer (some ⟨b1,o1+i,none⟩)) HB0.out ?_;refine uK 3 (sv X) (Ct D0.out) HB0.out ?_;refine tk 4 (.slice (some ⟨b2,o2,none⟩) n cb) HB0.out ?_;refine tk 5 (.int .i64 i) HB0.out ?_;refine tk 6 (.pointer (some ⟨b2,o2+i,none⟩)) HB0.out ?_;refine uK 7 (sv Y) (Ct D1.out) HB0.out ?_;refine tk 8 (.bool true) HB0.out ?_;refine wpAnyH_done (by kernel_rfl) ?_ _;go_wp2_with fail;go_ret;exact⟨by rw [H9.out];rfl,EZ.out.trans (HB0.out.mono EZ.out.size)⟩
  ·obtain rfl:i=n:=by omega
   have H9:Hid (decide (a=b)=true):=hid (decide_eq_true (by
    have h:=HE.out;rw [List.take_of_length_le (by rw [HN.out];omega),List.take_of_length_le (by rw [HM.out];omega)]at h;exact h))
   clear hbr hlt;go_wp2_with fail;go_ret;exact⟨by rw [H9.out];rfl,EZ.out⟩
end Go.Proofs.YtfgjkmipfikooaaGreatDoor
