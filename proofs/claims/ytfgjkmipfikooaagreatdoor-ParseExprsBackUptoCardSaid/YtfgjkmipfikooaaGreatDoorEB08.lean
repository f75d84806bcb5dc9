/- UI, TL, TM, YG, YE, YV, YH, YF, UM, UN -/
import Derived.Test.YtfgjkmipfikooaaGreatDoorEB07
set_option linter.unusedSimpArgs false
set_option linter.unusedVariables false
set_option maxRecDepth 100000
set_option maxHeartbeats 8000000
namespace Go.Proofs.YtfgjkmipfikooaaGreatDoor
open Go.RowKit
def NdC (m:Nat):Prop:=∀(w:World) (z:List Value) (x:bF),tT w w.heap.size z x->GN x->kX w->
 Calls Tryz.prog 56 #[.agg z.toArray,.int .i64 m] w fun e w'=>e=.returned (.bool (dx m x))∧Below w.heap.size w w'
theorem Kn (m:Nat)(k:Int)(text:Bt)(n li co:Int)(ts:List bC)(ns:List Bt)(ks:List bF):dx (m+1) (.mk k text n li co ts ns ks)=
  (decide (0<=k∧k<20) && Ca k text n ts.length ns.length ks.length && ns.all dM && ts.all (aK 16) && ks.all (dx m)):=rfl
theorem NZ:NdC 0:=by
 intro w z x hr hok hX;have hw:dx 0 x=false:=rfl;rw [hw];obtain⟨k,s,n,l,o,A1,n1,c1,A2,n2,c2,A3,n3,c3,rfl⟩:=hr.shape;have HB:bR (Below w.heap.size w (w.alloc (.cells #[.int .i64 k,.string s,.int .i64 n,.int .i64 l,.int .i64 o,.slice A1 n1 c1,.slice A2 n2 c2,.slice A3 n3 c3] 52))):=aZ ((Below.refl _ _).alloc (Nat.le_refl _) _);clear hr hok hX hw;go_enter Tryz.func56,Tryz.ntmps56;go_wp2_with fail;go_ret;exact⟨rfl,HB.o⟩
def jA (k:Int)(names:Nat):Int:=if k<0 then names else k
theorem CJ (k:Int)(text:Bt)(n:Int)(a b d:Nat):Ca k text n a b d=(decide (0<=n∧n<=(dK k).most) && qx k text (dK k).name && decide ((dK k).low<=a∧a<=(dK k).types) && (decide ((dK k).kids<0∨b=0) && decide ((d:Int)=jA (dK k).kids b))):=by
 unfold Ca jA;congr 1;by_cases h:(dK k).kids<0
 ·rw [if_pos h,if_pos h];by_cases h2:d=b
  ·subst h2;simp [h]
  ·have:¬(d:Int)=(b:Int):=by omega
   simp [h,h2,this]
 ·rw [if_neg h,if_neg h];by_cases h2:b=0
  ·subst h2;by_cases h3:(d:Int)=(dK k).kids
   ·simp [h3]
   ·simp [h3]
  ·simp [h,h2]
theorem uG {P:Program}{ops:Array Oper}{o:Oper}{a:Act}{w:World}{K:Act->World->Prop}{Q:Exit->Act->World->Prop}{E:Prop}(hgd:o.guard=none)(ty:TypeId)(x y:Operand)(ho:o.op=.store ty x y)
  (g:Nat) (cells:Array Value) (hx:a.eval x=.pointer (some ⟨g,0,none⟩)) (hy:a.eval y=.agg cells)
  (t:TypeId) (old:Array Value) (hg:w.heap[g]? =some (.cells old t (0,0))) (hi:(P.info? ty).map (·.size)=some cells.size)
  (hold:old.size=cells.size) (h1:cells.all (·.oneCell')=true) (h:K (a.put o.dst undef) (w.setRow g cells)):
  if Region.wanted o (yielded ops a.tmps)=true then Oper.wp P o a w K Q else E:=by
 have hw:Region.wanted o (yielded ops a.tmps)=true:=by simp [Region.wanted,hgd]
 rw [if_pos hw];exact wp_store_row ty x y ho g cells hx hy t old hg hi hold h1 h
theorem N7 (m:Nat)(hm:m<=40)(ih:NdC m):NdC (m+1):=by
 intro w z x hr hok hX;obtain⟨k,text,n,li,co,ts,ns,ks⟩:=x;rw [GN]at hok;obtain⟨ok1,TK,Qp,Vd,Za,Yo,Yp,Vi⟩:=hok;obtain⟨A1,c1,A2,c2,A3,c3,xt,xk,rfl,s1,r1,s2,s3,r3⟩:=hr.parts;have l1:=(bN s1).2;have l2:=(bN s2).2;have l3:=(bN s3).2;have Mr:=Kn m k text n li co ts ns ks;rw [CJ]at Mr;obtain⟨res,hres⟩:∃res,dx (m+1) (.mk k text n li co ts ns ks)=res:=⟨_,rfl⟩
 rw [hres]at Mr ⊢;clear hres hr;obtain⟨W,hW⟩:∃W,w.alloc (.cells #[.int .i64 k,sv text,.int .i64 n,.int .i64 li,.int .i64 co,.slice A1 ts.length c1,.slice A2 ns.length c2,.slice A3 ks.length c3] 52)=W:=⟨_,rfl⟩
 have hb1:Below w.heap.size w W:=by rw [<-hW];exact(Below.refl _ _).alloc (Nat.le_refl _) _
 have hbx:W.heap[w.heap.size]? =some (.cells #[.int .i64 k,sv text,.int .i64 n,.int .i64 li,.int .i64 co,.slice A1 ts.length c1,.slice A2 ns.length c2,.slice A3 ks.length c3] 52 (0,0)):=by rw [<-hW];exact heap_alloc_new w _
 have HX:=aZ (hX.below hb1);have DW:=aZ (And.intro (Sl.more (Sl.below s1 hb1) hb1.size) ((r1.keep hb1).more hb1.size));have HKK:=aZ (And.intro (Sl.more (Sl.below s3 hb1) hb1.size) ((r3.keep hb1).more hb1.size));have hs2:=Sl.more (Sl.below s2 hb1) hb1.size;have O4:=aZ (fun wr (h:Below W.heap.size W wr)=>Cq _ ns wr (Sl.more (Sl.below hs2 h) h.size) Yp (HX.o.below h));have WC:=aZ (fun wr (h:Below W.heap.size W wr) (b:Bool) (a1 a2 a3 a4:Int)=>QM wr k text n li co A1 ts.length c1 A2 ns.length c2 A3 ks.length c3 TK (HX.o.below h) b a1 a2 a3 a4);have HOT:=aZ Yo;have Mg:=aZ (uj.1 Vi);have Qo:=aZ ih;have O6:=aZ (zT 16 (by omega));have vo:=aZ hbx;have HB1:=aZ hb1;have Ko:=aZ Mr;have uW:=aZ hW;have FV:=Qp;clear s1 r1 s2 s3 r3 ok1 TK Qp Vd Za Yo Yp Vi hX ih hb1 hbx Mr hs2 hW;obtain⟨a,hA⟩:∃a,ts.length=a:=⟨_,rfl⟩
 obtain⟨b,hB⟩:∃b,ns.length=b:=⟨_,rfl⟩
 obtain⟨d,hD⟩:∃d,ks.length=d:=⟨_,rfl⟩
 rw [hA]at l1 DW WC vo uW Ko ⊢;rw [hB]at l2 O4 WC vo uW Ko ⊢;rw [hD]at l3 HKK WC vo uW Ko ⊢;have HA:=aZ hA;have HD:=aZ hD;clear hA hB hD;have hm0:(((m:Int)+1)==0)=false:=by rw [beq_eq_false_iff_ne];omega
 have hm1:(((m+1:Nat):Int)==0)=false:=by rw [beq_eq_false_iff_ne];omega
 generalize ns.all dM=q at*
 by_cases h0:k<0
 ·have g4:decide (k<0)=true:=by simpa using h0
  have HF:bR (res=false):=aZ (by rw [Ko.o,decide_eq_false (by omega:¬(0<=k∧k<20))];rfl);clear h0 FV;go_enter Tryz.func56,Tryz.ntmps56;go_wp2_with fail;go_ret;refine⟨by rw [HF.o];rfl,?_⟩;rw [uW.o];exact HB1.o
 have g4:decide (k<0)=false:=by simpa using h0
 by_cases h20:20<=k
 ·have g5:decide (20<=k)=true:=by simpa using h20
  have HF:bR (res=false):=aZ (by rw [Ko.o,decide_eq_false (by omega:¬(0<=k∧k<20))];rfl);clear h0 h20 FV;go_enter Tryz.func56,Tryz.ntmps56;go_wp2_with fail;go_ret;refine⟨by rw [HF.o];rfl,?_⟩;rw [uW.o];exact HB1.o
 have g5:decide (20<=k)=false:=by simpa using h20
 have HRK:bR (res=(decide (0<=n∧n<=(dK k).most) && qx k text (dK k).name && decide ((dK k).low<=a∧a<=(dK k).types) && (decide ((dK k).kids<0∨b=0) && decide ((d:Int)=jA (dK k).kids b)) && q && ts.all (aK 16) && ks.all (dx m))):=aZ (by rw [Ko.o,decide_eq_true (by omega:0<=k∧k<20),Bool.true_and]);have Tk:=aZ (fun w1=>(NY w1).mono fun e w' (h: _∧ _)=>(⟨h.1.imp fun v hv=>⟨hv.1,hv.2 k (by omega) (by omega)⟩,h.2⟩:(∃v,e=.returned v∧∀u,(Instr.index 175 v (.int .i64 k)).run Tryz.prog u=.ok (QN (dK k)) u)∧Below w1.heap.size w1 w'));have Zb:=aZ FV;clear h0 h20 Ko FV;go_enter Tryz.func56,Tryz.ntmps56
 go_upto_region 3 with(fail)
 have hW:=uW.o;rw [hW];clear hW hm0 hm1 g4 g5
 go_cut [5]from 10 (fun v5 wc=>∃b5,v5=.pointer (some ⟨b5,0,none⟩)∧W.heap.size<=b5∧wc.heap[b5]? =some (.cells #[.bool (dK k).name,.int .i64 ((dK k).low:Int),.int .i64 ((dK k).types:Int),.int .i64 (dK k).kids,.int .i64 (dK k).most] 174 (0,0))∧Below W.heap.size W wc)
 case first=>
  obtain⟨g0,_⟩:=gN vo.o;have G0:=aZ g0;clear g0;have HB0:bR (Below W.heap.size W W.drew):=aZ (aH W 1);refine wp_region_held_drew (S:=fun w'=>Below W.heap.size W w') (by kernel_rfl) HB0.o (fun _=>?_)
  try simp only [Act.put,sq]
  refine tk 1 (.pointer (some ⟨w.heap.size,0,none⟩)) HB0.o ?_;refine jE 2 (.int .i64 k) (kU G0.o) HB0.o ?_;refine wpAnyH_ready (rs:=[0,4]) (by kernel_rfl) (by simp) ?_;refine AllReadyH.cons rfl (fun K hK=>?_) (AllReadyH.cons rfl (fun K hK=>?_) AllReadyH.nil)
  ·go_simp;refine(Tk.o _).mono ?_;rintro e w2 ⟨⟨v,rfl,hix⟩,hb⟩;have HB2:=aZ (HB0.o.trans (hb.mono HB0.o.size));have Zc:=aZ hix;clear hb hix;refine hK.out _ _ HB2.o (fun _=>?_);clear hK K
   try simp only [Act.put,sq]
   refine wpAnyH_take (i:=3) (v:=(QN (dK k))) rfl (by kernel_rfl) (by kernel_rfl) (by kernel_rfl) (fun _ _ _ h=>h) (Or.inl ⟨by kernel_rfl,by intro w' hSw;have hix:=Zc.o;go_simp⟩) HB2.o ?_
   try simp only [Act.put,sq]
   refine wpAnyH_ready (rs:=[4]) (by kernel_rfl) (by simp) ?_;refine AllReadyH.cons rfl (fun K hK=>?_) (AllReadyH.nil);go_simp;have HB3:=aZ (HB2.o.alloc HB2.o.size (.cells #[.bool false,.int .i64 0,.int .i64 0,.int .i64 0,.int .i64 0] 174));have hzz:=heap_alloc_new w2 (.cells #[.bool false,.int .i64 0,.int .i64 0,.int .i64 0,.int .i64 0] 174);refine hK.out _ _ HB3.o (fun _=>?_);clear hK K
   try simp only [Act.put,sq]
   refine wpAnyH_ready (rs:=[5]) (by kernel_rfl) (by simp) ?_;refine AllReadyH.cons rfl (fun K hK=>?_) AllReadyH.nil;refine uG rfl _ _ _ rfl w2.heap.size #[.bool (dK k).name,.int .i64 ((dK k).low:Int),.int .i64 ((dK k).types:Int),.int .i64 (dK k).kids,.int .i64 (dK k).most] rfl rfl _ _ hzz (by kernel_rfl) rfl (by simp [Value.oneCell']) ?_;have QO:=setRow_heap _ w2.heap.size _ #[.bool (dK k).name,.int .i64 ((dK k).low:Int),.int .i64 ((dK k).types:Int),.int .i64 (dK k).kids,.int .i64 (dK k).most] _ _ hzz;have WE:=aZ (below_setRow HB3.o HB2.o.size #[.bool (dK k).name,.int .i64 ((dK k).low:Int),.int .i64 ((dK k).types:Int),.int .i64 (dK k).kids,.int .i64 (dK k).most]);have HZ2:=aZ QO;clear hzz QO;refine hK.out _ _ WE.o (fun _=>?_);clear hK K
   try simp only [Act.put,sq]
   refine wpAnyH_done (by kernel_rfl) ?_ _;go_wp2_with fail
   go_meet
   case rel=>exact⟨_,rfl,HB2.o.size,HZ2.o,WE.o⟩
  ·go_simp;have HB3:=aZ (HB0.o.alloc HB0.o.size (.cells #[.bool false,.int .i64 0,.int .i64 0,.int .i64 0,.int .i64 0] 174));refine hK.out _ _ HB3.o (fun _=>?_);clear hK K
   try simp only [Act.put,sq]
   refine wpAnyH_ready (rs:=[0]) (by kernel_rfl) (by simp) ?_;refine AllReadyH.cons rfl (fun K hK=>?_) AllReadyH.nil;go_simp;refine(Tk.o _).mono ?_;rintro e w2 ⟨⟨v,rfl,hix⟩,hb⟩;have hzz:=(hb.block _ (block_lt (heap_alloc_new W.drew (.cells #[.bool false,.int .i64 0,.int .i64 0,.int .i64 0,.int .i64 0] 174)))).trans (heap_alloc_new W.drew (.cells #[.bool false,.int .i64 0,.int .i64 0,.int .i64 0,.int .i64 0] 174));have tC:=aZ (HB3.o.trans (hb.mono HB3.o.size));have Zc:=aZ hix;clear hb hix;refine hK.out _ _ tC.o (fun _=>?_);clear hK K
   try simp only [Act.put,sq]
   refine wpAnyH_take (i:=3) (v:=(QN (dK k))) rfl (by kernel_rfl) (by kernel_rfl) (by kernel_rfl) (fun _ _ _ h=>h) (Or.inl ⟨by kernel_rfl,by intro w' hSw;have hix:=Zc.o;go_simp⟩) tC.o ?_
   try simp only [Act.put,sq]
   refine wpAnyH_ready (rs:=[5]) (by kernel_rfl) (by simp) ?_;refine AllReadyH.cons rfl (fun K hK=>?_) AllReadyH.nil;refine uG rfl _ _ _ rfl W.heap.size #[.bool (dK k).name,.int .i64 ((dK k).low:Int),.int .i64 ((dK k).types:Int),.int .i64 (dK k).kids,.int .i64 (dK k).most] rfl rfl _ _ hzz (by kernel_rfl) rfl (by simp [Value.oneCell']) ?_;have QO:=setRow_heap _ W.heap.size _ #[.bool (dK k).name,.int .i64 ((dK k).low:Int),.int .i64 ((dK k).types:Int),.int .i64 (dK k).kids,.int .i64 (dK k).most] _ _ hzz;have WE:=aZ (below_setRow tC.o (Nat.le_refl _) #[.bool (dK k).name,.int .i64 ((dK k).low:Int),.int .i64 ((dK k).types:Int),.int .i64 (dK k).kids,.int .i64 (dK k).most]);have HZ2:=aZ QO;clear hzz QO;refine hK.out _ _ WE.o (fun _=>?_);clear hK K
   try simp only [Act.put,sq]
   refine wpAnyH_done (by kernel_rfl) ?_ _;go_wp2_with fail
   go_meet
   case rel=>exact⟨_,rfl,(Nat.le_refl _),HZ2.o,WE.o⟩
 case rest=>
  obtain⟨b5,rfl,hb5,hrow,hbw⟩:=hcut;generalize(dK k).name=hn at*
  generalize(dK k).low=lo at*
  generalize(dK k).types=hi at*
  generalize(dK k).kids=kd at*
  generalize(dK k).most=mo at*
  have fI:=aZ hrow;have ng:=aZ hbw;clear Tk hrow hbw
  go_upto_block 0 with(fail)
  obtain⟨kv,hkv⟩:∃kv,jA kd b=kv:=⟨_,rfl⟩
  rw [hkv]at HRK;have HKV:=aZ hkv;clear hkv
  go_cut [5]from 10 (fun v5 wc=>v5=.pointer (some ⟨b5,0,none⟩)∧(kd<0∨b=0)∧wc.heap[b5]? =some (.cells #[.bool hn,.int .i64 lo,.int .i64 hi,.int .i64 kv,.int .i64 mo] 174 (0,0))∧Below W.heap.size W wc)
  case first=>
   obtain⟨e0,e1,e2,e3,e4⟩:=FR fI.o;have f3:=bI fI.o 3;obtain⟨p0,p1,p2,p3,p4,p5,p6,p7⟩:=gN ((ng.o.block _ (block_lt vo.o)).trans vo.o);clear e0 e1 e2 e4 p0 p1 p2 p3 p4 p5 p7;by_cases hk:kd<0
   ·have g1:decide (kd<0)=true:=by simpa using hk
    have HV:bR (kv=(b:Int)):=aZ (by rw [<-HKV.o];unfold jA;rw [if_pos hk]);have Ih:=aZ hk;clear hk;go_wp2_with fail
    go_meet
    case rel=>
     refine⟨rfl,.inl Ih.o,?_,ng.o.trans ((ak wc b5 3 (.int .i64 b)).below ng.o.size (fun j hj e=>by omega))⟩;rw [HV.o];exact heap_setCell_same wc b5 3 _ _ _ fI.o
   ·have g1:decide (kd<0)=false:=by simpa using hk
    have HV:bR (kv=kd):=aZ (by rw [<-HKV.o];unfold jA;rw [if_neg hk]);have Ih:=aZ hk;clear hk;by_cases hb0:0<b
    ·have g2:decide ((0:Int)<(b:Int))=true:=by simp;omega
     have HF:bR (res=false):=aZ (by rw [HRK.o,decide_eq_false (by have:=Ih.o;omega:¬(kd<0∨b=0))];simp);go_wp2_with fail;go_ret;refine⟨by rw [HF.o];rfl,HB1.o.trans (ng.o.mono HB1.o.size)⟩
    ·have g2:decide ((0:Int)<(b:Int))=false:=by simp;omega
     have acj:bR (b=0):=aZ (by omega);go_wp2_with fail
     go_meet
     case rel=>
      refine⟨rfl,.inr acj.o,?_,ng.o⟩;rw [HV.o];exact fI.o
  case rest=>
   rename_i wc0
   clear fI ng HKV;obtain⟨rfl,hkb,hrow,hbw⟩:=hcut;have HRR:bR (res=(decide (0<=n∧n<=mo) && qx k text hn && decide (lo<=a∧a<=hi) && decide ((d:Int)=kv) && q && ts.all (aK 16) && ks.all (dx m))):=aZ (by rw [HRK.o,decide_eq_true hkb,Bool.true_and]);have N8:=aZ (WC.o wc hbw hn lo hi kv mo);have fI:=aZ hrow;have ng:=aZ hbw;obtain⟨e0,e1,e2,e3,e4⟩:=FR hrow;obtain⟨p0,p1,p2,p3,p4,p5,p6,p7⟩:=gN ((hbw.block _ (block_lt vo.o)).trans vo.o);clear WC HRK hkb hrow hbw;generalize qx k text hn=tb at*
   by_cases n0:n<0
   ·have g1:decide (n<0)=true:=by simpa using n0
    have HF:bR (res=false):=aZ (by rw [HRR.o,decide_eq_false (by omega:¬(0<=n∧n<=mo))];simp);clear n0;go_wp2_with fail;go_ret;refine⟨by rw [HF.o];rfl,HB1.o.trans (ng.o.mono HB1.o.size)⟩
   have g1:decide (n<0)=false:=by simpa using n0
   by_cases n1:mo<n
   ·have g2:decide (mo<n)=true:=by simpa using n1
    have HF:bR (res=false):=aZ (by rw [HRR.o,decide_eq_false (by omega:¬(0<=n∧n<=mo))];simp);clear n0 n1;go_wp2_with fail;go_ret;refine⟨by rw [HF.o];rfl,HB1.o.trans (ng.o.mono HB1.o.size)⟩
   have g2:decide (mo<n)=false:=by simpa using n1
   have Ms:bR (res=(tb && decide (lo<=a∧a<=hi) && decide ((d:Int)=kv) && q && ts.all (aK 16) && ks.all (dx m))):=aZ (by rw [HRR.o,decide_eq_true (by omega:0<=n∧n<=mo),Bool.true_and]);clear HRR n0 n1;go_wp2_with fail;refine N8.o.mono ?_;rintro e w3 ⟨rfl,hb3⟩;have wF:=ng.o.trans (hb3.mono ng.o.size);have hrow3:=(hb3.block _ (block_lt fI.o)).trans fI.o;have HB3:=aZ wF;have ru:=aZ hrow3;have HNW:=aZ (O4.o w3 wF);clear e0 e1 e2 e3 e4 p0 p1 p2 p3 p4 p5 p6 p7 hb3;obtain⟨e0,e1,e2,e3,e4⟩:=FR hrow3;obtain⟨p0,p1,p2,p3,p4,p5,p6,p7⟩:=gN ((wF.block _ (block_lt vo.o)).trans vo.o);clear wF hrow3 O4 N8 ng fI;cases tb with
   |false=>
    have HF:bR (res=false):=aZ (by rw [Ms.o];simp);go_wp2_with fail;go_ret;refine⟨by rw [HF.o];rfl,HB1.o.trans (HB3.o.mono HB1.o.size)⟩
   |true=>
    go_wp2_with fail;refine HNW.o.mono ?_;rintro e w4 ⟨rfl,hb4⟩;have Ee:=HB3.o.trans (hb4.mono HB3.o.size);have hrow4:=(hb4.block _ (block_lt ru.o)).trans ru.o;have tC:=aZ Ee;clear e0 e1 e2 e3 e4 p0 p1 p2 p3 p4 p5 p6 p7 hb4;obtain⟨e0,e1,e2,e3,e4⟩:=FR hrow4;obtain⟨p0,p1,p2,p3,p4,p5,p6,p7⟩:=gN ((Ee.block _ (block_lt vo.o)).trans vo.o);clear Ee hrow4 HNW HB3 ru;cases q with
    |false=>
     have HF:bR (res=false):=aZ (by rw [Ms.o];simp);go_wp2_with fail;go_ret;refine⟨by rw [HF.o];rfl,HB1.o.trans (tC.o.mono HB1.o.size)⟩
    |true=>
     by_cases h1:a<lo
     ·have g3:decide ((a:Int)<(lo:Int))=true:=by simp;omega
      have HF:bR (res=false):=aZ (by rw [Ms.o,decide_eq_false (by omega:¬(lo<=a∧a<=hi))];simp);go_wp2_with fail;go_ret;refine⟨by rw [HF.o];rfl,HB1.o.trans (tC.o.mono HB1.o.size)⟩
     have g3:decide ((a:Int)<(lo:Int))=false:=by simp;omega
     by_cases h2:hi<a
     ·have g4:decide ((hi:Int)<(a:Int))=true:=by simp;omega
      have HF:bR (res=false):=aZ (by rw [Ms.o,decide_eq_false (by omega:¬(lo<=a∧a<=hi))];simp);go_wp2_with fail;go_ret;refine⟨by rw [HF.o];rfl,HB1.o.trans (tC.o.mono HB1.o.size)⟩
     have g4:decide ((hi:Int)<(a:Int))=false:=by simp;omega
     by_cases h3:(d:Int)=kv
     ·have HRT:bR (res=(ts.all (aK 16) && ks.all (dx m))):=aZ (by rw [Ms.o,decide_eq_true (by omega:lo<=a∧a<=hi),decide_eq_true h3];simp);have g5:((d:Int) != kv)=false:=by rw [bne_eq_false_iff_eq];exact h3
      clear h3 Ms;go_wp2_with fail;clear e0 e1 e2 e3 e4 p0 p1 p2 p3 p4 p5 p6 p7 g1 g2 g3 g4 g5 h1 h2;go_loopw [88] (fun v88 wr=>∃i:Nat,v88=.int .i64 i∧i<=a∧(ts.take i).all (aK 16)=true∧Below W.heap.size W wr) (fun v88 _=>a - (intOf v88).toNat)
      case atStart=>exact⟨0,rfl,by omega,rfl,tC.o⟩
      case round=>
       obtain⟨i,rfl,hi_,hinv,hbr⟩:=hrel;have HI:=aZ hinv;have HB:=aZ hbr;clear hinv;by_cases hlt:i<a
       ·have hil:i<ts.length:=by rw [HA.o];exact hlt
        obtain⟨b2,o2,kk,ss,A5,n5,c5,A6,n6,c6,rfl,hr1,e0,e1,e2,e3⟩:=mO (Sl.more (Sl.below DW.o.1 hbr) hbr.size) ((DW.o.2.keep hbr).more hbr.size) hil HA.o.symm;obtain⟨wA,Ii⟩:∃wA,wr.alloc (.cells #[.int .i64 kk,.string ss,.slice A5 n5 c5,.slice A6 n6 c6] 57)=wA:=⟨_,rfl⟩
        have Ct:Below wr.heap.size wr wA:=by rw [<-Ii];exact(Below.refl _ _).alloc (Nat.le_refl _) _
        have HC:=aZ (O6.o wA _ ts[i] (hr1.far (Nat.le_refl _) Ct) (HOT.o _ (List.getElem_mem hil)) ((HX.o.below hbr).below Ct));have N9:=aZ Ct;have Zd:=aZ Ii;have hst:=yV hil;rw [<-Ii]at HC;clear hbr hr1 Ct Ii;cases hq:aK 16 ts[i]with
        |false=>
         have hall:ts.all (aK 16)=false:=by
          cases h:ts.all (aK 16)with
          |false=>rfl
          |true=>rw [List.all_eq_true]at h;rw [h _ (List.getElem_mem hil)]at hq;cases hq
         have HF:bR (res=false):=aZ (by rw [HRT.o,hall];simp);rw [hq]at HC;clear hq hst hall;generalize ts[i]=X at*
         go_wp2_with fail;refine HC.o.mono ?_;rintro e w5 ⟨rfl,hb⟩;rw [Zd.o]at hb;have qN:=aZ (HB.o.trans ((N9.o.trans (hb.mono N9.o.size)).mono HB.o.size));clear hb e0 e1 e2 e3;go_wp2_with fail;go_ret;refine⟨by rw [HF.o];rfl,HB1.o.trans (qN.o.mono HB1.o.size)⟩
        |true=>
         have HST:bR ((ts.take (i+1)).all (aK 16)=true):=aZ (by rw [hst,List.all_append,HI.o];simp [hq]);rw [hq]at HC;clear hq hst;generalize ts[i]=X at*
         go_wp2_with fail;refine HC.o.mono ?_;rintro e w5 ⟨rfl,hb⟩;rw [Zd.o]at hb;have qN:=aZ (HB.o.trans ((N9.o.trans (hb.mono N9.o.size)).mono HB.o.size));clear hb e0 e1 e2 e3;go_wp2_with fail
         go_roundw
         case rel=>exact⟨i+1,rfl,by omega,HST.o,qN.o⟩
         case measure=>simp [intOf];omega
       ·obtain rfl:i=a:=by omega
        have HRU:bR (res=ks.all (dx m)):=aZ (by
         have h:=HI.o;rw [List.take_of_length_le (by rw [HA.o];omega)]at h;rw [HRT.o,h,Bool.true_and])
        obtain⟨p0,p1,p2,p3,p4,p5,p6,p7⟩:=gN ((hbr.block _ (block_lt vo.o)).trans vo.o);clear hlt hbr HI HRT;go_wp2_with fail;clear p0 p1 p2 p3 p4 p5 p6 p7;go_loopw [99] (fun v99 wr=>∃i:Nat,v99=.int .i64 i∧i<=d∧(ks.take i).all (dx m)=true∧Below W.heap.size W wr) (fun v99 _=>d - (intOf v99).toNat)
        case atStart=>exact⟨0,rfl,by omega,rfl,HB.o⟩
        case round=>
         obtain⟨j,rfl,hj_,Vj,xR⟩:=hrel;have HI2:=aZ Vj;have HB2:=aZ xR;clear Vj;by_cases hlt:j<d
         ·have hil:j<ks.length:=by rw [HD.o];exact hlt
          obtain⟨b2,o2,kk,ss,y2,y3,y4,A5,n5,c5,A6,n6,c6,A7,n7,c7,rfl,hr1,e0,e1,e2,e3,e4,e5,e6,e7⟩:=BF (Sl.more (Sl.below HKK.o.1 xR) xR.size) ((HKK.o.2.keep xR).more xR.size) hil HD.o.symm;obtain⟨wA,Ii⟩:∃wA,wr.alloc (.cells #[.int .i64 kk,.string ss,.int .i64 y2,.int .i64 y3,.int .i64 y4,.slice A5 n5 c5,.slice A6 n6 c6,.slice A7 n7 c7] 52)=wA:=⟨_,rfl⟩
          have Ct:Below wr.heap.size wr wA:=by rw [<-Ii];exact(Below.refl _ _).alloc (Nat.le_refl _) _
          have HC:=aZ (Qo.o wA _ ks[j] (hr1.far (Nat.le_refl _) Ct) (Mg.o _ (List.getElem_mem hil)) ((HX.o.below xR).below Ct));have N9:=aZ Ct;have Zd:=aZ Ii;have hst:=yV hil;rw [<-Ii]at HC;clear xR hr1 Ct Ii;cases hq:dx m ks[j]with
          |false=>
           have hall:ks.all (dx m)=false:=by
            cases h:ks.all (dx m)with
            |false=>rfl
            |true=>rw [List.all_eq_true]at h;rw [h _ (List.getElem_mem hil)]at hq;cases hq
           have HF:bR (res=false):=aZ (by rw [HRU.o,hall]);rw [hq]at HC;clear hq hst hall;generalize ks[j]=X at*
           go_wp2_with fail;refine HC.o.mono ?_;rintro e w5 ⟨rfl,hb⟩;rw [Zd.o]at hb;have qN:=aZ (HB2.o.trans ((N9.o.trans (hb.mono N9.o.size)).mono HB2.o.size));clear hb e0 e1 e2 e3 e4 e5 e6 e7;go_wp2_with fail;go_ret;refine⟨by rw [HF.o];rfl,HB1.o.trans (qN.o.mono HB1.o.size)⟩
          |true=>
           have HST:bR ((ks.take (j+1)).all (dx m)=true):=aZ (by rw [hst,List.all_append,HI2.o];simp [hq]);rw [hq]at HC;clear hq hst;generalize ks[j]=X at*
           go_wp2_with fail;refine HC.o.mono ?_;rintro e w5 ⟨rfl,hb⟩;rw [Zd.o]at hb;have qN:=aZ (HB2.o.trans ((N9.o.trans (hb.mono N9.o.size)).mono HB2.o.size));clear hb e0 e1 e2 e3 e4 e5 e6 e7;go_wp2_with fail
           go_roundw
           case rel=>exact⟨j+1,rfl,by omega,HST.o,qN.o⟩
           case measure=>simp [intOf];omega
         ·obtain rfl:j=d:=by omega
          have HF:bR (res=true):=aZ (by
           have h:=HI2.o;rw [List.take_of_length_le (by rw [HD.o];omega)]at h;rw [HRU.o,h])
          clear xR hlt;go_wp2_with fail;go_ret;refine⟨by rw [HF.o];rfl,HB1.o.trans (HB2.o.mono HB1.o.size)⟩
     ·have HF:bR (res=false):=aZ (by rw [Ms.o,decide_eq_false h3];simp);have g5:((d:Int) != kv)=true:=by rw [bne_iff_ne];exact h3
      clear h3;go_wp2_with fail;go_ret;refine⟨by rw [HF.o];rfl,HB1.o.trans (tC.o.mono HB1.o.size)⟩
theorem Ij:∀m:Nat,m<=41->NdC m
 |0,_=>NZ
 |m+1,h=>N7 m (by omega) (Ij m (by omega))
theorem Kq {k:Int}{nm:Bt}{a b:Nat}(h:eZ k nm a b=true):0<=k∧k<=8:=by
 unfold eZ at h;split at h
 ·omega
 split at h
 ·cases h
 ·rename_i h1 h2
  constructor <;> (apply Classical.byContradiction;intro h3;exact h2 (by omega))
theorem Oa {nm:Bt}{a b:Nat}(h:eZ 5 nm a b=true):a=b:=by
 unfold eZ at h;split at h
 ·omega
 split at h
 ·cases h
 ·simpa using h
theorem QS {nm:Bt}{a b:Nat}(h:eZ 6 nm a b=true):b=2:=by
 unfold eZ at h;split at h
 ·omega
 split at h
 ·cases h
 ·simp at h;exact h.2
theorem Ob (ns:List Bt)(ks:List bC)(i:Nat)(hi:i<(List.zipWith gI ns (eT ks)).length)(h1:i<ns.length)(h2:i<ks.length):(List.zipWith gI ns (eT ks))[i]=gI ns[i] (cO ks[i]):=by
 rw [List.getElem_zipWith];simp [mG]
theorem xS {α:Type}{l:List α}(h:l.length=2):∃a b,l=[a,b]:=by
 match l,h with
 | [a,b],_=>exact⟨a,b,rfl⟩
theorem og {m:Nat}{k:Int}{nm:Bt}{ns:List Bt}{ks:List bC}(h:aK m (.mk k nm ns ks)=true):∃q,m=q+1∧(∀n∈ns,n.length<=32)∧(∀x∈ks,aK q x=true)∧eZ k nm ns.length ks.length=true:=by
 cases m with
 |zero=>cases h
 |succ q=>
  have h:(ns.all dM && ks.all (aK q) && eZ k nm ns.length ks.length)=true:=h;rw [Bool.and_eq_true,Bool.and_eq_true]at h;exact⟨q,rfl,fun n hn=>oI (List.all_eq_true.1 h.1.1 n hn),fun x hx=>List.all_eq_true.1 h.1.2 x hx,h.2⟩
def xU (k:Int)(nm:Bt)(ns:List Bt)(ks:List bC):Prop:=∀(w:World) (z:List Value) (m:Nat),tQ w w.heap.size z (.mk k nm ns ks)->aK m (.mk k nm ns ks)=true->jS (.mk k nm ns ks)<=300000->
 Calls Tryz.prog 60 #[.agg z.toArray] w fun e w'=>e=.returned (sv (cO (.mk k nm ns ks)))∧Below w.heap.size w w'
theorem TY (nm:Bt)(ns:List Bt)(ks:List bC):xU 0 nm ns ks:=by
 intro w z m hr hw hc;obtain⟨A1,c1,A2,c2,xk,rfl,s1,s2,r2⟩:=hr.parts;have HT:bR (cO (.mk 0 nm ns ks)=[97,110,121]):=aZ (by rw [cO];rfl);have HB:bR (Below w.heap.size w (w.alloc (.cells #[.int .i64 0,sv nm,.slice A1 ns.length c1,.slice A2 ks.length c2] 57))):=aZ ((Below.refl _ _).alloc (Nat.le_refl _) _);rw [HT.o];clear hr hw hc s1 s2 r2;go_enter Tryz.func60,Tryz.ntmps60;go_wp2_with fail;go_ret;exact⟨rfl,HB.o⟩
theorem T9 (nm:Bt)(ns:List Bt)(ks:List bC):xU 1 nm ns ks:=by
 intro w z m hr hw hc;obtain⟨A1,c1,A2,c2,xk,rfl,s1,s2,r2⟩:=hr.parts;have HT:bR (cO (.mk 1 nm ns ks)=[110,117,108,108]):=aZ (by rw [cO];rfl);have HB:bR (Below w.heap.size w (w.alloc (.cells #[.int .i64 1,sv nm,.slice A1 ns.length c1,.slice A2 ks.length c2] 57))):=aZ ((Below.refl _ _).alloc (Nat.le_refl _) _);rw [HT.o];clear hr hw hc s1 s2 r2;go_enter Tryz.func60,Tryz.ntmps60;go_wp2_with fail;go_ret;exact⟨rfl,HB.o⟩
theorem Ua (nm:Bt)(ns:List Bt)(ks:List bC):xU 2 nm ns ks:=by
 intro w z m hr hw hc;obtain⟨A1,c1,A2,c2,xk,rfl,s1,s2,r2⟩:=hr.parts;have HT:bR (cO (.mk 2 nm ns ks)=[98,111,111,108]):=aZ (by rw [cO];rfl);have HB:bR (Below w.heap.size w (w.alloc (.cells #[.int .i64 2,sv nm,.slice A1 ns.length c1,.slice A2 ks.length c2] 57))):=aZ ((Below.refl _ _).alloc (Nat.le_refl _) _);rw [HT.o];clear hr hw hc s1 s2 r2;go_enter Tryz.func60,Tryz.ntmps60;go_wp2_with fail;go_ret;exact⟨rfl,HB.o⟩
theorem Ub (nm:Bt)(ns:List Bt)(ks:List bC):xU 3 nm ns ks:=by
 intro w z m hr hw hc;obtain⟨A1,c1,A2,c2,xk,rfl,s1,s2,r2⟩:=hr.parts;have HT:bR (cO (.mk 3 nm ns ks)=[105,110,116]):=aZ (by rw [cO];rfl);have HB:bR (Below w.heap.size w (w.alloc (.cells #[.int .i64 3,sv nm,.slice A1 ns.length c1,.slice A2 ks.length c2] 57))):=aZ ((Below.refl _ _).alloc (Nat.le_refl _) _);rw [HT.o];clear hr hw hc s1 s2 r2;go_enter Tryz.func60,Tryz.ntmps60;go_wp2_with fail;go_ret;exact⟨rfl,HB.o⟩
theorem Uc (nm:Bt)(ns:List Bt)(ks:List bC):xU 4 nm ns ks:=by
 intro w z m hr hw hc;obtain⟨A1,c1,A2,c2,xk,rfl,s1,s2,r2⟩:=hr.parts;have HT:bR (cO (.mk 4 nm ns ks)=[115,116,114]):=aZ (by rw [cO];rfl);have HB:bR (Below w.heap.size w (w.alloc (.cells #[.int .i64 4,sv nm,.slice A1 ns.length c1,.slice A2 ks.length c2] 57))):=aZ ((Below.refl _ _).alloc (Nat.le_refl _) _);rw [HT.o];clear hr hw hc s1 s2 r2;go_enter Tryz.func60,Tryz.ntmps60;go_wp2_with fail;go_ret;exact⟨rfl,HB.o⟩
theorem Ud (nm:Bt)(ns:List Bt)(ks:List bC):xU 8 nm ns ks:=by
 intro w z m hr hw hc;obtain⟨A1,c1,A2,c2,xk,rfl,s1,s2,r2⟩:=hr.parts;have HT:bR (cO (.mk 8 nm ns ks)=nm):=aZ (by rw [cO];rfl);have HB:bR (Below w.heap.size w (w.alloc (.cells #[.int .i64 8,sv nm,.slice A1 ns.length c1,.slice A2 ks.length c2] 57))):=aZ ((Below.refl _ _).alloc (Nat.le_refl _) _);rw [HT.o];clear hr hw hc s1 s2 r2;go_enter Tryz.func60,Tryz.ntmps60;go_wp2_with fail;go_ret;exact⟨rfl,HB.o⟩
theorem Ue (nm:Bt)(ns:List Bt)(ks:List bC)(ih:∀x∈ks,Cy x):xU 5 nm ns ks:=by
 intro w z m hr hw hc;obtain⟨A1,c1,A2,c2,xk,rfl,s1,s2,r2⟩:=hr.parts;have hlen:=oW _ m hw;obtain⟨q,rfl,h1,h2,h3⟩:=og hw;have hab:=Oa h3;have HT0:cO (.mk 5 nm ns ks)=[123]++(jc [44,32] (List.zipWith gI ns (eT ks))++[125]):=by rw [cO];rfl
 rw [HT0]at hlen;have HT:=aZ HT0;clear HT0;rw [HT.o];have hcl:=xP ks;rw [jS]at hc hlen;have hzl:(List.zipWith gI ns (eT ks)).length=ks.length:=by rw [List.length_zipWith,qL];omega
 simp only [List.length_append,List.length_cons,List.length_nil]at hlen;obtain⟨W1,hW1⟩:∃W1,W1=w.alloc (.cells #[.int .i64 5,sv nm,.slice A1 ns.length c1,.slice A2 ks.length c2] 57):=⟨_,rfl⟩
 have hb1:Below w.heap.size w W1:=by rw [hW1];exact(Below.refl _ _).alloc (Nat.le_refl _) _
 have hbx:W1.heap[w.heap.size]? =some (.cells #[.int .i64 5,sv nm,.slice A1 ns.length c1,.slice A2 ks.length c2] 57 (0,0)):=by rw [hW1];exact heap_alloc_new w _
 have HL:=CF 123 (fun _ _=>by kernel_rfl) #[.pointer (some ⟨w.heap.size,0,none⟩)] (List.zipWith gI ns (eT ks)) W1 (by omega) (by omega) (fun i hi w1 hb=>by
  rw [hzl]at hi;have hin:i<ns.length:=by omega
  have hbw:Below w.heap.size w w1:=hb1.trans (hb.mono hb1.size);rw [Ob ns ks i _ hin hi];exact NT w1 w.heap.size 5 nm ns ks A1 c1 A2 c2 xk ((hb.block _ (block_lt hbx)).trans hbx) (Sl.more (Sl.below s1 hbw) hbw.size) (Sl.more (Sl.below s2 hbw) hbw.size) ((r2.keep hbw).more hbw.size) i hi hin (ih _ (List.getElem_mem hi)) q (h2 _ (List.getElem_mem hi)) (by have:=uZ (List.getElem_mem hi);omega) (h1 _ (List.getElem_mem hin)))
 rw [hzl]at HL;have HL:=aZ HL;have HB:=aZ hb1;have uW:=aZ hW1;have hl2:=(bN s2).2;rw [hW1]at HL;generalize jc [44,32] (List.zipWith gI ns (eT ks))=s at*
 have hsz:=aT s;have q1:¬(9223372036854775807<1+s.length):=by omega
 have q2:¬(9223372036854775807<1+s.length+1):=by omega
 have Mh:∀(fn:Fn) (first cap:Array Value) (w:World),(Instr.makeFunc fn first cap).run Tryz.prog w=.ok (.func fn first cap) w:=fun _ _ _ _=>rfl;clear hr hw hc s1 s2 r2 hlen h1 h2 h3 ih hcl hzl hW1 hb1 hbx HT hab;go_enter Tryz.func60,Tryz.ntmps60;go_wp2_with fail;refine HL.o.mono ?_;rintro e w2 ⟨rfl,hb⟩;rw [<-uW.o]at hb;have HB2:=aZ (HB.o.trans (hb.mono HB.o.size));clear hb;go_wp2_with fail;go_ret;refine⟨?_,HB2.o⟩;have e:(⟨#[123]⟩:ByteArray)++⟨s.toArray⟩++⟨#[125]⟩=⟨([123]++(s++[125])).toArray⟩:=by
  rw [show(⟨#[123]⟩:ByteArray)=⟨([123]:Bt).toArray⟩from rfl,show(⟨#[125]⟩:ByteArray)=⟨([125]:Bt).toArray⟩from rfl,aF,aF,List.append_assoc]
 exact congrArg (fun b=>Ending.returned (Value.string b)) e
theorem Uf (nm:Bt)(ns:List Bt)(ks:List bC)(ih:∀x∈ks,Cy x):xU 6 nm ns ks:=by
 intro w z m hr hw hc;obtain⟨A1,c1,A2,c2,xk,rfl,s1,s2,r2⟩:=hr.parts;have hlen:=oW _ m hw;obtain⟨q,rfl,h1,h2,h3⟩:=og hw;obtain⟨t0,t1,rfl⟩:=xS (QS h3);have HT0:cO (.mk 6 nm ns [t0,t1])=jy [6] t0.kind (cO t0)++([32,45,62,32]++cO t1):=by rw [cO];rfl
 rw [HT0]at hlen;have HT:=aZ HT0;clear HT0;rw [HT.o];rw [jS,dh,dh,dh]at hc hlen;simp only [List.length_append,List.length_cons,List.length_nil]at hlen;obtain⟨b2,o2,k0,ss0,A3,n3,c3,A4,n4,c4,rfl,hr0,d0,d1,d2,d3⟩:=mO s2 r2 (i:=0) (by simp) rfl;obtain⟨b2',o2',k1,ss1,A5,n5,c5,A6,n6,c6,hbe,hr1,e0,e1,e2,e3⟩:=mO s2 r2 (i:=1) (by simp) rfl;injection hbe with hbe;injection hbe with acr acs afY;subst acr acs;simp only [List.getElem_cons_zero,List.getElem_cons_succ,Nat.zero_mul,Nat.one_mul,Nat.add_zero,Nat.add_assoc]at hr0 hr1 d0 d1 d2 d3 e0 e1 e2 e3;obtain⟨W,hW⟩:∃W,w.alloc (.cells #[.int .i64 6,sv nm,.slice A1 ns.length c1,.slice (some ⟨b2,o2,none⟩) 2 c2] 57)=W:=⟨_,rfl⟩
 have hb1:Below w.heap.size w W:=by rw [<-hW];exact(Below.refl _ _).alloc (Nat.le_refl _) _
 have hbx:W.heap[w.heap.size]? =some (.cells #[.int .i64 6,sv nm,.slice A1 ns.length c1,.slice (some ⟨b2,o2,none⟩) 2 c2] 57 (0,0)):=by rw [<-hW];exact heap_alloc_new w _
 obtain⟨_,_,_,g3⟩:=uD hbx
 have HI:=aZ (fun(w1:World) (h:Below W.heap.size W w1) (bq:Nat) (hq:w1.cell? ⟨bq,0,none⟩=some (.int .i64 6))=>Cz t0 (ih t0 (by simp)) w1 _ q (hr0.far (Nat.le_refl _) (hb1.trans (h.mono hb1.size))) (h2 t0 (by simp)) (by omega) bq [6] (by simp) (fun j hj=>by
  obtain rfl:j=0:=by simpa using hj
  exact hq) (World.block_lt_of_cell? w1 _ hq))
 have HS:=aZ (fun(w1:World) (h:Below W.heap.size W w1)=>ih t1 (by simp) w1 _ q (hr1.far (Nat.le_refl _) (hb1.trans (h.mono hb1.size))) (h2 t1 (by simp)) (by omega));have G3:=aZ g3;have D0:=aZ (kp hb1 d0);have D1:=aZ (kp hb1 d1);have D2:=aZ (kp hb1 d2);have D3:=aZ (kp hb1 d3);have E0:=aZ (kp hb1 e0);have E1:=aZ (kp hb1 e1);have E2:=aZ (kp hb1 e2);have E3:=aZ (kp hb1 e3);have HB:=aZ hb1;have HW:=aZ hW;have hl2:=(bN s2).2;generalize jy [6] t0.kind (cO t0)=s at*
 generalize cO t1=u at*
 have hsz:=aT s;have hsz1:=aT u;have q1:¬(9223372036854775807<s.length+4):=by omega
 have q2:¬(9223372036854775807<s.length+4+u.length):=by omega
 have HB0:bR (Below W.heap.size W W.drew):=aZ (aH W 1);clear hr hw hc s1 s2 r2 hlen h1 h2 h3 ih hW hb1 hbx hr0 hr1 g3 d0 d1 d2 d3 e0 e1 e2 e3 HT;go_enter Tryz.func60,Tryz.ntmps60;go_wp2_with fail;have hW:=HW.o;rw [hW];clear hW;refine wp_region_held_drew (S:=fun w'=>Below W.heap.size W w') (by kernel_rfl) HB0.o (fun _=>?_)
 try simp only [Act.put,sq]
 refine tk 0 (.pointer (some ⟨w.heap.size,3,none⟩)) HB0.o ?_;refine jE 1 (.slice (some ⟨b2,o2,none⟩) 2 c2) (kU G3.o) HB0.o ?_;refine tk 2 (.pointer (some ⟨b2,o2,none⟩)) HB0.o ?_;refine jE 3 (.agg #[.int .i64 k0,.string ss0,.slice A3 n3 c3,.slice A4 n4 c4]) (Vf D0.o D1.o D2.o D3.o) HB0.o ?_;refine tk 7 (.pointer (some ⟨w.heap.size,3,none⟩)) HB0.o ?_;refine jE 8 (.slice (some ⟨b2,o2,none⟩) 2 c2) (kU G3.o) HB0.o ?_;refine tk 9 (.pointer (some ⟨b2,o2+4,none⟩)) HB0.o ?_;refine jE 10 (.agg #[.int .i64 k1,.string ss1,.slice A5 n5 c5,.slice A6 n6 c6]) (Vf E0.o E1.o E2.o E3.o) HB0.o ?_;refine wpAnyH_ready (rs:=[4]) (by kernel_rfl) (by simp) ?_;refine AllReadyH.cons rfl (fun K hK=>?_) (AllReadyH.nil);go_simp;have HB3:=aZ (HB0.o.alloc HB0.o.size (.cells #[.int .i64 6] 3));refine hK.out _ _ HB3.o (fun _=>?_);clear hK K
 try simp only [Act.put,sq]
 refine wpAnyH_ready (rs:=[5]) (by kernel_rfl) (by simp) ?_;refine AllReadyH.cons rfl (fun K hK=>?_) (AllReadyH.nil);go_simp;refine(HI.o _ HB3.o _ ((cell_of_row _ _ _ _ _ _ (heap_alloc_new W.drew _)).trans rfl)).mono ?_;rintro e w2 ⟨rfl,hb⟩;have HB2:=aZ (HB3.o.trans (hb.mono HB3.o.size));clear hb;refine hK.out _ _ HB2.o (fun _=>?_);clear hK K
 try simp only [Act.put,sq]
 refine tk 6 (.string ((⟨s.toArray⟩:ByteArray)++⟨#[32,45,62,32]⟩)) HB2.o ?_;refine wpAnyH_ready (rs:=[11]) (by kernel_rfl) (by simp) ?_;refine AllReadyH.cons rfl (fun K hK=>?_) (AllReadyH.nil);go_simp;refine(HS.o _ HB2.o).mono ?_;rintro e w4 ⟨rfl,hb⟩;have tC:=aZ (HB2.o.trans (hb.mono HB2.o.size));clear hb;refine hK.out _ _ tC.o (fun _=>?_);clear hK K
 try simp only [Act.put,sq]
 refine tk 12 (.string ((⟨s.toArray⟩:ByteArray)++⟨#[32,45,62,32]⟩++⟨u.toArray⟩)) tC.o ?_;refine tk 13 (.string ((⟨s.toArray⟩:ByteArray)++⟨#[32,45,62,32]⟩++⟨u.toArray⟩)) tC.o ?_;refine wpAnyH_done (by kernel_rfl) ?_ _;go_wp2_with fail;go_ret;refine⟨?_,HB.o.trans (tC.o.mono HB.o.size)⟩;have e:(⟨s.toArray⟩:ByteArray)++⟨#[32,45,62,32]⟩++⟨u.toArray⟩=⟨(s++([32,45,62,32]++u)).toArray⟩:=by
  rw [show(⟨#[32,45,62,32]⟩:ByteArray)=⟨([32,45,62,32]:Bt).toArray⟩from rfl,aF,aF,List.append_assoc]
 exact congrArg (fun b=>Ending.returned (Value.string b)) e
theorem Ug (nm:Bt)(ns:List Bt)(ks:List bC)(ih:∀x∈ks,Cy x):xU 7 nm ns ks:=by
 intro w z m hr hw hc;obtain⟨A1,c1,A2,c2,xk,rfl,s1,s2,r2⟩:=hr.parts;have hlen:=oW _ m hw;obtain⟨q,rfl,h1,h2,h3⟩:=og hw;obtain⟨L,hL⟩:∃L,L=List.zipWith (jy [6,7]) (ks.map bC.kind) (eT ks):=⟨_,rfl⟩
 have HT0:cO (.mk 7 nm ns ks)=jc [32,124,32] L:=by rw [hL,cO];rfl
 rw [HT0]at hlen ⊢;have hcl:=xP ks;rw [jS]at hc hlen;have hll:L.length=ks.length:=by rw [hL,List.length_zipWith,qL,List.length_map];omega
 have acu:bR (∀(i:Nat) (h:i<ks.length) (h2:i<L.length),L[i]=jy [6,7] ks[i].kind (cO ks[i])):=aZ (by
  intro i h h2;subst hL;rw [List.getElem_zipWith];simp [mG])
 obtain⟨W1,hW1⟩:∃W1,w.alloc (.cells #[.int .i64 7,sv nm,.slice A1 ns.length c1,.slice A2 ks.length c2] 57)=W1:=⟨_,rfl⟩
 have hb1:Below w.heap.size w W1:=by rw [<-hW1];exact(Below.refl _ _).alloc (Nat.le_refl _) _
 have l2:=(bN s2).2;have HS:=aZ (And.intro (Sl.more (Sl.below s2 hb1) hb1.size) ((r2.keep hb1).more hb1.size));have Qo:=aZ ih;have H2:=aZ h2;have HB1:=aZ hb1;obtain⟨d,hd⟩:∃d,ks.length=d:=⟨_,rfl⟩
 rw [hd]at hcl hll l2 HS hW1 ⊢;have HD:=aZ hd;have Gw:=aZ (fun(x:bC) (hx:x∈ks)=>uZ hx);have HLEN:=aZ hlen;have HW:=aZ hW1;clear hr hw s1 s2 r2 h1 h2 h3 ih hb1 hL HT0 hd hlen hW1;go_enter Tryz.func60,Tryz.ntmps60;go_wp2_with fail;have hW:=HW.o;rw [hW];clear hW;go_loopw [3,47] (fun v3 v47 wr=>∃i:Nat,v47=.int .i64 i∧i<=d∧gX wr W1.heap.size 9 v3 (L.take i)∧Below W1.heap.size W1 wr) (fun v3 v47 _=>d - (intOf v47).toNat)
 case atStart=>exact⟨0,rfl,by omega,gX.nil _ _ _,Below.refl _ _⟩
 case round=>
  obtain⟨i,rfl,hi,hown,hbr⟩:=hrel;have HOWN:=aZ hown;have HB:=aZ hbr;clear hown;by_cases hlt:i<d
  ·have hil:i<ks.length:=by rw [HD.o];exact hlt
   have hiL:i<L.length:=by omega
   obtain⟨b2,o2,kk,ss,A3,n3,c3,A4,n4,c4,rfl,hr1,e0,e1,e2,e3⟩:=mO (Sl.more (Sl.below HS.o.1 hbr) hbr.size) ((HS.o.2.keep hbr).more hbr.size) hil HD.o.symm;obtain⟨wB,Ze⟩:∃wB,(wr.alloc (.cells #[.int .i64 kk,.string ss,.slice A3 n3 c3,.slice A4 n4 c4] 57)).alloc (.cells #[.int .i64 6,.int .i64 7] 3)=wB:=⟨_,rfl⟩
   have Uh:Below wr.heap.size wr wB:=by rw [<-Ze];exact((Below.refl _ _).alloc (Nat.le_refl _) _).alloc (by simp) _
   have hq:wB.heap[wr.heap.size+1]? =some (.cells #[.int .i64 6,.int .i64 7] 3 (0,0)):=by rw [<-Ze];exact(kP wr _ _).2
   have HI:=aZ (Cz ks[i] (Qo.o _ (List.getElem_mem hil)) wB _ q (hr1.far (Nat.le_refl _) Uh) (H2.o _ (List.getElem_mem hil)) (by have:=Gw.o _ (List.getElem_mem hil);omega) (wr.heap.size+1) [6,7] (by simp) (fun j hj=>by
    have hj2:j=0∨j=1:=by simp at hj;omega
    rcases hj2 with rfl |rfl <;> exact(cell_of_row _ _ _ _ _ _ hq).trans rfl) (block_lt hq))
   rw [<-acu.o i hil hiL]at HI;have HST:=aZ (yV hiL);have Gv:=aZ Uh;have yL:=aZ Ze;generalize L[i]=X at*
   generalize ks[i]=kx at*
   rw [<-Ze]at HI;clear hbr hr1 Uh hq Ze hil;go_wp2_with fail;refine HI.o.mono ?_;rintro e w2 ⟨rfl,hb⟩;rw [yL.o]at hb;have hbw2:=Gv.o.trans (hb.mono Gv.o.size);have hown2:=HOWN.o.below hbw2;have hb2:=HB.o.trans (hbw2.mono HB.o.size);clear hb hbw2 e0 e1 e2 e3;go_wp2_with (at_builtin;refine uh rfl (.tmp 51) (.tmp 55) _ rfl W1.heap.size oQ _ _ rfl rfl (hown2.alloc _) (rY w2 X _) (by simp;omega) (iZ hb2.size _) (fun v3 w3 hown3 hg3 acv=>?_);have hb3:=wo (hb2.alloc hb2.size _) (hown2.alloc _) hg3 (Nat.le_refl _) (iZ hb2.size _);have Zf:=aZ hown3;have HB3:=aZ hb3;clear hown3 hb3 hown2 hb2 hg3 acv)
   go_roundw
   case rel=>exact⟨i+1,rfl,by omega,by rw [HST.o];exact Zf.o,HB3.o⟩
   case measure=>simp [intOf];omega
  ·obtain rfl:i=d:=by omega
   have hown:=HOWN.o;rw [List.take_of_length_le (by omega)]at hown;obtain⟨A5,n5,c5,rfl⟩:=iL hown.ss;have HJ:=aZ (Ia wr _ L [32,124,32] hown.ss (by omega) (by have:=HLEN.o;omega));clear hown hbr hlt;go_wp2_with fail;refine HJ.o.mono ?_;rintro e w2 ⟨rfl,hb⟩;go_wp2_with fail;go_ret;exact⟨rfl,HB1.o.trans ((HB.o.trans (hb.mono HB.o.size)).mono HB1.o.size)⟩
theorem CK (t:bC):Cy t:=by
 induction h:jS t using Nat.strongRecOn generalizing t with
 |_ n ih=>
  obtain⟨k,nm,ns,ks⟩:=t;have ihk:∀x∈ks,Cy x:=fun x hx=>ih (jS x) (by rw [<-h,jS];have:=uZ hx;omega) x rfl;intro w z m hr hw hc;have hk:0<=k∧k<=8:=by obtain⟨q,rfl,h1,h2,h3⟩:=og hw;exact Kq h3
  have hk2:k=0∨k=1∨k=2∨k=3∨k=4∨k=5∨k=6∨k=7∨k=8:=by omega
  rcases hk2 with rfl |rfl |rfl |rfl |rfl |rfl |rfl |rfl |rfl
  ·exact TY nm ns ks w z m hr hw hc
  ·exact T9 nm ns ks w z m hr hw hc
  ·exact Ua nm ns ks w z m hr hw hc
  ·exact Ub nm ns ks w z m hr hw hc
  ·exact Uc nm ns ks w z m hr hw hc
  ·exact Ue nm ns ks ihk w z m hr hw hc
  ·exact Uf nm ns ks ihk w z m hr hw hc
  ·exact Ug nm ns ks ihk w z m hr hw hc
  ·exact Ud nm ns ks w z m hr hw hc
theorem wJ {ts:List bC}(h:ts.all (aK 16)=true)(hc:dh ts<=300000):(jc [44,32] (ts.map cO)).length<=140737488355328∧ts.length<=1000000∧(∀x∈ts,aK 16 x=true∧jS x<=300000∧(cO x).length<=24000000):=by
 have h1:=qZ ts 16 h;have h2:=xP ts;have h3:=oH [44,32] (ts.map cO);rw [mG]at h1;rw [List.length_map]at h3;simp only [List.length_cons,List.length_nil]at h3;refine⟨by omega,by omega,fun x hx=>?_⟩;have h4:=List.all_eq_true.1 h x hx;have h5:=uZ hx;have h6:=oW x 16 h4;exact⟨h4,by omega,by omega⟩
theorem Kr (w:World)(bt:Nat)(ts:List bC)(A2:Option Addr)(c2:Nat)(xk:List Value)(hbt:w.cell? ⟨bt,0,none⟩=some (.slice A2 ts.length c2))(s2:Sl w w.heap.size 4 (.slice A2 ts.length c2) xk)(r2:jo w w.heap.size xk ts)
  (i:Nat) (hi:i<ts.length) (hw:aK 16 ts[i]=true) (hc:jS ts[i]<=300000):
  Calls Tryz.prog 206 #[.int .i64 i,.pointer (some ⟨bt,0,none⟩)] w fun e w'=>e=.returned (sv (cO ts[i]))∧Below w.heap.size w w':=by
 obtain⟨b2,o2,kk,ss,A3,n3,c3,A4,n4,c4,rfl,hr1,e0,e1,e2,e3⟩:=mO s2 r2 hi rfl;have HS:=aZ (CK ts[i] w _ 16 hr1 hw hc);have l2:=(bN s2).2;generalize cO ts[i]=s at*
 clear s2 r2 hw hc hr1;generalize ts.length=b at*
 go_enter Tryz.func206,Tryz.ntmps206;go_wp2_with fail;refine HS.o.mono ?_;rintro e w2 ⟨rfl,hb⟩;go_wp2_with fail;go_ret;exact⟨rfl,hb⟩
theorem Oc (w:World)(ts:List bC)(A2:Option Addr)(c2:Nat)(xk:List Value)(s2:Sl w w.heap.size 4 (.slice A2 ts.length c2) xk)(r2:jo w w.heap.size xk ts)(hw:ts.all (aK 16)=true)(hc:dh ts<=300000):
  Calls Tryz.prog 175 #[.slice A2 ts.length c2] w fun e w'=>e=.returned (sv (jc [44,32] (ts.map cO)))∧Below w.heap.size w w':=by
 obtain⟨h1,h2,h3⟩:=wJ hw hc;obtain⟨W1,hW1⟩:∃W1,W1=w.alloc (.cells #[.slice A2 ts.length c2] 49):=⟨_,rfl⟩
 have hb1:Below w.heap.size w W1:=by rw [hW1];exact(Below.refl _ _).alloc (Nat.le_refl _) _
 have hbx:W1.heap[w.heap.size]? =some (.cells #[.slice A2 ts.length c2] 49 (0,0)):=by rw [hW1];exact heap_alloc_new w _
 have hzl:(ts.map cO).length=ts.length:=List.length_map ..
 have HL:=CF 206 (fun _ _=>by kernel_rfl) #[.pointer (some ⟨w.heap.size,0,none⟩)] (ts.map cO) W1 (by omega) (by omega) (fun i hi w1 hb=>by
  rw [hzl]at hi;have hbw:Below w.heap.size w w1:=hb1.trans (hb.mono hb1.size);rw [List.getElem_map];have h5:=h3 _ (List.getElem_mem hi);exact Kr w1 w.heap.size ts A2 c2 xk ((cell_of_row _ _ _ _ _ _ ((hb.block _ (block_lt hbx)).trans hbx)).trans rfl) (Sl.more (Sl.below s2 hbw) hbw.size) ((r2.keep hbw).more hbw.size) i hi h5.1 h5.2.1)
 rw [hzl]at HL;have HL:=aZ HL;have HB:=aZ hb1;have uW:=aZ hW1;rw [hW1]at HL;have hl2:=(bN s2).2;generalize jc [44,32] (ts.map cO)=s at*
 have Mh:∀(fn:Fn) (first cap:Array Value) (w:World),(Instr.makeFunc fn first cap).run Tryz.prog w=.ok (.func fn first cap) w:=fun _ _ _ _=>rfl;clear s2 r2 hw hc h1 h2 h3 hW1 hb1 hbx hzl;go_enter Tryz.func175,Tryz.ntmps175;go_wp2_with fail;refine HL.o.mono ?_;rintro e w2 ⟨rfl,hb⟩;rw [<-uW.o]at hb;go_wp2_with fail;go_ret;exact⟨rfl,HB.o.trans (hb.mono HB.o.size)⟩
theorem CO (w:World)(ts:List bC)(A2:Option Addr)(c2:Nat)(xk:List Value)(s2:Sl w w.heap.size 4 (.slice A2 ts.length c2) xk)(r2:jo w w.heap.size xk ts)(hw:ts.all (aK 16)=true)(hc:dh ts<=300000)(i:Nat):
  Calls Tryz.prog 71 #[.slice A2 ts.length c2,.int .i64 i] w fun e w'=>e=.returned (sv (jR ts i))∧Below w.heap.size w w':=by
 have hl2:=(bN s2).2;by_cases hi:i<ts.length
 ·obtain⟨h1,h2,h3⟩:=wJ hw hc;have h5:=h3 _ (List.getElem_mem hi);obtain⟨b2,o2,kk,ss,A3,n3,c3,A4,n4,c4,rfl,hr1,e0,e1,e2,e3⟩:=mO s2 r2 hi rfl;have HS:=aZ (CK ts[i] w _ 16 hr1 h5.1 h5.2.1);have HT:bR (jR ts i=[58,32]++cO ts[i]):=aZ (by unfold jR;rw [List.getElem?_eq_getElem hi]);have h6:=h5.2.2;rw [HT.o];clear HT h5 h3 h2 h1 s2 r2 hw hc hr1;generalize cO ts[i]=s at*
  generalize ts.length=b at*
  have hsz:=aT s;have q1:¬(9223372036854775807<2+s.length):=by omega
  have hni:¬(b:Int)<=i:=by omega
  go_enter Tryz.func71,Tryz.ntmps71;go_wp2_with fail;refine HS.o.mono ?_;rintro e w2 ⟨rfl,hb⟩;go_wp2_with fail;go_ret;refine⟨?_,hb⟩;have e:(⟨#[58,32]⟩:ByteArray)++⟨s.toArray⟩=⟨([58,32]++s).toArray⟩:=by
   rw [show(⟨#[58,32]⟩:ByteArray)=⟨([58,32]:Bt).toArray⟩from rfl,aF]
  exact congrArg (fun b=>Ending.returned (Value.string b)) e
 ·have HT:bR (jR ts i=[]):=aZ (by unfold jR;rw [List.getElem?_eq_none (by omega)]);rw [HT.o];have hni:(ts.length:Int)<=i:=by omega
  clear s2 r2 hw hc hi;generalize ts.length=b at*
  go_enter Tryz.func71,Tryz.ntmps71;go_wp2_with fail;go_ret;exact⟨rfl,Below.refl _ _⟩
theorem Ui {w:World}{B:Nat}{k:Int}{l:List Value}{t:bC}(h:tQ w B (.int .i64 k :: l) t):t.kind=k:=by
 cases h;rfl
theorem QT {w:World}{B:Nat}{A:Option Addr}{n c:Nat}{xs:List Value}{l:List Bv}(hs:Sl w B 5 (.slice A n c) xs)(hr:dH (JO w B) 5 xs l){i:Nat}(hi:i<l.length)(hn:n=l.length):
  ∃b o k s A1 n1 c1 A2 n2 c2,A=some ⟨b,o,none⟩∧tQ w B [.int .i64 k,.string s,.slice A1 n1 c1,.slice A2 n2 c2] l[i].bound∧l[i].bound.kind=k∧w.cell? ⟨b,o+i*5,none⟩=some (sv l[i].name)∧w.cell? ⟨b,o+i*5+1,none⟩=some (.int .i64 k)∧w.cell? ⟨b,o+i*5+2,none⟩=some (.string s)∧w.cell? ⟨b,o+i*5+3,none⟩=some (.slice A1 n1 c1)∧w.cell? ⟨b,o+i*5+4,none⟩=some (.slice A2 n2 c2):=by
 obtain⟨b,o,z,hA,hb,⟨y,rfl,hy⟩,hc⟩:=Fy hs hr (by omega) hi hn;obtain⟨k,s,A1,n1,c1,A2,n2,c2,rfl⟩:=hy.shape;exact⟨b,o,k,s,A1,n1,c1,A2,n2,c2,hA,hy,Ui hy,by simpa using hc 0 _ rfl,hc 1 _ rfl,hc 2 _ rfl,hc 3 _ rfl,hc 4 _ rfl⟩
theorem vw {w:World}{b:Nat}{x0 x1 x2 x3 x4 x5 x6 x7 x8 x9 x10 Vk Vl Yq Yr:Value}{T:TypeId}(h:w.heap[b]? =some (.cells #[x0,x1,x2,x3,x4,x5,x6,x7,x8,x9,x10,Vk,Vl,Yq,Yr] T (0,0))):
  w.cell? ⟨b,0,none⟩=some x0∧w.cell? ⟨b,1,none⟩=some x1∧w.cell? ⟨b,2,none⟩=some x2∧w.cell? ⟨b,3,none⟩=some x3∧w.cell? ⟨b,4,none⟩=some x4∧w.cell? ⟨b,5,none⟩=some x5∧w.cell? ⟨b,6,none⟩=some x6∧w.cell? ⟨b,7,none⟩=some x7∧w.cell? ⟨b,8,none⟩=some x8∧w.cell? ⟨b,9,none⟩=some x9∧w.cell? ⟨b,10,none⟩=some x10∧w.cell? ⟨b,11,none⟩=some Vk∧w.cell? ⟨b,12,none⟩=some Vl∧w.cell? ⟨b,13,none⟩=some Yq∧w.cell? ⟨b,14,none⟩=some Yr:=
 ⟨(cell_of_row _ _ _ _ _ _ h).trans rfl,(cell_of_row _ _ _ _ _ _ h).trans rfl,(cell_of_row _ _ _ _ _ _ h).trans rfl,(cell_of_row _ _ _ _ _ _ h).trans rfl,(cell_of_row _ _ _ _ _ _ h).trans rfl,(cell_of_row _ _ _ _ _ _ h).trans rfl,(cell_of_row _ _ _ _ _ _ h).trans rfl,(cell_of_row _ _ _ _ _ _ h).trans rfl,(cell_of_row _ _ _ _ _ _ h).trans rfl,(cell_of_row _ _ _ _ _ _ h).trans rfl,(cell_of_row _ _ _ _ _ _ h).trans rfl,(cell_of_row _ _ _ _ _ _ h).trans rfl,(cell_of_row _ _ _ _ _ _ h).trans rfl,(cell_of_row _ _ _ _ _ _ h).trans rfl,(cell_of_row _ _ _ _ _ _ h).trans rfl⟩
theorem WG {w:World}{F:Nat->Prop}{x:List Value}{t:bF}(h:mX w F x t):∀u∈x,u.oneCell'=true:=by
 cases h with
 |mk h1 h2 h3 h4 h5=>
  obtain⟨A1,n1,c1,rfl,_⟩:=h1;obtain⟨A2,n2,c2,rfl,_⟩:=h3;obtain⟨A3,n3,c3,rfl,_⟩:=h4;intro u hu;simp only [List.mem_cons,List.not_mem_nil,or_false]at hu;rcases hu with rfl |rfl |rfl |rfl |rfl |rfl |rfl |rfl <;> rfl
theorem Od {w:World}{g:Nat}{cs:Array Value}{t:TypeId}(hg:w.heap[g]? =some (.cells cs t (0,0))){n:Nat}(hn:n<=cs.size):w.there g 0 n:=fun j hj=>by
 refine⟨?_,frozen_of_row _ _ _ _ _ hg⟩;rw [cell_of_row _ _ _ _ _ (0,0) hg];simp;omega
theorem Kt {w w':World}{G:Nat->Prop}{g o:Nat}{cs:List Value}(h:w.rangeAt g o cs)(t:Turn G w w')(hd:¬G g):w'.rangeAt g o cs:=fun j v hv=>by
 have h1:=h j v hv;have hb:=t.block (World.block_lt_of_cell? w _ h1) hd;simp only [World.cell?,hb]at h1 ⊢;exact h1
theorem Oe {w:World}{base:Nat}{e:TypeId}{k:Nat}{v:Value}{n:Nat}{xs:List Value}(h:w.ownsRow base e k v n xs)(hbase:base<=w.heap.size):
  ∃A c g,v=.slice A n c∧n<=c∧c<=maxLen∧base<=g∧(0<n->A=some ⟨g,0,none⟩∧g<w.heap.size)∧w.rangeAt g 0 xs∧w.there g 0 xs.length:=by
 obtain⟨hl,⟨hv,h0⟩ |⟨g,cap,cur,hv,hb,hg,hc,hm,hs,ht⟩⟩:=h
 ·subst h0;obtain rfl:xs=[]:=List.eq_nil_of_length_eq_zero (by omega);exact⟨none,0,base,hv,Nat.le_refl _,Nat.zero_le _,Nat.le_refl _,fun h=>absurd h (by omega),fun j u hu=>by simp at hu,fun j hj=>absurd hj (by simp)⟩
 ·have hlen:xs.length<=cur.size:=by rw [hl,hs];exact Nat.mul_le_mul_right _ hc
  refine⟨_,cap,g,hv,hc,hm,hb,fun _=>⟨rfl,block_lt hg⟩,fun j u hu=>?_,Od hg hlen⟩;rw [cell_of_row _ _ _ _ _ (0,0) hg,Nat.zero_add,<-Array.getElem?_toList];have hj:j<xs.length:=(List.getElem?_eq_some_iff.1 hu).1;rw [<-ht,List.getElem?_take,if_pos (by omega)]at hu;exact hu
theorem mX.parts {w:World}{F:Nat->Prop}{x:List Value}{k n line col:Int}{text:Bt}{ts:List bC}{ns:List Bt}{ks:List bF}(h:mX w F x (.mk k text n line col ts ns ks)):
  ∃A1 c1 A2 c2 A3 c3 xt xk,x=[.int .i64 k,sv text,.int .i64 n,.int .i64 line,.int .i64 col,.slice A1 ts.length c1,.slice A2 ns.length c2,.slice A3 ks.length c3]∧eD w F 4 (.slice A1 ts.length c1) xt∧lI w F xt ts∧eD w F 1 (.slice A2 ns.length c2) (mW ns)∧eD w F 8 (.slice A3 ks.length c3) xk∧jL w F xk ks:=by
 cases h with
 |mk h1 YQ h2 h3 YR=>
  obtain⟨A1,c1,rfl⟩:=dO h1.all (by omega) (m:=ts.length) YQ.all.length;obtain⟨A2,c2,rfl⟩:=dO h2.all (by omega) (m:=ns.length) (by rw [dV];omega);obtain⟨A3,c3,rfl⟩:=dO h3.all (by omega) (m:=ks.length) YR.all.length;exact⟨A1,c1,A2,c2,A3,c3,_,_,rfl,h1,YQ,h2,h3,YR⟩
structure SmM (m:yS):Prop where
 imps:m.imps.length<=100
 decls:m.decls.length<=100
 names:∀i∈m.imps,i.names.length<=100
 vars:∀d∈m.decls,d.vars.length<=100
 types:∀d∈m.decls,d.types.length<=100
 bounds:∀d∈m.decls,∀v∈d.vars,jS v.bound<=300000
 sorts:∀d∈m.decls,dh d.types<=300000
 body:∀d∈m.decls,gT d.body<=300000
theorem Ku {w:World}{B:Nat}{A:Option Addr}{n c:Nat}{xs:List Value}{l:List uU}(hs:Sl w B 4 (.slice A n c) xs)(hr:dH (Nk w B) 4 xs l){i:Nat}(hi:i<l.length)(hn:n=l.length):
  ∃b o A1 c1,A=some ⟨b,o,none⟩∧Ss w B (.slice A1 l[i].names.length c1) l[i].names∧w.cell? ⟨b,o+i*4,none⟩=some (sv l[i].from_)∧w.cell? ⟨b,o+i*4+1,none⟩=some (.slice A1 l[i].names.length c1)∧w.cell? ⟨b,o+i*4+2,none⟩=some (.int .i64 l[i].line)∧w.cell? ⟨b,o+i*4+3,none⟩=some (.int .i64 l[i].col):=by
 obtain⟨b,o,z,hA,hb,⟨vn,rfl,hv⟩,hc⟩:=Fy hs hr (by omega) hi hn;obtain⟨A1,c1,rfl⟩:=dO hv (by omega) (m:=l[i].names.length) (by rw [dV];omega);exact⟨b,o,A1,c1,hA,hv,by simpa using hc 0 _ rfl,hc 1 _ rfl,hc 2 _ rfl,hc 3 _ rfl⟩
theorem lJ {w:World}{b:Nat}{x0 x1:Value}{T:TypeId}(h:w.heap[b]? =some (.cells #[x0,x1] T (0,0))):w.cell? ⟨b,0,none⟩=some x0∧w.cell? ⟨b,1,none⟩=some x1:=
 ⟨(cell_of_row _ _ _ _ _ _ h).trans rfl,(cell_of_row _ _ _ _ _ _ h).trans rfl⟩
def qO (w w':World):Prop:=∀(k:Nat) (cs:Array Value) (T:TypeId) (fz:Nat ×Nat),w.heap[k]? =some (.cells cs T fz)->T≠5->T≠114->w'.heap[k]? =some (.cells cs T fz)
theorem qO.refl (w:World):qO w w:=fun _ _ _ _ h _ _=>h
theorem qO.trans {a b c:World}(h1:qO a b)(h2:qO b c):qO a c:=fun k cs T fz h ha hb=>h2 k cs T fz (h1 k cs T fz h ha hb) ha hb
theorem qO.set {w:World}{b i:Nat}{v:Value}{cs:Array Value}{fz:Nat ×Nat}(h:w.heap[b]? =some (.cells cs 114 fz)):qO w (w.setCell ⟨b,i,none⟩ v):=by
 intro k cs2 T fz2 hk h1 h2
 rw [heap_setCell_other w _ k v (by
  intro e;have e:k=b:=e;subst e;rw [h]at hk;injection hk with hk;injection hk with _ hk _;exact h2 hk.symm)]
 exact hk
theorem qO.grown {w w':World}{base:Nat}{v:Value}{n:Nat}{xs:List Value}(hown:w.ownsRow base 5 1 v n xs)(hg:w.grownBy w' v.ownBlock):qO w w':=by
 intro k cs T fz hk h1 h2
 rw [hg.block k (block_lt hk) (fun e=>by
  rcases hown.2 with⟨rfl,_⟩ |⟨g,cap,cur,rfl,_,hg2,_⟩
  ·cases e
  ·injection e with e;subst e;rw [hg2]at hk;injection hk with hk;injection hk with _ hk _;exact h1 hk.symm)]
 exact hk
def Yt (B b:Nat)(t:Bt)(w:World):Prop:=Lib.IsBuilder 114 5 B b (bv t) w
theorem Yt.below {B b:Nat}{t:Bt}{w w':World}(h:Yt B b t w)(hb:Below w.heap.size w w'):Yt B b t w':=by
 unfold Yt at h ⊢;rcases h with⟨h1,v,h2,h3,h4⟩ |⟨h1,v,h2,h3,h4⟩
 ·exact .inl ⟨h1,v,(hb.block _ (block_lt h2)).trans h2,own_below h3 hb,h4⟩
 ·exact .inr ⟨h1,v,(hb.block _ (block_lt h2)).trans h2,own_below h3 hb,h4⟩
theorem Yt.new (w:World)(B:Nat)(hB:B<=w.heap.size):Yt B w.heap.size [] (w.alloc (.cells #[.pointer none,.slice none 0 0] 114)):=
 .inl ⟨hB,_,heap_alloc_new w _,World.ownsRow_nil _ _ _ _,by simp [Value.ownBlock]⟩
theorem za {m:Nat}{k:Int}{text:Bt}{n li co:Int}{ts:List bC}{ns:List Bt}{ks:List bF}(h:dx m (.mk k text n li co ts ns ks)=true):
  ∃q,m=q+1∧(0<=k∧k<20)∧Ca k text n ts.length ns.length ks.length=true∧(∀x∈ns,x.length<=32)∧ts.all (aK 16)=true∧(∀x∈ks,dx q x=true):=by
 cases m with
 |zero=>cases h
 |succ q=>
  have h:(decide (0<=k∧k<20) && Ca k text n ts.length ns.length ks.length && ns.all dM && ts.all (aK 16) && ks.all (dx q))=true:=h;rw [Bool.and_eq_true,Bool.and_eq_true,Bool.and_eq_true,Bool.and_eq_true,decide_eq_true_eq]at h;exact⟨q,rfl,h.1.1.1.1,h.1.1.1.2,fun x hx=>oI (List.all_eq_true.1 h.1.1.2 x hx),h.1.2,fun x hx=>List.all_eq_true.1 h.2 x hx⟩
theorem ze {P:Program}{ops:Array Oper}{o:Oper}{a:Act}{w:World}{K:Act->World->Prop}{Q:Exit->Act->World->Prop}{E:Prop}(hgd:o.guard=none)(s x:Operand)(t:TypeId)
  (ho:o.op=.call { callee:= .builtin .append,args:= #[s,x],argTypes:= #[t,t]})
  (base:Nat) {e:TypeId}{z:Value}(hE:ku P t e z 1 16) (v y:Value) (hs:a.eval s=v) (hx:a.eval x=y)
  {l:List Bt}(hown:gX w base e v l) {B:Nat}{m:List Bt}(hy:Ss w B y m) (hlen:l.length+m.length<=8796093022208) (hbase:base<=w.heap.size)
  (h:∀v' w',gX w' base e v' (l++m)->w.grownBy w' v.ownBlock->(v'.ownBlock=v.ownBlock∨v'.ownBlock=some w.heap.size)->K (a.put o.dst v') w'):
  if Region.wanted o (yielded ops a.tmps)=true then Oper.wp P o a w K Q else E:=
 gG hgd s x t ho base hE v y hs hx hown.row hy (xE _) (by simp only [dV,maxLen];omega) (by rw [dV];omega) hbase
  (fun v' w' n' h1 h2 h3=>h v' w' ⟨n',by rw [mF];exact h1⟩ h2 h3)
structure CP (w wr:World) (OB:Obj) (v:Value) (l:List Bt):Prop where
 box:wr.heap[w.heap.size+1]? =some (.cells #[v] 25 (0,0))
 own:gX wr (w.heap.size+2) 9 v l
 node:wr.heap[w.heap.size]? =some OB
 below:Below w.heap.size w wr
theorem CP.far {w wr w':World}{OB:Obj}{v:Value}{l:List Bt}(h:CP w wr OB v l)(hb:Below wr.heap.size wr w'):CP w w' OB v l:=
 ⟨(hb.block _ (block_lt h.box)).trans h.box,h.own.below hb,(hb.block _ (block_lt h.node)).trans h.node,h.below.trans (hb.mono h.below.size)⟩
theorem CP.cell {w wr:World}{OB:Obj}{v:Value}{l:List Bt}(h:CP w wr OB v l):wr.cell? ⟨w.heap.size+1,0,none⟩=some v:=(cell_of_row _ _ _ _ _ _ h.box).trans rfl
theorem CP.grown {w wr w':World}{OB:Obj}{v v':Value}{l l':List Bt}(h:CP w wr OB v l)(ho:gX w' (w.heap.size+2) 9 v' l')(hg:wr.grownBy w' v.ownBlock):
  w'.cell? ⟨w.heap.size+1,0,none⟩=some v∧w'.frozen? ⟨w.heap.size+1,0,none⟩=false∧CP w (w'.setCell ⟨w.heap.size+1,0,none⟩ v') OB v' l':=by
 have hlt:=h.own.lt;have hb:=(hg.block _ (block_lt h.box) (by intro e;have:=(hlt _ e.symm).1;omega)).trans h.box;have hn:=(hg.block _ (block_lt h.node) (by intro e;have:=(hlt _ e.symm).1;omega)).trans h.node;have hbl:Below w.heap.size w w':=h.below.grown hg h.below.size (fun k hk=>by have:=(hlt k hk).1;omega);have t:=ak w' (w.heap.size+1) 0 v';refine⟨(cell_of_row _ _ _ _ _ _ hb).trans rfl,bI hb 0,heap_setCell_same _ _ _ _ _ _ hb,ho.turn t (fun g hg e=>by have:=(ho.lt g hg).1;omega),ah hn t (by omega),hbl.trans (t.below hbl.size (fun k hk e=>by omega))⟩
theorem gX.cell {w:World}{base:Nat}{e:TypeId}{g c n:Nat}{l:List Bt}(h:gX w base e (.slice (some ⟨g,0,none⟩) n c) l)(j:Nat)(hj:j<l.length):w.cell? ⟨g,j,none⟩=some (sv l[j]):=by
 have:=h.row.cells (g:=g) rfl j _ (Bu l j hj);rwa [jv,Nat.zero_add]at this
theorem Og (w:World)(bt bk:Nat)(k:Int)(text:Bt)(n li co:Int)(A1:Option Addr)(n1 c1:Nat)(A2:Option Addr)(a c2:Nat)(A3:Option Addr)(n3 c3:Nat)(g:Nat)(d c:Nat)(ns S:List Bt)
  (hbt:w.heap[bt]? =some (.cells #[.int .i64 k,sv text,.int .i64 n,.int .i64 li,.int .i64 co,.slice A1 n1 c1,.slice A2 a c2,.slice A3 n3 c3] 52 (0,0))) (hbk:w.cell? ⟨bk,0,none⟩=some (.slice (some ⟨g,0,none⟩) d c))
  (s2:Ss w w.heap.size (.slice A2 a c2) ns) (hS:∀(j:Nat) (hj:j<S.length),w.cell? ⟨g,j,none⟩=some (sv S[j])) (hd:d=S.length) (hdc:d<=1000000) (ha:a=ns.length) (i:Nat) (hi:i<S.length) (hin:i<ns.length) (hl1:ns[i].length<=32) (hl2:S[i].length<=1000000000):
  Calls Tryz.prog 119 #[.int .i64 i,.pointer (some ⟨bt,0,none⟩),.pointer (some ⟨bk,0,none⟩)] w fun e w'=>e=.returned (sv (gI ns[i] S[i]))∧Below w.heap.size w w':=by
 obtain⟨_,_,_,_,_,_,g6,_⟩:=gN hbt;subst ha;obtain⟨b1,o1,rfl,d0⟩:=BD s2 hin;have e0:=hS i hi;have l1:=(bN s2).2;have hsz0:=aT ns[i];have hsz1:=aT S[i];have afZ:i<d:=by omega
 generalize ns[i]=X at*
 generalize S[i]=s at*
 generalize ns.length=a at*
 have HF:bR (gI X s=(X++[58,32])++s):=aZ (by unfold gI;rw [List.append_assoc]);have q0:¬(9223372036854775807<X.length+2):=by omega
 have q1:¬(9223372036854775807<X.length+2+s.length):=by omega
 have G6:=aZ g6;have D0:=aZ d0;have E0:=aZ e0;have GK:=aZ hbk;have HB0:bR (Below w.heap.size w w.drew):=aZ (aH w 1);clear hbt s2 hS hd g6 d0 e0 hbk hl1 hl2 hi;go_enter Tryz.func119,Tryz.ntmps119;go_wp2_with fail;refine wp_region_held_drew (S:=fun w'=>Below w.heap.size w w') (by kernel_rfl) HB0.o (fun _=>?_)
 try simp only [Act.put,sq]
 refine tk 0 (.pointer (some ⟨bt,6,none⟩)) HB0.o ?_;refine jE 1 (.slice (some ⟨b1,o1,none⟩) a c2) (kU G6.o) HB0.o ?_;refine tk 2 (.int .i64 i) HB0.o ?_;refine tk 3 (.pointer (some ⟨b1,o1+i,none⟩)) HB0.o ?_;refine jE 4 (sv X) (kU D0.o) HB0.o ?_;refine tk 5 (.string ((⟨X.toArray⟩:ByteArray)++⟨#[58,32]⟩)) HB0.o ?_;refine jE 6 (.slice (some ⟨g,0,none⟩) d c) (kU GK.o) HB0.o ?_;refine tk 7 (.int .i64 i) HB0.o ?_;refine tk 8 (.pointer (some ⟨g,i,none⟩)) HB0.o ?_;refine jE 9 (sv s) (kU E0.o) HB0.o ?_;refine tk 10 (.string ((⟨X.toArray⟩:ByteArray)++⟨#[58,32]⟩++⟨s.toArray⟩)) HB0.o ?_;refine tk 11 (.string ((⟨X.toArray⟩:ByteArray)++⟨#[58,32]⟩++⟨s.toArray⟩)) HB0.o ?_;refine wpAnyH_done (by kernel_rfl) ?_ _;go_wp2_with fail;go_ret;refine⟨?_,HB0.o⟩;rw [HF.o];have e:(⟨X.toArray⟩:ByteArray)++⟨([58,32]:Bt).toArray⟩++⟨s.toArray⟩=⟨(X++([58,32]:Bt)++s).toArray⟩:=by
  rw [aF,aF]
 exact congrArg (fun b=>Ending.returned (Value.string b)) e
theorem Kv (w:World)(z:List Value)(k:Int)(text:Bt)(n li co:Int)(ts:List bC)(ns:List Bt)(ks:List bF)(hr:tT w w.heap.size z (.mk k text n li co ts ns ks))(hk:k=0∨k=1∨k=2∨k=3∨k=4∨k=18∨k=19)(hn:In64 n)(h2:k=2->n=0∨n=1)(ht:text.length<=256)(hw:ts.all (aK 16)=true)(hc:dh ts<=300000)(hX:kX w):
  Calls Tryz.prog 120 #[.agg z.toArray] w fun e w'=>e=.returned (sv (iC k text n ts))∧Below w.heap.size w w':=by
 obtain⟨A1,c1,A2,c2,A3,c3,xt,xk,rfl,s1,r1,s2,s3,r3⟩:=hr.parts;clear hr s2 s3 r3;obtain⟨b,hB⟩:∃b,ns.length=b:=⟨_,rfl⟩
 obtain⟨d,hD⟩:∃d,ks.length=d:=⟨_,rfl⟩
 rw [hB,hD];clear hB hD;obtain⟨W,hW⟩:∃W,w.alloc (.cells #[.int .i64 k,sv text,.int .i64 n,.int .i64 li,.int .i64 co,.slice A1 ts.length c1,.slice A2 b c2,.slice A3 d c3] 52)=W:=⟨_,rfl⟩
 have hb1:Below w.heap.size w W:=by rw [<-hW];exact(Below.refl _ _).alloc (Nat.le_refl _) _
 have hbx:W.heap[w.heap.size]? =some (.cells #[.int .i64 k,sv text,.int .i64 n,.int .i64 li,.int .i64 co,.slice A1 ts.length c1,.slice A2 b c2,.slice A3 d c3] 52 (0,0)):=by rw [<-hW];exact heap_alloc_new w _
 obtain⟨_,g1,_,_,_,g5,_,_⟩:=gN hbx;have G1:=aZ g1;have G5:=aZ g5;have HB:=aZ hb1;have uW:=aZ hW;have HX:=aZ (hX.below hb1);have rz:=aZ (And.intro (Sl.more (Sl.below s1 hb1) hb1.size) ((r1.keep hb1).more hb1.size));have hlt:=(wJ hw hc).1;have hla:=(bN s1).2;clear hb1 hbx hX s1 r1 g1 g5;rcases hk with rfl |rfl |rfl |rfl |rfl |rfl |rfl
 ·have HT:bR (iC 0 text n ts=Lib.itoa n):=aZ rfl;rw [HT.o];have HS:=aZ (GQ n W hn HX.o.1);rw [<-hW]at HS;clear hW;generalize Lib.itoa n=s at*
  go_enter Tryz.func120,Tryz.ntmps120;go_wp2_with fail;refine HS.o.mono ?_;rintro e w2 ⟨rfl,hb⟩;rw [uW.o]at hb;go_wp2_with fail;go_ret;exact⟨rfl,HB.o.trans (hb.mono HB.o.size)⟩
 ·have HT:bR (iC 1 text n ts=mE text):=aZ rfl;rw [HT.o];have HS:=aZ (NP W text (by omega));rw [<-hW]at HS;clear hW;generalize mE text=s at*
  go_enter Tryz.func120,Tryz.ntmps120;go_wp2_with fail;refine HS.o.mono ?_;rintro e w2 ⟨rfl,hb⟩;rw [uW.o]at hb;go_wp2_with fail;go_ret;exact⟨rfl,HB.o.trans (hb.mono HB.o.size)⟩
 ·clear hW;rcases h2 rfl with rfl |rfl
  ·have HT:bR (iC 2 text 0 ts=[102,97,108,115,101]):=aZ rfl;rw [HT.o];have hix:∀u,(Instr.index 215 (.agg #[.string ⟨#[102,97,108,115,101]⟩,.string ⟨#[116,114,117,101]⟩]) (.int .i64 0)).run Tryz.prog u=.ok (.string ⟨#[102,97,108,115,101]⟩) u:=fun _=>by kernel_rfl
   rw [<-uW.o]at HB;go_enter Tryz.func120,Tryz.ntmps120;go_wp2_with fail;go_ret;exact⟨rfl,HB.o⟩
  ·have HT:bR (iC 2 text 1 ts=[116,114,117,101]):=aZ rfl;rw [HT.o];have hix:∀u,(Instr.index 215 (.agg #[.string ⟨#[102,97,108,115,101]⟩,.string ⟨#[116,114,117,101]⟩]) (.int .i64 1)).run Tryz.prog u=.ok (.string ⟨#[116,114,117,101]⟩) u:=fun _=>by kernel_rfl
   rw [<-uW.o]at HB;go_enter Tryz.func120,Tryz.ntmps120;go_wp2_with fail;go_ret;exact⟨rfl,HB.o⟩
 ·have HT:bR (iC 3 text n ts=[110,117,108,108]):=aZ rfl;rw [HT.o];rw [<-uW.o]at HB;clear hW;go_enter Tryz.func120,Tryz.ntmps120;go_wp2_with fail;go_ret;exact⟨rfl,HB.o⟩
 ·have HT:bR (iC 4 text n ts=text):=aZ rfl;rw [HT.o];rw [<-uW.o]at HB;clear hW;go_enter Tryz.func120,Tryz.ntmps120;go_wp2_with fail;go_ret;exact⟨rfl,HB.o⟩
 ·have HT:bR (iC 18 text n ts=[114,101,97,100,40,41]):=aZ rfl;rw [HT.o];rw [<-uW.o]at HB;clear hW;go_enter Tryz.func120,Tryz.ntmps120;go_wp2_with fail;go_ret;exact⟨rfl,HB.o⟩
 ·have HT:bR (iC 19 text n ts=text++[91]++jc [44,32] (ts.map cO)++[93]):=aZ (by show cat [text,[91],jc [44,32] (ts.map cO),[93]]= _;simp [cat]);rw [HT.o];have HS:=aZ (fun(w1:World) (h:Below W.heap.size W w1)=>Oc w1 ts A1 c1 xt (Sl.more (Sl.below rz.o.1 h) h.size) ((rz.o.2.keep h).more h.size) hw hc);obtain⟨a,ha⟩:∃a,ts.length=a:=⟨_,rfl⟩
  rw [ha]at HS uW G5 hW hla ⊢;clear hw hc HT ha rz;generalize jc [44,32] (ts.map cO)=s at*
  generalize text=X at*
  have hsz:=aT s;have hsz1:=aT X;have q0:¬(9223372036854775807<X.length+1):=by omega
  have q1:¬(9223372036854775807<X.length+1+s.length):=by omega
  have q2:¬(9223372036854775807<X.length+1+s.length+1):=by omega
  have HB0:bR (Below W.heap.size W W.drew):=aZ (aH W 1);clear hW;go_enter Tryz.func120,Tryz.ntmps120;go_wp2_with fail;have hW:=uW.o;rw [hW];clear hW;refine wp_region_held_drew (S:=fun w'=>Below W.heap.size W w') (by kernel_rfl) HB0.o (fun _=>?_)
  try simp only [Act.put,sq]
  refine tk 0 (.pointer (some ⟨w.heap.size,1,none⟩)) HB0.o ?_;refine jE 1 (sv X) (kU G1.o) HB0.o ?_;refine tk 2 (.string ((⟨X.toArray⟩:ByteArray)++⟨#[91]⟩)) HB0.o ?_;refine tk 3 (.pointer (some ⟨w.heap.size,5,none⟩)) HB0.o ?_;refine jE 4 (.slice A1 a c1) (kU G5.o) HB0.o ?_;refine wpAnyH_ready (rs:=[5]) (by kernel_rfl) (by simp) ?_;refine AllReadyH.cons rfl (fun K hK=>?_) (AllReadyH.nil);go_simp;refine(HS.o _ HB0.o).mono ?_;rintro e w2 ⟨rfl,hb⟩;have HB2:=aZ (HB0.o.trans (hb.mono HB0.o.size));clear hb;refine hK.out _ _ HB2.o (fun _=>?_);clear hK K
  try simp only [Act.put,sq]
  refine tk 6 (.string ((⟨X.toArray⟩:ByteArray)++⟨#[91]⟩++⟨s.toArray⟩)) HB2.o ?_;refine tk 7 (.string ((⟨X.toArray⟩:ByteArray)++⟨#[91]⟩++⟨s.toArray⟩++⟨#[93]⟩)) HB2.o ?_;refine tk 8 (.string ((⟨X.toArray⟩:ByteArray)++⟨#[91]⟩++⟨s.toArray⟩++⟨#[93]⟩)) HB2.o ?_;refine wpAnyH_done (by kernel_rfl) ?_ _;go_wp2_with fail;go_ret;refine⟨?_,HB.o.trans (HB2.o.mono HB.o.size)⟩;have e:(⟨X.toArray⟩:ByteArray)++⟨([91]:Bt).toArray⟩++⟨s.toArray⟩++⟨([93]:Bt).toArray⟩=⟨(X++([91]:Bt)++s++([93]:Bt)).toArray⟩:=by
   rw [aF,aF,aF]
  exact congrArg (fun b=>Ending.returned (Value.string b)) e
def Yu (x:bF):Prop:=∀(w:World) (z:List Value) (m:Nat),tT w w.heap.size z x->GN x->dx m x=true->gT x<=300000->kX w->
 Calls Tryz.prog 57 #[.agg z.toArray] w fun e w'=>e=.returned (sv (fT x))∧Below w.heap.size w w'
end Go.Proofs.YtfgjkmipfikooaaGreatDoor
