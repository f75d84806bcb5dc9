/- GN, UI, UN, UN5, US, HK, HL, YE, YH -/
import Derived.Test.YtncnnedlgofccaaGreatDoorPT33
import Derived.Deep.WholeRow
import Derived.Test.YtncnnedlgofccaaGreatDoorPT29
set_option linter.unusedSimpArgs false
set_option linter.unusedVariables false
set_option maxRecDepth 100000
set_option maxHeartbeats 8000000
namespace Go.Proofs.YtncnnedlgofccaaGreatDoor
open Go.RowKit
theorem adH (w:World)(k:Int)(text:Bt)(v2 v3 v4:Int)(A5:Option Addr)(n5 c5:Nat)(A6:Option Addr)(n6 c6:Nat)(A7:Option Addr)(n7 c7:Nat)(ht:text.length<=maxLen)(hX:mW w)(b:Bool)(a1 a2 a3 a4:Int):
  Calls Tryz.prog 128 #[.agg #[I k,sv text,I v2,I v3,I v4,.slice A5 n5 c5,.slice A6 n6 c6,.slice A7 n7 c7],.agg #[.bool b,I a1,I a2,I a3,I a4]] w fun e w'=>e=.returned (.bool (vo k text b))∧Below w.heap.size w w':=by
 obtain⟨W,hW⟩:∃W,(w.alloc (.cells #[.int .i64 k,sv text,.int .i64 v2,.int .i64 v3,.int .i64 v4,.slice A5 n5 c5,.slice A6 n6 c6,.slice A7 n7 c7] 70)).alloc (.cells #[.bool b,.int .i64 a1,.int .i64 a2,.int .i64 a3,.int .i64 a4] 187)=W:=⟨_,rfl⟩
 have hb2:Below w.heap.size w W:=by rw [<-hW];exact(o9 _ _).alloc (by simp) _
 have HB:=aO hb2;have HW:=aO hW;have HX:=aO (hX.below hb2);have HNM:=aO (Jf W text (hX.below hb2) ht);have HST:=aO (adF text W ht);have hbx:W.heap[w.heap.size]? =some (.cells #[I k,sv text,I v2,I v3,I v4,.slice A5 n5 c5,.slice A6 n6 c6,.slice A7 n7 c7] 70 (0,0)):=by rw [<-hW];exact(rJ w _ _).1
 obtain⟨_,g1,_⟩:=mU hbx;have G1:=aO g1;clear hX hbx g1 hb2 ht;cases b with
 |true=>
  have HT:bq (vo k text true=gT text):=aO rfl;rw [HT.o];rw [<-hW]at HNM;clear hW;generalize gT text=q at*
  go_enter Tryz.func128,Tryz.ntmps128;go_wp2_with fail;refine HNM.o.mono ?_;rintro e w2 ⟨rfl,hb⟩;have hW:=HW.o;rw [hW]at hb;go_wp2_with fail;go_ret;exact⟨rfl,HB.o.trans (hb.mono HB.o.size)⟩
 |false=>
  by_cases k1:k=1
  ·subst k1;have HT:bq (vo 1 text false=Lp text):=aO rfl;rw [HT.o];rw [<-hW]at HST;clear hW;generalize Lp text=q at*
   go_enter Tryz.func128,Tryz.ntmps128;go_wp2_with fail;refine HST.o.mono ?_;rintro e w2 ⟨rfl,hb⟩;have hW:=HW.o;rw [hW]at hb;go_wp2_with fail;go_ret;exact⟨rfl,HB.o.trans (hb.mono HB.o.size)⟩
  have q1:(k==1)=false:=beq_eq_false_iff_ne.mpr k1;by_cases k14:k=14
  ·subst k14;have HT:bq (vo 14 text false=decide (text∈opsL)):=aO (by show opsL.contains text= _;rw [List.contains_eq_mem]);rw [HT.o];clear hW k1 q1;have HB0:bq (Below W.heap.size W W.drew):=aO (aP W 1);have HO:=aO (afO W.drew (HX.o.below HB0.o));have HCC:=aO (fun v (w1:World) (h:Ss w1 w1.heap.size v opsL)=>ru v opsL text w1 h);clear HT HNM HST;generalize decide (text∈opsL)=q at*
   go_enter Tryz.func128,Tryz.ntmps128;go_wp2_with fail;have hW:=HW.o;rw [hW];clear hW;refine wp_region_held_drew (S:=fun w'=>Below W.heap.size W w') (by kernel_rfl) HB0.o (fun _=>?_)
   try simp only [sp,sq]
   refine tk 1 (pP w.heap.size 1) HB0.o ?_;refine jE 2 (sv text) (JG G1.o) HB0.o ?_;refine dJ 0 fun K hK=>?_;go_simp;refine HO.o.mono ?_;rintro e w2 ⟨v2,rfl,hss,hb⟩;have FH:=aO hss;have HB2:=aO (HB0.o.trans (hb.mono HB0.o.size));clear hb hss;refine hK.out _ _ HB2.o (fun _=>?_);clear hK K
   try simp only [sp,sq]
   refine dJ 3 fun K hK=>?_;go_simp;refine(HCC.o _ _ FH.o).mono ?_;rintro e w3 ⟨rfl,rfl⟩;refine hK.out _ _ HB2.o (fun _=>?_);clear hK K
   try simp only [sp,sq]
   refine tk 4 (.bool q) HB2.o ?_;refine eT _ ?_;go_wp2_with fail;go_ret;exact⟨rfl,HB.o.trans (HB2.o.mono HB.o.size)⟩
  have q14:(k==14)=false:=beq_eq_false_iff_ne.mpr k14;have HT:bq (vo k text false=(text==[])):=aO (by unfold vo;rw [if_neg (by simp),if_neg k1,if_neg k14]);rw [HT.o];clear hW k1 k14 HNM HST HT;rw [<-HW.o]at HB;cases hq:(text==[])with
  |true=>
   obtain rfl:text=[]:=by simpa using hq
   go_enter Tryz.func128,Tryz.ntmps128;go_wp2_with fail;go_ret;exact⟨rfl,HB.o⟩
  |false=>
   go_enter Tryz.func128,Tryz.ntmps128;go_wp2_with fail;go_ret;exact⟨rfl,HB.o⟩
theorem MV {P:Program}{fn:Func}{p:Tmp}{ty:TypeId}(h:fn.results= #[.cell p ty])(tmps:Array Value)(w:World)(g:Nat)(t:TypeId)(cs:Array Value)(fr:Nat ×Nat)(d:TypeDesc)
  (hp:tmps.getD p undef=pP g 0) (hg:w.heap[g]? =some (.cells cs t fr))
  (hu:P.underlying ty=some d) (hd:(match d with |.struct _ |.array _ _=>true |_=>false)=true) (hi:(P.info? ty).map (·.size)=some cs.size):
  (results fn tmps).run P w=.ok (.agg cs) w:=by
 have hp':tmps[p]?.getD undef=pP g 0:=by simpa using hp
 simp [results,h,hp',asAddr,run_loadVar_row w g t ty cs fr d hg hu hd hi,Result.andThen]
def Bu:List Value:=[.bool false,I 0,I 0,I 0,I 9223372036854775807,.bool false,I 0,I 0,I 0,I 0,.bool false,I 0,I 0,I 0,I 1,.bool false,I 0,I 0,I 0,I 0,.bool true,I 0,I 0,I 0,I 0,.bool true,I 0,I 1,I 2,I 0,.bool true,I 1,I 2,I 1,I 0,.bool false,I 0,I 0,I 2,I 0,.bool false,I 0,I 0,I (-1),I 0,.bool true,I 0,I 0,I 1,I 0,.bool true,I 0,I 0,I 2,I 0,.bool false,I 0,I 0,I 3,I 0,.bool false,I 0,I 0,I 1,I 5,.bool false,I 1,I 1,I 1,I 0,.bool false,I 0,I 0,I 2,I 0,.bool false,I 0,I 0,I 1,I 0,.bool false,I 0,I 0,I 1,I 0,.bool false,I 0,I 0,I 1,I 0,.bool false,I 0,I 0,I 0,I 0,.bool true,I 1,I 1048576,I 0,I 0]
theorem XO (w:World):Calls Tryz.prog 127 #[] w fun e w'=>e=.returned (.agg Bu.toArray)∧Below w.heap.size w w':=by
 have hst:∀L:List Value,L=Bu->(storeCells ⟨w.heap.size,0,none⟩ L 0).run Tryz.prog (w.alloc (.cells Tryz.zeroCells188 188))=.ok () (w.alloc (.cells Bu.toArray 188)):=by
  intro L h;subst h;have:=run_storeCells_new (P:=Tryz.prog) w 188 Tryz.zeroCells188 Bu.toArray (by kernel_rfl) (by kernel_rfl) (by kernel_rfl);simpa using this
 go_enter Tryz.func127,Tryz.ntmps127;go_wp2_with fail;rw [hst _ (by kernel_rfl)];clear hst;have hK:Bu.toArray.size=100:=by kernel_rfl
 generalize hKL:Bu.toArray=L at*
 go_wp2_with fail;refine bodyPost_ret (MV rfl _ _ w.heap.size _ _ _ _ rfl (heap_alloc_new w _) Tryz.underlying188 rfl (by rw [hK];kernel_rfl)) rfl ?_;exact⟨by rw [hKL],o9 _ _⟩
def adI (h:ad7):Value:= .agg #[.bool h.name,I h.low,I h.types,I h.kids,I h.most]
theorem Qv (k:Int)(h0:0<=k)(h1:k<20)(u:World):(Instr.index 188 (.agg Bu.toArray) (I k)).run Tryz.prog u=.ok (adI (fH k)) u:=by
 have h:k=0∨k=1∨k=2∨k=3∨k=4∨k=5∨k=6∨k=7∨k=8∨k=9∨k=10∨k=11∨k=12∨k=13∨k=14∨k=15∨k=16∨k=17∨k=18∨k=19:=by omega
 clear h0 h1;rcases h with rfl |rfl |rfl |rfl |rfl |rfl |rfl |rfl |rfl |rfl |rfl |rfl |rfl |rfl |rfl |rfl |rfl |rfl |rfl |rfl
 all_goals (show _= _;kernel_rfl)
theorem XP (w:World):Calls Tryz.prog 127 #[] w fun e w'=>(∃v,e=.returned v∧∀k:Int,0<=k->k<20->∀u,(Instr.index 188 v (I k)).run Tryz.prog u=.ok (adI (fH k)) u)∧Below w.heap.size w w':=
 (XO w).mono fun e w' h=>⟨⟨_,h.1,fun k h0 h1 u=>Qv k h0 h1 u⟩,h.2⟩
def NdC (m:Nat):Prop:=∀(w:World) (z:List Value) (x:bW),Bv w w.heap.size z x->okN x->mW w->
 Calls Tryz.prog 74 #[.agg z.toArray,I m] w fun e w'=>e=.returned (.bool (ko m x))∧Below w.heap.size w w'
theorem SX (m:Nat)(k:Int)(text:Bt)(n li co:Int)(ts:List bZ)(ns:List Bt)(ks:List bW):ko (m+1) (.mk k text n li co ts ns ks)=
  (decide (0<=k∧k<20) && Lr k text n ts.length ns.length ks.length && ns.all gT && ts.all (dx 16) && ks.all (ko m)):=rfl
theorem XQ:NdC 0:=by
 intro w z x hr hok hX;have hw:ko 0 x=false:=rfl;rw [hw];obtain⟨k,s,n,l,o,A1,n1,c1,A2,n2,c2,A3,n3,c3,rfl⟩:=hr.shape;have HB:bq (Below w.heap.size w (w.alloc (.cells #[.int .i64 k,.string s,.int .i64 n,.int .i64 l,.int .i64 o,.slice A1 n1 c1,.slice A2 n2 c2,.slice A3 n3 c3] 70))):=aO (o9 _ _);clear hr hok hX hw;go_enter Tryz.func74,Tryz.ntmps74;go_wp2_with fail;go_ret;exact⟨rfl,HB.o⟩
def zf (k:Int)(names:Nat):Int:=if k<0 then names else k
theorem Jp (k:Int)(text:Bt)(n:Int)(a b d:Nat):Lr k text n a b d=(decide (0<=n∧n<=(fH k).most) && vo k text (fH k).name && decide ((fH k).low<=a∧a<=(fH k).types) && (decide ((fH k).kids<0∨b=0) && decide ((d:Int)=zf (fH k).kids b))):=by
 unfold Lr zf;congr 1;by_cases h:(fH k).kids<0
 ·rw [if_pos h,if_pos h];by_cases h2:d=b
  ·subst h2;simp [h]
  ·have:¬(d:Int)=(b:Int):=by omega
   simp [h,h2,this]
 ·rw [if_neg h,if_neg h];by_cases h2:b=0
  ·subst h2;by_cases h3:(d:Int)=(fH k).kids
   ·simp [h3]
   ·simp [h3]
  ·simp [h,h2]
theorem zh {P:Program}{ops:Array Oper}{o:Oper}{a:Act}{w:World}{K:Act->World->Prop}{Q:Exit->Act->World->Prop}{E:Prop}(hgd:o.guard=none)(ty:TypeId)(x y:Operand)(ho:o.op=.store ty x y)
  (g:Nat) (cells:Array Value) (hx:a.eval x=pP g 0) (hy:a.eval y=.agg cells)
  (t:TypeId) (old:Array Value) (hg:w.heap[g]? =some (.cells old t (0,0))) (hi:(P.info? ty).map (·.size)=some cells.size)
  (hold:old.size=cells.size) (h1:cells.all (·.oneCell')=true) (h:K (a.put o.dst undef) (w.setRow g cells)):
  if Region.wanted o (yielded ops a.tmps)=true then Oper.wp P o a w K Q else E:=by
 have hw:Region.wanted o (yielded ops a.tmps)=true:=by simp [Region.wanted,hgd]
 rw [if_pos hw];exact wp_store_row ty x y ho g cells hx hy t old hg hi hold h1 h
theorem XR (m:Nat)(hm:m<=40)(ih:NdC m):NdC (m+1):=by
 intro w z x hr hok hX;obtain⟨k,text,n,li,co,ts,ns,ks⟩:=x;rw [okN]at hok;obtain⟨ok1,ok2,ok3,ok4,ok5,ok6,ok7,ok8⟩:=hok;obtain⟨A1,c1,A2,c2,A3,c3,xt,xk,rfl,s1,r1,s2,s3,r3⟩:=hr.parts;have l1:=(dU s1).2;have l2:=(dU s2).2;have l3:=(dU s3).2;have Vu:=SX m k text n li co ts ns ks;rw [Jp]at Vu;obtain⟨res,hres⟩:∃res,ko (m+1) (.mk k text n li co ts ns ks)=res:=⟨_,rfl⟩
 rw [hres]at Vu ⊢;clear hres hr;obtain⟨W,hW⟩:∃W,w.alloc (.cells #[.int .i64 k,sv text,.int .i64 n,.int .i64 li,.int .i64 co,.slice A1 ts.length c1,.slice A2 ns.length c2,.slice A3 ks.length c3] 70)=W:=⟨_,rfl⟩
 have hb1:Below w.heap.size w W:=by rw [<-hW];exact o9 _ _
 have hbx:W.heap[w.heap.size]? =some (.cells #[I k,sv text,I n,I li,I co,.slice A1 ts.length c1,.slice A2 ns.length c2,.slice A3 ks.length c3] 70 (0,0)):=by rw [<-hW];exact heap_alloc_new w _
 have HX:=aO (hX.below hb1);have Tv:=aO (And.intro (Sl.more (Sl.below s1 hb1) hb1.size) ((r1.keep hb1).more hb1.size));have HKK:=aO (And.intro (Sl.more (Sl.below s3 hb1) hb1.size) ((r3.keep hb1).more hb1.size));have hs2:=Sl.more (Sl.below s2 hb1) hb1.size;have HNM:=aO (fun wr (h:Below W.heap.size W wr)=>Jh _ ns wr (Sl.more (Sl.below hs2 h) h.size) ok7 (HX.o.below h));have HTX:=aO (fun wr (h:Below W.heap.size W wr) (b:Bool) (a1 a2 a3 a4:Int)=>adH wr k text n li co A1 ts.length c1 A2 ns.length c2 A3 ks.length c3 ok2 (HX.o.below h) b a1 a2 a3 a4);have HOT:=aO ok6;have Tq:=aO (BP.1 ok8);have HIH:=aO ih;have EO:=aO (Fy 16 (by omega));have Gb:=aO hbx;have HB1:=aO hb1;have SY:=aO Vu;have La:=aO hW;have Qw:=ok3;clear s1 r1 s2 s3 r3 ok1 ok2 ok3 ok4 ok5 ok6 ok7 ok8 hX ih hb1 hbx Vu hs2 hW;obtain⟨a,hA⟩:∃a,ts.length=a:=⟨_,rfl⟩
 obtain⟨b,hB⟩:∃b,ns.length=b:=⟨_,rfl⟩
 obtain⟨d,hD⟩:∃d,ks.length=d:=⟨_,rfl⟩
 rw [hA]at l1 Tv HTX Gb La SY ⊢;rw [hB]at l2 HNM HTX Gb La SY ⊢;rw [hD]at l3 HKK HTX Gb La SY ⊢;have HA:=aO hA;have HD:=aO hD;clear hA hB hD;have hm0:(((m:Int)+1)==0)=false:=by rw [beq_eq_false_iff_ne];omega
 have hm1:(((m+1:Nat):Int)==0)=false:=by rw [beq_eq_false_iff_ne];omega
 generalize ns.all gT=q at*
 by_cases h0:k<0
 ·have g4:decide (k<0)=true:=by simpa using h0
  have HF:bq (res=false):=aO (by rw [SY.o,decide_eq_false (by omega:¬(0<=k∧k<20))];rfl);clear h0 Qw;go_enter Tryz.func74,Tryz.ntmps74;go_wp2_with fail;go_ret;refine⟨by rw [HF.o];rfl,?_⟩;rw [La.o];exact HB1.o
 have g4:decide (k<0)=false:=by simpa using h0
 by_cases h20:20<=k
 ·have g5:decide (20<=k)=true:=by simpa using h20
  have HF:bq (res=false):=aO (by rw [SY.o,decide_eq_false (by omega:¬(0<=k∧k<20))];rfl);clear h0 h20 Qw;go_enter Tryz.func74,Tryz.ntmps74;go_wp2_with fail;go_ret;refine⟨by rw [HF.o];rfl,?_⟩;rw [La.o];exact HB1.o
 have g5:decide (20<=k)=false:=by simpa using h20
 have HRK:bq (res=(decide (0<=n∧n<=(fH k).most) && vo k text (fH k).name && decide ((fH k).low<=a∧a<=(fH k).types) && (decide ((fH k).kids<0∨b=0) && decide ((d:Int)=zf (fH k).kids b)) && q && ts.all (dx 16) && ks.all (ko m))):=aO (by rw [SY.o,decide_eq_true (by omega:0<=k∧k<20),Bool.true_and]);have HKI:=aO (fun w1=>(XP w1).mono fun e w' (h: _∧ _)=>(⟨h.1.imp fun v hv=>⟨hv.1,hv.2 k (by omega) (by omega)⟩,h.2⟩:(∃v,e=.returned v∧∀u,(Instr.index 188 v (I k)).run Tryz.prog u=.ok (adI (fH k)) u)∧Below w1.heap.size w1 w'));have axA:=aO Qw;clear h0 h20 SY Qw;go_enter Tryz.func74,Tryz.ntmps74
 go_upto_region 3 with(fail)
 have hW:=La.o;rw [hW];clear hW hm0 hm1 g4 g5
 go_cut [5]from 10 (fun v5 wc=>∃b5,v5=pP b5 0∧W.heap.size<=b5∧wc.heap[b5]? =some (.cells #[.bool (fH k).name,I ((fH k).low:Int),I ((fH k).types:Int),I (fH k).kids,I (fH k).most] 187 (0,0))∧Below W.heap.size W wc)
 case first=>
  obtain⟨g0,_⟩:=mU Gb.o;have G0:=aO g0;clear g0;have HB0:bq (Below W.heap.size W W.drew):=aO (aP W 1);refine wp_region_held_drew (S:=fun w'=>Below W.heap.size W w') (by kernel_rfl) HB0.o (fun _=>?_)
  try simp only [sp,sq]
  refine tk 1 (pP w.heap.size 0) HB0.o ?_;refine jE 2 (I k) (JG G0.o) HB0.o ?_;refine wpAnyH_ready (rs:=[0,4]) (by kernel_rfl) (by simp) ?_;refine AllReadyH.cons rfl (fun K hK=>?_) (AllReadyH.cons rfl (fun K hK=>?_) AllReadyH.nil)
  ·go_simp;refine(HKI.o _).mono ?_;rintro e w2 ⟨⟨v,rfl,hix⟩,hb⟩;have HB2:=aO (HB0.o.trans (hb.mono HB0.o.size));have HIX:=aO hix;clear hb hix;refine hK.out _ _ HB2.o (fun _=>?_);clear hK K
   try simp only [sp,sq]
   refine wpAnyH_take (i:=3) (v:=(adI (fH k))) rfl (by kernel_rfl) (by kernel_rfl) (by kernel_rfl) (fun _ _ _ h=>h) (Or.inl ⟨by kernel_rfl,by intro w' hSw;have hix:=HIX.o;go_simp⟩) HB2.o ?_
   try simp only [sp,sq]
   refine dJ 4 fun K hK=>?_;go_simp;have HB3:=aO (HB2.o.alloc HB2.o.size (.cells #[.bool false,I 0,I 0,I 0,I 0] 187));have hzz:=heap_alloc_new w2 (.cells #[.bool false,I 0,I 0,I 0,I 0] 187);refine hK.out _ _ HB3.o (fun _=>?_);clear hK K
   try simp only [sp,sq]
   refine dJ 5 fun K hK=>?_;refine zh rfl _ _ _ rfl w2.heap.size #[.bool (fH k).name,I ((fH k).low:Int),I ((fH k).types:Int),I (fH k).kids,I (fH k).most] rfl rfl _ _ hzz (by kernel_rfl) rfl (by simp [Value.oneCell']) ?_;have adJ:=setRow_heap _ w2.heap.size _ #[.bool (fH k).name,I ((fH k).low:Int),I ((fH k).types:Int),I (fH k).kids,I (fH k).most] _ _ hzz;have HB9:=aO (below_setRow HB3.o HB2.o.size #[.bool (fH k).name,I ((fH k).low:Int),I ((fH k).types:Int),I (fH k).kids,I (fH k).most]);have HZ2:=aO adJ;clear hzz adJ;refine hK.out _ _ HB9.o (fun _=>?_);clear hK K
   try simp only [sp,sq]
   refine eT _ ?_;go_wp2_with fail
   go_meet
   case rel=>exact⟨_,rfl,HB2.o.size,HZ2.o,HB9.o⟩
  ·go_simp;have HB3:=aO (HB0.o.alloc HB0.o.size (.cells #[.bool false,I 0,I 0,I 0,I 0] 187));refine hK.out _ _ HB3.o (fun _=>?_);clear hK K
   try simp only [sp,sq]
   refine dJ 0 fun K hK=>?_;go_simp;refine(HKI.o _).mono ?_;rintro e w2 ⟨⟨v,rfl,hix⟩,hb⟩;have hzz:=(hb.block _ (block_lt (heap_alloc_new W.drew (.cells #[.bool false,I 0,I 0,I 0,I 0] 187)))).trans (heap_alloc_new W.drew (.cells #[.bool false,I 0,I 0,I 0,I 0] 187));have Bo:=aO (HB3.o.trans (hb.mono HB3.o.size));have HIX:=aO hix;clear hb hix;refine hK.out _ _ Bo.o (fun _=>?_);clear hK K
   try simp only [sp,sq]
   refine wpAnyH_take (i:=3) (v:=(adI (fH k))) rfl (by kernel_rfl) (by kernel_rfl) (by kernel_rfl) (fun _ _ _ h=>h) (Or.inl ⟨by kernel_rfl,by intro w' hSw;have hix:=HIX.o;go_simp⟩) Bo.o ?_
   try simp only [sp,sq]
   refine dJ 5 fun K hK=>?_;refine zh rfl _ _ _ rfl W.heap.size #[.bool (fH k).name,I ((fH k).low:Int),I ((fH k).types:Int),I (fH k).kids,I (fH k).most] rfl rfl _ _ hzz (by kernel_rfl) rfl (by simp [Value.oneCell']) ?_;have adJ:=setRow_heap _ W.heap.size _ #[.bool (fH k).name,I ((fH k).low:Int),I ((fH k).types:Int),I (fH k).kids,I (fH k).most] _ _ hzz;have HB9:=aO (below_setRow Bo.o (Nat.le_refl _) #[.bool (fH k).name,I ((fH k).low:Int),I ((fH k).types:Int),I (fH k).kids,I (fH k).most]);have HZ2:=aO adJ;clear hzz adJ;refine hK.out _ _ HB9.o (fun _=>?_);clear hK K
   try simp only [sp,sq]
   refine eT _ ?_;go_wp2_with fail
   go_meet
   case rel=>exact⟨_,rfl,(Nat.le_refl _),HZ2.o,HB9.o⟩
 case rest=>
  obtain⟨b5,rfl,hb5,hrow,hbw⟩:=hcut;generalize(fH k).name=hn at*
  generalize(fH k).low=lo at*
  generalize(fH k).types=hi at*
  generalize(fH k).kids=kd at*
  generalize(fH k).most=mo at*
  have fF:=aO hrow;have oQ:=aO hbw;clear HKI hrow hbw
  go_upto_block 0 with(fail)
  obtain⟨kv,hkv⟩:∃kv,zf kd b=kv:=⟨_,rfl⟩
  rw [hkv]at HRK;have HKV:=aO hkv;clear hkv
  go_cut [5]from 10 (fun v5 wc=>v5=pP b5 0∧(kd<0∨b=0)∧wc.heap[b5]? =some (.cells #[.bool hn,I lo,I hi,I kv,I mo] 187 (0,0))∧Below W.heap.size W wc)
  case first=>
   obtain⟨e0,e1,e2,e3,e4⟩:=MS fF.o;have f3:=bG fF.o 3;obtain⟨p0,p1,p2,p3,p4,p5,p6,p7⟩:=mU ((oQ.o.block _ (block_lt Gb.o)).trans Gb.o);clear e0 e1 e2 e4 p0 p1 p2 p3 p4 p5 p7;by_cases hk:kd<0
   ·have g1:decide (kd<0)=true:=by simpa using hk
    have HV:bq (kv=(b:Int)):=aO (by rw [<-HKV.o];unfold zf;rw [if_pos hk]);have Jy:=aO hk;clear hk;go_wp2_with fail
    go_meet
    case rel=>
     refine⟨rfl,.inl Jy.o,?_,oQ.o.trans ((ak wc b5 3 (I b)).below oQ.o.size (fun j hj e=>by omega))⟩;rw [HV.o];exact heap_setCell_same wc b5 3 _ _ _ fF.o
   ·have g1:decide (kd<0)=false:=by simpa using hk
    have HV:bq (kv=kd):=aO (by rw [<-HKV.o];unfold zf;rw [if_neg hk]);have Jy:=aO hk;clear hk;by_cases hb0:0<b
    ·have g2:decide ((0:Int)<(b:Int))=true:=by simp;omega
     have HF:bq (res=false):=aO (by rw [HRK.o,decide_eq_false (by have:=Jy.o;omega:¬(kd<0∨b=0))];simp);go_wp2_with fail;go_ret;refine⟨by rw [HF.o];rfl,HB1.o.trans (oQ.o.mono HB1.o.size)⟩
    ·have g2:decide ((0:Int)<(b:Int))=false:=by simp;omega
     have axD:bq (b=0):=aO (by omega);go_wp2_with fail
     go_meet
     case rel=>
      refine⟨rfl,.inr axD.o,?_,oQ.o⟩;rw [HV.o];exact fF.o
  case rest=>
   rename_i wc0
   clear fF oQ HKV;obtain⟨rfl,hkb,hrow,hbw⟩:=hcut;have HRR:bq (res=(decide (0<=n∧n<=mo) && vo k text hn && decide (lo<=a∧a<=hi) && decide ((d:Int)=kv) && q && ts.all (dx 16) && ks.all (ko m))):=aO (by rw [HRK.o,decide_eq_true hkb,Bool.true_and]);have Xm:=aO (HTX.o wc hbw hn lo hi kv mo);have fF:=aO hrow;have oQ:=aO hbw;obtain⟨e0,e1,e2,e3,e4⟩:=MS hrow;obtain⟨p0,p1,p2,p3,p4,p5,p6,p7⟩:=mU ((hbw.block _ (block_lt Gb.o)).trans Gb.o);clear HTX HRK hkb hrow hbw;generalize vo k text hn=tb at*
   by_cases n0:n<0
   ·have g1:decide (n<0)=true:=by simpa using n0
    have HF:bq (res=false):=aO (by rw [HRR.o,decide_eq_false (by omega:¬(0<=n∧n<=mo))];simp);clear n0;go_wp2_with fail;go_ret;refine⟨by rw [HF.o];rfl,HB1.o.trans (oQ.o.mono HB1.o.size)⟩
   have g1:decide (n<0)=false:=by simpa using n0
   by_cases n1:mo<n
   ·have g2:decide (mo<n)=true:=by simpa using n1
    have HF:bq (res=false):=aO (by rw [HRR.o,decide_eq_false (by omega:¬(0<=n∧n<=mo))];simp);clear n0 n1;go_wp2_with fail;go_ret;refine⟨by rw [HF.o];rfl,HB1.o.trans (oQ.o.mono HB1.o.size)⟩
   have g2:decide (mo<n)=false:=by simpa using n1
   have QI:bq (res=(tb && decide (lo<=a∧a<=hi) && decide ((d:Int)=kv) && q && ts.all (dx 16) && ks.all (ko m))):=aO (by rw [HRR.o,decide_eq_true (by omega:0<=n∧n<=mo),Bool.true_and]);clear HRR n0 n1;go_wp2_with fail;refine Xm.o.mono ?_;rintro e w3 ⟨rfl,hb3⟩;have wD:=oQ.o.trans (hb3.mono oQ.o.size);have hrow3:=(hb3.block _ (block_lt fF.o)).trans fF.o;have HB3:=aO wD;have vM:=aO hrow3;have HNW:=aO (HNM.o w3 wD);clear e0 e1 e2 e3 e4 p0 p1 p2 p3 p4 p5 p6 p7 hb3;obtain⟨e0,e1,e2,e3,e4⟩:=MS hrow3;obtain⟨p0,p1,p2,p3,p4,p5,p6,p7⟩:=mU ((wD.block _ (block_lt Gb.o)).trans Gb.o);clear wD hrow3 HNM Xm oQ fF;cases tb with
   |false=>
    have HF:bq (res=false):=aO (by rw [QI.o];simp);go_wp2_with fail;go_ret;refine⟨by rw [HF.o];rfl,HB1.o.trans (HB3.o.mono HB1.o.size)⟩
   |true=>
    go_wp2_with fail;refine HNW.o.mono ?_;rintro e w4 ⟨rfl,hb4⟩;have XT:=HB3.o.trans (hb4.mono HB3.o.size);have hrow4:=(hb4.block _ (block_lt vM.o)).trans vM.o;have Bo:=aO XT;clear e0 e1 e2 e3 e4 p0 p1 p2 p3 p4 p5 p6 p7 hb4;obtain⟨e0,e1,e2,e3,e4⟩:=MS hrow4;obtain⟨p0,p1,p2,p3,p4,p5,p6,p7⟩:=mU ((XT.block _ (block_lt Gb.o)).trans Gb.o);clear XT hrow4 HNW HB3 vM;cases q with
    |false=>
     have HF:bq (res=false):=aO (by rw [QI.o];simp);go_wp2_with fail;go_ret;refine⟨by rw [HF.o];rfl,HB1.o.trans (Bo.o.mono HB1.o.size)⟩
    |true=>
     by_cases h1:a<lo
     ·have g3:decide ((a:Int)<(lo:Int))=true:=by simp;omega
      have HF:bq (res=false):=aO (by rw [QI.o,decide_eq_false (by omega:¬(lo<=a∧a<=hi))];simp);go_wp2_with fail;go_ret;refine⟨by rw [HF.o];rfl,HB1.o.trans (Bo.o.mono HB1.o.size)⟩
     have g3:decide ((a:Int)<(lo:Int))=false:=by simp;omega
     by_cases h2:hi<a
     ·have g4:decide ((hi:Int)<(a:Int))=true:=by simp;omega
      have HF:bq (res=false):=aO (by rw [QI.o,decide_eq_false (by omega:¬(lo<=a∧a<=hi))];simp);go_wp2_with fail;go_ret;refine⟨by rw [HF.o];rfl,HB1.o.trans (Bo.o.mono HB1.o.size)⟩
     have g4:decide ((hi:Int)<(a:Int))=false:=by simp;omega
     by_cases h3:(d:Int)=kv
     ·have HRT:bq (res=(ts.all (dx 16) && ks.all (ko m))):=aO (by rw [QI.o,decide_eq_true (by omega:lo<=a∧a<=hi),decide_eq_true h3];simp);have g5:((d:Int) != kv)=false:=by rw [bne_eq_false_iff_eq];exact h3
      clear h3 QI;go_wp2_with fail;clear e0 e1 e2 e3 e4 p0 p1 p2 p3 p4 p5 p6 p7 g1 g2 g3 g4 g5 h1 h2;go_loopw [88] (fun v88 wr=>∃i:Nat,v88=I i∧i<=a∧(ts.take i).all (dx 16)=true∧Below W.heap.size W wr) (fun v88 _=>a - (intOf v88).toNat)
      case atStart=>exact⟨0,rfl,by omega,rfl,Bo.o⟩
      case round=>
       obtain⟨i,rfl,hi_,hinv,hbr⟩:=hrel;have HI:=aO hinv;have HB:=aO hbr;clear hinv;by_cases hlt:i<a
       ·have hil:i<ts.length:=by rw [HA.o];exact hlt
        obtain⟨b2,o2,kk,ss,A5,n5,c5,A6,n6,c6,rfl,hr1,e0,e1,e2,e3⟩:=MR (Sl.more (Sl.below Tv.o.1 hbr) hbr.size) ((Tv.o.2.keep hbr).more hbr.size) hil HA.o.symm;obtain⟨wA,Qx⟩:∃wA,wr.alloc (.cells #[.int .i64 kk,.string ss,.slice A5 n5 c5,.slice A6 n6 c6] 80)=wA:=⟨_,rfl⟩
        have Qy:Below wr.heap.size wr wA:=by rw [<-Qx];exact o9 _ _
        have HC:=aO (EO.o wA _ ts[i] (hr1.far (Nat.le_refl _) Qy) (HOT.o _ (List.getElem_mem hil)) ((HX.o.below hbr).below Qy));have Ea:=aO Qy;have HWA:=aO Qx;have hst:=Jg hil;rw [<-Qx]at HC;clear hbr hr1 Qy Qx;cases hq:dx 16 ts[i]with
        |false=>
         have hall:ts.all (dx 16)=false:=by
          cases h:ts.all (dx 16)with
          |false=>rfl
          |true=>rw [List.all_eq_true]at h;rw [h _ (List.getElem_mem hil)]at hq;cases hq
         have HF:bq (res=false):=aO (by rw [HRT.o,hall];simp);rw [hq]at HC;clear hq hst hall;generalize ts[i]=X at*
         go_wp2_with fail;refine HC.o.mono ?_;rintro e w5 ⟨rfl,hb⟩;rw [HWA.o]at hb;have xq:=aO (HB.o.trans ((Ea.o.trans (hb.mono Ea.o.size)).mono HB.o.size));clear hb e0 e1 e2 e3;go_wp2_with fail;go_ret;refine⟨by rw [HF.o];rfl,HB1.o.trans (xq.o.mono HB1.o.size)⟩
        |true=>
         have HST:bq ((ts.take (i+1)).all (dx 16)=true):=aO (by rw [hst,List.all_append,HI.o];simp [hq]);rw [hq]at HC;clear hq hst;generalize ts[i]=X at*
         go_wp2_with fail;refine HC.o.mono ?_;rintro e w5 ⟨rfl,hb⟩;rw [HWA.o]at hb;have xq:=aO (HB.o.trans ((Ea.o.trans (hb.mono Ea.o.size)).mono HB.o.size));clear hb e0 e1 e2 e3;go_wp2_with fail
         go_roundw
         case rel=>exact⟨i+1,rfl,by omega,HST.o,xq.o⟩
         case measure=>simp [intOf];omega
       ·obtain rfl:i=a:=by omega
        have HRU:bq (res=ks.all (ko m)):=aO (by
         have h:=HI.o;rw [List.take_of_length_le (by rw [HA.o];omega)]at h;rw [HRT.o,h,Bool.true_and])
        obtain⟨p0,p1,p2,p3,p4,p5,p6,p7⟩:=mU ((hbr.block _ (block_lt Gb.o)).trans Gb.o);clear hlt hbr HI HRT;go_wp2_with fail;clear p0 p1 p2 p3 p4 p5 p6 p7;go_loopw [99] (fun v99 wr=>∃i:Nat,v99=I i∧i<=d∧(ks.take i).all (ko m)=true∧Below W.heap.size W wr) (fun v99 _=>d - (intOf v99).toNat)
        case atStart=>exact⟨0,rfl,by omega,rfl,HB.o⟩
        case round=>
         obtain⟨j,rfl,hj_,ajX,wC⟩:=hrel;have HI2:=aO ajX;have HB2:=aO wC;clear ajX;by_cases hlt:j<d
         ·have hil:j<ks.length:=by rw [HD.o];exact hlt
          obtain⟨b2,o2,kk,ss,y2,y3,y4,A5,n5,c5,A6,n6,c6,A7,n7,c7,rfl,hr1,e0,e1,e2,e3,e4,e5,e6,e7⟩:=Gi (Sl.more (Sl.below HKK.o.1 wC) wC.size) ((HKK.o.2.keep wC).more wC.size) hil HD.o.symm;obtain⟨wA,Qx⟩:∃wA,wr.alloc (.cells #[.int .i64 kk,.string ss,.int .i64 y2,.int .i64 y3,.int .i64 y4,.slice A5 n5 c5,.slice A6 n6 c6,.slice A7 n7 c7] 70)=wA:=⟨_,rfl⟩
          have Qy:Below wr.heap.size wr wA:=by rw [<-Qx];exact o9 _ _
          have HC:=aO (HIH.o wA _ ks[j] (hr1.far (Nat.le_refl _) Qy) (Tq.o _ (List.getElem_mem hil)) ((HX.o.below wC).below Qy));have Ea:=aO Qy;have HWA:=aO Qx;have hst:=Jg hil;rw [<-Qx]at HC;clear wC hr1 Qy Qx;cases hq:ko m ks[j]with
          |false=>
           have hall:ks.all (ko m)=false:=by
            cases h:ks.all (ko m)with
            |false=>rfl
            |true=>rw [List.all_eq_true]at h;rw [h _ (List.getElem_mem hil)]at hq;cases hq
           have HF:bq (res=false):=aO (by rw [HRU.o,hall]);rw [hq]at HC;clear hq hst hall;generalize ks[j]=X at*
           go_wp2_with fail;refine HC.o.mono ?_;rintro e w5 ⟨rfl,hb⟩;rw [HWA.o]at hb;have xq:=aO (HB2.o.trans ((Ea.o.trans (hb.mono Ea.o.size)).mono HB2.o.size));clear hb e0 e1 e2 e3 e4 e5 e6 e7;go_wp2_with fail;go_ret;refine⟨by rw [HF.o];rfl,HB1.o.trans (xq.o.mono HB1.o.size)⟩
          |true=>
           have HST:bq ((ks.take (j+1)).all (ko m)=true):=aO (by rw [hst,List.all_append,HI2.o];simp [hq]);rw [hq]at HC;clear hq hst;generalize ks[j]=X at*
           go_wp2_with fail;refine HC.o.mono ?_;rintro e w5 ⟨rfl,hb⟩;rw [HWA.o]at hb;have xq:=aO (HB2.o.trans ((Ea.o.trans (hb.mono Ea.o.size)).mono HB2.o.size));clear hb e0 e1 e2 e3 e4 e5 e6 e7;go_wp2_with fail
           go_roundw
           case rel=>exact⟨j+1,rfl,by omega,HST.o,xq.o⟩
           case measure=>simp [intOf];omega
         ·obtain rfl:j=d:=by omega
          have HF:bq (res=true):=aO (by
           have h:=HI2.o;rw [List.take_of_length_le (by rw [HD.o];omega)]at h;rw [HRU.o,h])
          clear wC hlt;go_wp2_with fail;go_ret;refine⟨by rw [HF.o];rfl,HB1.o.trans (HB2.o.mono HB1.o.size)⟩
     ·have HF:bq (res=false):=aO (by rw [QI.o,decide_eq_false h3];simp);have g5:((d:Int) != kv)=true:=by rw [bne_iff_ne];exact h3
      clear h3;go_wp2_with fail;go_ret;refine⟨by rw [HF.o];rfl,HB1.o.trans (Bo.o.mono HB1.o.size)⟩
theorem Qz:∀m:Nat,m<=41->NdC m
 |0,_=>XQ
 |m+1,h=>XR m (by omega) (Qz m (by omega))
def ExC (x:bW):Prop:=∀(w:World) (z:List Value) (m:Nat),Bv w w.heap.size z x->okN x->ko m x=true->Jj x<=300000->mW w->
 Calls Tryz.prog 52 #[.agg z.toArray] w fun e w'=>e=.returned (sv (vw x))∧Below w.heap.size w w'
theorem adK (text:Bt)(n li co:Int)(ts:List bZ)(ns:List Bt)(ks:List bW)(ih:∀y∈ks,ExC y):ExC (.mk 14 text n li co ts ns ks):=by
 intro w z m hr hok hnd hc hX;have hlen:=Jl _ m hnd;obtain⟨q,rfl,afm,hown,hns,hts,hkk⟩:=Lh hnd;rw [Jp,Bool.and_eq_true,Bool.and_eq_true,Bool.and_eq_true,Bool.and_eq_true,decide_eq_true_eq,decide_eq_true_eq,decide_eq_true_eq,decide_eq_true_eq]at hown;obtain⟨⟨⟨⟨hn0,hn1⟩,htx⟩,hlo,hhi⟩,hkn,hkd⟩:=hown;have htl:=Jk htx;rw [okN]at hok;obtain⟨ok1,ok2,ok3,ok4,ok5,ok6,ok7,ok8⟩:=hok;obtain⟨A1,c1,A2,c2,A3,c3,xt,xk,rfl,s1,r1,s2,s3,r3⟩:=hr.parts;have l1:=(dU s1).2;have l2:=(dU s2).2;have l3:=(dU s3).2;rw [vw]at hlen ⊢;rw [Jj]at hc hlen;have hcT:ze ts<=300000:=by omega
 have hcK:Ar ks<=300000:=by omega
 have hdc:ks.length<=300000:=Nat.le_trans (Ew ks) hcK;obtain⟨S,hS⟩:∃S,qF ks=S:=⟨_,rfl⟩
 have adL:S.length=ks.length:=by rw [<-hS,uW]
 have HSG:bq (∀(i:Nat) (h:i<ks.length) (h2:i<S.length),S[i]=vw ks[i]):=aO (by
  intro i h h2;subst hS;simp [wL])
 rw [hS]at hlen ⊢;have HKK:=aO (And.intro s3 r3);have Tv:=aO (And.intro s1 r1);have FH:=aO s2;have HIH:=aO ih;have Tq:=aO (BP.1 ok8);have HNK:=aO hkk;have HCK:=aO hcK;have HCT:=aO hcT;have HTS:=aO hts;have Ld:=aO hns;have HX:=aO hX;have Qw:=ok3;clear hr s1 r1 s2 s3 r3 ih ok1 ok2 ok3 ok4 ok5 ok6 ok7 ok8 hkk hts hns hX hS hnd afm;obtain⟨a,hA⟩:∃a,ts.length=a:=⟨_,rfl⟩
 obtain⟨b,hB⟩:∃b,ns.length=b:=⟨_,rfl⟩
 obtain⟨d,hD⟩:∃d,ks.length=d:=⟨_,rfl⟩
 rw [hA]at l1 Tv hlo hhi;rw [hB]at l2 FH hkn hkd;rw [hD]at l3 HKK hkd hdc adL;rw [hA,hB,hD];have HA:=aO hA;have uZ:=aO hB;have HD:=aO hD;have HSL:=aO adL;clear hA hB hD;have hd0:d=2:=by
  have h:(fH 14).kids=2:=rfl;rw [h]at hkd;unfold zf at hkd;rw [if_neg (by decide)]at hkd;omega
 have HD0:=aO hd0;clear hd0 hkd hkn;obtain⟨OB,hOB⟩:∃OB,Obj.cells #[I 14,sv text,I n,I li,I co,.slice A1 a c1,.slice A2 b c2,.slice A3 d c3] 70 (0,0)=OB:=⟨_,rfl⟩
 obtain⟨W,hW⟩:∃W,(w.alloc (.cells #[.int .i64 14,sv text,.int .i64 n,.int .i64 li,.int .i64 co,.slice A1 a c1,.slice A2 b c2,.slice A3 d c3] 70)).alloc (.cells #[.slice none 0 0] 25)=W:=⟨_,rfl⟩
 have amL:bq (Jm w W OB Z (S.take 0)):=aO (by
  rw [<-hW,<-hOB];exact⟨(rJ w _ _).2,iq.nil _ _ _,(rJ w _ _).1,(o9 _ _).alloc (by simp) _⟩)
 have vL:=aO hOB;have La:=aO hW;clear hW hOB;go_enter Tryz.func52,Tryz.ntmps52;go_wp2_with fail;have hW:=La.o;rw [hW];clear hW;go_loopw [10] (fun v10 wr=>∃(i:Nat) (v:Value),v10=I i∧i<=d∧Jm w wr OB v (S.take i)) (fun v10 _=>d - (intOf v10).toNat)
 case atStart=>exact⟨0,_,rfl,by omega,amL.o⟩
 case round=>
  obtain⟨i,v,rfl,hi_,hat⟩:=hrel;have Jq:=aO hat;clear hat;by_cases hlt:i<d
  ·have hil:i<ks.length:=by rw [HD.o];exact hlt
   have hiS:i<S.length:=by rw [HSL.o];exact hlt
   have hbr:=Jq.o.below;obtain⟨b2,o2,kk,ss,y2,y3,y4,A5,n5,c5,A6,n6,c6,A7,n7,c7,hA3,hr1,e0,e1,e2,e3,e4,e5,e6,e7⟩:=Gi (Sl.more (Sl.below HKK.o.1 hbr) hbr.size) ((HKK.o.2.keep hbr).more hbr.size) hil HD.o.symm;obtain⟨wA,Qx⟩:∃wA,wr.alloc (.cells #[.int .i64 kk,.string ss,.int .i64 y2,.int .i64 y3,.int .i64 y4,.slice A5 n5 c5,.slice A6 n6 c6,.slice A7 n7 c7] 70)=wA:=⟨_,rfl⟩
   have Qy:Below wr.heap.size wr wA:=by rw [<-Qx];exact o9 _ _
   have hsA:wA.heap[wr.heap.size]? =some (.cells #[I kk,.string ss,I y2,I y3,I y4,.slice A5 n5 c5,.slice A6 n6 c6,.slice A7 n7 c7] 70 (0,0)):=by rw [<-Qx];exact heap_alloc_new wr _
   have HE:=aO (fun w1 (h:Below wA.heap.size wA w1)=>HIH.o ks[i] (List.getElem_mem hil) w1 _ q (hr1.far (Nat.le_refl _) (Qy.trans (h.mono Qy.size))) (Tq.o _ (List.getElem_mem hil)) (HNK.o _ (List.getElem_mem hil)) (Nat.le_trans (Qq (List.getElem_mem hil)) HCK.o) ((HX.o.below hbr).below (Qy.trans (h.mono Qy.size))));rw [<-HSG.o i hil hiS]at HE;have HST:=aO (Jg hiS);have HLT:bq (∀g,v.ownBlock=some g->g<wr.heap.size):=aO (fun g hg=>(Jq.o.own.lt g hg).2);have HBD:bq (Below wA.heap.size wA wA.drew):=aO (aP wA 1);have oQ:bq (Below wr.heap.size wr wA.drew):=aO (Qy.trans (HBD.o.mono Qy.size));have NJ:bq (wA.drew.heap[wr.heap.size]? =some (.cells #[I kk,.string ss,I y2,I y3,I y4,.slice A5 n5 c5,.slice A6 n6 c6,.slice A7 n7 c7] 70 (0,0))):=aO hsA;have gk:=(Jq.o.far oQ.o).cell;have hA:=aO Qx;obtain⟨Av,nv,cv,rfl⟩:=jy Jq.o.own.ss;generalize S[i]=X at*
   generalize ks[i]=kx at*
   clear hbr hr1 Qy hsA hil Qx;subst hA3;go_wp2_with fail;have Qx:=hA.o;rw [Qx];clear Qx e0 e1 e2 e3 e4 e5 e6 e7;refine wp_region_held_drew (S:=fun w'=>w'.heap[wr.heap.size]? =some (.cells #[I kk,.string ss,I y2,I y3,I y4,.slice A5 n5 c5,.slice A6 n6 c6,.slice A7 n7 c7] 70 (0,0))) (by kernel_rfl) NJ.o (fun _=>?_)
   try simp only [sp,sq]
   refine wpAnyH_take (i:=1) (v:=(.agg #[I kk,.string ss,I y2,I y3,I y4,.slice A5 n5 c5,.slice A6 n6 c6,.slice A7 n7 c7])) rfl (by kernel_rfl) (by kernel_rfl) (by kernel_rfl) (fun _ _ _ h=>h) (Or.inl ⟨by kernel_rfl,by intro w' hSw;obtain⟨u0,u1,u2,u3,u4,u5,u6,u7⟩:=mU hSw;go_simp⟩) NJ.o ?_
   try simp only [sp,sq]
   refine wpAnyH_ready (rs:=[0,2]) (by kernel_rfl) (by simp) ?_;refine AllReadyH.cons rfl (fun K hK=>?_) (AllReadyH.cons rfl (fun K hK=>?_) AllReadyH.nil)
   ·go_simp;refine hK.out _ _ NJ.o (fun _=>?_);clear hK K
    try simp only [sp,sq]
    refine dJ 2 fun K hK=>?_;go_simp;refine(HE.o _ HBD.o).mono ?_;rintro e w2 ⟨rfl,hb⟩;have wC:=oQ.o.trans (hb.mono oQ.o.size);have FW:=aO (Jq.o.far wC);have HS2:=aO ((hb.block _ (block_lt NJ.o)).trans NJ.o);clear hb wC;refine hK.out _ _ HS2.o (fun _=>?_);clear hK K
    try simp only [sp,sq]
    refine dJ 3 fun K hK=>?_;go_simp;have Fg:=aO ((((Below.refl w2.heap.size w2).alloc (Nat.le_refl _) (.cells #[sv X] 9)).block _ (block_lt HS2.o)).trans HS2.o);refine hK.out _ _ Fg.o (fun _=>?_);clear hK K
    try simp only [sp,sq]
    refine dJ 4 fun K hK=>?_;refine Ey rfl (.tmp 14) (.tmp 17) _ rfl (w.heap.size+2) wM _ _ rfl rfl (FW.o.own.alloc _) (AA w2 X _) (by simp;omega) (by have:=block_lt FW.o.box;rw [World.size_alloc];omega) (fun v4 w4 uN hg4 adM=>?_);obtain⟨g4,c4,n4,rfl⟩:=Eu uN (by simp);rw [<-HST.o]at uN;obtain⟨x1,x2,x3⟩:=(FW.o.far (o9 _ _)).grown uN hg4;have zG:=aO ((hg4.block _ (block_lt Fg.o) (by intro e;have:=HLT.o _ e.symm;omega)).trans Fg.o);have X3:=aO x3;have M0:=aO (ah zG.o (ak w4 (w.heap.size+1) 0 (.slice (some ⟨g4,0,none⟩) n4 c4)) (by have:=block_lt Jq.o.box;omega));clear x3 uN hg4 adM;refine hK.out _ _ zG.o (fun _=>?_);clear hK K
    try simp only [sp,sq]
    refine dJ 5 fun K hK=>?_;go_simp;refine hK.out _ _ M0.o (fun _=>?_);clear hK K
    try simp only [sp,sq]
    refine eT _ ?_;go_wp2_with fail
    go_roundw
    case rel=>exact⟨i+1,_,rfl,by omega,X3.o⟩
    case measure=>simp [intOf];omega
   ·go_simp;refine(HE.o _ HBD.o).mono ?_;rintro e w2 ⟨rfl,hb⟩;have wC:=oQ.o.trans (hb.mono oQ.o.size);have FW:=aO (Jq.o.far wC);have HS2:=aO ((hb.block _ (block_lt NJ.o)).trans NJ.o);clear hb wC;have gk2:=FW.o.cell;refine hK.out _ _ HS2.o (fun _=>?_);clear hK K
    try simp only [sp,sq]
    refine wpAnyH_ready (rs:=[0,3]) (by kernel_rfl) (by simp) ?_;refine AllReadyH.cons rfl (fun K hK=>?_) (AllReadyH.cons rfl (fun K hK=>?_) AllReadyH.nil)
    ·go_simp;refine hK.out _ _ HS2.o (fun _=>?_);clear hK K
     try simp only [sp,sq]
     refine dJ 3 fun K hK=>?_;go_simp;have Fg:=aO ((((Below.refl w2.heap.size w2).alloc (Nat.le_refl _) (.cells #[sv X] 9)).block _ (block_lt HS2.o)).trans HS2.o);refine hK.out _ _ Fg.o (fun _=>?_);clear hK K
     try simp only [sp,sq]
     refine dJ 4 fun K hK=>?_;refine Ey rfl (.tmp 14) (.tmp 17) _ rfl (w.heap.size+2) wM _ _ rfl rfl (FW.o.own.alloc _) (AA w2 X _) (by simp;omega) (by have:=block_lt FW.o.box;rw [World.size_alloc];omega) (fun v4 w4 uN hg4 adM=>?_);obtain⟨g4,c4,n4,rfl⟩:=Eu uN (by simp);rw [<-HST.o]at uN;obtain⟨x1,x2,x3⟩:=(FW.o.far (o9 _ _)).grown uN hg4;have zG:=aO ((hg4.block _ (block_lt Fg.o) (by intro e;have:=HLT.o _ e.symm;omega)).trans Fg.o);have X3:=aO x3;have M0:=aO (ah zG.o (ak w4 (w.heap.size+1) 0 (.slice (some ⟨g4,0,none⟩) n4 c4)) (by have:=block_lt Jq.o.box;omega));clear x3 uN hg4 adM;refine hK.out _ _ zG.o (fun _=>?_);clear hK K
     try simp only [sp,sq]
     refine dJ 5 fun K hK=>?_;go_simp;refine hK.out _ _ M0.o (fun _=>?_);clear hK K
     try simp only [sp,sq]
     refine eT _ ?_;go_wp2_with fail
     go_roundw
     case rel=>exact⟨i+1,_,rfl,by omega,X3.o⟩
     case measure=>simp [intOf];omega
    ·go_simp;have Fg:=aO ((((Below.refl w2.heap.size w2).alloc (Nat.le_refl _) (.cells #[sv X] 9)).block _ (block_lt HS2.o)).trans HS2.o);have gk3:=(FW.o.far ((Below.refl w2.heap.size w2).alloc (Nat.le_refl _) (.cells #[sv X] 9))).cell;refine hK.out _ _ Fg.o (fun _=>?_);clear hK K
     try simp only [sp,sq]
     refine dJ 0 fun K hK=>?_;go_simp;refine hK.out _ _ Fg.o (fun _=>?_);clear hK K
     try simp only [sp,sq]
     refine dJ 4 fun K hK=>?_;refine Ey rfl (.tmp 14) (.tmp 17) _ rfl (w.heap.size+2) wM _ _ rfl rfl (FW.o.own.alloc _) (AA w2 X _) (by simp;omega) (by have:=block_lt FW.o.box;rw [World.size_alloc];omega) (fun v4 w4 uN hg4 adM=>?_);obtain⟨g4,c4,n4,rfl⟩:=Eu uN (by simp);rw [<-HST.o]at uN;obtain⟨x1,x2,x3⟩:=(FW.o.far (o9 _ _)).grown uN hg4;have zG:=aO ((hg4.block _ (block_lt Fg.o) (by intro e;have:=HLT.o _ e.symm;omega)).trans Fg.o);have X3:=aO x3;have M0:=aO (ah zG.o (ak w4 (w.heap.size+1) 0 (.slice (some ⟨g4,0,none⟩) n4 c4)) (by have:=block_lt Jq.o.box;omega));clear x3 uN hg4 adM;refine hK.out _ _ zG.o (fun _=>?_);clear hK K
     try simp only [sp,sq]
     refine dJ 5 fun K hK=>?_;go_simp;refine hK.out _ _ M0.o (fun _=>?_);clear hK K
     try simp only [sp,sq]
     refine eT _ ?_;go_wp2_with fail
     go_roundw
     case rel=>exact⟨i+1,_,rfl,by omega,X3.o⟩
     case measure=>simp [intOf];omega
  ·obtain rfl:i=d:=by omega
   have hex:=Jq.o;rw [List.take_of_length_le (by rw [HSL.o];omega)]at hex;have hbr:=hex.below;obtain⟨g0,g1,g2,g3,g4,g5,g6,g7⟩:=mU (hex.node.trans (congrArg some vL.o.symm));have gb:=hex.cell;have hown:=hex.own;have Au:=aO hbr;clear hlt Jq hex;have hd0:=HD0.o;have hsl:=HSL.o;subst hd0;obtain⟨s0,s1,rfl⟩:=afM hsl;obtain⟨g,c,rfl,hgb,hgl,hgc,hgm⟩:=jo hown.row (by simp);simp only [List.length_cons,List.length_nil,Nat.zero_add]at gb hown hgc;have d0:=hown.cell 0 (by simp);have d1:=hown.cell 1 (by simp);simp only [List.getElem_cons_zero,List.getElem_cons_succ]at d0 d1;have HT:bq (Ko 14 text n ts ns [s0,s1]=([40]:Bt)++(s0++([32]:Bt)++text++([32]:Bt)++s1)++([41]:Bt)):=aO (by simp [Ko,cat]);rw [HT.o]at hlen;simp only [List.length_append,List.length_cons,List.length_nil]at hlen;have hz0:=cO s0;have hz1:=cO text;have hz2:=cO s1;have q0:¬(9223372036854775807<s0.length+1):=by omega
   have q1:¬(9223372036854775807<s0.length+1+text.length):=by omega
   have q2:¬(9223372036854775807<s0.length+1+text.length+1):=by omega
   have q3:¬(9223372036854775807<s0.length+1+text.length+1+s1.length):=by omega
   have q4:¬(9223372036854775807<1+(s0.length+1+text.length+1+s1.length)):=by omega
   have q5:¬(9223372036854775807<1+(s0.length+1+text.length+1+s1.length)+1):=by omega
   have G1:=aO g1;have G2:=aO g2;have G5:=aO g5;have GB:=aO gb;have D0:=aO d0;have D1:=aO d1;have HB0:bq (Below wr.heap.size wr wr.drew):=aO (aP wr 1);clear g1 g2 g3 g4 g5 g6 g7 gb hown hbr hlen d0 d1;go_wp2_with fail;refine wp_region_held_drew (S:=fun w'=>Below wr.heap.size wr w') (by kernel_rfl) HB0.o (fun _=>?_)
   try simp only [sp,sq]
   refine jE 0 (.slice (some ⟨g,0,none⟩) 2 c) (JG GB.o) HB0.o ?_;refine tk 1 (pP g 0) HB0.o ?_;refine jE 2 (sv s0) (JG D0.o) HB0.o ?_;refine tk 3 (.string ((⟨s0.toArray⟩:ByteArray)++⟨#[32]⟩)) HB0.o ?_;refine tk 4 (pP w.heap.size 1) HB0.o ?_;refine jE 5 (sv text) (JG G1.o) HB0.o ?_;refine tk 6 (.string ((⟨s0.toArray⟩:ByteArray)++⟨#[32]⟩++⟨text.toArray⟩)) HB0.o ?_;refine tk 7 (.string ((⟨s0.toArray⟩:ByteArray)++⟨#[32]⟩++⟨text.toArray⟩++⟨#[32]⟩)) HB0.o ?_;refine jE 8 (.slice (some ⟨g,0,none⟩) 2 c) (JG GB.o) HB0.o ?_;refine tk 9 (pP g 1) HB0.o ?_;refine jE 10 (sv s1) (JG D1.o) HB0.o ?_;refine tk 11 (.string ((⟨s0.toArray⟩:ByteArray)++⟨#[32]⟩++⟨text.toArray⟩++⟨#[32]⟩++⟨s1.toArray⟩)) HB0.o ?_;refine tk 12 (.string ((⟨s0.toArray⟩:ByteArray)++⟨#[32]⟩++⟨text.toArray⟩++⟨#[32]⟩++⟨s1.toArray⟩)) HB0.o ?_;refine eT _ ?_;go_wp2_with fail;go_ret;refine⟨?_,Au.o.trans (HB0.o.mono Au.o.size)⟩;rw [HT.o];have e:(⟨([40]:Bt).toArray⟩:ByteArray)++((⟨s0.toArray⟩:ByteArray)++⟨([32]:Bt).toArray⟩++⟨text.toArray⟩++⟨([32]:Bt).toArray⟩++⟨s1.toArray⟩)++⟨([41]:Bt).toArray⟩=⟨(([40]:Bt)++(s0++([32]:Bt)++text++([32]:Bt)++s1)++([41]:Bt)).toArray⟩:=by
    rw [mM,mM,mM,mM,mM,mM]
   exact congrArg (fun b=>Ending.returned (Value.string b)) e
theorem QA (w:World)(z:List Value)(k:Int)(text:Bt)(n li co:Int)(ts:List bZ)(ns:List Bt)(ks:List bW)(hr:Bv w w.heap.size z (.mk k text n li co ts ns ks))(hk:k=4):
  Calls Tryz.prog 106 #[.agg z.toArray] w fun e w'=>e=.returned (sv (BM k text n ts))∧Below w.heap.size w w':=by
 subst hk;obtain⟨A1,c1,A2,c2,A3,c3,xt,xk,rfl,s1,r1,s2,s3,r3⟩:=hr.parts;clear hr s1 r1 s2 s3 r3;rw [show BM 4 text n ts=text from rfl];go_enter Tryz.func106,Tryz.ntmps106;go_wp2_with fail;go_ret;exact⟨rfl,o9 _ _⟩
theorem XU (k:Int)(hk:k=4)(text:Bt)(n li co:Int)(ts:List bZ)(ns:List Bt)(ks:List bW)(ih:∀y∈ks,ExC y):ExC (.mk k text n li co ts ns ks):=by
 intro w z m hr hok hnd hc hX;have hlen:=Jl _ m hnd;obtain⟨q,rfl,afm,hown,hns,hts,hkk⟩:=Lh hnd;rw [Jp,Bool.and_eq_true,Bool.and_eq_true,Bool.and_eq_true,Bool.and_eq_true,decide_eq_true_eq,decide_eq_true_eq,decide_eq_true_eq,decide_eq_true_eq]at hown;obtain⟨⟨⟨⟨hn0,hn1⟩,htx⟩,hlo,hhi⟩,hkn,hkd⟩:=hown;have htl:=Jk htx;rw [okN]at hok;obtain⟨ok1,ok2,ok3,ok4,ok5,ok6,ok7,ok8⟩:=hok;obtain⟨A1,c1,A2,c2,A3,c3,xt,xk,rfl,s1,r1,s2,s3,r3⟩:=hr.parts;have l1:=(dU s1).2;have l2:=(dU s2).2;have l3:=(dU s3).2;rw [vw]at hlen ⊢;rw [Jj]at hc hlen;have hcT:ze ts<=300000:=by omega
 have hcK:Ar ks<=300000:=by omega
 have hdc:ks.length<=300000:=Nat.le_trans (Ew ks) hcK;obtain⟨S,hS⟩:∃S,qF ks=S:=⟨_,rfl⟩
 have adL:S.length=ks.length:=by rw [<-hS,uW]
 have HSG:bq (∀(i:Nat) (h:i<ks.length) (h2:i<S.length),S[i]=vw ks[i]):=aO (by
  intro i h h2;subst hS;simp [wL])
 rw [hS]at hlen ⊢;have HKK:=aO (And.intro s3 r3);have HR:=aO hr;have Tv:=aO (And.intro s1 r1);have FH:=aO s2;have HIH:=aO ih;have Tq:=aO (BP.1 ok8);have HNK:=aO hkk;have HCK:=aO hcK;have HCT:=aO hcT;have HTS:=aO hts;have Ld:=aO hns;have HX:=aO hX;have Qw:=ok3;clear hr s1 r1 s2 s3 r3 ih ok1 ok2 ok3 ok4 ok5 ok6 ok7 ok8 hkk hts hns hX hS hnd afm;obtain⟨a,hA⟩:∃a,ts.length=a:=⟨_,rfl⟩
 obtain⟨b,hB⟩:∃b,ns.length=b:=⟨_,rfl⟩
 obtain⟨d,hD⟩:∃d,ks.length=d:=⟨_,rfl⟩
 rw [hA]at l1 Tv hlo hhi;rw [hB]at l2 FH hkn hkd;rw [hD]at l3 HKK hkd hdc adL;rw [hA,hB,hD]at HR;rw [hA,hB,hD];have HA:=aO hA;have uZ:=aO hB;have HD:=aO hD;have HSL:=aO adL;clear hA hB hD;have hk0:(fH k).kids=0:=by subst hk;rfl
 have hd0:d=0:=by
  rw [hk0]at hkd;unfold zf at hkd;rw [if_neg (by decide)]at hkd;omega
 have HT:bq (Ko k text n ts ns S=BM k text n ts):=aO (by subst hk;rfl);have axM:=aO hk;have HTL:=aO htl;have axA:=aO Qw;have q7:(k==7)=false:=by rw [beq_eq_false_iff_ne];subst hk;decide
 have q9:(k==9)=false:=by rw [beq_eq_false_iff_ne];subst hk;decide
 have q10:(k==10)=false:=by rw [beq_eq_false_iff_ne];subst hk;decide
 have q8:(k==8)=false:=by rw [beq_eq_false_iff_ne];subst hk;decide
 have q17:(k==17)=false:=by rw [beq_eq_false_iff_ne];subst hk;decide
 have q5:(k==5)=false:=by rw [beq_eq_false_iff_ne];subst hk;decide
 have q6:(k==6)=false:=by rw [beq_eq_false_iff_ne];subst hk;decide
 have q11:(k==11)=false:=by rw [beq_eq_false_iff_ne];subst hk;decide
 have q12:(k==12)=false:=by rw [beq_eq_false_iff_ne];subst hk;decide
 have q13:(k==13)=false:=by rw [beq_eq_false_iff_ne];subst hk;decide
 have q14:(k==14)=false:=by rw [beq_eq_false_iff_ne];subst hk;decide
 have q15:(k==15)=false:=by rw [beq_eq_false_iff_ne];subst hk;decide
 have q16:(k==16)=false:=by rw [beq_eq_false_iff_ne];subst hk;decide
 subst hd0;clear hk hk0 hkd hkn htx hlo hhi hn0 hn1 Qw HKK HIH Tq HNK HCK HSG;obtain⟨OB,hOB⟩:∃OB,Obj.cells #[I k,sv text,I n,I li,I co,.slice A1 a c1,.slice A2 b c2,.slice A3 0 c3] 70 (0,0)=OB:=⟨_,rfl⟩
 obtain⟨W,hW⟩:∃W,(w.alloc (.cells #[.int .i64 k,sv text,.int .i64 n,.int .i64 li,.int .i64 co,.slice A1 a c1,.slice A2 b c2,.slice A3 0 c3] 70)).alloc (.cells #[.slice none 0 0] 25)=W:=⟨_,rfl⟩
 have amL:bq (Jm w W OB Z (S.take 0)):=aO (by
  rw [<-hW,<-hOB];exact⟨(rJ w _ _).2,iq.nil _ _ _,(rJ w _ _).1,(o9 _ _).alloc (by simp) _⟩)
 have vL:=aO hOB;have La:=aO hW;clear hW hOB;go_enter Tryz.func52,Tryz.ntmps52;go_wp2_with fail;have hW:=La.o;rw [hW];clear hW;go_loopw [10] (fun v10 wr=>v10=I 0∧wr=W) (fun _ _=>0)
 case atStart=>exact⟨rfl,rfl⟩
 case round=>
  obtain⟨rfl,rfl⟩:=hrel;have hat:=amL.o;have hbr:=hat.below;obtain⟨g0,g1,g2,g3,g4,g5,g6,g7⟩:=mU (hat.node.trans (congrArg some vL.o.symm));have HC:=aO (QA wr _ k text n li co ts ns ks ((HR.o.keep hbr).more hbr.size) axM.o);have HB:=aO hbr;clear hat hbr;go_wp2_with fail;refine HC.o.mono ?_;rintro e w2 ⟨rfl,hb⟩;go_wp2_with fail;go_ret;exact⟨by rw [HT.o];rfl,HB.o.trans (hb.mono HB.o.size)⟩
inductive SmN:bW->Prop
 |name {t:Bt}{n l c:Int}{ts:List bZ}{ns:List Bt}{ks:List bW}(h:ks=[]):SmN (.mk 4 t n l c ts ns ks)
 |op {t:Bt}{n l c:Int}{ts:List bZ}{ns:List Bt}{a b:bW}:SmN a->SmN b->SmN (.mk 14 t n l c ts ns [a,b])
theorem S9 {x:bW}(h:SmN x):ExC x:=by
 induction h with
 | @name t n l c ts ns ks h=>subst h;exact XU 4 rfl t n l c ts ns [] (fun y hy=>by cases hy)
 | @op t n l c ts ns a b _ _ ha hb=>exact adK t n l c ts ns [a,b] (fun y hy=>by
   rcases List.mem_cons.1 hy with rfl |hy
   ·exact ha
   ·rcases List.mem_cons.1 hy with rfl |hy
    ·exact hb
    ·cases hy)
theorem Ta (w:World)(z:List Value)(x:bW)(hsm:SmN x)(hr:Bv w w.heap.size z x)(hok:okN x)(hc:Jj x<=300000)(hX:mW w):
  Calls Tryz.prog 35 #[.agg z.toArray] w fun e w'=>e=.returned (sv (Kq x))∧Below w.heap.size w w':=by
 obtain⟨k,s,v2,v3,v4,A1,n1,c1,A2,n2,c2,A3,n3,c3,rfl⟩:=hr.shape;obtain⟨W1,hW1⟩:∃W1,W1=w.alloc (.cells #[.int .i64 k,.string s,.int .i64 v2,.int .i64 v3,.int .i64 v4,.slice A1 n1 c1,.slice A2 n2 c2,.slice A3 n3 c3] 70):=⟨_,rfl⟩
 have hb1:Below w.heap.size w W1:=by rw [hW1];exact o9 _ _
 have hbx:W1.heap[w.heap.size]? =some (.cells #[I k,.string s,I v2,I v3,I v4,.slice A1 n1 c1,.slice A2 n2 c2,.slice A3 n3 c3] 70 (0,0)):=by rw [hW1];exact heap_alloc_new w _
 have HW:=Qz 25 (by omega) W1 _ x (hr.far (Nat.le_refl _) hb1) hok (hX.below hb1);rw [hW1]at HW;have HW:=aO HW;have HB:=aO hb1;have La:=aO hW1;have Gb:=aO hbx;have HR:=aO hr;have HX:=aO hX;have Tq:=aO hok;clear hb1 hbx hr hX hW1 hok;cases hq:ko 25 x with
 |false=>
  have HT:bq (Kq x=[]):=aO (by unfold Kq;rw [hq];rfl);rw [hq]at HW;rw [HT.o];clear hq HT;go_enter Tryz.func35,Tryz.ntmps35;go_wp2_with fail;refine HW.o.mono ?_;rintro e w2 ⟨rfl,hb⟩;rw [<-La.o]at hb;go_wp2_with fail;go_ret;exact⟨rfl,HB.o.trans (hb.mono HB.o.size)⟩
 |true=>
  have HT:bq (Kq x=vw x):=aO (by unfold Kq;rw [hq];rfl);rw [hq]at HW;rw [HT.o];have HS:bq (∀w2,Below w.heap.size w w2->Calls Tryz.prog 52 #[.agg [I k,.string s,I v2,I v3,I v4,.slice A1 n1 c1,.slice A2 n2 c2,.slice A3 n3 c3].toArray] w2 fun e w'=>e=.returned (sv (vw x))∧Below w2.heap.size w2 w'):=aO (fun w2 hb2=>S9 hsm w2 _ 25 (HR.o.far (Nat.le_refl _) hb2) Tq.o hq hc (HX.o.below hb2));clear hq HT HR;generalize vw x=u at*
  go_enter Tryz.func35,Tryz.ntmps35;go_wp2_with fail;refine HW.o.mono ?_;rintro e w2 ⟨rfl,hb⟩;rw [<-La.o]at hb;have HB2:=aO (HB.o.trans (hb.mono HB.o.size));obtain⟨g0,g1,g2,g3,g4,g5,g6,g7⟩:=mU ((hb.block _ (block_lt Gb.o)).trans Gb.o);clear hb;go_wp2_with fail;refine(HS.o _ HB2.o).mono ?_;rintro e w3 ⟨rfl,hb3⟩;go_wp2_with fail;go_ret;exact⟨rfl,HB2.o.trans (hb3.mono HB2.o.size)⟩
def exA:bW:= .mk 14 [45] 0 1 7 [] [] [(.mk 14 [45] 0 1 3 [] [] [(.mk 4 [97] 0 1 1 [] [] []),(.mk 4 [98] 0 1 5 [] [] [])]),(.mk 14 [42] 0 1 11 [] [] [(.mk 4 [99] 0 1 9 [] [] []),(.mk 4 [100] 0 1 13 [] [] [])])]
def exB:bZ:= .mk 6 [] [] [(.mk 7 [] [] [(.mk 3 [] [] []),(.mk 1 [] [] [])]),(.mk 5 [] [[97]] [(.mk 4 [] [] [])])]
def exC:Bw:=⟨[],[⟨[102],false,[],[120],[(.mk 0 [] [] []),(.mk 0 [] [] [])],(.mk 4 [120] 0 1 11 [] [] []),1,1⟩]⟩
theorem ajY:dB (dw 100).expr [97,32,45,32,98,32,45,32,99,32,42,32,100]=(some exA,(0,0,0)):=by kernel_rfl
theorem ajZ:dB (dw 100).typ [105,110,116,32,124,32,110,117,108,108,32,45,62,32,123,97,58,32,115,116,114,125]=(some exB,(0,0,0)):=by kernel_rfl
theorem aj0:dB cK [102,110,32,102,40,120,41,32,61,32,120,59]=(some exC,(0,0,0)):=by kernel_rfl
theorem asv:dB cK [102,110,32,102,40,120,41,32,61,32,59]=(none,(1,11,7)):=by kernel_rfl
theorem axP:SmN exA:= .op (.op (.name rfl) (.name rfl)) (.op (.name rfl) (.name rfl))
theorem amO:Kq exA=[40,40,97,32,45,32,98,41,32,45,32,40,99,32,42,32,100,41,41]:=by kernel_rfl
theorem adN {w:World}{F:Nat->Prop}{z:List Value}(h:Nj w F z exC):∃A1 n1 c1 b o c2 A2 c3,z=[.slice A1 n1 c1,.slice (some ⟨b,o,none⟩) 1 c2]∧w.cell? ⟨b,o+4,none⟩=some (.slice A2 2 c3)∧b<w.heap.size∧1<=c2:=by
 obtain⟨A1,c1,A2,c2,xi,xd,rfl,h1,h2,h3,h4⟩:=h.all.parts;obtain⟨A,n,c,hv,hl,hn,hc,hx⟩:=h3;injection hv with hv1 hv2 hv3;have hv2:(1:Nat)=n:=hv2;subst hv1 hv3;subst hv2;obtain⟨b,o,rfl,hb,hcell⟩:=hx (by omega);have h4:fA (Ju w w.heap.size) 15 xd [⟨[102],false,[],[120],[.mk 0 [] [] [],.mk 0 [] [] []],.mk 4 [120] 0 1 11 [] [] [],1,1⟩]:=h4;cases h4 with
 |cons hz hd ht=>
  cases ht;obtain⟨B1,d1,B2,d2,k,s,n,l,c,A3,n3,c3,A4,n4,c4,A5,n5,c5,xv,xt,rfl,_⟩:=hd.parts;exact⟨A1,_,c1,b,o,c2,B2,d2,rfl,hcell 4 _ rfl,hb,hn⟩
theorem XV {w:World}{F:Nat->Prop}{z:List Value}(h:sV w F z exA):∃A1 n1 c1 A2 n2 c2 A3 n3 c3,z=[I 14,sv [45],I 0,I 1,I 7,.slice A1 n1 c1,.slice A2 n2 c2,.slice A3 n3 c3]:=by
 cases h with
 |mk h1 h2 h3 h4 h5=>
  obtain⟨A1,n1,c1,rfl,_⟩:=h1;obtain⟨A2,n2,c2,rfl,_⟩:=h3;obtain⟨A3,n3,c3,rfl,_⟩:=h4;exact⟨_,_,_,_,_,_,_,_,_,rfl⟩
theorem XW {w:World}{F:Nat->Prop}{z:List Value}(h:nT w F z exB):∃A1 n1 c1 A2 n2 c2,z=[I 6,sv [],.slice A1 n1 c1,.slice A2 n2 c2]:=by
 cases h with
 |mk h1 h2 h3=>
  obtain⟨A1,n1,c1,rfl,_⟩:=h1;obtain⟨A2,n2,c2,rfl,_⟩:=h2;exact⟨_,_,_,_,_,_,rfl⟩
theorem Tc (w:World)(hX:oq w):Calls Tryz.prog 14 #[] w fun e w'=>e=.returned (.bool true)∧Below w.heap.size w w':=by
 have HX:=aO hX;have HA:=aO (adn w [97,32,45,32,98,32,45,32,99,32,42,32,100] hX);clear hX;go_enter Tryz.func14,Tryz.ntmps14;go_wp2_with fail;refine(HA.o).mono ?_;rintro e w1 ⟨hb1,z1,rfl,hz1⟩;rw [show xJ (dw 100).expr [97,32,45,32,98,32,45,32,99,32,42,32,100] Fv=exA by unfold xJ;rw [ajY];rfl]at hz1;rw [show(dB (dw 100).expr [97,32,45,32,98,32,45,32,99,32,42,32,100]).2=(0,0,0) by rw [ajY]];obtain⟨A1,n1,c1,A2,n2,c2,A3,n3,c3,rfl⟩:=XV hz1;have hs1:=hb1.size;have HB1:=aO hb1;have HZ1:=aO hz1;have wG:=aO (HX.o.below hb1);obtain⟨W1,hW1⟩:∃W1,(w1.alloc (.cells #[.int .i64 14,.string ⟨#[45]⟩,.int .i64 0,.int .i64 1,.int .i64 7,.slice A1 n1 c1,.slice A2 n2 c2,.slice A3 n3 c3] 70)).alloc (.cells #[.int .i64 0,.int .i64 0,.int .i64 0,.int .i64 0] 45)=W1:=⟨_,rfl⟩
 have afP:Below w1.heap.size w1 W1:=by rw [<-hW1];exact new2 _ _ _
 obtain⟨_,_,hn1,hd1⟩:=jk (G:=fun _=>False) (Turn.refl _ ((w1.alloc (.cells #[.int .i64 14,.string ⟨#[45]⟩,.int .i64 0,.int .i64 1,.int .i64 7,.slice A1 n1 c1,.slice A2 n2 c2,.slice A3 n3 c3] 70)).alloc (.cells #[.int .i64 0,.int .i64 0,.int .i64 0,.int .i64 0] 45)));rw [hW1]at hn1 hd1;have aDp:W1.heap.size=w1.heap.size+2:=by rw [<-hW1];simp
 have TK:=aO (hn1 id);have HD1:=aO (hd1 id);have axQ:=aO (hb1.trans (afP.mono hs1));have asw:=aO (wG.o.below afP);have axR:=aO (hz1.turn (Turn.of_below (F:=fun _=>False) afP) (fun _ _ _=>id));have HW1:=aO hW1;have HT:=aO (adp W1 [105,110,116,32,124,32,110,117,108,108,32,45,62,32,123,97,58,32,115,116,114,125] asw.o);clear hb1 hz1 afP hn1 hd1 hW1;go_wp2_with fail;rw [HW1.o];refine(HT.o).mono ?_;rintro e w2 ⟨hb2,z2,rfl,hz2⟩;rw [show xJ (dw 100).typ [105,110,116,32,124,32,110,117,108,108,32,45,62,32,123,97,58,32,115,116,114,125] Fw=exB by unfold xJ;rw [ajZ];rfl]at hz2;rw [show(dB (dw 100).typ [105,110,116,32,124,32,110,117,108,108,32,45,62,32,123,97,58,32,115,116,114,125]).2=(0,0,0) by rw [ajZ]];obtain⟨B1,m1,e1,B2,m2,e2,rfl⟩:=XW hz2;have hs2:=hb2.size;obtain⟨W2,hW2⟩:∃W2,(w2.alloc (.cells #[.int .i64 6,.string ⟨#[]⟩,.slice B1 m1 e1,.slice B2 m2 e2] 80)).alloc (.cells #[.int .i64 0,.int .i64 0,.int .i64 0,.int .i64 0] 45)=W2:=⟨_,rfl⟩
 have hbw2:Below w2.heap.size w2 W2:=by rw [<-hW2];exact new2 _ _ _
 obtain⟨_,_,hn2,hd2⟩:=jk (G:=fun _=>False) (Turn.refl _ ((w2.alloc (.cells #[.int .i64 6,.string ⟨#[]⟩,.slice B1 m1 e1,.slice B2 m2 e2] 80)).alloc (.cells #[.int .i64 0,.int .i64 0,.int .i64 0,.int .i64 0] 45)));rw [hW2]at hn2 hd2;have ash:W2.heap.size=w2.heap.size+2:=by rw [<-hW2];simp
 have mE:=hb2.trans (hbw2.mono hs2);have LM:=aO (hn2 id);have HD2:=aO (hd2 id);have asx:=aO (axQ.o.trans (mE.mono (by omega)));have XY:=aO mE;have asy:=aO (asw.o.below mE);have HW2:=aO hW2;have HP:=aO (Jc W2 [102,110,32,102,40,120,41,32,61,32,120,59] asy.o);clear hb2 hz2 hbw2 hn2 hd2 hW2 mE;go_wp2_with fail;rw [HW2.o];refine(HP.o).mono ?_;rintro e w3 ⟨hb3,z3,rfl,hz3⟩;rw [show xJ cK [102,110,32,102,40,120,41,32,61,32,120,59] uM=exC by unfold xJ;rw [aj0];rfl]at hz3;rw [show(dB cK [102,110,32,102,40,120,41,32,61,32,120,59]).2=(0,0,0) by rw [aj0]];obtain⟨G1,p1,q1,bd,od,q2,G2,q3,rfl,hty,hbl,hq2⟩:=adN hz3;have hs3:=hb3.size;obtain⟨W3,hW3⟩:∃W3,(w3.alloc (.cells #[.slice G1 p1 q1,.slice (some ⟨bd,od,none⟩) 1 q2] 40)).alloc (.cells #[.int .i64 0,.int .i64 0,.int .i64 0,.int .i64 0] 45)=W3:=⟨_,rfl⟩
 have wD:Below w3.heap.size w3 W3:=by rw [<-hW3];exact new2 _ _ _
 obtain⟨_,_,hn3,hd3⟩:=jk (G:=fun _=>False) (Turn.refl _ ((w3.alloc (.cells #[.slice G1 p1 q1,.slice (some ⟨bd,od,none⟩) 1 q2] 40)).alloc (.cells #[.int .i64 0,.int .i64 0,.int .i64 0,.int .i64 0] 45)));rw [hW3]at hn3 hd3;have axS:W3.heap.size=w3.heap.size+2:=by rw [<-hW3];simp
 have oP:=hb3.trans (wD.mono hs3);have G7:=aO (hn3 id);have HD3:=aO (hd3 id);have qK:=aO ((wD.cell (p:=⟨bd,od+4,none⟩) hbl).trans hty);have asz:=aO (asx.o.trans (oP.mono (by have:=asx.o.size;omega)));have QB:=aO oP;have asA:=aO (asy.o.below oP);have HW3:=aO hW3;have HQ:=aO (Jc W3 [102,110,32,102,40,120,41,32,61,32,59] asA.o);clear hb3 hz3 wD hn3 hd3 hW3 oP hty;go_wp2_with fail;rw [HW3.o];refine(HQ.o).mono ?_;rintro e w4 ⟨hb4,z4,rfl,hz4⟩;rw [show(dB cK [102,110,32,102,40,120,41,32,61,32,59]).2=(1,11,7) by rw [asv]];have hzc:=hz4;obtain⟨vi,xi,vd,xd,rfl,⟨K1,r1,r2,rfl,_⟩,_,⟨K2,r3,r4,rfl,_⟩,_⟩:=hzc;have hs4:=hb4.size;obtain⟨W4,xY⟩:∃W4,(w4.alloc (.cells #[.slice K1 r1 r2,.slice K2 r3 r4] 40)).alloc (.cells #[.int .i64 0,.int .i64 1,.int .i64 11,.int .i64 7] 45)=W4:=⟨_,rfl⟩
 have XT:Below w4.heap.size w4 W4:=by rw [<-xY];exact new2 _ _ _
 obtain⟨_,_,_,hd4⟩:=jk (G:=fun _=>False) (Turn.refl _ ((w4.alloc (.cells #[.slice K1 r1 r2,.slice K2 r3 r4] 40)).alloc (.cells #[.int .i64 0,.int .i64 1,.int .i64 11,.int .i64 7] 45)));rw [xY]at hd4;have axT:W4.heap.size=w4.heap.size+2:=by rw [<-xY];simp
 have C9:=hb4.trans (XT.mono hs4);have asB:=aO (asz.o.trans (C9.mono (by have:=asz.o.size;omega)));have Ei:Below W1.heap.size W1 W4:=(XY.o.trans (QB.o.mono XY.o.size)).trans (C9.mono (by have:=XY.o.size;have:=QB.o.size;omega));have Mg:Below W2.heap.size W2 W4:=QB.o.trans (C9.mono QB.o.size);have HD4:=aO (hd4 id);have amP:=aO ((Ei.block w1.heap.size (by omega)).trans TK.o);have aDq:=aO ((Ei.block (w1.heap.size+1) (by omega)).trans HD1.o);have amQ:=aO ((Mg.block w2.heap.size (by omega)).trans LM.o);have amR:=aO ((Mg.block (w2.heap.size+1) (by omega)).trans HD2.o);have amS:=aO ((C9.block w3.heap.size (by omega)).trans G7.o);have amT:=aO ((C9.block (w3.heap.size+1) (by omega)).trans HD3.o);have axU:=aO ((C9.cell (p:=⟨bd,od+4,none⟩) (by show bd< _;omega)).trans qK.o);have asC:=axR.o.turn (Turn.of_below (F:=fun _=>False) Ei) (fun _ _ _=>id);have HE:=aO (Ta W4 _ exA axP asC.all (by unfold exA;simp [okN,VI,VH,In64,maxLen]) (by decide) (asA.o.below C9).t);rw [amO]at HE;have LW:=aO xY;have HE:=aO (by have h:=HE;rw [<-xY]at h;exact h);have QC:Below W1.heap.size W1 w4:=(XY.o.trans (QB.o.mono XY.o.size)).trans (hb4.mono (by have:=XY.o.size;have:=QB.o.size;omega));obtain⟨x0,x1,x2,x3,x4,x5,x6,x7,xz⟩:=aD ((QC.block w1.heap.size (by omega)).trans TK.o);obtain⟨a0,a1,a2,a3,az⟩:=aW ((QC.block (w1.heap.size+1) (by omega)).trans HD1.o);have aDr:w1.heap.size<w4.heap.size:=by have:=QC.size;omega
 have arf:w1.heap.size+1<w4.heap.size:=by have:=QC.size;omega
 clear QC;have zG:=aO axT;clear hb4 hz4 XT hd4 xY C9 Ei Mg asC;go_wp2_with fail;refine(HE.o).mono ?_;rintro e w5 ⟨rfl,hb5⟩;rw [LW.o]at hb5;have xq:=aO (asB.o.trans (hb5.mono (by have:=asB.o.size;omega)));have hs5:=hb5.size;clear x0 x1 x2 x3 x4 x5 x6 x7 xz a0 a1 a2 a3 az;have amP:=aO ((hb5.block w1.heap.size (by omega)).trans amP.o);have amR:=aO ((hb5.block (w2.heap.size+1) (by omega)).trans amR.o);have amQ:=aO ((hb5.block w2.heap.size (by omega)).trans amQ.o);have amS:=aO ((hb5.block w3.heap.size (by omega)).trans amS.o);have amT:=aO ((hb5.block (w3.heap.size+1) (by omega)).trans amT.o);have axV:=aO ((hb5.block (w4.heap.size+1) (by omega)).trans HD4.o);have hty:=(hb5.cell (p:=⟨bd,od+4,none⟩) (by show bd< _;omega)).trans axU.o;obtain⟨x0,x1,x2,x3,x4,x5,x6,x7,xz⟩:=aD amP.o;obtain⟨b0,b1,b2,b3,bz⟩:=aW amR.o;obtain⟨y0,y1,y2,y3,yz⟩:=aW amQ.o;obtain⟨m0,m1',mz⟩:=l8 amS.o;obtain⟨d0,d1,d2,d3,dz⟩:=aW amT.o;obtain⟨f0,f1,f2,f3,fz⟩:=aW axV.o;clear hb5;go_wp2_with fail;go_ret;exact⟨rfl,xq.o⟩
theorem XZ (d:Du)(w:World):(binOp .eql 45 (xZ d) (xZ d)).run Tryz.prog w=.ok (.bool true) w:=by
 have hS:Tryz.prog.underlying 45=some (.struct (Tryz.prog.fieldsOf 45)):=by kernel_rfl
 have hp:Tryz.prog.stoodInHeld 45=false:=by kernel_rfl
 have u3:=Tryz.underlying3;have a3:=Tryz.isAgg3;have z3:=Tryz.sizeOf3;have u5:=Tryz.underlying43;have a5:=Tryz.isAgg43;have z5:=Tryz.sizeOf43;rw [run_eql_struct,show(10000:Nat)=9999+1 from rfl,run_equalIn_agg w 9999 45 _ _ hS hp];simp only [Program.fieldsOf,Tryz.underlying45];go_simp
theorem Gj {w:World}{b:Nat}{x0 x1 x2 x3 x4 x5 x6 x7 x8 x9 x10 x11 x12 x13 x14:Value}{T:TypeId}(h:w.heap[b]? =some (.cells #[x0,x1,x2,x3,x4,x5,x6,x7,x8,x9,x10,x11,x12,x13,x14] T (0,0))):
  w.cell? ⟨b,0,none⟩=some x0∧w.cell? ⟨b,1,none⟩=some x1∧w.cell? ⟨b,2,none⟩=some x2∧w.cell? ⟨b,3,none⟩=some x3∧w.cell? ⟨b,4,none⟩=some x4∧w.cell? ⟨b,5,none⟩=some x5∧w.cell? ⟨b,6,none⟩=some x6∧w.cell? ⟨b,7,none⟩=some x7∧w.cell? ⟨b,8,none⟩=some x8∧w.cell? ⟨b,9,none⟩=some x9∧w.cell? ⟨b,10,none⟩=some x10∧w.cell? ⟨b,11,none⟩=some x11∧w.cell? ⟨b,12,none⟩=some x12∧w.cell? ⟨b,13,none⟩=some x13∧w.cell? ⟨b,14,none⟩=some x14:=
 ⟨(dY h),(dY h),(dY h),(dY h),(dY h),(dY h),(dY h),(dY h),(dY h),(dY h),(dY h),(dY h),(dY h),(dY h),(dY h)⟩
structure SmM (m:Bw):Prop where
 imps:m.imps.length<=6000
 decls:m.decls.length<=1700
 names:∀i∈m.imps,i.names.length<=6000
 vars:∀d∈m.decls,d.vars.length<=2600
 types:∀d∈m.decls,d.types.length<=6000
 bounds:∀d∈m.decls,∀v∈d.vars,afK v.bound<=300000
 sorts:∀d∈m.decls,ze d.types<=300000
 body:∀d∈m.decls,Jj d.body<=300000
theorem adO {w:World}{B:Nat}{A:Option Addr}{n c:Nat}{xs:List Value}{l:List vB}(hs:Sl w B 4 (.slice A n c) xs)(hr:fA (Yt w B) 4 xs l){i:Nat}(hi:i<l.length)(hn:n=l.length):
  ∃b o A1 c1,A=some ⟨b,o,none⟩∧Ss w B (.slice A1 l[i].names.length c1) l[i].names∧w.cell? ⟨b,o+i*4,none⟩=some (sv l[i].from_)∧w.cell? ⟨b,o+i*4+1,none⟩=some (.slice A1 l[i].names.length c1)∧w.cell? ⟨b,o+i*4+2,none⟩=some (I l[i].line)∧w.cell? ⟨b,o+i*4+3,none⟩=some (I l[i].col):=by
 obtain⟨b,o,z,hA,hb,⟨vn,rfl,hv⟩,hc⟩:=Q8 hs hr (by omega) hi hn;obtain⟨A1,c1,rfl⟩:=fM hv (by omega) (m:=l[i].names.length) (by rw [fE];omega);exact⟨b,o,A1,c1,hA,hv,by simpa using hc 0 _ rfl,hc 1 _ rfl,hc 2 _ rfl,hc 3 _ rfl⟩
theorem Ez {w:World}{b:Nat}{x0 x1:Value}{T:TypeId}(h:w.heap[b]? =some (.cells #[x0,x1] T (0,0))):w.cell? ⟨b,0,none⟩=some x0∧w.cell? ⟨b,1,none⟩=some x1:=
 ⟨(dY h),(dY h)⟩
end Go.Proofs.YtncnnedlgofccaaGreatDoor
