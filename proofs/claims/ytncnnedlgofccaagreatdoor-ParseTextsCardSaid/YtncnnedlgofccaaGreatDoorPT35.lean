/- YS, YT, IP -/
import Derived.Test.YtncnnedlgofccaaGreatDoorPT34
set_option linter.unusedSimpArgs false
set_option linter.unusedVariables false
set_option maxRecDepth 100000
set_option maxHeartbeats 8000000
namespace Go.Proofs.YtncnnedlgofccaaGreatDoor
open Go.RowKit
def QD (t:bZ):Prop:=∀(w:World) (z1 z2:List Value),BO w w.heap.size z1 t->BO w w.heap.size z2 t->
 Calls Tryz.prog 67 #[.agg z1.toArray,.agg z2.toArray] w fun e w'=>e=.returned (.bool true)∧Below w.heap.size w w'
theorem Jr (va vb:Value)(a:List Bt)(w:World)(ha:Ss w w.heap.size va a)(hb:Ss w w.heap.size vb a):
  Calls Tryz.prog 31 #[va,vb] w fun e w'=>e=.returned (.bool true)∧Below w.heap.size w w':=
 (XK va vb a a w ha hb).mono fun e w' h=>⟨by rw [h.1,decide_eq_true (Eq.refl a)],h.2⟩
theorem Js (l:List bZ)(H:∀t∈l,QD t)(w:World)(v1 v2:Value)(x1 x2:List Value)(h1:Sl w w.heap.size 4 v1 x1)(r1:lC w w.heap.size x1 l)(h2:Sl w w.heap.size 4 v2 x2)(r2:lC w w.heap.size x2 l):
  Calls Tryz.prog 68 #[v1,v2] w fun e w'=>e=.returned (.bool true)∧Below w.heap.size w w':=by
 obtain⟨A1,c1,rfl⟩:=fM h1 (by omega) (m:=l.length) r1.length;obtain⟨A2,c2,rfl⟩:=fM h2 (by omega) (m:=l.length) r2.length;have l1:=(dU h1).2;have l2:=(dU h2).2;have uQ:=aO h1;have HS2:=aO h2;have HR1:=aO r1;have HR2:=aO r2;have HH:=aO H;obtain⟨n,hn⟩:∃n,l.length=n:=⟨_,rfl⟩
 rw [hn]at uQ HS2 l1 l2;rw [hn];have HN:=aO hn;clear h1 h2 r1 r2 H hn;go_enter Tryz.func68,Tryz.ntmps68;go_wp2_with fail;go_loopw [5] (fun v5 wr=>∃i:Nat,v5=I i∧i<=n∧Below w.heap.size w wr) (fun v5 _=>n - (intOf v5).toNat)
 case atStart=>exact⟨0,rfl,by omega,Below.refl _ _⟩
 case round=>
  obtain⟨i,rfl,hi,hbr⟩:=hrel;have Au:=aO hbr;by_cases hlt:i<n
  ·have hil:i<l.length:=by rw [HN.o];exact hlt
   obtain⟨b1,o1,k1,s1,A3,n3,c3,A4,n4,c4,rfl,q1,d0,d1,d2,d3⟩:=MR (Sl.more (Sl.below uQ.o hbr) hbr.size) ((HR1.o.keep hbr).more hbr.size) hil HN.o.symm;obtain⟨b2,o2,k2,s2,A5,n5,c5,A6,n6,c6,rfl,q2,e0,e1,e2,e3⟩:=MR (Sl.more (Sl.below HS2.o hbr) hbr.size) ((HR2.o.keep hbr).more hbr.size) hil HN.o.symm;have HC:=aO (fun(w1:World) (h:Below wr.heap.size wr w1)=>HH.o _ (List.getElem_mem hil) w1 _ _ (q1.far (Nat.le_refl _) h) (q2.far (Nat.le_refl _) h));have D0:=aO d0;have D1:=aO d1;have D2:=aO d2;have D3:=aO d3;have E0:=aO e0;have E1:=aO e1;have E2:=aO e2;have E3:=aO e3;have HB0:bq (Below wr.heap.size wr wr.drew):=aO (aP wr 1);clear q1 q2 d0 d1 d2 d3 e0 e1 e2 e3 hbr;go_wp2_with fail;refine wp_region_held_drew (S:=fun w'=>Below wr.heap.size wr w') (by kernel_rfl) HB0.o (fun _=>?_)
   try simp only [sp,sq]
   refine tk 0 (.slice (some ⟨b1,o1,none⟩) n c1) HB0.o ?_;refine tk 1 (I i) HB0.o ?_;refine tk 2 (pP b1 (o1+i*4)) HB0.o ?_;refine jE 3 (.agg #[I k1,.string s1,.slice A3 n3 c3,.slice A4 n4 c4]) (kp4 D0.o D1.o D2.o D3.o) HB0.o ?_;refine tk 4 (.slice (some ⟨b2,o2,none⟩) n c2) HB0.o ?_;refine tk 5 (I i) HB0.o ?_;refine tk 6 (pP b2 (o2+i*4)) HB0.o ?_;refine jE 7 (.agg #[I k2,.string s2,.slice A5 n5 c5,.slice A6 n6 c6]) (kp4 E0.o E1.o E2.o E3.o) HB0.o ?_;refine dJ 8 fun K hK=>?_;go_simp;refine(HC.o _ HB0.o).mono ?_;rintro e w2 ⟨rfl,hb⟩;have HB2:=aO (HB0.o.trans (hb.mono HB0.o.size));clear hb;refine hK.out _ _ HB2.o (fun _=>?_);clear hK K
   try simp only [sp,sq]
   refine tk 9 (.bool true) HB2.o ?_;refine eT _ ?_;go_wp2_with fail
   go_roundw
   case rel=>exact⟨i+1,rfl,by omega,Au.o.trans (HB2.o.mono Au.o.size)⟩
   case measure=>simp [intOf];omega
  ·obtain rfl:i=n:=by omega
   clear hbr hlt;go_wp2_with fail;go_ret;exact⟨rfl,Au.o⟩
theorem adP (k:Int)(nm:Bt)(ns:List Bt)(ks:List bZ)(H:∀t∈ks,QD t):QD (.mk k nm ns ks):=by
 intro w z1 z2 h1 h2;obtain⟨A1,c1,A2,c2,xk,rfl,s1,s2,r2⟩:=h1.parts;obtain⟨A3,c3,A4,c4,xk',rfl,s3,s4,r4⟩:=h2.parts;obtain⟨W,hW⟩:∃W,(w.alloc (.cells #[.int .i64 k,sv nm,.slice A1 ns.length c1,.slice A2 ks.length c2] 80)).alloc (.cells #[.int .i64 k,sv nm,.slice A3 ns.length c3,.slice A4 ks.length c4] 80)=W:=⟨_,rfl⟩
 have hb2:Below w.heap.size w W:=by rw [<-hW];exact(o9 _ _).alloc (by simp) _
 have hbx:=rJ w (.cells #[I k,sv nm,.slice A1 ns.length c1,.slice A2 ks.length c2] 80) (.cells #[I k,sv nm,.slice A3 ns.length c3,.slice A4 ks.length c4] 80);rw [hW]at hbx;have HX:=aO hbx.1;have HY:=aO hbx.2;have HB2:=aO hb2;have HT:=aO (Jr _ _ ns W (Ss.more (s1.below hb2) hb2.size) (Ss.more (s3.below hb2) hb2.size));have HK:=aO (fun(w1:World) (h:Below W.heap.size W w1)=>Js ks H w1 _ _ _ _ (Sl.more (Sl.below (Sl.more (Sl.below s2 hb2) hb2.size) h) h.size) ((r2.far (Nat.le_refl _) hb2).far (Nat.le_refl _) h) (Sl.more (Sl.below (Sl.more (Sl.below s4 hb2) hb2.size) h) h.size) ((r4.far (Nat.le_refl _) hb2).far (Nat.le_refl _) h));have l1:=(dU s2).2;generalize ns.length=n1 at*
 generalize ks.length=n2 at*
 clear h1 h2 s1 s2 s3 s4 r2 r4 hbx hb2;have hsz:w.heap.size+1<W.heap.size:=block_lt HY.o;obtain⟨x0,x1,x2,x3⟩:=Et HX.o;obtain⟨y0,y1,y2,y3⟩:=Et HY.o;go_enter Tryz.func67,Tryz.ntmps67;go_wp2_with fail;refine HT.o.mono ?_;rintro e w2 ⟨rfl,hb⟩;have HB3:=aO hb;have x0:=kb hb x0;have x1:=kb hb x1;have x3:=kb hb x3;have y0:=kb hb y0;have y1:=kb hb y1;have y3:=kb hb y3;clear hb;go_wp2_with fail;refine(HK.o _ HB3.o).mono ?_;rintro e w3 ⟨rfl,hb⟩;have Bo:=aO (HB3.o.trans (hb.mono HB3.o.size));have x0:=kb hb x0;have x1:=kb hb x1;have y0:=kb hb y0;have y1:=kb hb y1;clear hb;go_wp2_with fail;go_ret;exact⟨rfl,HB2.o.trans (Bo.o.mono HB2.o.size)⟩
theorem Li (t:bZ):QD t:=by
 have h:∀(n:Nat) (t:bZ),SizeOf.sizeOf t<=n->QD t:=by
  intro n;induction n with
  |zero=>intro t ht;cases t;simp at ht
  |succ n ih=>
   intro t ht;obtain⟨k,nm,ns,ks⟩:=t;refine adP k nm ns ks fun x hx=>ih x ?_;have:=List.sizeOf_lt_of_mem hx;simp at ht;omega
 exact h _ t (Nat.le_refl _)
theorem QE (l:List bZ)(w:World)(v1 v2:Value)(x1 x2:List Value)(h1:Sl w w.heap.size 4 v1 x1)(r1:lC w w.heap.size x1 l)(h2:Sl w w.heap.size 4 v2 x2)(r2:lC w w.heap.size x2 l):
  Calls Tryz.prog 68 #[v1,v2] w fun e w'=>e=.returned (.bool true)∧Below w.heap.size w w':=Js l (fun t _=>Li t) w v1 v2 x1 x2 h1 r1 h2 r2
def Vv (x:bW):Prop:=∀(w:World) (z1 z2:List Value),Bv w w.heap.size z1 x->Bv w w.heap.size z2 x->
 Calls Tryz.prog 69 #[.agg z1.toArray,.agg z2.toArray] w fun e w'=>e=.returned (.bool true)∧Below w.heap.size w w'
theorem X0 (k:Int)(text:Bt)(n line col:Int)(ts:List bZ)(ns:List Bt)(ks:List bW)(H:∀t∈ks,Vv t):Vv (.mk k text n line col ts ns ks):=by
 intro w z1 z2 h1 h2;obtain⟨A1,c1,A2,c2,A3,c3,xt,xk,rfl,s1,r1,s2,s3,r3⟩:=h1.parts;obtain⟨A4,c4,A5,c5,A6,c6,xt',xk',rfl,s4,r4,s5,s6,r6⟩:=h2.parts;obtain⟨W,hW⟩:∃W,(w.alloc (.cells #[.int .i64 k,sv text,.int .i64 n,.int .i64 line,.int .i64 col,.slice A1 ts.length c1,.slice A2 ns.length c2,.slice A3 ks.length c3] 70)).alloc (.cells #[.int .i64 k,sv text,.int .i64 n,.int .i64 line,.int .i64 col,.slice A4 ts.length c4,.slice A5 ns.length c5,.slice A6 ks.length c6] 70)=W:=⟨_,rfl⟩
 have hb2:Below w.heap.size w W:=by rw [<-hW];exact(o9 _ _).alloc (by simp) _
 have hbx:=rJ w (.cells #[I k,sv text,I n,I line,I col,.slice A1 ts.length c1,.slice A2 ns.length c2,.slice A3 ks.length c3] 70) (.cells #[I k,sv text,I n,I line,I col,.slice A4 ts.length c4,.slice A5 ns.length c5,.slice A6 ks.length c6] 70);rw [hW]at hbx;have HX:=aO hbx.1;have HY:=aO hbx.2;have HB2:=aO hb2;have HT:=aO (Jr _ _ ns W (Ss.more (s2.below hb2) hb2.size) (Ss.more (s5.below hb2) hb2.size));have HK:=aO (fun(w1:World) (h:Below W.heap.size W w1)=>QE ts w1 _ _ _ _ (Sl.more (Sl.below (Sl.more (Sl.below s1 hb2) hb2.size) h) h.size) ((r1.far (Nat.le_refl _) hb2).far (Nat.le_refl _) h) (Sl.more (Sl.below (Sl.more (Sl.below s4 hb2) hb2.size) h) h.size) ((r4.far (Nat.le_refl _) hb2).far (Nat.le_refl _) h));have Fg:=aO (Sl.more (Sl.below s3 hb2) hb2.size);have HS6:=aO (Sl.more (Sl.below s6 hb2) hb2.size);have HR3:=aO (r3.far (Nat.le_refl _) hb2);have LQ:=aO (r6.far (Nat.le_refl _) hb2);have HH:=aO H;have l1:=(dU s3).2;have l2:=(dU s6).2;obtain⟨n4,hn4⟩:∃x,ks.length=x:=⟨_,rfl⟩
 rw [hn4]at HX HY Fg HS6 l1 l2 hW;rw [hn4];have Tz:=aO hn4;generalize ts.length=n2 at*
 generalize ns.length=n3 at*
 clear h1 h2 s1 s2 s3 s4 s5 s6 r1 r3 r4 r6 hbx hb2 H hn4;have hsz:w.heap.size+1<W.heap.size:=block_lt HY.o;obtain⟨x0,x1,x2,x3,x4,x5,x6,x7⟩:=mU HX.o;obtain⟨y0,y1,y2,y3,y4,y5,y6,y7⟩:=mU HY.o;go_enter Tryz.func69,Tryz.ntmps69;go_wp2_with fail;refine HT.o.mono ?_;rintro e w2 ⟨rfl,hb⟩;have HB3:=aO hb;have x0:=kb hb x0;have y0:=kb hb y0;have x1:=kb hb x1;have y1:=kb hb y1;have x2:=kb hb x2;have y2:=kb hb y2;have x3:=kb hb x3;have y3:=kb hb y3;have x4:=kb hb x4;have y4:=kb hb y4;have x5:=kb hb x5;have y5:=kb hb y5;have x7:=kb hb x7;have y7:=kb hb y7;clear hb;go_wp2_with fail;refine(HK.o _ HB3.o).mono ?_;rintro e w3 ⟨rfl,hb⟩;have Bo:=aO (HB3.o.trans (hb.mono HB3.o.size));have x0:=kb hb x0;have y0:=kb hb y0;have x1:=kb hb x1;have y1:=kb hb y1;have x2:=kb hb x2;have y2:=kb hb y2;have x3:=kb hb x3;have y3:=kb hb y3;have x4:=kb hb x4;have y4:=kb hb y4;have x7:=kb hb x7;have y7:=kb hb y7;clear hb;go_wp2_with fail;clear x0 x1 x2 x3 x4 x5 x6 y0 y1 y2 y3 y4 y5 y6;go_loopw [7] (fun v7 wr=>∃i:Nat,v7=I i∧i<=n4∧Below W.heap.size W wr) (fun v7 _=>n4 - (intOf v7).toNat)
 case atStart=>exact⟨0,rfl,by omega,Bo.o⟩
 case round=>
  obtain⟨i,rfl,hi,hbr⟩:=hrel;have Au:=aO hbr;have x7:=((hbr.cell (p:=⟨w.heap.size,7,none⟩) (by show w.heap.size<W.heap.size;omega)).trans (mU HX.o).2.2.2.2.2.2.2)
  have y7:=((hbr.cell (p:=⟨w.heap.size+1,7,none⟩) hsz).trans (mU HY.o).2.2.2.2.2.2.2)
  by_cases hlt:i<n4
  ·have hil:i<ks.length:=by rw [Tz.o];exact hlt
   obtain⟨b1,o1,k1,s1,a1,a2,a3,P1,m1,e1,P2,m2,e2,P3,m3,e3,rfl,q1,d0,d1,d2,d3,d4,d5,d6,d7⟩:=Gi (Sl.more (Sl.below Fg.o hbr) hbr.size) ((HR3.o.keep hbr).more hbr.size) hil Tz.o.symm;obtain⟨b2,o2,k2,s2,a4,a5,a6,P4,m4,e4,P5,m5,e5,P6,m6,e6,rfl,q2,f0,f1,f2,f3,f4,f5,f6,f7⟩:=Gi (Sl.more (Sl.below HS6.o hbr) hbr.size) ((LQ.o.keep hbr).more hbr.size) hil Tz.o.symm;have HC:=aO (fun(w1:World) (h:Below wr.heap.size wr w1)=>HH.o _ (List.getElem_mem hil) w1 _ _ (q1.far (Nat.le_refl _) h) (q2.far (Nat.le_refl _) h));have D0:=aO d0;have E0:=aO f0;have D1:=aO d1;have E1:=aO f1;have D2:=aO d2;have E2:=aO f2;have D3:=aO d3;have E3:=aO f3;have D4:=aO d4;have E4:=aO f4;have D5:=aO d5;have E5:=aO f5;have D6:=aO d6;have E6:=aO f6;have D7:=aO d7;have E7:=aO f7;have X7:=aO x7;have Y7:=aO y7;have HB0:bq (Below wr.heap.size wr wr.drew):=aO (aP wr 1);clear q1 q2 d0 d1 d2 d3 d4 d5 d6 d7 f0 f1 f2 f3 f4 f5 f6 f7 hbr;go_wp2_with fail;refine wp_region_held_drew (S:=fun w'=>Below wr.heap.size wr w') (by kernel_rfl) HB0.o (fun _=>?_)
   try simp only [sp,sq]
   refine tk 0 (pP w.heap.size 7) HB0.o ?_;refine jE 1 (.slice (some ⟨b1,o1,none⟩) n4 c3) (JG X7.o) HB0.o ?_;refine tk 2 (I i) HB0.o ?_;refine tk 3 (pP b1 (o1+i*8)) HB0.o ?_;refine jE 4 (.agg #[I k1,.string s1,I a1,I a2,I a3,.slice P1 m1 e1,.slice P2 m2 e2,.slice P3 m3 e3]) (kp8 D0.o D1.o D2.o D3.o D4.o D5.o D6.o D7.o) HB0.o ?_;refine tk 5 (pP (w.heap.size+1) 7) HB0.o ?_;refine jE 6 (.slice (some ⟨b2,o2,none⟩) n4 c6) (JG Y7.o) HB0.o ?_;refine tk 7 (I i) HB0.o ?_;refine tk 8 (pP b2 (o2+i*8)) HB0.o ?_;refine jE 9 (.agg #[I k2,.string s2,I a4,I a5,I a6,.slice P4 m4 e4,.slice P5 m5 e5,.slice P6 m6 e6]) (kp8 E0.o E1.o E2.o E3.o E4.o E5.o E6.o E7.o) HB0.o ?_;refine dJ 10 fun K hK=>?_;go_simp;refine(HC.o _ HB0.o).mono ?_;rintro e w2 ⟨rfl,hb⟩;have HB2:=aO (HB0.o.trans (hb.mono HB0.o.size));clear hb;refine hK.out _ _ HB2.o (fun _=>?_);clear hK K
   try simp only [sp,sq]
   refine tk 11 (.bool true) HB2.o ?_;refine eT _ ?_;go_wp2_with fail
   go_roundw
   case rel=>exact⟨i+1,rfl,by omega,Au.o.trans (HB2.o.mono Au.o.size)⟩
   case measure=>simp [intOf];omega
  ·obtain rfl:i=n4:=by omega
   clear hbr hlt;go_wp2_with fail;go_ret;exact⟨rfl,HB2.o.trans (Au.o.mono HB2.o.size)⟩
theorem X4 (t:bW):Vv t:=by
 have h:∀(n:Nat) (t:bW),SizeOf.sizeOf t<=n->Vv t:=by
  intro n;induction n with
  |zero=>intro t ht;cases t;simp at ht
  |succ n ih=>
   intro t ht;obtain⟨k,text,n1,line,col,ts,ns,ks⟩:=t;refine X0 k text n1 line col ts ns ks fun x hx=>ih x ?_;have:=List.sizeOf_lt_of_mem hx;simp at ht;omega
 exact h _ t (Nat.le_refl _)
theorem asD {w:World}{a0 a1 a2 a3 a4 a5 a6 a7 a8 a9 M4 MH a12 K6 J9:Addr}{v0 v1 v2 v3 v4 v5 v6 v7 v8 v9 v10 v11 v12 v13 v14:Value}(d0:w.cell? a0=some v0)(d1:w.cell? a1=some v1)(d2:w.cell? a2=some v2)(d3:w.cell? a3=some v3)(d4:w.cell? a4=some v4)(d5:w.cell? a5=some v5)(d6:w.cell? a6=some v6)(d7:w.cell? a7=some v7)(d8:w.cell? a8=some v8)(d9:w.cell? a9=some v9)(d10:w.cell? M4=some v10)(d11:w.cell? MH=some v11)(d12:w.cell? a12=some v12)(d13:w.cell? K6=some v13)(d14:w.cell? J9=some v14):
  ∀w',Below w.heap.size w w'->w'.cell? a0=some v0∧w'.cell? a1=some v1∧w'.cell? a2=some v2∧w'.cell? a3=some v3∧w'.cell? a4=some v4∧w'.cell? a5=some v5∧w'.cell? a6=some v6∧w'.cell? a7=some v7∧w'.cell? a8=some v8∧w'.cell? a9=some v9∧w'.cell? M4=some v10∧w'.cell? MH=some v11∧w'.cell? a12=some v12∧w'.cell? K6=some v13∧w'.cell? J9=some v14:=fun _ h=>⟨kb h d0,kb h d1,kb h d2,kb h d3,kb h d4,kb h d5,kb h d6,kb h d7,kb h d8,kb h d9,kb h d10,kb h d11,kb h d12,kb h d13,kb h d14⟩
theorem X5 (d:qY)(w:World)(z1 z2:List Value)(h1:Ju w w.heap.size z1 d)(h2:Ju w w.heap.size z2 d):
  Calls Tryz.prog 32 #[.agg z1.toArray,.agg z2.toArray] w fun e w'=>e=.returned (.bool true)∧Below w.heap.size w w':=by
 obtain⟨A1,c1,A2,c2,k,s,n,l,c,A3,n3,c3,A4,n4,c4,A5,n5,c5,xv,xt,rfl,s1,r1,s2,r2,r3⟩:=h1.parts;obtain⟨B1,e1,B2,e2,k_,s_,n_,l_,c_,B3,m3,e3,B4,m4,e4,B5,m5,e5,yv,yt,rfl,s4,r4,s5,r5,r6⟩:=h2.parts;obtain⟨W,hW⟩:∃W,(w.alloc (.cells #[sv d.name,.bool d.exp,.slice A1 d.vars.length c1,sv d.param,.slice A2 d.types.length c2,.int .i64 k,.string s,.int .i64 n,.int .i64 l,.int .i64 c,.slice A3 n3 c3,.slice A4 n4 c4,.slice A5 n5 c5,.int .i64 d.line,.int .i64 d.col] 72)).alloc (.cells #[sv d.name,.bool d.exp,.slice B1 d.vars.length e1,sv d.param,.slice B2 d.types.length e2,.int .i64 k_,.string s_,.int .i64 n_,.int .i64 l_,.int .i64 c_,.slice B3 m3 e3,.slice B4 m4 e4,.slice B5 m5 e5,.int .i64 d.line,.int .i64 d.col] 72)=W:=⟨_,rfl⟩
 have hb2:Below w.heap.size w W:=by rw [<-hW];exact(o9 _ _).alloc (by simp) _
 have hbx:=rJ w (.cells #[sv d.name,.bool d.exp,.slice A1 d.vars.length c1,sv d.param,.slice A2 d.types.length c2,I k,.string s,I n,I l,I c,.slice A3 n3 c3,.slice A4 n4 c4,.slice A5 n5 c5,I d.line,I d.col] 72) (.cells #[sv d.name,.bool d.exp,.slice B1 d.vars.length e1,sv d.param,.slice B2 d.types.length e2,I k_,.string s_,I n_,I l_,I c_,.slice B3 m3 e3,.slice B4 m4 e4,.slice B5 m5 e5,I d.line,I d.col] 72);rw [hW]at hbx;have HX:=aO hbx.1;have HY:=aO hbx.2;have HB2:=aO hb2;have HK:=aO (fun(w1:World) (h:Below W.heap.size W w1)=>QE d.types w1 _ _ _ _ (Sl.more (Sl.below (Sl.more (Sl.below s2 hb2) hb2.size) h) h.size) ((r2.far (Nat.le_refl _) hb2).far (Nat.le_refl _) h) (Sl.more (Sl.below (Sl.more (Sl.below s5 hb2) hb2.size) h) h.size) ((r5.far (Nat.le_refl _) hb2).far (Nat.le_refl _) h));have HN:=aO (fun(w1:World) (h:Below W.heap.size W w1)=>X4 d.body w1 _ _ ((r3.far (Nat.le_refl _) hb2).far (Nat.le_refl _) h) ((r6.far (Nat.le_refl _) hb2).far (Nat.le_refl _) h));have uQ:=aO (Sl.more (Sl.below s1 hb2) hb2.size);have zG:=aO (Sl.more (Sl.below s4 hb2) hb2.size);have HR1:=aO (r1.imp fun _ _ h=>(h.keep hb2).more hb2.size);have HR4:=aO (r4.imp fun _ _ h=>(h.keep hb2).more hb2.size);have l1:=(dU s1).2;have l2:=(dU s4).2;obtain⟨vs,hvs⟩:∃x,d.vars=x:=⟨_,rfl⟩
 rw [hvs]at HX HY uQ zG HR1 HR4 hW l1 l2;rw [hvs];obtain⟨nv,hnv⟩:∃x,vs.length=x:=⟨_,rfl⟩
 rw [hnv]at HX HY uQ zG hW l1 l2;rw [hnv];have HNV:=aO hnv;generalize d.types.length=nt at*
 generalize d.name=nm at*
 generalize d.exp=ex at*
 generalize d.param=pm at*
 generalize d.line=dl at*
 generalize d.col=dc at*
 clear h1 h2 s1 s2 s4 s5 r1 r2 r3 r4 r5 r6 hbx hb2 hnv hvs;have hsz:w.heap.size+1<W.heap.size:=block_lt HY.o;obtain⟨x0,x1,x2,x3,x4,x5,x6,x7,x8,x9,x10,x11,x12,x13,x14⟩:=Gj HX.o;obtain⟨y0,y1,y2,y3,y4,y5,y6,y7,y8,y9,y10,y11,y12,y13,y14⟩:=Gj HY.o;go_enter Tryz.func32,Tryz.ntmps32;go_wp2_with fail;clear x0 x1 x2 x3 x4 x5 x6 x7 x8 x9 x10 x11 x12 x13 x14 y0 y1 y2 y3 y4 y5 y6 y7 y8 y9 y10 y11 y12 y13 y14;go_loopw [5] (fun v5 wr=>∃i:Nat,v5=I i∧i<=nv∧Below W.heap.size W wr) (fun v5 _=>nv - (intOf v5).toNat)
 case atStart=>exact⟨0,rfl,by omega,Below.refl _ _⟩
 case round=>
  obtain⟨i,rfl,hi,hbr⟩:=hrel;have Au:=aO hbr;obtain⟨x0,x1,x2,x3,x4,x5,x6,x7,x8,x9,x10,x11,x12,x13,x14⟩:=Gj ((hbr.block _ (block_lt HX.o)).trans HX.o);obtain⟨y0,y1,y2,y3,y4,y5,y6,y7,y8,y9,y10,y11,y12,y13,y14⟩:=Gj ((hbr.block _ (block_lt HY.o)).trans HY.o);by_cases hlt:i<nv
  ·clear x0 x1 x3 x4 x5 x6 x7 x8 x9 x10 x11 x12 x13 x14 y0 y1 y3 y4 y5 y6 y7 y8 y9 y10 y11 y12 y13 y14;have hil:i<vs.length:=by rw [HNV.o];exact hlt
   obtain⟨b1,o1,k1,s1,P1,m1,f1,P2,m2,f2,rfl,q1,hk1,d0,d1,d2,d3,d4⟩:=adB (Sl.more (Sl.below uQ.o hbr) hbr.size) (HR1.o.imp fun _ _ h=>(h.keep hbr).more hbr.size) hil HNV.o.symm;obtain⟨b2,o2,k2,s2,P3,q3,f3,P4,q4,f4,rfl,q2,hk2,g0,g1,g2,g3,g4⟩:=adB (Sl.more (Sl.below zG.o hbr) hbr.size) (HR4.o.imp fun _ _ h=>(h.keep hbr).more hbr.size) hil HNV.o.symm;have HC:=aO (fun(w1:World) (h:Below wr.heap.size wr w1)=>Li _ w1 _ _ (q1.far (Nat.le_refl _) h) (q2.far (Nat.le_refl _) h));have D0:=aO d0;have E0:=aO g0;have D1:=aO d1;have E1:=aO g1;have D2:=aO d2;have E2:=aO g2;have D3:=aO d3;have E3:=aO g3;have D4:=aO d4;have E4:=aO g4;have X2:=aO x2;have Y2:=aO y2;have HB0:bq (Below wr.heap.size wr wr.drew):=aO (aP wr 1);generalize vs[i].name=X at*
   clear q1 q2 hk1 hk2 d0 d1 d2 d3 d4 g0 g1 g2 g3 g4 hbr;go_wp2_with fail;refine wp_region_held_drew (S:=fun w'=>Below wr.heap.size wr w') (by kernel_rfl) HB0.o (fun _=>?_)
   try simp only [sp,sq]
   refine tk 0 (pP w.heap.size 2) HB0.o ?_;refine jE 1 (.slice (some ⟨b1,o1,none⟩) nv c1) (JG X2.o) HB0.o ?_;refine tk 2 (I i) HB0.o ?_;refine tk 3 (pP b1 (o1+i*5)) HB0.o ?_;refine tk 4 (pP b1 (o1+i*5+1)) HB0.o ?_;refine jE 5 (.agg #[I k1,.string s1,.slice P1 m1 f1,.slice P2 m2 f2]) (kp4 D1.o D2.o D3.o D4.o) HB0.o ?_;refine tk 6 (pP (w.heap.size+1) 2) HB0.o ?_;refine jE 7 (.slice (some ⟨b2,o2,none⟩) nv e1) (JG Y2.o) HB0.o ?_;refine tk 8 (I i) HB0.o ?_;refine tk 9 (pP b2 (o2+i*5)) HB0.o ?_;refine tk 10 (pP b2 (o2+i*5+1)) HB0.o ?_;refine jE 11 (.agg #[I k2,.string s2,.slice P3 q3 f3,.slice P4 q4 f4]) (kp4 E1.o E2.o E3.o E4.o) HB0.o ?_;refine dJ 12 fun K hK=>?_;go_simp;refine(HC.o _ HB0.o).mono ?_;rintro e w2 ⟨rfl,hb⟩;have HB2:=aO (HB0.o.trans (hb.mono HB0.o.size));clear hb;refine hK.out _ _ HB2.o (fun _=>?_);clear hK K
   try simp only [sp,sq]
   refine tk 13 (.bool true) HB2.o ?_;refine eT _ ?_;have x2:=kb HB2.o x2;have y2:=kb HB2.o y2;have d0:=kb HB2.o D0.o;have g0:=kb HB2.o E0.o;clear X2 Y2 D0 E0;have D0:=aO d0;have E0:=aO g0;have X2:=aO x2;have Y2:=aO y2;have xq:bq (Below w2.heap.size w2 w2.drew):=aO (aP w2 1);clear d0 g0;go_wp2_with fail;refine wp_region_held_drew (S:=fun w'=>Below w2.heap.size w2 w') (by kernel_rfl) xq.o (fun _=>?_)
   try simp only [sp,sq]
   refine tk 0 (pP w.heap.size 2) xq.o ?_;refine jE 1 (.slice (some ⟨b1,o1,none⟩) nv c1) (JG X2.o) xq.o ?_;refine tk 2 (I i) xq.o ?_;refine tk 3 (pP b1 (o1+i*5)) xq.o ?_;refine tk 4 (pP b1 (o1+i*5)) xq.o ?_;refine jE 5 (sv X) (JG D0.o) xq.o ?_;refine tk 6 (pP (w.heap.size+1) 2) xq.o ?_;refine jE 7 (.slice (some ⟨b2,o2,none⟩) nv e1) (JG Y2.o) xq.o ?_;refine tk 8 (I i) xq.o ?_;refine tk 9 (pP b2 (o2+i*5)) xq.o ?_;refine tk 10 (pP b2 (o2+i*5)) xq.o ?_;refine jE 11 (sv X) (JG E0.o) xq.o ?_;refine tk 12 (.bool false) xq.o ?_;refine tk 13 (.bool false) xq.o ?_;refine tk 14 (.bool true) xq.o ?_;refine tk 15 (.bool false) xq.o ?_;refine tk 16 (.bool false) xq.o ?_;refine eT _ ?_;go_wp2_with fail
   go_roundw
   case rel=>exact⟨i+1,rfl,by omega,(Au.o.trans (HB2.o.mono Au.o.size)).trans (xq.o.mono (Au.o.trans (HB2.o.mono Au.o.size)).size)⟩
   case measure=>simp [intOf];omega
  ·obtain rfl:i=nv:=by omega
   clear hlt hbr;go_wp2_with fail;refine(HK.o _ Au.o).mono ?_;rintro e w2 ⟨rfl,hb⟩;have HB3:=aO (Au.o.trans (hb.mono Au.o.size));have x5:=kb hb x5;have y5:=kb hb y5;have x6:=kb hb x6;have y6:=kb hb y6;have x7:=kb hb x7;have y7:=kb hb y7;have x8:=kb hb x8;have y8:=kb hb y8;have x9:=kb hb x9;have y9:=kb hb y9;have x10:=kb hb x10;have y10:=kb hb y10;have x11:=kb hb x11;have y11:=kb hb y11;have x12:=kb hb x12;have y12:=kb hb y12;clear hb;go_wp2_with fail;refine(HN.o _ HB3.o).mono ?_;rintro e w3 ⟨rfl,hb⟩;have Bo:=aO (HB3.o.trans (hb.mono HB3.o.size));clear hb;go_wp2_with fail;go_ret;exact⟨rfl,HB2.o.trans (Bo.o.mono HB2.o.size)⟩
theorem QF (m:Bw)(w:World)(z1 z2:List Value)(h1:Q7 w w.heap.size z1 m)(h2:Q7 w w.heap.size z2 m):
  Calls Tryz.prog 12 #[.agg z1.toArray,.agg z2.toArray] w fun e w'=>e=.returned (.bool true)∧Below w.heap.size w w':=by
 obtain⟨A1,c1,A2,c2,xi,xd,rfl,s1,r1,s2,r2⟩:=h1.parts;obtain⟨A3,c3,A4,c4,yi,yd,rfl,s3,r3,s4,r4⟩:=h2.parts;obtain⟨W,hW⟩:∃W,(w.alloc (.cells #[.slice A1 m.imps.length c1,.slice A2 m.decls.length c2] 40)).alloc (.cells #[.slice A3 m.imps.length c3,.slice A4 m.decls.length c4] 40)=W:=⟨_,rfl⟩
 have hb2:Below w.heap.size w W:=by rw [<-hW];exact(o9 _ _).alloc (by simp) _
 have hbx:=rJ w (.cells #[.slice A1 m.imps.length c1,.slice A2 m.decls.length c2] 40) (.cells #[.slice A3 m.imps.length c3,.slice A4 m.decls.length c4] 40);rw [hW]at hbx;have HX:=aO hbx.1;have HY:=aO hbx.2;have HB2:=aO hb2;have uQ:=aO (Sl.more (Sl.below s1 hb2) hb2.size);have HS2:=aO (Sl.more (Sl.below s2 hb2) hb2.size);have Fg:=aO (Sl.more (Sl.below s3 hb2) hb2.size);have zG:=aO (Sl.more (Sl.below s4 hb2) hb2.size);have HR1:=aO (r1.imp fun _ _ h=>(h.keep hb2).more hb2.size);have HR2:=aO (r2.imp fun _ _ h=>(h.keep hb2).more hb2.size);have HR3:=aO (r3.imp fun _ _ h=>(h.keep hb2).more hb2.size);have HR4:=aO (r4.imp fun _ _ h=>(h.keep hb2).more hb2.size);have l1:=(dU s1).2;have l2:=(dU s2).2;have l3:=(dU s3).2;have l4:=(dU s4).2;obtain⟨is,his⟩:∃x,m.imps=x:=⟨_,rfl⟩
 obtain⟨ds,hds⟩:∃x,m.decls=x:=⟨_,rfl⟩
 rw [his,hds]at HX HY hW;rw [his]at uQ Fg HR1 HR3 l1 l3;rw [hds]at HS2 zG HR2 HR4 l2 l4;rw [his,hds];obtain⟨a,ha⟩:∃x,is.length=x:=⟨_,rfl⟩
 obtain⟨d,hd⟩:∃x,ds.length=x:=⟨_,rfl⟩
 rw [ha,hd]at HX HY hW;rw [ha]at uQ Fg l1 l3;rw [hd]at HS2 zG l2 l4;rw [ha,hd];have HA:=aO ha;have HD:=aO hd;clear h1 h2 s1 s2 s3 s4 r1 r2 r3 r4 hbx hb2 his hds ha hd;have hsz:w.heap.size+1<W.heap.size:=block_lt HY.o;obtain⟨x0,x1⟩:=Ez HX.o;obtain⟨y0,y1⟩:=Ez HY.o;go_enter Tryz.func12,Tryz.ntmps12;go_wp2_with fail;clear x0 x1 y0 y1;go_loopw [5] (fun v5 wr=>∃i:Nat,v5=I i∧i<=a∧Below W.heap.size W wr) (fun v5 _=>a - (intOf v5).toNat)
 case atStart=>exact⟨0,rfl,by omega,Below.refl _ _⟩
 case round=>
  obtain⟨i,rfl,hi,hbr⟩:=hrel;have Au:=aO hbr;obtain⟨x0,x1⟩:=Ez ((hbr.block _ (block_lt HX.o)).trans HX.o);obtain⟨y0,y1⟩:=Ez ((hbr.block _ (block_lt HY.o)).trans HY.o);by_cases hlt:i<a
  ·have hil:i<is.length:=by rw [HA.o];exact hlt
   obtain⟨b1,o1,A6,c6,rfl,q1,d0,d1,d2,d3⟩:=adO (Sl.more (Sl.below uQ.o hbr) hbr.size) (HR1.o.imp fun _ _ h=>(h.keep hbr).more hbr.size) hil HA.o.symm;obtain⟨b2,o2,A7,c7,rfl,q2,g0,g1,g2,g3⟩:=adO (Sl.more (Sl.below Fg.o hbr) hbr.size) (HR3.o.imp fun _ _ h=>(h.keep hbr).more hbr.size) hil HA.o.symm;have HT:=aO (fun(w1:World) (h:Below wr.heap.size wr w1)=>Jr _ _ is[i].names w1 (Ss.more (Ss.below q1 h) h.size) (Ss.more (Ss.below q2 h) h.size));have l6:=(dU q1).2;have l7:=(dU q2).2;generalize is[i].names.length=nn at*
   generalize is[i].from_=F at*
   generalize is[i].line=li at*
   generalize is[i].col=co at*
   clear q1 q2;obtain⟨U,hU⟩:∃U,wr.alloc (.cells #[sv F,.slice A6 nn c6,.int .i64 li,.int .i64 co] 74)=U:=⟨_,rfl⟩
   have hbU:Below wr.heap.size wr U:=by rw [<-hU];exact o9 _ _
   obtain⟨V,hV⟩:∃V,U.alloc (.cells #[sv F,.slice A7 nn c7,.int .i64 li,.int .i64 co] 74)=V:=⟨_,rfl⟩
   have sU:U.heap.size=wr.heap.size+1:=by rw [<-hU,World.size_alloc]
   have hbV:Below wr.heap.size wr V:=by rw [<-hV];exact hbU.alloc (by omega) _
   have hvx:V.heap[wr.heap.size]? =some (.cells #[sv F,.slice A6 nn c6,I li,I co] 74 (0,0)):=by rw [<-hV];exact ah (by rw [<-hU];exact heap_alloc_new _ _) (Turn.alloc (fun _=>False) _ _) (fun h=>h)
   have hvy:V.heap[wr.heap.size+1]? =some (.cells #[sv F,.slice A7 nn c7,I li,I co] 74 (0,0)):=by rw [<-hV,<-sU];exact heap_alloc_new _ _
   have y0:=kb hbU y0;have g0:=kb hbU g0;have g1:=kb hbU g1;have g2:=kb hbU g2;have g3:=kb hbU g3;obtain⟨p0,p1,p2,p3⟩:=Et hvx;obtain⟨r0,r1,r2,r3⟩:=Et hvy;have HBV:=aO hbV;have HBU:=aO hbU;clear hbU hvx hvy hbr;go_wp2_with fail;refine(HT.o _ HBV.o).mono ?_;rintro e w2 ⟨rfl,hb⟩;have HB3:=aO (HBV.o.trans (hb.mono HBV.o.size));have p0:=kb hb p0;have p2:=kb hb p2;have p3:=kb hb p3;have r0:=kb hb r0;have r2:=kb hb r2;have r3:=kb hb r3;clear hb hU hV;go_wp2_with fail
   go_roundw
   case rel=>exact⟨i+1,rfl,by omega,Au.o.trans (HB3.o.mono Au.o.size)⟩
   case measure=>simp [intOf];omega
  obtain rfl:i=a:=by omega
  clear hlt hbr;go_wp2_with fail;clear x0 x1 y0 y1 hi;go_loopw [9] (fun v9 wr=>∃i:Nat,v9=I i∧i<=d∧Below W.heap.size W wr) (fun v9 _=>d - (intOf v9).toNat)
  case atStart=>exact⟨0,rfl,by omega,Au.o⟩
  case round=>
  obtain⟨i,rfl,hi,hbr⟩:=hrel;have Au:=aO hbr;obtain⟨x0,x1⟩:=Ez ((hbr.block _ (block_lt HX.o)).trans HX.o);obtain⟨y0,y1⟩:=Ez ((hbr.block _ (block_lt HY.o)).trans HY.o);by_cases hlt:i<d
  ·have hil:i<ds.length:=by rw [HD.o];exact hlt
   obtain⟨b1,o1,P1,Pc1,P2,Pc2,Pk,Ps,Pn,Pl,Pc,P3,Pn3,Pc3,P4,Pn4,Pc4,P5,Pn5,Pc5,Pnd,Pmd,rfl,q1,d0,d1,d2,d3,d4,d5,d6,d7,d8,d9,d10,d11,d12,d13,d14⟩:=Vs (Sl.more (Sl.below HS2.o hbr) hbr.size) (HR2.o.imp fun _ _ h=>(h.keep hbr).more hbr.size) hil HD.o.symm;obtain⟨b2,o2,Q1,Qc1,Q2,Qc2,Qk,Qs,Qn,Ql,Qc,Q3,Qn3,Qc3,Q4,Qn4,Qc4,Q5,Qn5,Qc5,Qnd,Qmd,rfl,q2,g0,g1,g2,g3,g4,g5,g6,g7,g8,g9,g10,g11,g12,g13,g14⟩:=Vs (Sl.more (Sl.below zG.o hbr) hbr.size) (HR4.o.imp fun _ _ h=>(h.keep hbr).more hbr.size) hil HD.o.symm;have HC:=aO (fun(w1:World) (h:Below wr.heap.size wr w1)=>X5 _ w1 _ _ (q1.far (Nat.le_refl _) h) (q2.far (Nat.le_refl _) h));have D0:=aO d0;have E0:=aO g0;have D1:=aO d1;have E1:=aO g1;have D2:=aO d2;have E2:=aO g2;have D3:=aO d3;have E3:=aO g3;have D4:=aO d4;have E4:=aO g4;have D5:=aO d5;have E5:=aO g5;have D6:=aO d6;have E6:=aO g6;have D7:=aO d7;have E7:=aO g7;have D8:=aO d8;have E8:=aO g8;have D9:=aO d9;have E9:=aO g9;have D10:=aO d10;have E10:=aO g10;have D11:=aO d11;have E11:=aO g11;have D12:=aO d12;have E12:=aO g12;have D13:=aO d13;have E13:=aO g13;have D14:=aO d14;have E14:=aO g14;have X1:=aO x1;have Y1:=aO y1;have HB0:bq (Below wr.heap.size wr wr.drew):=aO (aP wr 1);generalize ds[i].vars.length=nv at*
   generalize ds[i].types.length=nt at*
   generalize ds[i].exp=ex at*
   generalize ds[i].line=dl at*
   generalize ds[i].col=dc at*
   clear q1 q2 d0 d1 d2 d3 d4 d5 d6 d7 d8 d9 d10 d11 d12 d13 d14 g0 g1 g2 g3 g4 g5 g6 g7 g8 g9 g10 g11 g12 g13 g14 hbr;go_wp2_with fail;refine wp_region_held_drew (S:=fun w'=>Below wr.heap.size wr w') (by kernel_rfl) HB0.o (fun _=>?_)
   try simp only [sp,sq]
   refine tk 0 (pP w.heap.size 1) HB0.o ?_;refine jE 1 (.slice (some ⟨b1,o1,none⟩) d c2) (JG X1.o) HB0.o ?_;refine tk 2 (I i) HB0.o ?_;refine tk 3 (pP b1 (o1+i*15)) HB0.o ?_;refine jE 4 (.agg #[sv Pnd,.bool ex,.slice P1 nv Pc1,sv Pmd,.slice P2 nt Pc2,I Pk,.string Ps,I Pn,I Pl,I Pc,.slice P3 Pn3 Pc3,.slice P4 Pn4 Pc4,.slice P5 Pn5 Pc5,I dl,I dc]) (asD D0.o D1.o D2.o D3.o D4.o D5.o D6.o D7.o D8.o D9.o D10.o D11.o D12.o D13.o D14.o) HB0.o ?_;refine tk 5 (pP (w.heap.size+1) 1) HB0.o ?_;refine jE 6 (.slice (some ⟨b2,o2,none⟩) d c4) (JG Y1.o) HB0.o ?_;refine tk 7 (I i) HB0.o ?_;refine tk 8 (pP b2 (o2+i*15)) HB0.o ?_;refine jE 9 (.agg #[sv Qnd,.bool ex,.slice Q1 nv Qc1,sv Qmd,.slice Q2 nt Qc2,I Qk,.string Qs,I Qn,I Ql,I Qc,.slice Q3 Qn3 Qc3,.slice Q4 Qn4 Qc4,.slice Q5 Qn5 Qc5,I dl,I dc]) (asD E0.o E1.o E2.o E3.o E4.o E5.o E6.o E7.o E8.o E9.o E10.o E11.o E12.o E13.o E14.o) HB0.o ?_;refine dJ 10 fun K hK=>?_;go_simp;refine(HC.o _ HB0.o).mono ?_;rintro e w2 ⟨rfl,hb⟩;have amU:=aO (HB0.o.trans (hb.mono HB0.o.size));clear hb;refine hK.out _ _ amU.o (fun _=>?_);clear hK K
   try simp only [sp,sq]
   refine tk 11 (.bool true) amU.o ?_;refine eT _ ?_;go_wp2_with fail
   go_roundw
   case rel=>exact⟨i+1,rfl,by omega,Au.o.trans (amU.o.mono Au.o.size)⟩
   case measure=>simp [intOf];omega
  ·obtain rfl:i=d:=by omega
   clear hlt hbr;go_wp2_with fail;go_ret;exact⟨rfl,HB2.o.trans (Au.o.mono HB2.o.size)⟩
theorem QN (a:ByteArray)(w:World)(ha:a.size<=281474976710656)(hX:oq w):Calls Tryz.prog 4 #[.string a] w fun e w'=>e=.returned (.bool true)∧Below w.heap.size w w':=by
 obtain⟨s,hs0,hsl⟩:∃s:Bt,Value.string a=sv s∧s.length<=281474976710656:=⟨a.data.toList,by show Value.string a=Value.string ⟨a.data.toList.toArray⟩;simp,by
  have e:a.data.toList.length=a.size:=Array.length_toList;omega⟩
 rw [hs0];clear hs0 ha;have hsz:=cO s;have HX:=aO hX;clear hX;obtain⟨D,hD⟩:∃D,(dB cK s).2=D:=⟨_,rfl⟩
 obtain⟨V,hV⟩:∃V,xJ cK s uM=V:=⟨_,rfl⟩
 have HP:=aO (fun(w1:World) (h:oq w1)=>Jc w1 s h);have HR:=aO (fun(w1:World)=>SQ w1 s);rw [hD,hV]at HP HR;clear hD hV;go_enter Tryz.func4,Tryz.ntmps4;go_wp2_with fail;refine(Tc w HX.o).mono ?_;rintro e w1 ⟨rfl,hb1⟩;by_cases h5:(70000:Int)<s.length
 ·go_wp2_with fail;go_ret;exact⟨rfl,hb1⟩
 have hp1:=HP.o w1 (HX.o.below hb1);have Ye:=aO hp1;have HB1:=aO hb1;clear HX hp1 hb1 HP;go_wp2_with fail;refine(Ye.o).mono ?_;rintro e w2 ⟨hb2,z1,rfl,hz1⟩;obtain⟨Aa1,na1,ca1,Ab1,mJ,cb1,rfl⟩:=hz1.shape';obtain⟨W2,hW2⟩:∃W2,(w2.alloc (.cells #[.slice Aa1 na1 ca1,.slice Ab1 mJ cb1] 40)).alloc (.cells #[.int .i64 0,.int .i64 D.1,.int .i64 D.2.1,.int .i64 D.2.2] 45)=W2:=⟨_,rfl⟩
 have hbw2:Below w2.heap.size w2 W2:=by rw [<-hW2];exact new2 _ _ _
 obtain⟨_,_,hx2,hd2⟩:=jk (G:=fun _=>False) (Turn.refl _ ((w2.alloc (.cells #[.slice Aa1 na1 ca1,.slice Ab1 mJ cb1] 40)).alloc (.cells #[.int .i64 0,.int .i64 D.1,.int .i64 D.2.1,.int .i64 D.2.2] 45)));rw [hW2]at hx2 hd2;have ash:W2.heap.size=w2.heap.size+2:=by rw [<-hW2];simp
 have HB2:=aO (HB1.o.trans ((hb2.trans (hbw2.mono hb2.size)).mono HB1.o.size));have Vh:=aO (hx2 id);have HD2:=aO (hd2 id);have HZ1:=aO (fun(w':World) (h:Below W2.heap.size W2 w')=>(hz1.turn (Turn.of_below (F:=fun _=>False) (hbw2.trans (h.mono hbw2.size))) (fun _ _ _=>id)).all);have HR2:=aO (HR.o W2);have HW2:=aO hW2;clear hb2 hz1 hbw2 hx2 hd2 hW2 Ye HR;rw [show xZ D=.agg #[I 0,I D.1,I D.2.1,I D.2.2]from rfl];go_wp2_with fail;rw [HW2.o];refine(HR2.o).mono ?_;rintro e w3 ⟨hb3,z2,rfl,hz2⟩;obtain⟨Aa2,na2,ca2,Ab2,mK,cb2,rfl⟩:=hz2.shape';have hs3:=hb3.size;obtain⟨W3,hW3⟩:∃W3,(w3.alloc (.cells #[.slice Aa2 na2 ca2,.slice Ab2 mK cb2] 40)).alloc (.cells #[.int .i64 0,.int .i64 D.1,.int .i64 D.2.1,.int .i64 D.2.2] 45)=W3:=⟨_,rfl⟩
 have wD:Below w3.heap.size w3 W3:=by rw [<-hW3];exact new2 _ _ _
 obtain⟨_,_,hx3,hd3⟩:=jk (G:=fun _=>False) (Turn.refl _ ((w3.alloc (.cells #[.slice Aa2 na2 ca2,.slice Ab2 mK cb2] 40)).alloc (.cells #[.int .i64 0,.int .i64 D.1,.int .i64 D.2.1,.int .i64 D.2.2] 45)));rw [hW3]at hx3 hd3;have axS:W3.heap.size=w3.heap.size+2:=by rw [<-hW3];simp
 have oP:Below W2.heap.size W2 W3:=hb3.trans (wD.mono hs3);have HB3:=aO (HB2.o.trans (oP.mono HB2.o.size));have QB:=aO oP;have HX3:=aO (hx3 id);have HD3:=aO (hd3 id);have axZ:=aO ((oP.block (w2.heap.size+1) (by omega)).trans HD2.o);have HZ2:=aO (fun(w':World) (h:Below W3.heap.size W3 w')=>(hz2.turn (Turn.of_below (F:=fun _=>False) (wD.trans (h.mono wD.size))) (fun _ _ _=>id)).all);have HW3:=aO hW3;have asH:=(hb3.block w2.heap.size (by omega)).trans Vh.o;obtain⟨g0,g1,gz⟩:=l8 asH;have gl:w2.heap.size<w3.heap.size:=by omega
 have gl2:w2.heap.size<w3.heap.size+1:=by omega
 have gl3:w2.heap.size<w3.heap.size+1+1:=by omega
 clear hb3 hz2 wD hx3 hd3 oP hW3 asH HR2 Vh;rw [show xZ D=.agg #[I 0,I D.1,I D.2.1,I D.2.2]from rfl];have HBE:=aO HB3.o;have HDA:=aO axZ.o;have nJ:=aO HD3.o;have hc:=QF V W3 _ _ (HZ1.o W3 QB.o) (HZ2.o W3 (Below.refl _ _));rw [<-HW3.o]at hc;have HC:=aO hc;clear hc HZ1 HZ2;go_wp2_with fail;refine HC.o.mono ?_;rintro e w7 ⟨rfl,hb⟩;rw [HW3.o]at hb;have JJ:=aO (HBE.o.trans (hb.mono HBE.o.size));obtain⟨d0,d1,d2,d3,dz⟩:=aW ((hb.block _ (block_lt HDA.o)).trans HDA.o);obtain⟨e0,e1,e2,e3,ez⟩:=aW ((hb.block _ (block_lt nJ.o)).trans nJ.o);have hsame:=fun u:World=>XZ D u;clear hb g0 g1 gz gl gl2 gl3;go_wp2_with fail;go_ret;exact⟨rfl,JJ.o⟩
end Go.Proofs.YtncnnedlgofccaaGreatDoor
