/- YW, ZG, YK, YS, YT, HRO -/
import Derived.Test.YtfgjkmipfikooaaGreatDoorEB09
set_option linter.unusedSimpArgs false
set_option linter.unusedVariables false
set_option maxRecDepth 100000
set_option maxHeartbeats 8000000
namespace Go.Proofs.YtfgjkmipfikooaaGreatDoor
open Go.RowKit
theorem QZ {w:World}{F:Nat->Prop}{A:Option Addr}{n c:Nat}{xk:List Value}{ks:List bF}(h2:eD w F 8 (.slice A n c) xk)(hr:jL w F xk ks){i:Nat}(hi:i<ks.length)(hn:n=ks.length):
  ∃b o k s v2 v3 v4 A1 n1 c1 A2 n2 c2 A3 n3 c3,A=some ⟨b,o,none⟩∧mX w F [.int .i64 k,.string s,.int .i64 v2,.int .i64 v3,.int .i64 v4,.slice A1 n1 c1,.slice A2 n2 c2,.slice A3 n3 c3] ks[i]∧
   w.cell? ⟨b,o+i*8,none⟩=some (.int .i64 k)∧w.cell? ⟨b,o+i*8+1,none⟩=some (.string s)∧w.cell? ⟨b,o+i*8+2,none⟩=some (.int .i64 v2)∧w.cell? ⟨b,o+i*8+3,none⟩=some (.int .i64 v3)∧w.cell? ⟨b,o+i*8+4,none⟩=some (.int .i64 v4)∧
   w.cell? ⟨b,o+i*8+5,none⟩=some (.slice A1 n1 c1)∧w.cell? ⟨b,o+i*8+6,none⟩=some (.slice A2 n2 c2)∧w.cell? ⟨b,o+i*8+7,none⟩=some (.slice A3 n3 c3):=by
 subst hn;obtain⟨b1,o1,rfl,hb1,hc1⟩:=uT h2.all hi (by omega);have hr1:=hr.at i hi;obtain⟨kk,s,v2,v3,v4,A1,n1,c1,A2,n2,c2,A3,n3,c3,hv1⟩:=hr1.all.shape;rw [hv1]at hr1;refine⟨b1,o1,kk,s,v2,v3,v4,A1,n1,c1,A2,n2,c2,A3,n3,c3,rfl,hr1,?_,?_,?_,?_,?_,?_,?_,?_⟩
 ·have:=hc1 0 _ (iD hv1 (by omega:0<8));simpa using this
 ·have:=hc1 1 _ (iD hv1 (by omega:1<8));simpa [Nat.add_assoc]using this
 ·have:=hc1 2 _ (iD hv1 (by omega:2<8));simpa [Nat.add_assoc]using this
 ·have:=hc1 3 _ (iD hv1 (by omega:3<8));simpa [Nat.add_assoc]using this
 ·have:=hc1 4 _ (iD hv1 (by omega:4<8));simpa [Nat.add_assoc]using this
 ·have:=hc1 5 _ (iD hv1 (by omega:5<8));simpa [Nat.add_assoc]using this
 ·have:=hc1 6 _ (iD hv1 (by omega:6<8));simpa [Nat.add_assoc]using this
 ·have:=hc1 7 _ (iD hv1 (by omega:7<8));simpa [Nat.add_assoc]using this
def But (F:Nat->Prop)(base:Nat)(v:Value):Nat->Prop:=fun j=>v.ownBlock≠some j∧(F j∨base<=j)
theorem Oh {F:Nat->Prop}{base n:Nat}{wr w6 w7:World}{v v7:Value}{e:TypeId}{ys z2:List Value}{l:List bF}{x:bF}{o:Obj}(hF:∀j,F j->j<base)(hys:jL wr (But F base v) ys l)(hown:wr.ownsRow base e 8 v n ys)(hbase:base<=wr.heap.size)(hb:Below wr.heap.size wr w6)
  (hz:mX w6 (fun j=>F j∨wr.heap.size<=j) z2 x) (hg:(w6.alloc o).grownBy w7 v.ownBlock) (hbk:v7.ownBlock=v.ownBlock∨v7.ownBlock=some (w6.alloc o).heap.size):jL w7 (But F base v7) (ys++z2) (l++[x]):=by
 have hlt:=hown.lt;have hs6:=hb.size;have t7:Turn (fun j=>v.ownBlock=some j) w6 w7:=((Turn.alloc (fun j=>v.ownBlock=some j) w6 o)).trans (Turn.bP hg (fun k h=>h)) (fun _ _ h=>h);have h1:jL wr (fun j=>j<wr.heap.size∧But F base v j) ys l:=hys.mono fun j hj h=>⟨hj,h⟩
 have h2:jL w7 (fun j=>j<wr.heap.size∧But F base v j) ys l:=(h1.turn (Turn.of_below (F:=fun _=>False) hb) (fun _ _ _ h=>h)).turn t7 (fun j _ h e=>h.2.1 e);have h3:mX w6 (fun j=>j<w6.heap.size∧(F j∨wr.heap.size<=j)) z2 x:=hz.mono fun j hj h=>⟨hj,h⟩
 have h4:mX w7 (fun j=>j<w6.heap.size∧(F j∨wr.heap.size<=j)) z2 x:=h3.turn t7 (fun j _ h e=>by
  have:=hlt j e;rcases h.2 with h |h
  ·have:=hF j h;omega
  ·omega)
 have sa:(w6.alloc o).heap.size=w6.heap.size+1:=by simp
 have hA:mX w7 (But F base v7) z2 x:=h4.mono fun j _ h=>⟨fun e=>by
   rcases hbk with hk |hk
   ·rw [hk]at e;have:=hlt j e;rcases h.2 with h |h
    ·have:=hF j h;omega
    ·omega
   ·rw [hk,sa]at e;injection e with e;have:=h.1;omega,by
   rcases h.2 with h |h
   ·exact .inl h
   ·exact .inr (by omega)⟩
 have hB:jL w7 (But F base v7) ys l:=h2.mono fun j _ h=>⟨fun e=>by
   rcases hbk with hk |hk
   ·rw [hk]at e;exact h.2.1 e
   ·rw [hk,sa]at e;injection e with e;have:=h.1;omega,h.2.2⟩
 exact jL.snoc hA hB
def FW (x:bF):Prop:=∀(w:World) (z:List Value) (F:Nat->Prop),mX w F z x->(∀j,F j->j<w.heap.size)->gT x<=300000->
 Calls Tryz.prog 58 #[.agg z.toArray] w fun e w'=>∃z',e=.returned (.agg z'.toArray)∧mX w' (fun j=>F j∨w.heap.size<=j) z' (fE x)∧Below w.heap.size w w'
theorem Kz (k:Int)(text:Bt)(n line col:Int)(ts:List bC)(ns:List Bt)(ks:List bF)(H:∀t∈ks,FW t):FW (.mk k text n line col ts ns ks):=by
 intro w z F h1 hF hc;obtain⟨A1,c1,A2,c2,A3,c3,xt,xk,rfl,s1,r1,s2,s3,r3⟩:=h1.parts;obtain⟨W,hW⟩:∃W,(w.alloc (.cells #[.int .i64 k,sv text,.int .i64 n,.int .i64 line,.int .i64 col,.slice A1 ts.length c1,.slice A2 ns.length c2,.slice A3 ks.length c3] 52)).alloc (.cells #[.int .i64 0,.string ⟨#[]⟩,.int .i64 0,.int .i64 0,.int .i64 0,.slice none 0 0,.slice none 0 0,.slice none 0 0] 52)=W:=⟨_,rfl⟩
 have hb2:Below w.heap.size w W:=by rw [<-hW];exact((Below.refl _ _).alloc (Nat.le_refl _) _).alloc (by simp) _
 have hbx:=kP w (.cells #[.int .i64 k,sv text,.int .i64 n,.int .i64 line,.int .i64 col,.slice A1 ts.length c1,.slice A2 ns.length c2,.slice A3 ks.length c3] 52) (.cells #[.int .i64 0,.string ⟨#[]⟩,.int .i64 0,.int .i64 0,.int .i64 0,.slice none 0 0,.slice none 0 0,.slice none 0 0] 52);rw [hW]at hbx;have sW:W.heap.size=w.heap.size+2:=by rw [<-hW];simp
 have hkl:=vg ks;rw [gT]at hc;obtain⟨m,hm⟩:∃m,ks.length=m:=⟨_,rfl⟩
 rw [hm]at hbx hW hkl s3;have HM:=aZ hm;have hmb:m<=300000:=by omega
 obtain⟨W4,JU⟩:∃W4,(W.setCell ⟨w.heap.size,3,none⟩ (.int .i64 0)).setCell ⟨w.heap.size,4,none⟩ (.int .i64 0)=W4:=⟨_,rfl⟩
 have hx4:W4.heap[w.heap.size]? =some (.cells #[.int .i64 k,sv text,.int .i64 n,.int .i64 0,.int .i64 0,.slice A1 ts.length c1,.slice A2 ns.length c2,.slice A3 m c3] 52 (0,0)):=by
  rw [<-JU];exact heap_setCell_same _ _ 4 _ _ _ (heap_setCell_same _ _ 3 _ _ _ hbx.1)
 have t34:Turn (fun j=>j=w.heap.size) W W4:=by
  rw [<-JU];exact(ak _ _ _ _).trans (ak _ _ _ _) (fun _ _ h=>h)
 have sW4:W4.heap.size=w.heap.size+2:=by rw [<-JU];simp [sW]
 have hy4:=(t34.block (block_lt hbx.2) (by omega)).trans hbx.2;have hw4:Below w.heap.size w W4:=hb2.trans (t34.below (by omega) (fun j hj=>by omega));obtain⟨x0,x1,x2,x3,x4,x5,x6,x7⟩:=gN hbx.1;have z0:∀i,W.frozen? ⟨w.heap.size,i,none⟩=false:=fun i=>frozen_of_row _ _ _ _ _ hbx.1;have Yz:Turn (fun _=>False) w W4:=Turn.of_below hw4;have rz:=aZ (s1.turn Yz (fun _ _ _ h=>h));have HR1:=aZ (r1.turn Yz (fun _ _ _ h=>h));have HS2:=aZ (s2.turn Yz (fun _ _ _ h=>h));have Ef:=aZ (s3.turn Yz (fun _ _ _ h=>h));have HR3:=aZ (r3.turn Yz (fun _ _ _ h=>h));have l3:=(bN s3.all).2;have HH:=aZ H;have HF:bR (∀j,F j->j<W4.heap.size):=aZ (fun j h=>by have:=hF j h;omega);have HFw:=aZ hF;have HC:=aZ hc;have CS:=aZ hx4;have HY4:=aZ hy4;have Vm:=aZ hw4;rw [hm];clear h1 s1 s2 s3 r1 r3 hbx hb2 H hF hc hx4 hy4 t34 hw4 Yz hm;go_enter Tryz.func58,Tryz.ntmps58;go_wp2_with fail;clear x0 x1 x2 x3 x4 x5 x6 x7 z0 hW;go_loopw [3,4] (fun v3 v4 wr=>∃(i:Nat) (ys:List Value),v4=.int .i64 i∧i<=m∧wr.ownsRow W4.heap.size 52 8 v3 i ys∧jL wr (But F W4.heap.size v3) ys (aP (ks.take i))∧Below W4.heap.size W4 wr) (fun _ v4 _=>m - (intOf v4).toNat)
 case atStart=>exact⟨0,[],rfl,by omega,World.ownsRow_nil _ _ _ _,.nil,Below.refl _ _⟩
 case round=>
  obtain⟨i,ys,rfl,hi,hown,hys,hbr⟩:=hrel;have hwl:=hbr.size;have hx5:=(hbr.block _ (block_lt CS.o)).trans CS.o;have x7:=(gN hx5).2.2.2.2.2.2.2;by_cases hlt:i<m
  ·have hil:i<ks.length:=by rw [HM.o];exact hlt
   obtain⟨b1,o1,k1,s1,a1,a2,a3,P1,m1,e1,P2,m2,e2,P3,m3,e3,rfl,hz,d0,d1,d2,d3,d4,d5,d6,d7⟩:=QZ (Ef.o.below hbr) (HR3.o.Wd hbr) hil HM.o.symm;have Y9:=aZ (HH.o _ (List.getElem_mem hil) wr _ F hz (fun j hj=>by have:=HFw.o j hj;omega) (by have:=uF (List.getElem_mem hil);have:=HC.o;omega));have hST:bR (aP (ks.take (i+1))=aP (ks.take i)++[fE ks[i]]):=aZ (by rw [List.take_succ_eq_append_getElem hil,sj,sj,List.map_append];rfl);have HOW:=aZ hown;have Vn:=aZ hys;have lY:=aZ hbr;clear hown hys hbr hz hx5;go_wp2_with fail;refine Y9.o.mono ?_;rintro e w6 ⟨z2,rfl,hz2,hb⟩;obtain⟨k2,s2,a4,a5,a6,P4,m4,e4,P5,m5,e5,P6,m6,e6,rfl⟩:=hz2.all.shape;have HZ2:=aZ hz2;have HB:=aZ hb;have HO6:=aZ (own_below HOW.o hb);have hxl:=HOW.o.1;have hb6:=hb.size;clear hz2 hb;go_wp2_with (at_builtin;go_must (refine jh rfl (.tmp 14) (.tmp 21) _ rfl W4.heap.size TB _ _ rfl rfl (HO6.o.alloc _) (iB w6 #[.int .i64 k2,.string s2,.int .i64 a4,.int .i64 a5,.int .i64 a6,.slice P4 m4 e4,.slice P5 m5 e5,.slice P6 m6 e6] 52 8 1 rfl (by decide)) (WG HZ2.o) (by unfold maxLen;simp;omega) (by simp;omega) (iZ (by omega) _) (fun v7 w7 n7' aQ ji gq=>?_));obtain⟨Ax,nx,cx,rfl⟩:=mH aQ;have Tm:=aZ aQ;have HN7:=aZ (Oh HF.o Vn.o HOW.o (by omega) HB.o HZ2.o ji gq);have Bd:=aZ (below_app (((lY.o.trans (HB.o.mono lY.o.size))).alloc (by omega) _) (HO6.o.alloc _) ji (Nat.le_refl _) (iZ (by omega) _));clear aQ ji gq)
   go_roundw
   case rel=>
    obtain rfl:n7'=i+1:=by have h:=Tm.o.1;rw [List.length_append,hxl]at h;simp at h;omega
    exact⟨i+1,_,rfl,by omega,Tm.o,by rw [hST.o];exact HN7.o,Bd.o⟩
   case measure=>simp [intOf];omega
  ·obtain rfl:i=m:=by omega
   obtain⟨A9,c9,g,rfl,Yy,hm9,hbg,hA9,hrg,_⟩:=Oe hown (by omega);have YA:=(hbr.block _ (block_lt HY4.o)).trans HY4.o;obtain⟨x0,x1,x2,x3,x4,x5,x6,_⟩:=gN hx5;obtain⟨y0,y1,y2,y3,y4,y5,y6,y7⟩:=gN YA;have z0:∀j,wr.frozen? ⟨w.heap.size,j,none⟩=false:=fun j=>frozen_of_row _ _ _ _ _ hx5;have z1:∀j,wr.frozen? ⟨w.heap.size+1,j,none⟩=false:=fun j=>frozen_of_row _ _ _ _ _ YA;have af8:=Vm.o.size;rw [List.take_of_length_le (by rw [HM.o];omega)]at hys;have Vn:=aZ hys;have HRG:=aZ hrg;have lY:=aZ hbr;have HY5:=aZ YA;obtain⟨V,hV⟩:∃V,wr.setCell ⟨w.heap.size,7,none⟩ (.slice A9 i c9)=V:=⟨_,rfl⟩
   have tv:Turn (fun j=>j=w.heap.size) wr V:=by rw [<-hV];exact ak _ _ _ _
   have hx6:V.heap[w.heap.size]? =some (.cells #[.int .i64 k,sv text,.int .i64 n,.int .i64 0,.int .i64 0,.slice A1 ts.length c1,.slice A2 ns.length c2,.slice A9 i c9] 52 (0,0)):=by rw [<-hV];exact heap_setCell_same _ _ 7 _ _ _ hx5
   have hy6:=(tv.block (block_lt YA) (by omega)).trans YA;clear x0 x1 x2 x3 x4 x5 x6 y0 y1 y2 y3 y4 y5 y6 y7 z1;obtain⟨x0,x1,x2,x3,x4,x5,x6,x8⟩:=gN hx6;obtain⟨y0,y1,y2,y3,y4,y5,y6,y7⟩:=gN hy6;have z1:∀j,V.frozen? ⟨w.heap.size+1,j,none⟩=false:=fun j=>frozen_of_row _ _ _ _ _ hy6;have HY6:=aZ hy6;have HTV:=aZ tv;have hvs:=tv.size;clear hys hrg hbr YA hy6 hx5 hx6 tv;go_wp2_with fail;have ec:=heap_setCell_same _ _ 7 _ _ (.slice A9 i c9) (heap_setCell_same _ _ 6 _ _ (.slice A2 ns.length c2) (heap_setCell_same _ _ 5 _ _ (.slice A1 ts.length c1) (heap_setCell_same _ _ 4 _ _ (.int .i64 0) (heap_setCell_same _ _ 3 _ _ (.int .i64 0) (heap_setCell_same _ _ 2 _ _ (.int .i64 n) (heap_setCell_same _ _ 1 _ _ (sv text) (heap_setCell_same _ _ 0 _ _ (.int .i64 k) HY6.o)))))));have tc:=(ak V (w.heap.size+1) 0 (.int .i64 k)).trans ((ak _ (w.heap.size+1) 1 (sv text)).trans ((ak _ (w.heap.size+1) 2 (.int .i64 n)).trans ((ak _ (w.heap.size+1) 3 (.int .i64 0)).trans ((ak _ (w.heap.size+1) 4 (.int .i64 0)).trans ((ak _ (w.heap.size+1) 5 (.slice A1 ts.length c1)).trans ((ak _ (w.heap.size+1) 6 (.slice A2 ns.length c2)).trans (ak _ (w.heap.size+1) 7 (.slice A9 i c9)) (fun _ _ h=>h)) (fun _ _ h=>h)) (fun _ _ h=>h)) (fun _ _ h=>h)) (fun _ _ h=>h)) (fun _ _ h=>h)) (fun _ _ h=>h);refine bodyPost_ret (bD rfl rfl ec Tryz.underlying52 rfl (by kernel_rfl)) rfl ?_;clear ec;generalize hw9:((((((((V.setCell _ _).setCell _ _).setCell _ _).setCell _ _).setCell _ _).setCell _ _).setCell _ _).setCell _ _)=w9 at tc ⊢;have tcs:=tc.size;have sF:Turn (fun j=>j=w.heap.size∨j=w.heap.size+1) wr w9:=(HTV.o.mono (fun _ _ h=>.inl h)).trans tc (fun _ _ h=>.inr h);have hwf:Below w.heap.size W4 w9:=(lY.o.mono (by omega)).trans (sF.below (by omega) (fun j hj e=>by omega))
   refine⟨[.int .i64 k,sv text,.int .i64 n,.int .i64 0,.int .i64 0,.slice A1 ts.length c1,.slice A2 ns.length c2,.slice A9 i c9],rfl,?_,Vm.o.trans hwf⟩;have tf:Turn (fun j=>w.heap.size<=j) W4 w9:=⟨hwf.os,hwf.tape,hwf.output,hwf.size,fun j hj h=>hwf.block j (by omega)⟩
   have hsub:∀j,j<w9.heap.size->F j->F j∨w.heap.size<=j:=fun _ _ h=>.inl h;have WO:∀j,j<W4.heap.size->F j->¬w.heap.size<=j:=fun j _ h=>by have:=HFw.o j h;omega
   show mX w9 (fun j=>F j∨w.heap.size<=j) _ (.mk k text n 0 0 ts ns (aP ks));refine .mk ((rz.o.turn tf WO).mono hsub) ((HR1.o.turn tf WO).mono hsub) ((HS2.o.turn tf WO).mono hsub) (xk:=ys) ?_ ?_
   ·refine⟨A9,i,c9,rfl,?_,Yy,hm9,fun h0=>⟨g,0,(hA9 h0).1,.inr (by omega),by have:=(hA9 h0).2;omega,Kt HRG.o sF (by omega)⟩⟩;rw [Vn.o.all.length,sj,List.length_map,HM.o]
   ·exact(Vn.o.turn sF (fun j _ h e=>by
     rcases h.2 with h2 |h2
     ·have:=HFw.o j h2;omega
     ·omega)).mono fun j _ h=>by
      rcases h.2 with h2 |h2
      ·exact .inl h2
      ·exact .inr (by omega)
theorem Oi (t:bF):FW t:=by
 have h:∀(n:Nat) (t:bF),SizeOf.sizeOf t<=n->FW t:=by
  intro n;induction n with
  |zero=>intro t ht;cases t;simp at ht
  |succ n ih=>
   intro t ht;obtain⟨k,text,n1,line,col,ts,ns,ks⟩:=t;refine Kz k text n1 line col ts ns ks fun x hx=>ih x ?_;have:=List.sizeOf_lt_of_mem hx;simp at ht;omega
 exact h _ t (Nat.le_refl _)
def O7 (w wr:World)(G:Nat->Prop)(z:List Value)(d:nV):Prop:=
 ∃vv xv vt xt y,z=[sv d.name,.bool d.exp,vv,sv d.param,vt]++(y++[.int .i64 d.line,.int .i64 d.col])∧Sl w w.heap.size 5 vv xv∧dH (JO w w.heap.size) 5 xv d.vars∧Sl w w.heap.size 4 vt xt∧jo w w.heap.size xt d.types∧mX wr G y d.body
theorem O7.turn {w wr wr':World}{z:List Value}{d:nV}{F G:Nat->Prop}(h:O7 w wr F z d)(t:Turn G wr wr')(hd:∀j,j<wr.heap.size->F j->¬G j):O7 w wr' F z d:=by
 obtain⟨vv,xv,vt,xt,y,e,h1,h2,h3,h4,h5⟩:=h;exact⟨vv,xv,vt,xt,y,e,h1,h2,h3,h4,h5.turn t hd⟩
theorem O7.mono {w wr:World}{z:List Value}{d:nV}{F G:Nat->Prop}(h:O7 w wr F z d)(hF:∀j,j<wr.heap.size->F j->G j):O7 w wr G z d:=by
 obtain⟨vv,xv,vt,xt,y,e,h1,h2,h3,h4,h5⟩:=h;exact⟨vv,xv,vt,xt,y,e,h1,h2,h3,h4,h5.mono hF⟩
theorem O7.de {w wr:World}{z:List Value}{d:nV}{G:Nat->Prop}(h:O7 w wr G z d)(hb:Below w.heap.size w wr):Bw wr wr.heap.size z d:=by
 obtain⟨vv,xv,vt,xt,y,e,h1,h2,h3,h4,h5⟩:=h;exact⟨vv,xv,vt,xt,y,e,Sl.more (Sl.below h1 hb) hb.size,h2.imp fun _ _ h=>(h.keep hb).more hb.size,Sl.more (Sl.below h3 hb) hb.size,h4.far (Nat.le_refl _) hb,h5.all⟩
theorem Q0 {w wr w2 V7 w8:World}{base b3 n bd:Nat}{v v7:Value}{e:TypeId}{ys z2:List Value}{vv vt:Value}{xv xt:List Value}{l:List nV}{d:nV}(hwb:w.heap.size<=b3)(hb3:b3<base)(hys:dH (O7 w wr (But (· <w.heap.size) base v)) 15 ys l)(hown:wr.ownsRow base e 15 v n ys)(hbase:base<=wr.heap.size)
  (hbd:bd=wr.heap.size) (h2:Turn (fun _=>False) wr w2) (hs2:bd<w2.heap.size) (hz:mX w2 (fun j=>j<w.heap.size∨bd<j) z2 d.body) (t8:Turn (fun j=>j=bd∨v.ownBlock=some j∨j=b3) w2 w8) (hV:w2.heap.size<=V7.heap.size) (hbk:v7.ownBlock=v.ownBlock∨v7.ownBlock=some V7.heap.size)
  (s1:Sl w w.heap.size 5 vv xv) (s2:dH (JO w w.heap.size) 5 xv d.vars) (s3:Sl w w.heap.size 4 vt xt) (s4:jo w w.heap.size xt d.types) {z:List Value}(hzz:z=[sv d.name,.bool d.exp,vv,sv d.param,vt]++(z2++[.int .i64 d.line,.int .i64 d.col])):
  dH (O7 w w8 (But (· <w.heap.size) base v7)) 15 (ys++z) (l++[d]):=by
 have hlt:=hown.lt;have sz:=h2.size;refine dH.app (Il ?_ ?_) (hys.imp fun _ _ h=>?_)
 ·rw [hzz];have:=hz.all.len;simp only [List.length_append,List.length_cons,List.length_nil];omega
 ·refine⟨vv,xv,vt,xt,z2,hzz,s1,s2,s3,s4,?_⟩;have h3:mX w2 (fun j=>j<w2.heap.size∧(j<w.heap.size∨bd<j)) z2 d.body:=hz.mono fun j hj h=>⟨hj,h⟩
  refine(h3.turn t8 (fun j _ h e=>?_)).mono fun j _ h=>⟨fun e=>?_,by rcases h.2 with h |h;exact .inl h;exact .inr (by omega)⟩
  ·rcases e with e |e |e
   ·rcases h.2 with h |h <;> omega
   ·have:=hlt j e;rcases h.2 with h |h <;> omega
   ·rcases h.2 with h |h <;> omega
  ·rcases hbk with hk |hk
   ·rw [hk]at e;have:=hlt j e;rcases h.2 with h |h <;> omega
   ·rw [hk]at e;injection e with e;omega
 ·have h1:O7 w wr (fun j=>j<wr.heap.size∧But (· <w.heap.size) base v j) _ _:=h.mono fun j hj h=>⟨hj,h⟩
  refine((h1.turn h2 (fun _ _ _ h=>h)).turn t8 (fun j _ h e=>?_)).mono fun j _ h=>⟨fun e=>?_,h.2.2⟩
  ·rcases e with e |e |e
   ·omega
   ·exact h.2.1 e
   ·rcases h.2.2 with h |h <;> omega
  ·rcases hbk with hk |hk
   ·rw [hk]at e;exact h.2.1 e
   ·rw [hk]at e;injection e with e;omega
theorem Q6 (a b c d:Value)(ha:a.oneCell'=true)(hb:b.oneCell'=true)(hc:c.oneCell'=true)(hd:d.oneCell'=true):∀u∈ #[a,b,c,d].toList,u.oneCell'=true:=by
 intro u hu;simp only [List.mem_cons,List.not_mem_nil,or_false]at hu;rcases hu with rfl |rfl |rfl |rfl <;> assumption
theorem CU (m:yS)(w:World)(z:List Value)(h1:Gr w w.heap.size z m)(hni:m.imps.length<=300000)(hnd:m.decls.length<=300000)(hbo:∀d∈m.decls,gT d.body<=300000):
  Calls Tryz.prog 27 #[.agg z.toArray] w fun e w'=>∃z',e=.returned (.agg z'.toArray)∧Gr w' w'.heap.size z' (zP m)∧Below w.heap.size w w':=by
 obtain⟨A1,c1,A2,c2,xi,xd,rfl,s1,r1,s2,r2⟩:=h1.parts;obtain⟨W,hW⟩:∃W,((w.alloc (.cells #[.slice A1 m.imps.length c1,.slice A2 m.decls.length c2] 40)).alloc (.cells #[.slice none 0 0,.slice none 0 0] 40)).alloc (.cells #[.slice none 0 0,.slice none 0 0] 40)=W:=⟨_,rfl⟩
 have hb3:Below w.heap.size w W:=by rw [<-hW];exact(((Below.refl _ _).alloc (Nat.le_refl _) _).alloc (by simp) _).alloc (by simp;omega) _
 have sW:W.heap.size=w.heap.size+3:=by rw [<-hW];simp
 have hbx:W.heap[w.heap.size]? =some (.cells #[.slice A1 m.imps.length c1,.slice A2 m.decls.length c2] 40 (0,0)):=by
  rw [<-hW];exact ah (kP w _ _).1 (Turn.alloc (fun _=>False) _ _) id
 have hby:W.heap[w.heap.size+1]? =some (.cells #[.slice none 0 0,.slice none 0 0] 40 (0,0)):=by
  rw [<-hW];exact ah (kP w _ _).2 (Turn.alloc (fun _=>False) _ _) id
 have zf:W.heap[w.heap.size+2]? =some (.cells #[.slice none 0 0,.slice none 0 0] 40 (0,0)):=by
  rw [<-hW];have:=heap_alloc_new ((w.alloc (.cells #[.slice A1 m.imps.length c1,.slice A2 m.decls.length c2] 40)).alloc (.cells #[.slice none 0 0,.slice none 0 0] 40)) (.cells #[.slice none 0 0,.slice none 0 0] 40);have hs:((w.alloc (.cells #[.slice A1 m.imps.length c1,.slice A2 m.decls.length c2] 40)).alloc (.cells #[.slice none 0 0,.slice none 0 0] 40)).heap.size=w.heap.size+2:=by simp
  rwa [hs]at this
 have HX:=aZ hbx;have HY:=aZ hby;have HO:=aZ zf;have HW:=aZ hb3;have HR1:=aZ r1;have HR2:=aZ r2;have rz:=aZ s1;have HS2:=aZ s2;have HBO:=aZ hbo;have l1:=(bN s1).2;have l2:=(bN s2).2;clear h1 s1 s2 r1 r2 hbx hby zf hb3 hbo;obtain⟨ni,Uj⟩:∃x,m.imps.length=x:=⟨_,rfl⟩
 obtain⟨nd,Uk⟩:∃x,m.decls.length=x:=⟨_,rfl⟩
 rw [Uj]at hW HX hni l1 rz;rw [Uk]at hW HX hnd l2 HS2;rw [Uj,Uk];have HNI:=aZ Uj;have HND:=aZ Uk;have uW:=aZ hW;clear Uj Uk hW;go_enter Tryz.func27,Tryz.ntmps27;go_wp2_with fail;rw [uW.o];clear uW;go_loopw [4] (fun v4 wr=>∃(i:Nat) (v:Value) (ys:List Value),v4=.int .i64 i∧i<=ni∧wr.heap[w.heap.size+1+1]? =some (.cells #[v,.slice none 0 0] 40 (0,0))∧wr.ownsRow W.heap.size 85 4 v i ys∧dH (Nk w w.heap.size) 4 ys ((m.imps.take i).map Pv)∧Turn (fun k=>k=w.heap.size+1+1) W wr) (fun v4 _=>ni - (intOf v4).toNat)
 case atStart=>exact⟨0,_,[],rfl,by omega,HO.o,World.ownsRow_nil _ _ _ _,.nil,Turn.refl _ _⟩
 case round=>
  obtain⟨i,v,ys,rfl,hi,zf,hown,hys,htu⟩:=hrel;have hbx:=(htu.block (block_lt HX.o) (by omega)).trans HX.o;obtain⟨x0,x1⟩:=lJ hbx;have stz:=htu.size;have O6:bR (Below w.heap.size w wr):=aZ (HW.o.trans (htu.below HW.o.size (fun k hk h=>by omega)));by_cases hlt:i<ni
  ·have hil:i<m.imps.length:=by rw [HNI.o];exact hlt
   obtain⟨b,o,B1,e1,rfl,hss,d0,d1,d2,d3⟩:=Ku rz.o HR1.o hil HNI.o.symm;have d0:=O6.o.cell (p:=⟨b,o+i*4,none⟩) (World.block_lt_of_cell? w _ d0) |>.trans d0;have d1:=O6.o.cell (p:=⟨b,o+i*4+1,none⟩) (World.block_lt_of_cell? w _ d1) |>.trans d1;have d2:=O6.o.cell (p:=⟨b,o+i*4+2,none⟩) (World.block_lt_of_cell? w _ d2) |>.trans d2;have d3:=O6.o.cell (p:=⟨b,o+i*4+3,none⟩) (World.block_lt_of_cell? w _ d3) |>.trans d3;obtain⟨Av,nv,cv,rfl⟩:=mH hown;have y0:∀o,(wr.alloc o).cell? ⟨w.heap.size+1+1,0,none⟩=some (.slice Av nv cv):=fun o=>(lJ (ah zf (Turn.alloc (fun _=>False) wr o) id)).1;have hol:=hown.lt;have hxl:=hown.1;have Gt:=aZ hss;have HB3:=aZ zf;have HOWN:=aZ hown;have Vn:=aZ hys;have Q7:=aZ htu;obtain⟨X,hX⟩:∃X:Obj,X=.cells #[sv m.imps[i].from_,.slice B1 m.imps[i].names.length e1,.int .i64 0,.int .i64 0] 85:=⟨_,rfl⟩
   have TU:bR (Turn (fun k=>(Value.slice Av nv cv).ownBlock=some k) wr ((wr.alloc X).alloc X)):=aZ ((Turn.alloc _ _ _).trans (Turn.alloc _ _ _) (fun _ _ h=>h));subst hX;have hsn:=iB (wr.alloc (.cells #[sv m.imps[i].from_,.slice B1 m.imps[i].names.length e1,.int .i64 0,.int .i64 0] 85)) #[sv m.imps[i].from_,.slice B1 m.imps[i].names.length e1,.int .i64 0,.int .i64 0] 85 4 1 rfl (by decide);rw [show(wr.alloc (.cells #[sv m.imps[i].from_,.slice B1 m.imps[i].names.length e1,.int .i64 0,.int .i64 0] 85)).heap.size=wr.heap.size+1 by simp]at hsn;have HSN:=aZ hsn;have WQ:bR (¬(Value.slice Av nv cv).ownBlock=some (w.heap.size+1+1)):=aZ (fun e=>by have:=hol _ e;omega);have HOL:=aZ hol;clear hss zf hown hys htu hbx hol hsn;go_wp2_with (at_builtin;go_must (refine jh rfl (.tmp 24) (.tmp 26) _ rfl W.heap.size Nl _ _ rfl rfl ((HOWN.o.alloc _).alloc _) HSN.o (Q6 (sv m.imps[i].from_) (.slice B1 m.imps[i].names.length e1) (.int .i64 0) (.int .i64 0) rfl rfl rfl rfl) (by unfold maxLen;simp;omega) (by simp;omega) (by simp;omega) (fun v7 w7 n7' aQ ji gq=>?_));obtain⟨Ax,nx,cx,rfl⟩:=mH aQ;have Tm:=aZ aQ;have kQ:=aZ (TU.o.trans (Turn.bP (F:=fun k=>(Value.slice Av nv cv).ownBlock=some k) ji (fun k h=>h)) (fun _ _ h=>h));have jq:=ah HB3.o kQ.o WQ.o;obtain⟨g0,g1⟩:=lJ jq;have gz:∀k,w7.frozen? ⟨w.heap.size+1+1,k,none⟩=false:=fun k=>frozen_of_row _ _ _ _ _ jq;have Bd:=aZ jq;clear aQ ji gq jq)
   go_roundw
   case rel=>
    obtain rfl:n7'=i+1:=by have h:=Tm.o.1;rw [List.length_append,hxl]at h;simp at h;omega
    have WR:=Tm.o.lt;refine⟨i+1,_,_,rfl,by omega,heap_setCell_same _ _ 0 _ _ _ Bd.o,dL Tm.o (ak _ _ _ _) (fun k h e=>by have:=WR k h;omega),?_,Q7.o.trans ((kQ.o.mono (G:=fun k=>(Value.slice Av nv cv).ownBlock=some k∨k=w.heap.size+1+1) (fun _ _ h=>.inl h)).trans (ak _ _ _ _) (fun _ _ h=>.inr h)) (fun k hk h=>by rcases h with h |h;have:=HOL.o k h;omega;exact h)⟩;rw [List.take_succ_eq_append_getElem hil,List.map_append];have hone:Nk w w.heap.size [sv m.imps[i].from_,.slice B1 m.imps[i].names.length e1,.int .i64 0,.int .i64 0] (Pv m.imps[i]):=⟨_,rfl,Gt.o⟩
    exact dH.app (Il rfl hone) Vn.o
   case measure=>simp [intOf];omega
  ·obtain rfl:i=ni:=by omega
   obtain⟨Av,nv,cv,rfl⟩:=mH hown;rw [List.take_of_length_le (by rw [HNI.o];exact Nat.le_refl _)]at hys;have HB3:=aZ zf;have HOWN:=aZ hown;have Vn:=aZ hys;have vo:=aZ hbx;have HYX:=aZ ((htu.block (block_lt HY.o) (by omega)).trans HY.o);clear zf hown hys hbx htu;obtain⟨wx,rfl⟩:∃x,x=wr:=⟨_,rfl⟩
   go_wp2_with fail;clear x0 x1;go_loopw [6] (fun v6 wr=>∃(j:Nat) (v:Value) (zs:List Value),v6=.int .i64 j∧j<=nd∧wr.heap[w.heap.size+1+1]? =some (.cells #[.slice Av nv cv,v] 40 (0,0))∧wr.ownsRow wx.heap.size 64 15 v j zs∧dH (O7 w wr (But (· <w.heap.size) wx.heap.size v)) 15 zs ((m.decls.take j).map Mc)∧Turn (fun k=>k=w.heap.size+1+1) wx wr) (fun v6 _=>nd - (intOf v6).toNat)
   case atStart=>exact⟨0,_,[],rfl,by omega,HB3.o,World.ownsRow_nil _ _ _ _,.nil,Turn.refl _ _⟩
   case round=>
    obtain⟨j,v,zs,rfl,hj,zf,hown,hzs,htd⟩:=hrel;have hbx:=(htd.block (block_lt vo.o) (by omega)).trans vo.o;obtain⟨x0,x1⟩:=lJ hbx;have sdz:=htd.size;have Zj:bR (Below w.heap.size w wr):=aZ (O6.o.trans (htd.below O6.o.size (fun k hk h=>by omega)));obtain⟨Aw,nw,cw,rfl⟩:=mH hown;by_cases hlt:j<nd
    ·have hjl:j<m.decls.length:=by rw [HND.o];exact hlt
     obtain⟨b,o,z,rfl,_,hz,hcell0⟩:=Fy HS2.o HR2.o (by omega) hjl HND.o.symm;obtain⟨B1,e1,B2,e2,k,t,n,l,c,B3,n3,e3,B4,n4,e4,B5,n5,e5,xv,xt,rfl,q1,q2,q3,q4,q5⟩:=hz.parts;have hcell:∀(i:Nat) u,([sv m.decls[j].name,.bool m.decls[j].exp,.slice B1 m.decls[j].vars.length e1,sv m.decls[j].param,.slice B2 m.decls[j].types.length e2,.int .i64 k,.string t,.int .i64 n,.int .i64 l,.int .i64 c,.slice B3 n3 e3,.slice B4 n4 e4,.slice B5 n5 e5,.int .i64 m.decls[j].line,.int .i64 m.decls[j].col]:List Value)[i]? =some u->wr.cell? ⟨b,o+j*15+i,none⟩=some u:=fun i u h=>by
      have:=hcell0 i u h;exact(Zj.o.cell (p:=⟨b,o+j*15+i,none⟩) (World.block_lt_of_cell? w _ this)).trans this
     have d0:wr.cell? ⟨b,o+j*15,none⟩=some (sv m.decls[j].name):=hcell 0 _ rfl;have d1:=hcell 1 _ rfl;have d2:=hcell 2 _ rfl;have d3:=hcell 3 _ rfl;have d4:=hcell 4 _ rfl;have d5:=hcell 5 _ rfl;have d6:=hcell 6 _ rfl;have d7:=hcell 7 _ rfl;have d8:=hcell 8 _ rfl;have d9:=hcell 9 _ rfl;have Zk:=hcell 10 _ rfl;have Zl:=hcell 11 _ rfl;have Zm:=hcell 12 _ rfl;have Zn:=hcell 13 _ rfl;have Zo:=hcell 14 _ rfl;have hol:=hown.lt;have hxl:=hown.1;obtain⟨U,hU⟩:∃U,wr.alloc (.cells #[sv m.decls[j].name,.bool m.decls[j].exp,.slice B1 m.decls[j].vars.length e1,sv m.decls[j].param,.slice B2 m.decls[j].types.length e2,.int .i64 k,.string t,.int .i64 n,.int .i64 l,.int .i64 c,.slice B3 n3 e3,.slice B4 n4 e4,.slice B5 n5 e5,.int .i64 0,.int .i64 0] 64)=U:=⟨_,rfl⟩
     have sU:U.heap.size=wr.heap.size+1:=by rw [<-hU];simp
     have tU:Turn (fun _=>False) wr U:=by rw [<-hU];exact Turn.alloc _ _ _
     have hbd:U.heap[wr.heap.size]? =some (.cells #[sv m.decls[j].name,.bool m.decls[j].exp,.slice B1 m.decls[j].vars.length e1,sv m.decls[j].param,.slice B2 m.decls[j].types.length e2,.int .i64 k,.string t,.int .i64 n,.int .i64 l,.int .i64 c,.slice B3 n3 e3,.slice B4 n4 e4,.slice B5 n5 e5,.int .i64 0,.int .i64 0] 64 (0,0)):=by rw [<-hU];exact heap_alloc_new _ _
     have Zp:=aZ (Oi m.decls[j].body U _ (· <w.heap.size) (((mX.of q5 (Nat.le_refl _)).turn (Turn.of_below (F:=fun _=>False) Zj.o) (fun _ _ _ h=>h)).turn tU (fun _ _ _ h=>h)) (fun k hk=>by have:=Zj.o.size;omega) (HBO.o _ (List.getElem_mem hjl)));have HP:=aZ (And.intro q1 (And.intro q2 (And.intro q3 q4)));have HZS:=aZ hzs;have tC:=aZ zf;have HOW:=aZ hown;have HTD:=aZ htd;have Yx:=aZ hbd;have Q7:=aZ tU;have HUE:=aZ hU;clear hzs zf hown htd hbx hcell hcell0 hz q1 q2 q3 q4 q5 hbd tU hU;go_wp2_with fail;rw [HUE.o];refine Zp.o.mono ?_;rintro e w2 ⟨z2,rfl,hz2,hb⟩;have t2:Turn (fun _=>False) U w2:=Turn.of_below hb;have Ul:=(hb.block _ (block_lt Yx.o)).trans Yx.o;obtain⟨p0,p1,p2,p3,p4,p5,p6,p7,p8,p9,p10,p11,p12,p13,p14⟩:=vw Ul;have pz:∀i,w2.frozen? ⟨wr.heap.size,i,none⟩=false:=fun i=>frozen_of_row _ _ _ _ _ Ul;obtain⟨k2,s2,a4,a5,a6,P4,m4,e4',P5,m5,e5',P6,m6,e6',rfl⟩:=hz2.all.shape;obtain⟨V,hV⟩:∃V,((((((((w2.setCell ⟨wr.heap.size,5,none⟩ (.int .i64 k2)).setCell ⟨wr.heap.size,6,none⟩ (.string s2)).setCell ⟨wr.heap.size,7,none⟩ (.int .i64 a4)).setCell ⟨wr.heap.size,8,none⟩ (.int .i64 a5)).setCell ⟨wr.heap.size,9,none⟩ (.int .i64 a6)).setCell ⟨wr.heap.size,10,none⟩ (.slice P4 m4 e4')).setCell ⟨wr.heap.size,11,none⟩ (.slice P5 m5 e5')).setCell ⟨wr.heap.size,12,none⟩ (.slice P6 m6 e6'))=V:=⟨_,rfl⟩
     have hbV:V.heap[wr.heap.size]? =some (.cells #[sv m.decls[j].name,.bool m.decls[j].exp,.slice B1 m.decls[j].vars.length e1,sv m.decls[j].param,.slice B2 m.decls[j].types.length e2,.int .i64 k2,.string s2,.int .i64 a4,.int .i64 a5,.int .i64 a6,.slice P4 m4 e4',.slice P5 m5 e5',.slice P6 m6 e6',.int .i64 0,.int .i64 0] 64 (0,0)):=by rw [<-hV];exact(heap_setCell_same _ _ 12 _ _ (.slice P6 m6 e6') (heap_setCell_same _ _ 11 _ _ (.slice P5 m5 e5') (heap_setCell_same _ _ 10 _ _ (.slice P4 m4 e4') (heap_setCell_same _ _ 9 _ _ (.int .i64 a6) (heap_setCell_same _ _ 8 _ _ (.int .i64 a5) (heap_setCell_same _ _ 7 _ _ (.int .i64 a4) (heap_setCell_same _ _ 6 _ _ (.string s2) (heap_setCell_same _ _ 5 _ _ (.int .i64 k2) Ul))))))))
     have tV:Turn (fun k=>k=wr.heap.size) w2 V:=by rw [<-hV];exact((((((((ak w2 wr.heap.size 5 _).trans (ak _ wr.heap.size 6 _) (fun _ _ h=>h)).trans (ak _ wr.heap.size 7 _) (fun _ _ h=>h)).trans (ak _ wr.heap.size 8 _) (fun _ _ h=>h)).trans (ak _ wr.heap.size 9 _) (fun _ _ h=>h)).trans (ak _ wr.heap.size 10 _) (fun _ _ h=>h)).trans (ak _ wr.heap.size 11 _) (fun _ _ h=>h)).trans (ak _ wr.heap.size 12 _) (fun _ _ h=>h))
     obtain⟨f0,f1,f2,f3,f4,f5,f6,f7,f8,f9,f10,f11,f12,f13,f14⟩:=vw hbV;have hb4:=ah (ah (ah tC.o Q7.o id) t2 id) tV (by omega);obtain⟨y0,y1⟩:=lJ hb4;have TV:bR (Turn (fun k=>k=wr.heap.size) wr V):=aZ (((Q7.o.trans t2 (fun _ _ h=>h)).mono (fun _ _ h=>h.elim)).trans tV (fun _ _ h=>h));have HOV:=aZ (dL HOW.o TV.o (fun g h e=>by have:=hol g h;omega));have qN:=aZ hb4;have HZ2:=aZ hz2;have HT2:=aZ t2;have HTV:=aZ tV;have WQ:bR (¬(Value.slice Aw nw cw).ownBlock=some (w.heap.size+1+1)):=aZ (fun e=>by have:=hol _ e;omega);have HOL:=aZ hol;have s2z:=hb.size;have sVz:=tV.size;clear hz2 hb t2 Ul hbV tV hb4 hol;go_wp2_with (at_builtin;go_must (refine jh rfl (.tmp 48) (.tmp 50) _ rfl wx.heap.size TD _ _ rfl rfl (HOV.o.alloc _) (iB V #[sv m.decls[j].name,.bool m.decls[j].exp,.slice B1 m.decls[j].vars.length e1,sv m.decls[j].param,.slice B2 m.decls[j].types.length e2,.int .i64 k2,.string s2,.int .i64 a4,.int .i64 a5,.int .i64 a6,.slice P4 m4 e4',.slice P5 m5 e5',.slice P6 m6 e6',.int .i64 0,.int .i64 0] 64 15 1 rfl (by decide)) (by intro u hu;simp only [List.mem_cons,List.not_mem_nil,or_false]at hu;rcases hu with rfl |rfl |rfl |rfl |rfl |rfl |rfl |rfl |rfl |rfl |rfl |rfl |rfl |rfl |rfl <;> rfl) (by unfold maxLen;simp;omega) (by simp;omega) (by simp;omega) (fun v7 w7 n7' aQ ji gq=>?_));obtain⟨Ax,nx,cx,rfl⟩:=mH aQ;have Tm:=aZ aQ;have kQ:=aZ ((Turn.alloc (fun k=>(Value.slice Aw nw cw).ownBlock=some k) V _).trans (Turn.bP (F:=fun k=>(Value.slice Aw nw cw).ownBlock=some k) ji (fun k h=>h)) (fun _ _ h=>h));have jq:=ah qN.o kQ.o WQ.o;obtain⟨g0,g1⟩:=lJ jq;have gz:∀k,w7.frozen? ⟨w.heap.size+1+1,k,none⟩=false:=fun k=>frozen_of_row _ _ _ _ _ jq;have Bd:=aZ jq;have oK:=aZ gq;clear aQ ji gq jq)
     go_roundw
     case rel=>
      obtain rfl:n7'=j+1:=by have h:=Tm.o.1;rw [List.length_append,hxl]at h;simp at h;omega
      have WR:=Tm.o.lt;have t8:Turn (fun k=>k=wr.heap.size∨(Value.slice Aw nw cw).ownBlock=some k∨k=w.heap.size+1+1) w2 (w7.setCell ⟨w.heap.size+1+1,1,none⟩ (.slice Ax nx cx)):=((HTV.o.mono (fun _ _ h=>.inl h)).trans kQ.o (fun _ _ h=>.inr (.inl h))).trans (ak _ _ _ _) (fun _ _ h=>.inr (.inr h));refine⟨j+1,_,_,rfl,by omega,heap_setCell_same _ _ 1 _ _ _ Bd.o,dL Tm.o (ak _ _ _ _) (fun k h e=>by have:=WR k h;omega),?_,HTD.o.trans (((TV.o.mono (G:=fun k=>k=wr.heap.size∨(Value.slice Aw nw cw).ownBlock=some k∨k=w.heap.size+1+1) (fun _ _ h=>.inl h)).trans kQ.o (fun _ _ h=>.inr (.inl h))).trans (ak _ _ _ _) (fun _ _ h=>.inr (.inr h))) (fun k hk h=>by rcases h with h |h |h;omega;have:=HOL.o k h;omega;exact h)⟩;rw [List.take_succ_eq_append_getElem hjl,List.map_append];exact Q0 (d:=Mc m.decls[j]) (by omega) (by omega) HZS.o HOW.o sdz rfl (Q7.o.trans HT2.o (fun _ _ h=>h)) (by omega) (HZ2.o.mono (G:=fun k=>k<w.heap.size∨wr.heap.size<k) (fun k _ h=>h.imp id (fun h=>by omega))) t8 (by simp;omega) oK.o HP.o.1 HP.o.2.1 HP.o.2.2.1 HP.o.2.2.2 rfl
     case measure=>simp [intOf];omega
    ·obtain rfl:j=nd:=by omega
     rw [List.take_of_length_le (by rw [HND.o];exact Nat.le_refl _)]at hzs;have hyd:=(htd.block (block_lt HYX.o) (by omega)).trans HYX.o;obtain⟨r0,r1⟩:=lJ hyd;obtain⟨y0,y1⟩:=lJ zf;have z1:∀k,wr.frozen? ⟨w.heap.size+1,k,none⟩=false:=fun k=>frozen_of_row _ _ _ _ _ hyd;have HYD:=aZ hyd;have HZS:=aZ hzs;have HOW:=aZ hown;have HTD:=aZ htd;clear hzs hown htd hbx hyd zf;go_wp2_with fail;have ec:=heap_setCell_same _ _ 1 _ _ (.slice Aw nw cw) (heap_setCell_same _ _ 0 _ _ (.slice Av nv cv) HYD.o);have tc:=(ak wr (w.heap.size+1) 0 (.slice Av nv cv)).trans (ak _ (w.heap.size+1) 1 (.slice Aw nw cw)) (fun _ _ h=>h);refine bodyPost_ret (bD rfl rfl ec Tryz.underlying40 rfl (by kernel_rfl)) rfl ?_;clear ec;generalize hw9:((wr.setCell _ _).setCell _ _)=w9 at tc ⊢;have hwf:Below w.heap.size w w9:=Zj.o.trans (tc.below Zj.o.size (fun k hk e=>by omega));have ho1:=dL (dL HOWN.o HTD.o (fun g h e=>by have:=HOWN.o.lt g h;omega)) tc (fun g h e=>by have:=HOWN.o.lt g h;omega);have ho2:=dL HOW.o tc (fun g h e=>by have:=HOW.o.lt g h;omega);refine⟨[.slice Av nv cv,.slice Aw nw cw],rfl,⟨_,ys,_,zs,rfl,Sl.wh ho1,?_,Sl.wh ho2,?_⟩,hwf⟩
     ·exact Vn.o.imp fun _ _ h=>(h.keep hwf).more hwf.size
     ·exact HZS.o.imp fun _ _ h=>(h.turn tc (fun k _ h e=>by rcases h with⟨_,h |h⟩ <;> omega)).de hwf
theorem KA {a b:List Bt}{i:Nat}(ha:i<a.length)(hb:i<b.length)(h:a.take i=b.take i)(h2:a[i]=b[i]):a.take (i+1)=b.take (i+1):=by
 rw [List.take_succ_eq_append_getElem ha,List.take_succ_eq_append_getElem hb,h,h2]
theorem Oj (va vb:Value)(a b:List Bt)(w:World)(ha:Ss w w.heap.size va a)(hb:Ss w w.heap.size vb b):
  Calls Tryz.prog 42 #[va,vb] w fun e w'=>e=.returned (.bool (decide (a=b)))∧Below w.heap.size w w':=by
 have HA:=aZ ha;have HB:=aZ hb;obtain⟨A,ca,rfl⟩:=dO ha (by omega) (m:=a.length) (by rw [dV];omega);obtain⟨B,cb,rfl⟩:=dO hb (by omega) (m:=b.length) (by rw [dV];omega);have l1:=(bN ha).2;have l2:=(bN hb).2;clear ha hb;by_cases hl:a.length=b.length
 case neg=>
  have g:((a.length:Int) != (b.length:Int))=true:=by rw [bne_iff_ne];omega
  have HR:bR (decide (a=b)=false):=aZ (decide_eq_false (fun h=>hl (by rw [h])));clear hl;go_enter Tryz.func42,Tryz.ntmps42;go_wp2_with fail;go_ret;exact⟨by rw [HR.o];rfl,Below.refl _ _⟩
 obtain⟨n,hn⟩:∃n,a.length=n:=⟨_,rfl⟩
 have hm:b.length=n:=by omega
 rw [hn]at HA l1;rw [hm]at HB l2;rw [hn,hm];have HN:=aZ hn;have HM:=aZ hm;clear hl hn hm;go_enter Tryz.func42,Tryz.ntmps42;go_wp2_with fail;go_loopw [5] (fun v5 wr=>∃i:Nat,v5=.int .i64 i∧i<=n∧a.take i=b.take i∧Below w.heap.size w wr) (fun v5 _=>n - (intOf v5).toNat)
 case atStart=>exact⟨0,rfl,by omega,by simp,Below.refl _ _⟩
 case round=>
  obtain⟨i,rfl,hi,heq,hbr⟩:=hrel;have HE:=aZ heq;have lY:=aZ hbr;clear heq;by_cases hlt:i<n
  ·have hia:i<a.length:=by rw [HN.o];exact hlt
   have hib:i<b.length:=by rw [HM.o];exact hlt
   obtain⟨b1,o1,rfl,d0⟩:=BD (Sl.below HA.o hbr) hia;obtain⟨b2,o2,rfl,d1⟩:=BD (Sl.below HB.o hbr) hib;have GZ:bR (a[i]=b[i]->a.take (i+1)=b.take (i+1)):=aZ (fun h=>KA hia hib HE.o h);have WQ:bR (¬a[i]=b[i]->decide (a=b)=false):=aZ (fun h=>decide_eq_false (fun h2=>h (by subst h2;rfl)));have D0:=aZ d0;have D1:=aZ d1;have HB0:bR (Below wr.heap.size wr wr.drew):=aZ (aH wr 1);generalize a[i]=X at*
   generalize b[i]=Y at*
   clear hbr d0 d1;by_cases hxy:X=Y
   ·have H9:=aZ (GZ.o hxy);subst hxy;clear GZ WQ;go_wp2_with fail;refine wp_region_held_drew (S:=fun w'=>Below wr.heap.size wr w') (by kernel_rfl) HB0.o (fun _=>?_)
    try simp only [Act.put,sq]
    refine tk 0 (.slice (some ⟨b1,o1,none⟩) n ca) HB0.o ?_;refine tk 1 (.int .i64 i) HB0.o ?_;refine tk 2 (.pointer (some ⟨b1,o1+i,none⟩)) HB0.o ?_;refine jE 3 (sv X) (kU D0.o) HB0.o ?_;refine tk 4 (.slice (some ⟨b2,o2,none⟩) n cb) HB0.o ?_;refine tk 5 (.int .i64 i) HB0.o ?_;refine tk 6 (.pointer (some ⟨b2,o2+i,none⟩)) HB0.o ?_;refine jE 7 (sv X) (kU D1.o) HB0.o ?_;refine tk 8 (.bool false) HB0.o ?_;refine wpAnyH_done (by kernel_rfl) ?_ _;go_wp2_with fail
    go_roundw
    case rel=>exact⟨i+1,rfl,by omega,H9.o,lY.o.trans (HB0.o.mono lY.o.size)⟩
    case measure=>simp [intOf];omega
   ·have g:(X != Y)=true:=by rw [bne_iff_ne];exact hxy
    have H9:=aZ (WQ.o hxy);go_wp2_with fail;refine wp_region_held_drew (S:=fun w'=>Below wr.heap.size wr w') (by kernel_rfl) HB0.o (fun _=>?_)
    try simp only [Act.put,sq]
    refine tk 0 (.slice (some ⟨b1,o1,none⟩) n ca) HB0.o ?_;refine tk 1 (.int .i64 i) HB0.o ?_;refine tk 2 (.pointer (some ⟨b1,o1+i,none⟩)) HB0.o ?_;refine jE 3 (sv X) (kU D0.o) HB0.o ?_;refine tk 4 (.slice (some ⟨b2,o2,none⟩) n cb) HB0.o ?_;refine tk 5 (.int .i64 i) HB0.o ?_;refine tk 6 (.pointer (some ⟨b2,o2+i,none⟩)) HB0.o ?_;refine jE 7 (sv Y) (kU D1.o) HB0.o ?_;refine tk 8 (.bool true) HB0.o ?_;refine wpAnyH_done (by kernel_rfl) ?_ _;go_wp2_with fail;go_ret;exact⟨by rw [H9.o];rfl,lY.o.trans (HB0.o.mono lY.o.size)⟩
  ·obtain rfl:i=n:=by omega
   have H9:bR (decide (a=b)=true):=aZ (decide_eq_true (by
    have h:=HE.o;rw [List.take_of_length_le (by rw [HN.o];omega),List.take_of_length_le (by rw [HM.o];omega)]at h;exact h))
   clear hbr hlt;go_wp2_with fail;go_ret;exact⟨by rw [H9.o];rfl,lY.o⟩
def Im (t:bC):Prop:=∀(w:World) (z1 z2:List Value),tQ w w.heap.size z1 t->tQ w w.heap.size z2 t->
 Calls Tryz.prog 85 #[.agg z1.toArray,.agg z2.toArray] w fun e w'=>e=.returned (.bool true)∧Below w.heap.size w w'
theorem CV (va vb:Value)(a:List Bt)(w:World)(ha:Ss w w.heap.size va a)(hb:Ss w w.heap.size vb a):
  Calls Tryz.prog 42 #[va,vb] w fun e w'=>e=.returned (.bool true)∧Below w.heap.size w w':=
 (Oj va vb a a w ha hb).mono fun e w' h=>⟨by rw [h.1,decide_eq_true (Eq.refl a)],h.2⟩
theorem CW (l:List bC)(H:∀t∈l,Im t)(w:World)(v1 v2:Value)(x1 x2:List Value)(h1:Sl w w.heap.size 4 v1 x1)(r1:jo w w.heap.size x1 l)(h2:Sl w w.heap.size 4 v2 x2)(r2:jo w w.heap.size x2 l):
  Calls Tryz.prog 52 #[v1,v2] w fun e w'=>e=.returned (.bool true)∧Below w.heap.size w w':=by
 obtain⟨A1,c1,rfl⟩:=dO h1 (by omega) (m:=l.length) r1.length;obtain⟨A2,c2,rfl⟩:=dO h2 (by omega) (m:=l.length) r2.length;have l1:=(bN h1).2;have l2:=(bN h2).2;have rz:=aZ h1;have HS2:=aZ h2;have HR1:=aZ r1;have HR2:=aZ r2;have HH:=aZ H;obtain⟨n,hn⟩:∃n,l.length=n:=⟨_,rfl⟩
 rw [hn]at rz HS2 l1 l2;rw [hn];have HN:=aZ hn;clear h1 h2 r1 r2 H hn;go_enter Tryz.func52,Tryz.ntmps52;go_wp2_with fail;go_loopw [5] (fun v5 wr=>∃i:Nat,v5=.int .i64 i∧i<=n∧Below w.heap.size w wr) (fun v5 _=>n - (intOf v5).toNat)
 case atStart=>exact⟨0,rfl,by omega,Below.refl _ _⟩
 case round=>
  obtain⟨i,rfl,hi,hbr⟩:=hrel;have lY:=aZ hbr;by_cases hlt:i<n
  ·have hil:i<l.length:=by rw [HN.o];exact hlt
   obtain⟨b1,o1,k1,s1,A3,n3,c3,A4,n4,c4,rfl,q1,d0,d1,d2,d3⟩:=mO (Sl.more (Sl.below rz.o hbr) hbr.size) ((HR1.o.keep hbr).more hbr.size) hil HN.o.symm;obtain⟨b2,o2,k2,s2,A5,n5,c5,A6,n6,c6,rfl,q2,e0,e1,e2,e3⟩:=mO (Sl.more (Sl.below HS2.o hbr) hbr.size) ((HR2.o.keep hbr).more hbr.size) hil HN.o.symm;have HC:=aZ (fun(w1:World) (h:Below wr.heap.size wr w1)=>HH.o _ (List.getElem_mem hil) w1 _ _ (q1.far (Nat.le_refl _) h) (q2.far (Nat.le_refl _) h));have D0:=aZ d0;have D1:=aZ d1;have D2:=aZ d2;have D3:=aZ d3;have E0:=aZ e0;have E1:=aZ e1;have E2:=aZ e2;have E3:=aZ e3;have HB0:bR (Below wr.heap.size wr wr.drew):=aZ (aH wr 1);clear q1 q2 d0 d1 d2 d3 e0 e1 e2 e3 hbr;go_wp2_with fail;refine wp_region_held_drew (S:=fun w'=>Below wr.heap.size wr w') (by kernel_rfl) HB0.o (fun _=>?_)
   try simp only [Act.put,sq]
   refine tk 0 (.slice (some ⟨b1,o1,none⟩) n c1) HB0.o ?_;refine tk 1 (.int .i64 i) HB0.o ?_;refine tk 2 (.pointer (some ⟨b1,o1+i*4,none⟩)) HB0.o ?_;refine jE 3 (.agg #[.int .i64 k1,.string s1,.slice A3 n3 c3,.slice A4 n4 c4]) (Vf D0.o D1.o D2.o D3.o) HB0.o ?_;refine tk 4 (.slice (some ⟨b2,o2,none⟩) n c2) HB0.o ?_;refine tk 5 (.int .i64 i) HB0.o ?_;refine tk 6 (.pointer (some ⟨b2,o2+i*4,none⟩)) HB0.o ?_;refine jE 7 (.agg #[.int .i64 k2,.string s2,.slice A5 n5 c5,.slice A6 n6 c6]) (Vf E0.o E1.o E2.o E3.o) HB0.o ?_;refine wpAnyH_ready (rs:=[8]) (by kernel_rfl) (by simp) ?_;refine AllReadyH.cons rfl (fun K hK=>?_) (AllReadyH.nil);go_simp;refine(HC.o _ HB0.o).mono ?_;rintro e w2 ⟨rfl,hb⟩;have HB2:=aZ (HB0.o.trans (hb.mono HB0.o.size));clear hb;refine hK.out _ _ HB2.o (fun _=>?_);clear hK K
   try simp only [Act.put,sq]
   refine tk 9 (.bool true) HB2.o ?_;refine wpAnyH_done (by kernel_rfl) ?_ _;go_wp2_with fail
   go_roundw
   case rel=>exact⟨i+1,rfl,by omega,lY.o.trans (HB2.o.mono lY.o.size)⟩
   case measure=>simp [intOf];omega
  ·obtain rfl:i=n:=by omega
   clear hbr hlt;go_wp2_with fail;go_ret;exact⟨rfl,lY.o⟩
theorem Q8 (k:Int)(nm:Bt)(ns:List Bt)(ks:List bC)(H:∀t∈ks,Im t):Im (.mk k nm ns ks):=by
 intro w z1 z2 h1 h2;obtain⟨A1,c1,A2,c2,xk,rfl,s1,s2,r2⟩:=h1.parts;obtain⟨A3,c3,A4,c4,xk',rfl,s3,s4,r4⟩:=h2.parts;obtain⟨W,hW⟩:∃W,(w.alloc (.cells #[.int .i64 k,sv nm,.slice A1 ns.length c1,.slice A2 ks.length c2] 57)).alloc (.cells #[.int .i64 k,sv nm,.slice A3 ns.length c3,.slice A4 ks.length c4] 57)=W:=⟨_,rfl⟩
 have hb2:Below w.heap.size w W:=by rw [<-hW];exact((Below.refl _ _).alloc (Nat.le_refl _) _).alloc (by simp) _
 have hbx:=kP w (.cells #[.int .i64 k,sv nm,.slice A1 ns.length c1,.slice A2 ks.length c2] 57) (.cells #[.int .i64 k,sv nm,.slice A3 ns.length c3,.slice A4 ks.length c4] 57);rw [hW]at hbx;have HX:=aZ hbx.1;have HY:=aZ hbx.2;have HB2:=aZ hb2;have HT:=aZ (CV _ _ ns W (Ss.more (s1.below hb2) hb2.size) (Ss.more (s3.below hb2) hb2.size));have HK:=aZ (fun(w1:World) (h:Below W.heap.size W w1)=>CW ks H w1 _ _ _ _ (Sl.more (Sl.below (Sl.more (Sl.below s2 hb2) hb2.size) h) h.size) ((r2.far (Nat.le_refl _) hb2).far (Nat.le_refl _) h) (Sl.more (Sl.below (Sl.more (Sl.below s4 hb2) hb2.size) h) h.size) ((r4.far (Nat.le_refl _) hb2).far (Nat.le_refl _) h));have l1:=(bN s2).2;generalize ns.length=n1 at*
 generalize ks.length=n2 at*
 clear h1 h2 s1 s2 s3 s4 r2 r4 hbx hb2;have hsz:w.heap.size+1<W.heap.size:=block_lt HY.o;obtain⟨x0,x1,x2,x3⟩:=uD HX.o;obtain⟨y0,y1,y2,y3⟩:=uD HY.o;go_enter Tryz.func85,Tryz.ntmps85;go_wp2_with fail;refine HT.o.mono ?_;rintro e w2 ⟨rfl,hb⟩;have HB3:=aZ hb;have x0:=kb hb x0;have x1:=kb hb x1;have x3:=kb hb x3;have y0:=kb hb y0;have y1:=kb hb y1;have y3:=kb hb y3;clear hb;go_wp2_with fail;refine(HK.o _ HB3.o).mono ?_;rintro e w3 ⟨rfl,hb⟩;have tC:=aZ (HB3.o.trans (hb.mono HB3.o.size));have x0:=kb hb x0;have x1:=kb hb x1;have y0:=kb hb y0;have y1:=kb hb y1;clear hb;go_wp2_with fail;go_ret;exact⟨rfl,HB2.o.trans (tC.o.mono HB2.o.size)⟩
theorem EN (t:bC):Im t:=by
 have h:∀(n:Nat) (t:bC),SizeOf.sizeOf t<=n->Im t:=by
  intro n;induction n with
  |zero=>intro t ht;cases t;simp at ht
  |succ n ih=>
   intro t ht;obtain⟨k,nm,ns,ks⟩:=t;refine Q8 k nm ns ks fun x hx=>ih x ?_;have:=List.sizeOf_lt_of_mem hx;simp at ht;omega
 exact h _ t (Nat.le_refl _)
theorem Io (l:List bC)(w:World)(v1 v2:Value)(x1 x2:List Value)(h1:Sl w w.heap.size 4 v1 x1)(r1:jo w w.heap.size x1 l)(h2:Sl w w.heap.size 4 v2 x2)(r2:jo w w.heap.size x2 l):
  Calls Tryz.prog 52 #[v1,v2] w fun e w'=>e=.returned (.bool true)∧Below w.heap.size w w':=CW l (fun t _=>EN t) w v1 v2 x1 x2 h1 r1 h2 r2
def Mt (x:bF):Prop:=∀(w:World) (z1 z2:List Value),tT w w.heap.size z1 x->tT w w.heap.size z2 x->
 Calls Tryz.prog 23 #[.agg z1.toArray,.agg z2.toArray] w fun e w'=>e=.returned (.bool true)∧Below w.heap.size w w'
theorem Ol (k:Int)(text:Bt)(n line col:Int)(ts:List bC)(ns:List Bt)(ks:List bF)(H:∀t∈ks,Mt t):Mt (.mk k text n line col ts ns ks):=by
 intro w z1 z2 h1 h2;obtain⟨A1,c1,A2,c2,A3,c3,xt,xk,rfl,s1,r1,s2,s3,r3⟩:=h1.parts;obtain⟨A4,c4,A5,c5,A6,c6,xt',xk',rfl,s4,r4,s5,s6,r6⟩:=h2.parts;obtain⟨W,hW⟩:∃W,(w.alloc (.cells #[.int .i64 k,sv text,.int .i64 n,.int .i64 line,.int .i64 col,.slice A1 ts.length c1,.slice A2 ns.length c2,.slice A3 ks.length c3] 52)).alloc (.cells #[.int .i64 k,sv text,.int .i64 n,.int .i64 line,.int .i64 col,.slice A4 ts.length c4,.slice A5 ns.length c5,.slice A6 ks.length c6] 52)=W:=⟨_,rfl⟩
 have hb2:Below w.heap.size w W:=by rw [<-hW];exact((Below.refl _ _).alloc (Nat.le_refl _) _).alloc (by simp) _
 have hbx:=kP w (.cells #[.int .i64 k,sv text,.int .i64 n,.int .i64 line,.int .i64 col,.slice A1 ts.length c1,.slice A2 ns.length c2,.slice A3 ks.length c3] 52) (.cells #[.int .i64 k,sv text,.int .i64 n,.int .i64 line,.int .i64 col,.slice A4 ts.length c4,.slice A5 ns.length c5,.slice A6 ks.length c6] 52);rw [hW]at hbx;have HX:=aZ hbx.1;have HY:=aZ hbx.2;have HB2:=aZ hb2;have HT:=aZ (CV _ _ ns W (Ss.more (s2.below hb2) hb2.size) (Ss.more (s5.below hb2) hb2.size));have HK:=aZ (fun(w1:World) (h:Below W.heap.size W w1)=>Io ts w1 _ _ _ _ (Sl.more (Sl.below (Sl.more (Sl.below s1 hb2) hb2.size) h) h.size) ((r1.far (Nat.le_refl _) hb2).far (Nat.le_refl _) h) (Sl.more (Sl.below (Sl.more (Sl.below s4 hb2) hb2.size) h) h.size) ((r4.far (Nat.le_refl _) hb2).far (Nat.le_refl _) h));have Ef:=aZ (Sl.more (Sl.below s3 hb2) hb2.size);have Um:=aZ (Sl.more (Sl.below s6 hb2) hb2.size);have HR3:=aZ (r3.far (Nat.le_refl _) hb2);have FX:=aZ (r6.far (Nat.le_refl _) hb2);have HH:=aZ H;have l1:=(bN s3).2;have l2:=(bN s6).2;obtain⟨n4,WS⟩:∃x,ks.length=x:=⟨_,rfl⟩
 rw [WS]at HX HY Ef Um l1 l2 hW;rw [WS];have Vo:=aZ WS;generalize ts.length=n2 at*
 generalize ns.length=n3 at*
 clear h1 h2 s1 s2 s3 s4 s5 s6 r1 r3 r4 r6 hbx hb2 H WS;have hsz:w.heap.size+1<W.heap.size:=block_lt HY.o;obtain⟨x0,x1,x2,x3,x4,x5,x6,x7⟩:=gN HX.o;obtain⟨y0,y1,y2,y3,y4,y5,y6,y7⟩:=gN HY.o;go_enter Tryz.func23,Tryz.ntmps23;go_wp2_with fail;refine HT.o.mono ?_;rintro e w2 ⟨rfl,hb⟩;have HB3:=aZ hb;have x0:=kb hb x0;have y0:=kb hb y0;have x1:=kb hb x1;have y1:=kb hb y1;have x2:=kb hb x2;have y2:=kb hb y2;have x3:=kb hb x3;have y3:=kb hb y3;have x4:=kb hb x4;have y4:=kb hb y4;have x5:=kb hb x5;have y5:=kb hb y5;have x7:=kb hb x7;have y7:=kb hb y7;clear hb;go_wp2_with fail;refine(HK.o _ HB3.o).mono ?_;rintro e w3 ⟨rfl,hb⟩;have tC:=aZ (HB3.o.trans (hb.mono HB3.o.size));have x0:=kb hb x0;have y0:=kb hb y0;have x1:=kb hb x1;have y1:=kb hb y1;have x2:=kb hb x2;have y2:=kb hb y2;have x3:=kb hb x3;have y3:=kb hb y3;have x4:=kb hb x4;have y4:=kb hb y4;have x7:=kb hb x7;have y7:=kb hb y7;clear hb;go_wp2_with fail;clear x0 x1 x2 x3 x4 x5 x6 y0 y1 y2 y3 y4 y5 y6;go_loopw [7] (fun v7 wr=>∃i:Nat,v7=.int .i64 i∧i<=n4∧Below W.heap.size W wr) (fun v7 _=>n4 - (intOf v7).toNat)
 case atStart=>exact⟨0,rfl,by omega,tC.o⟩
 case round=>
  obtain⟨i,rfl,hi,hbr⟩:=hrel;have lY:=aZ hbr;have x7:=((hbr.cell (p:=⟨w.heap.size,7,none⟩) (by show w.heap.size<W.heap.size;omega)).trans (gN HX.o).2.2.2.2.2.2.2)
  have y7:=((hbr.cell (p:=⟨w.heap.size+1,7,none⟩) hsz).trans (gN HY.o).2.2.2.2.2.2.2)
  by_cases hlt:i<n4
  ·have hil:i<ks.length:=by rw [Vo.o];exact hlt
   obtain⟨b1,o1,k1,s1,a1,a2,a3,P1,m1,e1,P2,m2,e2,P3,m3,e3,rfl,q1,d0,d1,d2,d3,d4,d5,d6,d7⟩:=BF (Sl.more (Sl.below Ef.o hbr) hbr.size) ((HR3.o.keep hbr).more hbr.size) hil Vo.o.symm;obtain⟨b2,o2,k2,s2,a4,a5,a6,P4,m4,e4,P5,m5,e5,P6,m6,e6,rfl,q2,f0,f1,f2,f3,f4,f5,f6,f7⟩:=BF (Sl.more (Sl.below Um.o hbr) hbr.size) ((FX.o.keep hbr).more hbr.size) hil Vo.o.symm;have HC:=aZ (fun(w1:World) (h:Below wr.heap.size wr w1)=>HH.o _ (List.getElem_mem hil) w1 _ _ (q1.far (Nat.le_refl _) h) (q2.far (Nat.le_refl _) h));have D0:=aZ d0;have E0:=aZ f0;have D1:=aZ d1;have E1:=aZ f1;have D2:=aZ d2;have E2:=aZ f2;have D3:=aZ d3;have E3:=aZ f3;have D4:=aZ d4;have E4:=aZ f4;have D5:=aZ d5;have E5:=aZ f5;have D6:=aZ d6;have E6:=aZ f6;have D7:=aZ d7;have E7:=aZ f7;have X7:=aZ x7;have Y7:=aZ y7;have HB0:bR (Below wr.heap.size wr wr.drew):=aZ (aH wr 1);clear q1 q2 d0 d1 d2 d3 d4 d5 d6 d7 f0 f1 f2 f3 f4 f5 f6 f7 hbr;go_wp2_with fail;refine wp_region_held_drew (S:=fun w'=>Below wr.heap.size wr w') (by kernel_rfl) HB0.o (fun _=>?_)
   try simp only [Act.put,sq]
   refine tk 0 (.pointer (some ⟨w.heap.size,7,none⟩)) HB0.o ?_;refine jE 1 (.slice (some ⟨b1,o1,none⟩) n4 c3) (kU X7.o) HB0.o ?_;refine tk 2 (.int .i64 i) HB0.o ?_;refine tk 3 (.pointer (some ⟨b1,o1+i*8,none⟩)) HB0.o ?_;refine jE 4 (.agg #[.int .i64 k1,.string s1,.int .i64 a1,.int .i64 a2,.int .i64 a3,.slice P1 m1 e1,.slice P2 m2 e2,.slice P3 m3 e3]) (kp8 D0.o D1.o D2.o D3.o D4.o D5.o D6.o D7.o) HB0.o ?_;refine tk 5 (.pointer (some ⟨w.heap.size+1,7,none⟩)) HB0.o ?_;refine jE 6 (.slice (some ⟨b2,o2,none⟩) n4 c6) (kU Y7.o) HB0.o ?_;refine tk 7 (.int .i64 i) HB0.o ?_;refine tk 8 (.pointer (some ⟨b2,o2+i*8,none⟩)) HB0.o ?_;refine jE 9 (.agg #[.int .i64 k2,.string s2,.int .i64 a4,.int .i64 a5,.int .i64 a6,.slice P4 m4 e4,.slice P5 m5 e5,.slice P6 m6 e6]) (kp8 E0.o E1.o E2.o E3.o E4.o E5.o E6.o E7.o) HB0.o ?_;refine wpAnyH_ready (rs:=[10]) (by kernel_rfl) (by simp) ?_;refine AllReadyH.cons rfl (fun K hK=>?_) (AllReadyH.nil);go_simp;refine(HC.o _ HB0.o).mono ?_;rintro e w2 ⟨rfl,hb⟩;have HB2:=aZ (HB0.o.trans (hb.mono HB0.o.size));clear hb;refine hK.out _ _ HB2.o (fun _=>?_);clear hK K
   try simp only [Act.put,sq]
   refine tk 11 (.bool true) HB2.o ?_;refine wpAnyH_done (by kernel_rfl) ?_ _;go_wp2_with fail
   go_roundw
   case rel=>exact⟨i+1,rfl,by omega,lY.o.trans (HB2.o.mono lY.o.size)⟩
   case measure=>simp [intOf];omega
  ·obtain rfl:i=n4:=by omega
   clear hbr hlt;go_wp2_with fail;go_ret;exact⟨rfl,HB2.o.trans (lY.o.mono HB2.o.size)⟩
theorem Om (t:bF):Mt t:=by
 have h:∀(n:Nat) (t:bF),SizeOf.sizeOf t<=n->Mt t:=by
  intro n;induction n with
  |zero=>intro t ht;cases t;simp at ht
  |succ n ih=>
   intro t ht;obtain⟨k,text,n1,line,col,ts,ns,ks⟩:=t;refine Ol k text n1 line col ts ns ks fun x hx=>ih x ?_;have:=List.sizeOf_lt_of_mem hx;simp at ht;omega
 exact h _ t (Nat.le_refl _)
theorem Zq {w:World}{a0 a1 a2 a3 a4 a5 a6 a7 a8 a9 Gx FQ a12 EO Eh:Addr}{v0 v1 v2 v3 v4 v5 v6 v7 v8 v9 v10 v11 v12 v13 v14:Value}(d0:w.cell? a0=some v0)(d1:w.cell? a1=some v1)(d2:w.cell? a2=some v2)(d3:w.cell? a3=some v3)(d4:w.cell? a4=some v4)(d5:w.cell? a5=some v5)(d6:w.cell? a6=some v6)(d7:w.cell? a7=some v7)(d8:w.cell? a8=some v8)(d9:w.cell? a9=some v9)(Zk:w.cell? Gx=some v10)(Zl:w.cell? FQ=some v11)(Zm:w.cell? a12=some v12)(Zn:w.cell? EO=some v13)(Zo:w.cell? Eh=some v14):
  ∀w',Below w.heap.size w w'->w'.cell? a0=some v0∧w'.cell? a1=some v1∧w'.cell? a2=some v2∧w'.cell? a3=some v3∧w'.cell? a4=some v4∧w'.cell? a5=some v5∧w'.cell? a6=some v6∧w'.cell? a7=some v7∧w'.cell? a8=some v8∧w'.cell? a9=some v9∧w'.cell? Gx=some v10∧w'.cell? FQ=some v11∧w'.cell? a12=some v12∧w'.cell? EO=some v13∧w'.cell? Eh=some v14:=fun _ h=>⟨kb h d0,kb h d1,kb h d2,kb h d3,kb h d4,kb h d5,kb h d6,kb h d7,kb h d8,kb h d9,kb h Zk,kb h Zl,kb h Zm,kb h Zn,kb h Zo⟩
theorem Oo (d:nV)(w:World)(z1 z2:List Value)(h1:Bw w w.heap.size z1 d)(h2:Bw w w.heap.size z2 d):
  Calls Tryz.prog 43 #[.agg z1.toArray,.agg z2.toArray] w fun e w'=>e=.returned (.bool true)∧Below w.heap.size w w':=by
 obtain⟨A1,c1,A2,c2,k,s,n,l,c,A3,n3,c3,A4,n4,c4,A5,n5,c5,xv,xt,rfl,s1,r1,s2,r2,r3⟩:=h1.parts;obtain⟨B1,e1,B2,e2,k_,s_,n_,l_,c_,B3,m3,e3,B4,m4,e4,B5,m5,e5,yv,yt,rfl,s4,r4,s5,r5,r6⟩:=h2.parts;obtain⟨W,hW⟩:∃W,(w.alloc (.cells #[sv d.name,.bool d.exp,.slice A1 d.vars.length c1,sv d.param,.slice A2 d.types.length c2,.int .i64 k,.string s,.int .i64 n,.int .i64 l,.int .i64 c,.slice A3 n3 c3,.slice A4 n4 c4,.slice A5 n5 c5,.int .i64 d.line,.int .i64 d.col] 64)).alloc (.cells #[sv d.name,.bool d.exp,.slice B1 d.vars.length e1,sv d.param,.slice B2 d.types.length e2,.int .i64 k_,.string s_,.int .i64 n_,.int .i64 l_,.int .i64 c_,.slice B3 m3 e3,.slice B4 m4 e4,.slice B5 m5 e5,.int .i64 d.line,.int .i64 d.col] 64)=W:=⟨_,rfl⟩
 have hb2:Below w.heap.size w W:=by rw [<-hW];exact((Below.refl _ _).alloc (Nat.le_refl _) _).alloc (by simp) _
 have hbx:=kP w (.cells #[sv d.name,.bool d.exp,.slice A1 d.vars.length c1,sv d.param,.slice A2 d.types.length c2,.int .i64 k,.string s,.int .i64 n,.int .i64 l,.int .i64 c,.slice A3 n3 c3,.slice A4 n4 c4,.slice A5 n5 c5,.int .i64 d.line,.int .i64 d.col] 64) (.cells #[sv d.name,.bool d.exp,.slice B1 d.vars.length e1,sv d.param,.slice B2 d.types.length e2,.int .i64 k_,.string s_,.int .i64 n_,.int .i64 l_,.int .i64 c_,.slice B3 m3 e3,.slice B4 m4 e4,.slice B5 m5 e5,.int .i64 d.line,.int .i64 d.col] 64);rw [hW]at hbx;have HX:=aZ hbx.1;have HY:=aZ hbx.2;have HB2:=aZ hb2;have HK:=aZ (fun(w1:World) (h:Below W.heap.size W w1)=>Io d.types w1 _ _ _ _ (Sl.more (Sl.below (Sl.more (Sl.below s2 hb2) hb2.size) h) h.size) ((r2.far (Nat.le_refl _) hb2).far (Nat.le_refl _) h) (Sl.more (Sl.below (Sl.more (Sl.below s5 hb2) hb2.size) h) h.size) ((r5.far (Nat.le_refl _) hb2).far (Nat.le_refl _) h));have HN:=aZ (fun(w1:World) (h:Below W.heap.size W w1)=>Om d.body w1 _ _ ((r3.far (Nat.le_refl _) hb2).far (Nat.le_refl _) h) ((r6.far (Nat.le_refl _) hb2).far (Nat.le_refl _) h));have rz:=aZ (Sl.more (Sl.below s1 hb2) hb2.size);have Bc:=aZ (Sl.more (Sl.below s4 hb2) hb2.size);have HR1:=aZ (r1.imp fun _ _ h=>(h.keep hb2).more hb2.size);have HR4:=aZ (r4.imp fun _ _ h=>(h.keep hb2).more hb2.size);have l1:=(bN s1).2;have l2:=(bN s4).2;obtain⟨vs,hvs⟩:∃x,d.vars=x:=⟨_,rfl⟩
 rw [hvs]at HX HY rz Bc HR1 HR4 hW l1 l2;rw [hvs];obtain⟨nv,hnv⟩:∃x,vs.length=x:=⟨_,rfl⟩
 rw [hnv]at HX HY rz Bc hW l1 l2;rw [hnv];have HNV:=aZ hnv;generalize d.types.length=nt at*
 generalize d.name=nm at*
 generalize d.exp=ex at*
 generalize d.param=pm at*
 generalize d.line=dl at*
 generalize d.col=dc at*
 clear h1 h2 s1 s2 s4 s5 r1 r2 r3 r4 r5 r6 hbx hb2 hnv hvs;have hsz:w.heap.size+1<W.heap.size:=block_lt HY.o;obtain⟨x0,x1,x2,x3,x4,x5,x6,x7,x8,x9,x10,Vk,Vl,Yq,Yr⟩:=vw HX.o;obtain⟨y0,y1,y2,y3,y4,y5,y6,y7,y8,y9,Zr,Zt,Zu,y13,y14⟩:=vw HY.o;go_enter Tryz.func43,Tryz.ntmps43;go_wp2_with fail;clear x0 x1 x2 x3 x4 x5 x6 x7 x8 x9 x10 Vk Vl Yq Yr y0 y1 y2 y3 y4 y5 y6 y7 y8 y9 Zr Zt Zu y13 y14;go_loopw [5] (fun v5 wr=>∃i:Nat,v5=.int .i64 i∧i<=nv∧Below W.heap.size W wr) (fun v5 _=>nv - (intOf v5).toNat)
 case atStart=>exact⟨0,rfl,by omega,Below.refl _ _⟩
 case round=>
  obtain⟨i,rfl,hi,hbr⟩:=hrel;have lY:=aZ hbr;obtain⟨x0,x1,x2,x3,x4,x5,x6,x7,x8,x9,x10,Vk,Vl,Yq,Yr⟩:=vw ((hbr.block _ (block_lt HX.o)).trans HX.o);obtain⟨y0,y1,y2,y3,y4,y5,y6,y7,y8,y9,Zr,Zt,Zu,y13,y14⟩:=vw ((hbr.block _ (block_lt HY.o)).trans HY.o);by_cases hlt:i<nv
  ·clear x0 x1 x3 x4 x5 x6 x7 x8 x9 x10 Vk Vl Yq Yr y0 y1 y3 y4 y5 y6 y7 y8 y9 Zr Zt Zu y13 y14;have hil:i<vs.length:=by rw [HNV.o];exact hlt
   obtain⟨b1,o1,k1,s1,P1,m1,f1,P2,m2,f2,rfl,q1,hk1,d0,d1,d2,d3,d4⟩:=QT (Sl.more (Sl.below rz.o hbr) hbr.size) (HR1.o.imp fun _ _ h=>(h.keep hbr).more hbr.size) hil HNV.o.symm;obtain⟨b2,o2,k2,s2,P3,q3,f3,P4,q4,f4,rfl,q2,hk2,g0,g1,g2,g3,g4⟩:=QT (Sl.more (Sl.below Bc.o hbr) hbr.size) (HR4.o.imp fun _ _ h=>(h.keep hbr).more hbr.size) hil HNV.o.symm;have HC:=aZ (fun(w1:World) (h:Below wr.heap.size wr w1)=>EN _ w1 _ _ (q1.far (Nat.le_refl _) h) (q2.far (Nat.le_refl _) h));have D0:=aZ d0;have E0:=aZ g0;have D1:=aZ d1;have E1:=aZ g1;have D2:=aZ d2;have E2:=aZ g2;have D3:=aZ d3;have E3:=aZ g3;have D4:=aZ d4;have E4:=aZ g4;have X2:=aZ x2;have Y2:=aZ y2;have HB0:bR (Below wr.heap.size wr wr.drew):=aZ (aH wr 1);generalize vs[i].name=X at*
   clear q1 q2 hk1 hk2 d0 d1 d2 d3 d4 g0 g1 g2 g3 g4 hbr;go_wp2_with fail;refine wp_region_held_drew (S:=fun w'=>Below wr.heap.size wr w') (by kernel_rfl) HB0.o (fun _=>?_)
   try simp only [Act.put,sq]
   refine tk 0 (.pointer (some ⟨w.heap.size,2,none⟩)) HB0.o ?_;refine jE 1 (.slice (some ⟨b1,o1,none⟩) nv c1) (kU X2.o) HB0.o ?_;refine tk 2 (.int .i64 i) HB0.o ?_;refine tk 3 (.pointer (some ⟨b1,o1+i*5,none⟩)) HB0.o ?_;refine tk 4 (.pointer (some ⟨b1,o1+i*5+1,none⟩)) HB0.o ?_;refine jE 5 (.agg #[.int .i64 k1,.string s1,.slice P1 m1 f1,.slice P2 m2 f2]) (Vf D1.o D2.o D3.o D4.o) HB0.o ?_;refine tk 6 (.pointer (some ⟨w.heap.size+1,2,none⟩)) HB0.o ?_;refine jE 7 (.slice (some ⟨b2,o2,none⟩) nv e1) (kU Y2.o) HB0.o ?_;refine tk 8 (.int .i64 i) HB0.o ?_;refine tk 9 (.pointer (some ⟨b2,o2+i*5,none⟩)) HB0.o ?_;refine tk 10 (.pointer (some ⟨b2,o2+i*5+1,none⟩)) HB0.o ?_;refine jE 11 (.agg #[.int .i64 k2,.string s2,.slice P3 q3 f3,.slice P4 q4 f4]) (Vf E1.o E2.o E3.o E4.o) HB0.o ?_;refine wpAnyH_ready (rs:=[12]) (by kernel_rfl) (by simp) ?_;refine AllReadyH.cons rfl (fun K hK=>?_) (AllReadyH.nil);go_simp;refine(HC.o _ HB0.o).mono ?_;rintro e w2 ⟨rfl,hb⟩;have HB2:=aZ (HB0.o.trans (hb.mono HB0.o.size));clear hb;refine hK.out _ _ HB2.o (fun _=>?_);clear hK K
   try simp only [Act.put,sq]
   refine tk 13 (.bool true) HB2.o ?_;refine wpAnyH_done (by kernel_rfl) ?_ _;have x2:=kb HB2.o x2;have y2:=kb HB2.o y2;have d0:=kb HB2.o D0.o;have g0:=kb HB2.o E0.o;clear X2 Y2 D0 E0;have D0:=aZ d0;have E0:=aZ g0;have X2:=aZ x2;have Y2:=aZ y2;have qN:bR (Below w2.heap.size w2 w2.drew):=aZ (aH w2 1);clear d0 g0;go_wp2_with fail;refine wp_region_held_drew (S:=fun w'=>Below w2.heap.size w2 w') (by kernel_rfl) qN.o (fun _=>?_)
   try simp only [Act.put,sq]
   refine tk 0 (.pointer (some ⟨w.heap.size,2,none⟩)) qN.o ?_;refine jE 1 (.slice (some ⟨b1,o1,none⟩) nv c1) (kU X2.o) qN.o ?_;refine tk 2 (.int .i64 i) qN.o ?_;refine tk 3 (.pointer (some ⟨b1,o1+i*5,none⟩)) qN.o ?_;refine tk 4 (.pointer (some ⟨b1,o1+i*5,none⟩)) qN.o ?_;refine jE 5 (sv X) (kU D0.o) qN.o ?_;refine tk 6 (.pointer (some ⟨w.heap.size+1,2,none⟩)) qN.o ?_;refine jE 7 (.slice (some ⟨b2,o2,none⟩) nv e1) (kU Y2.o) qN.o ?_;refine tk 8 (.int .i64 i) qN.o ?_;refine tk 9 (.pointer (some ⟨b2,o2+i*5,none⟩)) qN.o ?_;refine tk 10 (.pointer (some ⟨b2,o2+i*5,none⟩)) qN.o ?_;refine jE 11 (sv X) (kU E0.o) qN.o ?_;refine tk 12 (.bool false) qN.o ?_;refine tk 13 (.bool false) qN.o ?_;refine tk 14 (.bool true) qN.o ?_;refine tk 15 (.bool false) qN.o ?_;refine tk 16 (.bool false) qN.o ?_;refine wpAnyH_done (by kernel_rfl) ?_ _;go_wp2_with fail
   go_roundw
   case rel=>exact⟨i+1,rfl,by omega,(lY.o.trans (HB2.o.mono lY.o.size)).trans (qN.o.mono (lY.o.trans (HB2.o.mono lY.o.size)).size)⟩
   case measure=>simp [intOf];omega
  ·obtain rfl:i=nv:=by omega
   clear hlt hbr;go_wp2_with fail;refine(HK.o _ lY.o).mono ?_;rintro e w2 ⟨rfl,hb⟩;have HB3:=aZ (lY.o.trans (hb.mono lY.o.size));have x5:=kb hb x5;have y5:=kb hb y5;have x6:=kb hb x6;have y6:=kb hb y6;have x7:=kb hb x7;have y7:=kb hb y7;have x8:=kb hb x8;have y8:=kb hb y8;have x9:=kb hb x9;have y9:=kb hb y9;have x10:=kb hb x10;have Zr:=kb hb Zr;have Vk:=kb hb Vk;have Zt:=kb hb Zt;have Vl:=kb hb Vl;have Zu:=kb hb Zu;clear hb;go_wp2_with fail;refine(HN.o _ HB3.o).mono ?_;rintro e w3 ⟨rfl,hb⟩;have tC:=aZ (HB3.o.trans (hb.mono HB3.o.size));clear hb;go_wp2_with fail;go_ret;exact⟨rfl,HB2.o.trans (tC.o.mono HB2.o.size)⟩
theorem Ip (m:yS)(w:World)(z1 z2:List Value)(h1:Gr w w.heap.size z1 m)(h2:Gr w w.heap.size z2 m):
  Calls Tryz.prog 16 #[.agg z1.toArray,.agg z2.toArray] w fun e w'=>e=.returned (.bool true)∧Below w.heap.size w w':=by
 obtain⟨A1,c1,A2,c2,xi,xd,rfl,s1,r1,s2,r2⟩:=h1.parts;obtain⟨A3,c3,A4,c4,yi,yd,rfl,s3,r3,s4,r4⟩:=h2.parts;obtain⟨W,hW⟩:∃W,(w.alloc (.cells #[.slice A1 m.imps.length c1,.slice A2 m.decls.length c2] 40)).alloc (.cells #[.slice A3 m.imps.length c3,.slice A4 m.decls.length c4] 40)=W:=⟨_,rfl⟩
 have hb2:Below w.heap.size w W:=by rw [<-hW];exact((Below.refl _ _).alloc (Nat.le_refl _) _).alloc (by simp) _
 have hbx:=kP w (.cells #[.slice A1 m.imps.length c1,.slice A2 m.decls.length c2] 40) (.cells #[.slice A3 m.imps.length c3,.slice A4 m.decls.length c4] 40);rw [hW]at hbx;have HX:=aZ hbx.1;have HY:=aZ hbx.2;have HB2:=aZ hb2;have rz:=aZ (Sl.more (Sl.below s1 hb2) hb2.size);have HS2:=aZ (Sl.more (Sl.below s2 hb2) hb2.size);have Ef:=aZ (Sl.more (Sl.below s3 hb2) hb2.size);have Bc:=aZ (Sl.more (Sl.below s4 hb2) hb2.size);have HR1:=aZ (r1.imp fun _ _ h=>(h.keep hb2).more hb2.size);have HR2:=aZ (r2.imp fun _ _ h=>(h.keep hb2).more hb2.size);have HR3:=aZ (r3.imp fun _ _ h=>(h.keep hb2).more hb2.size);have HR4:=aZ (r4.imp fun _ _ h=>(h.keep hb2).more hb2.size);have l1:=(bN s1).2;have l2:=(bN s2).2;have l3:=(bN s3).2;have l4:=(bN s4).2;obtain⟨is,his⟩:∃x,m.imps=x:=⟨_,rfl⟩
 obtain⟨ds,hds⟩:∃x,m.decls=x:=⟨_,rfl⟩
 rw [his,hds]at HX HY hW;rw [his]at rz Ef HR1 HR3 l1 l3;rw [hds]at HS2 Bc HR2 HR4 l2 l4;rw [his,hds];obtain⟨a,ha⟩:∃x,is.length=x:=⟨_,rfl⟩
 obtain⟨d,hd⟩:∃x,ds.length=x:=⟨_,rfl⟩
 rw [ha,hd]at HX HY hW;rw [ha]at rz Ef l1 l3;rw [hd]at HS2 Bc l2 l4;rw [ha,hd];have HA:=aZ ha;have HD:=aZ hd;clear h1 h2 s1 s2 s3 s4 r1 r2 r3 r4 hbx hb2 his hds ha hd;have hsz:w.heap.size+1<W.heap.size:=block_lt HY.o;obtain⟨x0,x1⟩:=lJ HX.o;obtain⟨y0,y1⟩:=lJ HY.o;go_enter Tryz.func16,Tryz.ntmps16;go_wp2_with fail;clear x0 x1 y0 y1;go_loopw [5] (fun v5 wr=>∃i:Nat,v5=.int .i64 i∧i<=a∧Below W.heap.size W wr) (fun v5 _=>a - (intOf v5).toNat)
 case atStart=>exact⟨0,rfl,by omega,Below.refl _ _⟩
 case round=>
  obtain⟨i,rfl,hi,hbr⟩:=hrel;have lY:=aZ hbr;obtain⟨x0,x1⟩:=lJ ((hbr.block _ (block_lt HX.o)).trans HX.o);obtain⟨y0,y1⟩:=lJ ((hbr.block _ (block_lt HY.o)).trans HY.o);by_cases hlt:i<a
  ·have hil:i<is.length:=by rw [HA.o];exact hlt
   obtain⟨b1,o1,A6,c6,rfl,q1,d0,d1,d2,d3⟩:=Ku (Sl.more (Sl.below rz.o hbr) hbr.size) (HR1.o.imp fun _ _ h=>(h.keep hbr).more hbr.size) hil HA.o.symm;obtain⟨b2,o2,A7,c7,rfl,q2,g0,g1,g2,g3⟩:=Ku (Sl.more (Sl.below Ef.o hbr) hbr.size) (HR3.o.imp fun _ _ h=>(h.keep hbr).more hbr.size) hil HA.o.symm;have HT:=aZ (fun(w1:World) (h:Below wr.heap.size wr w1)=>CV _ _ is[i].names w1 (Ss.more (Ss.below q1 h) h.size) (Ss.more (Ss.below q2 h) h.size));have l6:=(bN q1).2;have l7:=(bN q2).2;generalize is[i].names.length=nn at*
   generalize is[i].from_=F at*
   generalize is[i].line=li at*
   generalize is[i].col=co at*
   clear q1 q2;obtain⟨U,hU⟩:∃U,wr.alloc (.cells #[sv F,.slice A6 nn c6,.int .i64 li,.int .i64 co] 85)=U:=⟨_,rfl⟩
   have Vp:Below wr.heap.size wr U:=by rw [<-hU];exact(Below.refl _ _).alloc (Nat.le_refl _) _
   obtain⟨V,hV⟩:∃V,U.alloc (.cells #[sv F,.slice A7 nn c7,.int .i64 li,.int .i64 co] 85)=V:=⟨_,rfl⟩
   have sU:U.heap.size=wr.heap.size+1:=by rw [<-hU,World.size_alloc]
   have hbV:Below wr.heap.size wr V:=by rw [<-hV];exact Vp.alloc (by omega) _
   have hvx:V.heap[wr.heap.size]? =some (.cells #[sv F,.slice A6 nn c6,.int .i64 li,.int .i64 co] 85 (0,0)):=by rw [<-hV];exact ah (by rw [<-hU];exact heap_alloc_new _ _) (Turn.alloc (fun _=>False) _ _) (fun h=>h)
   have hvy:V.heap[wr.heap.size+1]? =some (.cells #[sv F,.slice A7 nn c7,.int .i64 li,.int .i64 co] 85 (0,0)):=by rw [<-hV,<-sU];exact heap_alloc_new _ _
   have y0:=kb Vp y0;have g0:=kb Vp g0;have g1:=kb Vp g1;have g2:=kb Vp g2;have g3:=kb Vp g3;obtain⟨p0,p1,p2,p3⟩:=uD hvx;obtain⟨r0,r1,r2,r3⟩:=uD hvy;have HBV:=aZ hbV;have HBU:=aZ Vp;clear Vp hvx hvy hbr;go_wp2_with fail;refine(HT.o _ HBV.o).mono ?_;rintro e w2 ⟨rfl,hb⟩;have HB3:=aZ (HBV.o.trans (hb.mono HBV.o.size));have p0:=kb hb p0;have p2:=kb hb p2;have p3:=kb hb p3;have r0:=kb hb r0;have r2:=kb hb r2;have r3:=kb hb r3;clear hb hU hV;go_wp2_with fail
   go_roundw
   case rel=>exact⟨i+1,rfl,by omega,lY.o.trans (HB3.o.mono lY.o.size)⟩
   case measure=>simp [intOf];omega
  obtain rfl:i=a:=by omega
  clear hlt hbr;go_wp2_with fail;clear x0 x1 y0 y1 hi;go_loopw [9] (fun v9 wr=>∃i:Nat,v9=.int .i64 i∧i<=d∧Below W.heap.size W wr) (fun v9 _=>d - (intOf v9).toNat)
  case atStart=>exact⟨0,rfl,by omega,lY.o⟩
  case round=>
  obtain⟨i,rfl,hi,hbr⟩:=hrel;have lY:=aZ hbr;obtain⟨x0,x1⟩:=lJ ((hbr.block _ (block_lt HX.o)).trans HX.o);obtain⟨y0,y1⟩:=lJ ((hbr.block _ (block_lt HY.o)).trans HY.o);by_cases hlt:i<d
  ·have hil:i<ds.length:=by rw [HD.o];exact hlt
   obtain⟨b1,o1,P1,Pc1,P2,Pc2,Pk,Ps,Pn,Pl,Pc,P3,Pn3,Pc3,P4,Pn4,Pc4,P5,Pn5,Pc5,Pnd,Pmd,rfl,q1,d0,d1,d2,d3,d4,d5,d6,d7,d8,d9,Zk,Zl,Zm,Zn,Zo⟩:=Ml (Sl.more (Sl.below HS2.o hbr) hbr.size) (HR2.o.imp fun _ _ h=>(h.keep hbr).more hbr.size) hil HD.o.symm;obtain⟨b2,o2,Q1,Qc1,Q2,Qc2,Qk,Qs,Qn,Ql,Qc,Q3,Qn3,Qc3,Q4,Qn4,Qc4,Q5,Qn5,Qc5,Qnd,Qmd,rfl,q2,g0,g1,g2,g3,g4,g5,g6,g7,g8,g9,g10,g11,g12,g13,g14⟩:=Ml (Sl.more (Sl.below Bc.o hbr) hbr.size) (HR4.o.imp fun _ _ h=>(h.keep hbr).more hbr.size) hil HD.o.symm;have HC:=aZ (fun(w1:World) (h:Below wr.heap.size wr w1)=>Oo _ w1 _ _ (q1.far (Nat.le_refl _) h) (q2.far (Nat.le_refl _) h));have D0:=aZ d0;have E0:=aZ g0;have D1:=aZ d1;have E1:=aZ g1;have D2:=aZ d2;have E2:=aZ g2;have D3:=aZ d3;have E3:=aZ g3;have D4:=aZ d4;have E4:=aZ g4;have D5:=aZ d5;have E5:=aZ g5;have D6:=aZ d6;have E6:=aZ g6;have D7:=aZ d7;have E7:=aZ g7;have D8:=aZ d8;have E8:=aZ g8;have D9:=aZ d9;have E9:=aZ g9;have D10:=aZ Zk;have E10:=aZ g10;have D11:=aZ Zl;have E11:=aZ g11;have D12:=aZ Zm;have E12:=aZ g12;have D13:=aZ Zn;have E13:=aZ g13;have D14:=aZ Zo;have E14:=aZ g14;have X1:=aZ x1;have Y1:=aZ y1;have HB0:bR (Below wr.heap.size wr wr.drew):=aZ (aH wr 1);generalize ds[i].vars.length=nv at*
   generalize ds[i].types.length=nt at*
   generalize ds[i].exp=ex at*
   generalize ds[i].line=dl at*
   generalize ds[i].col=dc at*
   clear q1 q2 d0 d1 d2 d3 d4 d5 d6 d7 d8 d9 Zk Zl Zm Zn Zo g0 g1 g2 g3 g4 g5 g6 g7 g8 g9 g10 g11 g12 g13 g14 hbr;go_wp2_with fail;refine wp_region_held_drew (S:=fun w'=>Below wr.heap.size wr w') (by kernel_rfl) HB0.o (fun _=>?_)
   try simp only [Act.put,sq]
   refine tk 0 (.pointer (some ⟨w.heap.size,1,none⟩)) HB0.o ?_;refine jE 1 (.slice (some ⟨b1,o1,none⟩) d c2) (kU X1.o) HB0.o ?_;refine tk 2 (.int .i64 i) HB0.o ?_;refine tk 3 (.pointer (some ⟨b1,o1+i*15,none⟩)) HB0.o ?_;refine jE 4 (.agg #[sv Pnd,.bool ex,.slice P1 nv Pc1,sv Pmd,.slice P2 nt Pc2,.int .i64 Pk,.string Ps,.int .i64 Pn,.int .i64 Pl,.int .i64 Pc,.slice P3 Pn3 Pc3,.slice P4 Pn4 Pc4,.slice P5 Pn5 Pc5,.int .i64 dl,.int .i64 dc]) (Zq D0.o D1.o D2.o D3.o D4.o D5.o D6.o D7.o D8.o D9.o D10.o D11.o D12.o D13.o D14.o) HB0.o ?_;refine tk 5 (.pointer (some ⟨w.heap.size+1,1,none⟩)) HB0.o ?_;refine jE 6 (.slice (some ⟨b2,o2,none⟩) d c4) (kU Y1.o) HB0.o ?_;refine tk 7 (.int .i64 i) HB0.o ?_;refine tk 8 (.pointer (some ⟨b2,o2+i*15,none⟩)) HB0.o ?_;refine jE 9 (.agg #[sv Qnd,.bool ex,.slice Q1 nv Qc1,sv Qmd,.slice Q2 nt Qc2,.int .i64 Qk,.string Qs,.int .i64 Qn,.int .i64 Ql,.int .i64 Qc,.slice Q3 Qn3 Qc3,.slice Q4 Qn4 Qc4,.slice Q5 Qn5 Qc5,.int .i64 dl,.int .i64 dc]) (Zq E0.o E1.o E2.o E3.o E4.o E5.o E6.o E7.o E8.o E9.o E10.o E11.o E12.o E13.o E14.o) HB0.o ?_;refine wpAnyH_ready (rs:=[10]) (by kernel_rfl) (by simp) ?_;refine AllReadyH.cons rfl (fun K hK=>?_) (AllReadyH.nil);go_simp;refine(HC.o _ HB0.o).mono ?_;rintro e w2 ⟨rfl,hb⟩;have WT:=aZ (HB0.o.trans (hb.mono HB0.o.size));clear hb;refine hK.out _ _ WT.o (fun _=>?_);clear hK K
   try simp only [Act.put,sq]
   refine tk 11 (.bool true) WT.o ?_;refine wpAnyH_done (by kernel_rfl) ?_ _;go_wp2_with fail
   go_roundw
   case rel=>exact⟨i+1,rfl,by omega,lY.o.trans (WT.o.mono lY.o.size)⟩
   case measure=>simp [intOf];omega
  ·obtain rfl:i=d:=by omega
   clear hlt hbr;go_wp2_with fail;go_ret;exact⟨rfl,HB2.o.trans (lY.o.mono HB2.o.size)⟩
end Go.Proofs.YtfgjkmipfikooaaGreatDoor
