/- FM, FN, FO -/
import Derived.Test.YtfgjkmipfikooaaGreatDoorEB12
set_option linter.unusedSimpArgs false
set_option linter.unusedVariables false
set_option maxRecDepth 100000
set_option maxHeartbeats 8000000
namespace Go.Proofs.YtfgjkmipfikooaaGreatDoor
open Go.RowKit
def YE {α β:Type}(q:Pr α)(f:α->Ps β):Pr β:=match q with
 |.good a r=>f a r
 |.bad g=>.bad g
theorem Dk {α β:Type}(p:Ps α)(f:α->Ps β)(ts:List aD):au p f ts=YE (p ts) f:=by
 unfold au YE;cases p ts <;> rfl
section
variable {α:Type}{fn:Func}{tmps:Array Value}{P:World->Value->α->Prop}{bp B x:Nat}{d:Int}{w w2:World}{Q:Pr α}
theorem j5 {g:DX}(hb:wN w2 bp)(hx:w2.cell? ⟨x,0,none⟩=some (.pointer (some ⟨bp,0,none⟩)))(t:Turn (fun k=>k=bp) w w2)(hq:Q=.bad g):
  Leaves Tryz.prog fn tmps (aG P bp B d w Q) [{ target:= .fn (.func 158) #[.pointer (some ⟨x,0,none⟩)],args:= #[]}] (.panicking [{ v:= .iface 146 (.agg #[.int .i64 0,.int .i64 g.1,.int .i64 g.2.1,.int .i64 g.2.2]),recovered:=false}]) w2:=by
 obtain⟨v0,d0,hb⟩:=hb;refine leaves_cons (f:=158) (args:= #[.pointer (some ⟨x,0,none⟩)]) (by simp) (by simp [go_sem]) ?_;refine(ES w2 bp x v0 d0 _ hb hx).mono ?_;rintro e u3 w3 ⟨rfl,rfl,rfl⟩;exact aG.fail hq ⟨aA t (ak w2 bp 1 _),_,_,heap_setCell_same _ bp 1 _ _ _ hb⟩
theorem jD {v:Value}{y:α}{r:List aD}(hres:∀w3,Turn (fun k=>k=bp) w2 w3->(results fn tmps).run Tryz.prog w3=.ok v w3)
  (hk:bX w2 bp B r (d+1)) (h0:0<=d) (h1:d<100) (hx:w2.cell? ⟨x,0,none⟩=some (.pointer (some ⟨bp,0,none⟩))) (t:Turn (fun k=>k=bp) w w2) (hq:Q=.good y r) (hP:∀w3,Turn (fun k=>k=bp) w2 w3->P w3 v y):
  Leaves Tryz.prog fn tmps (aG P bp B d w Q) [{ target:= .fn (.func 158) #[.pointer (some ⟨x,0,none⟩)],args:= #[]}] .returning w2:=by
 have hk0:=hk;obtain⟨_,_,_,v0,hb,_⟩:=hk;refine leaves_cons (f:=158) (args:= #[.pointer (some ⟨x,0,none⟩)]) (by simp) (by simp [go_sem]) ?_;refine(ES w2 bp x v0 (d+1) _ hb hx).mono ?_;rintro e u3 w3 ⟨rfl,rfl,rfl⟩;have e1:wrap64 (d+1 - 1)=d:=by unfold wrap64;omega
 rw [e1];have t3:=ak w2 bp 1 (.int .i64 d);exact⟨_,hres _ t3,aG.done hq (aA t t3) (hP _ t3) (hk0.deep rfl)⟩
end
theorem Ur {w:World}{base k:Nat}{e:TypeId}{z:List Value}(hz:z.length=k)(hb:base<=w.heap.size):(w.alloc (.cells z.toArray e)).ownsRow base e k (.slice (some ⟨w.heap.size,0,none⟩) 1 1) 1 z:=
 ⟨by omega,.inr ⟨w.heap.size,1,z.toArray,rfl,hb,heap_alloc_new w _,Nat.le_refl _,by decide,by simp;omega,by simp [<-hz]⟩⟩
theorem row_one {α:Type}{R:World->(Nat->Prop)->List Value->α->Prop}{k:Nat}(hR:vU R k){w:World}{base:Nat}{F G:Nat->Prop}{e:TypeId}{z:List Value}{x:α}(hx:R w F z x)(hb:base<=w.heap.size)(hF:∀g,g<w.heap.size->F g->G g):
  iN R k e (w.alloc (.cells z.toArray e)) base G (.slice (some ⟨w.heap.size,0,none⟩) 1 1) [x]:=by
 refine⟨z,Ur (hR.len hx) hb,zX (hR.len hx) ?_⟩;have h1:R w (fun j=>j<w.heap.size∧G j) z x:=hR.mono hx fun g hg h=>⟨hg,hF g hg h⟩
 exact hR.mono (hR.turn h1 (Turn.alloc (fun _=>False) _ _) (fun _ _ _=>id)) fun g _ h=>⟨fun e=>by injection e with e;simp at e;omega,h.2⟩
theorem Rm (d:Int)(h0:0<=d)(h1:d<100)(typ:Ps bC)(wP:xX (d+1) typ)(hsf:Sf typ):xX d (FZ typ):=by
 intro w bp B ts h;have hlt:=h.lt;have hB:=h.1;obtain⟨Q,hQ⟩:∃Q,FZ typ ts=Q:=⟨_,rfl⟩
 rw [hQ]
 have HQ:bR (au (jT typ) (fun a=>au (fun ts=>qP typ ts.length [a] ts) fun l=>au (fF [45,62]) fun b=>
  if b then au typ fun r=>aJ (.mk 6 [] [] [iW l,r])else aJ (iW l)) ts=Q):=aZ hQ
 have HE:=aZ (zi (w.alloc (.cells #[.int .i64 0,.string ⟨#[]⟩,.slice none 0 0,.slice none 0 0] 57)) bp B ts d (h.below (new1 _ _)) h0 h1);clear h hQ
 go_enter_defers Tryz.func54,Tryz.ntmps54
 go_wp2_with fail;refine(HE.o).mono ?_;rintro e w1 ⟨rfl,tn,hbx,hk⟩;obtain⟨tm,hsz,hrs⟩:=bT tn;simp at hbx;have hxb:=World.block_lt_of_cell? _ _ hbx;simp at hxb;have qm:=aZ (hrs (by omega));have HT1:=aZ tm;have qj:=aZ hk;have sM:=aZ hbx;have hs1:=tm.size;have HP:=aZ (IE (d+1) typ wP hsf w1 bp B ts hk);clear tn tm hrs hk hbx;go_wp2_with fail;refine(HP.o).mono ?_;rintro e w2 h2;rcases hq:jT typ ts with g |⟨t,r2⟩
 ·obtain⟨rfl,tn,bn⟩:=h2.bY hq;clear h2;have dU:=aZ (HQ.o.symm.trans (aB hq));have tH:=aZ ((aA HT1.o tn));have hxo:=(aO sM.o tn (by omega))
  have qA:=aZ bn;clear tn bn hq;go_wp2_with fail;exact j5 qA.o hxo tH.o dU.o
 ·obtain⟨v2,rfl,tn,⟨z,rfl,hz⟩,kn⟩:=h2.aR hq;obtain⟨kz,sz,pq,pE,pF,pG,pI,pJ,rfl⟩:=hz.shape';have KO:=aZ (aO sM.o tn (by omega));have hrow:=row_one bL (base:=w1.heap.size) (G:=fun j=>w1.heap.size<=j) (e:=57) hz tn.size (fun _ _ h=>h);have fI:=aZ hrow;have ZI:=aZ ((Sf.KE hsf).good qj.o.wf hq).2.length_le;have HLEN:=aZ qj.o.2.1.1;clear hz hrow;have hs2:=tn.size;have HT2:=aZ (aA HT1.o tn);have nL:=aZ kn;have nK:bR (au (fun ts=>qP typ ts.length [t] ts) (fun l=>au (fF [45,62]) fun b=>if b then au typ fun r=>aJ (.mk 6 [] [] [iW l,r])else aJ (iW l)) r2=Q):=aZ ((aj hq).symm.trans HQ.o);have rH:=aZ (ah qm.o tn (by omega));clear h2 tn kn hq;obtain⟨A,hA⟩:∃A,qP typ r2.length [t] r2=A:=⟨_,rfl⟩
  have HA:=aZ hA
  have O9:bR (YE A (fun l=>au (fF [45,62]) (fun b=>if b then au typ fun r=>aJ (.mk 6 [] [] [iW l,r])else aJ (iW l)))=Q):=aZ (by
   have:=nK.o;rw [Dk]at this;rw [<-HA.o];exact this)
  have lZ:=aZ (nL.o.below (new1 w2 (.cells #[.int .i64 kz,sv sz,.slice pq pE pF,.slice pG pI pJ] 57)));have HT3:=aZ (aA HT2.o (Turn.alloc (fun k=>k=bp) w2 (.cells #[.int .i64 kz,sv sz,.slice pq pE pF,.slice pG pI pJ] 57)));have HRW:=aZ (ah rH.o (Turn.alloc (fun _=>False) w2 (.cells #[.int .i64 kz,sv sz,.slice pq pE pF,.slice pG pI pJ] 57)) id);have HXW:=aZ (aO KO.o (Turn.alloc (fun _=>False) w2 (.cells #[.int .i64 kz,sv sz,.slice pq pE pF,.slice pG pI pJ] 57)) id);clear hA;go_wp2_with fail;go_loopw [3] (fun v3 wr=>∃(f:Nat) (l:List bC) (r:List aD),iN nY 4 57 wr w1.heap.size (fun j=>w1.heap.size<=j) v3 l∧l≠[]∧qP typ f l r=A∧r.length<=f∧l.length+r.length<=8194∧Turn (fun k=>k=bp) w wr∧w1.heap.size<=wr.heap.size∧bX wr bp B r (d+1)∧wr.cell? ⟨w.heap.size+1,0,none⟩=some (.pointer (some ⟨bp,0,none⟩))∧wr.heap[w.heap.size]? =some (.cells #[.int .i64 0,.string ⟨#[]⟩,.slice none 0 0,.slice none 0 0] 57 (0,0))) (fun _ wr=>leftOf wr bp)
  case atStart=>exact⟨_,[t],r2,fI.o,by simp,HA.o,Nat.le_refl _,by have:=ZI.o;have:=HLEN.o;simp;omega,HT3.o,by simp;omega,lZ.o,HXW.o,HRW.o⟩
  case round=>
   obtain⟨f,l,r,hrow,hne,ha,hf,hlr,ht,hsw,hk,hx,hr⟩:=hrel;have hwf:=hk.wf;have hpos:=hwf.pos;obtain⟨f,rfl⟩:∃f',f=f'+1:=⟨f - 1,by omega⟩
   have ZJ:bR (au (fF [124]) (fun b=>if b then au (jT typ) fun a=>qP typ f (l++[a])else aJ l) r=A):=aZ ha;have YF:=aZ hk.left;have HF:=aZ hf;have Tn:=aZ hlr;have Rn:=aZ ht;have YG:=aZ hk;have HXR:=aZ hx;have HRR:=aZ hr;have Ej:=aZ hwf;have HH:=aZ (lF wr bp B r (d+1) hk [124]);have HPO:=aZ hpos;have VA:=aZ hrow;obtain⟨Al,cl,hvl,hcl,hml⟩:=hrow.shape;subst hvl;clear hrow ha hf hlr ht hk hx hr hwf hpos;go_wp2_with fail;refine(HH.o).mono ?_;rintro e w3 h3;rcases hq:fF [124] r with g |⟨b,r3⟩
   ·obtain⟨rfl,tn,bn⟩:=h3.bY hq;exact(je hq).elim
   ·obtain⟨v3,rfl,tn,rfl,kn⟩:=h3.aR hq;have hq3:=aZ hq;have HX3:=aZ (aO HXR.o tn (by omega));have ru:=aZ (VA.o.turn bL tn (fun g hg e=>by have:=(VA.o.lt g hg).1;omega) (fun g _ hg e=>by omega));have hs3:=tn.size;have HT3:=aZ (aA Rn.o tn);have lZ:=aZ kn;have EX:=aZ (ah HRR.o tn (by omega));clear h3 tn kn hq;cases b
    ·have HA3:bR (Pr.good l r3=A):=aZ ((aj hq3.o).symm.trans ZJ.o);have jO:bR (au (fF [45,62]) (fun b=>if b then au typ fun r=>aJ (.mk 6 [] [] [iW l,r])else aJ (iW l)) r3=Q):=aZ (by have:=O9.o;rw [<-HA3.o]at this;exact this);have WQ:=aZ hne;obtain⟨ys,hy,hrr⟩:=ru.o;obtain⟨ta,l',rfl⟩:∃a l',l=a :: l':=by cases l with |nil=>exact absurd rfl hne |cons a l'=>exact⟨a,l',rfl⟩
     obtain⟨g0,c9,hg0,hgb,hgs,Yy,hm9⟩:=dR hy (by simp);injection hg0 with hg0 hg1 hg2;subst hg0 hg2;cases hrr with
     | @cons z0 y0 _ _ hz0 hx0 hrt=>
      obtain⟨k0,s0,Ro,n10,c10,Rp,n20,c20,rfl⟩:=hx0.shape';have o0:=(bf hy rfl (i:=0) (u:= .int .i64 k0) rfl).1;have o1:=(bf hy rfl (i:=1) (u:=sv s0) rfl).1;have o2:=(bf hy rfl (i:=2) (u:= .slice Ro n10 c10) rfl).1;have o3:=(bf hy rfl (i:=3) (u:= .slice Rp n20 c20) rfl).1;have HZ0:=aZ (hx0.mono (G:=fun j=>w1.heap.size<=j) (fun _ _ h=>h.2));have hll:((ta :: l').length:Int)=(l'.length:Int)+1:=by simp
      clear hy hx0 hrt hz0 hne;cases l' with
      |nil=>
       simp only [List.length_nil]at*
       have HN:=aZ (lF (w3.alloc (.cells #[.int .i64 k0,sv s0,.slice Ro n10 c10,.slice Rp n20 c20] 57)) bp B r3 (d+1) (lZ.o.below (new1 _ _)) [45,62]);go_wp2_with fail;refine(HN.o).mono ?_;rintro e w4 h4;rcases hq:fF [45,62] r3 with g |⟨b,r4⟩
       ·obtain⟨rfl,tn,bn⟩:=h4.bY hq;exact(je hq).elim
       ·obtain⟨v4,rfl,tn,rfl,kn⟩:=h4.aR hq;obtain⟨tm,ZH,hbt⟩:=bT tn;have nJ:=aZ (hbt (by omega));have hq4:=aZ hq;have CS:=aZ (aO HX3.o tm (by omega));have Q7:bR (nY w4 (fun j=>w1.heap.size<=j) [.int .i64 k0,sv s0,.slice Ro n10 c10,.slice Rp n20 c20] (iW [ta])):=aZ (HZ0.o.turn tm (fun g _ h e=>by omega));clear hbt;have hs4:=tm.size;have iX:=aZ (aA HT3.o tm);have mR:=aZ kn;have uK:=aZ (ah EX.o tm (by omega));clear h4 tn kn hq;cases b
        ·have iF:bR (Pr.good (iW ([ta])) r4=Q):=aZ ((aj hq4.o).symm.trans jO.o);obtain⟨e0,e1,e2,e3,ez⟩:=dA nJ.o;obtain⟨c0,c1,c2,c3,cz⟩:=dA uK.o;go_wp2_with fail;have tF:=eO w4 w.heap.size (.int .i64 k0) (sv s0) (.slice Ro n10 c10) (.slice Rp n20 c20)
         exact jD (fun w9 t9=>bD rfl rfl (ah (bA uK.o _ _ _ _) t9 (by omega)) Tryz.underlying57 rfl (by kernel_rfl)) (mR.o.yc (by omega)) h0 h1 (aO CS.o tF (by omega)) (kS iX.o (by omega)) iF.o.symm
          (fun w9 t9=>⟨[.int .i64 k0,sv s0,.slice Ro n10 c10,.slice Rp n20 c20],rfl,((Q7.o.turn tF (fun g _ h e=>by omega)).turn t9 (fun g _ h e=>by omega)).mono (fun g _ h=>by omega)⟩)
        ·have iF:bR (au typ (fun r=>aJ (bC.mk 6 [] [] [iW ([ta]),r])) r4=Q):=aZ ((aj hq4.o).symm.trans jO.o);obtain⟨e0,e1,e2,e3,ez⟩:=dA nJ.o;have PT:=aZ (fun(w':World) (h:Turn (fun j=>j=bp) w4 w')=>(⟨aO e0 h (by omega),aO e1 h (by omega),aO e2 h (by omega),aO e3 h (by omega)⟩:w'.cell? ⟨w3.heap.size,0,none⟩=some (.int .i64 k0)∧w'.cell? ⟨w3.heap.size,1,none⟩=some (sv s0)∧w'.cell? ⟨w3.heap.size,2,none⟩=some (.slice Ro n10 c10)∧w'.cell? ⟨w3.heap.size,3,none⟩=some (.slice Rp n20 c20)));have HD0:bR (Turn (fun j=>j=bp) w4 w4.drew):=aZ ⟨rfl,rfl,rfl,Nat.le_refl _,fun _ _ _=>rfl⟩;have El:=aZ (wP w4.drew bp B r4 mR.o);clear e0 e1 e2 e3 ez;go_wp2_with fail;refine dn (S:=fun w'=>Turn (fun j=>j=bp) w4 w') (x:=5) (by kernel_rfl) ?_
         try simp only [Act.put,sq]
         refine nM 0 (.agg #[.int .i64 k0,sv s0,.slice Ro n10 c10,.slice Rp n20 c20]) PT.o HD0.o (hQ:=gW rfl (by decide)) ?_;refine tx 1 (.pointer (some ⟨bp,0,none⟩)) HD0.o (hQ:=gW rfl (by decide)) ?_;refine ay (rs:=[2]) (by kernel_rfl) (by simp) ?_;refine av.cons rfl (fun K hK=>?_) (av.nil);go_simp;refine(El.o).mono ?_;rintro e w5 h5;rcases hq:typ r4 with g |⟨x5,r5⟩
         ·obtain⟨rfl,tn,bn⟩:=h5.bY hq;have t5:=aA HD0.o tn;exact j5 bn (aO CS.o t5 (by omega)) (aA iX.o t5) (iF.o.symm.trans (aB hq))
         ·obtain⟨v5,rfl,tn,⟨z5,rfl,DY⟩,kn⟩:=h5.aR hq;obtain⟨k5,s5,zn,n15,c15,zo,n25,zq,rfl⟩:=DY.shape';have iQ:=aZ (aA HD0.o tn);have hs5:=iQ.o.size;have ql:=aZ kn;have zZ:=aZ (DY.mono (G:=fun j=>w1.heap.size<=j) (fun g _ h=>by have h:w4.heap.size<=g:=h;omega));have jF:bR (Pr.good (bC.mk 6 [] [] [iW ([ta]),x5]) r5=Q):=aZ ((aj hq).symm.trans iF.o);clear h5 tn DY kn hq;refine hK.out _ _ iQ.o ?_;clear hK K
          try simp only [Act.put,sq]
          refine ay (rs:=[3]) (by kernel_rfl) (by simp) ?_;refine av.cons rfl (fun K hK=>?_) (av.nil);go_simp;have pK:=aZ (aA iQ.o (Turn.alloc (fun k=>k=bp) w5 (.cells #[.int .i64 k0,sv s0,.slice Ro n10 c10,.slice Rp n20 c20,.int .i64 k5,sv s5,.slice zn n15 c15,.slice zo n25 zq] 57)));refine hK.out _ _ pK.o ?_;clear hK K
          try simp only [Act.put,sq]
          refine tx 4 (.agg #[.int .i64 6,.string ⟨#[]⟩,.slice none 0 0,.slice (some ⟨w5.heap.size,0,none⟩) 2 2]) pK.o (hQ:=gW rfl (by decide)) ?_;have FX:=aZ (ah uK.o pK.o (by omega));obtain⟨c0,c1,c2,c3,cz⟩:=dA FX.o;refine ay (rs:=[5]) (by kernel_rfl) (by simp) ?_;refine av.past rfl (by kernel_rfl) (fun K hK=>?_) (av.nil);go_simp;refine hK.out _ _ ?_;clear hK K
          try simp only [Act.put,sq]
          refine aV (by kernel_rfl) ?_ _;have tA:=Turn.alloc (fun _=>False) w5 (.cells #[.int .i64 k0,sv s0,.slice Ro n10 c10,.slice Rp n20 c20,.int .i64 k5,sv s5,.slice zn n15 c15,.slice zo n25 zq] 57);have tF:=eO (w5.alloc (.cells #[.int .i64 k0,sv s0,.slice Ro n10 c10,.slice Rp n20 c20,.int .i64 k5,sv s5,.slice zn n15 c15,.slice zo n25 zq] 57)) w.heap.size (.int .i64 6) (sv []) (.slice none 0 0) (.slice (some ⟨w5.heap.size,0,none⟩) 2 2);have y1:=((Q7.o.turn iQ.o (fun g _ h e=>by omega)).turn tA (fun _ _ _=>id)).turn tF (fun g _ h e=>by omega);have y2:=(zZ.o.turn tA (fun _ _ _=>id)).turn tF (fun g _ h e=>by omega);have y3:=(j4 w5 #[.int .i64 k0,sv s0,.slice Ro n10 c10,.slice Rp n20 c20,.int .i64 k5,sv s5,.slice zn n15 c15,.slice zo n25 zq] 57 4 2 rfl (by decide)).turn tF (fun g _ h e=>by omega);go_wp2_with fail
          exact jD (fun w9 t9=>bD rfl rfl (ah (bA FX.o _ _ _ _) t9 (by omega)) Tryz.underlying57 rfl (by kernel_rfl)) ((ql.o.below (new1 _ _)).yc (by omega)) h0 h1 (aO (aO CS.o pK.o (by omega)) tF (by omega)) (kS (aA iX.o pK.o) (by omega)) jF.o.symm
           (fun w9 t9=>⟨_,rfl,.mk (eD.nil _ _ _) ((y3.turn t9 (fun g _ h e=>by omega)).mono (fun g _ h=>by omega)) (.cons ((y1.turn t9 (fun g _ h e=>by omega)).mono (fun g _ h=>by omega)) (.cons ((y2.turn t9 (fun g _ h e=>by omega)).mono (fun g _ h=>by omega)) .nil))⟩)
      |cons Di l2=>
       have hgt:decide ((1:Int)<(l2.length:Int)+1+1)=true:=by simp;omega
       obtain⟨xsu,ku1,ku2⟩:=ru.o.sl bL;have KU1:=aZ ku1;have KU2:=aZ ku2;clear ku1 ku2;have HN:=aZ (lF (w3.alloc (.cells #[.int .i64 7,.string ⟨#[]⟩,.slice none 0 0,.slice (some ⟨g0,0,none⟩) (l2.length+1+1) cl] 57)) bp B r3 (d+1) (lZ.o.below (new1 _ _)) [45,62]);go_wp2_with fail;refine(HN.o).mono ?_;rintro e w4 h4;rcases hq:fF [45,62] r3 with g |⟨b,r4⟩
       ·obtain⟨rfl,tn,bn⟩:=h4.bY hq;exact(je hq).elim
       ·obtain⟨v4,rfl,tn,rfl,kn⟩:=h4.aR hq;obtain⟨tm,ZH,hbt⟩:=bT tn;have nJ:=aZ (hbt (by omega));have hq4:=aZ hq;have CS:=aZ (aO HX3.o tm (by omega));have Q7:bR (nY w4 (fun j=>w1.heap.size<=j) [.int .i64 7,.string ⟨#[]⟩,.slice none 0 0,.slice (some ⟨g0,0,none⟩) (l2.length+1+1) cl] (iW (ta :: Di :: l2))):=aZ (.mk (eD.nil _ _ _) ((KU1.o.turn tm (fun g _ h e=>by rcases h with h |h <;> omega)).mono (fun g _ h=>by rcases h with h |h <;> omega)) (sI (eX bL (fun g _ h=>by rcases h with h |h <;> omega) (bU bL tm (fun g _ h e=>by rcases h with h |h <;> omega) KU2.o))));clear hbt;have hs4:=tm.size;have iX:=aZ (aA HT3.o tm);have mR:=aZ kn;have uK:=aZ (ah EX.o tm (by omega));clear h4 tn kn hq;cases b
        ·have iF:bR (Pr.good (iW (ta :: Di :: l2)) r4=Q):=aZ ((aj hq4.o).symm.trans jO.o);obtain⟨e0,e1,e2,e3,ez⟩:=dA nJ.o;obtain⟨c0,c1,c2,c3,cz⟩:=dA uK.o;go_wp2_with fail;have tF:=eO w4 w.heap.size (.int .i64 7) (.string ⟨#[]⟩) (.slice none 0 0) (.slice (some ⟨g0,0,none⟩) (l2.length+1+1) cl)
         exact jD (fun w9 t9=>bD rfl rfl (ah (bA uK.o _ _ _ _) t9 (by omega)) Tryz.underlying57 rfl (by kernel_rfl)) (mR.o.yc (by omega)) h0 h1 (aO CS.o tF (by omega)) (kS iX.o (by omega)) iF.o.symm
          (fun w9 t9=>⟨[.int .i64 7,.string ⟨#[]⟩,.slice none 0 0,.slice (some ⟨g0,0,none⟩) (l2.length+1+1) cl],rfl,((Q7.o.turn tF (fun g _ h e=>by omega)).turn t9 (fun g _ h e=>by omega)).mono (fun g _ h=>by omega)⟩)
        ·have iF:bR (au typ (fun r=>aJ (bC.mk 6 [] [] [iW (ta :: Di :: l2),r])) r4=Q):=aZ ((aj hq4.o).symm.trans jO.o);obtain⟨e0,e1,e2,e3,ez⟩:=dA nJ.o;have PT:=aZ (fun(w':World) (h:Turn (fun j=>j=bp) w4 w')=>(⟨aO e0 h (by omega),aO e1 h (by omega),aO e2 h (by omega),aO e3 h (by omega)⟩:w'.cell? ⟨w3.heap.size,0,none⟩=some (.int .i64 7)∧w'.cell? ⟨w3.heap.size,1,none⟩=some (.string ⟨#[]⟩)∧w'.cell? ⟨w3.heap.size,2,none⟩=some (.slice none 0 0)∧w'.cell? ⟨w3.heap.size,3,none⟩=some (.slice (some ⟨g0,0,none⟩) (l2.length+1+1) cl)));have HD0:bR (Turn (fun j=>j=bp) w4 w4.drew):=aZ ⟨rfl,rfl,rfl,Nat.le_refl _,fun _ _ _=>rfl⟩;have El:=aZ (wP w4.drew bp B r4 mR.o);clear e0 e1 e2 e3 ez;go_wp2_with fail;refine dn (S:=fun w'=>Turn (fun j=>j=bp) w4 w') (x:=5) (by kernel_rfl) ?_
         try simp only [Act.put,sq]
         refine nM 0 (.agg #[.int .i64 7,.string ⟨#[]⟩,.slice none 0 0,.slice (some ⟨g0,0,none⟩) (l2.length+1+1) cl]) PT.o HD0.o (hQ:=gW rfl (by decide)) ?_;refine tx 1 (.pointer (some ⟨bp,0,none⟩)) HD0.o (hQ:=gW rfl (by decide)) ?_;refine ay (rs:=[2]) (by kernel_rfl) (by simp) ?_;refine av.cons rfl (fun K hK=>?_) (av.nil);go_simp;refine(El.o).mono ?_;rintro e w5 h5;rcases hq:typ r4 with g |⟨x5,r5⟩
         ·obtain⟨rfl,tn,bn⟩:=h5.bY hq;have t5:=aA HD0.o tn;exact j5 bn (aO CS.o t5 (by omega)) (aA iX.o t5) (iF.o.symm.trans (aB hq))
         ·obtain⟨v5,rfl,tn,⟨z5,rfl,DY⟩,kn⟩:=h5.aR hq;obtain⟨k5,s5,zn,n15,c15,zo,n25,zq,rfl⟩:=DY.shape';have iQ:=aZ (aA HD0.o tn);have hs5:=iQ.o.size;have ql:=aZ kn;have zZ:=aZ (DY.mono (G:=fun j=>w1.heap.size<=j) (fun g _ h=>by have h:w4.heap.size<=g:=h;omega));have jF:bR (Pr.good (bC.mk 6 [] [] [iW (ta :: Di :: l2),x5]) r5=Q):=aZ ((aj hq).symm.trans iF.o);clear h5 tn DY kn hq;refine hK.out _ _ iQ.o ?_;clear hK K
          try simp only [Act.put,sq]
          refine ay (rs:=[3]) (by kernel_rfl) (by simp) ?_;refine av.cons rfl (fun K hK=>?_) (av.nil);go_simp;have pK:=aZ (aA iQ.o (Turn.alloc (fun k=>k=bp) w5 (.cells #[.int .i64 7,.string ⟨#[]⟩,.slice none 0 0,.slice (some ⟨g0,0,none⟩) (l2.length+1+1) cl,.int .i64 k5,sv s5,.slice zn n15 c15,.slice zo n25 zq] 57)));refine hK.out _ _ pK.o ?_;clear hK K
          try simp only [Act.put,sq]
          refine tx 4 (.agg #[.int .i64 6,.string ⟨#[]⟩,.slice none 0 0,.slice (some ⟨w5.heap.size,0,none⟩) 2 2]) pK.o (hQ:=gW rfl (by decide)) ?_;have FX:=aZ (ah uK.o pK.o (by omega));obtain⟨c0,c1,c2,c3,cz⟩:=dA FX.o;refine ay (rs:=[5]) (by kernel_rfl) (by simp) ?_;refine av.past rfl (by kernel_rfl) (fun K hK=>?_) (av.nil);go_simp;refine hK.out _ _ ?_;clear hK K
          try simp only [Act.put,sq]
          refine aV (by kernel_rfl) ?_ _;have tA:=Turn.alloc (fun _=>False) w5 (.cells #[.int .i64 7,.string ⟨#[]⟩,.slice none 0 0,.slice (some ⟨g0,0,none⟩) (l2.length+1+1) cl,.int .i64 k5,sv s5,.slice zn n15 c15,.slice zo n25 zq] 57);have tF:=eO (w5.alloc (.cells #[.int .i64 7,.string ⟨#[]⟩,.slice none 0 0,.slice (some ⟨g0,0,none⟩) (l2.length+1+1) cl,.int .i64 k5,sv s5,.slice zn n15 c15,.slice zo n25 zq] 57)) w.heap.size (.int .i64 6) (sv []) (.slice none 0 0) (.slice (some ⟨w5.heap.size,0,none⟩) 2 2);have y1:=((Q7.o.turn iQ.o (fun g _ h e=>by omega)).turn tA (fun _ _ _=>id)).turn tF (fun g _ h e=>by omega);have y2:=(zZ.o.turn tA (fun _ _ _=>id)).turn tF (fun g _ h e=>by omega);have y3:=(j4 w5 #[.int .i64 7,.string ⟨#[]⟩,.slice none 0 0,.slice (some ⟨g0,0,none⟩) (l2.length+1+1) cl,.int .i64 k5,sv s5,.slice zn n15 c15,.slice zo n25 zq] 57 4 2 rfl (by decide)).turn tF (fun g _ h e=>by omega);go_wp2_with fail
          exact jD (fun w9 t9=>bD rfl rfl (ah (bA FX.o _ _ _ _) t9 (by omega)) Tryz.underlying57 rfl (by kernel_rfl)) ((ql.o.below (new1 _ _)).yc (by omega)) h0 h1 (aO (aO CS.o pK.o (by omega)) tF (by omega)) (kS (aA iX.o pK.o) (by omega)) jF.o.symm
           (fun w9 t9=>⟨_,rfl,.mk (eD.nil _ _ _) ((y3.turn t9 (fun g _ h e=>by omega)).mono (fun g _ h=>by omega)) (.cons ((y1.turn t9 (fun g _ h e=>by omega)).mono (fun g _ h=>by omega)) (.cons ((y2.turn t9 (fun g _ h e=>by omega)).mono (fun g _ h=>by omega)) .nil))⟩)
    ·have jO:bR (au (jT typ) (fun a=>qP typ f (l++[a])) r3=A):=aZ ((aj hq3.o).symm.trans ZJ.o);have VB:=aZ (vD hq3.o HPO.o);have HP:=aZ (IE (d+1) typ wP hsf w3 bp B r3 lZ.o);go_wp2_with fail;refine(HP.o).mono ?_;rintro e w4 h4;rcases hq:jT typ r3 with g |⟨t4,r4⟩
     ·obtain⟨rfl,tn,bn⟩:=h4.bY hq;clear h4;have dU:=aZ (O9.o.symm.trans (congrArg (fun q=>YE q _) (jO.o.symm.trans (aB hq))));have tH:=aZ ((aA HT3.o tn));have hxo:=(aO HX3.o tn (by omega))
      have qA:=aZ bn;clear tn bn hq;go_wp2_with fail;exact j5 qA.o hxo tH.o dU.o
     ·obtain⟨v4,rfl,tn,⟨z4,rfl,hz⟩,kn⟩:=h4.aR hq;obtain⟨k4,s4,qd,n14,c14,qg,n24,c24,rfl⟩:=hz.shape';have CS:=aZ (aO HX3.o tn (by omega));have zu:=aZ hz;have xB:=aZ tn;have ZI:=aZ ((Sf.KE hsf).good lZ.o.wf hq).2.length_le;clear hz;have hs4:=tn.size;have iX:=aZ (aA HT3.o tn);have mR:=aZ kn;have iF:bR (qP typ f (l++[t4]) r4=A):=aZ ((aj hq).symm.trans jO.o);have uK:=aZ (ah EX.o tn (by omega));clear h4 tn kn hq;obtain⟨ys,hy,hrr⟩:=ru.o;have hyl:ys.length=l.length*4:=hy.1;have ZK:=dL hy xB.o (fun g hg e=>by have:=(hy.lt g hg).1;omega);have HY:=aZ hy;have HRR:=aZ hrr;have HYW:=aZ ZK;have hl8:l.length<=8194:=by have:=Tn.o;omega
      clear hy hrr ZK;go_wp2_with (at_builtin;go_must (refine jh rfl (.tmp 14) (.tmp 17) _ rfl w1.heap.size Df _ _ rfl rfl (HYW.o.alloc (.cells #[.int .i64 k4,sv s4,.slice qd n14 c14,.slice qg n24 c24] 57)) (iB w4 #[.int .i64 k4,sv s4,.slice qd n14 c14,.slice qg n24 c24] 57 4 1 rfl (by decide)) (Mx k4 s4 _ _ _ _ _ _) (by simp [maxLen];omega) (by simp;omega) (by simp;omega) (fun v9 w9 n9 iI wD nQ=>?_));have yg:=aZ iI;have Tq:=aZ wD;have F5:=aZ nQ;clear iI wD nQ);have ta:=Turn.alloc (fun j=>(Value.slice Al l.length cl).ownBlock=some j) w4 (.cells #[.int .i64 k4,sv s4,.slice qd n14 c14,.slice qg n24 c24] 57);have t9:=ta.trans (Turn.bP Tq.o (F:=fun j=>(Value.slice Al l.length cl).ownBlock=some j) (fun _ h=>h)) (fun _ _ h=>h);have KP:=ru.o.lt;have Dl:=iN.push bL (F:=fun j=>w1.heap.size<=j) HY.o HRR.o xB.o zu.o t9 (fun j _ h=>.inl h) (F5.o.imp id fun e=>⟨_,by simp,e⟩) yg.o (by omega) (by omega) (fun j hj=>by omega)
      go_roundw
      case rel=>exact⟨f,_,r4,Dl,by simp,iF.o,by have:=ZI.o;have:=VB.o;have:=HF.o;omega,by have:=ZI.o;have:=VB.o;have:=Tn.o;simp;omega,iX.o.trans t9 (fun i hi e=>by have:=(KP i e).1;omega),by have:=t9.size;omega,mR.o.turn t9 (fun e=>by have:=(KP _ e).1;omega) (fun k hk e=>by have:=(KP _ e).1;omega),aO CS.o t9 (fun e=>by have:=(KP _ e).1;omega),ah uK.o t9 (fun e=>by have:=(KP _ e).1;omega)⟩
      case measure=>rw [(mR.o.turn t9 (fun e=>by have:=(KP _ e).1;omega) (fun k hk e=>by have:=(KP _ e).1;omega)).left,YF.o];have:=ZI.o;have:=VB.o;omega
theorem Rq:xX 100 (mh 6):=by
 intro w bp B ts h;have HE:=aZ (wO (w.alloc (.cells #[.int .i64 0,.string ⟨#[]⟩,.slice none 0 0,.slice none 0 0] 57)) bp B ts (h.below (new1 _ _)));clear h
 go_enter_defers Tryz.func54,Tryz.ntmps54
 go_wp2_with fail;refine(HE.o).mono ?_;rintro e w1 ⟨rfl,hb⟩;go_wp2_with fail;exact aG.fail (P:=PTy w.heap.size) (B:=B) (d:=100) (q:=mh 6 ts) rfl ⟨(bT hb.1).1,hb.2⟩
theorem BK:∀n:Nat,n<=100->xX (100 - (n:Int)) (aU n).typ
 |0,_=>Rq
 |n+1,h=>by
  have ih:=BK n (by omega);have e:(100:Int) - ((n+1:Nat):Int)+1=100 - (n:Int):=by omega
  refine Rm (100 - ((n+1:Nat):Int)) (by omega) (by omega) (aU n).typ ?_ (Sf.O8 n).1;rw [e];exact ih
abbrev Xe (base:Nat)(w:World)(v:Value)(l:List bC):Prop:=iN nY 4 57 w base (fun j=>base<=j) v l
theorem IG {α:Type}{R:World->(Nat->Prop)->List Value->α->Prop}{k:Nat}(hR:vU R k){w:World}{F:Nat->Prop}:∀{ys:List Value}{l:List α},dH (R w F) k ys l->∀u∈ys,u.oneCell'=true
 |_,_,.nil=>fun _ h=>by cases h
 |_,_,.cons h1 h2 h3=>fun u hu=>by
  rcases List.mem_append.1 hu with h |h
  ·exact hR.one h2 u h
  ·exact IG hR h3 u h
theorem Us {base bp:Nat}{w w6 w9:World}{v v7:Value}{l:List bC}{x:bC}{z:List Value}{o:Obj}{n7:Nat}{ys:List Value}(hy:w.ownsRow base 57 4 v l.length ys)(hr:dH (nY w (uI (fun j=>base<=j) v)) 4 ys l)(t:Turn (fun k=>k=bp) w w6)(hbp:bp<base)(hs:base<=w.heap.size)
  (hx:nY w6 (fun j=>w.heap.size<=j) z x) (hg:(w6.alloc o).grownBy w9 v.ownBlock) (hbk:v7.ownBlock=v.ownBlock∨v7.ownBlock=some (w6.alloc o).heap.size) (h7:w9.ownsRow base 57 4 v7 n7 (ys++z)):Xe base w9 v7 (l++[x])∧Turn (fun j=>v.ownBlock=some j) w6 w9:=by
 have t9:=(Turn.alloc (fun j=>v.ownBlock=some j) w6 o).trans (Turn.bP hg (F:=fun j=>v.ownBlock=some j) (fun _ h=>h)) (fun _ _ h=>h);exact⟨iN.push bL (F:=fun j=>base<=j) hy hr t hx t9 (fun j _ h=>.inl h) (hbk.imp id fun e=>⟨_,by simp,e⟩) h7 (by omega) (by omega) (fun j hj=>by omega),t9⟩
theorem Ut {base:Nat}{w w9:World}{v v7:Value}{l m:List bC}{ys ms:List Value}{n7:Nat}(hy:w.ownsRow base 57 4 v l.length ys)(hr:dH (nY w (uI (fun j=>base<=j) v)) 4 ys l)(hm:dH (nY w (uI (fun j=>base<=j) v)) 4 ms m)
  (hg:w.grownBy w9 v.ownBlock) (hbk:v7.ownBlock=v.ownBlock∨v7.ownBlock=some w.heap.size) (h7:w9.ownsRow base 57 4 v7 n7 (ys++ms)):Xe base w9 v7 (l++m):=by
 have tg:=Turn.bP hg (F:=fun j=>v.ownBlock=some j) (fun _ h=>h);have hnew:∀j,j<w.heap.size->v7.ownBlock=some j->v.ownBlock=some j:=fun j hj e=>by
  rcases hbk with hb |hb
  ·rw [hb]at e;exact e
  ·rw [hb]at e;injection e with e;omega
 have hrow:=dH.app hm hr;have hn:n7=(l++m).length:=by
  have e1:=h7.1;have e2:=hrow.len;omega
 subst hn;refine⟨_,h7,hrow.imp fun _ _ h=>?_⟩;have h3:nY w (fun j=>j<w.heap.size∧uI (fun j=>base<=j) v j) _ _:=h.mono fun j hj h=>⟨hj,h⟩
 exact(h3.turn tg (fun j _ h e=>h.2.1 e)).mono fun j _ h=>⟨fun e=>h.2.1 (hnew j h.1 e),h.2.2⟩
theorem zw (d:Int)(typ:Ps bC)(wP:xX d typ)(hsf:Sf typ)(w:World)(bp B base:Nat)(ts:List aD)(h:bX w bp B ts d)(v v':Value)(l m:List bC)(ms:List Value)(hv:Xe base w v l)(hm:eD w (fun j=>j≠bp) 4 v' ms)(hmr:dH (nY w (uI (fun j=>base<=j) v)) 4 ms m)(hl:l.length<=4)(hml:m.length<=4)(hbp:bp<base)(hs:base<=w.heap.size):
  Calls Tryz.prog 107 #[.pointer (some ⟨bp,0,none⟩),v,v'] w (gQ (Xe base) (fun k=>k=bp∨v.ownBlock=some k) bp B d w (jd typ l m ts)):=by
 have hlt:=h.lt;have hB:=h.1;obtain⟨Al,cl,hvl,hcl,hcm⟩:=hv.shape;subst hvl;obtain⟨Am,nm,cm,ZL,hlm,hnm,hcm2,hxm⟩:=hm;have hm:eD w (fun j=>j≠bp) 4 v' ms:=⟨Am,nm,cm,ZL,hlm,hnm,hcm2,hxm⟩
 subst ZL;have ZM:=hmr.len;obtain⟨Q,hQ⟩:∃Q,jd typ l m ts=Q:=⟨_,rfl⟩
 rw [hQ];have HQ:bR (au (fF [58]) (fun b=>if b then au typ fun t=>aJ (l++[t])else aJ (l++m)) ts=Q):=aZ hQ;have HH:=aZ (lF w bp B ts d h [58]);have HV:=aZ hv;have HM:=aZ hm;have ZN:=aZ hmr;clear h hQ hv hm hmr hxm;go_enter Tryz.func107,Tryz.ntmps107;go_wp2_with fail;refine(HH.o).mono ?_;rintro e w1 h1;rcases hq:fF [58] ts with g |⟨b,r1⟩
 ·obtain⟨rfl,tn,bn⟩:=h1.bY hq;exact(je hq).elim
 ·obtain⟨v1,rfl,tn,rfl,kn⟩:=h1.aR hq;have hq1:=aZ hq;have Tj:=aZ (HV.o.turn bL tn (fun g hg e=>by have:=(HV.o.lt g hg).1;omega) (fun g _ hg e=>by omega));have HM1:=aZ (bU bL tn (fun g _ hg e=>by have:=hg.2;omega) ZN.o);have rz:=aZ (eD.turn HM.o tn (fun g _ h e=>h e));have ag3:=tn.size;have hs1:=tn.size;have HT1:=aZ (tn);have qj:=aZ kn;clear h1 tn kn hq;cases b
  ·have nK:bR (Pr.good (l++m) r1=Q):=aZ ((aj hq1.o).symm.trans HQ.o);obtain⟨ys,hy,hrr⟩:=Tj.o;have hyl:ys.length=l.length*4:=hy.1;have HY:=aZ hy;have HRR:=aZ hrr;have HON:=aZ (IG bL HM1.o);clear hy hrr;go_wp2_with (at_builtin;go_must (refine jh rfl (.tmp 16) (.tmp 17) _ rfl base Df _ _ rfl rfl HY.o rz.o.all HON.o (by rw [ZM];unfold maxLen;omega) (by rw [ZM];omega) (by omega) (fun v9 w9 n9 iI wD nQ=>?_));have yg:=aZ iI;have Tq:=aZ wD;have F5:=aZ nQ;clear iI wD nQ);have tg:=Turn.bP Tq.o (F:=fun j=>(Value.slice Al l.length cl).ownBlock=some j) (fun _ h=>h);have hlo:=Tj.o.lt;go_ret;exact gQ.done nK.o.symm ((HT1.o.mono (G:=fun k=>k=bp∨(Value.slice Al l.length cl).ownBlock=some k) (fun _ _ h=>.inl h)).trans tg (fun _ _ h=>.inr h)) (Ut HY.o HRR.o HM1.o Tq.o F5.o yg.o) (qj.o.turn tg (fun e=>by have:=(hlo _ e).1;omega) (fun k hk e=>by have:=(hlo _ e).1;omega))
  ·have nK:bR (au typ (fun t=>aJ (l++[t])) r1=Q):=aZ ((aj hq1.o).symm.trans HQ.o);have El:=aZ (wP w1 bp B r1 qj.o);go_wp2_with fail;refine(El.o).mono ?_;rintro e w2 h2;rcases hq:typ r1 with g |⟨t2,r2⟩
   ·obtain⟨rfl,tn,bn⟩:=h2.bY hq;have dU:=aZ (nK.o.symm.trans (aB hq));have HB:=aZ (fA.mk2 (aA HT1.o tn) bn);clear h2 tn bn hq;go_wp2_with fail;exact⟨rfl,gQ.fail dU.o (HB.o.1.mono fun _ _ h=>.inl h) HB.o.2⟩
   ·obtain⟨v2,rfl,tn,⟨z,rfl,hz⟩,kn⟩:=h2.aR hq;obtain⟨k4,s4,qd,n14,c14,qg,n24,c24,rfl⟩:=hz.shape';have HZ:=aZ hz;have xB:=aZ tn;clear hz;have hs2:=tn.size;have HT2:=aZ (aA HT1.o tn);have nL:=aZ kn;have nK:bR (aJ (l++[t2]) r2=Q):=aZ ((aj hq).symm.trans nK.o);clear h2 tn kn hq;have acQ:bR (Pr.good (l++[t2]) r2=Q):=nK;obtain⟨ys,hy,hrr⟩:=Tj.o;have hyl:ys.length=l.length*4:=hy.1;have ZK:=dL hy xB.o (fun g hg e=>by have:=(hy.lt g hg).1;omega);have HY:=aZ hy;have HRR:=aZ hrr;have HYW:=aZ ZK;clear hy hrr ZK;go_wp2_with (at_builtin;go_must (refine jh rfl (.tmp 11) (.tmp 14) _ rfl base Df _ _ rfl rfl (HYW.o.alloc (.cells #[.int .i64 k4,sv s4,.slice qd n14 c14,.slice qg n24 c24] 57)) (iB w2 #[.int .i64 k4,sv s4,.slice qd n14 c14,.slice qg n24 c24] 57 4 1 rfl (by decide)) (Mx k4 s4 _ _ _ _ _ _) (by simp [maxLen];omega) (by simp;omega) (by simp;omega) (fun v9 w9 n9 iI wD nQ=>?_));have yg:=aZ iI;have Tq:=aZ wD;have F5:=aZ nQ;clear iI wD nQ);obtain⟨hrow,t9⟩:=Us HY.o HRR.o xB.o hbp (by omega) HZ.o Tq.o F5.o yg.o;have hlo:=Tj.o.lt;go_ret;exact gQ.done acQ.o.symm ((HT2.o.mono (G:=fun k=>k=bp∨(Value.slice Al l.length cl).ownBlock=some k) (fun _ _ h=>.inl h)).trans t9 (fun _ _ h=>.inr h)) hrow (nL.o.turn t9 (fun e=>by have:=(hlo _ e).1;omega) (fun k hk e=>by have:=(hlo _ e).1;omega))
theorem Oz {typ:Ps bC}{a:bC}{ts r:List aD}{y:List bC}(h:jd typ [] [a] ts=.good y r):y.length=1:=by
 unfold jd at h;rcases hq:fF [58] ts with g |⟨b,r1⟩
 ·exact(je hq).elim
 rw [aj hq]at h;cases b
 ·injection h with h _;rw [<-h];rfl
 ·rcases hq2:typ r1 with g |⟨t,r2⟩
  ·rw [if_pos rfl,aB hq2]at h;cases h
  ·rw [if_pos rfl,aj hq2]at h;injection h with h _;rw [<-h];rfl
def ZO (base:Nat)(w:World)(v:Value)(x:Bt ×List bC):Prop:=∃u,v=.tuple #[sv x.1,u]∧Xe base w u x.2
theorem II (d:Int)(typ:Ps bC)(wP:xX d typ)(hsf:Sf typ)(w:World)(bp B:Nat)(ts:List aD)(h:bX w bp B ts d)(v':Value)(m:List bC)(ms:List Value)(hm:eD w (fun j=>j≠bp) 4 v' ms)(hmr:∀w F,dH (nY w F) 4 ms m)(hml:m.length<=4):
  Calls Tryz.prog 109 #[.pointer (some ⟨bp,0,none⟩),v'] w (aG (ZO w.heap.size) bp B d w (kZ typ m ts)):=by
 have hlt:=h.lt;have hB:=h.1;obtain⟨Am,nm,cm,ZL,hlm,hnm,hcm2,hxm⟩:=hm;have hm:eD w (fun j=>j≠bp) 4 v' ms:=⟨Am,nm,cm,ZL,hlm,hnm,hcm2,hxm⟩
 subst ZL;obtain⟨Q,hQ⟩:∃Q,kZ typ m ts=Q:=⟨_,rfl⟩
 rw [hQ];have HQ:bR (au (aN [40]) (fun _=>au nameP fun s=>au (jd typ [] [sH]) fun l=>au (aN [41]) fun _=>au (jd typ l m) fun m=>aJ (s,m)) ts=Q):=aZ hQ;have HN:=aZ (fG w bp B ts d h [40] 9 w.heap.size);have HM:=aZ hm;clear h hQ hm hxm;go_enter Tryz.func109,Tryz.ntmps109;go_wp2_with fail;refine(HN.o).mono ?_;rintro e w1 h1;rcases hq:aN [40] ts with g |⟨u,r1⟩
 ·obtain⟨rfl,tn,bn⟩:=h1.bY hq;have HB:=aZ (fA.mk2 (tn) bn);have dU:=aZ (HQ.o.symm.trans (aB hq));clear h1 tn bn hq;go_wp2_with fail;exact⟨rfl,aG.fail dU.o HB.o⟩
 ·obtain⟨v1,rfl,tn,-,kn⟩:=h1.aR hq;have HM1:=aZ (eD.turn HM.o tn (fun g _ h e=>h e));have hs1:=tn.size;have HT1:=aZ (tn);have qj:=aZ kn;have om:bR ((au nameP fun s=>au (jd typ [] [sH]) fun l=>au (aN [41]) fun _=>au (jd typ l m) fun m=>aJ (s,m)) r1=Q):=aZ ((aj hq).symm.trans HQ.o);clear h1 tn kn hq;have WV:=aZ (gV w1 bp B r1 d qj.o);go_wp2_with fail;refine(WV.o).mono ?_;rintro e w2 h2;rcases hq:nameP r1 with g |⟨s,r2⟩
  ·obtain⟨rfl,tn,bn⟩:=h2.bY hq;have HB:=aZ (fA.mk2 (aA HT1.o tn) bn);have dU:=aZ (om.o.symm.trans (aB hq));clear h2 tn bn hq;go_wp2_with fail;exact⟨rfl,aG.fail dU.o HB.o⟩
  ·obtain⟨v2,rfl,tn,rfl,kn⟩:=h2.aR hq;have PE:=aZ (eD.turn HM1.o tn (fun g _ h e=>h e));have hs2:=tn.size;have HT2:=aZ (aA HT1.o tn);have nL:=aZ kn;have nK:bR ((au (jd typ [] [sH]) fun l=>au (aN [41]) fun _=>au (jd typ l m) fun m=>aJ (s,m)) r2=Q):=aZ ((aj hq).symm.trans om.o);clear h2 tn kn hq;have IJ:=aZ (zw d typ wP hsf (w2.alloc (.cells #[.int .i64 0,.string ⟨#[]⟩,.slice none 0 0,.slice none 0 0] 57)) bp B w.heap.size r2 (nL.o.below (new1 _ _)) (.slice none 0 0) (.slice (some ⟨w2.heap.size,0,none⟩) 1 1) [] [sH] [.int .i64 0,.string ⟨#[]⟩,.slice none 0 0,.slice none 0 0] (iN.nil _ _ _ _ _ _) ((j4 w2 #[.int .i64 0,.string ⟨#[]⟩,.slice none 0 0,.slice none 0 0] 57 4 1 rfl (by decide)).mono (fun g _ h e=>by omega)) (zX rfl (rG _ _ 0 [])) (by simp) (by simp) hlt (by simp;omega));go_wp2_with fail;refine(IJ.o).mono ?_;rintro e w3 h3;rcases hq:jd typ [] [sH] r2 with g |⟨l,r3⟩
   ·obtain⟨rfl,tn,bn⟩:=h3.bY hq;have tn:=(bT (tn.mono (G:=fun k=>k=bp) (fun k _ h=>by rcases h with h |h;exact h;cases h))).1;have HB:=aZ (fA.mk2 (aA HT2.o tn) bn);have dU:=aZ (nK.o.symm.trans (aB hq));clear h3 tn bn hq;go_wp2_with fail;exact⟨rfl,aG.fail dU.o HB.o⟩
   ·obtain⟨v3,rfl,tn,hr3,kn⟩:=h3.aR hq;obtain⟨tm,hs3,_⟩:=bT (tn.mono (G:=fun k=>k=bp) (fun k _ h=>by rcases h with h |h;exact h;cases h));obtain⟨A3,c3,hv3,hc3,hm3⟩:=hr3.shape;subst hv3;have HT3:=aZ (aA HT2.o tm);have lZ:=aZ kn;have HR3:=aZ hr3;have HM3:=aZ (eD.turn PE.o tm (fun g _ h e=>h e));have Wi:=aZ (Oz hq);have jO:bR (au (aN [41]) (fun _=>au (jd typ l m) fun m=>aJ (s,m)) r3=Q):=aZ ((aj hq).symm.trans nK.o);have Vo:=aZ (fG w3 bp B r3 d kn [41] 9 w3.heap.size);clear h3 tn tm hr3 kn hq;go_wp2_with fail;refine(Vo.o).mono ?_;rintro e w4 h4;rcases hq:aN [41] r3 with g |⟨u,r4⟩
    ·obtain⟨rfl,tn,bn⟩:=h4.bY hq;have HB:=aZ (fA.mk2 (aA HT3.o tn) bn);have dU:=aZ (jO.o.symm.trans (aB hq));clear h4 tn bn hq;go_wp2_with fail;exact⟨rfl,aG.fail dU.o HB.o⟩
    ·obtain⟨v4,rfl,tn,-,kn⟩:=h4.aR hq;have HM4:=aZ (eD.turn HM3.o tn (fun g _ h e=>h e));have HR4:=aZ (HR3.o.turn bL tn (fun g hg e=>by have:=(HR3.o.lt g hg).1;omega) (fun g _ hg e=>by omega));have hs4:=tn.size;have iX:=aZ (aA HT3.o tn);have mR:=aZ kn;have iF:bR ((au (jd typ l m) fun m=>aJ (s,m)) r4=Q):=aZ ((aj hq).symm.trans jO.o);clear h4 tn kn hq;have hll:=Wi.o;have Pb:=aZ (zw d typ wP hsf w4 bp B w.heap.size r4 mR.o (.slice A3 l.length c3) (.slice Am nm cm) l m ms HR4.o HM4.o (hmr _ _) (by omega) hml hlt (by omega));clear hll;go_wp2_with fail;refine(Pb.o).mono ?_;rintro e w5 h5;have hlo:=HR4.o.lt;rcases hq:jd typ l m r4 with g |⟨y,r5⟩
     ·obtain⟨rfl,tn,bn⟩:=h5.bY hq;have HB:=aZ (fA.mk2 (iX.o.trans tn (fun i hi h=>by rcases h with h |h;exact h;(have:=(hlo _ h).1;omega))) bn);have dU:=aZ (iF.o.symm.trans (aB hq));clear h5 tn bn hq;go_wp2_with fail;exact⟨rfl,aG.fail dU.o HB.o⟩
     ·obtain⟨v5,rfl,tn,MH,kn⟩:=h5.aR hq;have iQ:=aZ (iX.o.trans tn (fun i hi h=>by rcases h with h |h;exact h;(have:=(hlo _ h).1;omega)));have ql:=aZ kn;have HR5:=aZ MH;have jF:bR (Pr.good (s,y) r5=Q):=aZ ((aj hq).symm.trans iF.o);clear h5 tn MH kn hq hlo;go_wp2_with fail
      go_ret2
      exact aG.done jF.o.symm iQ.o ⟨_,rfl,HR5.o⟩ ql.o
abbrev rJ (k:Int)(t:aD):Array Value:= #[.int .i64 k,.string ⟨#[]⟩,.int .i64 0,.int .i64 t.line,.int .i64 t.col,.slice none 0 0,.slice none 0 0,.slice none 0 0]
theorem rM (d:Int)(w:World)(bp B:Nat)(ts:List aD)(h:bX w bp B ts d)(k:Int):
  Calls Tryz.prog 103 #[.pointer (some ⟨bp,0,none⟩),.int .i64 k] w fun e w'=>e=.returned (.agg (rJ k (aW ts)))∧Below w.heap.size w w':=by
 have hlt:=h.lt;obtain⟨W,hW⟩:∃W,w.alloc (.cells #[.int .i64 0,.string ⟨#[]⟩,.int .i64 0,.int .i64 0,.int .i64 0,.slice none 0 0,.slice none 0 0,.slice none 0 0] 52)=W:=⟨_,rfl⟩
 have hb0:Below w.heap.size w W:=by rw [<-hW];exact new1 _ _
 have hs0:W.heap.size=w.heap.size+1:=by rw [<-hW];simp
 have hblk:W.heap[w.heap.size]? =some (.cells #[.int .i64 0,.string ⟨#[]⟩,.int .i64 0,.int .i64 0,.int .i64 0,.slice none 0 0,.slice none 0 0,.slice none 0 0] 52):=by rw [<-hW];exact Dc _ _
 have hk:=h.below hb0;have HN:=aZ (fun(w':World) (hb:Below W.heap.size W w')=>l8 w' bp B ts d (hk.below hb));have HW:=aZ hW;have HB0:=aZ hb0;have zx:=aZ hblk;have HD0:bR (Below W.heap.size W W.drew):=aZ ⟨rfl,rfl,rfl,Nat.le_refl _,fun _ _=>rfl⟩;clear h hk hW hb0 hblk;generalize aW ts=t at*
 have f2:∀w:World,(Instr.field 154 (sJ t) 2).run Tryz.prog w=.ok (.int .i64 t.line) w:=fun _=>by kernel_rfl
 have f3:∀w:World,(Instr.field 154 (sJ t) 3).run Tryz.prog w=.ok (.int .i64 t.col) w:=fun _=>by kernel_rfl
 go_enter Tryz.func103,Tryz.ntmps103;go_wp2_with fail;rw [HW.o];refine dn (S:=fun w'=>Below W.heap.size W w') (x:=12) (by kernel_rfl) ?_
 try simp only [Act.put,sq]
 refine tx 0 (.int .i64 k) HD0.o ?_;refine tx 1 (.pointer (some ⟨bp,0,none⟩)) HD0.o ?_;refine tx 2 (.pointer (some ⟨bp,0,none⟩)) HD0.o ?_;refine tx 3 (.pointer (some ⟨bp,0,none⟩)) HD0.o ?_;refine tx 6 (.pointer (some ⟨bp,0,none⟩)) HD0.o ?_;refine tx 7 (.pointer (some ⟨bp,0,none⟩)) HD0.o ?_;refine tx 8 (.pointer (some ⟨bp,0,none⟩)) HD0.o ?_;refine ay (rs:=[4]) (by kernel_rfl) (by simp) ?_;refine av.cons rfl (fun K hK=>?_) (av.nil);go_simp;refine(HN.o _ HD0.o).mono ?_;rintro e w2 ⟨rfl,hb⟩;have HB2:=aZ (HD0.o.trans (hb.mono HD0.o.size));clear hb;refine hK.out _ _ HB2.o ?_;clear hK K
 try simp only [Act.put,sq]
 refine tx 5 (.int .i64 t.line) HB2.o ?_;refine ay (rs:=[9]) (by kernel_rfl) (by simp) ?_;refine av.cons rfl (fun K hK=>?_) (av.nil);go_simp;refine(HN.o _ HB2.o).mono ?_;rintro e w3 ⟨rfl,hb⟩;have HB3:=aZ (HB2.o.trans (hb.mono HB2.o.size));clear hb;refine hK.out _ _ HB3.o ?_;clear hK K
 try simp only [Act.put,sq]
 refine tx 10 (.int .i64 t.col) HB3.o ?_;refine tx 11 (.agg (rJ k t)) HB3.o ?_;have hR:=HB3.o.block _ (block_lt zx.o) |>.trans zx.o;obtain⟨c0,c1,c2,c3,c4,c5,c6,c7,cz⟩:=aX hR;have HR:=aZ hR;clear hR;refine ay (rs:=[12]) (by kernel_rfl) (by simp) ?_;refine av.past rfl (by kernel_rfl) (fun K hK=>?_) (av.nil);go_simp;refine hK.out _ _ ?_;clear hK K
 try simp only [Act.put,sq]
 refine aV (by kernel_rfl) ?_ _;go_wp2_with fail;refine bodyPost_ret (bD rfl rfl (aY HR.o _ _ _ _ _ _ _ _) Tryz.underlying52 rfl (by kernel_rfl)) rfl ?_;have t1:=(Turn.of_below (F:=fun _=>False) (HB0.o.trans (HB3.o.mono (by omega)))).trans (bM w3 w.heap.size (.int .i64 k) (.string ⟨#[]⟩) (.int .i64 0) (.int .i64 t.line) (.int .i64 t.col) (.slice none 0 0) (.slice none 0 0) (.slice none 0 0)) (fun i hi e=>by omega);exact⟨rfl,t1.below (Nat.le_refl _) (fun _ _=>id)⟩
theorem vF {α:Type}{R:World->(Nat->Prop)->List Value->α->Prop}{k:Nat}(hR:vU R k)(hk:0<k){e:TypeId}{base bp cb ci g:Nat}{F:Nat->Prop}{w w6 w7:World}{v v7:Value}{l:List α}{x:α}{z ys zs:List Value}{n7:Nat}
  (hy:w.ownsRow base e k v l.length ys) (hr:dH (R w (uI F v)) k ys l) (t:Turn (fun j=>j=bp) w w6) (hx:R w6 (fun j=>w.heap.size<=j) z x) (hzs:zs.length=k) (h7:w7.ownsRow base e k v7 n7 (ys++zs)) (hg:w6.grownBy w7 v.ownBlock)
  (hbk:v7.ownBlock=v.ownBlock∨v7.ownBlock=some w6.heap.size) (hv:v7.ownBlock=some g) (hcb:cb<base) (hbp:¬F bp) (hcF:¬F cb) (hF:∀j,w.heap.size<=j->F j) (hbs:base<=w.heap.size) (w8:World)
  (h8:w8=(ny w7 g (l.length*k) z).setCell ⟨cb,ci,none⟩ v7∨w8=ny (w7.setCell ⟨cb,ci,none⟩ v7) g (l.length*k) z):
  iN R k e w8 base F v7 (l++[x])∧Turn (fun j=>v.ownBlock=some j∨j=cb) w6 w8∧Turn (fun j=>j=g∨j=cb) w7 w8∧(∀cs T,w7.heap[cb]? =some (.cells cs T (0,0))->w8.heap[cb]? =some (.cells (cs.setIfInBounds ci v7) T (0,0)))∧(∀j,j<w6.heap.size->v7.ownBlock=some j->v.ownBlock=some j):=by
 have hz:z.length=k:=hR.len hx;have hyl:ys.length=l.length*k:=hy.1;have hs6:=t.size;have ji:=h7.lt g hv;have tg:=Turn.bP hg (F:=fun j=>v.ownBlock=some j) (fun k h=>h);have hkl:=hy.lt;have hgn:∀j,j<w6.heap.size->j=g->v.ownBlock=some j:=fun j hj e=>by
  subst e;rcases hbk with hb |hb
  ·rw [<-hb];exact hv
  ·rw [hb]at hv;injection hv with hv;omega
 have tp:=fun(w:World)=>gJ g z w (l.length*k);have ts:=fun(w:World)=>ak w cb ci v7;have hgc:g≠cb:=by omega
 have t78:Turn (fun j=>j=g∨j=cb) w7 w8:=by
  rcases h8 with rfl |rfl
  ·exact((tp w7).mono (G:=fun j=>j=g∨j=cb) fun _ _ h=>.inl h).trans (ts _) (fun _ _ h=>.inr h)
  ·exact((ts w7).mono (G:=fun j=>j=g∨j=cb) fun _ _ h=>.inr h).trans (tp _) (fun _ _ h=>.inl h)
 have t68:Turn (fun j=>v.ownBlock=some j∨j=cb) w6 w8:=(tg.mono (G:=fun j=>v.ownBlock=some j∨j=cb) fun _ _ h=>.inl h).trans t78 (fun i hi e=>by
  rcases e with e |e
  ·exact .inl (hgn i hi e)
  ·exact .inr e)
 have hrow:w8.ownsRow base e k v7 n7 (ys++z):=by
  rcases h8 with rfl |rfl
  ·exact dL (BH h7 hv (by omega) hyl) (ts _) (fun k hk e=>by rw [hv]at hk;injection hk with hk;omega)
  ·exact BH (dL h7 (ts _) (fun k hk e=>by rw [hv]at hk;injection hk with hk;omega)) hv (by omega) hyl
 refine⟨iN.push hR hy hr t hx t68 (fun j hj e=>?_) (hbk.imp id fun e=>⟨_,Nat.le_refl _,e⟩) hrow hk hbp hF,t68,t78,fun cs T hb=>?_,fun j hj e=>hgn j hj (by rw [hv]at e;injection e with e;omega)⟩
 ·rcases e with e |e
  ·exact .inl e
  ·exact .inr ⟨by rw [e];exact hcF,by omega⟩
 ·rcases h8 with rfl |rfl
  ·exact heap_setCell_same _ _ ci _ _ _ (ah hb (tp _) (by omega))
  ·exact ah (heap_setCell_same _ _ ci _ _ _ hb) (tp _) (by omega)
end Go.Proofs.YtfgjkmipfikooaaGreatDoor
