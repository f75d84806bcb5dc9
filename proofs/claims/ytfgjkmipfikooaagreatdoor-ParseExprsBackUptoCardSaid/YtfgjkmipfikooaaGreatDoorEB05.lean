/- GJ -/
import Derived.Test.YtfgjkmipfikooaaGreatDoorEB04
set_option linter.unusedSimpArgs false
set_option linter.unusedVariables false
set_option maxRecDepth 100000
set_option maxHeartbeats 8000000
namespace Go.Proofs.YtfgjkmipfikooaaGreatDoor
open Go.RowKit
theorem Cn {s:Bt}(h:32<s.length):dM s=false:=by
 cases s with
 |nil=>simp at h
 |cons c r=>
  show(decide ((c :: r).length<=32) && _ && _ && _)=false;rw [decide_eq_false (by omega)];rfl
theorem Co (w:World)(s:Bt)(hX:kX w)(hs:s.length<=maxLen):Calls Tryz.prog 77 #[sv s] w fun e w'=>e=.returned (.bool (dM s))∧Below w.heap.size w w':=by
 by_cases hl:s.length<=281474976710656
 ·exact Qj w s hX hl
 have hf:=Cn (s:=s) (by omega);have hsz:=aT s;have hn:(s==[])=false:=by cases s with |nil=>simp at hl |cons c r=>rfl
 have hne:¬s=[]:=by intro h;rw [h]at hl;simp at hl
 have hg:decide ((s.length:Int)<=32)=false:=by rw [decide_eq_false_iff_not];omega
 rw [hf];unfold maxLen at hs;clear hf hl;go_enter Tryz.func77,Tryz.ntmps77;go_wp2_with fail;go_ret;exact⟨rfl,Below.refl _ _⟩
theorem Qm (w:World)(s:Bt)(hX:kX w)(hs:s.length<=maxLen):Calls Tryz.prog 172 #[sv s] w fun e w'=>e=.returned (.bool (!dM s))∧Below w.heap.size w w':=by
 have HN:=aZ (Co w s hX hs);generalize dM s=b at*
 go_enter Tryz.func172,Tryz.ntmps172;go_wp2_with fail;refine HN.o.mono ?_;rintro e w2 ⟨rfl,hb⟩;go_wp2_with fail;go_ret;exact⟨rfl,hb⟩
theorem yV {α:Type}{l:List α}{k:Nat}(h:k<l.length):l.take (k+1)=l.take k++[l[k]]:=List.take_succ_eq_append_getElem h
def ab6 (l:List Bt)(w:World)(e:Ending)(w':World):Prop:=(∃k:Int,e=.returned (.int .i64 k)∧(if l.all dM then k= -1 else 0<=k))∧Below w.heap.size w w'
theorem Hq (v:Value)(l:List Bt)(w:World)(hv:Ss w w.heap.size v l)(hl:∀y∈l,y.length<=maxLen)(hX:kX w):
  Calls Tryz.prog 159 #[v,.func (.func 172) #[] #[]] w (ab6 l w):=by
 have HV:=aZ hv;obtain⟨A,c,rfl⟩:=dO hv (by omega) (m:=l.length) (by rw [dV];omega);obtain⟨_,hn,hc⟩:=bN hv;have HL:=aZ hl;have HX:=aZ hX;clear hv hl hX;go_enter Tryz.func159,Tryz.ntmps159;go_wp2_with fail;go_loopw [8] (fun v8 wr=>∃k:Nat,v8=.int .i64 k∧k<=l.length∧(l.take k).all dM=true∧Below w.heap.size w wr) (fun v8 _=>l.length - (intOf v8).toNat)
 case atStart=>exact⟨0,rfl,by omega,rfl,Below.refl _ _⟩
 case round=>
  obtain⟨k,rfl,hk,hinv,hbr⟩:=hrel;have HI:=aZ hinv;clear hinv;by_cases hlt:k<l.length
  ·have ab7:=hlt;obtain⟨b1,o1,rfl,hb1,hc1⟩:=uT HV.o hlt (by omega);have d1:wr.cell? ⟨b1,o1+k,none⟩=some (sv l[k]):=wu hbr (by have:=hc1 0 (sv l[k]) (by simp [mW,hlt]);simpa using this) hb1;have HN:=aZ (Qm wr l[k] (HX.o.below hbr) (HL.o _ (List.getElem_mem hlt)));have hst:=yV hlt;have HB:=aZ hbr;clear hc1 hb1 hbr;cases hq:dM l[k]with
   |false=>
    have hall:l.all dM=false:=by
     cases h:l.all dM with
     |false=>rfl
     |true=>rw [List.all_eq_true]at h;rw [h _ (List.getElem_mem hlt)]at hq;cases hq
    rw [hq]at HN;have Ce:=aZ hall;clear hq hst hall;generalize l[k]=X at*
    go_wp2_with fail;refine HN.o.mono ?_;rintro e w2 ⟨rfl,hb⟩;have HB2:=aZ (HB.o.trans (hb.mono HB.o.size));clear hb d1;go_wp2_with fail;go_ret;exact⟨⟨k,rfl,by rw [Ce.o];simp⟩,HB2.o⟩
   |true=>
    rw [hq]at HN;have HST:bR ((l.take (k+1)).all dM=true):=aZ (by rw [hst,List.all_append,HI.o];simp [hq]);clear hq hst;generalize l[k]=X at*
    go_wp2_with fail;refine HN.o.mono ?_;rintro e w2 ⟨rfl,hb⟩;have HB2:=aZ (HB.o.trans (hb.mono HB.o.size));clear hb d1;go_wp2_with fail
    go_roundw
    case rel=>exact⟨k+1,rfl,by omega,HST.o,HB2.o⟩
    case measure=>simp [intOf];omega
  ·obtain rfl:k=l.length:=by omega
   rw [List.take_length]at HI;have HB:=aZ hbr;clear hbr;go_wp2_with fail;go_ret;exact⟨⟨-1,rfl,by rw [HI.o];simp⟩,HB.o⟩
theorem Hr (v:Value)(l:List Bt)(w:World)(hv:Ss w w.heap.size v l)(hl:∀y∈l,y.length<=maxLen)(hX:kX w):
  Calls Tryz.prog 171 #[v,.func (.func 172) #[] #[]] w fun e w'=>e=.returned (.bool (!l.all dM))∧Below w.heap.size w w':=by
 have HI:=aZ (Hq v l w hv hl hX);obtain⟨A,n,c,rfl⟩:=iL hv;clear hv hl hX;cases hb:l.all dM
 all_goals
  go_enter Tryz.func171,Tryz.ntmps171;go_wp2_with fail;refine HI.o.mono ?_;rintro e w2 ⟨⟨k,rfl,hk⟩,hbel⟩;rw [hb]at hk;simp only [Bool.false_eq_true,if_false,if_true]at hk;have HB:=aZ hbel;clear hbel hb HI
 ·have hg:decide (0<=k)=true:=by simpa using hk
  go_wp2_with fail;go_ret;exact⟨rfl,HB.o⟩
 ·subst hk;go_wp2_with fail;go_ret;exact⟨rfl,HB.o⟩
theorem Cq (v:Value)(l:List Bt)(w:World)(hv:Ss w w.heap.size v l)(hl:∀y∈l,y.length<=maxLen)(hX:kX w):
  Calls Tryz.prog 117 #[v] w fun e w'=>e=.returned (.bool (l.all dM))∧Below w.heap.size w w':=by
 have HC:=aZ (Hr v l w hv hl hX);obtain⟨A,n,c,rfl⟩:=iL hv;clear hv hl hX;generalize l.all dM=b at*
 go_enter Tryz.func117,Tryz.ntmps117;go_wp2_with fail;refine HC.o.mono ?_;rintro e w2 ⟨rfl,hb⟩;go_wp2_with fail;go_ret;cases b <;> exact⟨rfl,hb⟩
def Wt (m:Nat):Prop:=∀(w:World) (z:List Value) (t:bC),tQ w w.heap.size z t->J6 t->kX w->
 Calls Tryz.prog 59 #[.agg z.toArray,.int .i64 m] w fun e w'=>e=.returned (.bool (aK m t))∧Below w.heap.size w w'
theorem Ht (m:Nat)(hm:m<=40)(ih:Wt m)(w:World)(z:List Value)(t:bC)(hr:tQ w w.heap.size z t)(hok:J6 t)(hX:kX w)(p:Nat)(hp:w.cell? ⟨p,0,none⟩=some (.int .i64 ((m:Int)+1))):
  Calls Tryz.prog 122 #[.agg z.toArray,.pointer (some ⟨p,0,none⟩)] w fun e w'=>e=.returned (.bool (!aK m t))∧Below w.heap.size w w':=by
 have hr0:=hr;obtain⟨k,s,A1,n1,c1,A2,n2,c2,rfl⟩:=hr.shape;have hb1:Below w.heap.size w (w.alloc (.cells #[.int .i64 k,.string s,.slice A1 n1 c1,.slice A2 n2 c2] 57)):=(Below.refl _ _).alloc (Nat.le_refl _) _;have HI:=aZ (ih _ _ t (hr0.far (Nat.le_refl _) hb1) hok (hX.below hb1));have HB:=aZ hb1;have hpl:p<w.heap.size:=World.block_lt_of_cell? w _ hp;clear hr hr0 hX hb1 hok ih;generalize aK m t=b at*
 go_enter Tryz.func122,Tryz.ntmps122;go_wp2_with fail;refine HI.o.mono ?_;rintro e w2 ⟨rfl,hb⟩;go_wp2_with fail;go_ret;exact⟨rfl,HB.o.trans (hb.mono HB.o.size)⟩
def YZ (m:Nat)(l:List bC)(w:World)(e:Ending)(w':World):Prop:=(∃k:Int,e=.returned (.int .i64 k)∧(if l.all (aK m)then k= -1 else 0<=k))∧Below w.heap.size w w'
theorem AY (m:Nat)(hm:m<=40)(ih:Wt m)(v:Value)(l:List bC)(xs:List Value)(w:World)(hv:Sl w w.heap.size 4 v xs)(hr:jo w w.heap.size xs l)(hl:∀y∈l,J6 y)(hX:kX w)(p:Nat)(hp:w.cell? ⟨p,0,none⟩=some (.int .i64 ((m:Int)+1))):
  Calls Tryz.prog 176 #[v,.func (.func 122) #[] #[.pointer (some ⟨p,0,none⟩)]] w (YZ m l w):=by
 have HV:=aZ hv;obtain⟨A,c,rfl⟩:=dO hv (by omega) (m:=l.length) hr.length;obtain⟨_,hn,hc⟩:=bN hv;have HL:=aZ hl;have HX:=aZ hX;have HR:=aZ hr;have HP:=aZ hp;have Qo:=aZ ih;have hpl:=World.block_lt_of_cell? w _ hp;have HPL:=aZ hpl;clear hv hl hX hr hp ih hpl;go_enter Tryz.func176,Tryz.ntmps176;go_wp2_with fail;go_loopw [8] (fun v8 wr=>∃k:Nat,v8=.int .i64 k∧k<=l.length∧(l.take k).all (aK m)=true∧Below w.heap.size w wr) (fun v8 _=>l.length - (intOf v8).toNat)
 case atStart=>exact⟨0,rfl,by omega,rfl,Below.refl _ _⟩
 case round=>
  obtain⟨k,rfl,hk,hinv,hbr⟩:=hrel;have HI:=aZ hinv;clear hinv;by_cases hlt:k<l.length
  ·have ab7:=hlt;obtain⟨b1,o1,rfl,hb1,hc1⟩:=uT HV.o hlt (by omega);have hr1:=HR.o.at k hlt;obtain⟨kk,s,A1,n1,c1,A2,n2,c2,hv1⟩:=hr1.shape;rw [hv1]at hr1;have d0:wr.cell? ⟨b1,o1+k*4,none⟩=some (.int .i64 kk):=wu hbr (by have:=hc1 0 _ (iD hv1 (by omega:0<4));simpa using this) hb1;have d1:wr.cell? ⟨b1,o1+k*4+1,none⟩=some (.string s):=wu hbr (by have:=hc1 1 _ (iD hv1 (by omega:1<4));simpa [Nat.add_assoc]using this) hb1;have d2:wr.cell? ⟨b1,o1+k*4+2,none⟩=some (.slice A1 n1 c1):=wu hbr (by have:=hc1 2 _ (iD hv1 (by omega:2<4));simpa [Nat.add_assoc]using this) hb1;have d3:wr.cell? ⟨b1,o1+k*4+3,none⟩=some (.slice A2 n2 c2):=wu hbr (by have:=hc1 3 _ (iD hv1 (by omega:3<4));simpa [Nat.add_assoc]using this) hb1;have HN:=aZ (Ht m hm Qo.o wr _ l[k] (hr1.far (Nat.le_refl _) hbr) (HL.o _ (List.getElem_mem hlt)) (HX.o.below hbr) p (wu hbr HP.o HPL.o));have hst:=yV hlt;have HB:=aZ hbr;clear hc1 hb1 hbr hv1 hr1;cases hq:aK m l[k]with
   |false=>
    have hall:l.all (aK m)=false:=by
     cases h:l.all (aK m)with
     |false=>rfl
     |true=>rw [List.all_eq_true]at h;rw [h _ (List.getElem_mem hlt)]at hq;cases hq
    rw [hq]at HN;have Ce:=aZ hall;clear hq hst hall;generalize l[k]=X at*
    go_wp2_with fail;refine HN.o.mono ?_;rintro e w2 ⟨rfl,hb⟩;have HB2:=aZ (HB.o.trans (hb.mono HB.o.size));clear hb d0 d1 d2 d3;go_wp2_with fail;go_ret;exact⟨⟨k,rfl,by rw [Ce.o];simp⟩,HB2.o⟩
   |true=>
    rw [hq]at HN;have HST:bR ((l.take (k+1)).all (aK m)=true):=aZ (by rw [hst,List.all_append,HI.o];simp [hq]);clear hq hst;generalize l[k]=X at*
    go_wp2_with fail;refine HN.o.mono ?_;rintro e w2 ⟨rfl,hb⟩;have HB2:=aZ (HB.o.trans (hb.mono HB.o.size));clear hb d0 d1 d2 d3;go_wp2_with fail
    go_roundw
    case rel=>exact⟨k+1,rfl,by omega,HST.o,HB2.o⟩
    case measure=>simp [intOf];omega
  ·obtain rfl:k=l.length:=by omega
   rw [List.take_length]at HI;have HB:=aZ hbr;clear hbr;go_wp2_with fail;go_ret;exact⟨⟨-1,rfl,by rw [HI.o];simp⟩,HB.o⟩
theorem wE (m:Nat)(hm:m<=40)(ih:Wt m)(v:Value)(l:List bC)(xs:List Value)(w:World)(hv:Sl w w.heap.size 4 v xs)(hr:jo w w.heap.size xs l)(hl:∀y∈l,J6 y)(hX:kX w)(p:Nat)(hp:w.cell? ⟨p,0,none⟩=some (.int .i64 ((m:Int)+1))):
  Calls Tryz.prog 121 #[v,.func (.func 122) #[] #[.pointer (some ⟨p,0,none⟩)]] w fun e w'=>e=.returned (.bool (!l.all (aK m)))∧Below w.heap.size w w':=by
 have HI:=aZ (AY m hm ih v l xs w hv hr hl hX p hp);obtain⟨A,n,c,rfl⟩:=iL hv;clear hv hl hX hr hp ih;cases hb:l.all (aK m)
 all_goals
  go_enter Tryz.func121,Tryz.ntmps121;go_wp2_with fail;refine HI.o.mono ?_;rintro e w2 ⟨⟨k,rfl,hk⟩,hbel⟩;rw [hb]at hk;simp only [Bool.false_eq_true,if_false,if_true]at hk;have HB:=aZ hbel;clear hbel hb HI
 ·have hg:decide (0<=k)=true:=by simpa using hk
  go_wp2_with fail;go_ret;exact⟨rfl,HB.o⟩
 ·subst hk;go_wp2_with fail;go_ret;exact⟨rfl,HB.o⟩
theorem uD {w:World}{b:Nat}{x0 x1 x2 x3:Value}{T:TypeId}(h:w.heap[b]? =some (.cells #[x0,x1,x2,x3] T (0,0))):
  w.cell? ⟨b,0,none⟩=some x0∧w.cell? ⟨b,1,none⟩=some x1∧w.cell? ⟨b,2,none⟩=some x2∧w.cell? ⟨b,3,none⟩=some x3:=
 ⟨(cell_of_row _ _ _ _ _ _ h).trans rfl,(cell_of_row _ _ _ _ _ _ h).trans rfl,(cell_of_row _ _ _ _ _ _ h).trans rfl,(cell_of_row _ _ _ _ _ _ h).trans rfl⟩
theorem wrap_zero {a b:Nat}(ha:a<=2 ^ 63 - 1)(hb:b<=2 ^ 63 - 1)(h:¬(a=0∧b=0)):(wrap64 ((a:Int)+(b:Int))==0)=false:=by
 rw [beq_eq_false_iff_ne];intro h0;unfold wrap64 at h0;omega
theorem FJ:Wt 0:=by
 intro w z t hr hok hX;have hw:aK 0 t=false:=rfl;rw [hw];obtain⟨k,s,A1,n1,c1,A2,n2,c2,rfl⟩:=hr.shape;have hb2:Below w.heap.size w ((w.alloc (.cells #[.int .i64 k,.string s,.slice A1 n1 c1,.slice A2 n2 c2] 57)).alloc (.cells #[.int .i64 0] 3)):=((Below.refl _ _).alloc (Nat.le_refl _) _).alloc (by simp) _;have HB:=aZ hb2;clear hr hok hX hb2 hw;go_enter Tryz.func59,Tryz.ntmps59;go_wp2_with fail;go_ret;exact⟨rfl,HB.o⟩
theorem FK (m:Nat)(hm:m<=40)(ih:Wt m):Wt (m+1):=by
 intro w z t hr hok hX;obtain⟨k,nm,ns,ks⟩:=t;rw [J6]at hok;obtain⟨ok1,TK,Qp,Vd⟩:=hok;obtain⟨A1,c1,A2,c2,xk,rfl,s1,s2,r2⟩:=hr.parts;have l1:=(bN s1).2;have l2:=(bN s2).2;clear hr;have hw:aK (m+1) (.mk k nm ns ks)=(ns.all dM && ks.all (aK m) && eZ k nm ns.length ks.length):=rfl;rw [hw];clear hw;have hz1:=heap_alloc_new w (.cells #[.int .i64 k,sv nm,.slice A1 ns.length c1,.slice A2 ks.length c2] 57);obtain⟨W1,hW1⟩:∃W1,W1=w.alloc (.cells #[.int .i64 k,sv nm,.slice A1 ns.length c1,.slice A2 ks.length c2] 57):=⟨_,rfl⟩
 have hb1:Below w.heap.size w W1:=by rw [hW1];exact(Below.refl _ _).alloc (Nat.le_refl _) _
 rw [<-hW1]at hz1;have hs1:W1.heap.size=w.heap.size+1:=by rw [hW1];exact Array.size_push _
 have hz2:=heap_alloc_new W1 (.cells #[.int .i64 ((m:Int)+1)] 3);obtain⟨W2,hW2⟩:∃W2,W2=W1.alloc (.cells #[.int .i64 ((m:Int)+1)] 3):=⟨_,rfl⟩
 have Hu:Below W1.heap.size W1 W2:=by rw [hW2];exact(Below.refl _ _).alloc (Nat.le_refl _) _
 have hb2:Below w.heap.size w W2:=hb1.trans (Hu.mono hb1.size);rw [<-hW2,hs1]at hz2;have hz1:=(Hu.block _ (block_lt hz1)).trans hz1;have HZ:=aZ (And.intro hz1 hz2);have hwe:=hW2;rw [hW1]at hwe;have uW:=aZ hwe;have HB2:=aZ hb2;have HN:=aZ (Cq _ ns W2 (Sl.more (Sl.below s1 hb2) hb2.size) Qp (hX.below hb2));rw [hwe]at HN;have HS:=aZ (And.intro s2 r2);have Mg:=aZ (And.intro (Cb.1 Vd) TK);have HX:=aZ hX;have Qo:=aZ ih;have Mh:∀(fn:Fn) (first cap:Array Value) (w:World),(Instr.makeFunc fn first cap).run Tryz.prog w=.ok (.func fn first cap) w:=fun _ _ _ _=>rfl;have hm0:(((m:Int)+1)==0)=false:=by rw [beq_eq_false_iff_ne];omega
 have hm1:(((m+1:Nat):Int)==0)=false:=by rw [beq_eq_false_iff_ne];omega
 clear s1 s2 r2 ok1 TK Qp Vd hX ih hz1 hz2 hb1 Hu hb2 hs1 hW1 hW2 hwe;go_enter Tryz.func59,Tryz.ntmps59;go_wp2_with fail;refine HN.o.mono ?_;rintro e w3 ⟨rfl,hb3⟩;rw [<-uW.o]at hb3;have HB3:=aZ hb3;clear hb3 HN;cases hns:ns.all dM with
 |false=>
  have Eb:=aZ hns;clear hns;go_wp2_with fail;go_ret;exact⟨by rw [Eb.o];rfl,HB2.o.trans (HB3.o.mono HB2.o.size)⟩
 |true=>
  have Eb:=aZ hns;clear hns;have Y0:=(HB3.o.block _ (block_lt HZ.o.1)).trans HZ.o.1;obtain⟨g0,g1,g2,g3⟩:=uD Y0;have Y3:=(HB3.o.block _ (block_lt HZ.o.2)).trans HZ.o.2;have gm:w3.cell? ⟨w.heap.size+1,0,none⟩=some (.int .i64 ((m:Int)+1)):=(cell_of_row _ _ _ _ _ _ Y3).trans rfl;have wF:Below w.heap.size w w3:=HB2.o.trans (HB3.o.mono HB2.o.size);have HC:=aZ (wE m hm Qo.o _ ks xk w3 (Sl.more (Sl.below HS.o.1 wF) wF.size) ((HS.o.2.keep wF).more wF.size) Mg.o.1 (HX.o.below wF) (w.heap.size+1) gm);clear Y0 Y3 wF;go_wp2_with fail;clear hm0 hm1 g0 g1 g2 g3 gm;refine HC.o.mono ?_;rintro e w4 ⟨rfl,hb4⟩;have tC:=aZ (HB3.o.trans (hb4.mono HB3.o.size));clear hb4 HC;cases hks:ks.all (aK m)with
  |false=>
   have Ec:=aZ hks;clear hks;go_wp2_with fail;go_ret;exact⟨by rw [Eb.o,Ec.o];rfl,HB2.o.trans (tC.o.mono HB2.o.size)⟩
  |true=>
   have Ec:=aZ hks;clear hks;have Y4:=(tC.o.block _ (block_lt HZ.o.1)).trans HZ.o.1;obtain⟨g0,g1,g2,g3⟩:=uD Y4;have ng:=aZ (HB2.o.trans (tC.o.mono HB2.o.size));have O4:bR (∀wx:World,Below w.heap.size w wx->Calls Tryz.prog 77 #[sv nm] wx fun e w'=>e=.returned (.bool (dM nm))∧Below wx.heap.size wx w'):=aZ (fun wx h=>Co wx nm (HX.o.below h) Mg.o.2);have ha:ns.length<=2 ^ 63 - 1:=by omega
   have hb:ks.length<=2 ^ 63 - 1:=by omega
   obtain⟨a,hA⟩:∃a,ns.length=a:=⟨_,rfl⟩
   obtain⟨b,hB⟩:∃b,ks.length=b:=⟨_,rfl⟩
   rw [hA]at g2 ha ⊢;rw [hB]at g3 hb ⊢;have HA:=aZ hA;have Gv:=aZ hB;clear hA hB;clear Y4 l1 l2 Mh;by_cases n8:k=8
   ·subst n8;by_cases hz:a=0∧b=0
    ·obtain⟨rfl,rfl⟩:=hz;have HT:bR (eZ 8 nm 0 0=dM nm):=aZ (by simp [eZ]);go_wp2_with fail
     go_quiet (fail)
     go_wp2_with fail;refine(O4.o _ (ng.o.trans ((aH w4 _).mono ng.o.size))).mono ?_;rintro e w5 ⟨rfl,hb5⟩;go_wp2_with fail;go_ret;exact⟨by rw [Eb.o,Ec.o,HA.o,Gv.o,HT.o];rfl,(ng.o.trans ((aH w4 _).mono ng.o.size)).trans (hb5.mono (ng.o.trans ((aH w4 _).mono ng.o.size)).size)⟩
    ·have hwz:(wrap64 ((a:Int)+(b:Int))==0)=false:=wrap_zero ha hb hz;have HT:bR (eZ 8 nm a b=false):=aZ (by simp [eZ];omega);clear hz;go_wp2_with fail
     go_quiet (fail)
     go_wp2_with fail;go_ret;exact⟨by rw [Eb.o,Ec.o,HA.o,Gv.o,HT.o];rfl,ng.o.trans ((aH w4 _).mono ng.o.size)⟩
   have q8:(k==8)=false:=beq_eq_false_iff_ne.mpr n8;by_cases hnm:nm=[]
   ·subst hnm;by_cases hk0:k<0
    ·have g4:decide (k<0)=true:=by simpa using hk0
     have HT:bR (eZ k [] a b=false):=aZ (by simp [eZ,n8];intro h;omega);clear hk0 n8;go_wp2_with fail
     go_quiet (fail)
     go_wp2_with fail;go_ret;exact⟨by rw [Eb.o,Ec.o,HA.o,Gv.o,HT.o];rfl,ng.o.trans ((aH w4 _).mono ng.o.size)⟩
    have g4:decide (k<0)=false:=by simpa using hk0
    by_cases O5:7<k
    ·have g5:decide (7<k)=true:=by simpa using O5
     have HT:bR (eZ k [] a b=false):=aZ (by simp [eZ,n8,O5]);clear hk0 n8 O5;go_wp2_with fail
     go_quiet (fail)
     go_wp2_with fail;go_ret;exact⟨by rw [Eb.o,Ec.o,HA.o,Gv.o,HT.o];rfl,ng.o.trans ((aH w4 _).mono ng.o.size)⟩
    have g5:decide (7<k)=false:=by simpa using O5
    by_cases n5:k=5
    ·subst n5;clear g4 g5 hk0 O5 n8 q8;by_cases hab:a=b
     ·subst hab;have HT:bR (eZ 5 [] a a=true):=aZ (by simp [eZ]);go_wp2_with fail
      go_quiet (fail)
      go_wp2_with fail;go_ret;exact⟨by rw [Eb.o,Ec.o,HA.o,Gv.o,HT.o];rfl,ng.o.trans ((aH w4 _).mono ng.o.size)⟩
     ·have hq:((a:Int)==(b:Int))=false:=beq_eq_false_iff_ne.mpr (by omega);have HT:bR (eZ 5 [] a b=false):=aZ (by simp [eZ,hab]);clear hab;go_wp2_with fail
      go_quiet (fail)
      go_wp2_with fail;go_ret;exact⟨by rw [Eb.o,Ec.o,HA.o,Gv.o,HT.o];rfl,ng.o.trans ((aH w4 _).mono ng.o.size)⟩
    by_cases n6:k=6
    ·subst n6;clear g4 g5 hk0 O5 n8 q8 n5;by_cases ha0:a=0
     ·subst ha0;by_cases hb2:b=2
      ·subst hb2;have HT:bR (eZ 6 [] 0 2=true):=aZ (by simp [eZ]);go_wp2_with fail
       go_quiet (fail)
       go_wp2_with fail;go_ret;exact⟨by rw [Eb.o,Ec.o,HA.o,Gv.o,HT.o];rfl,ng.o.trans ((aH w4 _).mono ng.o.size)⟩
      ·have hq:((b:Int)==2)=false:=beq_eq_false_iff_ne.mpr (by omega);have HT:bR (eZ 6 [] 0 b=false):=aZ (by simp [eZ,hb2]);clear hb2;go_wp2_with fail
       go_quiet (fail)
       go_wp2_with fail;go_ret;exact⟨by rw [Eb.o,Ec.o,HA.o,Gv.o,HT.o];rfl,ng.o.trans ((aH w4 _).mono ng.o.size)⟩
     ·have hq:((a:Int)==0)=false:=beq_eq_false_iff_ne.mpr (by omega);have HT:bR (eZ 6 [] a b=false):=aZ (by simp [eZ,ha0]);clear ha0;go_wp2_with fail
      go_quiet (fail)
      go_wp2_with fail;go_ret;exact⟨by rw [Eb.o,Ec.o,HA.o,Gv.o,HT.o];rfl,ng.o.trans ((aH w4 _).mono ng.o.size)⟩
    by_cases n7:k=7
    ·subst n7;clear g4 g5 hk0 O5 n8 q8 n5 n6;by_cases ha0:a=0
     ·subst ha0;by_cases hb2:2<=b
      ·have hq:decide ((2:Int)<=(b:Int))=true:=by simp;omega
       have HT:bR (eZ 7 [] 0 b=true):=aZ (by simp [eZ,hb2]);clear hb2;go_wp2_with fail
       go_quiet (fail)
       go_wp2_with fail;go_ret;exact⟨by rw [Eb.o,Ec.o,HA.o,Gv.o,HT.o];rfl,ng.o.trans ((aH w4 _).mono ng.o.size)⟩
      ·have hq:decide ((2:Int)<=(b:Int))=false:=by simp;omega
       have HT:bR (eZ 7 [] 0 b=false):=aZ (by simp [eZ,hb2]);clear hb2;go_wp2_with fail
       go_quiet (fail)
       go_wp2_with fail;go_ret;exact⟨by rw [Eb.o,Ec.o,HA.o,Gv.o,HT.o];rfl,ng.o.trans ((aH w4 _).mono ng.o.size)⟩
     ·have hq:((a:Int)==0)=false:=beq_eq_false_iff_ne.mpr (by omega);have HT:bR (eZ 7 [] a b=false):=aZ (by simp [eZ,ha0]);clear ha0;go_wp2_with fail
      go_quiet (fail)
      go_wp2_with fail;go_ret;exact⟨by rw [Eb.o,Ec.o,HA.o,Gv.o,HT.o];rfl,ng.o.trans ((aH w4 _).mono ng.o.size)⟩
    have q5:(k==5)=false:=beq_eq_false_iff_ne.mpr n5;have q6:(k==6)=false:=beq_eq_false_iff_ne.mpr n6;have q7:(k==7)=false:=beq_eq_false_iff_ne.mpr n7;by_cases hz:a=0∧b=0
    ·obtain⟨rfl,rfl⟩:=hz;have HT:bR (eZ k [] 0 0=true):=aZ (by simp [eZ,n8,n5,n6,n7,hk0,O5]);clear n5 n6 n7 n8 hk0 O5;go_wp2_with fail
     go_quiet (fail)
     go_wp2_with fail;go_ret;exact⟨by rw [Eb.o,Ec.o,HA.o,Gv.o,HT.o];rfl,ng.o.trans ((aH w4 _).mono ng.o.size)⟩
    ·have hwz:(wrap64 ((a:Int)+(b:Int))==0)=false:=wrap_zero ha hb hz;have HT:bR (eZ k [] a b=false):=aZ (by simp [eZ,n8,n5,n6,n7,hk0,O5];omega);clear n5 n6 n7 n8 hk0 O5 hz;go_wp2_with fail
     go_quiet (fail)
     go_wp2_with fail;go_ret;exact⟨by rw [Eb.o,Ec.o,HA.o,Gv.o,HT.o];rfl,ng.o.trans ((aH w4 _).mono ng.o.size)⟩
   ·have hq:(nm==[])=false:=by cases nm with |nil=>exact absurd rfl hnm |cons c r=>rfl
    have HT:bR (eZ k nm a b=false):=aZ (by simp [eZ,n8,hnm]);clear n8;go_wp2_with fail
    go_quiet (fail)
    go_wp2_with fail;go_ret;exact⟨by rw [Eb.o,Ec.o,HA.o,Gv.o,HT.o];rfl,ng.o.trans ((aH w4 _).mono ng.o.size)⟩
theorem zT:∀m:Nat,m<=41->Wt m
 |0,_=>FJ
 |m+1,h=>FK m (by omega) (zT m (by omega))
end Go.Proofs.YtfgjkmipfikooaaGreatDoor
