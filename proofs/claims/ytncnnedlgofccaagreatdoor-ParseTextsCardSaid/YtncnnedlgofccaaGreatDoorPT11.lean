/- FL, FM, FN -/
import Derived.Test.YtncnnedlgofccaaGreatDoorPT10
set_option linter.unusedSimpArgs false
set_option linter.unusedVariables false
set_option maxRecDepth 100000
set_option maxHeartbeats 8000000
namespace Go.Proofs.YtncnnedlgofccaaGreatDoor
open Go.RowKit
theorem pV {l:List Bt}{ts r:List aH}{i:Nat}(h:dK l ts=.good (some i) r):i<l.length:=by
 unfold dK at h;split at h
 ·cases h
 ·rename_i j hj
  injection h with h1 _;injection h1 with h1;subst h1;exact(List.findIdx?_eq_some_iff_getElem.1 hj).1
theorem lH {bp a:Nat}{w w1:World}{v0 v1 v2 v3:Value}(h:Turn (fun k=>k=bp) w w1)(ha:w.heap.size<=a:=by omega):Turn (fun k=>k=bp) w (dX w1 a v0 v1 v2 v3):=h.trans (dM w1 a v0 v1 v2 v3) (fun i hi e=>by omega)
theorem cu.Cg {bp B a:Nat}{w1:World}{ts:List aH}{d:Int}{v0 v1 v2 v3:Value}(h:cu w1 bp B ts d)(ha:bp<a):cu (dX w1 a v0 v1 v2 v3) bp B ts d:=h.turn (dM _ _ _ _ _ _) (by omega) (fun k hk e=>by have:=h.1;omega)
theorem GX {typ:Ps bZ}(ht:Sf typ):Sf (lW typ):=Sf.then_ Sf.name fun s=>Sf.then_ (Sf.want _) fun _=>Sf.then_ ht fun t=>Sf.ret _
theorem pQ.Tw {pb tb base bp:Nat}{w w':World}{l1:List Bt}{l2:List bZ}{v1 v2:Value}(h:pQ pb tb base bp w l1 l2 v1 v2)(t:Turn (fun k=>k=bp) w w')(h1:bp<pb)(h2:bp<tb)(h3:bp<base):pQ pb tb base bp w' l1 l2 v1 v2:=
 ⟨ah h.box t,ah h.blk t,h.sZ.turn t (fun g hg e=>by have:=(h.sZ.lt g hg).1;omega),h.kid.turn aG t (fun g hg e=>by have:=(h.kid.lt g hg).1;omega) (fun g _ hg e=>by have:=hg.1;omega),h.ne⟩
theorem NK (d:Int)(typ:Ps bZ)(qK:Cc d typ)(hsf:Sf typ)(w:World)(bp B:Nat)(ts:List aH)(h:cu w bp B ts d):
  Calls Tryz.prog 126 #[pP bp 0] w (aJ (PTy w.heap.size) bp B d w (lK typ ts)):=by
 have hlt:=h.lt;have hB:=h.1;obtain⟨Q,hQ⟩:∃Q,lK typ ts=Q:=⟨_,rfl⟩
 rw [hQ];have HQ:=aO hQ;have HC:=aO (rZ ((w.alloc (.cells #[.pointer (some ⟨bp,0,none⟩)] 87)).alloc (.cells #[.int .i64 0,.string ⟨#[]⟩,.slice none 0 0,.slice none 0 0] 80)) bp B ts d (h.below (new2 _ _ _)) rV #[.string ⟨#[97,110,121]⟩,.string ⟨#[110,117,108,108]⟩,.string ⟨#[98,111,111,108]⟩,.string ⟨#[105,110,116]⟩,.string ⟨#[115,116,114]⟩] 9 5 (w.heap.size+1+1));clear h hQ;go_enter Tryz.func126,Tryz.ntmps126;go_wp2_with fail;refine(HC.o).mono ?_;rintro e w1 h1;rcases hq:dK rV ts with g |⟨o,r1⟩
 ·obtain⟨rfl,tn,bn⟩:=h1.cB hq;exact(iU hq).elim
 ·obtain⟨v1,rfl,tn,hP,kn⟩:=h1.aQ hq;obtain⟨tm,hsz,hbx,hrs⟩:=jk tn;have Gb:=aO (hbx (by omega));have QI:=aO (hrs (by omega));obtain rfl:=hP;have hq1:=aO hq;clear hbx hrs;have hs1:=tm.size;have HT1:=aO (tm);have iR:=aO kn;clear h1 tn kn hq;rcases o with _ |i
  ·have HQa:bq (aj (dK [[40],[123]]) (fun c=>match c with |none=>aj nameP fun s=>aB (.mk 8 s [] []) |some 0=>aj typ fun t=>aj (aC [41]) fun _=>aB t |some _=>aj (bD [125]) fun e=>if e then aB (.mk 5 [] [] [])else aj (gU (lW typ)) fun l=>aj (aC [125]) fun _=>aB (.mk 5 [] (l.map (·.1)) (l.map (·.2)))) r1=Q):=aO ((au hq1.o).symm.trans HQ.o);have rX:=aO (rZ w1 bp B r1 d iR.o [[40],[123]] #[.string ⟨#[40]⟩,.string ⟨#[123]⟩] 9 2 w1.heap.size);have hbx:=dn Gb.o;go_wp2_with fail;refine(rX.o).mono ?_;rintro e w2 h2;rcases hq:dK [[40],[123]] r1 with g |⟨o,r2⟩
   ·obtain⟨rfl,tn,bn⟩:=h2.cB hq;exact(iU hq).elim
   ·obtain⟨v2,rfl,tn,rfl,kn⟩:=h2.aQ hq;have hs2:=tn.size;have HT2:=aO (ay HT1.o tn);have gX:=aO kn;have Tx:=aO (ah Gb.o tn);have vK:=aO (ah QI.o tn);have hq2:=aO hq;clear h2 tn kn hq;have aks:=dn Tx.o;clear hbx;rcases o with _ |j
    ·have HQb:bq (aj nameP (fun s=>aB (bZ.mk 8 s [] [])) r2=Q):=aO ((au hq2.o).symm.trans HQa.o);have HN:=aO (iF w2 bp B r2 d gX.o);go_wp2_with fail;refine(HN.o).mono ?_;rintro e w3 h3;rcases hq:nameP r2 with g |⟨s,r3⟩
     ·obtain⟨rfl,tn,bn⟩:=h3.cB hq;have HB:=aO (fJ.mk2 (ay HT2.o tn) bn);have eG:=aO (HQb.o.symm.trans (aA hq));clear h3 tn bn hq;go_wp2_with fail;exact⟨rfl,aJ.fail eG.o HB.o⟩
     ·obtain⟨v3,rfl,tn,rfl,kn⟩:=h3.aQ hq;have hs3:=tn.size;have HT3:=aO (ay HT2.o tn);have gJ:=aO kn;have iO:bq (aB (bZ.mk 8 s [] []) r3=Q):=aO ((au hq).symm.trans HQb.o);have aya:=aO (ah Tx.o tn);have KH:=aO (ah vK.o tn);clear h3 tn kn hq;obtain⟨c0,c1,c2,c3,cz⟩:=aW KH.o;go_wp2_with fail;refine bodyPost_ret (aL rfl rfl (bg KH.o _ _ _ _) Tryz.underlying80 rfl) rfl ?_;exact aJ.done iO.o.symm (lH HT3.o) ⟨_,rfl,rY _ _ 8 s⟩ (gJ.o.Cg (by omega))
    ·have hj:=pV hq2.o;simp only [List.length_cons,List.length_nil]at hj;obtain rfl |rfl:j=0∨j=1:=by omega
     ·have HQb:bq (aj typ (fun t=>aj (aC [41]) fun _=>aB t) r2=Q):=aO ((au hq2.o).symm.trans HQa.o);have HN:=aO (qK w2 bp B r2 gX.o);go_wp2_with fail;refine(HN.o).mono ?_;rintro e w4 h4;rcases hq:typ r2 with g |⟨t,r4⟩
      ·obtain⟨rfl,tn,bn⟩:=h4.cB hq;have HB:=aO (fJ.mk2 (ay HT2.o tn) bn);have eG:=aO (HQb.o.symm.trans (aA hq));clear h4 tn bn hq;go_wp2_with fail;exact⟨rfl,aJ.fail eG.o HB.o⟩
      ·obtain⟨v4,rfl,tn,⟨z,rfl,hz⟩,kn⟩:=h4.aQ hq;obtain⟨kz,sz,sj,su,sw,sD,sF,sG,rfl⟩:=hz.shape';have aej:=tn.size;have HZ:=aO hz.iv;clear hz;have hs4:=tn.size;have fU:=aO (ay HT2.o tn);have iW:=aO kn;have gP:bq (aj (aC [41]) (fun _=>aB t) r4=Q):=aO ((au hq).symm.trans HQb.o);have af5:=aO (ah Tx.o tn);have yD:=aO (ah vK.o tn);clear h4 tn kn hq;have HN:=aO (fV (w4.alloc (.cells #[.int .i64 kz,sv sz,.slice sj su sw,.slice sD sF sG] 80)) bp B r4 d (iW.o.below (new1 _ _)) [41] 9 (w4.heap.size+1));have YU:=dn af5.o;have aAQ:=World.block_lt_of_cell? _ _ YU;go_wp2_with fail;refine(HN.o).mono ?_;rintro e w5 h5;rcases hq:aC [41] r4 with g |⟨u,r5⟩
       ·obtain⟨rfl,tn,bn⟩:=h5.cB hq;have tn:=(bV tn).1;have HB:=aO (fJ.mk2 (ay fU.o tn) bn);have eG:=aO (gP.o.symm.trans (aA hq));clear h5 tn bn hq;go_wp2_with fail;exact⟨rfl,aJ.fail eG.o HB.o⟩
       ·obtain⟨v5,rfl,tn,-,kn⟩:=h5.aQ hq;obtain⟨tm,hsz5,hbt⟩:=bV tn;have nI:=aO (hbt (by omega));have Dl:=aO (HZ.o.turn tm (fun g _ h e=>by have:=h.1;omega));clear hbt;have hs5:=tm.size;have fP:=aO (ay fU.o tm);have jH:=aO kn;have jf:bq (aB t r5=Q):=aO ((au hq).symm.trans gP.o);have ayb:=aO (ah af5.o tm);have af6:=aO (ah yD.o tm);clear h5 tn kn hq;obtain⟨c0,c1,c2,c3,cz⟩:=aW af6.o;obtain⟨e0,e1,e2,e3,ez⟩:=aW nI.o;go_wp2_with fail;refine bodyPost_ret (aL rfl rfl (bg af6.o _ _ _ _) Tryz.underlying80 rfl) rfl ?_;exact aJ.done jf.o.symm (lH fP.o) ⟨_,rfl,(Dl.o.turn (dM _ _ _ _ _ _) (fun g _ h e=>by have:=h.1;omega)).mono (fun g _ h=>by have:=h.1;omega)⟩ (jH.o.Cg (by omega))
     ·have HQb:bq (aj (bD [125]) (fun e=>if e then aB (bZ.mk 5 [] [] [])else aj (gU (lW typ)) fun l=>aj (aC [125]) fun _=>aB (.mk 5 [] (l.map (·.1)) (l.map (·.2)))) r2=Q):=aO ((au hq2.o).symm.trans HQa.o);have HN:=aO (mH (w2.alloc (.cells #[.int .i64 5,.string ⟨#[]⟩,.slice none 0 0,.slice none 0 0] 80)) bp B r2 d (gX.o.below (new1 _ _)) [125]);have aAR:=World.block_lt_of_cell? _ _ aks;go_wp2_with fail;refine(HN.o).mono ?_;rintro e w6 h6;rcases hq:bD [125] r2 with g |⟨b,r6⟩
      ·obtain⟨rfl,tn,bn⟩:=h6.cB hq;exact(jq hq).elim
      ·obtain⟨v6,rfl,tn,rfl,kn⟩:=h6.aQ hq;obtain⟨tm,aAS,hbt⟩:=bV tn;have nI:=aO (hbt (by omega));have hq6:=aO hq;clear hbt;have hs6:=tm.size;have kM:=aO (ay HT2.o tm);have pW:=aO kn;have af7:=aO (ah Tx.o tm);have YV:=aO (ah vK.o tm);clear h6 tn kn hq;cases b
       ·have HQc:bq (aj (gU (lW typ)) (fun l=>aj (aC [125]) fun _=>aB (.mk 5 [] (l.map (·.1)) (l.map (·.2)))) r6=Q):=aO ((au hq6.o).symm.trans HQb.o);have hmf:∀(fn:Fn) (first cap:Array Value) (w:World),(Instr.makeFunc fn first cap).run Tryz.prog w=.ok (.func fn first cap) w:=fun _ _ _ _=>rfl;have hpp:Ce w.heap.size w2.heap.size (w2.heap.size+1) bp w6:=⟨by omega,by omega,by omega,by omega,by omega,by omega⟩
        have hpi:Tt w.heap.size w2.heap.size (w2.heap.size+1) bp w6 []:=⟨_,_,af7.o,nI.o,iq.nil _ _ _,eO.nil _ _ _ _ _ _,fun _ h=>by cases h⟩
        have YW:=aO (mY (lW typ) (GX hsf) 171 #[pP w2.heap.size 0,pP w.heap.size 0] (Tt w.heap.size w2.heap.size (w2.heap.size+1) bp) (fun k=>k=bp∨w2.heap.size<=k) d w6 bp B r6 (.inl rfl)
         (fun a b l t h=>by obtain⟨x,y,h⟩:=h;have hs:=t.size;exact⟨x,y,h.Tw t (by omega) (by omega) (by omega)⟩) (fun g h=>.inr (by omega))
         (fun w1 r l hl hw hi hk=>Wd d typ qK w1 bp B _ _ _ r l hl hk hi ⟨hpp.KF,hpp.NH,hpp.Rp,hpp.V9,hpp.ne,by have:=hpp.QG;omega⟩) (fun _=>by kernel_rfl) pW.o hpi)
        clear hpi;have hbx:=dn af7.o;go_wp2_with fail;refine(YW.o).mono ?_;rintro e w7 h7;rcases hq:gU (lW typ) r6 with g |⟨l,r7⟩
        ·obtain⟨rfl,tn,bn⟩:=h7.cB hq;have HB:=aO (fJ.mk2 (kM.o.trans tn (fun i hi e=>by rcases e with e |e <;> omega)) bn);have eG:=aO (HQc.o.symm.trans (aA hq));clear h7 tn bn hq;go_wp2_with fail;exact⟨rfl,aJ.fail eG.o HB.o⟩
        ·obtain⟨rfl,tn,⟨x1,x2,hI⟩,kn⟩:=h7.aQ hq;have hs7:=tn.size;have jl:=aO (kM.o.trans tn (fun i hi e=>by rcases e with e |e <;> omega));have kC:=aO kn;have zq:bq (aj (aC [125]) (fun _=>aB (.mk 5 [] (l.map (·.1)) (l.map (·.2)))) r7=Q):=aO ((au hq).symm.trans HQc.o);have HI7:=aO hI;have AY:=aO (ah YV.o tn);have HN:=aO (fV w7 bp B r7 d kn [125] 9 w7.heap.size);have aAU:=dn hI.box;clear h7 tn kn hq hI hbx;go_wp2_with fail;refine(HN.o).mono ?_;rintro e w8 h8;rcases hq:aC [125] r7 with g |⟨u,r8⟩
         ·obtain⟨rfl,tn,bn⟩:=h8.cB hq;have HB:=aO (fJ.mk2 (ay jl.o tn) bn);have eG:=aO (zq.o.symm.trans (aA hq));clear h8 tn bn hq;go_wp2_with fail;exact⟨rfl,aJ.fail eG.o HB.o⟩
         ·obtain⟨v8,rfl,tn,-,kn⟩:=h8.aQ hq;have hI8:=HI7.o.Tw tn (by omega) (by omega) (by omega);have HI8:=aO hI8;have uY:=tn.size;have mZ:=aO (ay jl.o tn);have rQ:=aO kn;have xL:bq (aB (.mk 5 [] (l.map (·.1)) (l.map (·.2))) r8=Q):=aO ((au hq).symm.trans zq.o);have af8:=aO (ah AY.o tn);clear h8 tn kn hq;obtain⟨A1,d1,hv1,hd1,_⟩:=gI HI8.o.sZ.row;obtain⟨A2,d2,hv2,hd2,_⟩:=HI8.o.kid.shape;rw [List.length_map]at hv1 hv2;subst hv1 hv2;obtain⟨e0,e1,e2,e3,ez⟩:=aW HI8.o.blk;obtain⟨c0,c1,c2,c3,cz⟩:=aW af8.o;go_wp2_with fail;have tF:=dM w8 (w.heap.size+1) (I 5) (sv []) (.slice A1 l.length d1) (.slice A2 l.length d2);obtain⟨xs,k1,k2⟩:=HI8.o.kid.sl aG;have kN:=cZ.own HI8.o.sZ.row (F:=fun j=>w2.heap.size+1<=j) (fun g hg=>(HI8.o.sZ.lt g hg).1);refine bodyPost_ret (aL rfl rfl (bg af8.o _ _ _ _) Tryz.underlying80 rfl) rfl ?_;exact aJ.done xL.o.symm (lH mZ.o) ⟨_,rfl,.mk ((kN.turn tF (fun g _ h e=>by omega)).mono (fun g _ h=>by omega)) ((k1.turn tF (fun g _ h e=>by rcases h with h |h;omega;(have:=h.1;omega))).mono (fun g _ h=>by rcases h with h |h;omega;(have:=h.1;omega))) (lF (bI aG (fun g _ h=>by rcases h with h |h;omega;(have:=h.1;omega)) (aM aG tF (fun g _ h e=>by rcases h with h |h;omega;(have:=h.1;omega)) k2)))⟩ (rQ.o.Cg (by omega))
       ·have HQc:bq (Pr.good (bZ.mk 5 [] [] []) r6=Q):=aO ((au hq6.o).symm.trans HQb.o);obtain⟨c0,c1,c2,c3,cz⟩:=aW YV.o;obtain⟨e0,e1,e2,e3,ez⟩:=aW nI.o;go_wp2_with fail;refine bodyPost_ret (aL rfl rfl (bg YV.o _ _ _ _) Tryz.underlying80 rfl) rfl ?_;exact aJ.done HQc.o.symm (lH kM.o) ⟨_,rfl,rY _ _ 5 []⟩ (pW.o.Cg (by omega))
  ·have hi:=pV hq1.o;have lN:bq (Pr.good (bZ.mk i [] [] []) r1=Q):=aO ((au hq1.o).symm.trans HQ.o);obtain⟨c0,c1,c2,c3,cz⟩:=aW QI.o;go_wp2_with fail;refine bodyPost_ret (aL rfl rfl (bg QI.o _ _ _ _) Tryz.underlying80 rfl) rfl ?_;exact aJ.done lN.o.symm (lH HT1.o) ⟨_,rfl,rY _ _ i []⟩ (iR.o.Cg (by omega))
def onP {α β:Type}(q:Pr α)(f:α->Ps β):Pr β:=match q with
 |.good a r=>f a r
 |.bad g=>.bad g
theorem GY {α β:Type}(p:Ps α)(f:α->Ps β)(ts:List aH):aj p f ts=onP (p ts) f:=by
 unfold aj onP;cases p ts <;> rfl
section
variable {α:Type}{fn:Func}{tmps:Array Value}{P:World->Value->α->Prop}{bp B x:Nat}{d:Int}{w w2:World}{Q:Pr α}
theorem kP {g:Du}(hb:AP w2 bp)(hx:w2.cell? ⟨x,0,none⟩=some (pP bp 0))(t:Turn (fun k=>k=bp) w w2)(hq:Q=.bad g):
  Leaves Tryz.prog fn tmps (aJ P bp B d w Q) [{ target:= .fn (.func 164) #[pP x 0],args:= #[]}] (.panicking [{ v:= .iface 143 (.agg #[I 0,I g.1,I g.2.1,I g.2.2]),recovered:=false}]) w2:=by
 obtain⟨v0,d0,hb⟩:=hb;refine leaves_cons (f:=164) (args:= #[pP x 0]) (by simp) (by simp [go_sem]) ?_;refine(KC w2 bp x v0 d0 _ hb hx).mono ?_;rintro e u3 w3 ⟨rfl,rfl,rfl⟩;exact aJ.fail hq ⟨ay t (ak w2 bp 1 _),_,_,heap_setCell_same _ bp 1 _ _ _ hb⟩
theorem jI {v:Value}{y:α}{r:List aH}(hres:∀w3,Turn (fun k=>k=bp) w2 w3->(results fn tmps).run Tryz.prog w3=.ok v w3)
  (hk:cu w2 bp B r (d+1)) (h0:0<=d) (h1:d<100) (hx:w2.cell? ⟨x,0,none⟩=some (pP bp 0)) (t:Turn (fun k=>k=bp) w w2) (hq:Q=.good y r) (hP:∀w3,Turn (fun k=>k=bp) w2 w3->P w3 v y):
  Leaves Tryz.prog fn tmps (aJ P bp B d w Q) [{ target:= .fn (.func 164) #[pP x 0],args:= #[]}] .returning w2:=by
 have hk0:=hk;obtain⟨_,_,_,v0,hb,_⟩:=hk;refine leaves_cons (f:=164) (args:= #[pP x 0]) (by simp) (by simp [go_sem]) ?_;refine(KC w2 bp x v0 (d+1) _ hb hx).mono ?_;rintro e u3 w3 ⟨rfl,rfl,rfl⟩;have e1:wrap64 (d+1 - 1)=d:=by unfold wrap64;omega
 rw [e1];have t3:=ak w2 bp 1 (I d);exact⟨_,hres _ t3,aJ.done hq (ay t t3) (hP _ t3) (hk0.deep rfl)⟩
end
theorem aek {w:World}{base k:Nat}{e:TypeId}{z:List Value}(hz:z.length=k)(hb:base<=w.heap.size):(w.alloc (.cells z.toArray e)).ownsRow base e k (.slice (some ⟨w.heap.size,0,none⟩) 1 1) 1 z:=
 ⟨by omega,.inr ⟨w.heap.size,1,z.toArray,rfl,hb,heap_alloc_new w _,Nat.le_refl _,by decide,by simp;omega,by simp [<-hz]⟩⟩
theorem row_one {α:Type}{R:World->(Nat->Prop)->List Value->α->Prop}{k:Nat}(hR:uo R k){w:World}{base:Nat}{F G:Nat->Prop}{e:TypeId}{z:List Value}{x:α}(hx:R w F z x)(hb:base<=w.heap.size)(hF:∀g,g<w.heap.size->F g->G g):
  eO R k e (w.alloc (.cells z.toArray e)) base G (.slice (some ⟨w.heap.size,0,none⟩) 1 1) [x]:=by
 refine⟨z,aek (hR.len hx) hb,EG (hR.len hx) ?_⟩;have h1:R w (fun j=>j<w.heap.size∧G j) z x:=hR.mono hx fun g hg h=>⟨hg,hF g hg h⟩
 exact hR.mono (hR.turn h1 (Turn.alloc (fun _=>False) _ _) (fun _ _ _=>id)) fun g _ h=>⟨fun e=>by injection e with e;simp at e;omega,h.2⟩
theorem ael {typ:Ps bZ}(ht:Sf typ):Sf (lK typ):=Sf.Nh ht
theorem YX (d:Int)(h0:0<=d)(h1:d<100)(typ:Ps bZ)(qK:Cc (d+1) typ)(hsf:Sf typ):Cc d (JD typ):=by
 intro w bp B ts h;have hlt:=h.lt;have hB:=h.1;obtain⟨Q,hQ⟩:∃Q,JD typ ts=Q:=⟨_,rfl⟩
 rw [hQ]
 have HQ:bq (aj (lK typ) (fun a=>aj (fun ts=>qG typ ts.length [a] ts) fun l=>aj (bD [45,62]) fun b=>
  if b then aj typ fun r=>aB (.mk 6 [] [] [iT l,r])else aB (iT l)) ts=Q):=aO hQ
 have HE:=aO (Dy (w.alloc (.cells #[.int .i64 0,.string ⟨#[]⟩,.slice none 0 0,.slice none 0 0] 80)) bp B ts d (h.below (new1 _ _)) h0 h1);clear h hQ
 go_enter_defers Tryz.func73,Tryz.ntmps73
 go_wp2_with fail;refine(HE.o).mono ?_;rintro e w1 ⟨rfl,tn,hbx,hk⟩;obtain⟨tm,hsz,hrs⟩:=bV tn;simp at hbx;have hxb:=World.block_lt_of_cell? _ _ hbx;simp at hxb;have tN:=aO (hrs (by omega));have HT1:=aO tm;have iR:=aO hk;have wS:=aO hbx;have hs1:=tm.size;have HP:=aO (NK (d+1) typ qK hsf w1 bp B ts hk);clear tn tm hrs hk hbx;go_wp2_with fail;refine(HP.o).mono ?_;rintro e w2 h2;rcases hq:lK typ ts with g |⟨t,r2⟩
 ·obtain⟨rfl,tn,bn⟩:=h2.cB hq;clear h2;have eG:=aO (HQ.o.symm.trans (aA hq));have vL:=aO ((ay HT1.o tn));have hxo:=(aK wS.o tn)
  have uZ:=aO bn;clear tn bn hq;go_wp2_with fail;exact kP uZ.o hxo vL.o eG.o
 ·obtain⟨v2,rfl,tn,⟨z,rfl,hz⟩,kn⟩:=h2.aQ hq;obtain⟨kz,sz,sj,su,sw,sD,sF,sG,rfl⟩:=hz.shape';have Rt:=aO (aK wS.o tn);have hrow:=row_one aG (base:=w1.heap.size) (G:=fun j=>w1.heap.size<=j) (e:=80) hz tn.size (fun _ _ h=>h);have fF:=aO hrow;have NM:=aO ((Sf.Nh hsf).good iR.o.wf hq).2.length_le;have HLEN:=aO iR.o.2.1.1;clear hz hrow;have hs2:=tn.size;have HT2:=aO (ay HT1.o tn);have gX:=aO kn;have kF:bq (aj (fun ts=>qG typ ts.length [t] ts) (fun l=>aj (bD [45,62]) fun b=>if b then aj typ fun r=>aB (.mk 6 [] [] [iT l,r])else aB (iT l)) r2=Q):=aO ((au hq).symm.trans HQ.o);have vK:=aO (ah tN.o tn);clear h2 tn kn hq;obtain⟨A,hA⟩:∃A,qG typ r2.length [t] r2=A:=⟨_,rfl⟩
  have HA:=aO hA
  have NP:bq (onP A (fun l=>aj (bD [45,62]) (fun b=>if b then aj typ fun r=>aB (.mk 6 [] [] [iT l,r])else aB (iT l)))=Q):=aO (by
   have:=kF.o;rw [GY]at this;rw [<-HA.o];exact this)
  have gJ:=aO (gX.o.below (new1 w2 (.cells #[I kz,sv sz,.slice sj su sw,.slice sD sF sG] 80)));have HT3:=aO (ay HT2.o (Turn.alloc (fun k=>k=bp) w2 (.cells #[I kz,sv sz,.slice sj su sw,.slice sD sF sG] 80)));have HRW:=aO (ah vK.o (Turn.alloc (fun _=>False) w2 (.cells #[I kz,sv sz,.slice sj su sw,.slice sD sF sG] 80)) id);have HXW:=aO (aK Rt.o (Turn.alloc (fun _=>False) w2 (.cells #[I kz,sv sz,.slice sj su sw,.slice sD sF sG] 80)) id);clear hA;go_wp2_with fail;go_loopw [3] (fun v3 wr=>∃(f:Nat) (l:List bZ) (r:List aH),eO nT 4 80 wr w1.heap.size (fun j=>w1.heap.size<=j) v3 l∧l≠[]∧qG typ f l r=A∧r.length<=f∧l.length+r.length<=8194∧Turn (fun k=>k=bp) w wr∧w1.heap.size<=wr.heap.size∧cu wr bp B r (d+1)∧wr.cell? ⟨w.heap.size+1,0,none⟩=some (pP bp 0)∧wr.heap[w.heap.size]? =some (.cells Z40 80 (0,0))) (fun _ wr=>leftOf wr bp)
  case atStart=>exact⟨_,[t],r2,fF.o,by simp,HA.o,Nat.le_refl _,by have:=NM.o;have:=HLEN.o;simp;omega,HT3.o,by simp;omega,gJ.o,HXW.o,HRW.o⟩
  case round=>
   obtain⟨f,l,r,hrow,hne,ha,hf,hlr,ht,hsw,hk,hx,hr⟩:=hrel;have hwf:=hk.wf;have hpos:=hwf.pos;obtain⟨f,rfl⟩:∃f',f=f'+1:=⟨f - 1,by omega⟩
   have anO:bq (aj (bD [124]) (fun b=>if b then aj (lK typ) fun a=>qG typ f (l++[a])else aB l) r=A):=aO ha;have MZ:=aO hk.left;have HF:=aO hf;have xA:=aO hlr;have uR:=aO ht;have ni:=aO hk;have HXR:=aO hx;have HRR:=aO hr;have wQ:=aO hwf;have HH:=aO (mH wr bp B r (d+1) hk [124]);have HPO:=aO hpos;have af9:=aO hrow;obtain⟨Al,cl,hvl,hcl,hml⟩:=hrow.shape;subst hvl;clear hrow ha hf hlr ht hk hx hr hwf hpos;go_wp2_with fail;refine(HH.o).mono ?_;rintro e w3 h3;rcases hq:bD [124] r with g |⟨b,r3⟩
   ·obtain⟨rfl,tn,bn⟩:=h3.cB hq;exact(jq hq).elim
   ·obtain⟨v3,rfl,tn,rfl,kn⟩:=h3.aQ hq;have hq3:=aO hq;have HX3:=aO (aK HXR.o tn);have vM:=aO (af9.o.turn aG tn (fun g hg e=>by have:=(af9.o.lt g hg).1;omega) (fun g _ hg e=>by omega));have hs3:=tn.size;have HT3:=aO (ay uR.o tn);have gJ:=aO kn;have KH:=aO (ah HRR.o tn);clear h3 tn kn hq;cases b
    ·have HA3:bq (Pr.good l r3=A):=aO ((au hq3.o).symm.trans anO.o);have iO:bq (aj (bD [45,62]) (fun b=>if b then aj typ fun r=>aB (.mk 6 [] [] [iT l,r])else aB (iT l)) r3=Q):=aO (by have:=NP.o;rw [<-HA3.o]at this;exact this);have HNE:=aO hne;obtain⟨ys,hy,hrr⟩:=vM.o;obtain⟨ta,l',rfl⟩:∃a l',l=a :: l':=by cases l with |nil=>exact absurd rfl hne |cons a l'=>exact⟨a,l',rfl⟩
     obtain⟨g0,c9,hg0,hgb,hgs,hc9,hm9⟩:=jo hy (by simp);injection hg0 with hg0 hg1 hg2;subst hg0 hg2;cases hrr with
     | @cons z0 y0 _ _ hz0 hx0 hrt=>
      obtain⟨k0,s0,YZ,n10,c10,Y0,n20,c20,rfl⟩:=hx0.shape';have o0:=(aY hy rfl (i:=0) (u:=I k0) rfl).1;have o1:=(aY hy rfl (i:=1) (u:=sv s0) rfl).1;have o2:=(aY hy rfl (i:=2) (u:= .slice YZ n10 c10) rfl).1;have o3:=(aY hy rfl (i:=3) (u:= .slice Y0 n20 c20) rfl).1;have HZ0:=aO (hx0.mono (G:=fun j=>w1.heap.size<=j) (fun _ _ h=>h.2));have hll:((ta :: l').length:Int)=(l'.length:Int)+1:=by simp
      clear hy hx0 hrt hz0 hne;cases l' with
      |nil=>
       simp only [List.length_nil]at*
       have HN:=aO (mH (w3.alloc (.cells #[.int .i64 k0,sv s0,.slice YZ n10 c10,.slice Y0 n20 c20] 80)) bp B r3 (d+1) (gJ.o.below (new1 _ _)) [45,62]);go_wp2_with fail;refine(HN.o).mono ?_;rintro e w4 h4;rcases hq:bD [45,62] r3 with g |⟨b,r4⟩
       ·obtain⟨rfl,tn,bn⟩:=h4.cB hq;exact(jq hq).elim
       ·obtain⟨v4,rfl,tn,rfl,kn⟩:=h4.aQ hq;obtain⟨tm,aej,hbt⟩:=bV tn;have nI:=aO (hbt (by omega));have hq4:=aO hq;have GZ:=aO (aK HX3.o tm);have HTU:bq (nT w4 (fun j=>w1.heap.size<=j) [I k0,sv s0,.slice YZ n10 c10,.slice Y0 n20 c20] (iT [ta])):=aO (HZ0.o.turn tm (fun g _ h e=>by omega));clear hbt;have hs4:=tm.size;have fU:=aO (ay HT3.o tm);have iW:=aO kn;have yD:=aO (ah KH.o tm);clear h4 tn kn hq;cases b
        ·have gP:bq (Pr.good (iT ([ta])) r4=Q):=aO ((au hq4.o).symm.trans iO.o);obtain⟨e0,e1,e2,e3,ez⟩:=aW nI.o;obtain⟨c0,c1,c2,c3,cz⟩:=aW yD.o;go_wp2_with fail;have tF:=dM w4 w.heap.size (I k0) (sv s0) (.slice YZ n10 c10) (.slice Y0 n20 c20)
         exact jI (fun w9 t9=>aL rfl rfl (ah (bg yD.o _ _ _ _) t9) Tryz.underlying80 rfl) (iW.o.Cg (by omega)) h0 h1 (aK GZ.o tF) (lH fU.o) gP.o.symm
          (fun w9 t9=>⟨[I k0,sv s0,.slice YZ n10 c10,.slice Y0 n20 c20],rfl,((HTU.o.turn tF (fun g _ h e=>by omega)).turn t9 (fun g _ h e=>by omega)).mono (fun g _ h=>by omega)⟩)
        ·have gP:bq (aj typ (fun r=>aB (bZ.mk 6 [] [] [iT ([ta]),r])) r4=Q):=aO ((au hq4.o).symm.trans iO.o);obtain⟨e0,e1,e2,e3,ez⟩:=aW nI.o;have PT:=aO (fun(w':World) (h:Turn (fun j=>j=bp) w4 w')=>(⟨aK e0 h,aK e1 h,aK e2 h,aK e3 h⟩:w'.cell? ⟨w3.heap.size,0,none⟩=some (I k0)∧w'.cell? ⟨w3.heap.size,1,none⟩=some (sv s0)∧w'.cell? ⟨w3.heap.size,2,none⟩=some (.slice YZ n10 c10)∧w'.cell? ⟨w3.heap.size,3,none⟩=some (.slice Y0 n20 c20)));have HD0:bq (Turn (fun j=>j=bp) w4 w4.drew):=aO ⟨rfl,rfl,rfl,Nat.le_refl _,fun _ _ _=>rfl⟩;have Ga:=aO (qK w4.drew bp B r4 iW.o);clear e0 e1 e2 e3 ez;go_wp2_with fail;refine bM (S:=fun w'=>Turn (fun j=>j=bp) w4 w') (x:=5) (by kernel_rfl) ?_
         try simp only [sp,sq]
         refine jw 0 (.agg #[I k0,sv s0,.slice YZ n10 c10,.slice Y0 n20 c20]) PT.o HD0.o (hQ:=iE rfl (by decide)) ?_;refine tx 1 (pP bp 0) HD0.o (hQ:=iE rfl (by decide)) ?_;refine bB 2 fun K hK=>?_;go_simp;refine(Ga.o).mono ?_;rintro e w5 h5;rcases hq:typ r4 with g |⟨x5,r5⟩
         ·obtain⟨rfl,tn,bn⟩:=h5.cB hq;have t5:=ay HD0.o tn;exact kP bn (aK GZ.o t5) (ay fU.o t5) (gP.o.symm.trans (aA hq))
         ·obtain⟨v5,rfl,tn,⟨z5,rfl,JH⟩,kn⟩:=h5.aQ hq;obtain⟨k5,s5,DC,n15,c15,DF,n25,DI,rfl⟩:=JH.shape';have fP:=aO (ay HD0.o tn);have hs5:=fP.o.size;have jH:=aO kn;have Dl:=aO (JH.mono (G:=fun j=>w1.heap.size<=j) (fun g _ h=>by have h:w4.heap.size<=g:=h;omega));have jf:bq (Pr.good (bZ.mk 6 [] [] [iT ([ta]),x5]) r5=Q):=aO ((au hq).symm.trans gP.o);clear h5 tn JH kn hq;refine hK.out _ _ fP.o ?_;clear hK K
          try simp only [sp,sq]
          refine bB 3 fun K hK=>?_;go_simp;have kM:=aO (ay fP.o (Turn.alloc (fun k=>k=bp) w5 (.cells #[I k0,sv s0,.slice YZ n10 c10,.slice Y0 n20 c20,I k5,sv s5,.slice DC n15 c15,.slice DF n25 DI] 80)));refine hK.out _ _ kM.o ?_;clear hK K
          try simp only [sp,sq]
          refine tx 4 (.agg #[I 6,S0,Z,.slice (some ⟨w5.heap.size,0,none⟩) 2 2]) kM.o (hQ:=iE rfl (by decide)) ?_;have LQ:=aO (ah yD.o kM.o);obtain⟨c0,c1,c2,c3,cz⟩:=aW LQ.o;refine bR 5 fun K hK=>?_;go_simp;refine hK.out _ _ ?_;clear hK K
          try simp only [sp,sq]
          refine bU _ ?_;have tA:=Turn.alloc (fun _=>False) w5 (.cells #[I k0,sv s0,.slice YZ n10 c10,.slice Y0 n20 c20,I k5,sv s5,.slice DC n15 c15,.slice DF n25 DI] 80);have tF:=dM (w5.alloc (.cells #[.int .i64 k0,sv s0,.slice YZ n10 c10,.slice Y0 n20 c20,.int .i64 k5,sv s5,.slice DC n15 c15,.slice DF n25 DI] 80)) w.heap.size (I 6) (sv []) Z (.slice (some ⟨w5.heap.size,0,none⟩) 2 2);have y1:=((HTU.o.turn fP.o (fun g _ h e=>by omega)).turn tA (fun _ _ _=>id)).turn tF (fun g _ h e=>by omega);have y2:=(Dl.o.turn tA (fun _ _ _=>id)).turn tF (fun g _ h e=>by omega);have y3:=(kK w5 #[I k0,sv s0,.slice YZ n10 c10,.slice Y0 n20 c20,I k5,sv s5,.slice DC n15 c15,.slice DF n25 DI] 80 4 2 rfl (by decide)).turn tF (fun g _ h e=>by omega);go_wp2_with fail
          exact jI (fun w9 t9=>aL rfl rfl (ah (bg LQ.o _ _ _ _) t9) Tryz.underlying80 rfl) ((jH.o.below (new1 _ _)).Cg (by omega)) h0 h1 (aK (aK GZ.o kM.o) tF) (lH (ay fU.o kM.o)) jf.o.symm
           (fun w9 t9=>⟨_,rfl,.mk (cZ.nil _ _ _) ((y3.turn t9 (fun g _ h e=>by omega)).mono (fun g _ h=>by omega)) (.cons ((y1.turn t9 (fun g _ h e=>by omega)).mono (fun g _ h=>by omega)) (.cons ((y2.turn t9 (fun g _ h e=>by omega)).mono (fun g _ h=>by omega)) .nil))⟩)
      |cons BA l2=>
       have hgt:decide ((1:Int)<(l2.length:Int)+1+1)=true:=by simp;omega
       obtain⟨xsu,NQ,NR⟩:=vM.o.sl aG;have KU1:=aO NQ;have KU2:=aO NR;clear NQ NR;have HN:=aO (mH (w3.alloc (.cells #[.int .i64 7,.string ⟨#[]⟩,.slice none 0 0,.slice (some ⟨g0,0,none⟩) (l2.length+1+1) cl] 80)) bp B r3 (d+1) (gJ.o.below (new1 _ _)) [45,62]);go_wp2_with fail;refine(HN.o).mono ?_;rintro e w4 h4;rcases hq:bD [45,62] r3 with g |⟨b,r4⟩
       ·obtain⟨rfl,tn,bn⟩:=h4.cB hq;exact(jq hq).elim
       ·obtain⟨v4,rfl,tn,rfl,kn⟩:=h4.aQ hq;obtain⟨tm,aej,hbt⟩:=bV tn;have nI:=aO (hbt (by omega));have hq4:=aO hq;have GZ:=aO (aK HX3.o tm);have HTU:bq (nT w4 (fun j=>w1.heap.size<=j) [I 7,S0,Z,.slice (some ⟨g0,0,none⟩) (l2.length+1+1) cl] (iT (ta :: BA :: l2))):=aO (.mk (cZ.nil _ _ _) ((KU1.o.turn tm (fun g _ h e=>by rcases h with h |h <;> omega)).mono (fun g _ h=>by rcases h with h |h <;> omega)) (lF (bI aG (fun g _ h=>by rcases h with h |h <;> omega) (aM aG tm (fun g _ h e=>by rcases h with h |h <;> omega) KU2.o))));clear hbt;have hs4:=tm.size;have fU:=aO (ay HT3.o tm);have iW:=aO kn;have yD:=aO (ah KH.o tm);clear h4 tn kn hq;cases b
        ·have gP:bq (Pr.good (iT (ta :: BA :: l2)) r4=Q):=aO ((au hq4.o).symm.trans iO.o);obtain⟨e0,e1,e2,e3,ez⟩:=aW nI.o;obtain⟨c0,c1,c2,c3,cz⟩:=aW yD.o;go_wp2_with fail;have tF:=dM w4 w.heap.size (I 7) S0 Z (.slice (some ⟨g0,0,none⟩) (l2.length+1+1) cl)
         exact jI (fun w9 t9=>aL rfl rfl (ah (bg yD.o _ _ _ _) t9) Tryz.underlying80 rfl) (iW.o.Cg (by omega)) h0 h1 (aK GZ.o tF) (lH fU.o) gP.o.symm
          (fun w9 t9=>⟨[I 7,S0,Z,.slice (some ⟨g0,0,none⟩) (l2.length+1+1) cl],rfl,((HTU.o.turn tF (fun g _ h e=>by omega)).turn t9 (fun g _ h e=>by omega)).mono (fun g _ h=>by omega)⟩)
        ·have gP:bq (aj typ (fun r=>aB (bZ.mk 6 [] [] [iT (ta :: BA :: l2),r])) r4=Q):=aO ((au hq4.o).symm.trans iO.o);obtain⟨e0,e1,e2,e3,ez⟩:=aW nI.o;have PT:=aO (fun(w':World) (h:Turn (fun j=>j=bp) w4 w')=>(⟨aK e0 h,aK e1 h,aK e2 h,aK e3 h⟩:w'.cell? ⟨w3.heap.size,0,none⟩=some (I 7)∧w'.cell? ⟨w3.heap.size,1,none⟩=some S0∧w'.cell? ⟨w3.heap.size,2,none⟩=some Z∧w'.cell? ⟨w3.heap.size,3,none⟩=some (.slice (some ⟨g0,0,none⟩) (l2.length+1+1) cl)));have HD0:bq (Turn (fun j=>j=bp) w4 w4.drew):=aO ⟨rfl,rfl,rfl,Nat.le_refl _,fun _ _ _=>rfl⟩;have Ga:=aO (qK w4.drew bp B r4 iW.o);clear e0 e1 e2 e3 ez;go_wp2_with fail;refine bM (S:=fun w'=>Turn (fun j=>j=bp) w4 w') (x:=5) (by kernel_rfl) ?_
         try simp only [sp,sq]
         refine jw 0 (.agg #[I 7,S0,Z,.slice (some ⟨g0,0,none⟩) (l2.length+1+1) cl]) PT.o HD0.o (hQ:=iE rfl (by decide)) ?_;refine tx 1 (pP bp 0) HD0.o (hQ:=iE rfl (by decide)) ?_;refine bB 2 fun K hK=>?_;go_simp;refine(Ga.o).mono ?_;rintro e w5 h5;rcases hq:typ r4 with g |⟨x5,r5⟩
         ·obtain⟨rfl,tn,bn⟩:=h5.cB hq;have t5:=ay HD0.o tn;exact kP bn (aK GZ.o t5) (ay fU.o t5) (gP.o.symm.trans (aA hq))
         ·obtain⟨v5,rfl,tn,⟨z5,rfl,JH⟩,kn⟩:=h5.aQ hq;obtain⟨k5,s5,DC,n15,c15,DF,n25,DI,rfl⟩:=JH.shape';have fP:=aO (ay HD0.o tn);have hs5:=fP.o.size;have jH:=aO kn;have Dl:=aO (JH.mono (G:=fun j=>w1.heap.size<=j) (fun g _ h=>by have h:w4.heap.size<=g:=h;omega));have jf:bq (Pr.good (bZ.mk 6 [] [] [iT (ta :: BA :: l2),x5]) r5=Q):=aO ((au hq).symm.trans gP.o);clear h5 tn JH kn hq;refine hK.out _ _ fP.o ?_;clear hK K
          try simp only [sp,sq]
          refine bB 3 fun K hK=>?_;go_simp;have kM:=aO (ay fP.o (Turn.alloc (fun k=>k=bp) w5 (.cells #[I 7,S0,Z,.slice (some ⟨g0,0,none⟩) (l2.length+1+1) cl,I k5,sv s5,.slice DC n15 c15,.slice DF n25 DI] 80)));refine hK.out _ _ kM.o ?_;clear hK K
          try simp only [sp,sq]
          refine tx 4 (.agg #[I 6,S0,Z,.slice (some ⟨w5.heap.size,0,none⟩) 2 2]) kM.o (hQ:=iE rfl (by decide)) ?_;have LQ:=aO (ah yD.o kM.o);obtain⟨c0,c1,c2,c3,cz⟩:=aW LQ.o;refine bR 5 fun K hK=>?_;go_simp;refine hK.out _ _ ?_;clear hK K
          try simp only [sp,sq]
          refine bU _ ?_;have tA:=Turn.alloc (fun _=>False) w5 (.cells #[I 7,S0,Z,.slice (some ⟨g0,0,none⟩) (l2.length+1+1) cl,I k5,sv s5,.slice DC n15 c15,.slice DF n25 DI] 80);have tF:=dM (w5.alloc (.cells #[.int .i64 7,.string ⟨#[]⟩,.slice none 0 0,.slice (some ⟨g0,0,none⟩) (l2.length+1+1) cl,.int .i64 k5,sv s5,.slice DC n15 c15,.slice DF n25 DI] 80)) w.heap.size (I 6) (sv []) Z (.slice (some ⟨w5.heap.size,0,none⟩) 2 2);have y1:=((HTU.o.turn fP.o (fun g _ h e=>by omega)).turn tA (fun _ _ _=>id)).turn tF (fun g _ h e=>by omega);have y2:=(Dl.o.turn tA (fun _ _ _=>id)).turn tF (fun g _ h e=>by omega);have y3:=(kK w5 #[I 7,S0,Z,.slice (some ⟨g0,0,none⟩) (l2.length+1+1) cl,I k5,sv s5,.slice DC n15 c15,.slice DF n25 DI] 80 4 2 rfl (by decide)).turn tF (fun g _ h e=>by omega);go_wp2_with fail
          exact jI (fun w9 t9=>aL rfl rfl (ah (bg LQ.o _ _ _ _) t9) Tryz.underlying80 rfl) ((jH.o.below (new1 _ _)).Cg (by omega)) h0 h1 (aK (aK GZ.o kM.o) tF) (lH (ay fU.o kM.o)) jf.o.symm
           (fun w9 t9=>⟨_,rfl,.mk (cZ.nil _ _ _) ((y3.turn t9 (fun g _ h e=>by omega)).mono (fun g _ h=>by omega)) (.cons ((y1.turn t9 (fun g _ h e=>by omega)).mono (fun g _ h=>by omega)) (.cons ((y2.turn t9 (fun g _ h e=>by omega)).mono (fun g _ h=>by omega)) .nil))⟩)
    ·have iO:bq (aj (lK typ) (fun a=>qG typ f (l++[a])) r3=A):=aO ((au hq3.o).symm.trans anO.o);have HL3:=aO (zm hq3.o HPO.o);have HP:=aO (NK (d+1) typ qK hsf w3 bp B r3 gJ.o);go_wp2_with fail;refine(HP.o).mono ?_;rintro e w4 h4;rcases hq:lK typ r3 with g |⟨t4,r4⟩
     ·obtain⟨rfl,tn,bn⟩:=h4.cB hq;clear h4;have eG:=aO (NP.o.symm.trans (congrArg (fun q=>onP q _) (iO.o.symm.trans (aA hq))));have vL:=aO ((ay HT3.o tn));have hxo:=(aK HX3.o tn)
      have uZ:=aO bn;clear tn bn hq;go_wp2_with fail;exact kP uZ.o hxo vL.o eG.o
     ·obtain⟨v4,rfl,tn,⟨z4,rfl,hz⟩,kn⟩:=h4.aQ hq;obtain⟨k4,s4,tq,n14,c14,tC,n24,c24,rfl⟩:=hz.shape';have GZ:=aO (aK HX3.o tn);have Dm:=aO hz;have BD:=aO tn;have NM:=aO ((Sf.Nh hsf).good gJ.o.wf hq).2.length_le;clear hz;have hs4:=tn.size;have fU:=aO (ay HT3.o tn);have iW:=aO kn;have gP:bq (qG typ f (l++[t4]) r4=A):=aO ((au hq).symm.trans iO.o);have yD:=aO (ah KH.o tn);clear h4 tn kn hq;obtain⟨ys,hy,hrr⟩:=vM.o;have hyl:ys.length=l.length*4:=hy.1;have Y3:=dS hy BD.o (fun g hg e=>by have:=(hy.lt g hg).1;omega);have HY:=aO hy;have HRR:=aO hrr;have HYW:=aO Y3;have X6:l.length<=8194:=by have:=xA.o;omega
      clear hy hrr Y3;go_wp2_with (at_builtin;go_must (refine dR rfl (.tmp 14) (.tmp 17) _ rfl w1.heap.size vI _ _ rfl rfl (HYW.o.alloc (.cells #[.int .i64 k4,sv s4,.slice tq n14 c14,.slice tC n24 c24] 80)) (iN w4 #[I k4,sv s4,.slice tq n14 c14,.slice tC n24 c24] 80 4 1 rfl (by decide)) (zo k4 s4 _ _ _ _ _ _) (by simp [maxLen];omega) (by simp;omega) (by simp;omega) (fun v9 w9 n9 dI nM iJ=>?_));have jr:=aO dI;have G6:=aO nM;have rz:=aO iJ;clear dI nM iJ);have ta:=Turn.alloc (fun j=>(Value.slice Al l.length cl).ownBlock=some j) w4 (.cells #[I k4,sv s4,.slice tq n14 c14,.slice tC n24 c24] 80);have t9:=ta.trans (Turn.aZ G6.o (F:=fun j=>(Value.slice Al l.length cl).ownBlock=some j) (fun _ h=>h)) (fun _ _ h=>h);have iZ:=vM.o.lt;have Ch:=eO.push aG (F:=fun j=>w1.heap.size<=j) HY.o HRR.o BD.o Dm.o t9 (fun j _ h=>.inl h) (rz.o.imp id fun e=>⟨_,by simp,e⟩) jr.o (by omega) (by omega) (fun j hj=>by omega)
      go_roundw
      case rel=>exact⟨f,_,r4,Ch,by simp,gP.o,by have:=NM.o;have:=HL3.o;have:=HF.o;omega,by have:=NM.o;have:=HL3.o;have:=xA.o;simp;omega,fU.o.trans t9 (fun i hi e=>by have:=(iZ i e).1;omega),by have:=t9.size;omega,iW.o.turn t9 (fun e=>by have:=(iZ _ e).1;omega) (fun k hk e=>by have:=(iZ _ e).1;omega),aK GZ.o t9 (fun e=>by have:=(iZ _ e).1;omega),ah yD.o t9 (fun e=>by have:=(iZ _ e).1;omega)⟩
      case measure=>rw [(iW.o.turn t9 (fun e=>by have:=(iZ _ e).1;omega) (fun k hk e=>by have:=(iZ _ e).1;omega)).left,MZ.o];have:=NM.o;have:=HL3.o;omega
theorem Y4:Cc 100 (kI 6):=by
 intro w bp B ts h;have HE:=aO (AV (w.alloc (.cells #[.int .i64 0,.string ⟨#[]⟩,.slice none 0 0,.slice none 0 0] 80)) bp B ts (h.below (new1 _ _)));clear h
 go_enter_defers Tryz.func73,Tryz.ntmps73
 go_wp2_with fail;refine(HE.o).mono ?_;rintro e w1 ⟨rfl,hb⟩;go_wp2_with fail;exact aJ.fail (P:=PTy w.heap.size) (B:=B) (d:=100) (q:=kI 6 ts) rfl ⟨(bV hb.1).1,hb.2⟩
theorem Gc:∀n:Nat,n<=100->Cc (100 - (n:Int)) (dw n).typ
 |0,_=>Y4
 |n+1,h=>by
  have ih:=Gc n (by omega);have e:(100:Int) - ((n+1:Nat):Int)+1=100 - (n:Int):=by omega
  refine YX (100 - ((n+1:Nat):Int)) (by omega) (by omega) (dw n).typ ?_ (Sf.Q6 n).1;rw [e];exact ih
abbrev Wh (base:Nat)(w:World)(v:Value)(l:List bZ):Prop:=eO nT 4 80 w base (fun j=>base<=j) v l
theorem Ci {α:Type}{R:World->(Nat->Prop)->List Value->α->Prop}{k:Nat}(hR:uo R k){w:World}{F:Nat->Prop}:∀{ys:List Value}{l:List α},fA (R w F) k ys l->∀u∈ys,u.oneCell'=true
 |_,_,.nil=>fun _ h=>by cases h
 |_,_,.cons h1 h2 h3=>fun u hu=>by
  rcases List.mem_append.1 hu with h |h
  ·exact hR.one h2 u h
  ·exact Ci hR h3 u h
theorem aem {base bp:Nat}{w w6 w9:World}{v v7:Value}{l:List bZ}{x:bZ}{z:List Value}{o:Obj}{n7:Nat}{ys:List Value}(hy:w.ownsRow base 80 4 v l.length ys)(hr:fA (nT w (tL (fun j=>base<=j) v)) 4 ys l)(t:Turn (fun k=>k=bp) w w6)(hbp:bp<base)(hs:base<=w.heap.size)
  (hx:nT w6 (fun j=>w.heap.size<=j) z x) (hg:(w6.alloc o).grownBy w9 v.ownBlock) (hbk:v7.ownBlock=v.ownBlock∨v7.ownBlock=some (w6.alloc o).heap.size) (h7:w9.ownsRow base 80 4 v7 n7 (ys++z)):Wh base w9 v7 (l++[x])∧Turn (fun j=>v.ownBlock=some j) w6 w9:=by
 have t9:=(Turn.alloc (fun j=>v.ownBlock=some j) w6 o).trans (Turn.aZ hg (F:=fun j=>v.ownBlock=some j) (fun _ h=>h));exact⟨eO.push aG (F:=fun j=>base<=j) hy hr t hx t9 (fun j _ h=>.inl h) (hbk.imp id fun e=>⟨_,by simp,e⟩) h7 (by omega) (by omega) (fun j hj=>by omega),t9⟩
theorem LU {base:Nat}{w w9:World}{v v7:Value}{l m:List bZ}{ys ms:List Value}{n7:Nat}(hy:w.ownsRow base 80 4 v l.length ys)(hr:fA (nT w (tL (fun j=>base<=j) v)) 4 ys l)(hm:fA (nT w (tL (fun j=>base<=j) v)) 4 ms m)
  (hg:w.grownBy w9 v.ownBlock) (hbk:v7.ownBlock=v.ownBlock∨v7.ownBlock=some w.heap.size) (h7:w9.ownsRow base 80 4 v7 n7 (ys++ms)):Wh base w9 v7 (l++m):=by
 have tg:=Turn.aZ hg (F:=fun j=>v.ownBlock=some j) (fun _ h=>h);have hnew:∀j,j<w.heap.size->v7.ownBlock=some j->v.ownBlock=some j:=fun j hj e=>by
  rcases hbk with hb |hb
  ·rw [hb]at e;exact e
  ·rw [hb]at e;injection e with e;omega
 have hrow:=fA.app hm hr;have hn:n7=(l++m).length:=by
  have e1:=h7.1;have e2:=hrow.len;omega
 subst hn;refine⟨_,h7,hrow.imp fun _ _ h=>?_⟩;have h3:nT w (fun j=>j<w.heap.size∧tL (fun j=>base<=j) v j) _ _:=h.mono fun j hj h=>⟨hj,h⟩
 exact(h3.turn tg (fun j _ h e=>h.2.1 e)).mono fun j _ h=>⟨fun e=>h.2.1 (hnew j h.1 e),h.2.2⟩
theorem DJ (d:Int)(typ:Ps bZ)(qK:Cc d typ)(hsf:Sf typ)(w:World)(bp B base:Nat)(ts:List aH)(h:cu w bp B ts d)(v v':Value)(l m:List bZ)(ms:List Value)(hv:Wh base w v l)(hm:cZ w (fun j=>j≠bp) 4 v' ms)(hmr:fA (nT w (tL (fun j=>base<=j) v)) 4 ms m)(hl:l.length<=4)(hml:m.length<=4)(hbp:bp<base)(hs:base<=w.heap.size):
  Calls Tryz.prog 122 #[pP bp 0,v,v'] w (gY (Wh base) (fun k=>k=bp∨v.ownBlock=some k) bp B d w (fZ typ l m ts)):=by
 have hlt:=h.lt;have hB:=h.1;obtain⟨Al,cl,hvl,hcl,hcm⟩:=hv.shape;subst hvl;obtain⟨Am,nm,cm,hvm,hlm,hnm,hcm2,hxm⟩:=hm;have hm:cZ w (fun j=>j≠bp) 4 v' ms:=⟨Am,nm,cm,hvm,hlm,hnm,hcm2,hxm⟩
 subst hvm;have anS:=hmr.len;obtain⟨Q,hQ⟩:∃Q,fZ typ l m ts=Q:=⟨_,rfl⟩
 rw [hQ];have HQ:bq (aj (bD [58]) (fun b=>if b then aj typ fun t=>aB (l++[t])else aB (l++m)) ts=Q):=aO hQ;have HH:=aO (mH w bp B ts d h [58]);have HV:=aO hv;have HM:=aO hm;have X8:=aO hmr;clear h hQ hv hm hmr hxm;go_enter Tryz.func122,Tryz.ntmps122;go_wp2_with fail;refine(HH.o).mono ?_;rintro e w1 h1;rcases hq:bD [58] ts with g |⟨b,r1⟩
 ·obtain⟨rfl,tn,bn⟩:=h1.cB hq;exact(jq hq).elim
 ·obtain⟨v1,rfl,tn,rfl,kn⟩:=h1.aQ hq;have hq1:=aO hq;have HV1:=aO (HV.o.turn aG tn (fun g hg e=>by have:=(HV.o.lt g hg).1;omega) (fun g _ hg e=>by omega));have HM1:=aO (aM aG tn (fun g _ hg e=>by have:=hg.2;omega) X8.o);have uQ:=aO (cZ.turn HM.o tn (fun g _ h e=>h e));have aA0:=tn.size;have hs1:=tn.size;have HT1:=aO (tn);have iR:=aO kn;clear h1 tn kn hq;cases b
  ·have kF:bq (Pr.good (l++m) r1=Q):=aO ((au hq1.o).symm.trans HQ.o);obtain⟨ys,hy,hrr⟩:=HV1.o;have hyl:ys.length=l.length*4:=hy.1;have HY:=aO hy;have HRR:=aO hrr;have HON:=aO (Ci aG HM1.o);clear hy hrr;go_wp2_with (at_builtin;go_must (refine dR rfl (.tmp 16) (.tmp 17) _ rfl base vI _ _ rfl rfl HY.o uQ.o.all HON.o (by rw [anS];unfold maxLen;omega) (by rw [anS];omega) (by omega) (fun v9 w9 n9 dI nM iJ=>?_));have jr:=aO dI;have G6:=aO nM;have rz:=aO iJ;clear dI nM iJ);have tg:=Turn.aZ G6.o (F:=fun j=>(Value.slice Al l.length cl).ownBlock=some j) (fun _ h=>h);have hlo:=HV1.o.lt;go_ret;exact gY.done kF.o.symm ((HT1.o.mono (G:=fun k=>k=bp∨(Value.slice Al l.length cl).ownBlock=some k) (fun _ _ h=>.inl h)).trans tg (fun _ _ h=>.inr h)) (LU HY.o HRR.o HM1.o G6.o rz.o jr.o) (iR.o.turn tg (fun e=>by have:=(hlo _ e).1;omega) (fun k hk e=>by have:=(hlo _ e).1;omega))
  ·have kF:bq (aj typ (fun t=>aB (l++[t])) r1=Q):=aO ((au hq1.o).symm.trans HQ.o);have Ga:=aO (qK w1 bp B r1 iR.o);go_wp2_with fail;refine(Ga.o).mono ?_;rintro e w2 h2;rcases hq:typ r1 with g |⟨t2,r2⟩
   ·obtain⟨rfl,tn,bn⟩:=h2.cB hq;have eG:=aO (kF.o.symm.trans (aA hq));have HB:=aO (fJ.mk2 (ay HT1.o tn) bn);clear h2 tn bn hq;go_wp2_with fail;exact⟨rfl,gY.fail eG.o (HB.o.1.mono fun _ _ h=>.inl h) HB.o.2⟩
   ·obtain⟨v2,rfl,tn,⟨z,rfl,hz⟩,kn⟩:=h2.aQ hq;obtain⟨k4,s4,tq,n14,c14,tC,n24,c24,rfl⟩:=hz.shape';have HZ:=aO hz;have BD:=aO tn;clear hz;have hs2:=tn.size;have HT2:=aO (ay HT1.o tn);have gX:=aO kn;have kF:bq (aB (l++[t2]) r2=Q):=aO ((au hq).symm.trans kF.o);clear h2 tn kn hq;have auc:bq (Pr.good (l++[t2]) r2=Q):=kF;obtain⟨ys,hy,hrr⟩:=HV1.o;have hyl:ys.length=l.length*4:=hy.1;have Y3:=dS hy BD.o (fun g hg e=>by have:=(hy.lt g hg).1;omega);have HY:=aO hy;have HRR:=aO hrr;have HYW:=aO Y3;clear hy hrr Y3;go_wp2_with (at_builtin;go_must (refine dR rfl (.tmp 11) (.tmp 14) _ rfl base vI _ _ rfl rfl (HYW.o.alloc (.cells #[.int .i64 k4,sv s4,.slice tq n14 c14,.slice tC n24 c24] 80)) (iN w2 #[I k4,sv s4,.slice tq n14 c14,.slice tC n24 c24] 80 4 1 rfl (by decide)) (zo k4 s4 _ _ _ _ _ _) (by simp [maxLen];omega) (by simp;omega) (by simp;omega) (fun v9 w9 n9 dI nM iJ=>?_));have jr:=aO dI;have G6:=aO nM;have rz:=aO iJ;clear dI nM iJ);obtain⟨hrow,t9⟩:=aem HY.o HRR.o BD.o hbp (by omega) HZ.o G6.o rz.o jr.o;have hlo:=HV1.o.lt;go_ret;exact gY.done auc.o.symm ((HT2.o.mono (G:=fun k=>k=bp∨(Value.slice Al l.length cl).ownBlock=some k) (fun _ _ h=>.inl h)).trans t9 (fun _ _ h=>.inr h)) hrow (gX.o.turn t9 (fun e=>by have:=(hlo _ e).1;omega) (fun k hk e=>by have:=(hlo _ e).1;omega))
theorem Wi {typ:Ps bZ}{a:bZ}{ts r:List aH}{y:List bZ}(h:fZ typ [] [a] ts=.good y r):y.length=1:=by
 unfold fZ at h;rcases hq:bD [58] ts with g |⟨b,r1⟩
 ·exact(jq hq).elim
 rw [au hq]at h;cases b
 ·injection h with h _;rw [<-h];rfl
 ·rcases hq2:typ r1 with g |⟨t,r2⟩
  ·rw [if_pos rfl,aA hq2]at h;cases h
  ·rw [if_pos rfl,au hq2]at h;injection h with h _;rw [<-h];rfl
def agd (base:Nat)(w:World)(v:Value)(x:Bt ×List bZ):Prop:=∃u,v=.tuple #[sv x.1,u]∧Wh base w u x.2
theorem NS (d:Int)(typ:Ps bZ)(qK:Cc d typ)(hsf:Sf typ)(w:World)(bp B:Nat)(ts:List aH)(h:cu w bp B ts d)(v':Value)(m:List bZ)(ms:List Value)(hm:cZ w (fun j=>j≠bp) 4 v' ms)(hmr:∀w F,fA (nT w F) 4 ms m)(hml:m.length<=4):
  Calls Tryz.prog 124 #[pP bp 0,v'] w (aJ (agd w.heap.size) bp B d w (jB typ m ts)):=by
 have hlt:=h.lt;have hB:=h.1;obtain⟨Am,nm,cm,hvm,hlm,hnm,hcm2,hxm⟩:=hm;have hm:cZ w (fun j=>j≠bp) 4 v' ms:=⟨Am,nm,cm,hvm,hlm,hnm,hcm2,hxm⟩
 subst hvm;obtain⟨Q,hQ⟩:∃Q,jB typ m ts=Q:=⟨_,rfl⟩
 rw [hQ];have HQ:bq (aj (aC [40]) (fun _=>aj nameP fun s=>aj (fZ typ [] [jG]) fun l=>aj (aC [41]) fun _=>aj (fZ typ l m) fun m=>aB (s,m)) ts=Q):=aO hQ;have HN:=aO (fV w bp B ts d h [40] 9 w.heap.size);have HM:=aO hm;clear h hQ hm hxm;go_enter Tryz.func124,Tryz.ntmps124;go_wp2_with fail;refine(HN.o).mono ?_;rintro e w1 h1;rcases hq:aC [40] ts with g |⟨u,r1⟩
 ·obtain⟨rfl,tn,bn⟩:=h1.cB hq;have HB:=aO (fJ.mk2 (tn) bn);have eG:=aO (HQ.o.symm.trans (aA hq));clear h1 tn bn hq;go_wp2_with fail;exact⟨rfl,aJ.fail eG.o HB.o⟩
 ·obtain⟨v1,rfl,tn,-,kn⟩:=h1.aQ hq;have HM1:=aO (cZ.turn HM.o tn (fun g _ h e=>h e));have hs1:=tn.size;have HT1:=aO (tn);have iR:=aO kn;have lN:bq ((aj nameP fun s=>aj (fZ typ [] [jG]) fun l=>aj (aC [41]) fun _=>aj (fZ typ l m) fun m=>aB (s,m)) r1=Q):=aO ((au hq).symm.trans HQ.o);clear h1 tn kn hq;have LM:=aO (iF w1 bp B r1 d iR.o);go_wp2_with fail;refine(LM.o).mono ?_;rintro e w2 h2;rcases hq:nameP r1 with g |⟨s,r2⟩
  ·obtain⟨rfl,tn,bn⟩:=h2.cB hq;have HB:=aO (fJ.mk2 (ay HT1.o tn) bn);have eG:=aO (lN.o.symm.trans (aA hq));clear h2 tn bn hq;go_wp2_with fail;exact⟨rfl,aJ.fail eG.o HB.o⟩
  ·obtain⟨v2,rfl,tn,rfl,kn⟩:=h2.aQ hq;have Yz:=aO (cZ.turn HM1.o tn (fun g _ h e=>h e));have hs2:=tn.size;have HT2:=aO (ay HT1.o tn);have gX:=aO kn;have kF:bq ((aj (fZ typ [] [jG]) fun l=>aj (aC [41]) fun _=>aj (fZ typ l m) fun m=>aB (s,m)) r2=Q):=aO ((au hq).symm.trans lN.o);clear h2 tn kn hq;have G7:=aO (DJ d typ qK hsf (w2.alloc (.cells #[.int .i64 0,.string ⟨#[]⟩,.slice none 0 0,.slice none 0 0] 80)) bp B w.heap.size r2 (gX.o.below (new1 _ _)) Z (.slice (some ⟨w2.heap.size,0,none⟩) 1 1) [] [jG] [I 0,S0,Z,Z] (eO.nil _ _ _ _ _ _) ((kK w2 Z40 80 4 1 rfl (by decide)).mono (fun g _ h e=>by omega)) (EG rfl (rY _ _ 0 [])) (by simp) (by simp) hlt (by simp;omega));go_wp2_with fail;refine(G7.o).mono ?_;rintro e w3 h3;rcases hq:fZ typ [] [jG] r2 with g |⟨l,r3⟩
   ·obtain⟨rfl,tn,bn⟩:=h3.cB hq;have tn:=(bV (tn.mono (G:=fun k=>k=bp) (fun k _ h=>by rcases h with h |h;exact h;cases h))).1;have HB:=aO (fJ.mk2 (ay HT2.o tn) bn);have eG:=aO (kF.o.symm.trans (aA hq));clear h3 tn bn hq;go_wp2_with fail;exact⟨rfl,aJ.fail eG.o HB.o⟩
   ·obtain⟨v3,rfl,tn,hr3,kn⟩:=h3.aQ hq;obtain⟨tm,hs3,_⟩:=bV (tn.mono (G:=fun k=>k=bp) (fun k _ h=>by rcases h with h |h;exact h;cases h));obtain⟨A3,c3,hv3,hc3,hm3⟩:=hr3.shape;subst hv3;have HT3:=aO (ay HT2.o tm);have gJ:=aO kn;have HR3:=aO hr3;have HM3:=aO (cZ.turn Yz.o tm (fun g _ h e=>h e));have HL1:=aO (Wi hq);have iO:bq (aj (aC [41]) (fun _=>aj (fZ typ l m) fun m=>aB (s,m)) r3=Q):=aO ((au hq).symm.trans kF.o);have Tz:=aO (fV w3 bp B r3 d kn [41] 9 w3.heap.size);clear h3 tn tm hr3 kn hq;go_wp2_with fail;refine(Tz.o).mono ?_;rintro e w4 h4;rcases hq:aC [41] r3 with g |⟨u,r4⟩
    ·obtain⟨rfl,tn,bn⟩:=h4.cB hq;have HB:=aO (fJ.mk2 (ay HT3.o tn) bn);have eG:=aO (iO.o.symm.trans (aA hq));clear h4 tn bn hq;go_wp2_with fail;exact⟨rfl,aJ.fail eG.o HB.o⟩
    ·obtain⟨v4,rfl,tn,-,kn⟩:=h4.aQ hq;have HM4:=aO (cZ.turn HM3.o tn (fun g _ h e=>h e));have HR4:=aO (HR3.o.turn aG tn (fun g hg e=>by have:=(HR3.o.lt g hg).1;omega) (fun g _ hg e=>by omega));have hs4:=tn.size;have fU:=aO (ay HT3.o tn);have iW:=aO kn;have gP:bq ((aj (fZ typ l m) fun m=>aB (s,m)) r4=Q):=aO ((au hq).symm.trans iO.o);clear h4 tn kn hq;have hll:=HL1.o;have TA:=aO (DJ d typ qK hsf w4 bp B w.heap.size r4 iW.o (.slice A3 l.length c3) (.slice Am nm cm) l m ms HR4.o HM4.o (hmr _ _) (by omega) hml hlt (by omega));clear hll;go_wp2_with fail;refine(TA.o).mono ?_;rintro e w5 h5;have hlo:=HR4.o.lt;rcases hq:fZ typ l m r4 with g |⟨y,r5⟩
     ·obtain⟨rfl,tn,bn⟩:=h5.cB hq;have HB:=aO (fJ.mk2 (fU.o.trans tn (fun i hi h=>by rcases h with h |h;exact h;(have:=(hlo _ h).1;omega))) bn);have eG:=aO (gP.o.symm.trans (aA hq));clear h5 tn bn hq;go_wp2_with fail;exact⟨rfl,aJ.fail eG.o HB.o⟩
     ·obtain⟨v5,rfl,tn,TB,kn⟩:=h5.aQ hq;have fP:=aO (fU.o.trans tn (fun i hi h=>by rcases h with h |h;exact h;(have:=(hlo _ h).1;omega)));have jH:=aO kn;have HR5:=aO TB;have jf:bq (Pr.good (s,y) r5=Q):=aO ((au hq).symm.trans gP.o);clear h5 tn TB kn hq hlo;go_wp2_with fail
      go_ret2
      exact aJ.done jf.o.symm fP.o ⟨_,rfl,HR5.o⟩ jH.o
abbrev sH (k:Int)(t:aH):Array Value:= #[I k,S0,I 0,I t.line,I t.col,Z,Z,Z]
theorem vN (d:Int)(w:World)(bp B:Nat)(ts:List aH)(h:cu w bp B ts d)(k:Int):
  Calls Tryz.prog 118 #[pP bp 0,I k] w fun e w'=>e=.returned (.agg (sH k (aR ts)))∧Below w.heap.size w w':=by
 have hlt:=h.lt;obtain⟨W,hW⟩:∃W,w.alloc (.cells #[.int .i64 0,.string ⟨#[]⟩,.int .i64 0,.int .i64 0,.int .i64 0,.slice none 0 0,.slice none 0 0,.slice none 0 0] 70)=W:=⟨_,rfl⟩
 have hb0:Below w.heap.size w W:=by rw [<-hW];exact new1 _ _
 have hs0:W.heap.size=w.heap.size+1:=by rw [<-hW];simp
 have hblk:W.heap[w.heap.size]? =some (.cells Z80 70):=by rw [<-hW];exact xX _ _
 have hk:=h.below hb0;have HN:=aO (fun(w':World) (hb:Below W.heap.size W w')=>nN w' bp B ts d (hk.below hb));have HW:=aO hW;have HB0:=aO hb0;have nY:=aO hblk;have HD0:bq (Below W.heap.size W W.drew):=aO ⟨rfl,rfl,rfl,Nat.le_refl _,fun _ _=>rfl⟩;clear h hk hW hb0 hblk;generalize aR ts=t at*
 have f2:∀w:World,(Instr.field 151 (wP t) 2).run Tryz.prog w=.ok (I t.line) w:=fun _=>by kernel_rfl
 have f3:∀w:World,(Instr.field 151 (wP t) 3).run Tryz.prog w=.ok (I t.col) w:=fun _=>by kernel_rfl
 go_enter Tryz.func118,Tryz.ntmps118;go_wp2_with fail;rw [HW.o];refine bM (S:=fun w'=>Below W.heap.size W w') (x:=12) (by kernel_rfl) ?_
 try simp only [sp,sq]
 refine tx 0 (I k) HD0.o ?_;refine tx 1 (pP bp 0) HD0.o ?_;refine tx 2 (pP bp 0) HD0.o ?_;refine tx 3 (pP bp 0) HD0.o ?_;refine tx 6 (pP bp 0) HD0.o ?_;refine tx 7 (pP bp 0) HD0.o ?_;refine tx 8 (pP bp 0) HD0.o ?_;refine bB 4 fun K hK=>?_;go_simp;refine(HN.o _ HD0.o).mono ?_;rintro e w2 ⟨rfl,hb⟩;have HB2:=aO (HD0.o.trans (hb.mono HD0.o.size));clear hb;refine hK.out _ _ HB2.o ?_;clear hK K
 try simp only [sp,sq]
 refine tx 5 (I t.line) HB2.o ?_;refine bB 9 fun K hK=>?_;go_simp;refine(HN.o _ HB2.o).mono ?_;rintro e w3 ⟨rfl,hb⟩;have HB3:=aO (HB2.o.trans (hb.mono HB2.o.size));clear hb;refine hK.out _ _ HB3.o ?_;clear hK K
 try simp only [sp,sq]
 refine tx 10 (I t.col) HB3.o ?_;refine tx 11 (.agg (sH k t)) HB3.o ?_;have hR:=HB3.o.block _ (block_lt nY.o) |>.trans nY.o;obtain⟨c0,c1,c2,c3,c4,c5,c6,c7,cz⟩:=aD hR;have HR:=aO hR;clear hR;refine bR 12 fun K hK=>?_;go_simp;refine hK.out _ _ ?_;clear hK K
 try simp only [sp,sq]
 refine bU _ ?_;go_wp2_with fail;refine bodyPost_ret (aL rfl rfl (aX HR.o _ _ _ _ _ _ _ _) Tryz.underlying70 rfl) rfl ?_;have t1:=(Turn.of_below (F:=fun _=>False) (HB0.o.trans (HB3.o.mono (by omega)))).trans (bF w3 w.heap.size (I k) S0 (I 0) (I t.line) (I t.col) Z Z Z) (fun i hi e=>by omega);exact⟨rfl,t1.below (Nat.le_refl _) (fun _ _=>id)⟩
end Go.Proofs.YtncnnedlgofccaaGreatDoor
