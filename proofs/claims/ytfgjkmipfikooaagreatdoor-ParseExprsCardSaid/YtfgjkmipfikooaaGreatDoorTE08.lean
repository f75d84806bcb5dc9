/- FN, HM, FO -/
import Derived.Test.YtfgjkmipfikooaaGreatDoorTEQ
import Derived.Test.YtfgjkmipfikooaaGreatDoorTE07
import Derived.Test.YtfgjkmipfikooaaGreatDoorTE06
set_option linter.unusedSimpArgs false
set_option linter.unusedVariables false
set_option maxRecDepth 100000
set_option maxHeartbeats 8000000
namespace Go.Proofs.YtfgjkmipfikooaaGreatDoor
open Go.RowKit
abbrev VU (base:Nat)(w:World)(v:Value)(l:List bS):Prop:=fH mJ 4 57 w base (fun j=>base<=j) v l
theorem Ah {α:Type}{R:World->(Nat->Prop)->List Value->α->Prop}{k:Nat}(hR:qW R k){w:World}{F:Nat->Prop}:∀{ys:List Value}{l:List α},fC (R w F) k ys l->∀u∈ys,u.oneCell'=true
 |_,_,.nil=>fun _ h=>by cases h
 |_,_,.cons h1 h2 h3=>fun u hu=>by
  rcases List.mem_append.1 hu with h |h
  ·exact hR.one h2 u h
  ·exact Ah hR h3 u h
theorem abF {base bp:Nat}{w w6 w9:World}{v v7:Value}{l:List bS}{x:bS}{z:List Value}{o:Obj}{n7:Nat}{ys:List Value}(hy:w.ownsRow base 57 4 v l.length ys)(hr:fC (mJ w (qK (fun j=>base<=j) v)) 4 ys l)(t:Turn (fun k=>k=bp) w w6)(hbp:bp<base)(hs:base<=w.heap.size)
  (hx:mJ w6 (fun j=>w.heap.size<=j) z x) (hg:(w6.alloc o).grownBy w9 v.ownBlock) (hbk:v7.ownBlock=v.ownBlock∨v7.ownBlock=some (w6.alloc o).heap.size) (h7:w9.ownsRow base 57 4 v7 n7 (ys++z)):VU base w9 v7 (l++[x])∧Turn (fun j=>v.ownBlock=some j) w6 w9:=by
 have t9:=(Turn.alloc (fun j=>v.ownBlock=some j) w6 o).trans (Turn.bB hg (F:=fun j=>v.ownBlock=some j) (fun _ h=>h)) (fun _ _ h=>h);exact⟨fH.push aJ (F:=fun j=>base<=j) hy hr t hx t9 (fun j _ h=>.inl h) (hbk.imp id fun e=>⟨_,by simp,e⟩) h7 (by omega) (by omega) (fun j hj=>by omega),t9⟩
theorem J2 {base:Nat}{w w9:World}{v v7:Value}{l m:List bS}{ys ms:List Value}{n7:Nat}(hy:w.ownsRow base 57 4 v l.length ys)(hr:fC (mJ w (qK (fun j=>base<=j) v)) 4 ys l)(hm:fC (mJ w (qK (fun j=>base<=j) v)) 4 ms m)
  (hg:w.grownBy w9 v.ownBlock) (hbk:v7.ownBlock=v.ownBlock∨v7.ownBlock=some w.heap.size) (h7:w9.ownsRow base 57 4 v7 n7 (ys++ms)):VU base w9 v7 (l++m):=by
 have tg:=Turn.bB hg (F:=fun j=>v.ownBlock=some j) (fun _ h=>h);have hnew:∀j,j<w.heap.size->v7.ownBlock=some j->v.ownBlock=some j:=fun j hj e=>by
  rcases hbk with hb |hb
  ·rw [hb]at e;exact e
  ·rw [hb]at e;injection e with e;omega
 have hrow:=fC.app hm hr;have hn:n7=(l++m).length:=by
  have e1:=h7.1;have e2:=hrow.len;omega
 subst hn;refine⟨_,h7,hrow.imp fun _ _ h=>?_⟩;have h3:mJ w (fun j=>j<w.heap.size∧qK (fun j=>base<=j) v j) _ _:=h.mono fun j hj h=>⟨hj,h⟩
 exact(h3.turn tg (fun j _ h e=>h.2.1 e)).mono fun j _ h=>⟨fun e=>h.2.1 (hnew j h.1 e),h.2.2⟩
theorem BS (d:Int)(typ:Ps bS)(qE:z8 d typ)(hsf:Sf typ)(w:World)(bp B base:Nat)(ts:List aI)(h:bX w bp B ts d)(v v':Value)(l m:List bS)(ms:List Value)(hv:VU base w v l)(hm:cO w (fun j=>j≠bp) 4 v' ms)(hmr:fC (mJ w (qK (fun j=>base<=j) v)) 4 ms m)(hl:l.length<=4)(hml:m.length<=4)(hbp:bp<base)(hs:base<=w.heap.size):
  Calls Tryz.prog 107 #[.pointer (some ⟨bp,0,none⟩),v,v'] w (gy (VU base) (fun k=>k=bp∨v.ownBlock=some k) bp B d w (fO typ l m ts)):=by
 have hlt:=h.lt;have hB:=h.1;obtain⟨Al,cl,hvl,hcl,hcm⟩:=hv.shape;subst hvl;obtain⟨Am,nm,cm,hvm,hlm,hnm,hcm2,hxm⟩:=hm;have hm:cO w (fun j=>j≠bp) 4 v' ms:=⟨Am,nm,cm,hvm,hlm,hnm,hcm2,hxm⟩
 subst hvm;have ajT:=hmr.len;obtain⟨Q,hQ⟩:∃Q,fO typ l m ts=Q:=⟨_,rfl⟩
 rw [hQ];have HQ:bN (aj (bM [58]) (fun b=>if b then aj typ fun t=>aF (l++[t])else aF (l++m)) ts=Q):=aZ hQ;have HH:=aZ (lD w bp B ts d h [58]);have HV:=aZ hv;have HM:=aZ hm;have HMR:=aZ hmr;clear h hQ hv hm hmr hxm;go_enter Tryz.func107,Tryz.ntmps107;go_wp2_with fail;refine(HH.o).mono ?_;rintro e w1 h1;rcases hq:bM [58] ts with g |⟨b,r1⟩
 ·obtain⟨rfl,tn,bn⟩:=h1.bY hq;exact(iN hq).elim
 ·obtain⟨v1,rfl,tn,rfl,kn⟩:=h1.aQ hq;have hq1:=aZ hq;have HV1:=aZ (HV.o.turn aJ tn (fun g hg e=>by have:=(HV.o.lt g hg).1;omega) (fun g _ hg e=>by omega));have HM1:=aZ (bq aJ tn (fun g _ hg e=>by have:=hg.2;omega) HMR.o);have wI:=aZ (cO.turn HM.o tn (fun g _ h e=>h e));have awc:=tn.size;have hs1:=tn.size;have HT1:=aZ (tn);have iI:=aZ kn;clear h1 tn kn hq;cases b
  ·have jI:bN (Pr.good (l++m) r1=Q):=aZ ((au hq1.o).symm.trans HQ.o);obtain⟨ys,hy,hrr⟩:=HV1.o;have hyl:ys.length=l.length*4:=hy.1;have HY:=aZ hy;have HRR:=aZ hrr;have HON:=aZ (Ah aJ HM1.o);clear hy hrr;go_wp2_with (at_builtin;go_must (refine eU rfl (.tmp 16) (.tmp 17) _ rfl base vD _ _ rfl rfl HY.o wI.o.all HON.o (by rw [ajT];unfold maxLen;omega) (by rw [ajT];omega) (by omega) (fun v9 w9 n9 fI vB kT=>?_));have tH:=aZ fI;have Rm:=aZ vB;have BR:=aZ kT;clear fI vB kT);have tg:=Turn.bB Rm.o (F:=fun j=>(Value.slice Al l.length cl).ownBlock=some j) (fun _ h=>h);have hlo:=HV1.o.lt;go_ret;exact gy.done jI.o.symm ((HT1.o.mono (G:=fun k=>k=bp∨(Value.slice Al l.length cl).ownBlock=some k) (fun _ _ h=>.inl h)).trans tg (fun _ _ h=>.inr h)) (J2 HY.o HRR.o HM1.o Rm.o BR.o tH.o) (iI.o.turn tg (fun e=>by have:=(hlo _ e).1;omega) (fun k hk e=>by have:=(hlo _ e).1;omega))
  ·have jI:bN (aj typ (fun t=>aF (l++[t])) r1=Q):=aZ ((au hq1.o).symm.trans HQ.o);have Ic:=aZ (qE w1 bp B r1 iI.o);go_wp2_with fail;refine(Ic.o).mono ?_;rintro e w2 h2;rcases hq:typ r1 with g |⟨t2,r2⟩
   ·obtain⟨rfl,tn,bn⟩:=h2.bY hq;have dP:=aZ (jI.o.symm.trans (aC hq));have HB:=aZ (eP.mk2 (aB HT1.o tn) bn);clear h2 tn bn hq;go_wp2_with fail;exact⟨rfl,gy.fail dP.o (HB.o.1.mono fun _ _ h=>.inl h) HB.o.2⟩
   ·obtain⟨v2,rfl,tn,⟨z,rfl,hz⟩,kn⟩:=h2.aQ hq;obtain⟨k4,s4,qG,n14,c14,qH,n24,c24,rfl⟩:=hz.shape';have HZ:=aZ hz;have zG:=aZ tn;clear hz;have hs2:=tn.size;have HT2:=aZ (aB HT1.o tn);have gW:=aZ kn;have jI:bN (aF (l++[t2]) r2=Q):=aZ ((au hq).symm.trans jI.o);clear h2 tn kn hq;have apF:bN (Pr.good (l++[t2]) r2=Q):=jI;obtain⟨ys,hy,hrr⟩:=HV1.o;have hyl:ys.length=l.length*4:=hy.1;have Xa:=dN hy zG.o (fun g hg e=>by have:=(hy.lt g hg).1;omega);have HY:=aZ hy;have HRR:=aZ hrr;have HYW:=aZ Xa;clear hy hrr Xa;go_wp2_with (at_builtin;go_must (refine eU rfl (.tmp 11) (.tmp 14) _ rfl base vD _ _ rfl rfl (HYW.o.alloc (.cells #[.int .i64 k4,sv s4,.slice qG n14 c14,.slice qH n24 c24] 57)) (gX w2 #[.int .i64 k4,sv s4,.slice qG n14 c14,.slice qH n24 c24] 57 4 1 rfl (by decide)) (zZ k4 s4 _ _ _ _ _ _) (by simp [maxLen];omega) (by simp;omega) (by simp;omega) (fun v9 w9 n9 fI vB kT=>?_));have tH:=aZ fI;have Rm:=aZ vB;have BR:=aZ kT;clear fI vB kT);obtain⟨hrow,t9⟩:=abF HY.o HRR.o zG.o hbp (by omega) HZ.o Rm.o BR.o tH.o;have hlo:=HV1.o.lt;go_ret;exact gy.done apF.o.symm ((HT2.o.mono (G:=fun k=>k=bp∨(Value.slice Al l.length cl).ownBlock=some k) (fun _ _ h=>.inl h)).trans t9 (fun _ _ h=>.inr h)) hrow (gW.o.turn t9 (fun e=>by have:=(hlo _ e).1;omega) (fun k hk e=>by have:=(hlo _ e).1;omega))
theorem Uu {typ:Ps bS}{a:bS}{ts r:List aI}{y:List bS}(h:fO typ [] [a] ts=.good y r):y.length=1:=by
 unfold fO at h;rcases hq:bM [58] ts with g |⟨b,r1⟩
 ·exact(iN hq).elim
 rw [au hq]at h;cases b
 ·injection h with h _;rw [<-h];rfl
 ·rcases hq2:typ r1 with g |⟨t,r2⟩
  ·rw [if_pos rfl,aC hq2]at h;cases h
  ·rw [if_pos rfl,au hq2]at h;injection h with h _;rw [<-h];rfl
def adK (base:Nat)(w:World)(v:Value)(x:Bt ×List bS):Prop:=∃u,v=.tuple #[sv x.1,u]∧VU base w u x.2
theorem LK (d:Int)(typ:Ps bS)(qE:z8 d typ)(hsf:Sf typ)(w:World)(bp B:Nat)(ts:List aI)(h:bX w bp B ts d)(v':Value)(m:List bS)(ms:List Value)(hm:cO w (fun j=>j≠bp) 4 v' ms)(hmr:∀w F,fC (mJ w F) 4 ms m)(hml:m.length<=4):
  Calls Tryz.prog 109 #[.pointer (some ⟨bp,0,none⟩),v'] w (aL (adK w.heap.size) bp B d w (jY typ m ts)):=by
 have hlt:=h.lt;have hB:=h.1;obtain⟨Am,nm,cm,hvm,hlm,hnm,hcm2,hxm⟩:=hm;have hm:cO w (fun j=>j≠bp) 4 v' ms:=⟨Am,nm,cm,hvm,hlm,hnm,hcm2,hxm⟩
 subst hvm;obtain⟨Q,hQ⟩:∃Q,jY typ m ts=Q:=⟨_,rfl⟩
 rw [hQ];have HQ:bN (aj (aH [40]) (fun _=>aj nameP fun s=>aj (fO typ [] [oI]) fun l=>aj (aH [41]) fun _=>aj (fO typ l m) fun m=>aF (s,m)) ts=Q):=aZ hQ;have HN:=aZ (fF w bp B ts d h [40] 9 w.heap.size);have HM:=aZ hm;clear h hQ hm hxm;go_enter Tryz.func109,Tryz.ntmps109;go_wp2_with fail;refine(HN.o).mono ?_;rintro e w1 h1;rcases hq:aH [40] ts with g |⟨u,r1⟩
 ·obtain⟨rfl,tn,bn⟩:=h1.bY hq;have HB:=aZ (eP.mk2 (tn) bn);have dP:=aZ (HQ.o.symm.trans (aC hq));clear h1 tn bn hq;go_wp2_with fail;exact⟨rfl,aL.fail dP.o HB.o⟩
 ·obtain⟨v1,rfl,tn,-,kn⟩:=h1.aQ hq;have HM1:=aZ (cO.turn HM.o tn (fun g _ h e=>h e));have hs1:=tn.size;have HT1:=aZ (tn);have iI:=aZ kn;have mM:bN ((aj nameP fun s=>aj (fO typ [] [oI]) fun l=>aj (aH [41]) fun _=>aj (fO typ l m) fun m=>aF (s,m)) r1=Q):=aZ ((au hq).symm.trans HQ.o);clear h1 tn kn hq;have JX:=aZ (gL w1 bp B r1 d iI.o);go_wp2_with fail;refine(JX.o).mono ?_;rintro e w2 h2;rcases hq:nameP r1 with g |⟨s,r2⟩
  ·obtain⟨rfl,tn,bn⟩:=h2.bY hq;have HB:=aZ (eP.mk2 (aB HT1.o tn) bn);have dP:=aZ (mM.o.symm.trans (aC hq));clear h2 tn bn hq;go_wp2_with fail;exact⟨rfl,aL.fail dP.o HB.o⟩
  ·obtain⟨v2,rfl,tn,rfl,kn⟩:=h2.aQ hq;have Wt:=aZ (cO.turn HM1.o tn (fun g _ h e=>h e));have hs2:=tn.size;have HT2:=aZ (aB HT1.o tn);have gW:=aZ kn;have jI:bN ((aj (fO typ [] [oI]) fun l=>aj (aH [41]) fun _=>aj (fO typ l m) fun m=>aF (s,m)) r2=Q):=aZ ((au hq).symm.trans mM.o);clear h2 tn kn hq;have Fq:=aZ (BS d typ qE hsf (w2.alloc (.cells #[.int .i64 0,.string ⟨#[]⟩,.slice none 0 0,.slice none 0 0] 57)) bp B w.heap.size r2 (gW.o.below (new1 _ _)) (.slice none 0 0) (.slice (some ⟨w2.heap.size,0,none⟩) 1 1) [] [oI] [.int .i64 0,.string ⟨#[]⟩,.slice none 0 0,.slice none 0 0] (fH.nil _ _ _ _ _ _) ((jO w2 #[.int .i64 0,.string ⟨#[]⟩,.slice none 0 0,.slice none 0 0] 57 4 1 rfl (by decide)).mono (fun g _ h e=>by omega)) (CW rfl (sV _ _ 0 [])) (by simp) (by simp) hlt (by simp;omega));go_wp2_with fail;refine(Fq.o).mono ?_;rintro e w3 h3;rcases hq:fO typ [] [oI] r2 with g |⟨l,r3⟩
   ·obtain⟨rfl,tn,bn⟩:=h3.bY hq;have tn:=(bR (tn.mono (G:=fun k=>k=bp) (fun k _ h=>by rcases h with h |h;exact h;cases h))).1;have HB:=aZ (eP.mk2 (aB HT2.o tn) bn);have dP:=aZ (jI.o.symm.trans (aC hq));clear h3 tn bn hq;go_wp2_with fail;exact⟨rfl,aL.fail dP.o HB.o⟩
   ·obtain⟨v3,rfl,tn,hr3,kn⟩:=h3.aQ hq;obtain⟨tm,hs3,_⟩:=bR (tn.mono (G:=fun k=>k=bp) (fun k _ h=>by rcases h with h |h;exact h;cases h));obtain⟨A3,c3,hv3,hc3,hm3⟩:=hr3.shape;subst hv3;have HT3:=aZ (aB HT2.o tm);have gD:=aZ kn;have HR3:=aZ hr3;have HM3:=aZ (cO.turn Wt.o tm (fun g _ h e=>h e));have HL1:=aZ (Uu hq);have iq:bN (aj (aH [41]) (fun _=>aj (fO typ l m) fun m=>aF (s,m)) r3=Q):=aZ ((au hq).symm.trans jI.o);have Rn:=aZ (fF w3 bp B r3 d kn [41] 9 w3.heap.size);clear h3 tn tm hr3 kn hq;go_wp2_with fail;refine(Rn.o).mono ?_;rintro e w4 h4;rcases hq:aH [41] r3 with g |⟨u,r4⟩
    ·obtain⟨rfl,tn,bn⟩:=h4.bY hq;have HB:=aZ (eP.mk2 (aB HT3.o tn) bn);have dP:=aZ (iq.o.symm.trans (aC hq));clear h4 tn bn hq;go_wp2_with fail;exact⟨rfl,aL.fail dP.o HB.o⟩
    ·obtain⟨v4,rfl,tn,-,kn⟩:=h4.aQ hq;have HM4:=aZ (cO.turn HM3.o tn (fun g _ h e=>h e));have HR4:=aZ (HR3.o.turn aJ tn (fun g hg e=>by have:=(HR3.o.lt g hg).1;omega) (fun g _ hg e=>by omega));have hs4:=tn.size;have fD:=aZ (aB HT3.o tn);have iD:=aZ kn;have gq:bN ((aj (fO typ l m) fun m=>aF (s,m)) r4=Q):=aZ ((au hq).symm.trans iq.o);clear h4 tn kn hq;have hll:=HL1.o;have Ro:=aZ (BS d typ qE hsf w4 bp B w.heap.size r4 iD.o (.slice A3 l.length c3) (.slice Am nm cm) l m ms HR4.o HM4.o (hmr _ _) (by omega) hml hlt (by omega));clear hll;go_wp2_with fail;refine(Ro.o).mono ?_;rintro e w5 h5;have hlo:=HR4.o.lt;rcases hq:fO typ l m r4 with g |⟨y,r5⟩
     ·obtain⟨rfl,tn,bn⟩:=h5.bY hq;have HB:=aZ (eP.mk2 (fD.o.trans tn (fun i hi h=>by rcases h with h |h;exact h;(have:=(hlo _ h).1;omega))) bn);have dP:=aZ (gq.o.symm.trans (aC hq));clear h5 tn bn hq;go_wp2_with fail;exact⟨rfl,aL.fail dP.o HB.o⟩
     ·obtain⟨v5,rfl,tn,Rp,kn⟩:=h5.aQ hq;have fG:=aZ (fD.o.trans tn (fun i hi h=>by rcases h with h |h;exact h;(have:=(hlo _ h).1;omega)));have jw:=aZ kn;have HR5:=aZ Rp;have iL:bN (Pr.good (s,y) r5=Q):=aZ ((au hq).symm.trans gq.o);clear h5 tn Rp kn hq hlo;go_wp2_with fail
      go_ret2
      exact aL.done iL.o.symm fG.o ⟨_,rfl,HR5.o⟩ jw.o
abbrev qw (k:Int)(t:aI):Array Value:= #[.int .i64 k,.string ⟨#[]⟩,.int .i64 0,.int .i64 t.line,.int .i64 t.col,.slice none 0 0,.slice none 0 0,.slice none 0 0]
theorem tJ (d:Int)(w:World)(bp B:Nat)(ts:List aI)(h:bX w bp B ts d)(k:Int):
  Calls Tryz.prog 103 #[.pointer (some ⟨bp,0,none⟩),.int .i64 k] w fun e w'=>e=.returned (.agg (qw k (aS ts)))∧Below w.heap.size w w':=by
 have hlt:=h.lt;obtain⟨W,hW⟩:∃W,w.alloc (.cells #[.int .i64 0,.string ⟨#[]⟩,.int .i64 0,.int .i64 0,.int .i64 0,.slice none 0 0,.slice none 0 0,.slice none 0 0] 52)=W:=⟨_,rfl⟩
 have hb0:Below w.heap.size w W:=by rw [<-hW];exact new1 _ _
 have hs0:W.heap.size=w.heap.size+1:=by rw [<-hW];simp
 have hblk:W.heap[w.heap.size]? =some (.cells #[.int .i64 0,.string ⟨#[]⟩,.int .i64 0,.int .i64 0,.int .i64 0,.slice none 0 0,.slice none 0 0,.slice none 0 0] 52):=by rw [<-hW];exact wJ _ _
 have hk:=h.below hb0;have HN:=aZ (fun(w':World) (hb:Below W.heap.size W w')=>mE w' bp B ts d (hk.below hb));have HW:=aZ hW;have HB0:=aZ hb0;have nU:=aZ hblk;have HD0:bN (Below W.heap.size W W.drew):=aZ ⟨rfl,rfl,rfl,Nat.le_refl _,fun _ _=>rfl⟩;clear h hk hW hb0 hblk;generalize aS ts=t at*
 have f2:∀w:World,(Instr.field 154 (uL t) 2).run Tryz.prog w=.ok (.int .i64 t.line) w:=fun _=>by kernel_rfl
 have f3:∀w:World,(Instr.field 154 (uL t) 3).run Tryz.prog w=.ok (.int .i64 t.col) w:=fun _=>by kernel_rfl
 go_enter Tryz.func103,Tryz.ntmps103;go_wp2_with fail;rw [HW.o];refine bP (S:=fun w'=>Below W.heap.size W w') (x:=12) (by kernel_rfl) ?_
 try simp only [Act.put,sq]
 refine tx 0 (.int .i64 k) HD0.o ?_;refine tx 1 (.pointer (some ⟨bp,0,none⟩)) HD0.o ?_;refine tx 2 (.pointer (some ⟨bp,0,none⟩)) HD0.o ?_;refine tx 3 (.pointer (some ⟨bp,0,none⟩)) HD0.o ?_;refine tx 6 (.pointer (some ⟨bp,0,none⟩)) HD0.o ?_;refine tx 7 (.pointer (some ⟨bp,0,none⟩)) HD0.o ?_;refine tx 8 (.pointer (some ⟨bp,0,none⟩)) HD0.o ?_;refine ay (rs:=[4]) (by kernel_rfl) (by simp) ?_;refine av.cons rfl (fun K hK=>?_) (av.nil);go_simp;refine(HN.o _ HD0.o).mono ?_;rintro e w2 ⟨rfl,hb⟩;have HB2:=aZ (HD0.o.trans (hb.mono HD0.o.size));clear hb;refine hK.out _ _ HB2.o ?_;clear hK K
 try simp only [Act.put,sq]
 refine tx 5 (.int .i64 t.line) HB2.o ?_;refine ay (rs:=[9]) (by kernel_rfl) (by simp) ?_;refine av.cons rfl (fun K hK=>?_) (av.nil);go_simp;refine(HN.o _ HB2.o).mono ?_;rintro e w3 ⟨rfl,hb⟩;have HB3:=aZ (HB2.o.trans (hb.mono HB2.o.size));clear hb;refine hK.out _ _ HB3.o ?_;clear hK K
 try simp only [Act.put,sq]
 refine tx 10 (.int .i64 t.col) HB3.o ?_;refine tx 11 (.agg (qw k t)) HB3.o ?_;have hR:=HB3.o.block _ (block_lt nU.o) |>.trans nU.o;obtain⟨c0,c1,c2,c3,c4,c5,c6,c7,cz⟩:=aD hR;have HR:=aZ hR;clear hR;refine ay (rs:=[12]) (by kernel_rfl) (by simp) ?_;refine av.past rfl (by kernel_rfl) (fun K hK=>?_) (av.nil);go_simp;refine hK.out _ _ ?_;clear hK K
 try simp only [Act.put,sq]
 refine aR (by kernel_rfl) ?_ _;go_wp2_with fail;refine bodyPost_ret (aM rfl rfl (aV HR.o _ _ _ _ _ _ _ _) Tryz.underlying52 rfl (by kernel_rfl)) rfl ?_;have t1:=(Turn.of_below (F:=fun _=>False) (HB0.o.trans (HB3.o.mono (by omega)))).trans (bD w3 w.heap.size (.int .i64 k) (.string ⟨#[]⟩) (.int .i64 0) (.int .i64 t.line) (.int .i64 t.col) (.slice none 0 0) (.slice none 0 0) (.slice none 0 0)) (fun i hi e=>by omega);exact⟨rfl,t1.below (Nat.le_refl _) (fun _ _=>id)⟩
def C9 (q:Pr Unit)(e:Int):Pr Unit:=match q with
 |.good _ ts=>.bad ((aS ts).line,(aS ts).col,e)
 |.bad g=>.bad g
theorem LM {α:Type}(q:Pr Unit)(e:Int):C9 q e=ig (aA q (jL (α:=α) e)):=by cases q <;> rfl
theorem jH {L:List aI}{k:Nat}(hk:k<L.length):aS (L.drop k)=L[k]:=by
 rw [List.drop_eq_getElem_cons hk];rfl
theorem Rq {L:List aI}{k:Nat}(hk:k<L.length)(h:Wf (L.drop k))(h0:L[k].kind≠0):k+1<L.length∧Wf (L.drop (k+1)):=by
 rw [List.drop_eq_getElem_cons hk]at h;rcases h.cases with⟨e,he,h1⟩ |⟨t,r,he,_,_,hr⟩
 ·injection he with he _;rw [<-he]at h1;exact absurd h1 h0
 ·injection he with _ he;rw [<-he]at hr;refine⟨?_,hr⟩;have:=hr.pos;rw [List.length_drop]at this;omega
theorem tK (w:World)(bp B:Nat)(L:List aI)(d:Int)(q:Pr Unit)(h:eF w bp B L d q)(e0:Int)(h0:e0≠0):
  Calls Tryz.prog 100 #[.pointer (some ⟨bp,0,none⟩),.int .i64 e0] w fun e w'=>e=.returned (.tuple #[])∧Turn (fun j=>j=bp) w w'∧eF w' bp B L d (C9 q e0):=by
 have hlt:=h.lt;have hB:=h.1;have hh:=h;obtain⟨b,o,c,k,dd,e,ln,cn,hk,hlc,hc63,Ls,hdd,hrel,hblk,t0,t1,t2,t3⟩:=h.open_;obtain⟨p0,p1,p2,p3,p4,p5,pz⟩:=gu hblk;have hki:(k:Int)<L.length:=by omega
 have hbb:¬b=bp:=by omega
 have Xc:¬bp=b:=by omega
 cases q with
 |bad g=>
  obtain⟨rfl,rfl,rfl,hg⟩:=hrel;have hge:(g.2.2==0)=false:=by simp [hg]
  go_enter Tryz.func100,Tryz.ntmps100;go_wp2_with fail;go_end0;exact⟨rfl,Turn.refl _ _,hh⟩
 |good u ts=>
  obtain⟨rfl,hwf,rfl,rfl,rfl,rfl⟩:=hrel;have hne:∀i,w.frozen? ⟨bp,i,none⟩=false:=pz;obtain⟨tk,htk⟩:∃tk,L[k]=tk:=⟨_,rfl⟩
  rw [htk]at t0 t1 t2 t3;have uO:=aZ htk;have HH:=aZ hh;have nU:=aZ hblk;clear htk hh;go_enter Tryz.func100,Tryz.ntmps100;have hw1:=heap_setCell_same _ _ 3 _ _ (.int .i64 e0) hblk;obtain⟨W1,hW1⟩:∃W1,w.setCell ⟨bp,3,none⟩ (.int .i64 e0)=W1:=⟨_,rfl⟩
  have tw:=ak w bp 3 (.int .i64 e0);rw [hW1]at hw1 tw;have HW1:=aZ hW1;have HB1:=aZ (show W1.heap[bp]? =some (.cells #[.slice (some ⟨b,o,none⟩) L.length c,.int .i64 k,.int .i64 dd,.int .i64 e0,.int .i64 0,.int .i64 0] 159 (0,0))from hw1);have HT1:=aZ tw;have u0:=aN t0 tw hbb;have u1:=aN t1 tw hbb;have u2:=aN t2 tw hbb;have u3:=aN t3 tw hbb;obtain⟨q0,q1,q2,q3,q4,q5,qz⟩:=gu (show W1.heap[bp]? =some (.cells #[.slice (some ⟨b,o,none⟩) L.length c,.int .i64 k,.int .i64 dd,.int .i64 e0,.int .i64 0,.int .i64 0] 159 (0,0))from hw1);clear hW1 hw1 tw hblk;go_wp2_with fail;rw [HW1.o];clear p0 p1 p2 p3 p4 p5 pz hne t0 t1 t2 t3;have HS:bN ((W1.drew).cell? ⟨bp,0,none⟩=some (.slice (some ⟨b,o,none⟩) L.length c)∧(W1.drew).cell? ⟨bp,1,none⟩=some (.int .i64 k)∧(W1.drew).cell? ⟨b,o+k*4+2,none⟩=some (.int .i64 tk.line)):=aZ ⟨q0,q1,u2⟩;refine bP (S:=fun w'=>w'.cell? ⟨bp,0,none⟩=some (.slice (some ⟨b,o,none⟩) L.length c)∧w'.cell? ⟨bp,1,none⟩=some (.int .i64 k)∧w'.cell? ⟨b,o+k*4+2,none⟩=some (.int .i64 tk.line)) (x:=14) (by kernel_rfl) ?_
  try simp only [Act.put,sq]
  refine tx 0 (.pointer (some ⟨bp,0,none⟩)) HS.o ?_;refine tx 1 (.pointer (some ⟨bp,0,none⟩)) HS.o ?_;refine tx 2 (.pointer (some ⟨bp,0,none⟩)) HS.o ?_;refine tx 3 (.pointer (some ⟨bp,0,none⟩)) HS.o ?_;refine jG 4 (.slice (some ⟨b,o,none⟩) L.length c) (fun _ h=>h.1) HS.o ?_;refine tx 5 (.pointer (some ⟨bp,0,none⟩)) HS.o ?_;refine tx 6 (.pointer (some ⟨bp,0,none⟩)) HS.o ?_;refine tx 7 (.pointer (some ⟨bp,1,none⟩)) HS.o ?_;refine jG 8 (.int .i64 k) (fun _ h=>h.2.1) HS.o ?_;refine tx 9 (.pointer (some ⟨b,o+k*4,none⟩)) HS.o ?_;refine tx 10 (.pointer (some ⟨b,o+k*4+2,none⟩)) HS.o ?_;refine jG 11 (.int .i64 tk.line) (fun _ h=>h.2.2) HS.o ?_;refine tt 12 (.pointer (some ⟨bp,0,none⟩)) (fun _=>HS.o) ?_;refine tt 13 (.pointer (some ⟨bp,4,none⟩)) (fun _=>HS.o) ?_;refine ay (rs:=[14]) (by kernel_rfl) (by simp) ?_;refine av.past rfl (by kernel_rfl) (fun K hK=>?_) (av.nil);go_simp;refine hK.out _ _ ?_;clear hK K
  try simp only [Act.put,sq]
  refine aR (by kernel_rfl) ?_ _;obtain⟨W2,hW2⟩:∃W2,(W1.setCell ⟨bp,4,none⟩ (.int .i64 tk.line)).drew=W2:=⟨_,rfl⟩
  have tw:Turn (fun j=>j=bp) W1 W2:=by rw [<-hW2];exact(ak W1 bp 4 (.int .i64 tk.line)).trans ⟨rfl,rfl,rfl,Nat.le_refl _,fun _ _ _=>rfl⟩ (fun _ _ h=>h)
  have hw2:W2.heap[bp]? =some (.cells #[.slice (some ⟨b,o,none⟩) L.length c,.int .i64 k,.int .i64 dd,.int .i64 e0,.int .i64 tk.line,.int .i64 0] 159 (0,0)):=by rw [<-hW2,show ∀X:World,X.drew.heap=X.heap from fun _=>rfl];exact heap_setCell_same _ _ 4 _ _ _ HB1.o
  rw [hW2];have HB2:=aZ hw2;have HT2:=aZ (aB HT1.o tw);clear q0 q1 q2 q3 q4 q5 qz;obtain⟨q0,q1,q2,q3,q4,q5,qz⟩:=gu hw2;have v3:=aN u3 tw hbb;clear u0 u1 u2 u3 HS hw2 tw hW2;go_wp2_with fail;have HS:bN ((W2.drew).cell? ⟨bp,0,none⟩=some (.slice (some ⟨b,o,none⟩) L.length c)∧(W2.drew).cell? ⟨bp,1,none⟩=some (.int .i64 k)∧(W2.drew).cell? ⟨b,o+k*4+3,none⟩=some (.int .i64 tk.col)):=aZ ⟨q0,q1,v3⟩;refine bP (S:=fun w'=>w'.cell? ⟨bp,0,none⟩=some (.slice (some ⟨b,o,none⟩) L.length c)∧w'.cell? ⟨bp,1,none⟩=some (.int .i64 k)∧w'.cell? ⟨b,o+k*4+3,none⟩=some (.int .i64 tk.col)) (x:=14) (by kernel_rfl) ?_
  try simp only [Act.put,sq]
  refine tx 0 (.pointer (some ⟨bp,0,none⟩)) HS.o ?_;refine tx 1 (.pointer (some ⟨bp,0,none⟩)) HS.o ?_;refine tx 2 (.pointer (some ⟨bp,0,none⟩)) HS.o ?_;refine tx 3 (.pointer (some ⟨bp,0,none⟩)) HS.o ?_;refine jG 4 (.slice (some ⟨b,o,none⟩) L.length c) (fun _ h=>h.1) HS.o ?_;refine tx 5 (.pointer (some ⟨bp,0,none⟩)) HS.o ?_;refine tx 6 (.pointer (some ⟨bp,0,none⟩)) HS.o ?_;refine tx 7 (.pointer (some ⟨bp,1,none⟩)) HS.o ?_;refine jG 8 (.int .i64 k) (fun _ h=>h.2.1) HS.o ?_;refine tx 9 (.pointer (some ⟨b,o+k*4,none⟩)) HS.o ?_;refine tx 10 (.pointer (some ⟨b,o+k*4+3,none⟩)) HS.o ?_;refine jG 11 (.int .i64 tk.col) (fun _ h=>h.2.2) HS.o ?_;refine tt 12 (.pointer (some ⟨bp,0,none⟩)) (fun _=>HS.o) ?_;refine tt 13 (.pointer (some ⟨bp,5,none⟩)) (fun _=>HS.o) ?_;refine ay (rs:=[14]) (by kernel_rfl) (by simp) ?_;refine av.past rfl (by kernel_rfl) (fun K hK=>?_) (av.nil);go_simp;refine hK.out _ _ ?_;clear hK K
  try simp only [Act.put,sq]
  refine aR (by kernel_rfl) ?_ _;have tw:Turn (fun j=>j=bp) W2 (W2.setCell ⟨bp,5,none⟩ (.int .i64 tk.col)).drew:=(ak W2 bp 5 (.int .i64 tk.col)).trans ⟨rfl,rfl,rfl,Nat.le_refl _,fun _ _ _=>rfl⟩ (fun _ _ h=>h);have hw3:(W2.setCell ⟨bp,5,none⟩ (.int .i64 tk.col)).drew.heap[bp]? =some (.cells #[.slice (some ⟨b,o,none⟩) L.length c,.int .i64 k,.int .i64 dd,.int .i64 e0,.int .i64 tk.line,.int .i64 tk.col] 159 (0,0)):=by rw [show ∀X:World,X.drew.heap=X.heap from fun _=>rfl];exact heap_setCell_same _ _ 5 _ _ _ HB2.o
  have vQ:=aB HT2.o tw;go_wp2_with fail;go_end0;obtain⟨h1,h2,h3,v,k',dd',e',ln',cn',h4,h5,h6⟩:=HH.o;rw [nU.o]at h4;injection h4 with h4;injection h4 with h4 _;have h4:=congrArg Array.toList h4;injection h4 with h4 _;subst h4;exact⟨rfl,vQ,h1,h2,h3,_,k,dd,e0,tk.line,tk.col,hw3,Sl.below h5 (vQ.below (by omega) (fun j hj e=>by omega)),hk,hdd,rfl,by rw [jH hk,uO.o],by rw [jH hk,uO.o],h0⟩
theorem Uv {s:Bt}{u:Unit}{ts:List aI}:sH (aA (.good u ts:Pr Unit) (bM s))=jA (aS ts) s:=by
 show sH (bM s ts)= _;unfold bM;cases jA (aS ts) s <;> rfl
theorem Uw (w:World)(bp B:Nat)(L:List aI)(d:Int)(q:Pr Unit)(h:eF w bp B L d q)(s:Bt):
  Calls Tryz.prog 156 #[.pointer (some ⟨bp,0,none⟩),sv s] w fun e w'=>e=.returned (.bool (sH (aA q (bM s))))∧Below w.heap.size w w':=by
 have hlt:=h.lt;have hB:=h.1;have hh:=h;obtain⟨b,o,c,k,dd,e,ln,cn,hk,hlc,hc63,Ls,hdd,hrel,hblk,t0,t1,t2,t3⟩:=h.open_;obtain⟨p0,p1,p2,p3,p4,p5,pz⟩:=gu hblk;have hki:(k:Int)<L.length:=by omega
 have hbb:¬b=bp:=by omega
 have Xc:¬bp=b:=by omega
 obtain⟨A,hA⟩:∃A,sH (aA q (bM s))=A:=⟨_,rfl⟩
 rw [hA];have HA:=aZ hA;clear hA;obtain⟨tk,htk⟩:∃tk,L[k]=tk:=⟨_,rfl⟩
 rw [htk]at t0 t1 t2 t3;have uO:=aZ htk;have HH:=aZ hh;have nU:=aZ hblk;clear htk hh h hblk;go_enter Tryz.func156,Tryz.ntmps156;have HS:bN ((w.drew).cell? ⟨bp,0,none⟩=some (.slice (some ⟨b,o,none⟩) L.length c)∧(w.drew).cell? ⟨bp,1,none⟩=some (.int .i64 k)∧((w.drew).cell? ⟨b,o+k*4,none⟩=some (.int .i64 tk.kind)∧(w.drew).cell? ⟨b,o+k*4+1,none⟩=some (sv tk.text)∧(w.drew).cell? ⟨b,o+k*4+2,none⟩=some (.int .i64 tk.line)∧(w.drew).cell? ⟨b,o+k*4+3,none⟩=some (.int .i64 tk.col))):=aZ ⟨p0,p1,t0,t1,t2,t3⟩;go_wp2_with fail;refine bP (S:=fun w'=>w'.cell? ⟨bp,0,none⟩=some (.slice (some ⟨b,o,none⟩) L.length c)∧w'.cell? ⟨bp,1,none⟩=some (.int .i64 k)∧(w'.cell? ⟨b,o+k*4,none⟩=some (.int .i64 tk.kind)∧w'.cell? ⟨b,o+k*4+1,none⟩=some (sv tk.text)∧w'.cell? ⟨b,o+k*4+2,none⟩=some (.int .i64 tk.line)∧w'.cell? ⟨b,o+k*4+3,none⟩=some (.int .i64 tk.col))) (x:=11) (by kernel_rfl) ?_
 try simp only [Act.put,sq]
 refine tx 0 (.pointer (some ⟨bp,0,none⟩)) HS.o ?_;refine tx 1 (.pointer (some ⟨bp,0,none⟩)) HS.o ?_;refine tx 2 (.pointer (some ⟨bp,0,none⟩)) HS.o ?_;refine jG 3 (.slice (some ⟨b,o,none⟩) L.length c) (fun _ h=>h.1) HS.o ?_;refine tx 4 (.pointer (some ⟨bp,0,none⟩)) HS.o ?_;refine tx 5 (.pointer (some ⟨bp,0,none⟩)) HS.o ?_;refine tx 6 (.pointer (some ⟨bp,1,none⟩)) HS.o ?_;refine jG 7 (.int .i64 k) (fun _ h=>h.2.1) HS.o ?_;refine tx 8 (.pointer (some ⟨b,o+k*4,none⟩)) HS.o ?_;refine jG 9 (.agg #[.int .i64 tk.kind,sv tk.text,.int .i64 tk.line,.int .i64 tk.col]) (fun _ h=>h.2.2) HS.o ?_;refine ay (rs:=[10]) (by kernel_rfl) (by simp) ?_;refine av.cons rfl (fun K hK=>?_) (av.nil);go_simp;have tz:=Turn.alloc (fun _=>False) w.drew (.cells #[.int .i64 0,.string ⟨#[]⟩,.int .i64 0,.int .i64 0] 154);have hs:=HS.o;have HS2:=aZ (⟨aN hs.1 tz id,aN hs.2.1 tz id,aN hs.2.2.1 tz id,aN hs.2.2.2.1 tz id,aN hs.2.2.2.2.1 tz id,aN hs.2.2.2.2.2 tz id⟩: _∧ _∧ _∧ _∧ _∧ _);clear tz hs;refine hK.out _ _ HS2.o ?_;clear hK K
 try simp only [Act.put,sq]
 refine ay (rs:=[11]) (by kernel_rfl) (by simp) ?_;refine av.past rfl (by kernel_rfl) (fun K hK=>?_) (av.nil);go_simp;refine hK.out _ _ ?_;clear hK K
 try simp only [Act.put,sq]
 refine aR (by kernel_rfl) ?_ _;obtain⟨W1,hW1⟩:∃W1,(w.alloc (.cells #[.int .i64 tk.kind,sv tk.text,.int .i64 tk.line,.int .i64 tk.col] 154)).drew=W1:=⟨_,rfl⟩
 rw [hW1];have hn1:=new1 w (.cells #[.int .i64 tk.kind,sv tk.text,.int .i64 tk.line,.int .i64 tk.col] 154);have hb1:Below w.heap.size w W1:=by rw [<-hW1];exact hn1.trans ((aP _ 1).mono hn1.size)
 have htb:W1.heap[w.heap.size]? =some (.cells #[.int .i64 tk.kind,sv tk.text,.int .i64 tk.line,.int .i64 tk.col] 154):=by rw [<-hW1,show ∀X:World,X.drew.heap=X.heap from fun _=>rfl];exact wJ w _
 have tb1:=Turn.of_below (F:=fun j=>j=bp) hb1;have hs1:=hb1.size;obtain⟨z0,z1,z2,z3,zz⟩:=aX htb;have hp1:=ah nU.o (Turn.of_below (F:=fun _=>False) hb1) id;clear p0 p1 p2 p3 p4 p5 pz;obtain⟨p0,p1,p2,p3,p4,p5,pz⟩:=gu hp1;have Xd:=aZ hp1;have HB1:=aZ hb1;have HH1:=aZ (HH.o.below hb1);clear hW1 htb tb1 HS HS2 t0 t1 t2 t3 hp1 hb1 hn1;cases q with
 |bad g=>
  obtain⟨rfl,rfl,rfl,hg⟩:=hrel;have hge:(g.2.2==0)=false:=by simp [hg]
  obtain rfl:A=false:=HA.o.symm;clear hg;go_wp2_with fail;go_ret;exact⟨rfl,HB1.o⟩
 |good u ts=>
  obtain⟨rfl,hwf,rfl,rfl,rfl,rfl⟩:=hrel;have hA:A=jA tk s:=by rw [<-HA.o,Uv,jH hk,uO.o]
  obtain⟨tkk,tkx,tkl,tkc⟩:=tk;simp only at z0 z1 z2 z3;unfold jA at hA;simp only at hA;have HAA:=aZ hA;clear hA hwf;cases h2:(tkk==2)
  ·cases h5:(tkk==5)
   ·obtain rfl:A=false:=by rw [HAA.o,h2,h5];rfl
    go_wp2_with fail;go_ret;exact⟨rfl,HB1.o⟩
   ·cases hx:(tkx==s)
    ·obtain rfl:A=false:=by rw [HAA.o,h2,h5,hx];rfl
     go_wp2_with fail;go_ret;exact⟨rfl,HB1.o⟩
    ·obtain rfl:A=true:=by rw [HAA.o,h2,h5,hx];rfl
     go_wp2_with fail;go_ret;exact⟨rfl,HB1.o⟩
  ·cases hx:(tkx==s)
   ·obtain rfl:A=false:=by rw [HAA.o,h2,hx];rfl
    go_wp2_with fail;go_ret;exact⟨rfl,HB1.o⟩
   ·obtain rfl:A=true:=by rw [HAA.o,h2,hx];rfl
    go_wp2_with fail;go_ret;exact⟨rfl,HB1.o⟩
theorem eF.step {w w':World}{bp B:Nat}{L:List aI}{d:Int}{u:Unit}{t:aI}{r:List aI}{b o c k:Nat}(h:eF w bp B L d (.good u (t :: r)))(hkind:t.kind≠0)(hblk:w.heap[bp]? =some (.cells #[(.slice (some ⟨b,o,none⟩) L.length c),.int .i64 k,.int .i64 d,.int .i64 0,.int .i64 0,.int .i64 0] 159 (0,0)))
  (hw:w'.heap[bp]? =some (.cells #[(.slice (some ⟨b,o,none⟩) L.length c),.int .i64 ((k:Int)+1),.int .i64 d,.int .i64 0,.int .i64 0,.int .i64 0] 159 (0,0))) (tn:Turn (fun j=>j=bp) w w'):eF w' bp B L d (.good () r):=by
 have hlt:=h.lt;have hB:=h.1;obtain⟨h1,h2,h3,v,k',dd,e,ln,cn,h4,h5,h6,h7,h8,h9,h10,rfl,rfl,rfl⟩:=h;rw [hblk]at h4;injection h4 with h4;injection h4 with h4 _;have e4:=congrArg (fun a=>a.toList) h4;simp only [List.cons.injEq,Value.int.injEq]at e4;obtain⟨e5,⟨_,e6⟩,_⟩:=e4;obtain rfl:k=k':=by omega
 subst e5;subst h10;have hd:=List.drop_eq_getElem_cons h6;rw [<-h8]at hd;injection hd with hd1 hd2;rw [h8]at h9;have hr:=Rq h6 h9 (by rw [<-hd1];exact hkind);exact⟨h1,h2,h3,_,k+1,dd,0,0,0,by rw [Int.natCast_add];exact hw,Sl.below h5 (tn.below (by omega) (fun j hj e=>by omega)),hr.1,h7,hd2,by rw [hd2];exact hr.2,rfl,rfl,rfl,rfl⟩
theorem bT (w:World)(bp B:Nat)(L:List aI)(d:Int)(q:Pr Unit)(h:eF w bp B L d q)(s:Bt):
  Calls Tryz.prog 94 #[.pointer (some ⟨bp,0,none⟩),sv s] w fun e w'=>e=.returned (.bool (sH (aA q (bM s))))∧Turn (fun j=>j=bp) w w'∧eF w' bp B L d (ig (aA q (bM s))):=by
 have HC:=aZ (Uw w bp B L d q h s);obtain⟨A,hA⟩:∃A,sH (aA q (bM s))=A:=⟨_,rfl⟩
 rw [hA]at HC;rw [hA];have hlt:=h.lt;have hB:=h.1;cases A with
 |false=>
  rw [(bg hA).1];have HH:=aZ h;clear h hA;go_enter Tryz.func94,Tryz.ntmps94;go_wp2_with fail;refine(HC.o).mono ?_;rintro e w1 ⟨rfl,hb1⟩;go_wp2_with fail;go_ret;exact⟨rfl,Turn.of_below hb1,HH.o.below hb1⟩
 |true=>
  obtain⟨t,r,rfl,ht,hs⟩:=bF hA;rw [hs];have hkd:=ER ht;have HH:=aZ h;clear h hA hs ht;go_enter Tryz.func94,Tryz.ntmps94;go_wp2_with fail;refine(HC.o).mono ?_;rintro e w1 ⟨rfl,hb1⟩;have h1:=HH.o.below hb1;obtain⟨b,o,c,k,dd,e,ln,cn,hk,hlc,hc63,Ls,hdd,⟨hrel,hwf,rfl,rfl,rfl,rfl⟩,hblk,t0,t1,t2,t3⟩:=h1.open_;obtain⟨p0,p1,p2,p3,p4,p5,pz⟩:=gu hblk;have hL:=h1.2.1.1;have hk2:(k:Int)+1<=9223372036854775807:=by omega
  have H1:=aZ h1;have HB:=aZ hblk;have HT:=aZ (Turn.of_below (F:=fun j=>j=bp) hb1);clear h1 t0 t1 t2 t3 hrel hwf hb1 hblk;go_wp2_with fail;go_ret;have tw:=ak w1 bp 1 (.int .i64 ((k:Int)+1));exact⟨rfl,aB HT.o tw,H1.o.step hkd HB.o (heap_setCell_same _ _ 1 _ _ _ HB.o) tw⟩
theorem Xe {q:Pr Unit}{s:Bt}(h:sH (aA q (bM s))=true):ig (aA q (aH s))=ig (aA q (bM s)):=by
 obtain⟨t,r,rfl,ht,hs⟩:=bF h;rw [hs];show ig (aH s (t :: r))= _;unfold aH;rw [au (qR ht r)];rfl
theorem abH {q:Pr Unit}{s:Bt}(h:sH (aA q (bM s))=false):ig (aA q (aH s))=C9 q 7:=by
 obtain⟨_,hn⟩:=bg h;unfold aH;rw [Lu hn];cases q <;> rfl
theorem dQ (w:World)(bp B:Nat)(L:List aI)(d:Int)(q:Pr Unit)(h:eF w bp B L d q)(s:Bt):
  Calls Tryz.prog 96 #[.pointer (some ⟨bp,0,none⟩),sv s] w fun e w'=>e=.returned (.tuple #[])∧Turn (fun j=>j=bp) w w'∧eF w' bp B L d (ig (aA q (aH s))):=by
 have HC:=aZ (bT w bp B L d q h s);obtain⟨A,hA⟩:∃A,sH (aA q (bM s))=A:=⟨_,rfl⟩
 rw [hA]at HC;have hlt:=h.lt;cases A with
 |true=>
  rw [Xe hA];clear h hA;go_enter Tryz.func96,Tryz.ntmps96;go_wp2_with fail;refine(HC.o).mono ?_;rintro e w1 ⟨rfl,tn,kn⟩;have HT:=aZ tn;have HK:=aZ kn;clear tn kn;go_wp2_with fail;go_end0;exact⟨rfl,HT.o,HK.o⟩
 |false=>
  rw [abH hA];rw [(bg hA).1]at HC;clear h hA;go_enter Tryz.func96,Tryz.ntmps96;go_wp2_with fail;refine(HC.o).mono ?_;rintro e w1 ⟨rfl,tn,kn⟩;have HT:=aZ tn;have HF:=aZ (tK w1 bp B L d q kn 7 (by decide));clear tn kn;go_wp2_with fail;refine(HF.o).mono ?_;rintro e w2 ⟨rfl,tn,kn⟩;have HT2:=aZ (aB HT.o tn);have HK:=aZ kn;clear tn kn;go_wp2_with fail;go_end0;exact⟨rfl,HT2.o,HK.o⟩
theorem Xf {u:Unit}{t:aI}{r:List aI}(h:t.kind=1):aA (.good u (t :: r):Pr Unit) nameP=.good t.text r:=by
 show nameP (t :: r)= _;unfold nameP dB;rw [if_pos (show(aS (t :: r)).kind=1 from h)];rfl
theorem abI {q:Pr Unit}(h:∀u ts,q=.good u ts->(aS ts).kind≠1):ig (aA q nameP)=C9 q 7∧∀a ts,aA q nameP=.good a ts->([]:Bt)=a:=by
 cases q with
 |bad g=>exact⟨rfl,fun a ts h=>by cases h⟩
 |good u ts=>
  have hk:=h u ts rfl;have e:nameP ts=.bad ((aS ts).line,(aS ts).col,7):=by unfold nameP dB;rw [if_neg hk]
  exact⟨by rw [jv,e];rfl,fun a r h=>by rw [jv,e]at h;cases h⟩
theorem j4 (w:World)(bp B:Nat)(L:List aI)(d:Int)(q:Pr Unit)(h:eF w bp B L d q):
  Calls Tryz.prog 95 #[.pointer (some ⟨bp,0,none⟩)] w (dh agE bp B L d w (aA q nameP)):=by
 have hlt:=h.lt;have hB:=h.1;have hh:=h;obtain⟨b,o,c,k,dd,e,ln,cn,hk,hlc,hc63,Ls,hdd,hrel,hblk,t0,t1,t2,t3⟩:=h.open_;obtain⟨p0,p1,p2,p3,p4,p5,pz⟩:=gu hblk;have hki:(k:Int)<L.length:=by omega
 have hbb:¬b=bp:=by omega
 have Xc:¬bp=b:=by omega
 obtain⟨tk,htk⟩:∃tk,L[k]=tk:=⟨_,rfl⟩
 rw [htk]at t0 t1 t2 t3;have uO:=aZ htk;have HH:=aZ hh;have nU:=aZ hblk;clear htk hh h hblk;have HF:=aZ (fun w1 h1=>tK w1 bp B L d q h1 7 (by decide));obtain⟨R,hR⟩:∃R,aA q nameP=R:=⟨_,rfl⟩
 rw [hR];have HR:=aZ hR;clear hR;go_enter Tryz.func95,Tryz.ntmps95;have HS:bN ((w.drew).cell? ⟨bp,0,none⟩=some (.slice (some ⟨b,o,none⟩) L.length c)∧(w.drew).cell? ⟨bp,1,none⟩=some (.int .i64 k)∧((w.drew).cell? ⟨b,o+k*4,none⟩=some (.int .i64 tk.kind)∧(w.drew).cell? ⟨b,o+k*4+1,none⟩=some (sv tk.text)∧(w.drew).cell? ⟨b,o+k*4+2,none⟩=some (.int .i64 tk.line)∧(w.drew).cell? ⟨b,o+k*4+3,none⟩=some (.int .i64 tk.col))):=aZ ⟨p0,p1,t0,t1,t2,t3⟩;go_wp2_with fail;refine bP (S:=fun w'=>w'.cell? ⟨bp,0,none⟩=some (.slice (some ⟨b,o,none⟩) L.length c)∧w'.cell? ⟨bp,1,none⟩=some (.int .i64 k)∧(w'.cell? ⟨b,o+k*4,none⟩=some (.int .i64 tk.kind)∧w'.cell? ⟨b,o+k*4+1,none⟩=some (sv tk.text)∧w'.cell? ⟨b,o+k*4+2,none⟩=some (.int .i64 tk.line)∧w'.cell? ⟨b,o+k*4+3,none⟩=some (.int .i64 tk.col))) (x:=11) (by kernel_rfl) ?_
 try simp only [Act.put,sq]
 refine tx 0 (.pointer (some ⟨bp,0,none⟩)) HS.o ?_;refine tx 1 (.pointer (some ⟨bp,0,none⟩)) HS.o ?_;refine tx 2 (.pointer (some ⟨bp,0,none⟩)) HS.o ?_;refine jG 3 (.slice (some ⟨b,o,none⟩) L.length c) (fun _ h=>h.1) HS.o ?_;refine tx 4 (.pointer (some ⟨bp,0,none⟩)) HS.o ?_;refine tx 5 (.pointer (some ⟨bp,0,none⟩)) HS.o ?_;refine tx 6 (.pointer (some ⟨bp,1,none⟩)) HS.o ?_;refine jG 7 (.int .i64 k) (fun _ h=>h.2.1) HS.o ?_;refine tx 8 (.pointer (some ⟨b,o+k*4,none⟩)) HS.o ?_;refine jG 9 (.agg #[.int .i64 tk.kind,sv tk.text,.int .i64 tk.line,.int .i64 tk.col]) (fun _ h=>h.2.2) HS.o ?_;refine ay (rs:=[10]) (by kernel_rfl) (by simp) ?_;refine av.cons rfl (fun K hK=>?_) (av.nil);go_simp;have tz:=Turn.alloc (fun _=>False) w.drew (.cells #[.int .i64 0,.string ⟨#[]⟩,.int .i64 0,.int .i64 0] 154);have hs:=HS.o;have HS2:=aZ (⟨aN hs.1 tz id,aN hs.2.1 tz id,aN hs.2.2.1 tz id,aN hs.2.2.2.1 tz id,aN hs.2.2.2.2.1 tz id,aN hs.2.2.2.2.2 tz id⟩: _∧ _∧ _∧ _∧ _∧ _);clear tz hs;refine hK.out _ _ HS2.o ?_;clear hK K
 try simp only [Act.put,sq]
 refine ay (rs:=[11]) (by kernel_rfl) (by simp) ?_;refine av.past rfl (by kernel_rfl) (fun K hK=>?_) (av.nil);go_simp;refine hK.out _ _ ?_;clear hK K
 try simp only [Act.put,sq]
 refine aR (by kernel_rfl) ?_ _;obtain⟨W1,hW1⟩:∃W1,(w.alloc (.cells #[.int .i64 tk.kind,sv tk.text,.int .i64 tk.line,.int .i64 tk.col] 154)).drew=W1:=⟨_,rfl⟩
 rw [hW1];have hn1:=new1 w (.cells #[.int .i64 tk.kind,sv tk.text,.int .i64 tk.line,.int .i64 tk.col] 154);have hb1:Below w.heap.size w W1:=by rw [<-hW1];exact hn1.trans ((aP _ 1).mono hn1.size)
 have htb:W1.heap[w.heap.size]? =some (.cells #[.int .i64 tk.kind,sv tk.text,.int .i64 tk.line,.int .i64 tk.col] 154):=by rw [<-hW1,show ∀X:World,X.drew.heap=X.heap from fun _=>rfl];exact wJ w _
 have tb1:=Turn.of_below (F:=fun j=>j=bp) hb1;have hs1:=hb1.size;obtain⟨z0,z1,z2,z3,zz⟩:=aX htb;have hp1:=ah nU.o (Turn.of_below (F:=fun _=>False) hb1) id;clear p0 p1 p2 p3 p4 p5 pz;obtain⟨p0,p1,p2,p3,p4,p5,pz⟩:=gu hp1;have Xd:=aZ hp1;have HB1:=aZ hb1;have HH1:=aZ (HH.o.below hb1);clear hW1 htb tb1 HS HS2 t0 t1 t2 t3 hp1 hb1 hn1;by_cases hyes:e=0∧tk.kind=1
 ·obtain⟨rfl,hk1⟩:=hyes;cases q with
  |bad g=>exact absurd hrel.1.symm hrel.2.2.2
  |good u ts=>
   obtain⟨hts,hwf,rfl,_,rfl,rfl⟩:=hrel;have awf:(tk.kind==1)=true:=by simp [hk1]
   have hL:=HH1.o.2.1.1;have hk2:(k:Int)+1<=9223372036854775807:=by omega
   rw [List.drop_eq_getElem_cons hk,uO.o]at hts;subst hts;have iI:=aZ hk1;clear hk1 hwf;go_wp2_with fail;go_ret;have tw:=ak W1 bp 1 (.int .i64 ((k:Int)+1));have hst:=HH1.o.step (by rw [iI.o];decide) Xd.o (heap_setCell_same _ _ 1 _ _ _ Xd.o) tw;have hR:=HR.o;rw [Xf iI.o]at hR;subst hR;exact⟨(Turn.of_below (F:=fun j=>j=bp) HB1.o).trans tw (fun _ _ h=>h),_,tk.text,rfl,rfl,(fun a ts h=>by injection h),hst⟩
 ·have hno:∀u ts,q=.good u ts->(aS ts).kind≠1:=fun u ts hq hk1=>by
   subst hq;obtain⟨rfl,_,_,rfl,_⟩:=hrel;rw [jH hk,uO.o]at hk1;exact hyes ⟨rfl,hk1⟩
  obtain⟨n1,n2⟩:=abI hno;have N1:=aZ n1;have N2:=aZ n2;have Ux:=HF.o W1 HH1.o;have Xg:=aZ Ux;clear n1 n2 hno Ux hrel;by_cases he:e=0
  ·subst he;have hk1:(tk.kind==1)=false:=by simp;exact fun h=>hyes ⟨rfl,h⟩
   clear hyes;go_wp2_with fail;refine(Xg.o).mono ?_;rintro e9 w2 ⟨rfl,tn,kn⟩;have HT2:=aZ ((Turn.of_below (F:=fun j=>j=bp) HB1.o).trans tn (fun _ _ h=>h));have HK:=aZ kn;clear tn kn;go_wp2_with fail;go_ret;rw [<-HR.o];exact⟨HT2.o,_,[],rfl,rfl,N2.o,by rw [N1.o];exact HK.o⟩
  ·have he0:(e==0)=false:=by simp [he]
   clear hyes he;go_wp2_with fail;refine(Xg.o).mono ?_;rintro e9 w2 ⟨rfl,tn,kn⟩;have HT2:=aZ ((Turn.of_below (F:=fun j=>j=bp) HB1.o).trans tn (fun _ _ h=>h));have HK:=aZ kn;clear tn kn;go_wp2_with fail;go_ret;rw [<-HR.o];exact⟨HT2.o,_,[],rfl,rfl,N2.o,by rw [N1.o];exact HK.o⟩
theorem BU (w:World)(bp B:Nat)(L:List aI)(d:Int)(u:Unit)(ts:List aI)(h:eF w bp B L d (.good u ts))(h0:0<=d)(h1:d<100):
  Calls Tryz.prog 110 #[.pointer (some ⟨bp,0,none⟩)] w fun e w'=>e=.returned (.bool true)∧Turn (fun j=>j=bp) w w'∧eF w' bp B L (d+1) (.good u ts):=by
 have hlt:=h.lt;have hB:=h.1;have hh:=h;obtain⟨b,o,c,k,dd,e,ln,cn,hk,hlc,hc63,Ls,hdd,hrel,hblk,t0,t1,t2,t3⟩:=h.open_;obtain⟨p0,p1,p2,p3,p4,p5,pz⟩:=gu hblk;have hki:(k:Int)<L.length:=by omega
 have hbb:¬b=bp:=by omega
 have Xc:¬bp=b:=by omega
 obtain⟨hts,hwf,rfl,rfl,rfl,rfl⟩:=hrel;have HH:=aZ hh;have HB:=aZ hblk;have HTS:=aZ hts;have vO:=aZ hwf;clear hh h hblk hts hwf t0 t1 t2 t3;go_enter Tryz.func110,Tryz.ntmps110;go_wp2_with fail;go_ret;have tw:=ak w bp 2 (.int .i64 (dd+1));obtain⟨g1,g2,g3,v,k',dd',e',ln',cn',g4,g5,g6⟩:=HH.o;rw [HB.o]at g4;injection g4 with g4;injection g4 with g4 _;have e4:=congrArg (fun a=>a.toList) g4;simp only [List.cons.injEq,Value.int.injEq]at e4;obtain⟨e5,_⟩:=e4;subst e5;exact⟨rfl,tw,g1,g2,g3,_,k,dd+1,0,0,0,heap_setCell_same _ _ 2 _ _ _ HB.o,Sl.below g5 (tw.below (by omega) (fun j hj e=>by omega)),hk,by unfold In64 at*;omega,HTS.o,vO.o,rfl,rfl,rfl,rfl⟩
def ajX (d:Int)(q:Pr Unit):Prop:=(∃g,q=.bad g)∨d=100
theorem BX (w:World)(bp B:Nat)(L:List aI)(d:Int)(q:Pr Unit)(h:eF w bp B L d q)(hn:ajX d q):
  Calls Tryz.prog 110 #[.pointer (some ⟨bp,0,none⟩)] w fun e w'=>e=.returned (.bool false)∧Turn (fun j=>j=bp) w w'∧eF w' bp B L d (C9 q 6):=by
 have hlt:=h.lt;have hB:=h.1;have hh:=h;obtain⟨b,o,c,k,dd,e,ln,cn,hk,hlc,hc63,Ls,hdd,hrel,hblk,t0,t1,t2,t3⟩:=h.open_;obtain⟨p0,p1,p2,p3,p4,p5,pz⟩:=gu hblk;have hki:(k:Int)<L.length:=by omega
 have hbb:¬b=bp:=by omega
 have Xc:¬bp=b:=by omega
 have HF:=aZ (tK w bp B L d q h 6 (by decide));clear h t0 t1 t2 t3;have hsome:∃g,C9 q 6=.bad g:=by cases q <;> exact⟨_,rfl⟩
 by_cases awg:100<=dd
 ·skip
  go_enter Tryz.func110,Tryz.ntmps110;go_wp2_with fail;refine(HF.o).mono ?_;rintro e1 w1 ⟨rfl,tn,kn⟩;have HT:=aZ tn;have HK:=aZ kn;obtain⟨g,hg⟩:=hsome;rw [hg]at kn;obtain⟨b',o',c',k',dd',e',ln',cn',hk',_,_,_,_,⟨rfl,rfl,rfl,hgn⟩,hblk',_⟩:=kn.open_;obtain⟨y0,y1,y2,y3,y4,y5,yz⟩:=gu hblk';have hge:(g.2.2 != 0)=true:=by simp [hgn]
  clear tn kn hblk' hg hgn;go_wp2_with fail;go_ret;exact⟨rfl,HT.o,HK.o⟩
 ·skip
  have hq:∃g,q=.bad g:=by
   rcases hn with hn |hn
   ·exact hn
   ·cases q with
    |bad g=>exact⟨g,rfl⟩
    |good u ts=>exact absurd hrel.2.2.1 (by omega)
  obtain⟨g,rfl⟩:=hq;obtain⟨rfl,rfl,rfl,hgn⟩:=hrel;have hge:(g.2.2 != 0)=true:=by simp [hgn]
  have HH:=aZ hh;clear hgn hsome hn HF hh;go_enter Tryz.func110,Tryz.ntmps110;go_wp2_with fail;go_ret;exact⟨rfl,Turn.refl _ _,HH.o⟩
theorem eF.up {w w':World}{bp B:Nat}{L:List aI}{d:Int}{q:Pr Unit}{v:Value}{k:Nat}{dd e:Int}{ln cn:Nat}(h:eF w bp B L (d+1) q)(h0:0<=d)(h1:d<100)(hblk:w.heap[bp]? =some (.cells #[v,.int .i64 k,.int .i64 dd,.int .i64 e,.int .i64 ln,.int .i64 cn] 159 (0,0)))
  (hw:w'=w.setCell ⟨bp,2,none⟩ (.int .i64 (wrap64 (dd - 1)))):eF w' bp B L d q:=by
 subst hw;have hlt:=h.lt;have hB:=h.1;have tw:=ak w bp 2 (.int .i64 (wrap64 (dd - 1)));obtain⟨g1,g2,g3,v',k',dd',e',ln',cn',g4,g5,g6,g7,g8⟩:=h;rw [hblk]at g4;injection g4 with g4;injection g4 with g4 _;have e4:=congrArg (fun a=>a.toList) g4;simp only [List.cons.injEq,Value.int.injEq]at e4;obtain⟨e1,⟨_,e6⟩,⟨_,e2⟩,⟨_,e3⟩,⟨_,e7⟩,⟨_,e8⟩,_⟩:=e4;obtain rfl:k=k':=by omega
 obtain rfl:ln=ln':=by omega
 obtain rfl:cn=cn':=by omega
 subst e1 e2 e3;refine⟨g1,g2,g3,_,k,wrap64 (dd - 1),e,ln,cn,heap_setCell_same _ _ 2 _ _ _ hblk,Sl.below g5 (tw.below (by omega) (fun j hj e=>by omega)),g6,by unfold In64 wrap64 at*;omega,?_⟩;cases q with
 |bad g=>exact g8
 |good u ts=>exact⟨g8.1,g8.2.1,by have:=g8.2.2.1;unfold wrap64;omega,g8.2.2.2⟩
theorem xK (w:World)(bp B:Nat)(L:List aI)(d:Int)(q:Pr Unit)(h:eF w bp B L d q)(kd:Int):
  Calls Tryz.prog 165 #[.pointer (some ⟨bp,0,none⟩),.int .i64 kd] w fun e w'=>Below w.heap.size w w'∧∃t:aI,e=.returned (.agg (qw kd t))∧∀u ts,q=.good u ts->aS ts=t:=by
 have hlt:=h.lt;have hB:=h.1;have hh:=h;obtain⟨b,o,c,k,dd,e,ln,cn,hk,hlc,hc63,Ls,hdd,hrel,hblk,t0,t1,t2,t3⟩:=h.open_;obtain⟨p0,p1,p2,p3,p4,p5,pz⟩:=gu hblk;have hki:(k:Int)<L.length:=by omega
 have hbb:¬b=bp:=by omega
 have Xc:¬bp=b:=by omega
 obtain⟨tk,htk⟩:∃tk,L[k]=tk:=⟨_,rfl⟩
 rw [htk]at t0 t1 t2 t3;have uO:=aZ htk;have HH:=aZ hh;have nU:=aZ hblk;clear htk hh h hblk;have HQ:bN (∀u ts,q=.good u ts->aS ts=tk):=aZ (fun u ts hq=>by subst hq;rw [hrel.1,jH hk,uO.o]);clear hrel;obtain⟨W1,hW1⟩:∃W1,w.alloc (.cells #[.int .i64 0,.string ⟨#[]⟩,.int .i64 0,.int .i64 0,.int .i64 0,.slice none 0 0,.slice none 0 0,.slice none 0 0] 52)=W1:=⟨_,rfl⟩
 have hb1:Below w.heap.size w W1:=by rw [<-hW1];exact new1 w _
 have hrs:=wJ w (.cells #[.int .i64 0,.string ⟨#[]⟩,.int .i64 0,.int .i64 0,.int .i64 0,.slice none 0 0,.slice none 0 0,.slice none 0 0] 52);rw [hW1]at hrs;have tz:=Turn.of_below (F:=fun _=>False) hb1;have u0:=aN p0 tz id;have u1:=aN p1 tz id;have u2:=aN t2 tz id;have u3:=aN t3 tz id;have HW1:=aZ hW1;have HB1:=aZ hb1;have OE:=aZ hrs;obtain⟨z0,z1,z2,z3,z4,z5,z6,z7,zz⟩:=aD hrs;clear hW1 hb1 hrs tz p0 p1 p2 p3 p4 p5 pz t0 t1 t2 t3;go_enter Tryz.func165,Tryz.ntmps165;go_wp2_with fail;rw [HW1.o];have HS:bN ((W1.drew).cell? ⟨bp,0,none⟩=some (.slice (some ⟨b,o,none⟩) L.length c)∧(W1.drew).cell? ⟨bp,1,none⟩=some (.int .i64 k)∧(W1.drew).cell? ⟨b,o+k*4+2,none⟩=some (.int .i64 tk.line)∧(W1.drew).cell? ⟨b,o+k*4+3,none⟩=some (.int .i64 tk.col)):=aZ ⟨u0,u1,u2,u3⟩;clear u0 u1 u2 u3;refine bP (S:=fun w'=>w'.cell? ⟨bp,0,none⟩=some (.slice (some ⟨b,o,none⟩) L.length c)∧w'.cell? ⟨bp,1,none⟩=some (.int .i64 k)∧w'.cell? ⟨b,o+k*4+2,none⟩=some (.int .i64 tk.line)∧w'.cell? ⟨b,o+k*4+3,none⟩=some (.int .i64 tk.col)) (x:=24) (by kernel_rfl) ?_
 try simp only [Act.put,sq]
 refine tx 0 (.int .i64 kd) HS.o ?_;refine tx 1 (.pointer (some ⟨bp,0,none⟩)) HS.o ?_;refine tx 2 (.pointer (some ⟨bp,0,none⟩)) HS.o ?_;refine tx 3 (.pointer (some ⟨bp,0,none⟩)) HS.o ?_;refine jG 4 (.slice (some ⟨b,o,none⟩) L.length c) (fun _ h=>h.1) HS.o ?_;refine tx 5 (.pointer (some ⟨bp,0,none⟩)) HS.o ?_;refine tx 6 (.pointer (some ⟨bp,0,none⟩)) HS.o ?_;refine tx 7 (.pointer (some ⟨bp,1,none⟩)) HS.o ?_;refine jG 8 (.int .i64 k) (fun _ h=>h.2.1) HS.o ?_;refine tx 9 (.pointer (some ⟨b,o+k*4,none⟩)) HS.o ?_;refine tx 10 (.pointer (some ⟨b,o+k*4+2,none⟩)) HS.o ?_;refine jG 11 (.int .i64 tk.line) (fun _ h=>h.2.2.1) HS.o ?_;refine tx 12 (.pointer (some ⟨bp,0,none⟩)) HS.o ?_;refine tx 13 (.pointer (some ⟨bp,0,none⟩)) HS.o ?_;refine tx 14 (.pointer (some ⟨bp,0,none⟩)) HS.o ?_;refine jG 15 (.slice (some ⟨b,o,none⟩) L.length c) (fun _ h=>h.1) HS.o ?_;refine tx 16 (.pointer (some ⟨bp,0,none⟩)) HS.o ?_;refine tx 17 (.pointer (some ⟨bp,0,none⟩)) HS.o ?_;refine tx 18 (.pointer (some ⟨bp,1,none⟩)) HS.o ?_;refine jG 19 (.int .i64 k) (fun _ h=>h.2.1) HS.o ?_;refine tx 20 (.pointer (some ⟨b,o+k*4,none⟩)) HS.o ?_;refine tx 21 (.pointer (some ⟨b,o+k*4+3,none⟩)) HS.o ?_;refine jG 22 (.int .i64 tk.col) (fun _ h=>h.2.2.2) HS.o ?_;refine tx 23 (.agg (qw kd tk)) HS.o ?_;refine ay (rs:=[24]) (by kernel_rfl) (by simp) ?_;refine av.past rfl (by kernel_rfl) (fun K hK=>?_) (av.nil);go_simp;refine hK.out _ _ ?_;clear hK K
 try simp only [Act.put,sq]
 refine aR (by kernel_rfl) ?_ _;go_wp2_with fail;have tF:=bD W1 w.heap.size (.int .i64 kd) (.string ⟨#[]⟩) (.int .i64 0) (.int .i64 tk.line) (.int .i64 tk.col) (.slice none 0 0) (.slice none 0 0) (.slice none 0 0);refine bodyPost_ret (aM rfl rfl (by rw [show ∀X:World,X.drew.heap=X.heap from fun _=>rfl];exact aV OE.o _ _ _ _ _ _ _ _) Tryz.underlying52 rfl (by kernel_rfl)) rfl ?_;refine⟨(HB1.o.trans (tF.below (by have:=HB1.o.size;omega) (fun j hj e=>by omega))).trans ((aP _ 1).mono (by have:=HB1.o.size;have:=tF.size;omega)),tk,rfl,HQ.o⟩
theorem xL {α:Type}{R:World->(Nat->Prop)->List Value->α->Prop}{k:Nat}(hR:qW R k)(hk:0<k){e:TypeId}{base bp cb ci g:Nat}{F:Nat->Prop}{w w6 w7:World}{v v7:Value}{l:List α}{x:α}{z ys zs:List Value}{n7:Nat}
  (hy:w.ownsRow base e k v l.length ys) (hr:fC (R w (qK F v)) k ys l) (t:Turn (fun j=>j=bp) w w6) (hx:R w6 (fun j=>w.heap.size<=j) z x) (hzs:zs.length=k) (h7:w7.ownsRow base e k v7 n7 (ys++zs)) (hg:w6.grownBy w7 v.ownBlock)
  (hbk:v7.ownBlock=v.ownBlock∨v7.ownBlock=some w6.heap.size) (hv:v7.ownBlock=some g) (hcb:cb<base) (hbp:¬F bp) (hcF:¬F cb) (hF:∀j,w.heap.size<=j->F j) (hbs:base<=w.heap.size) (w8:World)
  (h8:w8=(nQ w7 g (l.length*k) z).setCell ⟨cb,ci,none⟩ v7∨w8=nQ (w7.setCell ⟨cb,ci,none⟩ v7) g (l.length*k) z):
  fH R k e w8 base F v7 (l++[x])∧Turn (fun j=>v.ownBlock=some j∨j=cb) w6 w8∧Turn (fun j=>j=g∨j=cb) w7 w8∧(∀cs T,w7.heap[cb]? =some (.cells cs T (0,0))->w8.heap[cb]? =some (.cells (cs.setIfInBounds ci v7) T (0,0)))∧(∀j,j<w6.heap.size->v7.ownBlock=some j->v.ownBlock=some j):=by
 have hz:z.length=k:=hR.len hx;have hyl:ys.length=l.length*k:=hy.1;have hs6:=t.size;have jB:=h7.lt g hv;have tg:=Turn.bB hg (F:=fun j=>v.ownBlock=some j) (fun k h=>h);have hkl:=hy.lt;have hgn:∀j,j<w6.heap.size->j=g->v.ownBlock=some j:=fun j hj e=>by
  subst e;rcases hbk with hb |hb
  ·rw [<-hb];exact hv
  ·rw [hb]at hv;injection hv with hv;omega
 have tp:=fun(w:World)=>fU g z w (l.length*k);have ts:=fun(w:World)=>ak w cb ci v7;have hgc:g≠cb:=by omega
 have t78:Turn (fun j=>j=g∨j=cb) w7 w8:=by
  rcases h8 with rfl |rfl
  ·exact((tp w7).mono (G:=fun j=>j=g∨j=cb) fun _ _ h=>.inl h).trans (ts _) (fun _ _ h=>.inr h)
  ·exact((ts w7).mono (G:=fun j=>j=g∨j=cb) fun _ _ h=>.inr h).trans (tp _) (fun _ _ h=>.inl h)
 have t68:Turn (fun j=>v.ownBlock=some j∨j=cb) w6 w8:=(tg.mono (G:=fun j=>v.ownBlock=some j∨j=cb) fun _ _ h=>.inl h).trans t78 (fun i hi e=>by
  rcases e with e |e
  ·exact .inl (hgn i hi e)
  ·exact .inr e)
 have hrow:w8.ownsRow base e k v7 n7 (ys++z):=by
  rcases h8 with rfl |rfl
  ·exact dN (Eo h7 hv (by omega) hyl) (ts _) (fun k hk e=>by rw [hv]at hk;injection hk with hk;omega)
  ·exact Eo (dN h7 (ts _) (fun k hk e=>by rw [hv]at hk;injection hk with hk;omega)) hv (by omega) hyl
 refine⟨fH.push hR hy hr t hx t68 (fun j hj e=>?_) (hbk.imp id fun e=>⟨_,Nat.le_refl _,e⟩) hrow hk hbp hF,t68,t78,fun cs T hb=>?_,fun j hj e=>hgn j hj (by rw [hv]at e;injection e with e;omega)⟩
 ·rcases e with e |e
  ·exact .inl e
  ·exact .inr ⟨by rw [e];exact hcF,by omega⟩
 ·rcases h8 with rfl |rfl
  ·exact heap_setCell_same _ _ ci _ _ _ (ah hb (tp _) (by omega))
  ·exact ah (heap_setCell_same _ _ ci _ _ _ hb) (tp _) (by omega)
end Go.Proofs.YtfgjkmipfikooaaGreatDoor
