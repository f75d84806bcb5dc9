/- FN, HM, FO -/
import Derived.Test.YtfgjkmipfikooaaGreatDoorTTQ
import Derived.Test.YtfgjkmipfikooaaGreatDoorTT06
import Derived.Test.YtfgjkmipfikooaaGreatDoorTT05
set_option linter.unusedSimpArgs false
set_option linter.unusedVariables false
set_option maxRecDepth 100000
set_option maxHeartbeats 8000000
namespace Go.Proofs.YtfgjkmipfikooaaGreatDoor
open Go.RowKit
abbrev TG (base:Nat) (w:World) (v:Value) (l:List bT):Prop:=fu jR 4 57 w base (fun j=>base≤j) v l
theorem D9 {α:Type} {R:World→(Nat→Prop)→List Value→α→Prop} {k:Nat} (hR:mH R k) {w:World} {F:Nat→Prop}:∀ {ys:List Value} {l:List α},eD (R w F) k ys l→∀u∈ys,u.oneCell'=true
 | _, _, .nil=>fun _ h=>by cases h
 | _, _, .cons h1 h2 h3=>fun u hu=>by
  rcases List.mem_append.1 hu with h | h
  ·exact hR.one h2 u h
  ·exact D9 hR h3 u h
theorem Pg {base bp:Nat} {w w6 w9:World} {v v7:Value} {l:List bT} {x:bT} {z:List Value} {o:Obj} {n7:Nat} {ys:List Value} (hy:w.ownsRow base 57 4 v l.length ys) (hr:eD (jR w (nD (fun j=>base≤j) v)) 4 ys l) (t:Turn (fun k=>k=bp) w w6) (hbp:bp<base) (hs:base≤w.heap.size)
  (hx:jR w6 (fun j=>w.heap.size≤j) z x) (hg:(w6.alloc o).grownBy w9 v.ownBlock) (hbk:v7.ownBlock=v.ownBlock∨v7.ownBlock=some (w6.alloc o).heap.size) (h7:w9.ownsRow base 57 4 v7 n7 (ys++z)):TG base w9 v7 (l++[x])∧Turn (fun j=>v.ownBlock=some j) w6 w9:=by
 have t9:=(Turn.alloc (fun j=>v.ownBlock=some j) w6 o).trans (Turn.bA hg (F:=fun j=>v.ownBlock=some j) (fun _ h=>h)) (fun _ _ h=>h);exact⟨fu.push aO (F:=fun j=>base≤j) hy hr t hx t9 (fun j _ h=> .inl h) (hbk.imp id fun e=>⟨_,by simp,e⟩) h7 (by omega) (by omega) (fun j hj=>by omega),t9⟩
theorem Ph {base:Nat} {w w9:World} {v v7:Value} {l m:List bT} {ys ms:List Value} {n7:Nat} (hy:w.ownsRow base 57 4 v l.length ys) (hr:eD (jR w (nD (fun j=>base≤j) v)) 4 ys l) (hm:eD (jR w (nD (fun j=>base≤j) v)) 4 ms m)
  (hg:w.grownBy w9 v.ownBlock) (hbk:v7.ownBlock=v.ownBlock∨v7.ownBlock=some w.heap.size) (h7:w9.ownsRow base 57 4 v7 n7 (ys++ms)):TG base w9 v7 (l++m):=by
 have tg:=Turn.bA hg (F:=fun j=>v.ownBlock=some j) (fun _ h=>h);have hnew:∀j,j<w.heap.size→v7.ownBlock=some j→v.ownBlock=some j:=fun j hj e=>by
  rcases hbk with hb | hb
  ·rw [hb]at e;exact e
  ·rw [hb]at e;injection e with e;omega
 have hrow:=eD.app hm hr;have hn:n7=(l++m).length:=by
  have e1:=h7.1;have e2:=hrow.len;omega
 subst hn;refine⟨_,h7,hrow.imp fun _ _ h=> ?_⟩;have h3:jR w (fun j=>j<w.heap.size∧nD (fun j=>base≤j) v j) _ _:=h.mono fun j hj h=>⟨hj,h⟩
 exact(h3.turn tg (fun j _ h e=>h.2.1 e)).mono fun j _ h=>⟨fun e=>h.2.1 (hnew j h.1 e),h.2.2⟩
theorem vI (d:Int) (typ:Ps bT) (pK:uj d typ) (hsf:Sf typ) (w:World) (bp B base:Nat) (ts:List aD) (h:bK w bp B ts d) (v v':Value) (l m:List bT) (ms:List Value) (hv:TG base w v l) (hm:dB w (fun j=>j≠bp) 4 v' ms) (hmr:eD (jR w (nD (fun j=>base≤j) v)) 4 ms m) (hl:l.length≤4) (hml:m.length≤4) (hbp:bp<base) (hs:base≤w.heap.size):
  Calls Tryz.prog 107 #[.pointer (some ⟨bp,0,none⟩),v,v'] w (fB (TG base) (fun k=>k=bp∨v.ownBlock=some k) bp B d w (iG typ l m ts)):=by
 have hlt:=h.lt;have hB:=h.1;obtain⟨Al,cl,hvl,hcl,hcm⟩:=hv.shape;subst hvl;obtain⟨Am,nm,cm,Wt,hlm,hnm,hcm2,hxm⟩:=hm;have hm:dB w (fun j=>j≠bp) 4 v' ms:=⟨Am,nm,cm,Wt,hlm,hnm,hcm2,hxm⟩
 subst Wt;have Wu:=hmr.len;obtain⟨Q,hQ⟩:∃Q,iG typ l m ts=Q:=⟨_,rfl⟩
 rw [hQ];have HQ:Hid (aj (bY [58]) (fun b=>if b then aj typ fun t=>aG (l++[t])else aG (l++m)) ts=Q):=hid hQ;have HH:=hid (jr w bp B ts d h [58]);have HV:=hid hv;have HM:=hid hm;have Wv:=hid hmr;clear h hQ hv hm hmr hxm;go_enter Tryz.func107,Tryz.ntmps107;go_wp2_with fail;refine(HH.out).mono ?_;rintro e w1 h1;rcases hq:bY [58] ts with g | ⟨b,r1⟩
 ·obtain⟨rfl,tn,bn⟩:=h1.bM hq;exact(gJ hq).elim
 ·obtain⟨v1,rfl,tn,rfl,kn⟩:=h1.aL hq;have hq1:=hid hq;have Rs:=hid (HV.out.turn aO tn (fun g hg e=>by have:=(HV.out.lt g hg).1;omega) (fun g _ hg e=>by omega));have Zv:=hid (bD aO tn (fun g _ hg e=>by have:=hg.2;omega) Wv.out);have xQ:=hid (dB.turn HM.out tn (fun g _ h e=>h e));have ae7:=tn.size;have hs1:=tn.size;have HT1:=hid (tn);have jP:=hid kn;clear h1 tn kn hq;cases b
  ·have jO:Hid (Pr.good (l++m) r1=Q):=hid ((au hq1.out).symm.trans HQ.out);obtain⟨ys,hy,hrr⟩:=Rs.out;have hyl:ys.length=l.length*4:=hy.1;have HY:=hid hy;have HRR:=hid hrr;have HON:=hid (D9 aO Zv.out);clear hy hrr;go_wp2_with (at_builtin;go_must (refine gq rfl (.tmp 16) (.tmp 17) _ rfl base uh _ _ rfl rfl HY.out xQ.out.all HON.out (by rw [Wu];unfold maxLen;omega) (by rw [Wu];omega) (by omega) (fun v9 w9 n9 eY qj jL=> ?_));have qp:=hid eY;have K3:=hid qj;have y8:=hid jL;clear eY qj jL);have tg:=Turn.bA K3.out (F:=fun j=>(Value.slice Al l.length cl).ownBlock=some j) (fun _ h=>h);have hlo:=Rs.out.lt;go_ret;exact fB.done jO.out.symm ((HT1.out.mono (G:=fun k=>k=bp∨(Value.slice Al l.length cl).ownBlock=some k) (fun _ _ h=> .inl h)).trans tg (fun _ _ h=> .inr h)) (Ph HY.out HRR.out Zv.out K3.out y8.out qp.out) (jP.out.turn tg (fun e=>by have:=(hlo _ e).1;omega) (fun k hk e=>by have:=(hlo _ e).1;omega))
  ·have jO:Hid (aj typ (fun t=>aG (l++[t])) r1=Q):=hid ((au hq1.out).symm.trans HQ.out);have zW:=hid (pK w1 bp B r1 jP.out);go_wp2_with fail;refine(zW.out).mono ?_;rintro e w2 h2;rcases hq:typ r1 with g | ⟨t2,r2⟩
   ·obtain⟨rfl,tn,bn⟩:=h2.bM hq;have dG:=hid (jO.out.symm.trans (aB hq));have HB:=hid (dX.mk2 (aA HT1.out tn) bn);clear h2 tn bn hq;go_wp2_with fail;exact⟨rfl,fB.fail dG.out (HB.out.1.mono fun _ _ h=> .inl h) HB.out.2⟩
   ·obtain⟨v2,rfl,tn,⟨z,rfl,hz⟩,kn⟩:=h2.aL hq;obtain⟨k4,s4,mg,n14,c14,mh,n24,c24,rfl⟩:=hz.shape';have HZ:=hid hz;have vH:=hid tn;clear hz;have hs2:=tn.size;have HT2:=hid (aA HT1.out tn);have iR:=hid kn;have jO:Hid (aG (l++[t2]) r2=Q):=hid ((au hq).symm.trans jO.out);clear h2 tn kn hq;have aaC:Hid (Pr.good (l++[t2]) r2=Q):=jO;obtain⟨ys,hy,hrr⟩:=Rs.out;have hyl:ys.length=l.length*4:=hy.1;have Rq:=dK hy vH.out (fun g hg e=>by have:=(hy.lt g hg).1;omega);have HY:=hid hy;have HRR:=hid hrr;have Wq:=hid Rq;clear hy hrr Rq;go_wp2_with (at_builtin;go_must (refine gq rfl (.tmp 11) (.tmp 14) _ rfl base uh _ _ rfl rfl (Wq.out.alloc (.cells #[.int .i64 k4,sv s4, .slice mg n14 c14, .slice mh n24 c24] 57)) (fU w2 #[.int .i64 k4,sv s4, .slice mg n14 c14, .slice mh n24 c24] 57 4 1 rfl (by decide)) (xV k4 s4 _ _ _ _ _ _) (by simp [maxLen];omega) (by simp;omega) (by simp;omega) (fun v9 w9 n9 eY qj jL=> ?_));have qp:=hid eY;have K3:=hid qj;have y8:=hid jL;clear eY qj jL);obtain⟨hrow,t9⟩:=Pg HY.out HRR.out vH.out hbp (by omega) HZ.out K3.out y8.out qp.out;have hlo:=Rs.out.lt;go_ret;exact fB.done aaC.out.symm ((HT2.out.mono (G:=fun k=>k=bp∨(Value.slice Al l.length cl).ownBlock=some k) (fun _ _ h=> .inl h)).trans t9 (fun _ _ h=> .inr h)) hrow (iR.out.turn t9 (fun e=>by have:=(hlo _ e).1;omega) (fun k hk e=>by have:=(hlo _ e).1;omega))
theorem J4 {typ:Ps bT} {a:bT} {ts r:List aD} {y:List bT} (h:iG typ [] [a] ts= .good y r):y.length=1:=by
 unfold iG at h;rcases hq:bY [58] ts with g | ⟨b,r1⟩
 ·exact(gJ hq).elim
 rw [au hq]at h;cases b
 ·injection h with h _;rw [←h];rfl
 ·rcases hq2:typ r1 with g | ⟨t,r2⟩
  ·rw [if_pos rfl,aB hq2]at h;cases h
  ·rw [if_pos rfl,au hq2]at h;injection h with h _;rw [←h];rfl
def Ww (base:Nat) (w:World) (v:Value) (x:Bt ×List bT):Prop:=∃u,v= .tuple #[sv x.1,u]∧TG base w u x.2
theorem Ea (d:Int) (typ:Ps bT) (pK:uj d typ) (hsf:Sf typ) (w:World) (bp B:Nat) (ts:List aD) (h:bK w bp B ts d) (v':Value) (m:List bT) (ms:List Value) (hm:dB w (fun j=>j≠bp) 4 v' ms) (hmr:∀w F,eD (jR w F) 4 ms m) (hml:m.length≤4):
  Calls Tryz.prog 109 #[.pointer (some ⟨bp,0,none⟩),v'] w (aF (Ww w.heap.size) bp B d w (kS typ m ts)):=by
 have hlt:=h.lt;have hB:=h.1;obtain⟨Am,nm,cm,Wt,hlm,hnm,hcm2,hxm⟩:=hm;have hm:dB w (fun j=>j≠bp) 4 v' ms:=⟨Am,nm,cm,Wt,hlm,hnm,hcm2,hxm⟩
 subst Wt;obtain⟨Q,hQ⟩:∃Q,kS typ m ts=Q:=⟨_,rfl⟩
 rw [hQ];have HQ:Hid (aj (aI [40]) (fun _=>aj nameP fun s=>aj (iG typ [] [mX]) fun l=>aj (aI [41]) fun _=>aj (iG typ l m) fun m=>aG (s,m)) ts=Q):=hid hQ;have HN:=hid (eG w bp B ts d h [40] 9 w.heap.size);have HM:=hid hm;clear h hQ hm hxm;go_enter Tryz.func109,Tryz.ntmps109;go_wp2_with fail;refine(HN.out).mono ?_;rintro e w1 h1;rcases hq:aI [40] ts with g | ⟨u,r1⟩
 ·obtain⟨rfl,tn,bn⟩:=h1.bM hq;have HB:=hid (dX.mk2 (tn) bn);have dG:=hid (HQ.out.symm.trans (aB hq));clear h1 tn bn hq;go_wp2_with fail;exact⟨rfl,aF.fail dG.out HB.out⟩
 ·obtain⟨v1,rfl,tn, -,kn⟩:=h1.aL hq;have Zv:=hid (dB.turn HM.out tn (fun g _ h e=>h e));have hs1:=tn.size;have HT1:=hid (tn);have jP:=hid kn;have lq:Hid ((aj nameP fun s=>aj (iG typ [] [mX]) fun l=>aj (aI [41]) fun _=>aj (iG typ l m) fun m=>aG (s,m)) r1=Q):=hid ((au hq).symm.trans HQ.out);clear h1 tn kn hq;have O7:=hid (fH w1 bp B r1 d jP.out);go_wp2_with fail;refine(O7.out).mono ?_;rintro e w2 h2;rcases hq:nameP r1 with g | ⟨s,r2⟩
  ·obtain⟨rfl,tn,bn⟩:=h2.bM hq;have HB:=hid (dX.mk2 (aA HT1.out tn) bn);have dG:=hid (lq.out.symm.trans (aB hq));clear h2 tn bn hq;go_wp2_with fail;exact⟨rfl,aF.fail dG.out HB.out⟩
  ·obtain⟨v2,rfl,tn,rfl,kn⟩:=h2.aL hq;have Ls:=hid (dB.turn Zv.out tn (fun g _ h e=>h e));have hs2:=tn.size;have HT2:=hid (aA HT1.out tn);have iR:=hid kn;have jO:Hid ((aj (iG typ [] [mX]) fun l=>aj (aI [41]) fun _=>aj (iG typ l m) fun m=>aG (s,m)) r2=Q):=hid ((au hq).symm.trans lq.out);clear h2 tn kn hq;have Cc:=hid (vI d typ pK hsf (w2.alloc (.cells #[.int .i64 0, .string ⟨#[]⟩, .slice none 0 0, .slice none 0 0] 57)) bp B w.heap.size r2 (iR.out.below (new1 _ _)) (.slice none 0 0) (.slice (some ⟨w2.heap.size,0,none⟩) 1 1) [] [mX] [.int .i64 0, .string ⟨#[]⟩, .slice none 0 0, .slice none 0 0] (fu.nil _ _ _ _ _ _) ((iH w2 #[.int .i64 0, .string ⟨#[]⟩, .slice none 0 0, .slice none 0 0] 57 4 1 rfl (by decide)).mono (fun g _ h e=>by omega)) (wh rfl (nK _ _ 0 [])) (by simp) (by simp) hlt (by simp;omega));go_wp2_with fail;refine(Cc.out).mono ?_;rintro e w3 h3;rcases hq:iG typ [] [mX] r2 with g | ⟨l,r3⟩
   ·obtain⟨rfl,tn,bn⟩:=h3.bM hq;have tn:=(bH (tn.mono (G:=fun k=>k=bp) (fun k _ h=>by rcases h with h | h;exact h;cases h))).1;have HB:=hid (dX.mk2 (aA HT2.out tn) bn);have dG:=hid (jO.out.symm.trans (aB hq));clear h3 tn bn hq;go_wp2_with fail;exact⟨rfl,aF.fail dG.out HB.out⟩
   ·obtain⟨v3,rfl,tn,hr3,kn⟩:=h3.aL hq;obtain⟨tm,hs3, _⟩:=bH (tn.mono (G:=fun k=>k=bp) (fun k _ h=>by rcases h with h | h;exact h;cases h));obtain⟨A3,c3,hv3,hc3,hm3⟩:=hr3.shape;subst hv3;have HT3:=hid (aA HT2.out tm);have iM:=hid kn;have HR3:=hid hr3;have HM3:=hid (dB.turn Ls.out tm (fun g _ h e=>h e));have Tc:=hid (J4 hq);have gQ:Hid (aj (aI [41]) (fun _=>aj (iG typ l m) fun m=>aG (s,m)) r3=Q):=hid ((au hq).symm.trans jO.out);have OI:=hid (eG w3 bp B r3 d kn [41] 9 w3.heap.size);clear h3 tn tm hr3 kn hq;go_wp2_with fail;refine(OI.out).mono ?_;rintro e w4 h4;rcases hq:aI [41] r3 with g | ⟨u,r4⟩
    ·obtain⟨rfl,tn,bn⟩:=h4.bM hq;have HB:=hid (dX.mk2 (aA HT3.out tn) bn);have dG:=hid (gQ.out.symm.trans (aB hq));clear h4 tn bn hq;go_wp2_with fail;exact⟨rfl,aF.fail dG.out HB.out⟩
    ·obtain⟨v4,rfl,tn, -,kn⟩:=h4.aL hq;have HM4:=hid (dB.turn HM3.out tn (fun g _ h e=>h e));have HR4:=hid (HR3.out.turn aO tn (fun g hg e=>by have:=(HR3.out.lt g hg).1;omega) (fun g _ hg e=>by omega));have hs4:=tn.size;have fP:=hid (aA HT3.out tn);have jH:=hid kn;have fV:Hid ((aj (iG typ l m) fun m=>aG (s,m)) r4=Q):=hid ((au hq).symm.trans gQ.out);clear h4 tn kn hq;have hll:=Tc.out;have K4:=hid (vI d typ pK hsf w4 bp B w.heap.size r4 jH.out (.slice A3 l.length c3) (.slice Am nm cm) l m ms HR4.out HM4.out (hmr _ _) (by omega) hml hlt (by omega));clear hll;go_wp2_with fail;refine(K4.out).mono ?_;rintro e w5 h5;have hlo:=HR4.out.lt;rcases hq:iG typ l m r4 with g | ⟨y,r5⟩
     ·obtain⟨rfl,tn,bn⟩:=h5.bM hq;have HB:=hid (dX.mk2 (fP.out.trans tn (fun i hi h=>by rcases h with h | h;exact h;(have:=(hlo _ h).1;omega))) bn);have dG:=hid (fV.out.symm.trans (aB hq));clear h5 tn bn hq;go_wp2_with fail;exact⟨rfl,aF.fail dG.out HB.out⟩
     ·obtain⟨v5,rfl,tn,Iz,kn⟩:=h5.aL hq;have fM:=hid (fP.out.trans tn (fun i hi h=>by rcases h with h | h;exact h;(have:=(hlo _ h).1;omega)));have kW:=hid kn;have Zw:=hid Iz;have gN:Hid (Pr.good (s,y) r5=Q):=hid ((au hq).symm.trans fV.out);clear h5 tn Iz kn hq hlo;go_wp2_with fail
      go_ret2
      exact aF.done gN.out.symm fM.out ⟨_,rfl,Zw.out⟩ kW.out
abbrev nP (k:Int) (t:aD):Array Value:= #[.int .i64 k, .string ⟨#[]⟩, .int .i64 0, .int .i64 t.line, .int .i64 t.col, .slice none 0 0, .slice none 0 0, .slice none 0 0]
theorem nQ (d:Int) (w:World) (bp B:Nat) (ts:List aD) (h:bK w bp B ts d) (k:Int):
  Calls Tryz.prog 103 #[.pointer (some ⟨bp,0,none⟩), .int .i64 k] w fun e w'=>e= .returned (.agg (nP k (aQ ts)))∧Below w.heap.size w w':=by
 have hlt:=h.lt;obtain⟨W,hW⟩:∃W,w.alloc (.cells #[.int .i64 0, .string ⟨#[]⟩, .int .i64 0, .int .i64 0, .int .i64 0, .slice none 0 0, .slice none 0 0, .slice none 0 0] 52)=W:=⟨_,rfl⟩
 have hb0:Below w.heap.size w W:=by rw [←hW];exact new1 _ _
 have hs0:W.heap.size=w.heap.size+1:=by rw [←hW];simp
 have hblk:W.heap[w.heap.size]? =some (.cells #[.int .i64 0, .string ⟨#[]⟩, .int .i64 0, .int .i64 0, .int .i64 0, .slice none 0 0, .slice none 0 0, .slice none 0 0] 52):=by rw [←hW];exact qR _ _
 have hk:=h.below hb0;have HN:=hid (fun(w':World) (hb:Below W.heap.size W w')=>jN w' bp B ts d (hk.below hb));have HW:=hid hW;have HB0:=hid hb0;have oM:=hid hblk;have HD0:Hid (Below W.heap.size W W.drew):=hid ⟨rfl,rfl,rfl,Nat.le_refl _,fun _ _=>rfl⟩;clear h hk hW hb0 hblk;generalize aQ ts=t at*
 have f2:∀w:World,(Instr.field 154 (oG t) 2).run Tryz.prog w= .ok (.int .i64 t.line) w:=fun _=>by kernel_rfl
 have f3:∀w:World,(Instr.field 154 (oG t) 3).run Tryz.prog w= .ok (.int .i64 t.col) w:=fun _=>by kernel_rfl
 go_enter Tryz.func103,Tryz.ntmps103;go_wp2_with fail;rw [HW.out];refine bO (S:=fun w'=>Below W.heap.size W w') (x:=12) (by kernel_rfl) ?_
 try simp only [Act.put,sq]
 refine tx 0 (.int .i64 k) HD0.out ?_;refine tx 1 (.pointer (some ⟨bp,0,none⟩)) HD0.out ?_;refine tx 2 (.pointer (some ⟨bp,0,none⟩)) HD0.out ?_;refine tx 3 (.pointer (some ⟨bp,0,none⟩)) HD0.out ?_;refine tx 6 (.pointer (some ⟨bp,0,none⟩)) HD0.out ?_;refine tx 7 (.pointer (some ⟨bp,0,none⟩)) HD0.out ?_;refine tx 8 (.pointer (some ⟨bp,0,none⟩)) HD0.out ?_;refine ay (rs:=[4]) (by kernel_rfl) (by simp) ?_;refine av.cons rfl (fun K hK=> ?_) (av.nil);go_simp;refine(HN.out _ HD0.out).mono ?_;rintro e w2 ⟨rfl,hb⟩;have HB2:=hid (HD0.out.trans (hb.mono HD0.out.size));clear hb;refine hK.out _ _ HB2.out ?_;clear hK K
 try simp only [Act.put,sq]
 refine tx 5 (.int .i64 t.line) HB2.out ?_;refine ay (rs:=[9]) (by kernel_rfl) (by simp) ?_;refine av.cons rfl (fun K hK=> ?_) (av.nil);go_simp;refine(HN.out _ HB2.out).mono ?_;rintro e w3 ⟨rfl,hb⟩;have HB3:=hid (HB2.out.trans (hb.mono HB2.out.size));clear hb;refine hK.out _ _ HB3.out ?_;clear hK K
 try simp only [Act.put,sq]
 refine tx 10 (.int .i64 t.col) HB3.out ?_;refine tx 11 (.agg (nP k t)) HB3.out ?_;have hR:=HB3.out.block _ (block_lt oM.out) |>.trans oM.out;obtain⟨c0,c1,c2,c3,c4,c5,c6,c7,cz⟩:=aT hR;have HR:=hid hR;clear hR;refine ay (rs:=[12]) (by kernel_rfl) (by simp) ?_;refine av.past rfl (by kernel_rfl) (fun K hK=> ?_) (av.nil);go_simp;refine hK.out _ _ ?_;clear hK K
 try simp only [Act.put,sq]
 refine aM (by kernel_rfl) ?_ _;go_wp2_with fail;refine bodyPost_ret (aS rfl rfl (aV HR.out _ _ _ _ _ _ _ _) Tryz.underlying52 rfl (by kernel_rfl)) rfl ?_;have t1:=(Turn.of_below (F:=fun _=>False) (HB0.out.trans (HB3.out.mono (by omega)))).trans (bB w3 w.heap.size (.int .i64 k) (.string ⟨#[]⟩) (.int .i64 0) (.int .i64 t.line) (.int .i64 t.col) (.slice none 0 0) (.slice none 0 0) (.slice none 0 0)) (fun i hi e=>by omega);exact⟨rfl,t1.below (Nat.le_refl _) (fun _ _=>id)⟩
def wB (q:Pr Unit) (e:Int):Pr Unit:=match q with
 | .good _ ts=> .bad ((aQ ts).line,(aQ ts).col,e)
 | .bad g=> .bad g
theorem Mf {α:Type} (q:Pr Unit) (e:Int):wB q e=oF (aX q (jh (α:=α) e)):=by cases q <;> rfl
theorem lJ {L:List aD} {k:Nat} (hk:k<L.length):aQ (L.drop k)=L[k]:=by
 rw [List.drop_eq_getElem_cons hk];rfl
theorem Pj {L:List aD} {k:Nat} (hk:k<L.length) (h:Wf (L.drop k)) (h0:L[k].kind≠0):k+1<L.length∧Wf (L.drop (k+1)):=by
 rw [List.drop_eq_getElem_cons hk]at h;rcases h.cases with⟨e,he,h1⟩ | ⟨t,r,he, _, _,hr⟩
 ·injection he with he _;rw [←he]at h1;exact absurd h1 h0
 ·injection he with _ he;rw [←he]at hr;refine⟨?_,hr⟩;have:=hr.pos;rw [List.length_drop]at this;omega
theorem qK (w:World) (bp B:Nat) (L:List aD) (d:Int) (q:Pr Unit) (h:eX w bp B L d q) (e0:Int) (h0:e0≠0):
  Calls Tryz.prog 100 #[.pointer (some ⟨bp,0,none⟩), .int .i64 e0] w fun e w'=>e= .returned (.tuple #[])∧Turn (fun j=>j=bp) w w'∧eX w' bp B L d (wB q e0):=by
 have hlt:=h.lt;have hB:=h.1;have hh:=h;obtain⟨b,o,c,k,dd,e,ln,cn,hk,hlc,hc63,Il,hdd,hrel,hblk,t0,t1,t2,t3⟩:=h.open_;obtain⟨p0,p1,p2,p3,p4,p5,pz⟩:=iN hblk;have hki:(k:Int)<L.length:=by omega
 have hbb:¬b=bp:=by omega
 have Pk:¬bp=b:=by omega
 cases q with
 | bad g=>
  obtain⟨rfl,rfl,rfl,hg⟩:=hrel;have hge:(g.2.2==0)=false:=by simp [hg]
  go_enter Tryz.func100,Tryz.ntmps100;go_wp2_with fail;go_end0;exact⟨rfl,Turn.refl _ _,hh⟩
 | good u ts=>
  obtain⟨rfl,hwf,rfl,rfl,rfl,rfl⟩:=hrel;have hne:∀i,w.frozen? ⟨bp,i,none⟩=false:=pz;obtain⟨tk,htk⟩:∃tk,L[k]=tk:=⟨_,rfl⟩
  rw [htk]at t0 t1 t2 t3;have uD:=hid htk;have HH:=hid hh;have oM:=hid hblk;clear htk hh;go_enter Tryz.func100,Tryz.ntmps100;have hw1:=heap_setCell_same _ _ 3 _ _ (.int .i64 e0) hblk;obtain⟨W1,hW1⟩:∃W1,w.setCell ⟨bp,3,none⟩ (.int .i64 e0)=W1:=⟨_,rfl⟩
  have tw:=ak w bp 3 (.int .i64 e0);rw [hW1]at hw1 tw;have HW1:=hid hW1;have HB1:=hid (show W1.heap[bp]? =some (.cells #[.slice (some ⟨b,o,none⟩) L.length c, .int .i64 k, .int .i64 dd, .int .i64 e0, .int .i64 0, .int .i64 0] 159 (0,0))from hw1);have HT1:=hid tw;have u0:=aH t0 tw hbb;have u1:=aH t1 tw hbb;have u2:=aH t2 tw hbb;have u3:=aH t3 tw hbb;obtain⟨q0,q1,q2,q3,q4,q5,qz⟩:=iN (show W1.heap[bp]? =some (.cells #[.slice (some ⟨b,o,none⟩) L.length c, .int .i64 k, .int .i64 dd, .int .i64 e0, .int .i64 0, .int .i64 0] 159 (0,0))from hw1);clear hW1 hw1 tw hblk;go_wp2_with fail;rw [HW1.out];clear p0 p1 p2 p3 p4 p5 pz hne t0 t1 t2 t3;have HS:Hid ((W1.drew).cell? ⟨bp,0,none⟩=some (.slice (some ⟨b,o,none⟩) L.length c)∧(W1.drew).cell? ⟨bp,1,none⟩=some (.int .i64 k)∧(W1.drew).cell? ⟨b,o+k*4+2,none⟩=some (.int .i64 tk.line)):=hid ⟨q0,q1,u2⟩;refine bO (S:=fun w'=>w'.cell? ⟨bp,0,none⟩=some (.slice (some ⟨b,o,none⟩) L.length c)∧w'.cell? ⟨bp,1,none⟩=some (.int .i64 k)∧w'.cell? ⟨b,o+k*4+2,none⟩=some (.int .i64 tk.line)) (x:=14) (by kernel_rfl) ?_
  try simp only [Act.put,sq]
  refine tx 0 (.pointer (some ⟨bp,0,none⟩)) HS.out ?_;refine tx 1 (.pointer (some ⟨bp,0,none⟩)) HS.out ?_;refine tx 2 (.pointer (some ⟨bp,0,none⟩)) HS.out ?_;refine tx 3 (.pointer (some ⟨bp,0,none⟩)) HS.out ?_;refine jq 4 (.slice (some ⟨b,o,none⟩) L.length c) (fun _ h=>h.1) HS.out ?_;refine tx 5 (.pointer (some ⟨bp,0,none⟩)) HS.out ?_;refine tx 6 (.pointer (some ⟨bp,0,none⟩)) HS.out ?_;refine tx 7 (.pointer (some ⟨bp,1,none⟩)) HS.out ?_;refine jq 8 (.int .i64 k) (fun _ h=>h.2.1) HS.out ?_;refine tx 9 (.pointer (some ⟨b,o+k*4,none⟩)) HS.out ?_;refine tx 10 (.pointer (some ⟨b,o+k*4+2,none⟩)) HS.out ?_;refine jq 11 (.int .i64 tk.line) (fun _ h=>h.2.2) HS.out ?_;refine tt 12 (.pointer (some ⟨bp,0,none⟩)) (fun _=>HS.out) ?_;refine tt 13 (.pointer (some ⟨bp,4,none⟩)) (fun _=>HS.out) ?_;refine ay (rs:=[14]) (by kernel_rfl) (by simp) ?_;refine av.past rfl (by kernel_rfl) (fun K hK=> ?_) (av.nil);go_simp;refine hK.out _ _ ?_;clear hK K
  try simp only [Act.put,sq]
  refine aM (by kernel_rfl) ?_ _;obtain⟨W2,hW2⟩:∃W2,(W1.setCell ⟨bp,4,none⟩ (.int .i64 tk.line)).drew=W2:=⟨_,rfl⟩
  have tw:Turn (fun j=>j=bp) W1 W2:=by rw [←hW2];exact(ak W1 bp 4 (.int .i64 tk.line)).trans ⟨rfl,rfl,rfl,Nat.le_refl _,fun _ _ _=>rfl⟩ (fun _ _ h=>h)
  have hw2:W2.heap[bp]? =some (.cells #[.slice (some ⟨b,o,none⟩) L.length c, .int .i64 k, .int .i64 dd, .int .i64 e0, .int .i64 tk.line, .int .i64 0] 159 (0,0)):=by rw [←hW2,show ∀X:World,X.drew.heap=X.heap from fun _=>rfl];exact heap_setCell_same _ _ 4 _ _ _ HB1.out
  rw [hW2];have HB2:=hid hw2;have HT2:=hid (aA HT1.out tw);clear q0 q1 q2 q3 q4 q5 qz;obtain⟨q0,q1,q2,q3,q4,q5,qz⟩:=iN hw2;have v3:=aH u3 tw hbb;clear u0 u1 u2 u3 HS hw2 tw hW2;go_wp2_with fail;have HS:Hid ((W2.drew).cell? ⟨bp,0,none⟩=some (.slice (some ⟨b,o,none⟩) L.length c)∧(W2.drew).cell? ⟨bp,1,none⟩=some (.int .i64 k)∧(W2.drew).cell? ⟨b,o+k*4+3,none⟩=some (.int .i64 tk.col)):=hid ⟨q0,q1,v3⟩;refine bO (S:=fun w'=>w'.cell? ⟨bp,0,none⟩=some (.slice (some ⟨b,o,none⟩) L.length c)∧w'.cell? ⟨bp,1,none⟩=some (.int .i64 k)∧w'.cell? ⟨b,o+k*4+3,none⟩=some (.int .i64 tk.col)) (x:=14) (by kernel_rfl) ?_
  try simp only [Act.put,sq]
  refine tx 0 (.pointer (some ⟨bp,0,none⟩)) HS.out ?_;refine tx 1 (.pointer (some ⟨bp,0,none⟩)) HS.out ?_;refine tx 2 (.pointer (some ⟨bp,0,none⟩)) HS.out ?_;refine tx 3 (.pointer (some ⟨bp,0,none⟩)) HS.out ?_;refine jq 4 (.slice (some ⟨b,o,none⟩) L.length c) (fun _ h=>h.1) HS.out ?_;refine tx 5 (.pointer (some ⟨bp,0,none⟩)) HS.out ?_;refine tx 6 (.pointer (some ⟨bp,0,none⟩)) HS.out ?_;refine tx 7 (.pointer (some ⟨bp,1,none⟩)) HS.out ?_;refine jq 8 (.int .i64 k) (fun _ h=>h.2.1) HS.out ?_;refine tx 9 (.pointer (some ⟨b,o+k*4,none⟩)) HS.out ?_;refine tx 10 (.pointer (some ⟨b,o+k*4+3,none⟩)) HS.out ?_;refine jq 11 (.int .i64 tk.col) (fun _ h=>h.2.2) HS.out ?_;refine tt 12 (.pointer (some ⟨bp,0,none⟩)) (fun _=>HS.out) ?_;refine tt 13 (.pointer (some ⟨bp,5,none⟩)) (fun _=>HS.out) ?_;refine ay (rs:=[14]) (by kernel_rfl) (by simp) ?_;refine av.past rfl (by kernel_rfl) (fun K hK=> ?_) (av.nil);go_simp;refine hK.out _ _ ?_;clear hK K
  try simp only [Act.put,sq]
  refine aM (by kernel_rfl) ?_ _;have tw:Turn (fun j=>j=bp) W2 (W2.setCell ⟨bp,5,none⟩ (.int .i64 tk.col)).drew:=(ak W2 bp 5 (.int .i64 tk.col)).trans ⟨rfl,rfl,rfl,Nat.le_refl _,fun _ _ _=>rfl⟩ (fun _ _ h=>h);have hw3:(W2.setCell ⟨bp,5,none⟩ (.int .i64 tk.col)).drew.heap[bp]? =some (.cells #[.slice (some ⟨b,o,none⟩) L.length c, .int .i64 k, .int .i64 dd, .int .i64 e0, .int .i64 tk.line, .int .i64 tk.col] 159 (0,0)):=by rw [show ∀X:World,X.drew.heap=X.heap from fun _=>rfl];exact heap_setCell_same _ _ 5 _ _ _ HB2.out
  have pF:=aA HT2.out tw;go_wp2_with fail;go_end0;obtain⟨h1,h2,h3,v,k',dd',e',Zx,Zy,h4,h5,h6⟩:=HH.out;rw [oM.out]at h4;injection h4 with h4;injection h4 with h4 _;have h4:=congrArg Array.toList h4;injection h4 with h4 _;subst h4;exact⟨rfl,pF,h1,h2,h3, _,k,dd,e0,tk.line,tk.col,hw3,Sl.below h5 (pF.below (by omega) (fun j hj e=>by omega)),hk,hdd,rfl,by rw [lJ hk,uD.out],by rw [lJ hk,uD.out],h0⟩
theorem J5 {s:Bt} {u:Unit} {ts:List aD}:CY (aX (.good u ts:Pr Unit) (bY s))=jc (aQ ts) s:=by
 show CY (bY s ts)= _;unfold bY;cases jc (aQ ts) s <;> rfl
theorem J6 (w:World) (bp B:Nat) (L:List aD) (d:Int) (q:Pr Unit) (h:eX w bp B L d q) (s:Bt):
  Calls Tryz.prog 156 #[.pointer (some ⟨bp,0,none⟩),sv s] w fun e w'=>e= .returned (.bool (CY (aX q (bY s))))∧Below w.heap.size w w':=by
 have hlt:=h.lt;have hB:=h.1;have hh:=h;obtain⟨b,o,c,k,dd,e,ln,cn,hk,hlc,hc63,Il,hdd,hrel,hblk,t0,t1,t2,t3⟩:=h.open_;obtain⟨p0,p1,p2,p3,p4,p5,pz⟩:=iN hblk;have hki:(k:Int)<L.length:=by omega
 have hbb:¬b=bp:=by omega
 have Pk:¬bp=b:=by omega
 obtain⟨A,hA⟩:∃A,CY (aX q (bY s))=A:=⟨_,rfl⟩
 rw [hA];have HA:=hid hA;clear hA;obtain⟨tk,htk⟩:∃tk,L[k]=tk:=⟨_,rfl⟩
 rw [htk]at t0 t1 t2 t3;have uD:=hid htk;have HH:=hid hh;have oM:=hid hblk;clear htk hh h hblk;go_enter Tryz.func156,Tryz.ntmps156;have HS:Hid ((w.drew).cell? ⟨bp,0,none⟩=some (.slice (some ⟨b,o,none⟩) L.length c)∧(w.drew).cell? ⟨bp,1,none⟩=some (.int .i64 k)∧((w.drew).cell? ⟨b,o+k*4,none⟩=some (.int .i64 tk.kind)∧(w.drew).cell? ⟨b,o+k*4+1,none⟩=some (sv tk.text)∧(w.drew).cell? ⟨b,o+k*4+2,none⟩=some (.int .i64 tk.line)∧(w.drew).cell? ⟨b,o+k*4+3,none⟩=some (.int .i64 tk.col))):=hid ⟨p0,p1,t0,t1,t2,t3⟩;go_wp2_with fail;refine bO (S:=fun w'=>w'.cell? ⟨bp,0,none⟩=some (.slice (some ⟨b,o,none⟩) L.length c)∧w'.cell? ⟨bp,1,none⟩=some (.int .i64 k)∧(w'.cell? ⟨b,o+k*4,none⟩=some (.int .i64 tk.kind)∧w'.cell? ⟨b,o+k*4+1,none⟩=some (sv tk.text)∧w'.cell? ⟨b,o+k*4+2,none⟩=some (.int .i64 tk.line)∧w'.cell? ⟨b,o+k*4+3,none⟩=some (.int .i64 tk.col))) (x:=11) (by kernel_rfl) ?_
 try simp only [Act.put,sq]
 refine tx 0 (.pointer (some ⟨bp,0,none⟩)) HS.out ?_;refine tx 1 (.pointer (some ⟨bp,0,none⟩)) HS.out ?_;refine tx 2 (.pointer (some ⟨bp,0,none⟩)) HS.out ?_;refine jq 3 (.slice (some ⟨b,o,none⟩) L.length c) (fun _ h=>h.1) HS.out ?_;refine tx 4 (.pointer (some ⟨bp,0,none⟩)) HS.out ?_;refine tx 5 (.pointer (some ⟨bp,0,none⟩)) HS.out ?_;refine tx 6 (.pointer (some ⟨bp,1,none⟩)) HS.out ?_;refine jq 7 (.int .i64 k) (fun _ h=>h.2.1) HS.out ?_;refine tx 8 (.pointer (some ⟨b,o+k*4,none⟩)) HS.out ?_;refine jq 9 (.agg #[.int .i64 tk.kind,sv tk.text, .int .i64 tk.line, .int .i64 tk.col]) (fun _ h=>h.2.2) HS.out ?_;refine ay (rs:=[10]) (by kernel_rfl) (by simp) ?_;refine av.cons rfl (fun K hK=> ?_) (av.nil);go_simp;have tz:=Turn.alloc (fun _=>False) w.drew (.cells #[.int .i64 0, .string ⟨#[]⟩, .int .i64 0, .int .i64 0] 154);have hs:=HS.out;have HS2:=hid (⟨aH hs.1 tz id,aH hs.2.1 tz id,aH hs.2.2.1 tz id,aH hs.2.2.2.1 tz id,aH hs.2.2.2.2.1 tz id,aH hs.2.2.2.2.2 tz id⟩: _∧ _∧ _∧ _∧ _∧ _);clear tz hs;refine hK.out _ _ HS2.out ?_;clear hK K
 try simp only [Act.put,sq]
 refine ay (rs:=[11]) (by kernel_rfl) (by simp) ?_;refine av.past rfl (by kernel_rfl) (fun K hK=> ?_) (av.nil);go_simp;refine hK.out _ _ ?_;clear hK K
 try simp only [Act.put,sq]
 refine aM (by kernel_rfl) ?_ _;obtain⟨W1,hW1⟩:∃W1,(w.alloc (.cells #[.int .i64 tk.kind,sv tk.text, .int .i64 tk.line, .int .i64 tk.col] 154)).drew=W1:=⟨_,rfl⟩
 rw [hW1];have hn1:=new1 w (.cells #[.int .i64 tk.kind,sv tk.text, .int .i64 tk.line, .int .i64 tk.col] 154);have hb1:Below w.heap.size w W1:=by rw [←hW1];exact hn1.trans ((aJ _ 1).mono hn1.size)
 have htb:W1.heap[w.heap.size]? =some (.cells #[.int .i64 tk.kind,sv tk.text, .int .i64 tk.line, .int .i64 tk.col] 154):=by rw [←hW1,show ∀X:World,X.drew.heap=X.heap from fun _=>rfl];exact qR w _
 have Rt:=Turn.of_below (F:=fun j=>j=bp) hb1;have hs1:=hb1.size;obtain⟨z0,z1,z2,z3,zz⟩:=aP htb;have hp1:=ah oM.out (Turn.of_below (F:=fun _=>False) hb1) id;clear p0 p1 p2 p3 p4 p5 pz;obtain⟨p0,p1,p2,p3,p4,p5,pz⟩:=iN hp1;have Mg:=hid hp1;have HB1:=hid hb1;have Zz:=hid (HH.out.below hb1);clear hW1 htb Rt HS HS2 t0 t1 t2 t3 hp1 hb1 hn1;cases q with
 | bad g=>
  obtain⟨rfl,rfl,rfl,hg⟩:=hrel;have hge:(g.2.2==0)=false:=by simp [hg]
  obtain rfl:A=false:=HA.out.symm;clear hg;go_wp2_with fail;go_ret;exact⟨rfl,HB1.out⟩
 | good u ts=>
  obtain⟨rfl,hwf,rfl,rfl,rfl,rfl⟩:=hrel;have hA:A=jc tk s:=by rw [←HA.out,J5,lJ hk,uD.out]
  obtain⟨tkk,tkx,tkl,tkc⟩:=tk;simp only at z0 z1 z2 z3;unfold jc at hA;simp only at hA;have Wx:=hid hA;clear hA hwf;cases h2:(tkk==2)
  ·cases h5:(tkk==5)
   ·obtain rfl:A=false:=by rw [Wx.out,h2,h5];rfl
    go_wp2_with fail;go_ret;exact⟨rfl,HB1.out⟩
   ·cases hx:(tkx==s)
    ·obtain rfl:A=false:=by rw [Wx.out,h2,h5,hx];rfl
     go_wp2_with fail;go_ret;exact⟨rfl,HB1.out⟩
    ·obtain rfl:A=true:=by rw [Wx.out,h2,h5,hx];rfl
     go_wp2_with fail;go_ret;exact⟨rfl,HB1.out⟩
  ·cases hx:(tkx==s)
   ·obtain rfl:A=false:=by rw [Wx.out,h2,hx];rfl
    go_wp2_with fail;go_ret;exact⟨rfl,HB1.out⟩
   ·obtain rfl:A=true:=by rw [Wx.out,h2,hx];rfl
    go_wp2_with fail;go_ret;exact⟨rfl,HB1.out⟩
theorem eX.step {w w':World} {bp B:Nat} {L:List aD} {d:Int} {u:Unit} {t:aD} {r:List aD} {b o c k:Nat} (h:eX w bp B L d (.good u (t :: r))) (hkind:t.kind≠0) (hblk:w.heap[bp]? =some (.cells #[(.slice (some ⟨b,o,none⟩) L.length c), .int .i64 k, .int .i64 d, .int .i64 0, .int .i64 0, .int .i64 0] 159 (0,0)))
  (hw:w'.heap[bp]? =some (.cells #[(.slice (some ⟨b,o,none⟩) L.length c), .int .i64 ((k:Int)+1), .int .i64 d, .int .i64 0, .int .i64 0, .int .i64 0] 159 (0,0))) (tn:Turn (fun j=>j=bp) w w'):eX w' bp B L d (.good () r):=by
 have hlt:=h.lt;have hB:=h.1;obtain⟨h1,h2,h3,v,k',dd,e,ln,cn,h4,h5,h6,h7,h8,h9,h10,rfl,rfl,rfl⟩:=h;rw [hblk]at h4;injection h4 with h4;injection h4 with h4 _;have e4:=congrArg (fun a=>a.toList) h4;simp only [List.cons.injEq,Value.int.injEq]at e4;obtain⟨e5,⟨_,e6⟩, _⟩:=e4;obtain rfl:k=k':=by omega
 subst e5;subst h10;have hd:=List.drop_eq_getElem_cons h6;rw [←h8]at hd;injection hd with hd1 hd2;rw [h8]at h9;have hr:=Pj h6 h9 (by rw [←hd1];exact hkind);exact⟨h1,h2,h3, _,k+1,dd,0,0,0,by rw [Int.natCast_add];exact hw,Sl.below h5 (tn.below (by omega) (fun j hj e=>by omega)),hr.1,h7,hd2,by rw [hd2];exact hr.2,rfl,rfl,rfl,rfl⟩
theorem jF (w:World) (bp B:Nat) (L:List aD) (d:Int) (q:Pr Unit) (h:eX w bp B L d q) (s:Bt):
  Calls Tryz.prog 94 #[.pointer (some ⟨bp,0,none⟩),sv s] w fun e w'=>e= .returned (.bool (CY (aX q (bY s))))∧Turn (fun j=>j=bp) w w'∧eX w' bp B L d (oF (aX q (bY s))):=by
 have HC:=hid (J6 w bp B L d q h s);obtain⟨A,hA⟩:∃A,CY (aX q (bY s))=A:=⟨_,rfl⟩
 rw [hA]at HC;rw [hA];have hlt:=h.lt;have hB:=h.1;cases A with
 | false=>
  rw [(fZ hA).1];have HH:=hid h;clear h hA;go_enter Tryz.func94,Tryz.ntmps94;go_wp2_with fail;refine(HC.out).mono ?_;rintro e w1 ⟨rfl,hb1⟩;go_wp2_with fail;go_ret;exact⟨rfl,Turn.of_below hb1,HH.out.below hb1⟩
 | true=>
  obtain⟨t,r,rfl,ht,hs⟩:=iw hA;rw [hs];have hkd:=yI ht;have HH:=hid h;clear h hA hs ht;go_enter Tryz.func94,Tryz.ntmps94;go_wp2_with fail;refine(HC.out).mono ?_;rintro e w1 ⟨rfl,hb1⟩;have h1:=HH.out.below hb1;obtain⟨b,o,c,k,dd,e,ln,cn,hk,hlc,hc63,Il,hdd,⟨hrel,hwf,rfl,rfl,rfl,rfl⟩,hblk,t0,t1,t2,t3⟩:=h1.open_;obtain⟨p0,p1,p2,p3,p4,p5,pz⟩:=iN hblk;have hL:=h1.2.1.1;have hk2:(k:Int)+1≤9223372036854775807:=by omega
  have H1:=hid h1;have HB:=hid hblk;have HT:=hid (Turn.of_below (F:=fun j=>j=bp) hb1);clear h1 t0 t1 t2 t3 hrel hwf hb1 hblk;go_wp2_with fail;go_ret;have tw:=ak w1 bp 1 (.int .i64 ((k:Int)+1));exact⟨rfl,aA HT.out tw,H1.out.step hkd HB.out (heap_setCell_same _ _ 1 _ _ _ HB.out) tw⟩
theorem Mh {q:Pr Unit} {s:Bt} (h:CY (aX q (bY s))=true):oF (aX q (aI s))=oF (aX q (bY s)):=by
 obtain⟨t,r,rfl,ht,hs⟩:=iw h;rw [hs];show oF (aI s (t :: r))= _;unfold aI;rw [au (ou ht r)];rfl
theorem Pm {q:Pr Unit} {s:Bt} (h:CY (aX q (bY s))=false):oF (aX q (aI s))=wB q 7:=by
 obtain⟨_,hn⟩:=fZ h;unfold aI;rw [DT hn];cases q <;> rfl
theorem vJ (w:World) (bp B:Nat) (L:List aD) (d:Int) (q:Pr Unit) (h:eX w bp B L d q) (s:Bt):
  Calls Tryz.prog 96 #[.pointer (some ⟨bp,0,none⟩),sv s] w fun e w'=>e= .returned (.tuple #[])∧Turn (fun j=>j=bp) w w'∧eX w' bp B L d (oF (aX q (aI s))):=by
 have HC:=hid (jF w bp B L d q h s);obtain⟨A,hA⟩:∃A,CY (aX q (bY s))=A:=⟨_,rfl⟩
 rw [hA]at HC;have hlt:=h.lt;cases A with
 | true=>
  rw [Mh hA];clear h hA;go_enter Tryz.func96,Tryz.ntmps96;go_wp2_with fail;refine(HC.out).mono ?_;rintro e w1 ⟨rfl,tn,kn⟩;have HT:=hid tn;have HK:=hid kn;clear tn kn;go_wp2_with fail;go_end0;exact⟨rfl,HT.out,HK.out⟩
 | false=>
  rw [Pm hA];rw [(fZ hA).1]at HC;clear h hA;go_enter Tryz.func96,Tryz.ntmps96;go_wp2_with fail;refine(HC.out).mono ?_;rintro e w1 ⟨rfl,tn,kn⟩;have HT:=hid tn;have HF:=hid (qK w1 bp B L d q kn 7 (by decide));clear tn kn;go_wp2_with fail;refine(HF.out).mono ?_;rintro e w2 ⟨rfl,tn,kn⟩;have HT2:=hid (aA HT.out tn);have HK:=hid kn;clear tn kn;go_wp2_with fail;go_end0;exact⟨rfl,HT2.out,HK.out⟩
theorem Mi {u:Unit} {t:aD} {r:List aD} (h:t.kind=1):aX (.good u (t :: r):Pr Unit) nameP= .good t.text r:=by
 show nameP (t :: r)= _;unfold nameP dw;rw [if_pos (show(aQ (t :: r)).kind=1 from h)];rfl
theorem Pn {q:Pr Unit} (h:∀u ts,q= .good u ts→(aQ ts).kind≠1):oF (aX q nameP)=wB q 7∧∀a ts,aX q nameP= .good a ts→([]:Bt)=a:=by
 cases q with
 | bad g=>exact⟨rfl,fun a ts h=>by cases h⟩
 | good u ts=>
  have hk:=h u ts rfl;have e:nameP ts= .bad ((aQ ts).line,(aQ ts).col,7):=by unfold nameP dw;rw [if_neg hk]
  exact⟨by rw [iq,e];rfl,fun a r h=>by rw [iq,e]at h;cases h⟩
theorem y9 (w:World) (bp B:Nat) (L:List aD) (d:Int) (q:Pr Unit) (h:eX w bp B L d q):
  Calls Tryz.prog 95 #[.pointer (some ⟨bp,0,none⟩)] w (jM Tq bp B L d w (aX q nameP)):=by
 have hlt:=h.lt;have hB:=h.1;have hh:=h;obtain⟨b,o,c,k,dd,e,ln,cn,hk,hlc,hc63,Il,hdd,hrel,hblk,t0,t1,t2,t3⟩:=h.open_;obtain⟨p0,p1,p2,p3,p4,p5,pz⟩:=iN hblk;have hki:(k:Int)<L.length:=by omega
 have hbb:¬b=bp:=by omega
 have Pk:¬bp=b:=by omega
 obtain⟨tk,htk⟩:∃tk,L[k]=tk:=⟨_,rfl⟩
 rw [htk]at t0 t1 t2 t3;have uD:=hid htk;have HH:=hid hh;have oM:=hid hblk;clear htk hh h hblk;have HF:=hid (fun w1 h1=>qK w1 bp B L d q h1 7 (by decide));obtain⟨R,hR⟩:∃R,aX q nameP=R:=⟨_,rfl⟩
 rw [hR];have HR:=hid hR;clear hR;go_enter Tryz.func95,Tryz.ntmps95;have HS:Hid ((w.drew).cell? ⟨bp,0,none⟩=some (.slice (some ⟨b,o,none⟩) L.length c)∧(w.drew).cell? ⟨bp,1,none⟩=some (.int .i64 k)∧((w.drew).cell? ⟨b,o+k*4,none⟩=some (.int .i64 tk.kind)∧(w.drew).cell? ⟨b,o+k*4+1,none⟩=some (sv tk.text)∧(w.drew).cell? ⟨b,o+k*4+2,none⟩=some (.int .i64 tk.line)∧(w.drew).cell? ⟨b,o+k*4+3,none⟩=some (.int .i64 tk.col))):=hid ⟨p0,p1,t0,t1,t2,t3⟩;go_wp2_with fail;refine bO (S:=fun w'=>w'.cell? ⟨bp,0,none⟩=some (.slice (some ⟨b,o,none⟩) L.length c)∧w'.cell? ⟨bp,1,none⟩=some (.int .i64 k)∧(w'.cell? ⟨b,o+k*4,none⟩=some (.int .i64 tk.kind)∧w'.cell? ⟨b,o+k*4+1,none⟩=some (sv tk.text)∧w'.cell? ⟨b,o+k*4+2,none⟩=some (.int .i64 tk.line)∧w'.cell? ⟨b,o+k*4+3,none⟩=some (.int .i64 tk.col))) (x:=11) (by kernel_rfl) ?_
 try simp only [Act.put,sq]
 refine tx 0 (.pointer (some ⟨bp,0,none⟩)) HS.out ?_;refine tx 1 (.pointer (some ⟨bp,0,none⟩)) HS.out ?_;refine tx 2 (.pointer (some ⟨bp,0,none⟩)) HS.out ?_;refine jq 3 (.slice (some ⟨b,o,none⟩) L.length c) (fun _ h=>h.1) HS.out ?_;refine tx 4 (.pointer (some ⟨bp,0,none⟩)) HS.out ?_;refine tx 5 (.pointer (some ⟨bp,0,none⟩)) HS.out ?_;refine tx 6 (.pointer (some ⟨bp,1,none⟩)) HS.out ?_;refine jq 7 (.int .i64 k) (fun _ h=>h.2.1) HS.out ?_;refine tx 8 (.pointer (some ⟨b,o+k*4,none⟩)) HS.out ?_;refine jq 9 (.agg #[.int .i64 tk.kind,sv tk.text, .int .i64 tk.line, .int .i64 tk.col]) (fun _ h=>h.2.2) HS.out ?_;refine ay (rs:=[10]) (by kernel_rfl) (by simp) ?_;refine av.cons rfl (fun K hK=> ?_) (av.nil);go_simp;have tz:=Turn.alloc (fun _=>False) w.drew (.cells #[.int .i64 0, .string ⟨#[]⟩, .int .i64 0, .int .i64 0] 154);have hs:=HS.out;have HS2:=hid (⟨aH hs.1 tz id,aH hs.2.1 tz id,aH hs.2.2.1 tz id,aH hs.2.2.2.1 tz id,aH hs.2.2.2.2.1 tz id,aH hs.2.2.2.2.2 tz id⟩: _∧ _∧ _∧ _∧ _∧ _);clear tz hs;refine hK.out _ _ HS2.out ?_;clear hK K
 try simp only [Act.put,sq]
 refine ay (rs:=[11]) (by kernel_rfl) (by simp) ?_;refine av.past rfl (by kernel_rfl) (fun K hK=> ?_) (av.nil);go_simp;refine hK.out _ _ ?_;clear hK K
 try simp only [Act.put,sq]
 refine aM (by kernel_rfl) ?_ _;obtain⟨W1,hW1⟩:∃W1,(w.alloc (.cells #[.int .i64 tk.kind,sv tk.text, .int .i64 tk.line, .int .i64 tk.col] 154)).drew=W1:=⟨_,rfl⟩
 rw [hW1];have hn1:=new1 w (.cells #[.int .i64 tk.kind,sv tk.text, .int .i64 tk.line, .int .i64 tk.col] 154);have hb1:Below w.heap.size w W1:=by rw [←hW1];exact hn1.trans ((aJ _ 1).mono hn1.size)
 have htb:W1.heap[w.heap.size]? =some (.cells #[.int .i64 tk.kind,sv tk.text, .int .i64 tk.line, .int .i64 tk.col] 154):=by rw [←hW1,show ∀X:World,X.drew.heap=X.heap from fun _=>rfl];exact qR w _
 have Rt:=Turn.of_below (F:=fun j=>j=bp) hb1;have hs1:=hb1.size;obtain⟨z0,z1,z2,z3,zz⟩:=aP htb;have hp1:=ah oM.out (Turn.of_below (F:=fun _=>False) hb1) id;clear p0 p1 p2 p3 p4 p5 pz;obtain⟨p0,p1,p2,p3,p4,p5,pz⟩:=iN hp1;have Mg:=hid hp1;have HB1:=hid hb1;have Zz:=hid (HH.out.below hb1);clear hW1 htb Rt HS HS2 t0 t1 t2 t3 hp1 hb1 hn1;by_cases hyes:e=0∧tk.kind=1
 ·obtain⟨rfl,hk1⟩:=hyes;cases q with
  | bad g=>exact absurd hrel.1.symm hrel.2.2.2
  | good u ts=>
   obtain⟨hts,hwf,rfl, _,rfl,rfl⟩:=hrel;have afb:(tk.kind==1)=true:=by simp [hk1]
   have hL:=Zz.out.2.1.1;have hk2:(k:Int)+1≤9223372036854775807:=by omega
   rw [List.drop_eq_getElem_cons hk,uD.out]at hts;subst hts;have jP:=hid hk1;clear hk1 hwf;go_wp2_with fail;go_ret;have tw:=ak W1 bp 1 (.int .i64 ((k:Int)+1));have hst:=Zz.out.step (by rw [jP.out];decide) Mg.out (heap_setCell_same _ _ 1 _ _ _ Mg.out) tw;have hR:=HR.out;rw [Mi jP.out]at hR;subst hR;exact⟨(Turn.of_below (F:=fun j=>j=bp) HB1.out).trans tw (fun _ _ h=>h), _,tk.text,rfl,rfl,(fun a ts h=>by injection h),hst⟩
 ·have hno:∀u ts,q= .good u ts→(aQ ts).kind≠1:=fun u ts hq hk1=>by
   subst hq;obtain⟨rfl, _, _,rfl, _⟩:=hrel;rw [lJ hk,uD.out]at hk1;exact hyes ⟨rfl,hk1⟩
  obtain⟨n1,n2⟩:=Pn hno;have N1:=hid n1;have N2:=hid n2;have VE:=HF.out W1 Zz.out;have TH:=hid VE;clear n1 n2 hno VE hrel;by_cases he:e=0
  ·subst he;have hk1:(tk.kind==1)=false:=by simp;exact fun h=>hyes ⟨rfl,h⟩
   clear hyes;go_wp2_with fail;refine(TH.out).mono ?_;rintro e9 w2 ⟨rfl,tn,kn⟩;have HT2:=hid ((Turn.of_below (F:=fun j=>j=bp) HB1.out).trans tn (fun _ _ h=>h));have HK:=hid kn;clear tn kn;go_wp2_with fail;go_ret;rw [←HR.out];exact⟨HT2.out, _,[],rfl,rfl,N2.out,by rw [N1.out];exact HK.out⟩
  ·have he0:(e==0)=false:=by simp [he]
   clear hyes he;go_wp2_with fail;refine(TH.out).mono ?_;rintro e9 w2 ⟨rfl,tn,kn⟩;have HT2:=hid ((Turn.of_below (F:=fun j=>j=bp) HB1.out).trans tn (fun _ _ h=>h));have HK:=hid kn;clear tn kn;go_wp2_with fail;go_ret;rw [←HR.out];exact⟨HT2.out, _,[],rfl,rfl,N2.out,by rw [N1.out];exact HK.out⟩
theorem J7 (w:World) (bp B:Nat) (L:List aD) (d:Int) (u:Unit) (ts:List aD) (h:eX w bp B L d (.good u ts)) (h0:0≤d) (h1:d<100):
  Calls Tryz.prog 110 #[.pointer (some ⟨bp,0,none⟩)] w fun e w'=>e= .returned (.bool true)∧Turn (fun j=>j=bp) w w'∧eX w' bp B L (d+1) (.good u ts):=by
 have hlt:=h.lt;have hB:=h.1;have hh:=h;obtain⟨b,o,c,k,dd,e,ln,cn,hk,hlc,hc63,Il,hdd,hrel,hblk,t0,t1,t2,t3⟩:=h.open_;obtain⟨p0,p1,p2,p3,p4,p5,pz⟩:=iN hblk;have hki:(k:Int)<L.length:=by omega
 have hbb:¬b=bp:=by omega
 have Pk:¬bp=b:=by omega
 obtain⟨hts,hwf,rfl,rfl,rfl,rfl⟩:=hrel;have HH:=hid hh;have HB:=hid hblk;have ZA:=hid hts;have ru:=hid hwf;clear hh h hblk hts hwf t0 t1 t2 t3;go_enter Tryz.func110,Tryz.ntmps110;go_wp2_with fail;go_ret;have tw:=ak w bp 2 (.int .i64 (dd+1));obtain⟨g1,g2,g3,v,k',dd',e',Zx,Zy,g4,g5,g6⟩:=HH.out;rw [HB.out]at g4;injection g4 with g4;injection g4 with g4 _;have e4:=congrArg (fun a=>a.toList) g4;simp only [List.cons.injEq,Value.int.injEq]at e4;obtain⟨e5, _⟩:=e4;subst e5;exact⟨rfl,tw,g1,g2,g3, _,k,dd+1,0,0,0,heap_setCell_same _ _ 2 _ _ _ HB.out,Sl.below g5 (tw.below (by omega) (fun j hj e=>by omega)),hk,by unfold In64 at*;omega,ZA.out,ru.out,rfl,rfl,rfl,rfl⟩
def Wy (d:Int) (q:Pr Unit):Prop:=(∃g,q= .bad g)∨d=100
theorem J8 (w:World) (bp B:Nat) (L:List aD) (d:Int) (q:Pr Unit) (h:eX w bp B L d q) (hn:Wy d q):
  Calls Tryz.prog 110 #[.pointer (some ⟨bp,0,none⟩)] w fun e w'=>e= .returned (.bool false)∧Turn (fun j=>j=bp) w w'∧eX w' bp B L d (wB q 6):=by
 have hlt:=h.lt;have hB:=h.1;have hh:=h;obtain⟨b,o,c,k,dd,e,ln,cn,hk,hlc,hc63,Il,hdd,hrel,hblk,t0,t1,t2,t3⟩:=h.open_;obtain⟨p0,p1,p2,p3,p4,p5,pz⟩:=iN hblk;have hki:(k:Int)<L.length:=by omega
 have hbb:¬b=bp:=by omega
 have Pk:¬bp=b:=by omega
 have HF:=hid (qK w bp B L d q h 6 (by decide));clear h t0 t1 t2 t3;have hsome:∃g,wB q 6= .bad g:=by cases q <;> exact⟨_,rfl⟩
 by_cases afc:100≤dd
 ·skip
  go_enter Tryz.func110,Tryz.ntmps110;go_wp2_with fail;refine(HF.out).mono ?_;rintro e1 w1 ⟨rfl,tn,kn⟩;have HT:=hid tn;have HK:=hid kn;obtain⟨g,hg⟩:=hsome;rw [hg]at kn;obtain⟨b',o',c',k',dd',e',Zx,Zy,hk', _, _, _, _,⟨rfl,rfl,rfl,hgn⟩,hblk', _⟩:=kn.open_;obtain⟨y0,y1,y2,y3,y4,y5,yz⟩:=iN hblk';have hge:(g.2.2 != 0)=true:=by simp [hgn]
  clear tn kn hblk' hg hgn;go_wp2_with fail;go_ret;exact⟨rfl,HT.out,HK.out⟩
 ·skip
  have hq:∃g,q= .bad g:=by
   rcases hn with hn | hn
   ·exact hn
   ·cases q with
    | bad g=>exact⟨g,rfl⟩
    | good u ts=>exact absurd hrel.2.2.1 (by omega)
  obtain⟨g,rfl⟩:=hq;obtain⟨rfl,rfl,rfl,hgn⟩:=hrel;have hge:(g.2.2 != 0)=true:=by simp [hgn]
  have HH:=hid hh;clear hgn hsome hn HF hh;go_enter Tryz.func110,Tryz.ntmps110;go_wp2_with fail;go_ret;exact⟨rfl,Turn.refl _ _,HH.out⟩
theorem eX.up {w w':World} {bp B:Nat} {L:List aD} {d:Int} {q:Pr Unit} {v:Value} {k:Nat} {dd e:Int} {ln cn:Nat} (h:eX w bp B L (d+1) q) (h0:0≤d) (h1:d<100) (hblk:w.heap[bp]? =some (.cells #[v, .int .i64 k, .int .i64 dd, .int .i64 e, .int .i64 ln, .int .i64 cn] 159 (0,0)))
  (hw:w'=w.setCell ⟨bp,2,none⟩ (.int .i64 (wrap64 (dd - 1)))):eX w' bp B L d q:=by
 subst hw;have hlt:=h.lt;have hB:=h.1;have tw:=ak w bp 2 (.int .i64 (wrap64 (dd - 1)));obtain⟨g1,g2,g3,v',k',dd',e',Zx,Zy,g4,g5,g6,g7,g8⟩:=h;rw [hblk]at g4;injection g4 with g4;injection g4 with g4 _;have e4:=congrArg (fun a=>a.toList) g4;simp only [List.cons.injEq,Value.int.injEq]at e4;obtain⟨e1,⟨_,e6⟩,⟨_,e2⟩,⟨_,e3⟩,⟨_,e7⟩,⟨_,e8⟩, _⟩:=e4;obtain rfl:k=k':=by omega
 obtain rfl:ln=Zx:=by omega
 obtain rfl:cn=Zy:=by omega
 subst e1 e2 e3;refine⟨g1,g2,g3, _,k,wrap64 (dd - 1),e,ln,cn,heap_setCell_same _ _ 2 _ _ _ hblk,Sl.below g5 (tw.below (by omega) (fun j hj e=>by omega)),g6,by unfold In64 wrap64 at*;omega, ?_⟩;cases q with
 | bad g=>exact g8
 | good u ts=>exact⟨g8.1,g8.2.1,by have:=g8.2.2.1;unfold wrap64;omega,g8.2.2.2⟩
theorem qL {α:Type} {R:World→(Nat→Prop)→List Value→α→Prop} {k:Nat} (hR:mH R k) (hk:0<k) {e:TypeId} {base bp cb ci g:Nat} {F:Nat→Prop} {w w6 w7:World} {v v7:Value} {l:List α} {x:α} {z ys zs:List Value} {n7:Nat}
  (hy:w.ownsRow base e k v l.length ys) (hr:eD (R w (nD F v)) k ys l) (t:Turn (fun j=>j=bp) w w6) (hx:R w6 (fun j=>w.heap.size≤j) z x) (hzs:zs.length=k) (h7:w7.ownsRow base e k v7 n7 (ys++zs)) (hg:w6.grownBy w7 v.ownBlock)
  (hbk:v7.ownBlock=v.ownBlock∨v7.ownBlock=some w6.heap.size) (hv:v7.ownBlock=some g) (hcb:cb<base) (hbp:¬F bp) (hcF:¬F cb) (hF:∀j,w.heap.size≤j→F j) (hbs:base≤w.heap.size) (w8:World)
  (h8:w8=(kr w7 g (l.length*k) z).setCell ⟨cb,ci,none⟩ v7∨w8=kr (w7.setCell ⟨cb,ci,none⟩ v7) g (l.length*k) z):
  fu R k e w8 base F v7 (l++[x])∧Turn (fun j=>v.ownBlock=some j∨j=cb) w6 w8∧Turn (fun j=>j=g∨j=cb) w7 w8∧(∀cs T,w7.heap[cb]? =some (.cells cs T (0,0))→w8.heap[cb]? =some (.cells (cs.setIfInBounds ci v7) T (0,0)))∧(∀j,j<w6.heap.size→v7.ownBlock=some j→v.ownBlock=some j):=by
 have hz:z.length=k:=hR.len hx;have hyl:ys.length=l.length*k:=hy.1;have hs6:=t.size;have iC:=h7.lt g hv;have tg:=Turn.bA hg (F:=fun j=>v.ownBlock=some j) (fun k h=>h);have hkl:=hy.lt;have hgn:∀j,j<w6.heap.size→j=g→v.ownBlock=some j:=fun j hj e=>by
  subst e;rcases hbk with hb | hb
  ·rw [←hb];exact hv
  ·rw [hb]at hv;injection hv with hv;omega
 have tp:=fun(w:World)=>fA g z w (l.length*k);have ts:=fun(w:World)=>ak w cb ci v7;have hgc:g≠cb:=by omega
 have t78:Turn (fun j=>j=g∨j=cb) w7 w8:=by
  rcases h8 with rfl | rfl
  ·exact((tp w7).mono (G:=fun j=>j=g∨j=cb) fun _ _ h=> .inl h).trans (ts _) (fun _ _ h=> .inr h)
  ·exact((ts w7).mono (G:=fun j=>j=g∨j=cb) fun _ _ h=> .inr h).trans (tp _) (fun _ _ h=> .inl h)
 have t68:Turn (fun j=>v.ownBlock=some j∨j=cb) w6 w8:=(tg.mono (G:=fun j=>v.ownBlock=some j∨j=cb) fun _ _ h=> .inl h).trans t78 (fun i hi e=>by
  rcases e with e | e
  ·exact .inl (hgn i hi e)
  ·exact .inr e)
 have hrow:w8.ownsRow base e k v7 n7 (ys++z):=by
  rcases h8 with rfl | rfl
  ·exact dK (xR h7 hv (by omega) hyl) (ts _) (fun k hk e=>by rw [hv]at hk;injection hk with hk;omega)
  ·exact xR (dK h7 (ts _) (fun k hk e=>by rw [hv]at hk;injection hk with hk;omega)) hv (by omega) hyl
 refine⟨fu.push hR hy hr t hx t68 (fun j hj e=> ?_) (hbk.imp id fun e=>⟨_,Nat.le_refl _,e⟩) hrow hk hbp hF,t68,t78,fun cs T hb=> ?_,fun j hj e=>hgn j hj (by rw [hv]at e;injection e with e;omega)⟩
 ·rcases e with e | e
  ·exact .inl e
  ·exact .inr ⟨by rw [e];exact hcF,by omega⟩
 ·rcases h8 with rfl | rfl
  ·exact heap_setCell_same _ _ ci _ _ _ (ah hb (tp _) (by omega))
  ·exact ah (heap_setCell_same _ _ ci _ _ _ hb) (tp _) (by omega)
end Go.Proofs.YtfgjkmipfikooaaGreatDoor
