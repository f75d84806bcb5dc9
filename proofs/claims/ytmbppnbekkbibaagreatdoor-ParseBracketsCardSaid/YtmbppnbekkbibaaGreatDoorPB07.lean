/- FN, FO, FP, FQ -/
import Derived.Test.YtmbppnbekkbibaaGreatDoorPB06
set_option linter.unusedSimpArgs false
set_option linter.unusedVariables false
section
set_option linter.unusedVariables false
namespace Go.Proofs.YtmbppnbekkbibaaGreatDoor
open Go.RowKit
abbrev O4 (base:Nat) (w:World) (v:Value) (l:List bO):Prop:=fF kD 4 63 w base (fun j=>base≤j) v l
theorem Cw {α:Type} {R:World→(Nat→Prop)→List Value→α→Prop} {k:Nat} (hR:qp R k) {w:World} {F:Nat→Prop}:∀ {ys:List Value} {l:List α},bU (R w F) k ys l→∀u∈ys,u.oneCell'=true
 | _, _, .nil=>fun _ h=>by cases h
 | _, _, .cons h1 h2 h3=>fun u hu=>by
  rcases List.mem_append.1 hu with h | h
  ·exact hR.one h2 u h
  ·exact Cw hR h3 u h
theorem Mx {base bp:Nat} {w w6 w9:World} {v v7:Value} {l:List bO} {x:bO} {z:List Value} {o:Obj} {n7:Nat} {ys:List Value} (hy:w.ownsRow base 63 4 v l.length ys) (hr:bU (kD w (oO (fun j=>base≤j) v)) 4 ys l) (t:Turn (fun k=>k=bp) w w6) (hbp:bp<base) (hs:base≤w.heap.size)
  (hx:kD w6 (fun j=>w.heap.size≤j) z x) (hg:(w6.alloc o).grownBy w9 v.ownBlock) (hbk:v7.ownBlock=v.ownBlock∨v7.ownBlock=some (w6.alloc o).heap.size) (h7:w9.ownsRow base 63 4 v7 n7 (ys++z)):O4 base w9 v7 (l++[x])∧Turn (fun j=>v.ownBlock=some j) w6 w9:=by
 have t9:=(Turn.alloc (fun j=>v.ownBlock=some j) w6 o).trans (Turn.bf hg (F:=fun j=>v.ownBlock=some j) (fun _ h=>h)) (fun _ _ h=>h)
 exact⟨fF.push aX (F:=fun j=>base≤j) hy hr t hx t9 (fun j _ h=> .inl h) (hbk.imp id fun e=>⟨_,by simp,e⟩) h7 (by omega) (by omega) (fun j hj=>by omega),t9⟩
theorem MB {base:Nat} {w w9:World} {v v7:Value} {l m:List bO} {ys ms:List Value} {n7:Nat} (hy:w.ownsRow base 63 4 v l.length ys) (hr:bU (kD w (oO (fun j=>base≤j) v)) 4 ys l) (hm:bU (kD w (oO (fun j=>base≤j) v)) 4 ms m)
  (hg:w.grownBy w9 v.ownBlock) (hbk:v7.ownBlock=v.ownBlock∨v7.ownBlock=some w.heap.size) (h7:w9.ownsRow base 63 4 v7 n7 (ys++ms)):O4 base w9 v7 (l++m):=by
 have tg:=Turn.bf hg (F:=fun j=>v.ownBlock=some j) (fun _ h=>h)
 have hnew:∀j,j<w.heap.size→v7.ownBlock=some j→v.ownBlock=some j:=fun j hj e=>by
  rcases hbk with hb | hb
  ·rw [hb]at e;exact e
  ·rw [hb]at e;injection e with e;omega
 have hrow:=bU.app hm hr
 have hn:n7=(l++m).length:=by
  have e1:=h7.1
  have e2:=hrow.len
  omega
 subst hn
 refine⟨_,h7,hrow.imp fun _ _ h=> ?_⟩
 have h3:kD w (fun j=>j<w.heap.size∧oO (fun j=>base≤j) v j) _ _:=h.mono fun j hj h=>⟨hj,h⟩
 exact(h3.turn tg (fun j _ h e=>h.2.1 e)).mono fun j _ h=>⟨fun e=>h.2.1 (hnew j h.1 e),h.2.2⟩
set_option maxRecDepth 100000 in
set_option maxHeartbeats 4000000 in
theorem uq (d:Int) (typ:Ps bO) (qR:sH d typ) (hsf:Sf typ) (w:World) (bp B base:Nat) (ts:List aF) (h:bE w bp B ts d) (v v':Value) (l m:List bO) (ms:List Value) (hv:O4 base w v l) (hm:dh w (fun j=>j≠bp) 4 v' ms) (hmr:bU (kD w (oO (fun j=>base≤j) v)) 4 ms m) (hl:l.length≤4) (hml:m.length≤4) (hbp:bp<base) (hs:base≤w.heap.size):
  Calls Tryz.prog 93 #[.pointer (some ⟨bp,0,none⟩),v,v'] w (eB (O4 base) (fun k=>k=bp∨v.ownBlock=some k) bp B d w (gY typ l m ts)):=by
 have hlt:=h.lt
 have hB:=h.1
 obtain⟨Al,cl,hvl,hcl,hcm⟩:=hv.shape
 subst hvl
 obtain⟨Am,nm,cm,RZ,hlm,hnm,hcm2,hxm⟩:=hm
 have hm:dh w (fun j=>j≠bp) 4 v' ms:=⟨Am,nm,cm,RZ,hlm,hnm,hcm2,hxm⟩
 subst RZ
 have R3:=hmr.len
 obtain⟨Q,hQ⟩:∃Q,gY typ l m ts=Q:=⟨_,rfl⟩
 rw [hQ]
 have HQ:Hid (au (dN [58]) (fun b=>if b then au typ fun t=>aG (l++[t])else aG (l++m)) ts=Q):=hid hQ
 have HH:=hid (iX w bp B ts d h [58])
 have HV:=hid hv
 have HM:=hid hm
 have R4:=hid hmr
 clear h hQ hv hm hmr hxm
 go_enter Tryz.func93,Tryz.ntmps93
 go_wp2_with fail
 refine(HH.out).mono ?_
 rintro e w1 h1
 rcases hq:dN [58] ts with g | ⟨b,r1⟩
 ·obtain⟨rfl,tn,bn⟩:=h1.bF hq
  exact(fP hq).elim
 ·obtain⟨v1,rfl,tn,rfl,kn⟩:=h1.aL hq
  have hq1:=hid hq
  have NJ:=hid (HV.out.turn aX tn (fun g hg e=>by have:=(HV.out.lt g hg).1;omega) (fun g _ hg e=>by omega))
  have UD:=hid (bA aX tn (fun g _ hg e=>by have:=hg.2;omega) R4.out)
  have og:=hid (dh.turn HM.out tn (fun g _ h e=>h e))
  have ZA:=tn.size
  have hs1:=tn.size
  have HT1:=hid (tn)
  have lN:=hid kn
  clear h1 tn kn hq
  cases b
  ·have jU:Hid (Pr.good (l++m) r1=Q):=hid ((aj hq1.out).symm.trans HQ.out)
   obtain⟨ys,hy,hrr⟩:=NJ.out
   have hyl:ys.length=l.length*4:=hy.1
   have HY:=hid hy
   have HRR:=hid hrr
   have ZB:=hid (Cw aX UD.out)
   clear hy hrr
   go_wp2_with (at_builtin;go_must (refine gN rfl (.tmp 16) (.tmp 17) _ rfl base xP _ _ rfl rfl HY.out og.out.all ZB.out (by rw [R3];unfold maxLen;omega) (by rw [R3];omega) (by omega) (fun v9 w9 n9 gu uU lM=> ?_));have sM:=hid gu;have L9:=hid uU;have AP:=hid lM;clear gu uU lM)
   have tg:=Turn.bf L9.out (F:=fun j=>(Value.slice Al l.length cl).ownBlock=some j) (fun _ h=>h)
   have hlo:=NJ.out.lt
   go_ret
   exact eB.done jU.out.symm ((HT1.out.mono (G:=fun k=>k=bp∨(Value.slice Al l.length cl).ownBlock=some k) (fun _ _ h=> .inl h)).trans tg (fun _ _ h=> .inr h)) (MB HY.out HRR.out UD.out L9.out AP.out sM.out) (lN.out.turn tg (fun e=>by have:=(hlo _ e).1;omega) (fun k hk e=>by have:=(hlo _ e).1;omega))
  ·have jU:Hid (au typ (fun t=>aG (l++[t])) r1=Q):=hid ((aj hq1.out).symm.trans HQ.out)
   have zf:=hid (qR w1 bp B r1 lN.out)
   go_wp2_with fail
   refine(zf.out).mono ?_
   rintro e w2 h2
   rcases hq:typ r1 with g | ⟨t2,r2⟩
   ·obtain⟨rfl,tn,bn⟩:=h2.bF hq
    have bY:=hid (jU.out.symm.trans (aB hq))
    have HB:=hid (dI.mk2 (aA HT1.out tn) bn)
    clear h2 tn bn hq
    go_wp2_with fail
    exact⟨rfl,eB.fail bY.out (HB.out.1.mono fun _ _ h=> .inl h) HB.out.2⟩
   ·obtain⟨v2,rfl,tn,⟨z,rfl,hz⟩,kn⟩:=h2.aL hq
    obtain⟨k4,s4,lI,n14,c14,lJ,n24,c24,rfl⟩:=hz.shape'
    have HZ:=hid hz
    have wM:=hid tn
    clear hz
    have hs2:=tn.size
    have HT2:=hid (aA HT1.out tn)
    have jV:=hid kn
    have jU:Hid (aG (l++[t2]) r2=Q):=hid ((aj hq).symm.trans jU.out)
    clear h2 tn kn hq
    have Vw:Hid (Pr.good (l++[t2]) r2=Q):=jU
    obtain⟨ys,hy,hrr⟩:=NJ.out
    have hyl:ys.length=l.length*4:=hy.1
    have RY:=bT hy wM.out (fun g hg e=>by have:=(hy.lt g hg).1;omega)
    have HY:=hid hy
    have HRR:=hid hrr
    have Vu:=hid RY
    clear hy hrr RY
    go_wp2_with (at_builtin;go_must (refine gN rfl (.tmp 11) (.tmp 14) _ rfl base xP _ _ rfl rfl (Vu.out.alloc (.cells #[.int .i64 k4,sv s4, .slice lI n14 c14, .slice lJ n24 c24] 63)) (fD w2 #[.int .i64 k4,sv s4, .slice lI n14 c14, .slice lJ n24 c24] 63 4 1 rfl (by decide)) (FZ k4 s4 _ _ _ _ _ _) (by simp [maxLen];omega) (by simp;omega) (by simp;omega) (fun v9 w9 n9 gu uU lM=> ?_));have sM:=hid gu;have L9:=hid uU;have AP:=hid lM;clear gu uU lM)
    obtain⟨hrow,t9⟩:=Mx HY.out HRR.out wM.out hbp (by omega) HZ.out L9.out AP.out sM.out
    have hlo:=NJ.out.lt
    go_ret
    exact eB.done Vw.out.symm ((HT2.out.mono (G:=fun k=>k=bp∨(Value.slice Al l.length cl).ownBlock=some k) (fun _ _ h=> .inl h)).trans t9 (fun _ _ h=> .inr h)) hrow (jV.out.turn t9 (fun e=>by have:=(hlo _ e).1;omega) (fun k hk e=>by have:=(hlo _ e).1;omega))
theorem Ih {typ:Ps bO} {a:bO} {ts r:List aF} {y:List bO} (h:gY typ [] [a] ts= .good y r):y.length=1:=by
 unfold gY at h
 rcases hq:dN [58] ts with g | ⟨b,r1⟩
 ·exact(fP hq).elim
 rw [aj hq]at h
 cases b
 ·injection h with h _;rw [←h];rfl
 ·rcases hq2:typ r1 with g | ⟨t,r2⟩
  ·rw [if_pos rfl,aB hq2]at h;cases h
  ·rw [if_pos rfl,aj hq2]at h;injection h with h _;rw [←h];rfl
def R5 (base:Nat) (w:World) (v:Value) (x:Bt ×List bO):Prop:=∃u,v= .tuple #[sv x.1,u]∧O4 base w u x.2
set_option maxRecDepth 100000 in
set_option maxHeartbeats 4000000 in
theorem Cx (d:Int) (typ:Ps bO) (qR:sH d typ) (hsf:Sf typ) (w:World) (bp B:Nat) (ts:List aF) (h:bE w bp B ts d) (v':Value) (m:List bO) (ms:List Value) (hm:dh w (fun j=>j≠bp) 4 v' ms) (hmr:∀w F,bU (kD w F) 4 ms m) (hml:m.length≤4):
  Calls Tryz.prog 95 #[.pointer (some ⟨bp,0,none⟩),v'] w (aD (R5 w.heap.size) bp B d w (jE typ m ts)):=by
 have hlt:=h.lt
 have hB:=h.1
 obtain⟨Am,nm,cm,RZ,hlm,hnm,hcm2,hxm⟩:=hm
 have hm:dh w (fun j=>j≠bp) 4 v' ms:=⟨Am,nm,cm,RZ,hlm,hnm,hcm2,hxm⟩
 subst RZ
 obtain⟨Q,hQ⟩:∃Q,jE typ m ts=Q:=⟨_,rfl⟩
 rw [hQ]
 have HQ:Hid (au (aH [40]) (fun _=>au nameP fun s=>au (gY typ [] [lK]) fun l=>au (aH [41]) fun _=>au (gY typ l m) fun m=>aG (s,m)) ts=Q):=hid hQ
 have HN:=hid (dM w bp B ts d h [40] 9 w.heap.size)
 have HM:=hid hm
 clear h hQ hm hxm
 go_enter Tryz.func95,Tryz.ntmps95
 go_wp2_with fail
 refine(HN.out).mono ?_
 rintro e w1 h1
 rcases hq:aH [40] ts with g | ⟨u,r1⟩
 ·obtain⟨rfl,tn,bn⟩:=h1.bF hq
  have HB:=hid (dI.mk2 (tn) bn)
  have bY:=hid (HQ.out.symm.trans (aB hq))
  clear h1 tn bn hq
  go_wp2_with fail
  exact⟨rfl,aD.fail bY.out HB.out⟩
 ·obtain⟨v1,rfl,tn, -,kn⟩:=h1.aL hq
  have UD:=hid (dh.turn HM.out tn (fun g _ h e=>h e))
  have hs1:=tn.size
  have HT1:=hid (tn)
  have lN:=hid kn
  have kF:Hid ((au nameP fun s=>au (gY typ [] [lK]) fun l=>au (aH [41]) fun _=>au (gY typ l m) fun m=>aG (s,m)) r1=Q):=hid ((aj hq).symm.trans HQ.out)
  clear h1 tn kn hq
  have OO:=hid (eH w1 bp B r1 d lN.out)
  go_wp2_with fail
  refine(OO.out).mono ?_
  rintro e w2 h2
  rcases hq:nameP r1 with g | ⟨s,r2⟩
  ·obtain⟨rfl,tn,bn⟩:=h2.bF hq
   have HB:=hid (dI.mk2 (aA HT1.out tn) bn)
   have bY:=hid (kF.out.symm.trans (aB hq))
   clear h2 tn bn hq
   go_wp2_with fail
   exact⟨rfl,aD.fail bY.out HB.out⟩
  ·obtain⟨v2,rfl,tn,rfl,kn⟩:=h2.aL hq
   have JD:=hid (dh.turn UD.out tn (fun g _ h e=>h e))
   have hs2:=tn.size
   have HT2:=hid (aA HT1.out tn)
   have jV:=hid kn
   have jU:Hid ((au (gY typ [] [lK]) fun l=>au (aH [41]) fun _=>au (gY typ l m) fun m=>aG (s,m)) r2=Q):=hid ((aj hq).symm.trans kF.out)
   clear h2 tn kn hq
   have AQ:=hid (uq d typ qR hsf (w2.alloc (.cells #[.int .i64 0, .string ⟨#[]⟩, .slice none 0 0, .slice none 0 0] 63)) bp B w.heap.size r2 (jV.out.below (new1 _ _)) (.slice none 0 0) (.slice (some ⟨w2.heap.size,0,none⟩) 1 1) [] [lK] [.int .i64 0, .string ⟨#[]⟩, .slice none 0 0, .slice none 0 0] (fF.nil _ _ _ _ _ _) ((iA w2 #[.int .i64 0, .string ⟨#[]⟩, .slice none 0 0, .slice none 0 0] 63 4 1 rfl (by decide)).mono (fun g _ h e=>by omega)) (uV rfl (mR _ _ 0 [])) (by simp) (by simp) hlt (by simp;omega))
   go_wp2_with fail
   refine(AQ.out).mono ?_
   rintro e w3 h3
   rcases hq:gY typ [] [lK] r2 with g | ⟨l,r3⟩
   ·obtain⟨rfl,tn,bn⟩:=h3.bF hq
    have tn:=(bq (tn.mono (G:=fun k=>k=bp) (fun k _ h=>by rcases h with h | h;exact h;cases h))).1
    have HB:=hid (dI.mk2 (aA HT2.out tn) bn)
    have bY:=hid (jU.out.symm.trans (aB hq))
    clear h3 tn bn hq
    go_wp2_with fail
    exact⟨rfl,aD.fail bY.out HB.out⟩
   ·obtain⟨v3,rfl,tn,hr3,kn⟩:=h3.aL hq
    obtain⟨tm,hs3, _⟩:=bq (tn.mono (G:=fun k=>k=bp) (fun k _ h=>by rcases h with h | h;exact h;cases h))
    obtain⟨A3,c3,hv3,hc3,UE⟩:=hr3.shape
    subst hv3
    have HT3:=hid (aA HT2.out tm)
    have jm:=hid kn
    have HR3:=hid hr3
    have Vx:=hid (dh.turn JD.out tm (fun g _ h e=>h e))
    have OD:=hid (Ih hq)
    have gU:Hid (au (aH [41]) (fun _=>au (gY typ l m) fun m=>aG (s,m)) r3=Q):=hid ((aj hq).symm.trans jU.out)
    have NK:=hid (dM w3 bp B r3 d kn [41] 9 w3.heap.size)
    clear h3 tn tm hr3 kn hq
    go_wp2_with fail
    refine(NK.out).mono ?_
    rintro e w4 h4
    rcases hq:aH [41] r3 with g | ⟨u,r4⟩
    ·obtain⟨rfl,tn,bn⟩:=h4.bF hq
     have HB:=hid (dI.mk2 (aA HT3.out tn) bn)
     have bY:=hid (gU.out.symm.trans (aB hq))
     clear h4 tn bn hq
     go_wp2_with fail
     exact⟨rfl,aD.fail bY.out HB.out⟩
    ·obtain⟨v4,rfl,tn, -,kn⟩:=h4.aL hq
     have ZC:=hid (dh.turn Vx.out tn (fun g _ h e=>h e))
     have HR4:=hid (HR3.out.turn aX tn (fun g hg e=>by have:=(HR3.out.lt g hg).1;omega) (fun g _ hg e=>by omega))
     have hs4:=tn.size
     have fM:=hid (aA HT3.out tn)
     have jB:=hid kn
     have fu:Hid ((au (gY typ l m) fun m=>aG (s,m)) r4=Q):=hid ((aj hq).symm.trans gU.out)
     clear h4 tn kn hq
     have hll:=OD.out
     have Ji:=hid (uq d typ qR hsf w4 bp B w.heap.size r4 jB.out (.slice A3 l.length c3) (.slice Am nm cm) l m ms HR4.out ZC.out (hmr _ _) (by omega) hml hlt (by omega))
     clear hll
     go_wp2_with fail
     refine(Ji.out).mono ?_
     rintro e w5 h5
     have hlo:=HR4.out.lt
     rcases hq:gY typ l m r4 with g | ⟨y,r5⟩
     ·obtain⟨rfl,tn,bn⟩:=h5.bF hq
      have HB:=hid (dI.mk2 (fM.out.trans tn (fun i hi h=>by rcases h with h | h;exact h;(have:=(hlo _ h).1;omega))) bn)
      have bY:=hid (fu.out.symm.trans (aB hq))
      clear h5 tn bn hq
      go_wp2_with fail
      exact⟨rfl,aD.fail bY.out HB.out⟩
     ·obtain⟨v5,rfl,tn,F8,kn⟩:=h5.aL hq
      have fI:=hid (fM.out.trans tn (fun i hi h=>by rcases h with h | h;exact h;(have:=(hlo _ h).1;omega)))
      have lQ:=hid kn
      have UF:=hid F8
      have gK:Hid (Pr.good (s,y) r5=Q):=hid ((aj hq).symm.trans fu.out)
      clear h5 tn F8 kn hq hlo
      go_wp2_with fail
      go_ret2
      exact aD.done gK.out.symm fI.out ⟨_,rfl,UF.out⟩ lQ.out
abbrev mW (k:Int) (t:aF):Array Value:= #[.int .i64 k, .string ⟨#[]⟩, .int .i64 0, .int .i64 (t.line:Nat), .int .i64 (t.col:Nat), .slice none 0 0, .slice none 0 0, .slice none 0 0]
set_option maxRecDepth 100000 in
set_option maxHeartbeats 4000000 in
theorem mX (d:Int) (w:World) (bp B:Nat) (ts:List aF) (h:bE w bp B ts d) (k:Int):
  Calls Tryz.prog 89 #[.pointer (some ⟨bp,0,none⟩), .int .i64 k] w fun e w'=>e= .returned (.agg (mW k (aU ts)))∧Below w.heap.size w w':=by
 have hlt:=h.lt
 obtain⟨W,hW⟩:∃W,w.alloc (.cells #[.int .i64 0, .string ⟨#[]⟩, .int .i64 0, .int .i64 0, .int .i64 0, .slice none 0 0, .slice none 0 0, .slice none 0 0] 49)=W:=⟨_,rfl⟩
 have hb0:Below w.heap.size w W:=by rw [←hW];exact new1 _ _
 have hs0:W.heap.size=w.heap.size+1:=by rw [←hW];simp
 have hblk:W.heap[w.heap.size]? =some (.cells #[.int .i64 0, .string ⟨#[]⟩, .int .i64 0, .int .i64 0, .int .i64 0, .slice none 0 0, .slice none 0 0, .slice none 0 0] 49):=by rw [←hW];exact yT _ _
 have hk:=h.below hb0
 have HN:=hid (fun(w':World) (hb:Below W.heap.size W w')=>jq w' bp B ts d (hk.below hb))
 have HW:=hid hW
 have HB0:=hid hb0
 have uw:=hid hblk
 have HD0:Hid (Below W.heap.size W W.drew):=hid ⟨rfl,rfl,rfl,Nat.le_refl _,fun _ _=>rfl⟩
 clear h hk hW hb0 hblk
 generalize aU ts=t at*
 have f2:∀w:World,(Instr.field 70 (nL t) 2).run Tryz.prog w= .ok (.int .i64 (t.line:Nat)) w:=fun _=>by kernel_rfl
 have f3:∀w:World,(Instr.field 70 (nL t) 3).run Tryz.prog w= .ok (.int .i64 (t.col:Nat)) w:=fun _=>by kernel_rfl
 go_enter Tryz.func89,Tryz.ntmps89
 go_wp2_with fail
 rw [HW.out]
 refine bM (S:=fun w'=>Below W.heap.size W w') (x:=12) (by kernel_rfl) ?_
 try simp only [Act.put,List.getElem_toArray,List.getElem_cons_zero,List.getElem_cons_succ,List.setIfInBounds_toArray,List.set_cons_zero,List.set_cons_succ]
 refine tx 0 (.int .i64 k) HD0.out ?_
 refine tx 1 (.pointer (some ⟨bp,0,none⟩)) HD0.out ?_
 refine tx 2 (.pointer (some ⟨bp,0,none⟩)) HD0.out ?_
 refine tx 3 (.pointer (some ⟨bp,0,none⟩)) HD0.out ?_
 refine tx 6 (.pointer (some ⟨bp,0,none⟩)) HD0.out ?_
 refine tx 7 (.pointer (some ⟨bp,0,none⟩)) HD0.out ?_
 refine tx 8 (.pointer (some ⟨bp,0,none⟩)) HD0.out ?_
 refine ay (rs:=[4]) (by kernel_rfl) (by simp) ?_
 refine av.cons rfl (fun K hK=> ?_) (av.nil)
 go_simp
 refine(HN.out _ HD0.out).mono ?_
 rintro e w2 ⟨rfl,hb⟩
 have HB2:=hid (HD0.out.trans (hb.mono HD0.out.size))
 clear hb
 refine hK.out _ _ HB2.out ?_
 clear hK K
 try simp only [Act.put,List.getElem_toArray,List.getElem_cons_zero,List.getElem_cons_succ,List.setIfInBounds_toArray,List.set_cons_zero,List.set_cons_succ]
 refine tx 5 (.int .i64 (t.line:Nat)) HB2.out ?_
 refine ay (rs:=[9]) (by kernel_rfl) (by simp) ?_
 refine av.cons rfl (fun K hK=> ?_) (av.nil)
 go_simp
 refine(HN.out _ HB2.out).mono ?_
 rintro e w3 ⟨rfl,hb⟩
 have HB3:=hid (HB2.out.trans (hb.mono HB2.out.size))
 clear hb
 refine hK.out _ _ HB3.out ?_
 clear hK K
 try simp only [Act.put,List.getElem_toArray,List.getElem_cons_zero,List.getElem_cons_succ,List.setIfInBounds_toArray,List.set_cons_zero,List.set_cons_succ]
 refine tx 10 (.int .i64 (t.col:Nat)) HB3.out ?_
 refine tx 11 (.agg (mW k t)) HB3.out ?_
 have hR:=HB3.out.block _ (block_lt uw.out) |>.trans uw.out
 obtain⟨c0,c1,c2,c3,c4,c5,c6,c7,cz⟩:=aN hR
 have HR:=hid hR
 clear hR
 refine ay (rs:=[12]) (by kernel_rfl) (by simp) ?_
 refine av.past rfl (by kernel_rfl) (fun K hK=> ?_) (av.nil)
 go_simp
 refine hK.out _ _ ?_
 clear hK K
 try simp only [Act.put,List.getElem_toArray,List.getElem_cons_zero,List.getElem_cons_succ,List.setIfInBounds_toArray,List.set_cons_zero,List.set_cons_succ]
 refine aO (by kernel_rfl) ?_ _
 go_wp2_with fail
 refine bodyPost_ret (aW rfl rfl (aP HR.out _ _ _ _ _ _ _ _) Tryz.underlying49 rfl (by kernel_rfl)) rfl ?_
 have t1:=(Turn.of_below (F:=fun _=>False) (HB0.out.trans (HB3.out.mono (by omega)))).trans (aY w3 w.heap.size (.int .i64 k) (.string ⟨#[]⟩) (.int .i64 0) (.int .i64 (t.line:Nat)) (.int .i64 (t.col:Nat)) (.slice none 0 0) (.slice none 0 0) (.slice none 0 0)) (fun i hi e=>by omega)
 exact⟨rfl,t1.below (Nat.le_refl _) (fun _ _=>id)⟩
end Go.Proofs.YtmbppnbekkbibaaGreatDoor
end
section
set_option linter.unusedVariables false
namespace Go.Proofs.YtmbppnbekkbibaaGreatDoor
open Go.RowKit
theorem pV {α:Type} {R:World→(Nat→Prop)→List Value→α→Prop} {k:Nat} (hR:qp R k) (hk:0<k) {e:TypeId} {base bp cb ci g:Nat} {F:Nat→Prop} {w w6 w7:World} {v v7:Value} {l:List α} {x:α} {z ys zs:List Value} {n7:Nat}
  (hy:w.ownsRow base e k v l.length ys) (hr:bU (R w (oO F v)) k ys l) (t:Turn (fun j=>j=bp) w w6) (hx:R w6 (fun j=>w.heap.size≤j) z x) (hzs:zs.length=k) (h7:w7.ownsRow base e k v7 n7 (ys++zs)) (hg:w6.grownBy w7 v.ownBlock)
  (hbk:v7.ownBlock=v.ownBlock∨v7.ownBlock=some w6.heap.size) (hv:v7.ownBlock=some g) (hcb:cb<base) (hbp:¬F bp) (ZE:¬F cb) (hF:∀j,w.heap.size≤j→F j) (hbs:base≤w.heap.size) (w8:World)
  (h8:w8=(jK w7 g (l.length*k) z).setCell ⟨cb,ci,none⟩ v7∨w8=jK (w7.setCell ⟨cb,ci,none⟩ v7) g (l.length*k) z):
  fF R k e w8 base F v7 (l++[x])∧Turn (fun j=>v.ownBlock=some j∨j=cb) w6 w8∧Turn (fun j=>j=g∨j=cb) w7 w8∧(∀cs T,w7.heap[cb]? =some (.cells cs T (0,0))→w8.heap[cb]? =some (.cells (cs.setIfInBounds ci v7) T (0,0)))∧(∀j,j<w6.heap.size→v7.ownBlock=some j→v.ownBlock=some j):=by
 have hz:z.length=k:=hR.len hx
 have hyl:ys.length=l.length*k:=hy.1
 have hs6:=t.size
 have fV:=h7.lt g hv
 have tg:=Turn.bf hg (F:=fun j=>v.ownBlock=some j) (fun k h=>h)
 have hkl:=hy.lt
 have hgn:∀j,j<w6.heap.size→j=g→v.ownBlock=some j:=fun j hj e=>by
  subst e
  rcases hbk with hb | hb
  ·rw [←hb];exact hv
  ·rw [hb]at hv;injection hv with hv;omega
 have tp:=fun(w:World)=>dY g z w (l.length*k)
 have ts:=fun(w:World)=>ak w cb ci v7
 have hgc:g≠cb:=by omega
 have t78:Turn (fun j=>j=g∨j=cb) w7 w8:=by
  rcases h8 with rfl | rfl
  ·exact((tp w7).mono (G:=fun j=>j=g∨j=cb) fun _ _ h=> .inl h).trans (ts _) (fun _ _ h=> .inr h)
  ·exact((ts w7).mono (G:=fun j=>j=g∨j=cb) fun _ _ h=> .inr h).trans (tp _) (fun _ _ h=> .inl h)
 have t68:Turn (fun j=>v.ownBlock=some j∨j=cb) w6 w8:=(tg.mono (G:=fun j=>v.ownBlock=some j∨j=cb) fun _ _ h=> .inl h).trans t78 (fun i hi e=>by
  rcases e with e | e
  ·exact .inl (hgn i hi e)
  ·exact .inr e)
 have hrow:w8.ownsRow base e k v7 n7 (ys++z):=by
  rcases h8 with rfl | rfl
  ·exact bT (wJ h7 hv (by omega) hyl) (ts _) (fun k hk e=>by rw [hv]at hk;injection hk with hk;omega)
  ·exact wJ (bT h7 (ts _) (fun k hk e=>by rw [hv]at hk;injection hk with hk;omega)) hv (by omega) hyl
 refine⟨fF.push hR hy hr t hx t68 (fun j hj e=> ?_) (hbk.imp id fun e=>⟨_,Nat.le_refl _,e⟩) hrow hk hbp hF,t68,t78,fun cs T hb=> ?_,fun j hj e=>hgn j hj (by rw [hv]at e;injection e with e;omega)⟩
 ·rcases e with e | e
  ·exact .inl e
  ·exact .inr ⟨by rw [e];exact ZE,by omega⟩
 ·rcases h8 with rfl | rfl
  ·exact heap_setCell_same _ _ ci _ _ _ (ah hb (tp _) (by omega))
  ·exact ah (heap_setCell_same _ _ ci _ _ _ hb) (tp _) (by omega)
end Go.Proofs.YtmbppnbekkbibaaGreatDoor
end
section
set_option linter.unusedVariables false
namespace Go.Proofs.YtmbppnbekkbibaaGreatDoor
open Go.RowKit
def sN (d:Int) (expr:Ps bD):Prop:=∀(w:World) (bp B:Nat) (ts:List aF),bE w bp B ts d→
 Calls Tryz.prog 49 #[.pointer (some ⟨bp,0,none⟩)] w (aD (JX w.heap.size) bp B d w (expr ts))
abbrev O5 (base:Nat) (F:Nat→Prop) (w:World) (v:Value) (l:List bD):Prop:=fF jG 8 49 w base F v l
def MC (nb base:Nat) (F:Nat→Prop) (a0 a1 a2 a3 a4 a5 a6:Value) (w:World) (l:List bD):Prop:=
 ∃v,w.heap[nb]? =some (.cells #[a0,a1,a2,a3,a4,a5,a6,v] 49 (0,0))∧O5 base F w v l
theorem MC.turn {nb base bp:Nat} {F:Nat→Prop} {a0 a1 a2 a3 a4 a5 a6:Value} {w w':World} {l:List bD} (h:MC nb base F a0 a1 a2 a3 a4 a5 a6 w l) (t:Turn (fun k=>k=bp) w w') (h1:nb≠bp) (h2:bp<base) (h3:¬F bp):MC nb base F a0 a1 a2 a3 a4 a5 a6 w' l:=by
 obtain⟨v,hb,hr⟩:=h
 exact⟨v,ah hb t h1,hr.turn aT t (fun g hg e=>by have:=(hr.lt g hg).1;omega) (fun g _ hg e=>h3 (e▸hg))⟩
theorem qX (expr:Ps bD) (s:Bt) (r:List Bt) (l:List bD):bJ expr (s :: r) l=au (if s=[]then aG ()else aH s) fun _=>au expr fun x=>bJ expr r (l++[x]):=rfl
set_option maxRecDepth 100000 in
set_option maxHeartbeats 8000000 in
theorem iU (d:Int) (expr:Ps bD) (yU:sN d expr) (w:World) (bp B nb base:Nat) (F:Nat→Prop) (ts:List aF) (h:bE w bp B ts d) (a0 a1 a2 a3 a4 a5 a6 v:Value) (l:List bD) (hblk:w.heap[nb]? =some (.cells #[a0,a1,a2,a3,a4,a5,a6,v] 49 (0,0))) (hrow:O5 base F w v l)
  (va:Value) (a:List Bt) (ha:dh w (fun j=>j≠bp∧j≠nb∧v.ownBlock≠some j) 1 va (nC a)) (hal:a.length≤3) (hl:l.length≤8900) (hbp:bp<nb) (hnb:nb<base) (hbs:base≤w.heap.size) (Kc:¬F bp) (ME:¬F nb) (hFn:∀j,w.heap.size≤j→F j):
  Calls Tryz.prog 94 #[.pointer (some ⟨bp,0,none⟩), .pointer (some ⟨nb,0,none⟩),va] w (dw (MC nb base F a0 a1 a2 a3 a4 a5 a6) (fun k=>k=bp∨k=nb∨v.ownBlock=some k) bp B d w (bJ expr a l ts)):=by
 have hlt:=h.lt
 have hB:=h.1
 obtain⟨A,na,ca,hva,hla,hna,hca,hxa⟩:=ha
 have hna':na=a.length:=by rw [dS]at hla;omega
 subst hna'
 have hx:0<a.length→∃b off,A=some ⟨b,off,none⟩∧(b≠bp∧b≠nb∧v.ownBlock≠some b)∧b<w.heap.size∧∀(j:Nat) (s:Bt),a[j]? =some s→w.cell? ⟨b,off+j,none⟩=some (sv s):=fun h0=>by
  obtain⟨b,o,h1,h2,h3,h4⟩:=hxa h0
  refine⟨b,o,h1,h2,h3,fun j s hj=>h4 j _ ?_⟩
  obtain⟨hj1,rfl⟩:=List.getElem?_eq_some_iff.1 hj
  exact wE a j hj1
 have HX:=hid hx
 subst hva
 obtain⟨Q,hQ⟩:∃Q,bJ expr a l ts=Q:=⟨_,rfl⟩
 rw [hQ]
 have HQ:=hid hQ
 have H0:=hid h
 have Vy:=hid hblk
 have HRW:=hid hrow
 clear h hQ hblk hrow hx hxa hla
 obtain⟨m,hm⟩:∃m,a.length=m:=⟨_,rfl⟩
 rw [hm]at hna HX hal
 rw [hm]
 have HM:=hid hm
 clear hm
 go_enter Tryz.func94,Tryz.ntmps94
 go_wp2_with fail
 go_loopw [10] (fun v10 wr=>∃(k:Nat) (lk:List bD) (r:List aF),v10= .int .i64 k∧k≤m∧bJ expr (a.drop k) lk r=Q∧lk.length=l.length+k∧Turn (fun j=>j=bp∨j=nb∨v.ownBlock=some j) w wr∧(∃vk,wr.heap[nb]? =some (.cells #[a0,a1,a2,a3,a4,a5,a6,vk] 49 (0,0))∧O5 base F wr vk lk∧∀i,i<w.heap.size→vk.ownBlock=some i→v.ownBlock=some i)∧bE wr bp B r d) (fun v10 _=>m - (intOf v10).toNat)
 case atStart=>exact⟨0,l,ts,rfl,by omega,HQ.out,by omega,Turn.refl _ _,⟨v,Vy.out,HRW.out,fun _ _ h=>h⟩,H0.out⟩
 case round=>
  obtain⟨k,lk,r,rfl,hk,hinv,hlk,htr,hki,hkr⟩:=hrel
  have J6:=hid htr
  by_cases hlt2:k<m
  ·have hlt3:k<a.length:=by rw [HM.out];exact hlt2
   obtain⟨b,o,rfl,hb,hbw,hcell⟩:=HX.out (by omega)
   obtain⟨s,hs⟩:∃s,a[k]? =some s:=⟨_,List.getElem?_eq_getElem hlt3⟩
   have Q0:=hcell k s hs
   have d0:=aI Q0 htr (fun e=>by rcases e with e | e | e;exact hb.1 e;exact hb.2.1 e;exact hb.2.2 e)
   obtain⟨hj1,hj2⟩:=List.getElem?_eq_some_iff.1 hs
   have hd:a.drop k=s :: a.drop (k+1):=by rw [←hj2];exact List.drop_eq_getElem_cons hlt3
   rw [hd,qX]at hinv
   have HI:=hid hinv
   have NM:=hid hki
   have Ra:=hid hkr
   have hsr:=htr.size
   have Ma:=hid hlk
   clear hs hj1 hj2 hd hinv htr Q0 hki hkr hlt3 hcell hlk
   by_cases hs0:s=[]
   ·subst hs0
    have HI2:Hid (au expr (fun x=>bJ expr (a.drop (k+1)) (lk++[x])) r=Q):=hid (by have:=HI.out;rw [if_pos rfl]at this;exact this)
    obtain⟨vk,hblk,hrow,hown⟩:=NM.out
    obtain⟨Ak,ck,hvk,hck,hmk⟩:=hrow.shape
    subst hvk
    have dP:=hid hrow
    have HOWN:=hid hown
    have uw:=hid hblk
    have e7:wr.cell? ⟨nb,7,none⟩=some (.slice Ak lk.length ck):=(cell_of_row _ _ _ _ _ _ hblk).trans rfl
    have PN:=hid (fun(w':World) (h:Turn (fun j=>j=bp∨base≤j) wr w')=>aI e7 h (by omega))
    have hsn:base≤wr.heap.size:=by omega
    have hlk2:lk.length≤9000:=by have:=Ma.out;omega
    clear hblk hrow hown
    have HD0:Hid (Turn (fun j=>j=bp∨base≤j) wr wr.drew):=hid ⟨rfl,rfl,rfl,Nat.le_refl _,fun _ _ _=>rfl⟩
    have jX:Hid (Turn (fun j=>j=bp) wr wr.drew):=hid ⟨rfl,rfl,rfl,Nat.le_refl _,fun _ _ _=>rfl⟩
    go_wp2_with fail
    refine bM (S:=fun w'=>Turn (fun j=>j=bp∨base≤j) wr w') (x:=13) (by kernel_rfl) ?_
    try simp only [Act.put,List.getElem_toArray,List.getElem_cons_zero,List.getElem_cons_succ,List.setIfInBounds_toArray,List.set_cons_zero,List.set_cons_succ]
    refine tx 0 (.pointer (some ⟨nb,0,none⟩)) HD0.out ?_
    refine tx 1 (.pointer (some ⟨nb,0,none⟩)) HD0.out ?_
    refine tx 2 (.pointer (some ⟨nb,7,none⟩)) HD0.out ?_
    refine jW 3 (.slice Ak lk.length ck) PN.out HD0.out ?_
    refine tx 4 (.pointer (some ⟨bp,0,none⟩)) HD0.out ?_
    refine tx 6 (.int .i64 (lk.length:Int)) HD0.out ?_
    refine ay (rs:=[5,7]) (by kernel_rfl) (by simp) ?_
    refine av.cons rfl (fun K hK=> ?_) (av.cons rfl (fun K hK=> ?_) av.nil)
    ·have oP:=jX
     have zf:=hid (yU wr.drew bp B r Ra.out)
     go_simp
     refine(zf.out).mono ?_
     rintro e oC h10
     rcases hq:expr r with g | ⟨x,oh⟩
     ·obtain⟨rfl,tn,bn⟩:=h10.bF hq
      have tn:=oP.out.trans tn (fun _ _ h=>h)
      have bY:=hid (HI2.out.symm.trans (aB hq))
      exact⟨rfl,dw.fail bY.out (J6.out.trans tn (fun _ _ h=> .inl h)) bn⟩
     ·obtain⟨v10,rfl,tn,⟨z,rfl,hz⟩,kn⟩:=h10.aL hq
      obtain⟨kz,sz,nz,lz,oz,kZ,lg,lq,lu,lC,lD,wO,wP,wQ,rfl⟩:=hz.shape'
      have jM:=hid (oP.out.trans tn (fun _ _ h=>h))
      have qU:=hid (jM.out.mono (G:=fun j=>j=bp∨base≤j) (fun _ _ h=> .inl h))
      have qV:=hid kn
      have Cy:=hid hq
      have HZ:=hid (aT.mono hz (G:=fun j=>wr.heap.size≤j) (fun _ _ h=>Nat.le_trans oP.out.size h))
      clear h10 tn kn hq hz
      refine hK.out _ _ qU.out ?_
      clear hK K
      try simp only [Act.put,List.getElem_toArray,List.getElem_cons_zero,List.getElem_cons_succ,List.setIfInBounds_toArray,List.set_cons_zero,List.set_cons_succ]
      refine ay (rs:=[7]) (by kernel_rfl) (by simp) ?_
      refine av.cons rfl (fun K hK=> ?_) (av.nil)
      go_simp
      have je:=hid (jM.out.trans (Turn.alloc (fun j=>j=bp) oC (.cells #[.int .i64 0, .string ⟨#[]⟩, .int .i64 0, .int .i64 0, .int .i64 0, .slice none 0 0, .slice none 0 0, .slice none 0 0] 49)) (fun _ _ h=>h))
      have OW:=hid (je.out.mono (G:=fun j=>j=bp∨base≤j) (fun _ _ h=> .inl h))
      have EC:=hid (aT.turn HZ.out (Turn.alloc (fun _=>False) oC (.cells #[.int .i64 0, .string ⟨#[]⟩, .int .i64 0, .int .i64 0, .int .i64 0, .slice none 0 0, .slice none 0 0, .slice none 0 0] 49)) (fun _ _ _=>id))
      have nM:=hid (qV.out.below (new1 oC (.cells #[.int .i64 0, .string ⟨#[]⟩, .int .i64 0, .int .i64 0, .int .i64 0, .slice none 0 0, .slice none 0 0, .slice none 0 0] 49)))
      have HSL:=hid (fD oC #[.int .i64 0, .string ⟨#[]⟩, .int .i64 0, .int .i64 0, .int .i64 0, .slice none 0 0, .slice none 0 0, .slice none 0 0] 49 8 1 rfl (by decide))
      refine hK.out _ _ OW.out ?_
      clear hK K
      try simp only [Act.put,List.getElem_toArray,List.getElem_cons_zero,List.getElem_cons_succ,List.setIfInBounds_toArray,List.set_cons_zero,List.set_cons_succ]
      refine ay (rs:=[8]) (by kernel_rfl) (by simp) ?_
      refine av.cons rfl (fun K hK=> ?_) (av.nil)
      obtain⟨ys,hy,hr⟩:=dP.out
      have hyl:ys.length=lk.length*8:=by have:=hy.1;simpa using this
      have oU:=hid (bT hy je.out (fun g hg e=>by have:=(hy.lt g hg).1;omega))
      refine dX rfl (.tmp 25) (.tmp 29) _ rfl base Cq (.slice Ak lk.length ck) _ rfl rfl oU.out HSL.out wL (by simp [maxLen];omega) (by simp;omega) (by have:=je.out.size;omega) (fun v7 w7 n7 aK fV dV=> ?_)
      have zN:n7=lk.length+1:=by have:=aK.1;rw [List.length_append,hyl]at this;simp at this;omega
      subst zN
      obtain⟨g7,c7,rfl,hgb,hgs,OX,Ny⟩:=gB aK (by omega)
      have he:=fun w8=>pV aT (by omega) (cb:=nb) (ci:=7) hy hr je.out EC.out (by rfl) aK fV dV rfl (by omega) Kc ME (fun j hj=>hFn j (by omega)) (by omega) w8
      simp only [List.length_map]at he
      have HE:=hid he
      have iM:=hid ((je.out.mono (G:=fun j=>j=bp∨base≤j) (fun _ _ h=> .inl h)).trans (Turn.bf fV (F:=fun j=>j=bp∨base≤j) (fun k e=> .inr (hy.lt k e).1)) (fun _ _ h=>h))
      have kP:=hid (nM.out.turn (Turn.bf fV (F:=fun j=>base≤j) (fun k e=>(hy.lt k e).1)) (by omega) (fun k hk e=>by have:=nM.out.1;omega))
      have gI:=ah uw.out iM.out (by omega)
      have ec:=(cell_of_row _ _ 7 _ _ _ gI).trans rfl
      have ez:=frozen_of_row _ _ 7 _ _ gI
      have o0:=aR aK rfl (i:=lk.length*8) (u:= .int .i64 0) (by rw [List.getElem?_append_right (by omega),hyl,Nat.sub_self];rfl)
      have o1:=aR aK rfl (i:=lk.length*8+1) (u:= .string ⟨#[]⟩) (by rw [List.getElem?_append_right (by omega),hyl,Nat.add_sub_cancel_left];rfl)
      have o2:=aR aK rfl (i:=lk.length*8+2) (u:= .int .i64 0) (by rw [List.getElem?_append_right (by omega),hyl,Nat.add_sub_cancel_left];rfl)
      have o3:=aR aK rfl (i:=lk.length*8+3) (u:= .int .i64 0) (by rw [List.getElem?_append_right (by omega),hyl,Nat.add_sub_cancel_left];rfl)
      have o4:=aR aK rfl (i:=lk.length*8+4) (u:= .int .i64 0) (by rw [List.getElem?_append_right (by omega),hyl,Nat.add_sub_cancel_left];rfl)
      have o5:=aR aK rfl (i:=lk.length*8+5) (u:= .slice none 0 0) (by rw [List.getElem?_append_right (by omega),hyl,Nat.add_sub_cancel_left];rfl)
      have o6:=aR aK rfl (i:=lk.length*8+6) (u:= .slice none 0 0) (by rw [List.getElem?_append_right (by omega),hyl,Nat.add_sub_cancel_left];rfl)
      have o7:=aR aK rfl (i:=lk.length*8+7) (u:= .slice none 0 0) (by rw [List.getElem?_append_right (by omega),hyl,Nat.add_sub_cancel_left];rfl)
      obtain⟨o0,q0⟩:=o0
      obtain⟨o1,q1⟩:=o1
      obtain⟨o2,q2⟩:=o2
      obtain⟨o3,q3⟩:=o3
      obtain⟨o4,q4⟩:=o4
      obtain⟨o5,q5⟩:=o5
      obtain⟨o6,q6⟩:=o6
      obtain⟨o7,q7⟩:=o7
      have tK:=hid gI
      have hne1:¬g7=nb:=by omega
      have hne2:¬nb=g7:=by omega
      clear he aK fV dV gI hy hr
      refine hK.out _ _ iM.out ?_
      clear hK K
      try simp only [Act.put,List.getElem_toArray,List.getElem_cons_zero,List.getElem_cons_succ,List.setIfInBounds_toArray,List.set_cons_zero,List.set_cons_succ]
      refine tt 9 (.pointer (some ⟨g7,lk.length*8,none⟩)) (fun _=>iM.out) (hy:=by intro w' hSw;go_simp <;> (intro h;omega)) ?_
      refine tt 11 (.pointer (some ⟨nb,0,none⟩)) (fun _=>iM.out) ?_
      refine tt 12 (.pointer (some ⟨nb,7,none⟩)) (fun _=>iM.out) ?_
      refine ay (rs:=[10,13]) (by kernel_rfl) (by simp) ?_
      refine av.cons rfl (fun K hK=> ?_) (av.past rfl (by kernel_rfl) (fun K hK=> ?_) av.nil)
      ·go_simp
       have om:=hid (iM.out.trans (dY g7 [.int .i64 kz,sv sz, .int .i64 nz, .int .i64 lz, .int .i64 oz, .slice kZ lg lq, .slice lu lC lD, .slice wO wP wQ] w7 (lk.length*8)) (fun _ _ h=> .inr (by omega)))
       refine hK.out _ _ om.out ?_
       clear hK K
       try simp only [Act.put,List.getElem_toArray,List.getElem_cons_zero,List.getElem_cons_succ,List.setIfInBounds_toArray,List.set_cons_zero,List.set_cons_succ]
       refine ay (rs:=[13]) (by kernel_rfl) (by simp) ?_
       refine av.past rfl (by kernel_rfl) (fun K hK=> ?_) (av.nil)
       go_simp
       refine hK.out _ _ ?_
       clear hK K
       try simp only [Act.put,List.getElem_toArray,List.getElem_cons_zero,List.getElem_cons_succ,List.setIfInBounds_toArray,List.set_cons_zero,List.set_cons_succ]
       refine aO (by kernel_rfl) ?_ _
       obtain⟨fA,t68,t78,mD,nP⟩:=HE.out ((jK w7 g7 (lk.length*8) [.int .i64 kz,sv sz, .int .i64 nz, .int .i64 lz, .int .i64 oz, .slice kZ lg lq, .slice lu lC lD, .slice wO wP wQ]).setCell ⟨nb,7,none⟩ (.slice (some ⟨g7,0,none⟩) (lk.length+1) c7)) (.inl rfl)
       have iH:=mD _ _ tK.out
       have oD:=kP.out.turn t78 (fun e=>by rcases e with e | e <;> omega) (fun k hk e=>by have:=nM.out.1;rcases e with e | e <;> omega)
       have hlo:=dP.out.lt
       have xY:Hid (bJ expr (a.drop (k+1)) (lk++[x]) oh=Q):=hid ((aj Cy.out).symm.trans HI2.out)
       go_wp2_with fail
       go_roundw
       case rel=>exact⟨k+1, _,oh,rfl,by omega,xY.out,by have:=Ma.out;simp;omega,J6.out.trans (je.out.mono (G:=fun j=>j=bp∨(Value.slice Ak lk.length ck).ownBlock=some j∨j=nb) (fun _ _ h=> .inl h) |>.trans t68 (fun _ _ h=> .inr h)) (fun i hi e=>by rcases e with e | e | e;exact .inl e;exact .inr (.inr (HOWN.out i hi e));exact .inr (.inl e)),⟨_,iH,fA,fun i hi e=>HOWN.out i hi (nP i (by have:=je.out.size;omega) e)⟩,oD⟩
       case measure=>simp [intOf];omega
      ·go_simp
       refine hK.out _ _ ?_
       clear hK K
       try simp only [Act.put,List.getElem_toArray,List.getElem_cons_zero,List.getElem_cons_succ,List.setIfInBounds_toArray,List.set_cons_zero,List.set_cons_succ]
       refine ay (rs:=[10]) (by kernel_rfl) (by simp) ?_
       refine av.past rfl (by kernel_rfl) (fun K hK=> ?_) (av.nil)
       go_simp
       refine hK.out _ _ ?_
       clear hK K
       try simp only [Act.put,List.getElem_toArray,List.getElem_cons_zero,List.getElem_cons_succ,List.setIfInBounds_toArray,List.set_cons_zero,List.set_cons_succ]
       refine aO (by kernel_rfl) ?_ _
       obtain⟨fA,t68,t78,mD,nP⟩:=HE.out (jK (w7.setCell ⟨nb,7,none⟩ (.slice (some ⟨g7,0,none⟩) (lk.length+1) c7)) g7 (lk.length*8) [.int .i64 kz,sv sz, .int .i64 nz, .int .i64 lz, .int .i64 oz, .slice kZ lg lq, .slice lu lC lD, .slice wO wP wQ]) (.inr rfl)
       have iH:=mD _ _ tK.out
       have oD:=kP.out.turn t78 (fun e=>by rcases e with e | e <;> omega) (fun k hk e=>by have:=nM.out.1;rcases e with e | e <;> omega)
       have hlo:=dP.out.lt
       have xY:Hid (bJ expr (a.drop (k+1)) (lk++[x]) oh=Q):=hid ((aj Cy.out).symm.trans HI2.out)
       go_wp2_with fail
       go_roundw
       case rel=>exact⟨k+1, _,oh,rfl,by omega,xY.out,by have:=Ma.out;simp;omega,J6.out.trans (je.out.mono (G:=fun j=>j=bp∨(Value.slice Ak lk.length ck).ownBlock=some j∨j=nb) (fun _ _ h=> .inl h) |>.trans t68 (fun _ _ h=> .inr h)) (fun i hi e=>by rcases e with e | e | e;exact .inl e;exact .inr (.inr (HOWN.out i hi e));exact .inr (.inl e)),⟨_,iH,fA,fun i hi e=>HOWN.out i hi (nP i (by have:=je.out.size;omega) e)⟩,oD⟩
       case measure=>simp [intOf];omega
    ·skip
     go_simp
     have ED:=hid (HD0.out.trans (Turn.alloc (fun j=>j=bp∨base≤j) wr.drew (.cells #[.int .i64 0, .string ⟨#[]⟩, .int .i64 0, .int .i64 0, .int .i64 0, .slice none 0 0, .slice none 0 0, .slice none 0 0] 49)) (fun _ _ h=>h))
     have zf:=hid (yU _ bp B r (bE.below (w:=wr.drew) Ra.out (new1 wr.drew (.cells #[.int .i64 0, .string ⟨#[]⟩, .int .i64 0, .int .i64 0, .int .i64 0, .slice none 0 0, .slice none 0 0, .slice none 0 0] 49))))
     have oP:=hid (jX.out.trans (Turn.alloc (fun j=>j=bp) wr.drew (.cells #[.int .i64 0, .string ⟨#[]⟩, .int .i64 0, .int .i64 0, .int .i64 0, .slice none 0 0, .slice none 0 0, .slice none 0 0] 49)) (fun _ _ h=>h))
     refine hK.out _ _ ED.out ?_
     clear hK K
     try simp only [Act.put,List.getElem_toArray,List.getElem_cons_zero,List.getElem_cons_succ,List.setIfInBounds_toArray,List.set_cons_zero,List.set_cons_succ]
     refine ay (rs:=[5]) (by kernel_rfl) (by simp) ?_
     refine av.cons rfl (fun K hK=> ?_) (av.nil)
     go_simp
     refine(zf.out).mono ?_
     rintro e oC h10
     rcases hq:expr r with g | ⟨x,oh⟩
     ·obtain⟨rfl,tn,bn⟩:=h10.bF hq
      have tn:=oP.out.trans tn (fun _ _ h=>h)
      have bY:=hid (HI2.out.symm.trans (aB hq))
      exact⟨rfl,dw.fail bY.out (J6.out.trans tn (fun _ _ h=> .inl h)) bn⟩
     ·obtain⟨v10,rfl,tn,⟨z,rfl,hz⟩,kn⟩:=h10.aL hq
      obtain⟨kz,sz,nz,lz,oz,kZ,lg,lq,lu,lC,lD,wO,wP,wQ,rfl⟩:=hz.shape'
      have jM:=hid (oP.out.trans tn (fun _ _ h=>h))
      have qU:=hid (jM.out.mono (G:=fun j=>j=bp∨base≤j) (fun _ _ h=> .inl h))
      have qV:=hid kn
      have Cy:=hid hq
      have HZ:=hid (aT.mono hz (G:=fun j=>wr.heap.size≤j) (fun _ _ h=>Nat.le_trans oP.out.size h))
      have je:=jM
      have EC:=HZ
      have nM:=qV
      have HSL:=hid (lZ wr.drew #[.int .i64 0, .string ⟨#[]⟩, .int .i64 0, .int .i64 0, .int .i64 0, .slice none 0 0, .slice none 0 0, .slice none 0 0] 49 8 1 rfl (by decide) tn (by have hs:wr.drew.heap.size=wr.heap.size:=rfl;omega))
      clear h10 tn kn hq hz
      refine hK.out _ _ qU.out ?_
      clear hK K
      try simp only [Act.put,List.getElem_toArray,List.getElem_cons_zero,List.getElem_cons_succ,List.setIfInBounds_toArray,List.set_cons_zero,List.set_cons_succ]
      refine ay (rs:=[8]) (by kernel_rfl) (by simp) ?_
      refine av.cons rfl (fun K hK=> ?_) (av.nil)
      obtain⟨ys,hy,hr⟩:=dP.out
      have hyl:ys.length=lk.length*8:=by have:=hy.1;simpa using this
      have oU:=hid (bT hy je.out (fun g hg e=>by have:=(hy.lt g hg).1;omega))
      refine dX rfl (.tmp 25) (.tmp 29) _ rfl base Cq (.slice Ak lk.length ck) _ rfl rfl oU.out HSL.out wL (by simp [maxLen];omega) (by simp;omega) (by have:=je.out.size;omega) (fun v7 w7 n7 aK fV dV=> ?_)
      have zN:n7=lk.length+1:=by have:=aK.1;rw [List.length_append,hyl]at this;simp at this;omega
      subst zN
      obtain⟨g7,c7,rfl,hgb,hgs,OX,Ny⟩:=gB aK (by omega)
      have he:=fun w8=>pV aT (by omega) (cb:=nb) (ci:=7) hy hr je.out EC.out (by rfl) aK fV dV rfl (by omega) Kc ME (fun j hj=>hFn j (by omega)) (by omega) w8
      simp only [List.length_map]at he
      have HE:=hid he
      have iM:=hid ((je.out.mono (G:=fun j=>j=bp∨base≤j) (fun _ _ h=> .inl h)).trans (Turn.bf fV (F:=fun j=>j=bp∨base≤j) (fun k e=> .inr (hy.lt k e).1)) (fun _ _ h=>h))
      have kP:=hid (nM.out.turn (Turn.bf fV (F:=fun j=>base≤j) (fun k e=>(hy.lt k e).1)) (by omega) (fun k hk e=>by have:=nM.out.1;omega))
      have gI:=ah uw.out iM.out (by omega)
      have ec:=(cell_of_row _ _ 7 _ _ _ gI).trans rfl
      have ez:=frozen_of_row _ _ 7 _ _ gI
      have o0:=aR aK rfl (i:=lk.length*8) (u:= .int .i64 0) (by rw [List.getElem?_append_right (by omega),hyl,Nat.sub_self];rfl)
      have o1:=aR aK rfl (i:=lk.length*8+1) (u:= .string ⟨#[]⟩) (by rw [List.getElem?_append_right (by omega),hyl,Nat.add_sub_cancel_left];rfl)
      have o2:=aR aK rfl (i:=lk.length*8+2) (u:= .int .i64 0) (by rw [List.getElem?_append_right (by omega),hyl,Nat.add_sub_cancel_left];rfl)
      have o3:=aR aK rfl (i:=lk.length*8+3) (u:= .int .i64 0) (by rw [List.getElem?_append_right (by omega),hyl,Nat.add_sub_cancel_left];rfl)
      have o4:=aR aK rfl (i:=lk.length*8+4) (u:= .int .i64 0) (by rw [List.getElem?_append_right (by omega),hyl,Nat.add_sub_cancel_left];rfl)
      have o5:=aR aK rfl (i:=lk.length*8+5) (u:= .slice none 0 0) (by rw [List.getElem?_append_right (by omega),hyl,Nat.add_sub_cancel_left];rfl)
      have o6:=aR aK rfl (i:=lk.length*8+6) (u:= .slice none 0 0) (by rw [List.getElem?_append_right (by omega),hyl,Nat.add_sub_cancel_left];rfl)
      have o7:=aR aK rfl (i:=lk.length*8+7) (u:= .slice none 0 0) (by rw [List.getElem?_append_right (by omega),hyl,Nat.add_sub_cancel_left];rfl)
      obtain⟨o0,q0⟩:=o0
      obtain⟨o1,q1⟩:=o1
      obtain⟨o2,q2⟩:=o2
      obtain⟨o3,q3⟩:=o3
      obtain⟨o4,q4⟩:=o4
      obtain⟨o5,q5⟩:=o5
      obtain⟨o6,q6⟩:=o6
      obtain⟨o7,q7⟩:=o7
      have tK:=hid gI
      have hne1:¬g7=nb:=by omega
      have hne2:¬nb=g7:=by omega
      clear he aK fV dV gI hy hr
      refine hK.out _ _ iM.out ?_
      clear hK K
      try simp only [Act.put,List.getElem_toArray,List.getElem_cons_zero,List.getElem_cons_succ,List.setIfInBounds_toArray,List.set_cons_zero,List.set_cons_succ]
      refine tt 9 (.pointer (some ⟨g7,lk.length*8,none⟩)) (fun _=>iM.out) (hy:=by intro w' hSw;go_simp <;> (intro h;omega)) ?_
      refine tt 11 (.pointer (some ⟨nb,0,none⟩)) (fun _=>iM.out) ?_
      refine tt 12 (.pointer (some ⟨nb,7,none⟩)) (fun _=>iM.out) ?_
      refine ay (rs:=[10,13]) (by kernel_rfl) (by simp) ?_
      refine av.cons rfl (fun K hK=> ?_) (av.past rfl (by kernel_rfl) (fun K hK=> ?_) av.nil)
      ·go_simp
       have om:=hid (iM.out.trans (dY g7 [.int .i64 kz,sv sz, .int .i64 nz, .int .i64 lz, .int .i64 oz, .slice kZ lg lq, .slice lu lC lD, .slice wO wP wQ] w7 (lk.length*8)) (fun _ _ h=> .inr (by omega)))
       refine hK.out _ _ om.out ?_
       clear hK K
       try simp only [Act.put,List.getElem_toArray,List.getElem_cons_zero,List.getElem_cons_succ,List.setIfInBounds_toArray,List.set_cons_zero,List.set_cons_succ]
       refine ay (rs:=[13]) (by kernel_rfl) (by simp) ?_
       refine av.past rfl (by kernel_rfl) (fun K hK=> ?_) (av.nil)
       go_simp
       refine hK.out _ _ ?_
       clear hK K
       try simp only [Act.put,List.getElem_toArray,List.getElem_cons_zero,List.getElem_cons_succ,List.setIfInBounds_toArray,List.set_cons_zero,List.set_cons_succ]
       refine aO (by kernel_rfl) ?_ _
       obtain⟨fA,t68,t78,mD,nP⟩:=HE.out ((jK w7 g7 (lk.length*8) [.int .i64 kz,sv sz, .int .i64 nz, .int .i64 lz, .int .i64 oz, .slice kZ lg lq, .slice lu lC lD, .slice wO wP wQ]).setCell ⟨nb,7,none⟩ (.slice (some ⟨g7,0,none⟩) (lk.length+1) c7)) (.inl rfl)
       have iH:=mD _ _ tK.out
       have oD:=kP.out.turn t78 (fun e=>by rcases e with e | e <;> omega) (fun k hk e=>by have:=nM.out.1;rcases e with e | e <;> omega)
       have hlo:=dP.out.lt
       have xY:Hid (bJ expr (a.drop (k+1)) (lk++[x]) oh=Q):=hid ((aj Cy.out).symm.trans HI2.out)
       go_wp2_with fail
       go_roundw
       case rel=>exact⟨k+1, _,oh,rfl,by omega,xY.out,by have:=Ma.out;simp;omega,J6.out.trans (je.out.mono (G:=fun j=>j=bp∨(Value.slice Ak lk.length ck).ownBlock=some j∨j=nb) (fun _ _ h=> .inl h) |>.trans t68 (fun _ _ h=> .inr h)) (fun i hi e=>by rcases e with e | e | e;exact .inl e;exact .inr (.inr (HOWN.out i hi e));exact .inr (.inl e)),⟨_,iH,fA,fun i hi e=>HOWN.out i hi (nP i (by have:=je.out.size;omega) e)⟩,oD⟩
       case measure=>simp [intOf];omega
      ·go_simp
       refine hK.out _ _ ?_
       clear hK K
       try simp only [Act.put,List.getElem_toArray,List.getElem_cons_zero,List.getElem_cons_succ,List.setIfInBounds_toArray,List.set_cons_zero,List.set_cons_succ]
       refine ay (rs:=[10]) (by kernel_rfl) (by simp) ?_
       refine av.past rfl (by kernel_rfl) (fun K hK=> ?_) (av.nil)
       go_simp
       refine hK.out _ _ ?_
       clear hK K
       try simp only [Act.put,List.getElem_toArray,List.getElem_cons_zero,List.getElem_cons_succ,List.setIfInBounds_toArray,List.set_cons_zero,List.set_cons_succ]
       refine aO (by kernel_rfl) ?_ _
       obtain⟨fA,t68,t78,mD,nP⟩:=HE.out (jK (w7.setCell ⟨nb,7,none⟩ (.slice (some ⟨g7,0,none⟩) (lk.length+1) c7)) g7 (lk.length*8) [.int .i64 kz,sv sz, .int .i64 nz, .int .i64 lz, .int .i64 oz, .slice kZ lg lq, .slice lu lC lD, .slice wO wP wQ]) (.inr rfl)
       have iH:=mD _ _ tK.out
       have oD:=kP.out.turn t78 (fun e=>by rcases e with e | e <;> omega) (fun k hk e=>by have:=nM.out.1;rcases e with e | e <;> omega)
       have hlo:=dP.out.lt
       have xY:Hid (bJ expr (a.drop (k+1)) (lk++[x]) oh=Q):=hid ((aj Cy.out).symm.trans HI2.out)
       go_wp2_with fail
       go_roundw
       case rel=>exact⟨k+1, _,oh,rfl,by omega,xY.out,by have:=Ma.out;simp;omega,J6.out.trans (je.out.mono (G:=fun j=>j=bp∨(Value.slice Ak lk.length ck).ownBlock=some j∨j=nb) (fun _ _ h=> .inl h) |>.trans t68 (fun _ _ h=> .inr h)) (fun i hi e=>by rcases e with e | e | e;exact .inl e;exact .inr (.inr (HOWN.out i hi e));exact .inr (.inl e)),⟨_,iH,fA,fun i hi e=>HOWN.out i hi (nP i (by have:=je.out.size;omega) e)⟩,oD⟩
       case measure=>simp [intOf];omega
   ·have hbq:(s==[])=false:=by simpa using hs0
    have HI2:Hid (au (aH s) (fun _=>au expr (fun x=>bJ expr (a.drop (k+1)) (lk++[x]))) r=Q):=hid (by have:=HI.out;rw [if_neg hs0]at this;exact this)
    have HN:=hid (dM wr bp B r d Ra.out s 9 wr.heap.size)
    go_wp2_with fail
    refine(HN.out).mono ?_
    rintro e w5 h5
    rcases hq:aH s r with g | ⟨u,r5⟩
    ·obtain⟨rfl,tn,bn⟩:=h5.bF hq
     have HT:=hid (J6.out.trans tn (fun _ _ h=> .inl h))
     have HB:=hid bn
     have bY:=hid (HI2.out.symm.trans (aB hq))
     clear h5 tn bn hq
     go_wp2_with fail
     exact⟨rfl,dw.fail bY.out HT.out HB.out⟩
    ·obtain⟨v5,rfl,tn, -,kn⟩:=h5.aL hq
     have hs5:=tn.size
     have fI:=hid (J6.out.trans tn (fun _ _ h=> .inl h))
     have lQ:=hid kn
     have Jj:Hid (au expr (fun x=>bJ expr (a.drop (k+1)) (lk++[x])) r5=Q):=hid ((aj hq).symm.trans HI2.out)
     have Vz:Hid (∃vk,w5.heap[nb]? =some (.cells #[a0,a1,a2,a3,a4,a5,a6,vk] 49 (0,0))∧O5 base F w5 vk lk∧∀i,i<w.heap.size→vk.ownBlock=some i→v.ownBlock=some i):=hid (by
      obtain⟨vk,h1,h2,h3⟩:=NM.out
      exact⟨vk,ah h1 tn (by omega),h2.turn aT tn (fun g hg e=>by have:=(h2.lt g hg).1;omega) (fun g _ hg e=>Kc (e▸hg)),h3⟩)
     clear h5 tn kn hq
     obtain⟨vk,hblk,hrow,hown⟩:=Vz.out
     obtain⟨Ak,ck,hvk,hck,hmk⟩:=hrow.shape
     subst hvk
     have dP:=hid hrow
     have HOWN:=hid hown
     have uw:=hid hblk
     have e7:w5.cell? ⟨nb,7,none⟩=some (.slice Ak lk.length ck):=(cell_of_row _ _ _ _ _ _ hblk).trans rfl
     have PN:=hid (fun(w':World) (h:Turn (fun j=>j=bp∨base≤j) w5 w')=>aI e7 h (by omega))
     have hsn:base≤w5.heap.size:=by omega
     have hlk2:lk.length≤9000:=by have:=Ma.out;omega
     clear hblk hrow hown
     have HD0:Hid (Turn (fun j=>j=bp∨base≤j) w5 w5.drew):=hid ⟨rfl,rfl,rfl,Nat.le_refl _,fun _ _ _=>rfl⟩
     have jX:Hid (Turn (fun j=>j=bp) w5 w5.drew):=hid ⟨rfl,rfl,rfl,Nat.le_refl _,fun _ _ _=>rfl⟩
     go_wp2_with fail
     refine bM (S:=fun w'=>Turn (fun j=>j=bp∨base≤j) w5 w') (x:=13) (by kernel_rfl) ?_
     try simp only [Act.put,List.getElem_toArray,List.getElem_cons_zero,List.getElem_cons_succ,List.setIfInBounds_toArray,List.set_cons_zero,List.set_cons_succ]
     refine tx 0 (.pointer (some ⟨nb,0,none⟩)) HD0.out ?_
     refine tx 1 (.pointer (some ⟨nb,0,none⟩)) HD0.out ?_
     refine tx 2 (.pointer (some ⟨nb,7,none⟩)) HD0.out ?_
     refine jW 3 (.slice Ak lk.length ck) PN.out HD0.out ?_
     refine tx 4 (.pointer (some ⟨bp,0,none⟩)) HD0.out ?_
     refine tx 6 (.int .i64 (lk.length:Int)) HD0.out ?_
     refine ay (rs:=[5,7]) (by kernel_rfl) (by simp) ?_
     refine av.cons rfl (fun K hK=> ?_) (av.cons rfl (fun K hK=> ?_) av.nil)
     ·have oP:=jX
      have zf:=hid (yU w5.drew bp B r5 lQ.out)
      go_simp
      refine(zf.out).mono ?_
      rintro e oC h10
      rcases hq:expr r5 with g | ⟨x,oh⟩
      ·obtain⟨rfl,tn,bn⟩:=h10.bF hq
       have tn:=oP.out.trans tn (fun _ _ h=>h)
       have bY:=hid (Jj.out.symm.trans (aB hq))
       exact⟨rfl,dw.fail bY.out (fI.out.trans tn (fun _ _ h=> .inl h)) bn⟩
      ·obtain⟨v10,rfl,tn,⟨z,rfl,hz⟩,kn⟩:=h10.aL hq
       obtain⟨kz,sz,nz,lz,oz,kZ,lg,lq,lu,lC,lD,wO,wP,wQ,rfl⟩:=hz.shape'
       have jM:=hid (oP.out.trans tn (fun _ _ h=>h))
       have qU:=hid (jM.out.mono (G:=fun j=>j=bp∨base≤j) (fun _ _ h=> .inl h))
       have qV:=hid kn
       have Cy:=hid hq
       have HZ:=hid (aT.mono hz (G:=fun j=>w5.heap.size≤j) (fun _ _ h=>Nat.le_trans oP.out.size h))
       clear h10 tn kn hq hz
       refine hK.out _ _ qU.out ?_
       clear hK K
       try simp only [Act.put,List.getElem_toArray,List.getElem_cons_zero,List.getElem_cons_succ,List.setIfInBounds_toArray,List.set_cons_zero,List.set_cons_succ]
       refine ay (rs:=[7]) (by kernel_rfl) (by simp) ?_
       refine av.cons rfl (fun K hK=> ?_) (av.nil)
       go_simp
       have je:=hid (jM.out.trans (Turn.alloc (fun j=>j=bp) oC (.cells #[.int .i64 0, .string ⟨#[]⟩, .int .i64 0, .int .i64 0, .int .i64 0, .slice none 0 0, .slice none 0 0, .slice none 0 0] 49)) (fun _ _ h=>h))
       have OW:=hid (je.out.mono (G:=fun j=>j=bp∨base≤j) (fun _ _ h=> .inl h))
       have EC:=hid (aT.turn HZ.out (Turn.alloc (fun _=>False) oC (.cells #[.int .i64 0, .string ⟨#[]⟩, .int .i64 0, .int .i64 0, .int .i64 0, .slice none 0 0, .slice none 0 0, .slice none 0 0] 49)) (fun _ _ _=>id))
       have nM:=hid (qV.out.below (new1 oC (.cells #[.int .i64 0, .string ⟨#[]⟩, .int .i64 0, .int .i64 0, .int .i64 0, .slice none 0 0, .slice none 0 0, .slice none 0 0] 49)))
       have HSL:=hid (fD oC #[.int .i64 0, .string ⟨#[]⟩, .int .i64 0, .int .i64 0, .int .i64 0, .slice none 0 0, .slice none 0 0, .slice none 0 0] 49 8 1 rfl (by decide))
       refine hK.out _ _ OW.out ?_
       clear hK K
       try simp only [Act.put,List.getElem_toArray,List.getElem_cons_zero,List.getElem_cons_succ,List.setIfInBounds_toArray,List.set_cons_zero,List.set_cons_succ]
       refine ay (rs:=[8]) (by kernel_rfl) (by simp) ?_
       refine av.cons rfl (fun K hK=> ?_) (av.nil)
       obtain⟨ys,hy,hr⟩:=dP.out
       have hyl:ys.length=lk.length*8:=by have:=hy.1;simpa using this
       have oU:=hid (bT hy je.out (fun g hg e=>by have:=(hy.lt g hg).1;omega))
       refine dX rfl (.tmp 25) (.tmp 29) _ rfl base Cq (.slice Ak lk.length ck) _ rfl rfl oU.out HSL.out wL (by simp [maxLen];omega) (by simp;omega) (by have:=je.out.size;omega) (fun v7 w7 n7 aK fV dV=> ?_)
       have zN:n7=lk.length+1:=by have:=aK.1;rw [List.length_append,hyl]at this;simp at this;omega
       subst zN
       obtain⟨g7,c7,rfl,hgb,hgs,OX,Ny⟩:=gB aK (by omega)
       have he:=fun w8=>pV aT (by omega) (cb:=nb) (ci:=7) hy hr je.out EC.out (by rfl) aK fV dV rfl (by omega) Kc ME (fun j hj=>hFn j (by omega)) (by omega) w8
       simp only [List.length_map]at he
       have HE:=hid he
       have iM:=hid ((je.out.mono (G:=fun j=>j=bp∨base≤j) (fun _ _ h=> .inl h)).trans (Turn.bf fV (F:=fun j=>j=bp∨base≤j) (fun k e=> .inr (hy.lt k e).1)) (fun _ _ h=>h))
       have kP:=hid (nM.out.turn (Turn.bf fV (F:=fun j=>base≤j) (fun k e=>(hy.lt k e).1)) (by omega) (fun k hk e=>by have:=nM.out.1;omega))
       have gI:=ah uw.out iM.out (by omega)
       have ec:=(cell_of_row _ _ 7 _ _ _ gI).trans rfl
       have ez:=frozen_of_row _ _ 7 _ _ gI
       have o0:=aR aK rfl (i:=lk.length*8) (u:= .int .i64 0) (by rw [List.getElem?_append_right (by omega),hyl,Nat.sub_self];rfl)
       have o1:=aR aK rfl (i:=lk.length*8+1) (u:= .string ⟨#[]⟩) (by rw [List.getElem?_append_right (by omega),hyl,Nat.add_sub_cancel_left];rfl)
       have o2:=aR aK rfl (i:=lk.length*8+2) (u:= .int .i64 0) (by rw [List.getElem?_append_right (by omega),hyl,Nat.add_sub_cancel_left];rfl)
       have o3:=aR aK rfl (i:=lk.length*8+3) (u:= .int .i64 0) (by rw [List.getElem?_append_right (by omega),hyl,Nat.add_sub_cancel_left];rfl)
       have o4:=aR aK rfl (i:=lk.length*8+4) (u:= .int .i64 0) (by rw [List.getElem?_append_right (by omega),hyl,Nat.add_sub_cancel_left];rfl)
       have o5:=aR aK rfl (i:=lk.length*8+5) (u:= .slice none 0 0) (by rw [List.getElem?_append_right (by omega),hyl,Nat.add_sub_cancel_left];rfl)
       have o6:=aR aK rfl (i:=lk.length*8+6) (u:= .slice none 0 0) (by rw [List.getElem?_append_right (by omega),hyl,Nat.add_sub_cancel_left];rfl)
       have o7:=aR aK rfl (i:=lk.length*8+7) (u:= .slice none 0 0) (by rw [List.getElem?_append_right (by omega),hyl,Nat.add_sub_cancel_left];rfl)
       obtain⟨o0,q0⟩:=o0
       obtain⟨o1,q1⟩:=o1
       obtain⟨o2,q2⟩:=o2
       obtain⟨o3,q3⟩:=o3
       obtain⟨o4,q4⟩:=o4
       obtain⟨o5,q5⟩:=o5
       obtain⟨o6,q6⟩:=o6
       obtain⟨o7,q7⟩:=o7
       have tK:=hid gI
       have hne1:¬g7=nb:=by omega
       have hne2:¬nb=g7:=by omega
       clear he aK fV dV gI hy hr
       refine hK.out _ _ iM.out ?_
       clear hK K
       try simp only [Act.put,List.getElem_toArray,List.getElem_cons_zero,List.getElem_cons_succ,List.setIfInBounds_toArray,List.set_cons_zero,List.set_cons_succ]
       refine tt 9 (.pointer (some ⟨g7,lk.length*8,none⟩)) (fun _=>iM.out) (hy:=by intro w' hSw;go_simp <;> (intro h;omega)) ?_
       refine tt 11 (.pointer (some ⟨nb,0,none⟩)) (fun _=>iM.out) ?_
       refine tt 12 (.pointer (some ⟨nb,7,none⟩)) (fun _=>iM.out) ?_
       refine ay (rs:=[10,13]) (by kernel_rfl) (by simp) ?_
       refine av.cons rfl (fun K hK=> ?_) (av.past rfl (by kernel_rfl) (fun K hK=> ?_) av.nil)
       ·go_simp
        have om:=hid (iM.out.trans (dY g7 [.int .i64 kz,sv sz, .int .i64 nz, .int .i64 lz, .int .i64 oz, .slice kZ lg lq, .slice lu lC lD, .slice wO wP wQ] w7 (lk.length*8)) (fun _ _ h=> .inr (by omega)))
        refine hK.out _ _ om.out ?_
        clear hK K
        try simp only [Act.put,List.getElem_toArray,List.getElem_cons_zero,List.getElem_cons_succ,List.setIfInBounds_toArray,List.set_cons_zero,List.set_cons_succ]
        refine ay (rs:=[13]) (by kernel_rfl) (by simp) ?_
        refine av.past rfl (by kernel_rfl) (fun K hK=> ?_) (av.nil)
        go_simp
        refine hK.out _ _ ?_
        clear hK K
        try simp only [Act.put,List.getElem_toArray,List.getElem_cons_zero,List.getElem_cons_succ,List.setIfInBounds_toArray,List.set_cons_zero,List.set_cons_succ]
        refine aO (by kernel_rfl) ?_ _
        obtain⟨fA,t68,t78,mD,nP⟩:=HE.out ((jK w7 g7 (lk.length*8) [.int .i64 kz,sv sz, .int .i64 nz, .int .i64 lz, .int .i64 oz, .slice kZ lg lq, .slice lu lC lD, .slice wO wP wQ]).setCell ⟨nb,7,none⟩ (.slice (some ⟨g7,0,none⟩) (lk.length+1) c7)) (.inl rfl)
        have iH:=mD _ _ tK.out
        have oD:=kP.out.turn t78 (fun e=>by rcases e with e | e <;> omega) (fun k hk e=>by have:=nM.out.1;rcases e with e | e <;> omega)
        have hlo:=dP.out.lt
        have xY:Hid (bJ expr (a.drop (k+1)) (lk++[x]) oh=Q):=hid ((aj Cy.out).symm.trans Jj.out)
        go_wp2_with fail
        go_roundw
        case rel=>exact⟨k+1, _,oh,rfl,by omega,xY.out,by have:=Ma.out;simp;omega,fI.out.trans (je.out.mono (G:=fun j=>j=bp∨(Value.slice Ak lk.length ck).ownBlock=some j∨j=nb) (fun _ _ h=> .inl h) |>.trans t68 (fun _ _ h=> .inr h)) (fun i hi e=>by rcases e with e | e | e;exact .inl e;exact .inr (.inr (HOWN.out i hi e));exact .inr (.inl e)),⟨_,iH,fA,fun i hi e=>HOWN.out i hi (nP i (by have:=je.out.size;omega) e)⟩,oD⟩
        case measure=>simp [intOf];omega
       ·go_simp
        refine hK.out _ _ ?_
        clear hK K
        try simp only [Act.put,List.getElem_toArray,List.getElem_cons_zero,List.getElem_cons_succ,List.setIfInBounds_toArray,List.set_cons_zero,List.set_cons_succ]
        refine ay (rs:=[10]) (by kernel_rfl) (by simp) ?_
        refine av.past rfl (by kernel_rfl) (fun K hK=> ?_) (av.nil)
        go_simp
        refine hK.out _ _ ?_
        clear hK K
        try simp only [Act.put,List.getElem_toArray,List.getElem_cons_zero,List.getElem_cons_succ,List.setIfInBounds_toArray,List.set_cons_zero,List.set_cons_succ]
        refine aO (by kernel_rfl) ?_ _
        obtain⟨fA,t68,t78,mD,nP⟩:=HE.out (jK (w7.setCell ⟨nb,7,none⟩ (.slice (some ⟨g7,0,none⟩) (lk.length+1) c7)) g7 (lk.length*8) [.int .i64 kz,sv sz, .int .i64 nz, .int .i64 lz, .int .i64 oz, .slice kZ lg lq, .slice lu lC lD, .slice wO wP wQ]) (.inr rfl)
        have iH:=mD _ _ tK.out
        have oD:=kP.out.turn t78 (fun e=>by rcases e with e | e <;> omega) (fun k hk e=>by have:=nM.out.1;rcases e with e | e <;> omega)
        have hlo:=dP.out.lt
        have xY:Hid (bJ expr (a.drop (k+1)) (lk++[x]) oh=Q):=hid ((aj Cy.out).symm.trans Jj.out)
        go_wp2_with fail
        go_roundw
        case rel=>exact⟨k+1, _,oh,rfl,by omega,xY.out,by have:=Ma.out;simp;omega,fI.out.trans (je.out.mono (G:=fun j=>j=bp∨(Value.slice Ak lk.length ck).ownBlock=some j∨j=nb) (fun _ _ h=> .inl h) |>.trans t68 (fun _ _ h=> .inr h)) (fun i hi e=>by rcases e with e | e | e;exact .inl e;exact .inr (.inr (HOWN.out i hi e));exact .inr (.inl e)),⟨_,iH,fA,fun i hi e=>HOWN.out i hi (nP i (by have:=je.out.size;omega) e)⟩,oD⟩
        case measure=>simp [intOf];omega
     ·skip
      go_simp
      have ED:=hid (HD0.out.trans (Turn.alloc (fun j=>j=bp∨base≤j) w5.drew (.cells #[.int .i64 0, .string ⟨#[]⟩, .int .i64 0, .int .i64 0, .int .i64 0, .slice none 0 0, .slice none 0 0, .slice none 0 0] 49)) (fun _ _ h=>h))
      have zf:=hid (yU _ bp B r5 (bE.below (w:=w5.drew) lQ.out (new1 w5.drew (.cells #[.int .i64 0, .string ⟨#[]⟩, .int .i64 0, .int .i64 0, .int .i64 0, .slice none 0 0, .slice none 0 0, .slice none 0 0] 49))))
      have oP:=hid (jX.out.trans (Turn.alloc (fun j=>j=bp) w5.drew (.cells #[.int .i64 0, .string ⟨#[]⟩, .int .i64 0, .int .i64 0, .int .i64 0, .slice none 0 0, .slice none 0 0, .slice none 0 0] 49)) (fun _ _ h=>h))
      refine hK.out _ _ ED.out ?_
      clear hK K
      try simp only [Act.put,List.getElem_toArray,List.getElem_cons_zero,List.getElem_cons_succ,List.setIfInBounds_toArray,List.set_cons_zero,List.set_cons_succ]
      refine ay (rs:=[5]) (by kernel_rfl) (by simp) ?_
      refine av.cons rfl (fun K hK=> ?_) (av.nil)
      go_simp
      refine(zf.out).mono ?_
      rintro e oC h10
      rcases hq:expr r5 with g | ⟨x,oh⟩
      ·obtain⟨rfl,tn,bn⟩:=h10.bF hq
       have tn:=oP.out.trans tn (fun _ _ h=>h)
       have bY:=hid (Jj.out.symm.trans (aB hq))
       exact⟨rfl,dw.fail bY.out (fI.out.trans tn (fun _ _ h=> .inl h)) bn⟩
      ·obtain⟨v10,rfl,tn,⟨z,rfl,hz⟩,kn⟩:=h10.aL hq
       obtain⟨kz,sz,nz,lz,oz,kZ,lg,lq,lu,lC,lD,wO,wP,wQ,rfl⟩:=hz.shape'
       have jM:=hid (oP.out.trans tn (fun _ _ h=>h))
       have qU:=hid (jM.out.mono (G:=fun j=>j=bp∨base≤j) (fun _ _ h=> .inl h))
       have qV:=hid kn
       have Cy:=hid hq
       have HZ:=hid (aT.mono hz (G:=fun j=>w5.heap.size≤j) (fun _ _ h=>Nat.le_trans oP.out.size h))
       have je:=jM
       have EC:=HZ
       have nM:=qV
       have HSL:=hid (lZ w5.drew #[.int .i64 0, .string ⟨#[]⟩, .int .i64 0, .int .i64 0, .int .i64 0, .slice none 0 0, .slice none 0 0, .slice none 0 0] 49 8 1 rfl (by decide) tn (by have hs:w5.drew.heap.size=w5.heap.size:=rfl;omega))
       clear h10 tn kn hq hz
       refine hK.out _ _ qU.out ?_
       clear hK K
       try simp only [Act.put,List.getElem_toArray,List.getElem_cons_zero,List.getElem_cons_succ,List.setIfInBounds_toArray,List.set_cons_zero,List.set_cons_succ]
       refine ay (rs:=[8]) (by kernel_rfl) (by simp) ?_
       refine av.cons rfl (fun K hK=> ?_) (av.nil)
       obtain⟨ys,hy,hr⟩:=dP.out
       have hyl:ys.length=lk.length*8:=by have:=hy.1;simpa using this
       have oU:=hid (bT hy je.out (fun g hg e=>by have:=(hy.lt g hg).1;omega))
       refine dX rfl (.tmp 25) (.tmp 29) _ rfl base Cq (.slice Ak lk.length ck) _ rfl rfl oU.out HSL.out wL (by simp [maxLen];omega) (by simp;omega) (by have:=je.out.size;omega) (fun v7 w7 n7 aK fV dV=> ?_)
       have zN:n7=lk.length+1:=by have:=aK.1;rw [List.length_append,hyl]at this;simp at this;omega
       subst zN
       obtain⟨g7,c7,rfl,hgb,hgs,OX,Ny⟩:=gB aK (by omega)
       have he:=fun w8=>pV aT (by omega) (cb:=nb) (ci:=7) hy hr je.out EC.out (by rfl) aK fV dV rfl (by omega) Kc ME (fun j hj=>hFn j (by omega)) (by omega) w8
       simp only [List.length_map]at he
       have HE:=hid he
       have iM:=hid ((je.out.mono (G:=fun j=>j=bp∨base≤j) (fun _ _ h=> .inl h)).trans (Turn.bf fV (F:=fun j=>j=bp∨base≤j) (fun k e=> .inr (hy.lt k e).1)) (fun _ _ h=>h))
       have kP:=hid (nM.out.turn (Turn.bf fV (F:=fun j=>base≤j) (fun k e=>(hy.lt k e).1)) (by omega) (fun k hk e=>by have:=nM.out.1;omega))
       have gI:=ah uw.out iM.out (by omega)
       have ec:=(cell_of_row _ _ 7 _ _ _ gI).trans rfl
       have ez:=frozen_of_row _ _ 7 _ _ gI
       have o0:=aR aK rfl (i:=lk.length*8) (u:= .int .i64 0) (by rw [List.getElem?_append_right (by omega),hyl,Nat.sub_self];rfl)
       have o1:=aR aK rfl (i:=lk.length*8+1) (u:= .string ⟨#[]⟩) (by rw [List.getElem?_append_right (by omega),hyl,Nat.add_sub_cancel_left];rfl)
       have o2:=aR aK rfl (i:=lk.length*8+2) (u:= .int .i64 0) (by rw [List.getElem?_append_right (by omega),hyl,Nat.add_sub_cancel_left];rfl)
       have o3:=aR aK rfl (i:=lk.length*8+3) (u:= .int .i64 0) (by rw [List.getElem?_append_right (by omega),hyl,Nat.add_sub_cancel_left];rfl)
       have o4:=aR aK rfl (i:=lk.length*8+4) (u:= .int .i64 0) (by rw [List.getElem?_append_right (by omega),hyl,Nat.add_sub_cancel_left];rfl)
       have o5:=aR aK rfl (i:=lk.length*8+5) (u:= .slice none 0 0) (by rw [List.getElem?_append_right (by omega),hyl,Nat.add_sub_cancel_left];rfl)
       have o6:=aR aK rfl (i:=lk.length*8+6) (u:= .slice none 0 0) (by rw [List.getElem?_append_right (by omega),hyl,Nat.add_sub_cancel_left];rfl)
       have o7:=aR aK rfl (i:=lk.length*8+7) (u:= .slice none 0 0) (by rw [List.getElem?_append_right (by omega),hyl,Nat.add_sub_cancel_left];rfl)
       obtain⟨o0,q0⟩:=o0
       obtain⟨o1,q1⟩:=o1
       obtain⟨o2,q2⟩:=o2
       obtain⟨o3,q3⟩:=o3
       obtain⟨o4,q4⟩:=o4
       obtain⟨o5,q5⟩:=o5
       obtain⟨o6,q6⟩:=o6
       obtain⟨o7,q7⟩:=o7
       have tK:=hid gI
       have hne1:¬g7=nb:=by omega
       have hne2:¬nb=g7:=by omega
       clear he aK fV dV gI hy hr
       refine hK.out _ _ iM.out ?_
       clear hK K
       try simp only [Act.put,List.getElem_toArray,List.getElem_cons_zero,List.getElem_cons_succ,List.setIfInBounds_toArray,List.set_cons_zero,List.set_cons_succ]
       refine tt 9 (.pointer (some ⟨g7,lk.length*8,none⟩)) (fun _=>iM.out) (hy:=by intro w' hSw;go_simp <;> (intro h;omega)) ?_
       refine tt 11 (.pointer (some ⟨nb,0,none⟩)) (fun _=>iM.out) ?_
       refine tt 12 (.pointer (some ⟨nb,7,none⟩)) (fun _=>iM.out) ?_
       refine ay (rs:=[10,13]) (by kernel_rfl) (by simp) ?_
       refine av.cons rfl (fun K hK=> ?_) (av.past rfl (by kernel_rfl) (fun K hK=> ?_) av.nil)
       ·go_simp
        have om:=hid (iM.out.trans (dY g7 [.int .i64 kz,sv sz, .int .i64 nz, .int .i64 lz, .int .i64 oz, .slice kZ lg lq, .slice lu lC lD, .slice wO wP wQ] w7 (lk.length*8)) (fun _ _ h=> .inr (by omega)))
        refine hK.out _ _ om.out ?_
        clear hK K
        try simp only [Act.put,List.getElem_toArray,List.getElem_cons_zero,List.getElem_cons_succ,List.setIfInBounds_toArray,List.set_cons_zero,List.set_cons_succ]
        refine ay (rs:=[13]) (by kernel_rfl) (by simp) ?_
        refine av.past rfl (by kernel_rfl) (fun K hK=> ?_) (av.nil)
        go_simp
        refine hK.out _ _ ?_
        clear hK K
        try simp only [Act.put,List.getElem_toArray,List.getElem_cons_zero,List.getElem_cons_succ,List.setIfInBounds_toArray,List.set_cons_zero,List.set_cons_succ]
        refine aO (by kernel_rfl) ?_ _
        obtain⟨fA,t68,t78,mD,nP⟩:=HE.out ((jK w7 g7 (lk.length*8) [.int .i64 kz,sv sz, .int .i64 nz, .int .i64 lz, .int .i64 oz, .slice kZ lg lq, .slice lu lC lD, .slice wO wP wQ]).setCell ⟨nb,7,none⟩ (.slice (some ⟨g7,0,none⟩) (lk.length+1) c7)) (.inl rfl)
        have iH:=mD _ _ tK.out
        have oD:=kP.out.turn t78 (fun e=>by rcases e with e | e <;> omega) (fun k hk e=>by have:=nM.out.1;rcases e with e | e <;> omega)
        have hlo:=dP.out.lt
        have xY:Hid (bJ expr (a.drop (k+1)) (lk++[x]) oh=Q):=hid ((aj Cy.out).symm.trans Jj.out)
        go_wp2_with fail
        go_roundw
        case rel=>exact⟨k+1, _,oh,rfl,by omega,xY.out,by have:=Ma.out;simp;omega,fI.out.trans (je.out.mono (G:=fun j=>j=bp∨(Value.slice Ak lk.length ck).ownBlock=some j∨j=nb) (fun _ _ h=> .inl h) |>.trans t68 (fun _ _ h=> .inr h)) (fun i hi e=>by rcases e with e | e | e;exact .inl e;exact .inr (.inr (HOWN.out i hi e));exact .inr (.inl e)),⟨_,iH,fA,fun i hi e=>HOWN.out i hi (nP i (by have:=je.out.size;omega) e)⟩,oD⟩
        case measure=>simp [intOf];omega
       ·go_simp
        refine hK.out _ _ ?_
        clear hK K
        try simp only [Act.put,List.getElem_toArray,List.getElem_cons_zero,List.getElem_cons_succ,List.setIfInBounds_toArray,List.set_cons_zero,List.set_cons_succ]
        refine ay (rs:=[10]) (by kernel_rfl) (by simp) ?_
        refine av.past rfl (by kernel_rfl) (fun K hK=> ?_) (av.nil)
        go_simp
        refine hK.out _ _ ?_
        clear hK K
        try simp only [Act.put,List.getElem_toArray,List.getElem_cons_zero,List.getElem_cons_succ,List.setIfInBounds_toArray,List.set_cons_zero,List.set_cons_succ]
        refine aO (by kernel_rfl) ?_ _
        obtain⟨fA,t68,t78,mD,nP⟩:=HE.out (jK (w7.setCell ⟨nb,7,none⟩ (.slice (some ⟨g7,0,none⟩) (lk.length+1) c7)) g7 (lk.length*8) [.int .i64 kz,sv sz, .int .i64 nz, .int .i64 lz, .int .i64 oz, .slice kZ lg lq, .slice lu lC lD, .slice wO wP wQ]) (.inr rfl)
        have iH:=mD _ _ tK.out
        have oD:=kP.out.turn t78 (fun e=>by rcases e with e | e <;> omega) (fun k hk e=>by have:=nM.out.1;rcases e with e | e <;> omega)
        have hlo:=dP.out.lt
        have xY:Hid (bJ expr (a.drop (k+1)) (lk++[x]) oh=Q):=hid ((aj Cy.out).symm.trans Jj.out)
        go_wp2_with fail
        go_roundw
        case rel=>exact⟨k+1, _,oh,rfl,by omega,xY.out,by have:=Ma.out;simp;omega,fI.out.trans (je.out.mono (G:=fun j=>j=bp∨(Value.slice Ak lk.length ck).ownBlock=some j∨j=nb) (fun _ _ h=> .inl h) |>.trans t68 (fun _ _ h=> .inr h)) (fun i hi e=>by rcases e with e | e | e;exact .inl e;exact .inr (.inr (HOWN.out i hi e));exact .inr (.inl e)),⟨_,iH,fA,fun i hi e=>HOWN.out i hi (nP i (by have:=je.out.size;omega) e)⟩,oD⟩
        case measure=>simp [intOf];omega
  ·obtain rfl:k=m:=by omega
   rw [List.drop_of_length_le (by rw [HM.out];exact Nat.le_refl _)]at hinv
   have HI:Hid (Pr.good lk r=Q):=hid hinv
   have Ra:=hid hkr
   have NM:=hid hki
   clear hinv htr hkr hki
   go_wp2_with fail
   go_end0
   obtain⟨vk,h1,h2, _⟩:=NM.out
   exact dw.done HI.out.symm J6.out ⟨vk,h1,h2⟩ Ra.out
end Go.Proofs.YtmbppnbekkbibaaGreatDoor
end
section
set_option linter.unusedVariables false
namespace Go.Proofs.YtmbppnbekkbibaaGreatDoor
open Go.RowKit
def Cz (w:World) (F:Nat→Prop) (v:Value):Prop:=∃b,v= .slice (some ⟨b,0,none⟩) 6 6∧F b∧b<w.heap.size∧∀k,k<6→∃A n c,w.cell? ⟨b,k,none⟩=some (.slice A n c)∧dh w F 1 (.slice A n c) (nC (Ah.getD k []))
theorem Cz.turn {w w':World} {F G:Nat→Prop} {v:Value} (h:Cz w F v) (t:Turn G w w') (hd:∀g,g<w.heap.size→F g→¬G g):Cz w' F v:=by
 obtain⟨b,hv,hb,hs,hc⟩:=h
 refine⟨b,hv,hb,t.lt hs,fun k hk=> ?_⟩
 obtain⟨A,n,c,h1,h2⟩:=hc k hk
 exact⟨A,n,c,aI h1 t (hd b hs hb),h2.turn t hd⟩
theorem Cz.mono {w:World} {F G:Nat→Prop} {v:Value} (h:Cz w F v) (hd:∀g,g<w.heap.size→F g→G g):Cz w G v:=by
 obtain⟨b,hv,hb,hs,hc⟩:=h
 refine⟨b,hv,hd b hs hb,hs,fun k hk=> ?_⟩
 obtain⟨A,n,c,h1,h2⟩:=hc k hk
 exact⟨A,n,c,h1,h2.mono hd⟩
theorem gV {w:World} {b:Nat} {P:Array Value} {T:TypeId} (h:w.heap[b]? =some (.cells P T (0,0))) (k n:Nat) (hs:P.size=n*k) (hn:n≤100000):dh w (fun j=>j=b) k (.slice (some ⟨b,0,none⟩) n n) P.toList:=by
 refine⟨_,n,n,rfl,by simpa using hs,Nat.le_refl _,by unfold maxLen;omega,fun _=>⟨b,0,rfl,rfl,block_lt h,fun j u hu=> ?_⟩⟩
 rw [cell_of_row _ _ _ P T (0,0) h]
 simpa using hu
theorem mY {w:World} {nb c1 c2:Nat} {v1 v2:Value} {P cs:Array Value} {T T':TypeId} (hb:w.heap[nb]? =some (.cells cs T' (0,0))) (w8:World)
  (h:w8=((w.setCell ⟨nb,c1,none⟩ v1).setCell ⟨nb,c2,none⟩ v2).alloc (.cells P T)):
  Turn (fun j=>j=nb) w w8∧w8.heap[w.heap.size]? =some (.cells P T (0,0))∧w8.heap[nb]? =some (.cells ((cs.setIfInBounds c1 v1).setIfInBounds c2 v2) T' (0,0)):=by
 have hlt:=block_lt hb
 have ts:=fun(w:World) (c:Nat) (v:Value)=>ak w nb c v
 subst h
 have hs:((w.setCell ⟨nb,c1,none⟩ v1).setCell ⟨nb,c2,none⟩ v2).heap.size=w.heap.size:=by simp
 have h1:=yT ((w.setCell ⟨nb,c1,none⟩ v1).setCell ⟨nb,c2,none⟩ v2) (.cells P T)
 rw [hs]at h1
 exact⟨((ts w c1 v1).trans (ts _ c2 v2) (fun _ _ h=>h)).trans (Turn.alloc (fun j=>j=nb) _ _) (fun _ _ h=>h),h1,bB (heap_setCell_same _ _ c2 _ _ _ (heap_setCell_same _ _ c1 _ _ _ hb))⟩
theorem six (w:World) (o1 o2 o3 o4 o5 o6:Obj):∀W,((((((w.alloc o1).alloc o2).alloc o3).alloc o4).alloc o5).alloc o6)=W→Below w.heap.size w W∧W.heap.size=w.heap.size+6∧W.heap[w.heap.size]? =some o1∧W.heap[w.heap.size+1]? =some o2∧W.heap[w.heap.size+1+1]? =some o3∧W.heap[w.heap.size+1+1+1]? =some o4∧W.heap[w.heap.size+1+1+1+1]? =some o5∧W.heap[w.heap.size+1+1+1+1+1]? =some o6:=by
 rintro W rfl
 have hs3:(((w.alloc o1).alloc o2).alloc o3).heap.size=w.heap.size+1+1+1:=by simp
 obtain⟨t1,s1,h4,h5,h6⟩:=uf (G:=fun _=>False) (Turn.refl _ ((((((w.alloc o1).alloc o2).alloc o3).alloc o4).alloc o5).alloc o6))
 obtain⟨t0,s0,h1,h2,h3⟩:=uf t1
 rw [hs3]at h4 h5 h6
 exact⟨t0.below (Nat.le_refl _) (fun _ _=>id),by simp,h1 id,h2 id,h3 id,h4 id,h5 id,h6 id⟩
set_option maxRecDepth 100000 in
set_option maxHeartbeats 4000000 in
theorem uy (w:World):Calls Tryz.prog 141 #[] w fun e w'=>Below w.heap.size w w'∧∃v,e= .returned v∧Cz w' (fun j=>w.heap.size≤j) v:=by
 obtain⟨W,hW⟩:∃W,((((((w.alloc (.cells #[.string ⟨#[111,114]⟩] 9)).alloc (.cells #[.string ⟨#[97,110,100]⟩] 9)).alloc (.cells #[.string ⟨#[43,43]⟩] 9)).alloc (.cells #[.string ⟨#[43]⟩, .string ⟨#[45]⟩, .string ⟨#[94]⟩] 9)).alloc (.cells #[.string ⟨#[42]⟩, .string ⟨#[47]⟩, .string ⟨#[37]⟩, .string ⟨#[38]⟩, .string ⟨#[60,60]⟩, .string ⟨#[62,62]⟩] 9)).alloc (.cells #[.slice (some ⟨w.heap.size,0,none⟩) 1 1, .slice (some ⟨w.heap.size+1,0,none⟩) 1 1, .slice none 0 0, .slice (some ⟨w.heap.size+1+1,0,none⟩) 1 1, .slice (some ⟨w.heap.size+1+1+1,0,none⟩) 3 3, .slice (some ⟨w.heap.size+1+1+1+1,0,none⟩) 6 6] 25))=W:=⟨_,rfl⟩
 obtain⟨hb,hs,h0,h1,h2,h3,h4,h5⟩:=six w _ _ _ _ _ _ W hW
 have HW:=hid hW
 have HH:=hid (And.intro hb (And.intro hs (And.intro h0 (And.intro h1 (And.intro h2 (And.intro h3 (And.intro h4 h5)))))))
 clear hW hb hs h0 h1 h2 h3 h4 h5
 go_enter Tryz.func141,Tryz.ntmps141
 go_wp2_with fail
 go_ret
 rw [HW.out]
 obtain⟨hb,hs,h0,h1,h2,h3,h4,h5⟩:=HH.out
 refine⟨hb, _,rfl, _,rfl,by omega,by omega,fun k hk=> ?_⟩
 have g5:=fun i=>cell_of_row W _ i _ _ _ h5
 obtain rfl | rfl | rfl | rfl | rfl | rfl:k=0∨k=1∨k=2∨k=3∨k=4∨k=5:=by omega
 ·exact⟨_, _, _,(g5 0).trans rfl,(gV h0 1 1 rfl (by omega)).mono (fun g _ h=>by omega)⟩
 ·exact⟨_, _, _,(g5 1).trans rfl,(gV h1 1 1 rfl (by omega)).mono (fun g _ h=>by omega)⟩
 ·exact⟨_, _, _,(g5 2).trans rfl,dh.nil _ _ _⟩
 ·exact⟨_, _, _,(g5 3).trans rfl,(gV h2 1 1 rfl (by omega)).mono (fun g _ h=>by omega)⟩
 ·exact⟨_, _, _,(g5 4).trans rfl,(gV h3 1 3 rfl (by omega)).mono (fun g _ h=>by omega)⟩
 ·exact⟨_, _, _,(g5 5).trans rfl,(gV h4 1 6 rfl (by omega)).mono (fun g _ h=>by omega)⟩
end Go.Proofs.YtmbppnbekkbibaaGreatDoor
end
