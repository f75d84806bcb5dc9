/- HB, HE, HD, HF -/
import Derived.Test.YtmbppnbekkbibaaGreatDoorPB10
import Derived.Test.YtmbppnbekkbibaaGreatDoorPB05
set_option linter.unusedSimpArgs false
set_option linter.unusedVariables false
section
set_option linter.unusedVariables false
namespace Go.Proofs.YtmbppnbekkbibaaGreatDoor
open Go.RowKit
theorem EX {k:Int} {ts r:List aF} {s:Bt} (h:dH k ts= .good s r):s=(aU ts).text:=by
 unfold dH at h
 split at h
 ·injection h with h _;exact h.symm
 ·cases h
set_option maxRecDepth 100000 in
set_option maxHeartbeats 8000000 in
theorem KG (d:Int) (typ:Ps bO) (expr:Ps bD) (hst:Sf typ) (hse:Sf expr) (qR:sH d typ) (yU:sN d expr):NR d (kW typ expr):=by
 intro w bp B ts h
 have hlt:=h.lt
 have hB:=h.1
 have hlaid:=h.laid
 have EY:=h.2.1
 obtain⟨Q,hQ⟩:∃Q,kW typ expr ts=Q:=⟨_,rfl⟩
 rw [hQ]
 obtain⟨t0,ht0⟩:∃t0,aU ts=t0:=⟨_,rfl⟩
 have HQ:Hid ((if t0.kind=3 then au (dH 3) fun s=>aG (aJ 0 [] (eP s).1 t0 [] [] [])
  else if t0.kind=4 then au (dH 4) fun s=>aG (aJ 1 s 0 t0 [] [] [])
  else au (bS qJ) (fun i=>match i with
   | none=>j4 typ t0
   | some 0=>aG (aJ 2 [] 0 t0 [] [] [])
   | some 1=>aG (aJ 2 [] 1 t0 [] [] [])
   | some 2=>aG (aJ 3 [] 0 t0 [] [] [])
   | some 3=>au (iZ [[40],[41]]) fun _=>aG (aJ 18 [] 0 t0 [] [] [])
   | some 4=>au (bJ expr [[40]] []) fun k=>au (aH [41]) fun _=>aG (aJ 17 [] 0 t0 [] [] k)
   | some 5=>au expr fun x=>au (aH [41]) fun _=>aG x
   | some _=>au (rX expr t0) fun x=>au (aH [125]) fun _=>aG x)) ts=Q):=hid (by subst ht0;exact hQ)
 have PY:=hid EY
 have ze:=hid h.wf
 have Nt:=hid hlaid
 have BX:=hid ht0
 have HH:=hid (mX d (w.alloc (.cells #[.int .i64 0, .string ⟨#[]⟩, .int .i64 0, .int .i64 0, .int .i64 0, .slice none 0 0, .slice none 0 0, .slice none 0 0] 49)) bp B ts (h.below (new1 _ _)) 0)
 rw [ht0]at HH
 have CB:=hid (h.below (new1 w (.cells #[.int .i64 0, .string ⟨#[]⟩, .int .i64 0, .int .i64 0, .int .i64 0, .slice none 0 0, .slice none 0 0, .slice none 0 0] 49)))
 clear h hQ hlaid EY
 go_enter Tryz.func188,Tryz.ntmps188
 go_wp2_with fail
 refine(HH.out).mono ?_
 rintro e w2 ⟨rfl,hb2⟩
 obtain⟨tm,hs2,hrs⟩:=bq (Turn.of_below (F:=fun k=>k=bp) hb2)
 have HT2:=hid tm
 have jV:=hid (CB.out.below hb2)
 have sQ:=hid (hrs (by omega))
 have HN:=hid (jq (w2.alloc (.cells (mW 0 t0) 49)) bp B ts d (jV.out.below (new1 _ _)))
 rw [ht0]at HN
 clear hb2 tm hrs ht0
 go_wp2_with fail
 refine(HN.out).mono ?_
 rintro e w3 ⟨rfl,hb3⟩
 obtain⟨tm,hs3,hnb⟩:=bq (Turn.of_below (F:=fun k=>k=bp) hb3)
 have HT3:=hid (aA HT2.out tm)
 have jm:=hid ((jV.out.below (new1 _ _)).below hb3)
 have iR:=hid (ah sQ.out tm (by omega))
 have sS:=hnb (by omega)
 have kG:=hid sS
 have Ph:¬w2.heap.size=w.heap.size:=by omega
 have Pj:¬w.heap.size=w2.heap.size:=by omega
 have aaj:¬w2.heap.size=w3.heap.size:=by omega
 have aak:¬w3.heap.size=w2.heap.size:=by omega
 have hlt2:w2.heap.size<w3.heap.size:=by omega
 obtain⟨m0,m1,m2,m3,m4,m5,m6,m7,mz⟩:=aN sS
 clear hb3 tm hnb sS
 unfold nL
 by_cases h3:t0.kind=3
 ·have hb3:(t0.kind==3)=true:=by simp [h3]
  have gU:Hid (au (dH 3) (fun s=>aG (aJ 0 [] (eP s).1 t0 [] [] [])) ts=Q):=hid (by have:=HQ.out;rwa [if_pos h3]at this)
  have H3:=hid h3
  have t6:=(ak w3 w2.heap.size 0 (.int .i64 0)).trans (Turn.alloc (fun k=>k=w2.heap.size) _ (.cells #[.int .i64 t0.kind,sv t0.text, .int .i64 (t0.line:Nat), .int .i64 (t0.col:Nat)] 70)) (fun _ _ h=>h)
  obtain⟨W6,Gg⟩:∃W6,(w3.setCell ⟨w2.heap.size,0,none⟩ (.int .i64 0)).alloc (.cells #[.int .i64 t0.kind,sv t0.text, .int .i64 (t0.line:Nat), .int .i64 (t0.col:Nat)] 70)=W6:=⟨_,rfl⟩
  have LX:=yT (w3.setCell ⟨w2.heap.size,0,none⟩ (.int .i64 0)) (.cells #[.int .i64 t0.kind,sv t0.text, .int .i64 (t0.line:Nat), .int .i64 (t0.col:Nat)] 70)
  rw [Gg]at t6 LX
  rw [show(w3.setCell ⟨w2.heap.size,0,none⟩ (.int .i64 0)).heap.size=w3.heap.size by simp]at LX
  have Kk:=hid (show W6.heap[w2.heap.size]? =some (.cells (mW 0 t0) 49 (0,0)) by rw [←Gg];exact bB (heap_setCell_same _ _ 0 _ _ (.int .i64 0) kG.out))
  have uX:=hid (jm.out.turn t6 (by omega) (fun k hk e=>by have:=jm.out.1;omega))
  have lF:=hid (HT3.out.trans t6 (fun i hi e=>by omega))
  have mE:=hid (ah iR.out t6 (by omega))
  have hs6:=t6.size
  have Mc:=(bK LX).1
  have PT:=hid (fun(w':World) (h:Turn (fun j=>j=bp) W6 w')=>aI Mc h (by omega))
  have HD0:Hid (Turn (fun j=>j=bp) W6 W6.drew):=hid ⟨rfl,rfl,rfl,Nat.le_refl _,fun _ _ _=>rfl⟩
  have sV:=hid (mP W6.drew bp B ts d uX.out 3)
  have Sy:=hid Gg
  clear h3 t6 LX Mc Gg
  go_wp2_with fail
  rw [Sy.out]
  refine bM (S:=fun w'=>Turn (fun j=>j=bp) W6 w') (x:=11) (by kernel_rfl) ?_
  try simp only [Act.put,List.getElem_toArray,List.getElem_cons_zero,List.getElem_cons_succ,List.setIfInBounds_toArray,List.set_cons_zero,List.set_cons_succ]
  refine tx 0 (.pointer (some ⟨bp,0,none⟩)) HD0.out ?_
  refine tx 1 (.pointer (some ⟨bp,0,none⟩)) HD0.out ?_
  refine tx 2 (.pointer (some ⟨bp,0,none⟩)) HD0.out ?_
  refine tx 3 (.pointer (some ⟨w3.heap.size,0,none⟩)) HD0.out ?_
  refine jW 4 (.int .i64 t0.kind) PT.out HD0.out ?_
  refine ay (rs:=[5]) (by kernel_rfl) (by simp) ?_
  refine av.cons rfl (fun K hK=> ?_) (av.nil)
  go_simp
  rw [H3.out]
  refine(sV.out).mono ?_
  rintro e w7 h7
  rcases hq:dH 3 ts with g | ⟨s,r7⟩
  ·obtain⟨rfl,tn,bn⟩:=h7.bF hq
   have bY:=hid (gU.out.symm.trans (aB hq))
   exact⟨rfl,aD.fail bY.out (dI.mk2 (aA lF.out (aA HD0.out tn)) bn)⟩
  ·obtain⟨v7,rfl,tn,rfl,kn⟩:=h7.aL hq
   have iL:=hid (aA HD0.out tn)
   have hs7:=iL.out.size
   have kP:=hid kn
   have vT:Hid (Pr.good (aJ 0 [] (eP s).1 t0 [] [] []) r7=Q):=hid ((aj hq).symm.trans gU.out)
   have aal:s.length≤100000:=by
    have e:=EX hq
    rw [e]
    exact PY.out.2 _ ze.out.rY
   clear h7 tn kn hq
   refine hK.out _ _ iL.out ?_
   clear hK K
   try simp only [Act.put,List.getElem_toArray,List.getElem_cons_zero,List.getElem_cons_succ,List.setIfInBounds_toArray,List.set_cons_zero,List.set_cons_succ]
   refine ay (rs:=[6]) (by kernel_rfl) (by simp) ?_
   refine av.cons rfl (fun K hK=> ?_) (av.nil)
   go_simp
   refine(zD ⟨s.toArray⟩ w7 (by show s.toArray.size≤ _;simp;omega) kP.out.laid.here).mono ?_
   rintro e w8 ⟨rfl,mD⟩
   have lH:=hid (aA iL.out (Turn.of_below (F:=fun k=>k=bp) mD))
   have uh:=mD.size
   have qw:=hid (kP.out.below mD)
   clear mD
   rw [show(ByteArray.mk s.toArray).data.toList=s from rfl]
   refine hK.out _ _ lH.out ?_
   clear hK K
   try simp only [Act.put,List.getElem_toArray,List.getElem_cons_zero,List.getElem_cons_succ,List.setIfInBounds_toArray,List.set_cons_zero,List.set_cons_succ]
   refine tx 7 (.tuple #[.int .i64 (eP s).1, .bool (eP s).2]) lH.out ?_
   refine tx 8 (.int .i64 (eP s).1) lH.out ?_
   refine tt 9 (.bool (eP s).2) (fun _=>lH.out) ?_
   refine tt 10 (.pointer (some ⟨w2.heap.size,2,none⟩)) (fun _=>lH.out) ?_
   have Km:=ah Kk.out lH.out (by omega)
   have P7:=ah mE.out lH.out (by omega)
   obtain⟨y0,y1,y2,y3,y4,y5,y6,y7,yz⟩:=aN Km
   obtain⟨c0,c1,c2,c3,c4,c5,c6,c7,cz⟩:=aN P7
   have t9:=ak w8 w2.heap.size 2 (.int .i64 (eP s).1)
   have CS:=hid (ah P7 t9 (by omega))
   have Bz:=hid (qw.out.turn t9 (by omega) (fun k hk e=>by have:=jm.out.1;omega))
   have xU:=hid ((aA lF.out lH.out).trans t9 (fun i hi e=>by omega))
   clear m0 m1 m2 m3 m4 m5 m6 m7 mz Km P7 t9
   refine ay (rs:=[11]) (by kernel_rfl) (by simp) ?_
   refine av.past rfl (by kernel_rfl) (fun K hK=> ?_) (av.nil)
   go_simp
   refine hK.out _ _ ?_
   clear hK K
   try simp only [Act.put,List.getElem_toArray,List.getElem_cons_zero,List.getElem_cons_succ,List.setIfInBounds_toArray,List.set_cons_zero,List.set_cons_succ]
   refine aO (by kernel_rfl) ?_ _
   go_wp2_with fail
   have tF:=aY (w8.setCell ⟨w2.heap.size,2,none⟩ (.int .i64 (eP s).1)) w.heap.size (.int .i64 0) (.string ⟨#[]⟩) (.int .i64 (eP s).1) (.int .i64 (t0.line:Nat)) (.int .i64 (t0.col:Nat)) (.slice none 0 0) (.slice none 0 0) (.slice none 0 0)
   refine bodyPost_ret (aW rfl rfl (aP CS.out _ _ _ _ _ _ _ _) Tryz.underlying49 rfl (by kernel_rfl)) rfl ?_
   exact aD.done vT.out.symm (bC xU.out (by omega)) ⟨_,rfl, .mk (dh.nil _ _ _) .nil (dh.nil _ _ _) (dh.nil _ _ _) .nil⟩ (Bz.out.eY (by omega))
 ·have hb3:(t0.kind==3)=false:=by simp [h3]
  have Rx:Hid ((if t0.kind=4 then au (dH 4) (fun s=>aG (aJ 1 s 0 t0 [] [] []))else au (bS qJ) (fun i=>match i with
    | none=>j4 typ t0
    | some 0=>aG (aJ 2 [] 0 t0 [] [] [])
    | some 1=>aG (aJ 2 [] 1 t0 [] [] [])
    | some 2=>aG (aJ 3 [] 0 t0 [] [] [])
    | some 3=>au (iZ [[40],[41]]) fun _=>aG (aJ 18 [] 0 t0 [] [] [])
    | some 4=>au (bJ expr [[40]] []) fun k=>au (aH [41]) fun _=>aG (aJ 17 [] 0 t0 [] [] k)
    | some 5=>au expr fun x=>au (aH [41]) fun _=>aG x
    | some _=>au (rX expr t0) fun x=>au (aH [125]) fun _=>aG x)) ts=Q):=hid (by have:=HQ.out;rwa [if_neg h3]at this)
  clear h3 HQ
  by_cases h4:t0.kind=4
  ·have hb4:(t0.kind==4)=true:=by simp [h4]
   have gU:Hid (au (dH 4) (fun s=>aG (aJ 1 s 0 t0 [] [] [])) ts=Q):=hid (by have:=Rx.out;rwa [if_pos h4]at this)
   have H4:=hid h4
   have t6:=Turn.alloc (fun _=>False) w3 (.cells #[.int .i64 t0.kind,sv t0.text, .int .i64 (t0.line:Nat), .int .i64 (t0.col:Nat)] 70)
   obtain⟨W6,Gg⟩:∃W6,w3.alloc (.cells #[.int .i64 t0.kind,sv t0.text, .int .i64 (t0.line:Nat), .int .i64 (t0.col:Nat)] 70)=W6:=⟨_,rfl⟩
   have LX:=yT w3 (.cells #[.int .i64 t0.kind,sv t0.text, .int .i64 (t0.line:Nat), .int .i64 (t0.col:Nat)] 70)
   rw [Gg]at t6 LX
   have Kk:=hid (ah kG.out t6 id)
   have uX:=hid (jm.out.turn t6 id (fun _ _=>id))
   have lF:=hid (HT3.out.trans t6 (fun i hi e=>e.elim))
   have mE:=hid (ah iR.out t6 id)
   have hs6:=t6.size
   have Mc:=(bK LX).1
   have PT:=hid (fun(w':World) (h:Turn (fun j=>j=bp∨j=w2.heap.size) W6 w')=>aI Mc h (by omega))
   have jX:Hid (Turn (fun j=>j=bp) W6 W6.drew):=hid ⟨rfl,rfl,rfl,Nat.le_refl _,fun _ _ _=>rfl⟩
   have HD0:=hid (jX.out.mono (G:=fun j=>j=bp∨j=w2.heap.size) (fun _ _ h=> .inl h))
   have sV:=hid (mP W6.drew bp B ts d uX.out 4)
   have Sy:=hid Gg
   clear h4 t6 LX Mc Gg
   go_wp2_with fail
   rw [Sy.out]
   refine bM (S:=fun w'=>Turn (fun j=>j=bp∨j=w2.heap.size) W6 w') (x:=9) (by kernel_rfl) ?_
   try simp only [Act.put,List.getElem_toArray,List.getElem_cons_zero,List.getElem_cons_succ,List.setIfInBounds_toArray,List.set_cons_zero,List.set_cons_succ]
   refine tx 0 (.pointer (some ⟨bp,0,none⟩)) HD0.out ?_
   refine tx 1 (.pointer (some ⟨bp,0,none⟩)) HD0.out ?_
   refine tx 2 (.pointer (some ⟨bp,0,none⟩)) HD0.out ?_
   refine tx 3 (.pointer (some ⟨w3.heap.size,0,none⟩)) HD0.out ?_
   refine jW 4 (.int .i64 t0.kind) PT.out HD0.out ?_
   refine ay (rs:=[5]) (by kernel_rfl) (by simp) ?_
   refine av.cons rfl (fun K hK=> ?_) (av.nil)
   go_simp
   rw [H4.out]
   refine(sV.out).mono ?_
   rintro e w7 h7
   rcases hq:dH 4 ts with g | ⟨s,r7⟩
   ·obtain⟨rfl,tn,bn⟩:=h7.bF hq
    have bY:=hid (gU.out.symm.trans (aB hq))
    exact⟨rfl,aD.fail bY.out (dI.mk2 (aA lF.out (aA jX.out tn)) bn)⟩
   ·obtain⟨v7,rfl,tn,rfl,kn⟩:=h7.aL hq
    have iL:=hid (aA jX.out tn)
    have hs7:=iL.out.size
    have kP:=hid kn
    have iM:=hid (iL.out.mono (G:=fun j=>j=bp∨j=w2.heap.size) (fun _ _ h=> .inl h))
    have YM:=hid (iM.out.trans (ak w7 w2.heap.size 0 (.int .i64 1)) (fun _ _ h=> .inr h))
    have vT:Hid (Pr.good (aJ 1 s 0 t0 [] [] []) r7=Q):=hid ((aj hq).symm.trans gU.out)
    have qZ:=ah Kk.out iL.out (by omega)
    have P8:=ah mE.out iL.out (by omega)
    obtain⟨y0,y1,y2,y3,y4,y5,y6,y7,yz⟩:=aN qZ
    obtain⟨c0,c1,c2,c3,c4,c5,c6,c7,cz⟩:=aN P8
    have t9:=(ak w7 w2.heap.size 0 (.int .i64 1)).trans (ak _ w2.heap.size 1 (sv s)) (fun _ _ h=>h)
    have CS:=hid (ah P8 t9 (by omega))
    have Bz:=hid (kn.turn t9 (by omega) (fun k hk e=>by have:=jm.out.1;omega))
    have xU:=hid ((aA lF.out iL.out).trans t9 (fun i hi e=>by omega))
    clear h7 tn kn hq m0 m1 m2 m3 m4 m5 m6 m7 mz qZ P8 t9
    refine hK.out _ _ iM.out ?_
    clear hK K
    try simp only [Act.put,List.getElem_toArray,List.getElem_cons_zero,List.getElem_cons_succ,List.setIfInBounds_toArray,List.set_cons_zero,List.set_cons_succ]
    refine tt 6 (.pointer (some ⟨w2.heap.size,0,none⟩)) (fun _=>iM.out) ?_
    refine ay (rs:=[7]) (by kernel_rfl) (by simp) ?_
    refine av.cons rfl (fun K hK=> ?_) (av.nil)
    go_simp
    refine hK.out _ _ YM.out ?_
    clear hK K
    try simp only [Act.put,List.getElem_toArray,List.getElem_cons_zero,List.getElem_cons_succ,List.setIfInBounds_toArray,List.set_cons_zero,List.set_cons_succ]
    refine tt 8 (.pointer (some ⟨w2.heap.size,1,none⟩)) (fun _=>YM.out) ?_
    refine ay (rs:=[9]) (by kernel_rfl) (by simp) ?_
    refine av.past rfl (by kernel_rfl) (fun K hK=> ?_) (av.nil)
    go_simp
    refine hK.out _ _ ?_
    clear hK K
    try simp only [Act.put,List.getElem_toArray,List.getElem_cons_zero,List.getElem_cons_succ,List.setIfInBounds_toArray,List.set_cons_zero,List.set_cons_succ]
    refine aO (by kernel_rfl) ?_ _
    go_wp2_with fail
    have tF:=aY ((w7.setCell ⟨w2.heap.size,0,none⟩ (.int .i64 1)).setCell ⟨w2.heap.size,1,none⟩ (sv s)) w.heap.size (.int .i64 1) (sv s) (.int .i64 0) (.int .i64 (t0.line:Nat)) (.int .i64 (t0.col:Nat)) (.slice none 0 0) (.slice none 0 0) (.slice none 0 0)
    refine bodyPost_ret (aW rfl rfl (aP CS.out _ _ _ _ _ _ _ _) Tryz.underlying49 rfl (by kernel_rfl)) rfl ?_
    exact aD.done vT.out.symm (bC xU.out (by omega)) ⟨_,rfl, .mk (dh.nil _ _ _) .nil (dh.nil _ _ _) (dh.nil _ _ _) .nil⟩ (Bz.out.eY (by omega))
  ·have hb4:(t0.kind==4)=false:=by simp [h4]
   have gU:Hid (au (bS qJ) (fun i=>match i with
     | none=>j4 typ t0
     | some 0=>aG (aJ 2 [] 0 t0 [] [] [])
     | some 1=>aG (aJ 2 [] 1 t0 [] [] [])
     | some 2=>aG (aJ 3 [] 0 t0 [] [] [])
     | some 3=>au (iZ [[40],[41]]) fun _=>aG (aJ 18 [] 0 t0 [] [] [])
     | some 4=>au (bJ expr [[40]] []) fun k=>au (aH [41]) fun _=>aG (aJ 17 [] 0 t0 [] [] k)
     | some 5=>au expr fun x=>au (aH [41]) fun _=>aG x
     | some _=>au (rX expr t0) fun x=>au (aH [125]) fun _=>aG x) ts=Q):=hid (by have:=Rx.out;rwa [if_neg h4]at this)
   have HC:=hid (kY (w3.alloc (.cells #[.int .i64 t0.kind,sv t0.text, .int .i64 (t0.line:Nat), .int .i64 (t0.col:Nat)] 70)) bp B ts d (jm.out.below (new1 _ _)) qJ #[.string ⟨#[102,97,108,115,101]⟩, .string ⟨#[116,114,117,101]⟩, .string ⟨#[110,117,108,108]⟩, .string ⟨#[114,101,97,100]⟩, .string ⟨#[112,114,105,110,116]⟩, .string ⟨#[40]⟩, .string ⟨#[123]⟩] 9 7 (w3.heap.size+1))
   clear h4 Rx
   go_wp2_with fail
   refine(HC.out).mono ?_
   rintro e w4 h4
   rcases hq:bS qJ ts with g | ⟨o,r4⟩
   ·exact(fG hq).elim
   ·obtain⟨v4,rfl,tn,rfl,kn⟩:=h4.aL hq
    have tm:=(bq tn).1
    have hs4:=tm.size
    have fM:=hid (aA HT3.out tm)
    have jB:=hid kn
    have P9:=ah iR.out tm (by omega)
    have ig:=hid P9
    have oZ:=ah kG.out tm (by omega)
    have lT:=hid oZ
    have fu:=hid hq
    obtain⟨y0,y1,y2,y3,y4,y5,y6,y7,yz⟩:=aN oZ
    obtain⟨c0,c1,c2,c3,c4,c5,c6,c7,cz⟩:=aN P9
    clear h4 tn tm kn hq oZ P9 m0 m1 m2 m3 m4 m5 m6 m7 mz
    rcases o with _ | i
    ·have gK:Hid (j4 typ t0 r4=Q):=hid ((aj fu.out).symm.trans gU.out)
     have HP:=hid (EO d typ hst qR w4 bp B r4 jB.out t0)
     go_wp2_with fail
     refine(HP.out).mono ?_
     rintro e w5 h5
     rcases hq:j4 typ t0 r4 with g | ⟨x,r5⟩
     ·obtain⟨rfl,tn,bn⟩:=h5.bF hq
      have HB:=hid (dI.mk2 (aA fM.out tn) bn)
      have bY:=hid (gK.out.symm.trans hq)
      clear h5 tn bn hq
      go_wp2_with fail
      exact⟨rfl,aD.fail bY.out HB.out⟩
     ·obtain⟨v5,rfl,tn,⟨z5,rfl,hz⟩,kn⟩:=h5.aL hq
      obtain⟨k4,s4,n4,l4,o4,lI,n14,c14,lJ,n24,c24,nQ,n34,c34,rfl⟩:=hz.shape'
      have hs5:=tn.size
      have fI:=hid (aA fM.out tn)
      have lQ:=hid kn
      have iw:=hid (ah ig.out tn (by omega))
      have uW:=hid hz.iv
      have rD:=hid (hq.symm.trans gK.out)
      clear c0 c1 c2 c3 c4 c5 c6 c7 cz
      obtain⟨c0,c1,c2,c3,c4,c5,c6,c7,cz⟩:=aN iw.out
      clear h5 tn hz kn hq
      go_wp2_with fail
      have tF:=aY w5 w.heap.size (.int .i64 k4) (sv s4) (.int .i64 n4) (.int .i64 l4) (.int .i64 o4) (.slice lI n14 c14) (.slice lJ n24 c24) (.slice nQ n34 c34)
      refine bodyPost_ret (aW rfl rfl (aP iw.out _ _ _ _ _ _ _ _) Tryz.underlying49 rfl (by kernel_rfl)) rfl ?_
      exact aD.done rD.out.symm (bC fI.out (by omega)) ⟨_,rfl,(uW.out.turn tF (fun g _ h e=>by have:=h.1;omega)).mono (fun g _ h=>by have:=h.1;omega)⟩ (lQ.out.eY (by omega))
    ·have hi:=jN fu.out
     simp only [qJ,List.length_cons,List.length_nil]at hi
     obtain rfl | rfl | rfl | rfl | rfl | rfl | rfl:i=0∨i=1∨i=2∨i=3∨i=4∨i=5∨i=6:=by omega
     ·have gK:Hid (Pr.good (aJ 2 [] 0 t0 [] [] []) r4=Q):=hid ((aj fu.out).symm.trans gU.out)
      have tS:=((ak w4 w2.heap.size 0 (.int .i64 2)).trans (ak _ w2.heap.size 2 (.int .i64 0)) (fun _ _ h=>h))
      have lU:=hid (show((w4.setCell ⟨w2.heap.size,0,none⟩ (.int .i64 2)).setCell ⟨w2.heap.size,2,none⟩ (.int .i64 0)).heap[w2.heap.size]? =some (.cells #[.int .i64 2, .string ⟨#[]⟩, .int .i64 0, .int .i64 (t0.line:Nat), .int .i64 (t0.col:Nat), .slice none 0 0, .slice none 0 0, .slice none 0 0] 49 (0,0))from(heap_setCell_same _ _ 2 _ _ (.int .i64 0) (heap_setCell_same _ _ 0 _ _ (.int .i64 2) lT.out)))
      have lQ:=hid (jB.out.turn tS (by omega) (fun k hk e=>by have:=jm.out.1;omega))
      have fI:=hid (fM.out.trans tS (fun i hi e=>by omega))
      have iw:=hid (ah ig.out tS (by omega))
      have NT:(((w4.setCell ⟨w2.heap.size,0,none⟩ (.int .i64 2)).setCell ⟨w2.heap.size,2,none⟩ (.int .i64 0))).heap.size=w4.heap.size:=by simp
      clear tS
      go_wp2_with fail
      have tF:=aY ((w4.setCell ⟨w2.heap.size,0,none⟩ (.int .i64 2)).setCell ⟨w2.heap.size,2,none⟩ (.int .i64 0)) w.heap.size (.int .i64 2) (.string ⟨#[]⟩) (.int .i64 0) (.int .i64 (t0.line:Nat)) (.int .i64 (t0.col:Nat)) (.slice none 0 0) (.slice none 0 0) (.slice none 0 0)
      refine bodyPost_ret (aW rfl rfl (aP iw.out _ _ _ _ _ _ _ _) Tryz.underlying49 rfl (by kernel_rfl)) rfl ?_
      exact aD.done gK.out.symm (bC fI.out (by omega)) ⟨_,rfl, .mk (dh.nil _ _ _) .nil (dh.nil _ _ _) (dh.nil _ _ _) .nil⟩ (lQ.out.eY (by omega))
     ·have gK:Hid (Pr.good (aJ 2 [] 1 t0 [] [] []) r4=Q):=hid ((aj fu.out).symm.trans gU.out)
      have tS:=((ak w4 w2.heap.size 0 (.int .i64 2)).trans (ak _ w2.heap.size 2 (.int .i64 1)) (fun _ _ h=>h))
      have lU:=hid (show((w4.setCell ⟨w2.heap.size,0,none⟩ (.int .i64 2)).setCell ⟨w2.heap.size,2,none⟩ (.int .i64 1)).heap[w2.heap.size]? =some (.cells #[.int .i64 2, .string ⟨#[]⟩, .int .i64 1, .int .i64 (t0.line:Nat), .int .i64 (t0.col:Nat), .slice none 0 0, .slice none 0 0, .slice none 0 0] 49 (0,0))from(heap_setCell_same _ _ 2 _ _ (.int .i64 1) (heap_setCell_same _ _ 0 _ _ (.int .i64 2) lT.out)))
      have lQ:=hid (jB.out.turn tS (by omega) (fun k hk e=>by have:=jm.out.1;omega))
      have fI:=hid (fM.out.trans tS (fun i hi e=>by omega))
      have iw:=hid (ah ig.out tS (by omega))
      have NT:(((w4.setCell ⟨w2.heap.size,0,none⟩ (.int .i64 2)).setCell ⟨w2.heap.size,2,none⟩ (.int .i64 1))).heap.size=w4.heap.size:=by simp
      clear tS
      go_wp2_with fail
      have tF:=aY ((w4.setCell ⟨w2.heap.size,0,none⟩ (.int .i64 2)).setCell ⟨w2.heap.size,2,none⟩ (.int .i64 1)) w.heap.size (.int .i64 2) (.string ⟨#[]⟩) (.int .i64 1) (.int .i64 (t0.line:Nat)) (.int .i64 (t0.col:Nat)) (.slice none 0 0) (.slice none 0 0) (.slice none 0 0)
      refine bodyPost_ret (aW rfl rfl (aP iw.out _ _ _ _ _ _ _ _) Tryz.underlying49 rfl (by kernel_rfl)) rfl ?_
      exact aD.done gK.out.symm (bC fI.out (by omega)) ⟨_,rfl, .mk (dh.nil _ _ _) .nil (dh.nil _ _ _) (dh.nil _ _ _) .nil⟩ (lQ.out.eY (by omega))
     ·have gK:Hid (Pr.good (aJ 3 [] 0 t0 [] [] []) r4=Q):=hid ((aj fu.out).symm.trans gU.out)
      have tS:=(ak w4 w2.heap.size 0 (.int .i64 3))
      have lU:=hid (show(w4.setCell ⟨w2.heap.size,0,none⟩ (.int .i64 3)).heap[w2.heap.size]? =some (.cells #[.int .i64 3, .string ⟨#[]⟩, .int .i64 0, .int .i64 (t0.line:Nat), .int .i64 (t0.col:Nat), .slice none 0 0, .slice none 0 0, .slice none 0 0] 49 (0,0))from(heap_setCell_same _ _ 0 _ _ (.int .i64 3) lT.out))
      have lQ:=hid (jB.out.turn tS (by omega) (fun k hk e=>by have:=jm.out.1;omega))
      have fI:=hid (fM.out.trans tS (fun i hi e=>by omega))
      have iw:=hid (ah ig.out tS (by omega))
      have NT:((w4.setCell ⟨w2.heap.size,0,none⟩ (.int .i64 3))).heap.size=w4.heap.size:=by simp
      clear tS
      go_wp2_with fail
      have tF:=aY (w4.setCell ⟨w2.heap.size,0,none⟩ (.int .i64 3)) w.heap.size (.int .i64 3) (.string ⟨#[]⟩) (.int .i64 0) (.int .i64 (t0.line:Nat)) (.int .i64 (t0.col:Nat)) (.slice none 0 0) (.slice none 0 0) (.slice none 0 0)
      refine bodyPost_ret (aW rfl rfl (aP iw.out _ _ _ _ _ _ _ _) Tryz.underlying49 rfl (by kernel_rfl)) rfl ?_
      exact aD.done gK.out.symm (bC fI.out (by omega)) ⟨_,rfl, .mk (dh.nil _ _ _) .nil (dh.nil _ _ _) (dh.nil _ _ _) .nil⟩ (lQ.out.eY (by omega))
     ·have gK:Hid (au (iZ [[40],[41]]) (fun _=>aG (aJ 18 [] 0 t0 [] [] [])) r4=Q):=hid ((aj fu.out).symm.trans gU.out)
      have tS:=(ak w4 w2.heap.size 0 (.int .i64 18))
      have lU:=hid (show(w4.setCell ⟨w2.heap.size,0,none⟩ (.int .i64 18)).heap[w2.heap.size]? =some (.cells #[.int .i64 18, .string ⟨#[]⟩, .int .i64 0, .int .i64 (t0.line:Nat), .int .i64 (t0.col:Nat), .slice none 0 0, .slice none 0 0, .slice none 0 0] 49 (0,0))from(heap_setCell_same _ _ 0 _ _ (.int .i64 18) lT.out))
      have lQ:=hid (jB.out.turn tS (by omega) (fun k hk e=>by have:=jm.out.1;omega))
      have fI:=hid (fM.out.trans tS (fun i hi e=>by omega))
      have iw:=hid (ah ig.out tS (by omega))
      have NT:((w4.setCell ⟨w2.heap.size,0,none⟩ (.int .i64 18))).heap.size=w4.heap.size:=by simp
      clear tS
      have HP:=hid (Ck ((w4.setCell ⟨w2.heap.size,0,none⟩ (.int .i64 18)).alloc (.cells #[.string ⟨#[40]⟩, .string ⟨#[41]⟩] 9)) bp B r4 d (lQ.out.below (new1 _ _)) (.slice (some ⟨w4.heap.size,0,none⟩) 2 2) [[40],[41]] (AJ _ _ NT.symm [[40],[41]] #[.string ⟨#[40]⟩, .string ⟨#[41]⟩] 9 2 rfl rfl (by decide)) (by simp))
      go_wp2_with fail
      refine(HP.out).mono ?_
      rintro e w5 h5
      rcases hq:iZ [[40],[41]] r4 with g | ⟨u,r5⟩
      ·obtain⟨rfl,tn,bn⟩:=h5.bF hq
       have tn:=(bq tn).1
       have HB:=hid (dI.mk2 (aA fI.out tn) bn)
       have bY:=hid (gK.out.symm.trans (aB hq))
       clear h5 tn bn hq
       go_wp2_with fail
       exact⟨rfl,aD.fail bY.out HB.out⟩
      ·obtain⟨v5,rfl,tn, -,kn⟩:=h5.aL hq
       have tn:=(bq tn).1
       have hsA:=tn.size
       rw [NT]at hsA
       have hs6:=tn.size
       have lF:=hid (aA fI.out tn)
       have uX:=hid kn
       have mE:=hid (ah iw.out tn (by omega))
       have zk:=ah lU.out tn (by omega)
       have rD:Hid (Pr.good (aJ 18 [] 0 t0 [] [] []) r5=Q):=hid ((aj hq).symm.trans gK.out)
       clear y0 y1 y2 y3 y4 y5 y6 y7 yz c0 c1 c2 c3 c4 c5 c6 c7 cz
       obtain⟨y0,y1,y2,y3,y4,y5,y6,y7,yz⟩:=aN zk
       obtain⟨c0,c1,c2,c3,c4,c5,c6,c7,cz⟩:=aN mE.out
       clear h5 tn kn hq zk
       go_wp2_with fail
       have tF:=aY w5 w.heap.size (.int .i64 18) (.string ⟨#[]⟩) (.int .i64 0) (.int .i64 (t0.line:Nat)) (.int .i64 (t0.col:Nat)) (.slice none 0 0) (.slice none 0 0) (.slice none 0 0)
       refine bodyPost_ret (aW rfl rfl (aP mE.out _ _ _ _ _ _ _ _) Tryz.underlying49 rfl (by kernel_rfl)) rfl ?_
       exact aD.done rD.out.symm (bC lF.out (by omega)) ⟨_,rfl, .mk (dh.nil _ _ _) .nil (dh.nil _ _ _) (dh.nil _ _ _) .nil⟩ (uX.out.eY (by omega))
     ·have gK:Hid (au (bJ expr [[40]] []) (fun k=>au (aH [41]) fun _=>aG (aJ 17 [] 0 t0 [] [] k)) r4=Q):=hid ((aj fu.out).symm.trans gU.out)
      have tS:=(ak w4 w2.heap.size 0 (.int .i64 17))
      have lU:=hid (show(w4.setCell ⟨w2.heap.size,0,none⟩ (.int .i64 17)).heap[w2.heap.size]? =some (.cells #[.int .i64 17, .string ⟨#[]⟩, .int .i64 0, .int .i64 (t0.line:Nat), .int .i64 (t0.col:Nat), .slice none 0 0, .slice none 0 0, .slice none 0 0] 49 (0,0))from(heap_setCell_same _ _ 0 _ _ (.int .i64 17) lT.out))
      have lQ:=hid (jB.out.turn tS (by omega) (fun k hk e=>by have:=jm.out.1;omega))
      have fI:=hid (fM.out.trans tS (fun i hi e=>by omega))
      have iw:=hid (ah ig.out tS (by omega))
      have NT:((w4.setCell ⟨w2.heap.size,0,none⟩ (.int .i64 17))).heap.size=w4.heap.size:=by simp
      clear tS
      have sV:=hid (iU d expr yU ((w4.setCell ⟨w2.heap.size,0,none⟩ (.int .i64 17)).alloc (.cells #[.string ⟨#[40]⟩] 9)) bp B w2.heap.size (w2.heap.size+1) (fun j=>w2.heap.size+1≤j) r4 (lQ.out.below (new1 _ _)) (.int .i64 17) (.string ⟨#[]⟩) (.int .i64 0) (.int .i64 (t0.line:Nat)) (.int .i64 (t0.col:Nat)) (.slice none 0 0) (.slice none 0 0) (.slice none 0 0) [] (bB lU.out) (fF.nil _ _ _ _ _ _) (.slice (some ⟨((w4.setCell ⟨w2.heap.size,0,none⟩ (.int .i64 17))).heap.size,0,none⟩) 1 1) [[40]] ((iA ((w4.setCell ⟨w2.heap.size,0,none⟩ (.int .i64 17))) #[.string ⟨#[40]⟩] 9 1 1 rfl (by decide)).mono (fun g _ h=>⟨by omega,by omega,fun e=>by cases e⟩)) (by decide) (by simp) (by omega) (by omega) (by simp;omega) (by omega) (by omega) (fun j hj=>by simp at hj;omega))
      rw [NT]at sV
      go_wp2_with fail
      refine(sV.out).mono ?_
      rintro e w5 h5
      rcases hq:bJ expr [[40]] [] r4 with g | ⟨ks,r5⟩
      ·obtain⟨rfl,tn,bn⟩:=h5.bF hq
       have tn:=(bq tn).1
       have HB:=hid (dI.mk2 (fI.out.trans tn (fun i hi e=>by rcases e with e | e | e;exact e;omega;cases e)) bn)
       have bY:=hid (gK.out.symm.trans (aB hq))
       clear h5 tn bn hq
       go_wp2_with fail
       exact⟨rfl,aD.fail bY.out HB.out⟩
      ·obtain⟨rfl,tn,⟨vk,mD,tL⟩,kn⟩:=h5.aL hq
       have tk:=(bq tn).1
       have uh:=tk.size
       rw [NT]at uh
       obtain⟨A8,c8,PW, _, _⟩:=tL.shape
       subst PW
       have lH:=hid (fI.out.trans tk (fun i hi e=>by rcases e with e | e | e;exact e;omega;cases e))
       have iV:=hid (ah iw.out tk (fun e=>by rcases e with e | e | e;omega;omega;cases e))
       have qw:=hid kn
       have NS:=hid tL
       have lV:=hid mD
       have L8:Hid (au (aH [41]) (fun _=>aG (aJ 17 [] 0 t0 [] [] ks)) r5=Q):=hid ((aj hq).symm.trans gK.out)
       have HN:=hid (dM w5 bp B r5 d kn [41] 9 w5.heap.size)
       clear h5 tn tk mD tL kn hq
       go_wp2_with fail
       refine(HN.out).mono ?_
       rintro e w6 h5
       rcases hq:aH [41] r5 with g | ⟨u,r6⟩
       ·obtain⟨rfl,tn,bn⟩:=h5.bF hq
        have HB:=hid (dI.mk2 (aA lH.out tn) bn)
        have bY:=hid (L8.out.symm.trans (aB hq))
        clear h5 tn bn hq
        go_wp2_with fail
        exact⟨rfl,aD.fail bY.out HB.out⟩
       ·obtain⟨v6,rfl,tn, -,kn⟩:=h5.aL hq
        have DR:=NS.out.turn aT tn (fun g hg e=>by have:=(NS.out.lt g hg).1;omega) (fun g _ hg e=>by omega)
        have Kr:=hid DR
        clear DR
        have YK:=tn.size
        have xU:=hid (aA lH.out tn)
        have Bz:=hid kn
        have CS:=hid (ah iV.out tn (by omega))
        have Sz:=ah lV.out tn (by omega)
        have Jk:Hid (Pr.good (aJ 17 [] 0 t0 [] [] ks) r6=Q):=hid ((aj hq).symm.trans L8.out)
        clear y0 y1 y2 y3 y4 y5 y6 y7 yz c0 c1 c2 c3 c4 c5 c6 c7 cz
        obtain⟨y0,y1,y2,y3,y4,y5,y6,y7,yz⟩:=aN Sz
        obtain⟨c0,c1,c2,c3,c4,c5,c6,c7,cz⟩:=aN CS.out
        clear h5 tn kn hq Sz
        obtain⟨xs,q1,q2⟩:=Kr.out.sl aT
        have kF:=hid q1
        have jU:=hid q2
        clear q1 q2
        go_wp2_with fail
        have tF:=aY w6 w.heap.size (.int .i64 17) (.string ⟨#[]⟩) (.int .i64 0) (.int .i64 (t0.line:Nat)) (.int .i64 (t0.col:Nat)) (.slice none 0 0) (.slice none 0 0) (.slice A8 ks.length c8)
        refine bodyPost_ret (aW rfl rfl (aP CS.out _ _ _ _ _ _ _ _) Tryz.underlying49 rfl (by kernel_rfl)) rfl ?_
        exact aD.done Jk.out.symm (bC xU.out (by omega)) ⟨_,rfl, .mk (dh.nil _ _ _) .nil (dh.nil _ _ _) ((kF.out.turn tF (fun g _ h e=>by rcases h with h | h <;> omega)).mono (fun g _ h=>by rcases h with h | h <;> omega)) (jA (dB aT (fun g _ h=>by rcases h with h | h <;> omega) (bA aT tF (fun g _ h e=>by rcases h with h | h <;> omega) jU.out)))⟩ (Bz.out.eY (by omega))
     ·have gK:Hid (au expr (fun x=>au (aH [41]) fun _=>aG x) r4=Q):=hid ((aj fu.out).symm.trans gU.out)
      have HP:=hid (yU w4 bp B r4 jB.out)
      go_wp2_with fail
      refine(HP.out).mono ?_
      rintro e w5 h5
      rcases hq:expr r4 with g | ⟨x,r5⟩
      ·obtain⟨rfl,tn,bn⟩:=h5.bF hq
       have HB:=hid (dI.mk2 (aA fM.out tn) bn)
       have bY:=hid (gK.out.symm.trans (aB hq))
       clear h5 tn bn hq
       go_wp2_with fail
       exact⟨rfl,aD.fail bY.out HB.out⟩
      ·obtain⟨v5,rfl,tn,⟨z5,rfl,hz⟩,kn⟩:=h5.aL hq
       obtain⟨k4,s4,n4,l4,o4,lI,n14,c14,lJ,n24,c24,nQ,n34,c34,rfl⟩:=hz.shape'
       have hs5:=tn.size
       have kH:=ah lT.out tn (by omega)
       clear y0 y1 y2 y3 y4 y5 y6 y7 yz
       obtain⟨y0,y1,y2,y3,y4,y5,y6,y7,yz⟩:=aN kH
       have tP:=aY w5 w2.heap.size (.int .i64 k4) (sv s4) (.int .i64 n4) (.int .i64 l4) (.int .i64 o4) (.slice lI n14 c14) (.slice lJ n24 c24) (.slice nQ n34 c34)
       have fI:=hid ((aA fM.out tn).trans tP (fun i hi e=>by omega))
       have lQ:=hid (kn.eY (a:=w2.heap.size) (v0:= .int .i64 k4) (v1:=sv s4) (v2:= .int .i64 n4) (v3:= .int .i64 l4) (v4:= .int .i64 o4) (v5:= .slice lI n14 c14) (v6:= .slice lJ n24 c24) (v7:= .slice nQ n34 c34) (by omega))
       have iw:=hid (ah (ah ig.out tn (by omega)) tP (by omega))
       have lU:=hid (aP kH (.int .i64 k4) (sv s4) (.int .i64 n4) (.int .i64 l4) (.int .i64 o4) (.slice lI n14 c14) (.slice lJ n24 c24) (.slice nQ n34 c34))
       have uW:=hid ((hz.iv.turn tP (fun g _ h e=>by have:=h.1;omega)).mono (G:=Iv w4.heap.size w5.heap.size) (fun g _ h=>h))
       have hsP:=tP.size
       have rD:Hid (au (aH [41]) (fun _=>aG x) r5=Q):=hid ((aj hq).symm.trans gK.out)
       have HN:=hid (dM (vS w5 w2.heap.size (.int .i64 k4) (sv s4) (.int .i64 n4) (.int .i64 l4) (.int .i64 o4) (.slice lI n14 c14) (.slice lJ n24 c24) (.slice nQ n34 c34)) bp B r5 d lQ.out [41] 9 w5.heap.size)
       clear h5 tn tP hz kn hq kH
       go_wp2_with fail
       refine(HN.out).mono ?_
       rintro e w6 h5
       rcases hq:aH [41] r5 with g | ⟨u,r6⟩
       ·obtain⟨rfl,tn,bn⟩:=h5.bF hq
        have HB:=hid (dI.mk2 (aA fI.out tn) bn)
        have bY:=hid (rD.out.symm.trans (aB hq))
        clear h5 tn bn hq
        go_wp2_with fail
        exact⟨rfl,aD.fail bY.out HB.out⟩
       ·obtain⟨v6,rfl,tn, -,kn⟩:=h5.aL hq
        have Sg:=hid (uW.out.turn tn (fun g _ h e=>by have:=h.1;omega))
        have gK:=rD
        have hs7:=tn.size
        have iL:=hid (aA fI.out tn)
        have kP:=hid kn
        have qW:=hid (ah iw.out tn (by omega))
        have qZ:=ah lU.out tn (by omega)
        have vT:Hid (Pr.good (x) r6=Q):=hid ((aj hq).symm.trans gK.out)
        clear y0 y1 y2 y3 y4 y5 y6 y7 yz c0 c1 c2 c3 c4 c5 c6 c7 cz
        obtain⟨y0,y1,y2,y3,y4,y5,y6,y7,yz⟩:=aN qZ
        obtain⟨c0,c1,c2,c3,c4,c5,c6,c7,cz⟩:=aN qW.out
        clear h5 tn kn hq qZ
        go_wp2_with fail
        have tF:=aY w6 w.heap.size (.int .i64 k4) (sv s4) (.int .i64 n4) (.int .i64 l4) (.int .i64 o4) (.slice lI n14 c14) (.slice lJ n24 c24) (.slice nQ n34 c34)
        refine bodyPost_ret (aW rfl rfl (aP qW.out _ _ _ _ _ _ _ _) Tryz.underlying49 rfl (by kernel_rfl)) rfl ?_
        exact aD.done vT.out.symm (bC iL.out (by omega)) ⟨_,rfl,(Sg.out.turn tF (fun g _ h e=>by have:=h.1;omega)).mono (fun g _ h=>by have:=h.1;omega)⟩ (kP.out.eY (by omega))
     ·have gK:Hid (au (rX expr t0) (fun x=>au (aH [125]) fun _=>aG x) r4=Q):=hid ((aj fu.out).symm.trans gU.out)
      have HP:=hid (ER d expr hse yU w4 bp B w2.heap.size t0 r4 jB.out lT.out (by omega))
      go_wp2_with fail
      refine(HP.out).mono ?_
      rintro e w5 h5
      rcases hq:rX expr t0 r4 with g | ⟨x,r5⟩
      ·obtain⟨rfl,tn,bn⟩:=h5.bF hq
       have HB:=hid (dI.mk2 (fM.out.trans tn (fun i hi e=>by rcases e with e | e;exact e;omega)) bn)
       have bY:=hid (gK.out.symm.trans (aB hq))
       clear h5 tn bn hq
       go_wp2_with fail
       exact⟨rfl,aD.fail bY.out HB.out⟩
      ·obtain⟨v5,rfl,tn,⟨rfl,z5,hb5,hz⟩,kn⟩:=h5.aL hq
       obtain⟨k4,s4,n4,l4,o4,lI,n14,c14,lJ,n24,c24,nQ,n34,c34,rfl⟩:=hz.shape'
       have hs5:=tn.size
       have fI:=hid (fM.out.trans tn (fun i hi e=>by rcases e with e | e;exact e;omega))
       have lQ:=hid kn
       have iw:=hid (ah ig.out tn (fun e=>by rcases e with e | e <;> omega))
       have lU:=hid hb5
       have uW:=hid hz.iv
       have rD:Hid (au (aH [125]) (fun _=>aG x) r5=Q):=hid ((aj hq).symm.trans gK.out)
       have HN:=hid (dM w5 bp B r5 d kn [125] 9 w5.heap.size)
       clear h5 tn hz kn hq hb5
       go_wp2_with fail
       refine(HN.out).mono ?_
       rintro e w6 h5
       rcases hq:aH [125] r5 with g | ⟨u,r6⟩
       ·obtain⟨rfl,tn,bn⟩:=h5.bF hq
        have HB:=hid (dI.mk2 (aA fI.out tn) bn)
        have bY:=hid (rD.out.symm.trans (aB hq))
        clear h5 tn bn hq
        go_wp2_with fail
        exact⟨rfl,aD.fail bY.out HB.out⟩
       ·obtain⟨v6,rfl,tn, -,kn⟩:=h5.aL hq
        have Sg:=hid (uW.out.turn tn (fun g _ h e=>by have:=h.1;omega))
        have gK:=rD
        have hs7:=tn.size
        have iL:=hid (aA fI.out tn)
        have kP:=hid kn
        have qW:=hid (ah iw.out tn (by omega))
        have qZ:=ah lU.out tn (by omega)
        have vT:Hid (Pr.good (x) r6=Q):=hid ((aj hq).symm.trans gK.out)
        clear y0 y1 y2 y3 y4 y5 y6 y7 yz c0 c1 c2 c3 c4 c5 c6 c7 cz
        obtain⟨y0,y1,y2,y3,y4,y5,y6,y7,yz⟩:=aN qZ
        obtain⟨c0,c1,c2,c3,c4,c5,c6,c7,cz⟩:=aN qW.out
        clear h5 tn kn hq qZ
        go_wp2_with fail
        have tF:=aY w6 w.heap.size (.int .i64 k4) (sv s4) (.int .i64 n4) (.int .i64 l4) (.int .i64 o4) (.slice lI n14 c14) (.slice lJ n24 c24) (.slice nQ n34 c34)
        refine bodyPost_ret (aW rfl rfl (aP qW.out _ _ _ _ _ _ _ _) Tryz.underlying49 rfl (by kernel_rfl)) rfl ?_
        exact aD.done vT.out.symm (bC iL.out (by omega)) ⟨_,rfl,(Sg.out.turn tF (fun g _ h e=>by have:=h.1;omega)).mono (fun g _ h=>by have:=h.1;omega)⟩ (kP.out.eY (by omega))
end Go.Proofs.YtmbppnbekkbibaaGreatDoor
end
section
set_option linter.unusedVariables false
namespace Go.Proofs.YtmbppnbekkbibaaGreatDoor
open Go.RowKit
theorem Ir:sN 100 (ji 6):=by
 intro w bp B ts h
 have HE:=hid (qQ (w.alloc (.cells #[.int .i64 0, .string ⟨#[]⟩, .int .i64 0, .int .i64 0, .int .i64 0, .slice none 0 0, .slice none 0 0, .slice none 0 0] 49)) bp B ts (h.below (new1 _ _)))
 clear h
 go_enter_defers Tryz.func49,Tryz.ntmps49
 go_wp2_with fail
 refine(HE.out).mono ?_
 rintro e w1 ⟨rfl,hb⟩
 go_wp2_with fail
 exact aD.fail (P:=JX w.heap.size) (B:=B) (d:=100) (q:=ji 6 ts) rfl ⟨(bq hb.1).1,hb.2⟩
theorem KH (d:Int) (typ:Ps bO) (unary:Ps bD) (hst:Sf typ) (hsu:Sf unary) (qR:sH d typ) (HU:uD d unary):mZ d 0 (gG typ unary 6):=by
 have h6:mZ d 6 (gG typ unary 0):=Ke d unary HU
 have h5:mZ d 5 (gG typ unary 1):=ng d 5 (by omega) _ (Sf.rank hst hsu 0) h6
 have h4:mZ d 4 (gG typ unary 2):=ng d 4 (by omega) _ (Sf.rank hst hsu 1) h5
 have h3:mZ d 3 (gG typ unary 3):=ng d 3 (by omega) _ (Sf.rank hst hsu 2) h4
 have h2:mZ d 2 (gG typ unary 4):=Kg d _ (MJ d typ qR _ (Sf.rank hst hsu 3) h3)
 have h1:mZ d 1 (gG typ unary 5):=ng d 1 (by omega) _ (Sf.rank hst hsu 4) h2
 exact ng d 0 (by omega) _ (Sf.rank hst hsu 5) h1
theorem Gh:∀n:Nat,n≤100→sN (100 - (n:Int)) (bg n).expr∧uD (100 - (n:Int)) (bg n).unary
 | 0, _=>⟨Ir,EK⟩
 | n+1,h=>by
  obtain⟨Wd,YN⟩:=Gh n (by omega)
  have Wh:=wN n (by omega)
  obtain⟨s1,s2,s3⟩:=Sf.xA n
  have e:(100:Int) - ((n+1:Nat):Int)+1=100 - (n:Int):=by omega
  refine⟨Iq (100 - ((n+1:Nat):Int)) (by omega) (by omega) (bg n).typ (bg n).expr (bg n).unary s1 ?_ ?_ ?_,EJ (100 - ((n+1:Nat):Int)) (by omega) (by omega) (bg n).typ (bg n).expr (bg n).unary ?_ ?_⟩
  ·rw [e];exact Wh
  ·rw [e];exact Wd
  ·rw [e];exact KH _ _ _ s1 s3 Wh YN
  ·rw [e];exact YN
  ·rw [e];exact Kn _ _ _ s2 Wd (KG _ _ _ s1 s2 Wh Wd)
theorem CU (w:World) (bp B:Nat) (ts:List aF) (h:bE w bp B ts 0):Calls Tryz.prog 49 #[.pointer (some ⟨bp,0,none⟩)] w (aD (JX w.heap.size) bp B 0 w ((bg 100).expr ts)):=
 (Gh 100 (Nat.le_refl _)).1 w bp B ts h
theorem Gi (w:World) (bp B:Nat) (ts:List aF) (h:bE w bp B ts 0):Calls Tryz.prog 53 #[.pointer (some ⟨bp,0,none⟩)] w (aD (Ux w.heap.size) bp B 0 w ((bg 100).typ ts)):=
 wN 100 (Nat.le_refl _) w bp B ts h
end Go.Proofs.YtmbppnbekkbibaaGreatDoor
end
section
set_option linter.unusedVariables false
namespace Go.Proofs.YtmbppnbekkbibaaGreatDoor
open Go.RowKit
def CV (w:World) (F:Nat→Prop) (z:List Value) (i:pO):Prop:=∃vn,z=[sv i.from_,vn, .int .i64 i.line, .int .i64 i.col]∧dh w F 1 vn (nC i.names)
def CW (w:World) (F:Nat→Prop) (z:List Value) (v:wF):Prop:=∃y,z=sv v.name :: y∧kD w F y v.bound
def DV (w:World) (F:Nat→Prop) (z:List Value) (d:kg):Prop:=
 ∃vv xv vt xt y,z=[sv d.name, .bool d.exp,vv,sv d.param,vt]++(y++[.int .i64 d.line, .int .i64 d.col])∧dh w F 5 vv xv∧bU (CW w F) 5 xv d.vars∧dh w F 4 vt xt∧jc w F xt d.types∧jG w F y d.body
def Gj (w:World) (F:Nat→Prop) (z:List Value) (m:tO):Prop:=
 ∃vi xi vd xd,z=[vi,vd]∧dh w F 4 vi xi∧bU (CV w F) 4 xi m.imps∧dh w F 15 vd xd∧bU (DV w F) 15 xd m.decls
section
variable {w w':World} {F G:Nat→Prop} {z:List Value} {B:Nat}
theorem CV.turn {i:pO} (h:CV w F z i) (t:Turn G w w') (hd:∀g,g<w.heap.size→F g→¬G g):CV w' F z i:=by
 obtain⟨vn,e,h1⟩:=h
 exact⟨vn,e,h1.turn t hd⟩
theorem CV.mono {i:pO} (h:CV w F z i) (hF:∀g,g<w.heap.size→F g→G g):CV w G z i:=by
 obtain⟨vn,e,h1⟩:=h
 exact⟨vn,e,h1.mono hF⟩
theorem CV.to {i:pO} (h:CV w F z i) (hF:∀g,g<w.heap.size→F g→g<B):G8 w B z i:=by
 obtain⟨vn,e,h1⟩:=h
 exact⟨vn,e,h1.to hF⟩
theorem CW.turn {i:wF} (h:CW w F z i) (t:Turn G w w') (hd:∀g,g<w.heap.size→F g→¬G g):CW w' F z i:=by
 obtain⟨vn,e,h1⟩:=h
 exact⟨vn,e,h1.turn t hd⟩
theorem CW.mono {i:wF} (h:CW w F z i) (hF:∀g,g<w.heap.size→F g→G g):CW w G z i:=by
 obtain⟨vn,e,h1⟩:=h
 exact⟨vn,e,h1.mono hF⟩
theorem CW.to {i:wF} (h:CW w F z i) (hF:∀g,g<w.heap.size→F g→g<B):DN w B z i:=by
 obtain⟨vn,e,h1⟩:=h
 exact⟨vn,e,h1.to hF⟩
theorem DV.turn {i:kg} (h:DV w F z i) (t:Turn G w w') (hd:∀g,g<w.heap.size→F g→¬G g):DV w' F z i:=by
 obtain⟨vv,xv,vt,xt,y,e,h1,h2,h3,h4,h5⟩:=h
 exact⟨vv,xv,vt,xt,y,e,h1.turn t hd,h2.imp fun _ _ h=>h.turn t hd,h3.turn t hd,h4.turn t hd,h5.turn t hd⟩
theorem DV.mono {i:kg} (h:DV w F z i) (hF:∀g,g<w.heap.size→F g→G g):DV w G z i:=by
 obtain⟨vv,xv,vt,xt,y,e,h1,h2,h3,h4,h5⟩:=h
 exact⟨vv,xv,vt,xt,y,e,h1.mono hF,h2.imp fun _ _ h=>h.mono hF,h3.mono hF,h4.mono hF,h5.mono hF⟩
theorem DV.to {i:kg} (h:DV w F z i) (hF:∀g,g<w.heap.size→F g→g<B):wG w B z i:=by
 obtain⟨vv,xv,vt,xt,y,e,h1,h2,h3,h4,h5⟩:=h
 exact⟨vv,xv,vt,xt,y,e,h1.to hF,h2.imp fun _ _ h=>h.to hF,h3.to hF,h4.to hF,h5.to hF⟩
theorem Gj.turn {i:tO} (h:Gj w F z i) (t:Turn G w w') (hd:∀g,g<w.heap.size→F g→¬G g):Gj w' F z i:=by
 obtain⟨vi,xi,vd,xd,e,h1,h2,h3,h4⟩:=h
 exact⟨vi,xi,vd,xd,e,h1.turn t hd,h2.imp fun _ _ h=>h.turn t hd,h3.turn t hd,h4.imp fun _ _ h=>h.turn t hd⟩
theorem Gj.mono {i:tO} (h:Gj w F z i) (hF:∀g,g<w.heap.size→F g→G g):Gj w G z i:=by
 obtain⟨vi,xi,vd,xd,e,h1,h2,h3,h4⟩:=h
 exact⟨vi,xi,vd,xd,e,h1.mono hF,h2.imp fun _ _ h=>h.mono hF,h3.mono hF,h4.imp fun _ _ h=>h.mono hF⟩
theorem Gj.to {i:tO} (h:Gj w F z i) (hF:∀g,g<w.heap.size→F g→g<B):Bu w B z i:=by
 obtain⟨vi,xi,vd,xd,e,h1,h2,h3,h4⟩:=h
 exact⟨vi,xi,vd,xd,e,h1.to hF,h2.imp fun _ _ h=>h.to hF,h3.to hF,h4.imp fun _ _ h=>h.to hF⟩
theorem CV.all {i:pO} (h:CV w F z i):G8 w w.heap.size z i:=h.to fun _ hg _=>hg
theorem CW.all {i:wF} (h:CW w F z i):DN w w.heap.size z i:=h.to fun _ hg _=>hg
theorem DV.all {i:kg} (h:DV w F z i):wG w w.heap.size z i:=h.to fun _ hg _=>hg
theorem Gj.all {i:tO} (h:Gj w F z i):Bu w w.heap.size z i:=h.to fun _ hg _=>hg
theorem CV.shape' {i:pO} (h:CV w F z i):∃A n c,z=[sv i.from_, .slice A n c, .int .i64 i.line, .int .i64 i.col]:=by
 obtain⟨vn,rfl,A,n,c,rfl, _⟩:=h
 exact⟨A,n,c,rfl⟩
theorem CW.shape' {i:wF} (h:CW w F z i):∃k s A1 n1 c1 A2 n2 c2,z=[sv i.name, .int .i64 k,sv s, .slice A1 n1 c1, .slice A2 n2 c2]:=by
 obtain⟨y,rfl,h⟩:=h
 generalize i.bound=b at h
 cases h with
 | mk h1 h2 h3=>
  obtain⟨A1,n1,c1,rfl, _⟩:=h1
  obtain⟨A2,n2,c2,rfl, _⟩:=h2
  exact⟨_, _, _, _, _, _, _, _,rfl⟩
theorem DV.shape' {i:kg} (h:DV w F z i):∃A1 n1 c1 A2 n2 c2 k s a b c A3 n3 c3 A4 n4 c4 A5 n5 c5,z=[sv i.name, .bool i.exp, .slice A1 n1 c1,sv i.param, .slice A2 n2 c2, .int .i64 k,sv s, .int .i64 a, .int .i64 b, .int .i64 c, .slice A3 n3 c3, .slice A4 n4 c4, .slice A5 n5 c5, .int .i64 i.line, .int .i64 i.col]:=by
 obtain⟨vv,xv,vt,xt,y,rfl,⟨A1,n1,c1,rfl, _⟩, _,⟨A2,n2,c2,rfl, _⟩, _,h⟩:=h
 generalize i.body=x at h
 cases h with
 | mk h1 h2 h3 h4 h5=>
  obtain⟨A3,n3,c3,rfl, _⟩:=h1
  obtain⟨A4,n4,c4,rfl, _⟩:=h3
  obtain⟨A5,n5,c5,rfl, _⟩:=h4
  exact⟨_, _, _, _, _, _, _, _, _, _, _, _, _, _, _, _, _, _, _, _,rfl⟩
end
theorem iC:qp CV 4 where
 turn h t hd:=h.turn t hd
 mono h hF:=h.mono hF
 len h:=by obtain⟨A,n,c,rfl⟩:=h.shape';rfl
 one h:=by
  obtain⟨A,n,c,rfl⟩:=h.shape'
  intro u hu
  simp only [List.mem_cons,List.not_mem_nil,or_false]at hu
  rcases hu with rfl | rfl | rfl | rfl <;> rfl
theorem fQ:qp CW 5 where
 turn h t hd:=h.turn t hd
 mono h hF:=h.mono hF
 len h:=by obtain⟨k,s,A1,n1,c1,A2,n2,c2,rfl⟩:=h.shape';rfl
 one h:=by
  obtain⟨k,s,A1,n1,c1,A2,n2,c2,rfl⟩:=h.shape'
  intro u hu
  simp only [List.mem_cons,List.not_mem_nil,or_false]at hu
  rcases hu with rfl | rfl | rfl | rfl | rfl <;> rfl
theorem l9:qp DV 15 where
 turn h t hd:=h.turn t hd
 mono h hF:=h.mono hF
 len h:=by obtain⟨A1,n1,c1,A2,n2,c2,k,s,a,b,c,A3,n3,c3,A4,n4,c4,A5,n5,c5,rfl⟩:=h.shape';rfl
 one h:=by
  obtain⟨A1,n1,c1,A2,n2,c2,k,s,a,b,c,A3,n3,c3,A4,n4,c4,A5,n5,c5,rfl⟩:=h.shape'
  intro u hu
  simp only [List.mem_cons,List.not_mem_nil,or_false]at hu
  rcases hu with rfl | rfl | rfl | rfl | rfl | rfl | rfl | rfl | rfl | rfl | rfl | rfl | rfl | rfl | rfl <;> rfl
end Go.Proofs.YtmbppnbekkbibaaGreatDoor
end
section
set_option linter.unusedVariables false
namespace Go.Proofs.YtmbppnbekkbibaaGreatDoor
open Go.RowKit
theorem sZ {α:Type} {R:World→(Nat→Prop)→List Value→α→Prop} {k:Nat} (hR:qp R k) {e:TypeId} {w w9:World} {base:Nat} {F:Nat→Prop} {v v9:Value} {l:List α} {x:α} {z ys:List Value} {n9:Nat} {o:Obj} (h1:w.ownsRow base e k v l.length ys) (h2:bU (R w (oO F v)) k ys l)
  (hx:R w (oO F v) z x) (hg:(w.alloc o).grownBy w9 v.ownBlock) (hbk:v9.ownBlock=v.ownBlock∨v9.ownBlock=some (w.alloc o).heap.size) (h9:w9.ownsRow base e k v9 n9 (ys++z)) (hk:0<k):fF R k e w9 base F v9 (l++[x])∧n9=l.length+1∧Turn (fun j=>v.ownBlock=some j) w w9:=by
 have hn:n9=(l++[x]).length:=by
  have e1:=h9.1
  have e2:=h1.1
  have e3:=hR.len hx
  rw [List.length_append,e2,e3]at e1
  rw [List.length_append,List.length_singleton]
  have:n9*k=(l.length+1)*k:=by rw [←e1,Nat.add_mul,Nat.one_mul]
  exact Nat.eq_of_mul_eq_mul_right hk this
 subst hn
 have t9:Turn (fun j=>v.ownBlock=some j) w w9:=(Turn.alloc (fun j=>v.ownBlock=some j) w o).trans (Turn.bf hg (fun _ h=>h)) (fun _ _ h=>h)
 have go:∀ {z:List Value} {x:α},R w (oO F v) z x→R w9 (oO F v9) z x:=fun h=>by
  have h3:R w (fun j=>j<w.heap.size∧oO F v j) _ _:=hR.mono h fun j hj h=>⟨hj,h⟩
  refine hR.mono (hR.turn h3 t9 (fun j _ h e=>h.2.1 e)) fun j _ h=>⟨fun e=> ?_,h.2.2⟩
  rcases hbk with hb | hb
  ·rw [hb]at e;exact h.2.1 e
  ·rw [hb]at e;injection e with e;have:=h.1;simp at e;omega
 exact⟨⟨_,h9,bU.app (uV (hR.len hx) (go hx)) (h2.imp fun _ _ h=>go h)⟩,by simp,t9⟩
theorem cells5 {w:World} {b:Nat} {a0 a1 a2 a3 a4:Value} {t:TypeId} (h:w.heap[b]? =some (.cells #[a0,a1,a2,a3,a4] t (0,0))):w.cell? ⟨b,0,none⟩=some a0∧w.cell? ⟨b,1,none⟩=some a1∧w.cell? ⟨b,2,none⟩=some a2∧w.cell? ⟨b,3,none⟩=some a3∧w.cell? ⟨b,4,none⟩=some a4∧∀i,w.frozen? ⟨b,i,none⟩=false:=
 ⟨(cell_of_row _ _ _ _ _ _ h).trans rfl,(cell_of_row _ _ _ _ _ _ h).trans rfl,(cell_of_row _ _ _ _ _ _ h).trans rfl,(cell_of_row _ _ _ _ _ _ h).trans rfl,(cell_of_row _ _ _ _ _ _ h).trans rfl,fun i=>frozen_of_row _ _ _ _ _ h⟩
theorem NU:iP Tryz.prog 45 133 (.agg #[.string ⟨#[]⟩, .int .i64 0, .string ⟨#[]⟩, .slice none 0 0, .slice none 0 0]) 5 88:=⟨Tryz.underlying45,by kernel_rfl,rfl,by omega⟩
theorem KI (s0:Bt) (k:Int) (s:Bt) (A1 A2:Option Addr) (n1 c1 n2 c2:Nat):∀u∈ #[sv s0,Value.int .i64 k,sv s, .slice A1 n1 c1, .slice A2 n2 c2].toList,u.oneCell'=true:=by
 intro u hu
 simp only [List.mem_cons,List.not_mem_nil,or_false]at hu
 rcases hu with rfl | rfl | rfl | rfl | rfl <;> rfl
def EZ (pb lb base bp:Nat) (w:World) (l:List wF):Prop:=
 w.heap[pb]? =some (.cells #[.pointer (some ⟨bp,0,none⟩)] 94 (0,0))∧∃v,w.heap[lb]? =some (.cells #[v] 45 (0,0))∧fF CW 5 133 w base (fun j=>base≤j) v l
theorem EZ.turn {pb lb base bp:Nat} {w w':World} {l:List wF} {G:Nat→Prop} (h:EZ pb lb base bp w l) (tn:Turn G w w') (h1:¬G pb) (h2:¬G lb) (h3:∀j,base≤j→j<w.heap.size→¬G j):EZ pb lb base bp w' l:=by
 obtain⟨hb,v,hn,hr⟩:=h
 exact⟨ah hb tn h1,v,ah hn tn h2,hr.turn fQ tn (fun g hg=>h3 g (hr.lt g hg).1 (hr.lt g hg).2) (fun g hg h=>h3 g h hg)⟩
set_option maxRecDepth 100000 in
set_option maxHeartbeats 8000000 in
theorem Fa (w:World) (bp B pb lb base:Nat) (ts:List aF) (l:List wF) (hl:l.length≤8193) (h:bE w bp B ts 0) (hI:EZ pb lb base bp w l) (p1:bp<pb) (p2:bp<lb) (p3:pb<base) (p4:lb<base) (p5:pb≠lb) (p6:base≤w.heap.size):
  Calls Tryz.prog 166 #[.pointer (some ⟨pb,0,none⟩), .pointer (some ⟨lb,0,none⟩)] w (dw (EZ pb lb base bp) (fun k=>k=bp∨k=lb∨base≤k) bp B 0 w (mQ wZ l ts)):=by
 have hlt:=h.lt
 obtain⟨Q,hQ⟩:∃Q,mQ wZ l ts=Q:=⟨_,rfl⟩
 rw [hQ]
 have HQ:Hid (au wZ (fun x=>aG (l++[x])) ts=Q):=hid hQ
 have HN:=hid (eH w bp B ts 0 h)
 have HI:=hid hI
 have hbx:=bG hI.1
 obtain⟨hb0,vk,SA,CX⟩:=hI
 obtain⟨Ak,ck,rfl,hck,hmk⟩:=CX.shape
 have zl:=hid CX.lt
 have HIT:Hid (∀w',Turn (fun k=>k=bp) w w'→w'.heap[pb]? =some (.cells #[.pointer (some ⟨bp,0,none⟩)] 94 (0,0))∧w'.heap[lb]? =some (.cells #[.slice Ak l.length ck] 45 (0,0))∧fF CW 5 133 w' base (fun j=>base≤j) (.slice Ak l.length ck) l):=hid fun w' t=>⟨ah hb0 t (by omega),ah SA t (by omega),CX.turn fQ t (fun g hg e=>by have:=(CX.lt g hg).1;omega) (fun g _ h e=>by omega)⟩
 clear h hQ hb0 SA CX
 go_enter Tryz.func166,Tryz.ntmps166
 go_wp2_with fail
 refine(HN.out).mono ?_
 rintro e w1 h1
 rcases hq:nameP ts with g | ⟨s,r1⟩
 ·obtain⟨rfl,tn,bn⟩:=h1.bF hq
  have HB:=hid (show Turn (fun k=>k=bp∨k=lb∨base≤k) w _ from tn.mono fun _ _ h=> .inl h)
  have nO:=hid bn
  have bY:=hid (HQ.out.symm.trans (pU hq))
  clear h1 tn bn hq
  go_wp2_with fail
  exact⟨rfl,dw.fail bY.out HB.out nO.out⟩
 ·obtain⟨v1,rfl,tn,rfl,kn⟩:=h1.aL hq
  have hs1:=tn.size
  have NJ:=hid (yT w1 (.cells #[sv s, .int .i64 0, .string ⟨#[]⟩, .slice none 0 0, .slice none 0 0] 133))
  have lN:=hid (kn.below (new1 w1 (.cells #[sv s, .int .i64 0, .string ⟨#[]⟩, .slice none 0 0, .slice none 0 0] 133)))
  have Wi:=hid (aA tn (Turn.alloc (fun k=>k=bp) w1 (.cells #[sv s, .int .i64 0, .string ⟨#[]⟩, .slice none 0 0, .slice none 0 0] 133)))
  have HH:=hid (iX (w1.alloc (.cells #[sv s, .int .i64 0, .string ⟨#[]⟩, .slice none 0 0, .slice none 0 0] 133)) bp B r1 0 lN.out [60,58])
  have kF:Hid (au (au (dN [60,58]) (fun b=>if b then au (bg 100).typ fun t=>aG (⟨s,t⟩:wF)else aG ⟨s,lK⟩)) (fun x=>aG (l++[x])) r1=Q):=hid ((fH hq).symm.trans HQ.out)
  have Iu:=bG (HIT.out _ tn).1
  have hpl:=block_lt (HIT.out _ tn).1
  clear h1 tn kn hq hbx
  go_wp2_with fail
  refine(HH.out).mono ?_
  rintro e w2 h2
  rcases hq:dN [60,58] r1 with g | ⟨b,r2⟩
  ·exact(fP hq).elim
  ·obtain⟨v2,rfl,tn,rfl,kn⟩:=h2.aL hq
   have hs2:=tn.size
   simp at hs2
   have HT2:=hid (aA Wi.out tn)
   have hv2:=ah NJ.out tn (by omega)
   have Wj:=hid hv2
   have jV:=hid kn
   have jU:=hid hq
   have OZ:=bG (HIT.out _ HT2.out).1
   have Wm:=bG (HIT.out _ HT2.out).2.1
   have Wn:=block_lt (HIT.out _ HT2.out).1
   have SB:=block_lt (HIT.out _ HT2.out).2.1
   obtain⟨m0,m1,m2,m3,m4,mz⟩:=cells5 hv2
   clear h2 tn kn hq hv2 Iu hpl
   cases b
   ·have gU:Hid (Pr.good (l++[(⟨s,lK⟩:wF)]) r2=Q):=hid ((fH jU.out).symm.trans kF.out)
    obtain⟨hb6,KJ,KL⟩:=HIT.out _ HT2.out
    obtain⟨ys,hy,hr⟩:=KL
    have hyl:ys.length=l.length*5:=by have:=hy.1;simpa using this
    have HY:=hid hy
    have HR:=hid hr
    have Gl:=hid KJ
    have Rf:=hid hb6
    have hsl:=fD w2 #[sv s, .int .i64 0, .string ⟨#[]⟩, .slice none 0 0, .slice none 0 0] 133 5 1 rfl (by decide)
    have HSL:=hid hsl
    clear hy hr KJ hb6 hsl
    go_wp2_with (at_builtin;go_must (refine gN rfl (.tmp 15) (.tmp 17) _ rfl base NU _ _ rfl rfl (HY.out.alloc (.cells #[sv s, .int .i64 0, .string ⟨#[]⟩, .slice none 0 0, .slice none 0 0] 133)) HSL.out (KI s 0 [] none none 0 0 0 0) (by simp [maxLen];omega) (by simp;omega) (by simp;omega) (fun v9 w9 n9 gu uU lM=> ?_));obtain⟨A9,c9,rfl, _, _⟩:=jd gu;have sM:=hid gu;have L9:=hid uU;have AP:=hid lM;have Fb:=ah Gl.out ((Turn.alloc (fun j=>(Value.slice Ak l.length ck).ownBlock=some j) _ (.cells #[sv s, .int .i64 0, .string ⟨#[]⟩, .slice none 0 0, .slice none 0 0] 133)).trans (Turn.bf uU (F:=fun j=>(Value.slice Ak l.length ck).ownBlock=some j) (fun _ h=>h)) (fun _ _ h=>h)) (fun e=>by have:=(zl.out _ e).1;omega);have UL:=bG Fb;have MP:=bI Fb 0;clear gu uU lM Fb)
    obtain⟨xX,YB,t9⟩:=sZ fQ HY.out HR.out (x:=(⟨s,lK⟩:wF)) ⟨_,rfl,mR _ _ 0 []⟩ L9.out AP.out sM.out (by omega)
    have hlo:=zl.out
    have tl:=ak w9 lb 0 (.slice A9 n9 c9)
    have nR:Turn (fun k=>k=bp∨k=lb∨base≤k) w (w9.setCell ⟨lb,0,none⟩ (.slice A9 n9 c9)):=((HT2.out.mono (G:=fun k=>k=bp∨k=lb∨base≤k) (fun _ _ h=> .inl h)).trans t9 (fun i hi e=> .inr (.inr (hlo i e).1))).trans tl (fun i hi e=> .inr (.inl e))
    go_end0
    exact dw.done gU.out.symm nR ⟨ah (ah Rf.out t9 (fun e=>by have:=(hlo _ e).1;omega)) tl (by omega), _,heap_setCell_same _ _ 0 _ _ _ (ah Gl.out t9 (fun e=>by have:=(hlo _ e).1;omega)),xX.turn fQ tl (fun g hg e=>by have:=(xX.lt g hg).1;omega) (fun g _ hg e=>by omega)⟩ ((jV.out.turn t9 (fun e=>by have:=(hlo _ e).1;omega) (fun k hk e=>by have:=(hlo _ e).1;have:=jV.out.1;omega)).turn tl (by omega) (fun k hk e=>by have:=jV.out.1;omega))
   ·have gU:Hid (au (au (bg 100).typ (fun t=>aG (⟨s,t⟩:wF))) (fun x=>aG (l++[x])) r2=Q):=hid ((fH jU.out).symm.trans kF.out)
    have HP:=hid (Gi w2 bp B r2 jV.out)
    go_wp2_with fail
    refine(HP.out).mono ?_
    rintro e w3 h5
    rcases hq:(bg 100).typ r2 with g | ⟨x,r3⟩
    ·obtain⟨rfl,tn,bn⟩:=h5.bF hq
     have HB:=hid (show Turn (fun k=>k=bp∨k=lb∨base≤k) w _ from(aA HT2.out tn).mono fun _ _ h=> .inl h)
     have nO:=hid bn
     have bY:=hid (gU.out.symm.trans (pU hq))
     clear h5 tn bn hq
     go_wp2_with fail
     exact⟨rfl,dw.fail bY.out HB.out nO.out⟩
    ·obtain⟨v3,rfl,tn,⟨z3,rfl,hz⟩,kn⟩:=h5.aL hq
     obtain⟨k3,s3,Qa,n13,c13,Qb,n23,c23,rfl⟩:=hz.shape'
     have hs3:=tn.size
     have hv3:=ah Wj.out tn (by omega)
     clear m0 m1 m2 m3 m4 mz OZ Wm Wn SB
     obtain⟨m0,m1,m2,m3,m4,mz⟩:=cells5 hv3
     have HT3:=hid (aA HT2.out tn)
     have t4:=(((ak w3 w1.heap.size 1 (.int .i64 k3)).trans (ak _ w1.heap.size 2 (sv s3)) (fun _ _ h=>h)).trans (ak _ w1.heap.size 3 (.slice Qa n13 c13)) (fun _ _ h=>h)).trans (ak _ w1.heap.size 4 (.slice Qb n23 c23)) (fun _ _ h=>h)
     have HV4:=hid (heap_setCell_same _ _ 4 _ _ (.slice Qb n23 c23) (heap_setCell_same _ _ 3 _ _ (.slice Qa n13 c13) (heap_setCell_same _ _ 2 _ _ (sv s3) (heap_setCell_same _ _ 1 _ _ (.int .i64 k3) hv3))))
     have xW:=hid ((hz.iv.turn t4 (fun g _ h e=>by have:=h.1;omega)).mono (G:=fun j=>w2.heap.size≤j) (fun g _ h=>h.1))
     have aam:=bG (HIT.out _ HT3.out).2.1
     have aan:=block_lt (HIT.out _ HT3.out).2.1
     have aao:=bI (HIT.out _ HT3.out).2.1 0
     have fM:=hid (HT3.out.trans t4 (fun i hi e=>by omega))
     have jB:=hid (kn.turn t4 (by omega) (fun k hk e=>by have:=jV.out.1;omega))
     have fu:Hid (Pr.good (l++[(⟨s,x⟩:wF)]) r3=Q):=hid ((fH hq).symm.trans gU.out)
     have hne1:¬w1.heap.size=lb:=by omega
     have hne2:¬lb=w1.heap.size:=by omega
     clear h5 tn hz kn hq hv3 t4
     obtain⟨hb6,KJ,KL⟩:=HIT.out _ fM.out
     obtain⟨ys,hy,hr⟩:=KL
     have hyl:ys.length=l.length*5:=by have:=hy.1;simpa using this
     have HY:=hid hy
     have HR:=hid hr
     have Gl:=hid KJ
     have Rf:=hid hb6
     have hsl:=fD ((((w3.setCell ⟨w1.heap.size,1,none⟩ (.int .i64 k3)).setCell ⟨w1.heap.size,2,none⟩ (sv s3)).setCell ⟨w1.heap.size,3,none⟩ (.slice Qa n13 c13)).setCell ⟨w1.heap.size,4,none⟩ (.slice Qb n23 c23)) #[sv s, .int .i64 k3,sv s3, .slice Qa n13 c13, .slice Qb n23 c23] 133 5 1 rfl (by decide)
     rw [show(((((w3.setCell ⟨w1.heap.size,1,none⟩ (.int .i64 k3)).setCell ⟨w1.heap.size,2,none⟩ (sv s3)).setCell ⟨w1.heap.size,3,none⟩ (.slice Qa n13 c13)).setCell ⟨w1.heap.size,4,none⟩ (.slice Qb n23 c23))).heap.size=w3.heap.size by simp]at hsl
     have HSL:=hid hsl
     clear hy hr KJ hb6 hsl
     go_wp2_with (at_builtin;go_must (refine gN rfl (.tmp 15) (.tmp 17) _ rfl base NU _ _ rfl rfl (HY.out.alloc (.cells #[sv s, .int .i64 k3,sv s3, .slice Qa n13 c13, .slice Qb n23 c23] 133)) HSL.out (KI s k3 s3 _ _ _ _ _ _) (by simp [maxLen];omega) (by simp;omega) (by simp;omega) (fun v9 w9 n9 gu uU lM=> ?_));obtain⟨A9,c9,rfl, _, _⟩:=jd gu;have sM:=hid gu;have L9:=hid uU;have AP:=hid lM;have Fb:=ah Gl.out ((Turn.alloc (fun j=>(Value.slice Ak l.length ck).ownBlock=some j) _ (.cells #[sv s, .int .i64 k3,sv s3, .slice Qa n13 c13, .slice Qb n23 c23] 133)).trans (Turn.bf uU (F:=fun j=>(Value.slice Ak l.length ck).ownBlock=some j) (fun _ h=>h)) (fun _ _ h=>h)) (fun e=>by have:=(zl.out _ e).1;omega);have UL:=bG Fb;have MP:=bI Fb 0;clear gu uU lM Fb)
     obtain⟨xX,YB,t9⟩:=sZ fQ HY.out HR.out (x:=(⟨s,x⟩:wF)) ⟨_,rfl,xW.out.mono (fun g _ h=>⟨fun e=>by have:=(zl.out _ e).2;omega,by omega⟩)⟩ L9.out AP.out sM.out (by omega)
     have hlo:=zl.out
     have tl:=ak w9 lb 0 (.slice A9 n9 c9)
     have nR:Turn (fun k=>k=bp∨k=lb∨base≤k) w (w9.setCell ⟨lb,0,none⟩ (.slice A9 n9 c9)):=((fM.out.mono (G:=fun k=>k=bp∨k=lb∨base≤k) (fun _ _ h=> .inl h)).trans t9 (fun i hi e=> .inr (.inr (hlo i e).1))).trans tl (fun i hi e=> .inr (.inl e))
     go_end0
     exact dw.done fu.out.symm nR ⟨ah (ah Rf.out t9 (fun e=>by have:=(hlo _ e).1;omega)) tl (by omega), _,heap_setCell_same _ _ 0 _ _ _ (ah Gl.out t9 (fun e=>by have:=(hlo _ e).1;omega)),xX.turn fQ tl (fun g hg e=>by have:=(xX.lt g hg).1;omega) (fun g _ hg e=>by omega)⟩ ((jB.out.turn t9 (fun e=>by have:=(hlo _ e).1;omega) (fun k hk e=>by have:=(hlo _ e).1;have:=jB.out.1;omega)).turn tl (by omega) (fun k hk e=>by have:=jB.out.1;omega))
def SC (base:Nat) (w:World) (v:Value) (l:List wF):Prop:=∃xs,dh w (fun j=>base≤j) 5 v xs∧bU (CW w (fun j=>base≤j)) 5 xs l
set_option maxRecDepth 100000 in
set_option maxHeartbeats 8000000 in
theorem Iw (w:World) (bp B:Nat) (ts:List aF) (h:bE w bp B ts 0):Calls Tryz.prog 132 #[.pointer (some ⟨bp,0,none⟩)] w (aD (SC w.heap.size) bp B 0 w (oI ts)):=by
 have hlt:=h.lt
 obtain⟨Q,hQ⟩:∃Q,oI ts=Q:=⟨_,rfl⟩
 rw [hQ]
 have HQ:Hid (au (dN [91]) (fun b=>if b then au (iG wZ) fun l=>au (aH [93]) fun _=>aG l else aG []) ts=Q):=hid hQ
 have HH:=hid (iX ((w.alloc (.cells #[.pointer (some ⟨bp,0,none⟩)] 94)).alloc (.cells #[.slice none 0 0] 45)) bp B ts 0 (h.below (new2 _ _ _)) [91])
 clear h hQ
 go_enter Tryz.func132,Tryz.ntmps132
 go_wp2_with fail
 refine(HH.out).mono ?_
 rintro e w1 h1
 rcases hq:dN [91] ts with g | ⟨b,r1⟩
 ·exact(fP hq).elim
 ·obtain⟨v1,rfl,tn,rfl,kn⟩:=h1.aL hq
  obtain⟨tm,hs1,Iu,SE⟩:=fZ tn
  have HT1:=hid tm
  have lN:=hid kn
  have hb1:=Iu (by omega)
  have hc1:=bG hb1
  have HI1:Hid (EZ w.heap.size (w.heap.size+1) (w.heap.size+2) bp w1 []):=hid ⟨hb1, _,SE (by omega),fF.nil _ _ _ _ _ _⟩
  have kF:=hid hq
  clear h1 tn tm kn Iu SE hq
  cases b
  ·have jU:Hid (Pr.good [] r1=Q):=hid ((aj kF.out).symm.trans HQ.out)
   go_wp2_with fail
   go_ret
   exact aD.done jU.out.symm HT1.out ⟨[],dh.nil _ _ _, .nil⟩ lN.out
  ·have jU:Hid (au (iG wZ) (fun l=>au (aH [93]) fun _=>aG l) r1=Q):=hid ((aj kF.out).symm.trans HQ.out)
   have LZ:∀(fn:Fn) (first cap:Array Value) (w:World),(Instr.makeFunc fn first cap).run Tryz.prog w= .ok (.func fn first cap) w:=fun _ _ _ _=>rfl
   have J4:=hid (jl wZ Sf.var 166 #[.pointer (some ⟨w.heap.size,0,none⟩), .pointer (some ⟨w.heap.size+1,0,none⟩)] (EZ w.heap.size (w.heap.size+1) (w.heap.size+2) bp) (fun k=>k=bp∨k=w.heap.size+1∨w.heap.size+2≤k) 0 w1 bp B r1 (.inl rfl)
    (fun a b l tn h=>h.turn tn (by omega) (by omega) (fun j hj _ e=>by omega)) (fun g h=> .inr (.inr (by omega)))
    (fun w1 r l hl hw hi hk=>Fa w1 bp B _ _ _ r l hl hk hi (by omega) (by omega) (by omega) (by omega) (by omega) (by omega)) (fun _=>by kernel_rfl) lN.out HI1.out)
   go_wp2_with fail
   refine(J4.out).mono ?_
   rintro e w2 h2
   rcases hq:iG wZ r1 with g | ⟨l,r2⟩
   ·obtain⟨rfl,tn,bn⟩:=h2.bF hq
    have HB:=hid (dI.mk2 (HT1.out.trans tn (fun i hi e=>by rcases e with e | e | e <;> omega)) bn)
    have bY:=hid (jU.out.symm.trans (aB hq))
    clear h2 tn bn hq
    go_wp2_with fail
    exact⟨rfl,aD.fail bY.out HB.out⟩
   ·obtain⟨rfl,tn,hI2,kn⟩:=h2.aL hq
    have hs2:=tn.size
    have HT2:=hid (HT1.out.trans tn (fun i hi e=>by rcases e with e | e | e <;> omega))
    have HI2:=hid hI2
    have hc2:=bG hI2.1
    have gU:Hid (au (aH [93]) (fun _=>aG l) r2=Q):=hid ((aj hq).symm.trans jU.out)
    have HN:=hid (dM w2 bp B r2 0 kn [93] 9 w2.heap.size)
    clear h2 tn hI2 kn hq hc1 hb1
    go_wp2_with fail
    refine(HN.out).mono ?_
    rintro e w3 h3
    rcases hq:aH [93] r2 with g | ⟨u,r3⟩
    ·obtain⟨rfl,tn,bn⟩:=h3.bF hq
     have HB:=hid (dI.mk2 (aA HT2.out tn) bn)
     have bY:=hid (gU.out.symm.trans (aB hq))
     clear h3 tn bn hq
     go_wp2_with fail
     exact⟨rfl,aD.fail bY.out HB.out⟩
    ·obtain⟨v3,rfl,tn, -,kn⟩:=h3.aL hq
     have HT3:=hid (aA HT2.out tn)
     have jm:=hid kn
     have fu:Hid (Pr.good l r3=Q):=hid ((aj hq).symm.trans gU.out)
     obtain⟨_,v,hl3,hr3⟩:=HI2.out.turn tn (by omega) (by omega) (fun j hj _ e=>by omega)
     have HR3:=hid hr3
     have hc3:=bG hl3
     clear h3 tn kn hq hr3 hl3
     go_wp2_with fail
     go_ret
     obtain⟨xs,q1,q2⟩:=HR3.out.sl fQ
     exact aD.done fu.out.symm HT3.out ⟨xs,q1.mono (fun g _ h=>by rcases h with h | h <;> omega),dB fQ (fun g _ h=>by rcases h with h | h <;> omega) q2⟩ jm.out
end Go.Proofs.YtmbppnbekkbibaaGreatDoor
end
