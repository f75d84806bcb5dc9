/- FR, FS -/
import Derived.Test.YtmbppnbekkbibaaGreatDoorPB07
set_option linter.unusedSimpArgs false
set_option linter.unusedVariables false
section
set_option linter.unusedVariables false
namespace Go.Proofs.YtmbppnbekkbibaaGreatDoor
open Go.RowKit
def uD (d:Int) (unary:Ps bD):Prop:=∀(w:World) (bp B:Nat) (ts:List aF),bE w bp B ts d→
 Calls Tryz.prog 142 #[.pointer (some ⟨bp,0,none⟩)] w (aD (JX w.heap.size) bp B d w (unary ts))
def R6 (d:Int) (p:Ps bD):Prop:=∀(w:World) (bp B:Nat) (ts:List aF),bE w bp B ts d→
 Calls Tryz.prog 143 #[.pointer (some ⟨bp,0,none⟩)] w (aD (JX w.heap.size) bp B d w (p ts))
def mZ (d:Int) (k:Nat) (p:Ps bD):Prop:=∀(w:World) (bp B:Nat) (ts:List aF),bE w bp B ts d→
 Calls Tryz.prog 91 #[.pointer (some ⟨bp,0,none⟩), .int .i64 (k:Int)] w (aD (JX w.heap.size) bp B d w (p ts))
theorem bC {bp a:Nat} {w w1:World} {v0 v1 v2 v3 v4 v5 v6 v7:Value} (h:Turn (fun k=>k=bp) w w1) (ha:w.heap.size≤a):Turn (fun k=>k=bp) w (vS w1 a v0 v1 v2 v3 v4 v5 v6 v7):=h.trans (aY w1 a v0 v1 v2 v3 v4 v5 v6 v7) (fun i hi e=>by omega)
theorem bE.eY {bp B a:Nat} {w1:World} {ts:List aF} {d:Int} {v0 v1 v2 v3 v4 v5 v6 v7:Value} (h:bE w1 bp B ts d) (ha:bp<a):bE (vS w1 a v0 v1 v2 v3 v4 v5 v6 v7) bp B ts d:=h.turn (aY _ _ _ _ _ _ _ _ _ _) (by omega) (fun k hk e=>by have:=h.1;omega)
set_option maxRecDepth 100000 in
set_option maxHeartbeats 4000000 in
theorem Ke (d:Int) (p:Ps bD) (HU:uD d p):mZ d 6 p:=by
 intro w bp B ts h
 have hlt:=h.lt
 have hB:=h.1
 obtain⟨Q,hQ⟩:∃Q,p ts=Q:=⟨_,rfl⟩
 rw [hQ]
 have HQ:=hid hQ
 have HR:=hid (uy (w.alloc (.cells #[.int .i64 0, .string ⟨#[]⟩, .int .i64 0, .int .i64 0, .int .i64 0, .slice none 0 0, .slice none 0 0, .slice none 0 0] 49)))
 have CB:=hid (h.below (new1 w (.cells #[.int .i64 0, .string ⟨#[]⟩, .int .i64 0, .int .i64 0, .int .i64 0, .slice none 0 0, .slice none 0 0, .slice none 0 0] 49)))
 have hw1:=yT w (.cells #[.int .i64 0, .string ⟨#[]⟩, .int .i64 0, .int .i64 0, .int .i64 0, .slice none 0 0, .slice none 0 0, .slice none 0 0] 49)
 clear h hQ
 go_enter Tryz.func91,Tryz.ntmps91
 go_wp2_with fail
 refine(HR.out).mono ?_
 rintro e w1 ⟨hb,v,rfl,hv⟩
 obtain⟨b,rfl,MF,hbs,hcell⟩:=hv
 have lN:=hid (CB.out.below hb)
 obtain⟨tm,hs1,hrs⟩:=bq (Turn.of_below (F:=fun k=>k=bp) hb)
 have HT1:=hid tm
 have lS:=hid (hrs (by omega))
 have HC:=hid (HU w1 bp B ts lN.out)
 clear hb MF hbs hcell tm hrs hw1
 go_wp2_with fail
 refine(HC.out).mono ?_
 rintro e w2 h2
 rcases hq:p ts with g | ⟨x,r2⟩
 ·obtain⟨rfl,tn,bn⟩:=h2.bF hq
  have HB:=hid (dI.mk2 (aA HT1.out tn) bn)
  have bY:=hid (HQ.out.symm.trans hq)
  clear h2 tn bn hq
  go_wp2_with fail
  exact⟨rfl,aD.fail bY.out HB.out⟩
 ·obtain⟨v2,rfl,tn,⟨z,rfl,hz⟩,kn⟩:=h2.aL hq
  obtain⟨kz,sz,nz,lz,oz,kZ,lg,lq,lu,lC,lD,wO,wP,wQ,rfl⟩:=hz.shape'
  have HZ:=hid hz
  have jU:=hid (HQ.out.symm.trans hq)
  clear hz
  have hs2:=tn.size
  have HT2:=hid (aA HT1.out tn)
  have jV:=hid kn
  have mU:=hid (ah lS.out tn (by omega))
  clear h2 tn kn hq
  obtain⟨c0,c1,c2,c3,c4,c5,c6,c7,cz⟩:=aN mU.out
  go_wp2_with fail
  refine bodyPost_ret (aW rfl rfl (aP mU.out _ _ _ _ _ _ _ _) Tryz.underlying49 rfl (by kernel_rfl)) rfl ?_
  exact aD.done jU.out (bC HT2.out (by omega)) ⟨_,rfl,(HZ.out.turn (aY _ _ _ _ _ _ _ _ _ _) (fun g _ h e=>by omega)).mono (fun g _ h=>by omega)⟩ (jV.out.eY (by omega))
set_option maxRecDepth 100000 in
set_option maxHeartbeats 4000000 in
theorem Kg (d:Int) (p:Ps bD) (HU:R6 d p):mZ d 2 p:=by
 intro w bp B ts h
 have hlt:=h.lt
 have hB:=h.1
 obtain⟨Q,hQ⟩:∃Q,p ts=Q:=⟨_,rfl⟩
 rw [hQ]
 have HQ:=hid hQ
 have HR:=hid (uy (w.alloc (.cells #[.int .i64 0, .string ⟨#[]⟩, .int .i64 0, .int .i64 0, .int .i64 0, .slice none 0 0, .slice none 0 0, .slice none 0 0] 49)))
 have CB:=hid (h.below (new1 w (.cells #[.int .i64 0, .string ⟨#[]⟩, .int .i64 0, .int .i64 0, .int .i64 0, .slice none 0 0, .slice none 0 0, .slice none 0 0] 49)))
 have hw1:=yT w (.cells #[.int .i64 0, .string ⟨#[]⟩, .int .i64 0, .int .i64 0, .int .i64 0, .slice none 0 0, .slice none 0 0, .slice none 0 0] 49)
 clear h hQ
 go_enter Tryz.func91,Tryz.ntmps91
 go_wp2_with fail
 refine(HR.out).mono ?_
 rintro e w1 ⟨hb,v,rfl,hv⟩
 obtain⟨b,rfl,MF,hbs,hcell⟩:=hv
 have lN:=hid (CB.out.below hb)
 obtain⟨tm,hs1,hrs⟩:=bq (Turn.of_below (F:=fun k=>k=bp) hb)
 have HT1:=hid tm
 have lS:=hid (hrs (by omega))
 have HC:=hid (HU w1 bp B ts lN.out)
 clear hb MF hbs hcell tm hrs hw1
 go_wp2_with fail
 refine(HC.out).mono ?_
 rintro e w2 h2
 rcases hq:p ts with g | ⟨x,r2⟩
 ·obtain⟨rfl,tn,bn⟩:=h2.bF hq
  have HB:=hid (dI.mk2 (aA HT1.out tn) bn)
  have bY:=hid (HQ.out.symm.trans hq)
  clear h2 tn bn hq
  go_wp2_with fail
  exact⟨rfl,aD.fail bY.out HB.out⟩
 ·obtain⟨v2,rfl,tn,⟨z,rfl,hz⟩,kn⟩:=h2.aL hq
  obtain⟨kz,sz,nz,lz,oz,kZ,lg,lq,lu,lC,lD,wO,wP,wQ,rfl⟩:=hz.shape'
  have HZ:=hid hz
  have jU:=hid (HQ.out.symm.trans hq)
  clear hz
  have hs2:=tn.size
  have HT2:=hid (aA HT1.out tn)
  have jV:=hid kn
  have mU:=hid (ah lS.out tn (by omega))
  clear h2 tn kn hq
  obtain⟨c0,c1,c2,c3,c4,c5,c6,c7,cz⟩:=aN mU.out
  go_wp2_with fail
  refine bodyPost_ret (aW rfl rfl (aP mU.out _ _ _ _ _ _ _ _) Tryz.underlying49 rfl (by kernel_rfl)) rfl ?_
  exact aD.done jU.out (bC HT2.out (by omega)) ⟨_,rfl,(HZ.out.turn (aY _ _ _ _ _ _ _ _ _ _) (fun g _ h e=>by omega)).mono (fun g _ h=>by omega)⟩ (jV.out.eY (by omega))
theorem xZ {l:List Bt} {ts r:List aF} {i:Nat} (h:bS l ts= .good (some i) r) (hw:1≤ts.length):r.length<ts.length:=by
 unfold bS at h
 split at h
 ·cases h
 ·injection h with _ h
  subst h
  rw [List.length_drop];omega
structure sO (w:World) (bp B ab:Nat) (d:Int) (vr:Value) (wr:World) (a:bD) (r:List aF):Prop where
 turn:Turn (fun k=>k=bp) w wr
 tk:bE wr bp B r d
 res:wr.heap[w.heap.size]? =some (.cells #[.int .i64 0, .string ⟨#[]⟩, .int .i64 0, .int .i64 0, .int .i64 0, .slice none 0 0, .slice none 0 0, .slice none 0 0] 49 (0,0))
 rk:Cz wr (fun j=>w.heap.size+1≤j∧j<ab) vr
 no:∃z:List Value,wr.heap[ab]? =some (.cells z.toArray 49 (0,0))∧jG wr (fun j=>w.heap.size≤j∧j≠w.heap.size∧j≠ab) z a
theorem sO.go {w:World} {bp B ab:Nat} {d:Int} {vr:Value} {wr w':World} {a:bD} {r r':List aF} {G:Nat→Prop} (h:sO w bp B ab d vr wr a r) (hlt:bp<w.heap.size) (hab:w.heap.size<ab) (t:Turn G wr w') (hG:∀j,G j→j=bp∨wr.heap.size≤j) (hk:bE w' bp B r' d):sO w bp B ab d vr w' a r':=by
 obtain⟨ht, _,hr,hv,z,hz,hn⟩:=h
 have hs:=ht.size
 have hrl:=block_lt hr
 have hzl:=block_lt hz
 exact⟨ht.trans t (fun i hi e=>by rcases hG i e with e | e;exact e;omega),hk,ah hr t (fun e=>by rcases hG _ e with e | e <;> omega),hv.turn t (fun g hg h e=>by have:=h.1;rcases hG _ e with e | e <;> omega),z,ah hz t (fun e=>by rcases hG _ e with e | e <;> omega),hn.turn t (fun g hg h e=>by rcases hG _ e with e | e <;> omega)⟩
set_option maxRecDepth 100000 in
set_option maxHeartbeats 8000000 in
theorem ng (d:Int) (k:Nat) (hk:k=0∨k=1∨k=3∨k=4∨k=5) (sub:Ps bD) (hsf:Sf sub) (HS:mZ d (k+1) sub):mZ d k (rW (Ah.getD k []) sub):=by
 intro w bp B ts h
 have hlt:=h.lt
 have hB:=h.1
 have hk5:k≤5:=by omega
 have Mc:((k:Int)==6)=false:=by simp;omega
 have hk2:((k:Int)==2)=false:=by simp;omega
 obtain⟨ops,hops⟩:∃ops,Ah.getD k []=ops:=⟨_,rfl⟩
 have hol:ops.length≤6:=by
  rcases hk with rfl | rfl | rfl | rfl | rfl <;> rw [←hops] <;> decide
 have R7:=hid hops
 rw [hops]
 obtain⟨Q,hQ⟩:∃Q,rW ops sub ts=Q:=⟨_,rfl⟩
 rw [hQ]
 have HQ:Hid (au sub (fun a ts=>iT ops sub ts.length a ts) ts=Q):=hid hQ
 have HR:=hid (uy (w.alloc (.cells #[.int .i64 0, .string ⟨#[]⟩, .int .i64 0, .int .i64 0, .int .i64 0, .slice none 0 0, .slice none 0 0, .slice none 0 0] 49)))
 have CB:=hid (h.below (new1 w (.cells #[.int .i64 0, .string ⟨#[]⟩, .int .i64 0, .int .i64 0, .int .i64 0, .slice none 0 0, .slice none 0 0, .slice none 0 0] 49)))
 have HKK:=hid hk
 clear h hQ hops hk
 go_enter Tryz.func91,Tryz.ntmps91
 go_wp2_with fail
 refine(HR.out).mono ?_
 rintro e w1 ⟨hb,vr,rfl,hv⟩
 have hv0:=hv
 obtain⟨b,Yy,MF,hbs,hcell⟩:=hv0
 have VA:=hid (hv.mono (G:=fun j=>w.heap.size+1≤j∧j<w1.heap.size) (fun g hg h=>⟨by simp at h;exact h,hg⟩))
 have lN:=hid (CB.out.below hb)
 obtain⟨tm,hs1,hrs⟩:=bq (Turn.of_below (F:=fun k=>k=bp) hb)
 have HT1:=hid tm
 have lS:=hid (hrs (by omega))
 have Yz:Hid (∀(w:World) (ts:List aF),bE w bp B ts d→Calls Tryz.prog 91 #[.pointer (some ⟨bp,0,none⟩), .int .i64 ((k:Int)+1)] w (aD (JX w.heap.size) bp B d w (sub ts))):=hid (fun w ts h=>HS w bp B ts h)
 have HC:=hid (Yz.out w1 ts lN.out)
 have ZF:=Yy
 subst Yy
 clear hb MF hbs hcell tm hrs hv
 go_wp2_with fail
 refine(HC.out).mono ?_
 rintro e w2 h2
 rcases hq:sub ts with g | ⟨a,r2⟩
 ·obtain⟨rfl,tn,bn⟩:=h2.bF hq
  have HB:=hid (dI.mk2 (aA HT1.out tn) bn)
  have bY:=hid (HQ.out.symm.trans (aB hq))
  clear h2 tn bn hq
  go_wp2_with fail
  exact⟨rfl,aD.fail bY.out HB.out⟩
 ·obtain⟨v2,rfl,tn,⟨z,rfl,hz⟩,kn⟩:=h2.aL hq
  have jU:Hid (iT ops sub r2.length a r2=Q):=hid ((aj (f:=fun a ts=>iT ops sub ts.length a ts) hq).symm.trans HQ.out)
  obtain⟨k2,s2,n2,l2,o2,UG,n12,c12,UH,n22,UJ,UK,n32,c32,rfl⟩:=hz.shape'
  have VB:=hid (VA.out.turn tn (fun g _ h e=>by have:=h.1;omega))
  have HZ:=hid hz
  clear hz
  have hs2:=tn.size
  have HT2:=hid (aA HT1.out tn)
  have jV:=hid kn
  have mU:=hid (ah lS.out tn (by omega))
  clear h2 tn kn hq
  have ta:=Turn.alloc (fun k=>k=bp) w2 (.cells #[.int .i64 k2,sv s2, .int .i64 n2, .int .i64 l2, .int .i64 o2, .slice UG n12 c12, .slice UH n22 UJ, .slice UK n32 c32] 49)
  have hab:w.heap.size<w2.heap.size:=by omega
  have ZG:Hid (sO w bp B w2.heap.size d (.slice (some ⟨b,0,none⟩) 6 6) (w2.alloc (.cells #[.int .i64 k2,sv s2, .int .i64 n2, .int .i64 l2, .int .i64 o2, .slice UG n12 c12, .slice UH n22 UJ, .slice UK n32 c32] 49)) a r2):=hid ⟨aA HT2.out ta,jV.out.below (new1 _ _),bB mU.out,(VB.out.turn ta (fun g _ h e=>by have:=h.1;omega)).mono (fun g _ h=>⟨h.1,by have:=h.2;omega⟩),[.int .i64 k2,sv s2, .int .i64 n2, .int .i64 l2, .int .i64 o2, .slice UG n12 c12, .slice UH n22 UJ, .slice UK n32 c32],yT _ _,(HZ.out.iv.turn (Turn.alloc (fun _=>False) w2 (.cells #[.int .i64 k2,sv s2, .int .i64 n2, .int .i64 l2, .int .i64 o2, .slice UG n12 c12, .slice UH n22 UJ, .slice UK n32 c32] 49)) (fun _ _ _=>id)).mono (fun g hg h=>⟨by have:=h.1;omega,by have:=h.1;omega,by have:=h.2;omega⟩)⟩
  go_wp2_with fail
  go_loopw [8] (fun _ wr=>∃(f:Nat) (a:bD) (r:List aF),iT ops sub f a r=Q∧r.length≤f∧sO w bp B w2.heap.size d (.slice (some ⟨b,0,none⟩) 6 6) wr a r) (fun _ wr=>leftOf wr bp)
  case atStart=>exact⟨_,a,r2,jU.out,Nat.le_refl _,ZG.out⟩
  case round=>
   obtain⟨f,a,r,hinv,hf,ow⟩:=hrel
   have hwf:=ow.tk.wf
   have hpos:=hwf.pos
   obtain⟨f,rfl⟩:∃f',f=f'+1:=⟨f - 1,by omega⟩
   obtain⟨t,ht⟩:∃t,aU r=t:=⟨_,rfl⟩
   have HL:Hid (au (bS ops) (fun i=>match i with | none=>aG a | some i=>au sub fun b=>iT ops sub f (aJ 14 (ops.getD i []) 0 t [] [] [a,b])) r=Q):=hid (by subst ht;exact hinv)
   have HLEN:=hid ow.tk.left
   have HF:=hid hf
   have vV:=hid ow
   have ze:=hid hwf
   have hsr:=ow.turn.size
   obtain⟨z4,hz0,hn0⟩:=ow.no
   obtain⟨k4,s4,n4,l4,o4,lI,n14,c14,lJ,n24,c24,nQ,n34,c34,rfl⟩:=hn0.shape'
   have O6:=hid hz0
   have VD:=hid (hn0.mono (G:=fun j=>(w.heap.size≤j∧j≠w.heap.size∧j≠w2.heap.size)∧j<wr.heap.size) (fun g hg h=>⟨h,hg⟩))
   have VE:=block_lt hz0
   have HH:=hid (mX d wr bp B r ow.tk 14)
   rw [ht]at HH
   clear hinv hf ow hwf ht hz0 hn0
   go_wp2_with fail
   refine(HH.out).mono ?_
   rintro e w3 ⟨rfl,hb3⟩
   have hs3:=hb3.size
   have t3:=(Turn.of_below (F:=fun k=>k=bp) hb3).trans (Turn.alloc (fun k=>k=bp) w3 (.cells (mW 14 t) 49)) (fun _ _ h=>h)
   have hk3:=(vV.out.tk.below hb3).below (new1 w3 (.cells (mW 14 t) 49))
   have vW:=hid (vV.out.go hlt hab t3 (fun j h=> .inl h) hk3)
   have kG:=hid (yT w3 (.cells (mW 14 t) 49))
   have Ii:=hid (ah O6.out t3 (by omega))
   have AQ:=hid (VD.out.turn t3 (fun g _ h e=>by have:=h.1.1;omega))
   obtain⟨W3,hW3⟩:∃W3,w3.alloc (.cells (mW 14 t) 49)=W3:=⟨_,rfl⟩
   rw [hW3]at vW kG Ii AQ
   have ZH:W3.heap.size=w3.heap.size+1:=by rw [←hW3];simp
   have HW3:=hid hW3
   obtain⟨bb,hbb,MF,hbs,hcell⟩:=vW.out.rk
   have hbe:bb=b:=by injection hbb with h1;injection h1 with h1;injection h1 with h1;exact h1.symm
   subst hbe
   obtain⟨Ao,no,co,hoc,hos⟩:=hcell k (by omega)
   rw [R7.out]at hos
   have PO:=hid (fun(w':World) (h:Turn (fun j=>j=bp) W3 w')=>aI hoc h (by omega))
   have Cg:Hid (Ss W3.drew W3.drew.heap.size (.slice Ao no co) ops):=hid hos.all
   have Kh:=hid (sG W3.drew bp B r d vW.out.tk (.slice Ao no co) ops Cg.out (by omega))
   have HOS:=hid hos
   have HD0:Hid (Turn (fun j=>j=bp) W3 W3.drew):=hid ⟨rfl,rfl,rfl,Nat.le_refl _,fun _ _ _=>rfl⟩
   have ZI:(k:Int)<6:=by omega
   have hkw:IntKind.i64.wrap ((k:Int)+1)=(k:Int)+1:=by rw [IntKind.wrap_i64];omega
   clear hb3 t3 hk3 hW3 hbb MF hbs hcell hoc hos
   go_wp2_with fail
   rw [HW3.out]
   refine bM (S:=fun w'=>Turn (fun j=>j=bp) W3 w') (x:=12) (by kernel_rfl) ?_
   try simp only [Act.put,List.getElem_toArray,List.getElem_cons_zero,List.getElem_cons_succ,List.setIfInBounds_toArray,List.set_cons_zero,List.set_cons_succ]
   refine tx 0 (.pointer (some ⟨bp,0,none⟩)) HD0.out ?_
   refine tx 1 (.pointer (some ⟨bp,0,none⟩)) HD0.out ?_
   refine tx 2 (.pointer (some ⟨bp,0,none⟩)) HD0.out ?_
   refine tx 3 (.slice (some ⟨bb,0,none⟩) 6 6) HD0.out ?_
   refine tx 4 (.int .i64 (k:Int)) HD0.out ?_
   refine tx 5 (.pointer (some ⟨bb,k,none⟩)) HD0.out ?_
   refine jW 6 (.slice Ao no co) PO.out HD0.out ?_
   refine ay (rs:=[7]) (by kernel_rfl) (by simp) ?_
   refine av.cons rfl (fun K hK=> ?_) (av.nil)
   go_simp
   refine(Kh.out).mono ?_
   rintro e w4 h4
   rcases hq:bS ops r with g | ⟨o,r4⟩
   ·exact(fG hq).elim
   ·obtain⟨v4,rfl,tn,rfl,kn⟩:=h4.aL hq
    have fM:=hid (aA HD0.out tn)
    have hs4:=fM.out.size
    have zh:=hid (vW.out.go hlt hab fM.out (fun j h=> .inl h) kn)
    have lT:=hid (ah kG.out fM.out (by omega))
    have O7:=hid (ah Ii.out fM.out (by omega))
    have NK:=hid (AQ.out.turn fM.out (fun g _ h e=>by have:=h.1.1;omega))
    have fu:=hid hq
    clear h4 tn kn hq
    refine hK.out _ _ fM.out ?_
    clear hK K
    try simp only [Act.put,List.getElem_toArray,List.getElem_cons_zero,List.getElem_cons_succ,List.setIfInBounds_toArray,List.set_cons_zero,List.set_cons_succ]
    refine tx 8 (.tuple #[.int .i64 ((o.getD 0:Nat):Int), .bool o.isSome]) fM.out ?_
    refine tx 9 (.int .i64 ((o.getD 0:Nat):Int)) fM.out ?_
    refine tx 10 (.bool o.isSome) fM.out ?_
    refine tx 11 (.int .i64 ((o.getD 0:Nat):Int)) fM.out ?_
    refine ay (rs:=[12]) (by kernel_rfl) (by simp) ?_
    refine av.past rfl (by kernel_rfl) (fun K hK=> ?_) (av.nil)
    go_simp
    refine hK.out _ _ ?_
    clear hK K
    try simp only [Act.put,List.getElem_toArray,List.getElem_cons_zero,List.getElem_cons_succ,List.setIfInBounds_toArray,List.set_cons_zero,List.set_cons_succ]
    refine aO (by kernel_rfl) ?_ _
    rcases o with _ | i
    ·have gK:Hid (Pr.good a r4=Q):=hid ((aj fu.out).symm.trans HL.out)
     obtain⟨e0,e1,e2,e3,e4,e5,e6,e7,ez⟩:=aN O7.out
     obtain⟨c0,c1,c2,c3,c4,c5,c6,c7,cz⟩:=aN zh.out.res
     go_wp2_with fail
     refine bodyPost_ret (aW rfl rfl (aP zh.out.res _ _ _ _ _ _ _ _) Tryz.underlying49 rfl (by kernel_rfl)) rfl ?_
     exact aD.done gK.out.symm (bC zh.out.turn (by omega)) ⟨_,rfl,(NK.out.turn (aY _ _ _ _ _ _ _ _ _ _) (fun g _ h e=>by have:=h.1.2.1;omega)).mono (fun g _ h=>h.1.1)⟩ (zh.out.tk.eY (by omega))
    ·have YA:=jN fu.out
     have gK:Hid (au sub (fun b=>iT ops sub f (aJ 14 (ops.getD i []) 0 t [] [] [a,b])) r4=Q):=hid ((aj fu.out).symm.trans HL.out)
     have ZJ:=zh.out.turn.size
     obtain⟨bb2,hbb,MF,hbs,hcell⟩:=zh.out.rk
     have hbe:bb2=bb:=by injection hbb with h1;injection h1 with h1;injection h1 with h1;exact h1.symm
     subst hbe
     obtain⟨Ap,np,cp,hoc,hos⟩:=hcell k (by omega)
     rw [R7.out]at hos
     obtain⟨A9,n9,c9,VF,UL,YB,Vt,UM⟩:=hos
     injection VF with VF VG VH
     subst VF VG VH
     rw [dS,Nat.mul_one]at UL
     subst UL
     obtain⟨bo,oo,rfl,ZK,ZL,R8⟩:=UM (by omega)
     have hstr:=R8 i (sv (ops.getD i [])) (by rw [wE _ _ YA];simp [List.getD,YA])
     obtain⟨e0,e1,e2,e3,e4,e5,e6,e7,ez⟩:=aN O7.out
     obtain⟨m0,m1,m2,m3,m4,m5,m6,m7,mz⟩:=aN lT.out
     obtain⟨sx,hsx⟩:∃sx,ops.getD i []=sx:=⟨_,rfl⟩
     rw [hsx]at hstr
     have ZM:=hid hsx
     have PR:=hid (fun(w':World) (h:Turn (fun j=>j=bp∨j=w3.heap.size) w4 w')=>aI hoc h (by omega))
     have PS:=hid (fun(w':World) (h:Turn (fun j=>j=bp∨j=w3.heap.size) w4 w')=>aI hstr h (by omega))
     have PA:=hid (fun(w':World) (h:Turn (fun j=>j=bp∨j=w3.heap.size) w4 w')=>(⟨aI e0 h (by omega),aI e1 h (by omega),aI e2 h (by omega),aI e3 h (by omega),aI e4 h (by omega),aI e5 h (by omega),aI e6 h (by omega),aI e7 h (by omega)⟩:w'.cell? ⟨w2.heap.size,0,none⟩=some (.int .i64 k4)∧w'.cell? ⟨w2.heap.size,1,none⟩=some (sv s4)∧w'.cell? ⟨w2.heap.size,2,none⟩=some (.int .i64 n4)∧w'.cell? ⟨w2.heap.size,3,none⟩=some (.int .i64 l4)∧w'.cell? ⟨w2.heap.size,4,none⟩=some (.int .i64 o4)∧w'.cell? ⟨w2.heap.size,5,none⟩=some (.slice lI n14 c14)∧w'.cell? ⟨w2.heap.size,6,none⟩=some (.slice lJ n24 c24)∧w'.cell? ⟨w2.heap.size,7,none⟩=some (.slice nQ n34 c34)))
     have oV:Hid (Turn (fun j=>j=bp∨j=w3.heap.size) w4 w4.drew):=hid ⟨rfl,rfl,rfl,Nat.le_refl _,fun _ _ _=>rfl⟩
     have Ki:Hid (Turn (fun j=>j=bp) w4 w4.drew):=hid ⟨rfl,rfl,rfl,Nat.le_refl _,fun _ _ _=>rfl⟩
     have Rb:=hid (Yz.out w4.drew r4 zh.out.tk)
     have ZN:(i:Int)<(ops.length:Int):=by omega
     clear hbb MF hbs hcell hoc UM hstr R8 e0 e1 e2 e3 e4 e5 e6 e7 ez m0 m1 m2 m3 m4 m5 m6 m7 mz hsx
     go_wp2_with fail
     refine bM (S:=fun w'=>Turn (fun j=>j=bp∨j=w3.heap.size) w4 w') (x:=16) (by kernel_rfl) ?_
     try simp only [Act.put,List.getElem_toArray,List.getElem_cons_zero,List.getElem_cons_succ,List.setIfInBounds_toArray,List.set_cons_zero,List.set_cons_succ]
     refine tx 0 (.slice (some ⟨bb2,0,none⟩) 6 6) oV.out ?_
     refine tx 1 (.int .i64 (k:Int)) oV.out ?_
     refine tx 2 (.pointer (some ⟨bb2,k,none⟩)) oV.out ?_
     refine jW 3 (.slice (some ⟨bo,oo,none⟩) ops.length cp) PR.out oV.out ?_
     refine tx 4 (.int .i64 (i:Int)) oV.out ?_
     refine tx 5 (.pointer (some ⟨bo,oo+i,none⟩)) oV.out ?_
     refine jW 6 (sv sx) PS.out oV.out ?_
     refine jW 7 (.agg #[.int .i64 k4,sv s4, .int .i64 n4, .int .i64 l4, .int .i64 o4, .slice lI n14 c14, .slice lJ n24 c24, .slice nQ n34 c34]) PA.out oV.out ?_
     refine tx 8 (.pointer (some ⟨bp,0,none⟩)) oV.out ?_
     refine tx 9 (.int .i64 (k:Int)) oV.out ?_
     refine tx 10 (.int .i64 ((k:Int)+1)) oV.out ?_
     refine tx 13 (.pointer (some ⟨w3.heap.size,1,none⟩)) oV.out ?_
     refine ay (rs:=[11]) (by kernel_rfl) (by simp) ?_
     refine av.cons rfl (fun K hK=> ?_) (av.nil)
     go_simp
     refine(Rb.out).mono ?_
     rintro e w5 h5
     rcases hq:sub r4 with g | ⟨x5,r5⟩
     ·obtain⟨rfl,tn,bn⟩:=h5.bF hq
      have HB:=hid (dI.mk2 (aA zh.out.turn (aA Ki.out tn)) bn)
      have bY:=hid (gK.out.symm.trans (aB hq))
      exact⟨rfl,aD.fail bY.out HB.out⟩
     ·obtain⟨v5,rfl,tn,⟨z5,rfl,AL⟩,kn⟩:=h5.aL hq
      obtain⟨k5,s5,n5,l5,o5,uj,n15,c15,um,n25,uo,F9,n35,Ga,rfl⟩:=AL.shape'
      have fI:=hid (aA Ki.out tn)
      have BA:=hid (fI.out.mono (G:=fun j=>j=bp∨j=w3.heap.size) (fun _ _ h=> .inl h))
      have hs5:=fI.out.size
      have zi:=hid (zh.out.go hlt hab fI.out (fun j h=> .inl h) kn)
      have Ji:=hid (NK.out.turn fI.out (fun g _ h e=>by have:=h.1.1;omega))
      have R9:=ah O7.out fI.out (by omega)
      have MG:=hid R9
      have kH:=ah lT.out fI.out (by omega)
      have lU:=hid kH
      have uW:=hid (AL.iv.mono (G:=Iv w4.heap.size w5.heap.size) (fun g _ h=>h))
      have rD:Hid (iT ops sub f (aJ 14 sx 0 t [] [] [a,x5]) r5=Q):=hid (by
       have:=(aj hq).symm.trans gK.out
       rw [ZM.out]at this
       exact this)
      have Q9:=hid (hsf.good zh.out.tk.wf hq).2.length_le
      have ZO:=hid ((Sf.dO ops).good vV.out.tk.wf fu.out).2.length_le
      have sP:=hid (xZ fu.out vV.out.tk.wf.pos)
      have VI:=block_lt kH
      obtain⟨m0,m1,m2,m3,m4,m5,m6,m7,mz⟩:=aN kH
      clear h5 tn AL kn hq kH R9
      refine hK.out _ _ BA.out ?_
      clear hK K
      try simp only [Act.put,List.getElem_toArray,List.getElem_cons_zero,List.getElem_cons_succ,List.setIfInBounds_toArray,List.set_cons_zero,List.set_cons_succ]
      refine ay (rs:=[12,14]) (by kernel_rfl) (by simp) ?_
      refine av.cons rfl (fun K hK=> ?_) (av.cons rfl (fun K hK=> ?_) av.nil)
      ·go_simp
       have MH:=hid (BA.out.trans (Turn.alloc (fun j=>j=bp∨j=w3.heap.size) w5 (.cells #[.int .i64 k4,sv s4, .int .i64 n4, .int .i64 l4, .int .i64 o4, .slice lI n14 c14, .slice lJ n24 c24, .slice nQ n34 c34, .int .i64 k5,sv s5, .int .i64 n5, .int .i64 l5, .int .i64 o5, .slice uj n15 c15, .slice um n25 uo, .slice F9 n35 Ga] 49)) (fun _ _ h=>h))
       refine hK.out _ _ MH.out ?_
       clear hK K
       try simp only [Act.put,List.getElem_toArray,List.getElem_cons_zero,List.getElem_cons_succ,List.setIfInBounds_toArray,List.set_cons_zero,List.set_cons_succ]
       refine ay (rs:=[14]) (by kernel_rfl) (by simp) ?_
       refine av.cons rfl (fun K hK=> ?_) (av.nil)
       go_simp
       have iM:=hid ((BA.out.trans (ak w5 w3.heap.size 1 (sv sx)) (fun _ _ h=> .inr h)).trans (Turn.alloc (fun j=>j=bp∨j=w3.heap.size) _ (.cells #[.int .i64 k4,sv s4, .int .i64 n4, .int .i64 l4, .int .i64 o4, .slice lI n14 c14, .slice lJ n24 c24, .slice nQ n34 c34, .int .i64 k5,sv s5, .int .i64 n5, .int .i64 l5, .int .i64 o5, .slice uj n15 c15, .slice um n25 uo, .slice F9 n35 Ga] 49)) (fun _ _ h=>h))
       refine hK.out _ _ iM.out ?_
       clear hK K
       try simp only [Act.put,List.getElem_toArray,List.getElem_cons_zero,List.getElem_cons_succ,List.setIfInBounds_toArray,List.set_cons_zero,List.set_cons_succ]
       refine tx 15 (.pointer (some ⟨w3.heap.size,7,none⟩)) iM.out ?_
       refine ay (rs:=[16]) (by kernel_rfl) (by simp) ?_
       refine av.past rfl (by kernel_rfl) (fun K hK=> ?_) (av.nil)
       go_simp
       refine hK.out _ _ ?_
       clear hK K
       try simp only [Act.put,List.getElem_toArray,List.getElem_cons_zero,List.getElem_cons_succ,List.setIfInBounds_toArray,List.set_cons_zero,List.set_cons_succ]
       refine aO (by kernel_rfl) ?_ _
       obtain⟨t8,CF,CG⟩:=mY (nb:=w3.heap.size) (c1:=1) (c2:=7) (v1:=sv sx) (v2:=(.slice (some ⟨w5.heap.size,0,none⟩) 2 2)) (P:= #[.int .i64 k4,sv s4, .int .i64 n4, .int .i64 l4, .int .i64 o4, .slice lI n14 c14, .slice lJ n24 c24, .slice nQ n34 c34, .int .i64 k5,sv s5, .int .i64 n5, .int .i64 l5, .int .i64 o5, .slice uj n15 c15, .slice um n25 uo, .slice F9 n35 Ga]) (T:=49) lU.out (((w5.setCell ⟨w3.heap.size,1,none⟩ (sv sx)).setCell ⟨w3.heap.size,7,none⟩ (.slice (some ⟨w5.heap.size,0,none⟩) 2 2)).alloc (.cells #[.int .i64 k4,sv s4, .int .i64 n4, .int .i64 l4, .int .i64 o4, .slice lI n14 c14, .slice lJ n24 c24, .slice nQ n34 c34, .int .i64 k5,sv s5, .int .i64 n5, .int .i64 l5, .int .i64 o5, .slice uj n15 c15, .slice um n25 uo, .slice F9 n35 Ga] 49)) rfl
       have oD:=zi.out.tk.turn t8 (by omega) (fun k hk e=>by have:=zi.out.tk.1;omega)
       have xS:=hid (gV CF 8 2 rfl (by omega))
       have O8:=hid (Ji.out.turn t8 (fun g hg h e=>by have:=h.2;omega))
       have Kj:=ah MG.out t8 (by omega)
       have uE:Hid (sO w bp B w2.heap.size d (.slice (some ⟨bb2,0,none⟩) 6 6) _ a r5):=hid ⟨zi.out.turn.trans t8 (fun i hi e=>by omega),oD,ah zi.out.res t8 (by omega),zi.out.rk.turn t8 (fun g hg h e=>by have:=h.2;omega), _,Kj,O8.out.mono (fun g _ h=>h.1)⟩
       have CJ:=hid (uW.out.turn t8 (fun g _ h e=>by have:=h.1;omega))
       have lV:=hid CG
       have uh:=t8.size
       obtain⟨W8,qY⟩:∃W8,(((w5.setCell ⟨w3.heap.size,1,none⟩ (sv sx)).setCell ⟨w3.heap.size,7,none⟩ (.slice (some ⟨w5.heap.size,0,none⟩) 2 2)).alloc (.cells #[.int .i64 k4,sv s4, .int .i64 n4, .int .i64 l4, .int .i64 o4, .slice lI n14 c14, .slice lJ n24 c24, .slice nQ n34 c34, .int .i64 k5,sv s5, .int .i64 n5, .int .i64 l5, .int .i64 o5, .slice uj n15 c15, .slice um n25 uo, .slice F9 n35 Ga] 49))=W8:=⟨_,rfl⟩
       rw [qY]at uE xS O8 CJ lV uh Kj
       have EH:=hid qY
       have q8:=aN (show W8.heap[w3.heap.size]? =some (.cells #[.int .i64 14,sv sx, .int .i64 0, .int .i64 (t.line:Nat), .int .i64 (t.col:Nat), .slice none 0 0, .slice none 0 0,(.slice (some ⟨w5.heap.size,0,none⟩) 2 2)] 49 (0,0))from lV.out)
       obtain⟨f0,f1,f2,f3,f4,f5,f6,f7,fz⟩:=q8
       obtain⟨e0,e1,e2,e3,e4,e5,e6,e7,ez⟩:=aN Kj
       have VJ:=hid Kj
       clear t8 CF CG oD qY Kj m0 m1 m2 m3 m4 m5 m6 m7 mz
       rw [EH.out]
       go_wp2_with fail
       have tF:=aY W8 w2.heap.size (.int .i64 14) (sv sx) (.int .i64 0) (.int .i64 (t.line:Nat)) (.int .i64 (t.col:Nat)) (.slice none 0 0) (.slice none 0 0) (.slice (some ⟨w5.heap.size,0,none⟩) 2 2)
       have CK:sO w bp B w2.heap.size d (.slice (some ⟨bb2,0,none⟩) 6 6) (vS W8 w2.heap.size (.int .i64 14) (sv sx) (.int .i64 0) (.int .i64 (t.line:Nat)) (.int .i64 (t.col:Nat)) (.slice none 0 0) (.slice none 0 0) (.slice (some ⟨w5.heap.size,0,none⟩) 2 2)) (aJ 14 sx 0 t [] [] [a,x5]) r5:=by
        have hwx:=uE.out.turn.size
        refine⟨bC uE.out.turn (by omega),uE.out.tk.eY (by omega),ah uE.out.res tF (by omega),uE.out.rk.turn tF (fun g _ h e=>by have:=h.2;omega), _,aP VJ.out _ _ _ _ _ _ _ _, ?_⟩
        exact .mk (dh.nil _ _ _) .nil (dh.nil _ _ _) ((xS.out.turn tF (fun g _ h e=>by omega)).mono (fun g _ h=>by omega)) (.cons ((O8.out.turn tF (fun g _ h e=>by have:=h.1.2.2;omega)).mono (fun g _ h=>h.1)) (.cons ((CJ.out.turn tF (fun g _ h e=>by have:=h.1;omega)).mono (fun g _ h=>by have:=h.1;omega)) .nil))
       go_roundw
       case rel=>exact⟨f, _,r5,rD.out,by have:=Q9.out;have:=sP.out;have:=HF.out;omega,CK⟩
       case measure=>rw [CK.tk.left,HLEN.out];have:=Q9.out;have:=sP.out;omega
      ·go_simp
       have MH:=hid (BA.out.trans (ak w5 w3.heap.size 1 (sv sx)) (fun _ _ h=> .inr h))
       refine hK.out _ _ MH.out ?_
       clear hK K
       try simp only [Act.put,List.getElem_toArray,List.getElem_cons_zero,List.getElem_cons_succ,List.setIfInBounds_toArray,List.set_cons_zero,List.set_cons_succ]
       refine ay (rs:=[12]) (by kernel_rfl) (by simp) ?_
       refine av.cons rfl (fun K hK=> ?_) (av.nil)
       go_simp
       have iM:=hid (MH.out.trans (Turn.alloc (fun j=>j=bp∨j=w3.heap.size) (w5.setCell ⟨w3.heap.size,1,none⟩ (sv sx)) (.cells #[.int .i64 k4,sv s4, .int .i64 n4, .int .i64 l4, .int .i64 o4, .slice lI n14 c14, .slice lJ n24 c24, .slice nQ n34 c34, .int .i64 k5,sv s5, .int .i64 n5, .int .i64 l5, .int .i64 o5, .slice uj n15 c15, .slice um n25 uo, .slice F9 n35 Ga] 49)) (fun _ _ h=>h))
       refine hK.out _ _ iM.out ?_
       clear hK K
       try simp only [Act.put,List.getElem_toArray,List.getElem_cons_zero,List.getElem_cons_succ,List.setIfInBounds_toArray,List.set_cons_zero,List.set_cons_succ]
       refine tx 15 (.pointer (some ⟨w3.heap.size,7,none⟩)) iM.out ?_
       refine ay (rs:=[16]) (by kernel_rfl) (by simp) ?_
       refine av.past rfl (by kernel_rfl) (fun K hK=> ?_) (av.nil)
       go_simp
       refine hK.out _ _ ?_
       clear hK K
       try simp only [Act.put,List.getElem_toArray,List.getElem_cons_zero,List.getElem_cons_succ,List.setIfInBounds_toArray,List.set_cons_zero,List.set_cons_succ]
       refine aO (by kernel_rfl) ?_ _
       obtain⟨t8,CF,CG⟩:=mY (nb:=w3.heap.size) (c1:=1) (c2:=7) (v1:=sv sx) (v2:=(.slice (some ⟨w5.heap.size,0,none⟩) 2 2)) (P:= #[.int .i64 k4,sv s4, .int .i64 n4, .int .i64 l4, .int .i64 o4, .slice lI n14 c14, .slice lJ n24 c24, .slice nQ n34 c34, .int .i64 k5,sv s5, .int .i64 n5, .int .i64 l5, .int .i64 o5, .slice uj n15 c15, .slice um n25 uo, .slice F9 n35 Ga]) (T:=49) lU.out (((w5.setCell ⟨w3.heap.size,1,none⟩ (sv sx)).setCell ⟨w3.heap.size,7,none⟩ (.slice (some ⟨w5.heap.size,0,none⟩) 2 2)).alloc (.cells #[.int .i64 k4,sv s4, .int .i64 n4, .int .i64 l4, .int .i64 o4, .slice lI n14 c14, .slice lJ n24 c24, .slice nQ n34 c34, .int .i64 k5,sv s5, .int .i64 n5, .int .i64 l5, .int .i64 o5, .slice uj n15 c15, .slice um n25 uo, .slice F9 n35 Ga] 49)) rfl
       have oD:=zi.out.tk.turn t8 (by omega) (fun k hk e=>by have:=zi.out.tk.1;omega)
       have xS:=hid (gV CF 8 2 rfl (by omega))
       have O8:=hid (Ji.out.turn t8 (fun g hg h e=>by have:=h.2;omega))
       have Kj:=ah MG.out t8 (by omega)
       have uE:Hid (sO w bp B w2.heap.size d (.slice (some ⟨bb2,0,none⟩) 6 6) _ a r5):=hid ⟨zi.out.turn.trans t8 (fun i hi e=>by omega),oD,ah zi.out.res t8 (by omega),zi.out.rk.turn t8 (fun g hg h e=>by have:=h.2;omega), _,Kj,O8.out.mono (fun g _ h=>h.1)⟩
       have CJ:=hid (uW.out.turn t8 (fun g _ h e=>by have:=h.1;omega))
       have lV:=hid CG
       have uh:=t8.size
       obtain⟨W8,qY⟩:∃W8,(((w5.setCell ⟨w3.heap.size,1,none⟩ (sv sx)).setCell ⟨w3.heap.size,7,none⟩ (.slice (some ⟨w5.heap.size,0,none⟩) 2 2)).alloc (.cells #[.int .i64 k4,sv s4, .int .i64 n4, .int .i64 l4, .int .i64 o4, .slice lI n14 c14, .slice lJ n24 c24, .slice nQ n34 c34, .int .i64 k5,sv s5, .int .i64 n5, .int .i64 l5, .int .i64 o5, .slice uj n15 c15, .slice um n25 uo, .slice F9 n35 Ga] 49))=W8:=⟨_,rfl⟩
       rw [qY]at uE xS O8 CJ lV uh Kj
       have EH:=hid qY
       have q8:=aN (show W8.heap[w3.heap.size]? =some (.cells #[.int .i64 14,sv sx, .int .i64 0, .int .i64 (t.line:Nat), .int .i64 (t.col:Nat), .slice none 0 0, .slice none 0 0,(.slice (some ⟨w5.heap.size,0,none⟩) 2 2)] 49 (0,0))from lV.out)
       obtain⟨f0,f1,f2,f3,f4,f5,f6,f7,fz⟩:=q8
       obtain⟨e0,e1,e2,e3,e4,e5,e6,e7,ez⟩:=aN Kj
       have VJ:=hid Kj
       clear t8 CF CG oD qY Kj m0 m1 m2 m3 m4 m5 m6 m7 mz
       rw [EH.out]
       go_wp2_with fail
       have tF:=aY W8 w2.heap.size (.int .i64 14) (sv sx) (.int .i64 0) (.int .i64 (t.line:Nat)) (.int .i64 (t.col:Nat)) (.slice none 0 0) (.slice none 0 0) (.slice (some ⟨w5.heap.size,0,none⟩) 2 2)
       have CK:sO w bp B w2.heap.size d (.slice (some ⟨bb2,0,none⟩) 6 6) (vS W8 w2.heap.size (.int .i64 14) (sv sx) (.int .i64 0) (.int .i64 (t.line:Nat)) (.int .i64 (t.col:Nat)) (.slice none 0 0) (.slice none 0 0) (.slice (some ⟨w5.heap.size,0,none⟩) 2 2)) (aJ 14 sx 0 t [] [] [a,x5]) r5:=by
        have hwx:=uE.out.turn.size
        refine⟨bC uE.out.turn (by omega),uE.out.tk.eY (by omega),ah uE.out.res tF (by omega),uE.out.rk.turn tF (fun g _ h e=>by have:=h.2;omega), _,aP VJ.out _ _ _ _ _ _ _ _, ?_⟩
        exact .mk (dh.nil _ _ _) .nil (dh.nil _ _ _) ((xS.out.turn tF (fun g _ h e=>by omega)).mono (fun g _ h=>by omega)) (.cons ((O8.out.turn tF (fun g _ h e=>by have:=h.1.2.2;omega)).mono (fun g _ h=>h.1)) (.cons ((CJ.out.turn tF (fun g _ h e=>by have:=h.1;omega)).mono (fun g _ h=>by have:=h.1;omega)) .nil))
       go_roundw
       case rel=>exact⟨f, _,r5,rD.out,by have:=Q9.out;have:=sP.out;have:=HF.out;omega,CK⟩
       case measure=>rw [CK.tk.left,HLEN.out];have:=Q9.out;have:=sP.out;omega
end Go.Proofs.YtmbppnbekkbibaaGreatDoor
end
section
set_option linter.unusedVariables false
namespace Go.Proofs.YtmbppnbekkbibaaGreatDoor
open Go.RowKit
theorem MI (k:Int) (s:Bt) (a b c:Int) (A1 A2 A3:Option Addr) (n1 c1 n2 c2 n3 c3:Nat):∀u∈ #[Value.int .i64 k,sv s, .int .i64 a, .int .i64 b, .int .i64 c, .slice A1 n1 c1, .slice A2 n2 c2, .slice A3 n3 c3].toList,u.oneCell'=true:=by
 intro u hu
 simp only [List.mem_cons,List.not_mem_nil,or_false]at hu
 rcases hu with rfl | rfl | rfl | rfl | rfl | rfl | rfl | rfl <;> rfl
theorem Gb {w:World} {b k:Nat} {e:TypeId} {cs:Array Value} (h:w.heap[b]? =some (.cells cs e (0,0))) (hs:cs.size=k):w.ownsRow b e k (.slice (some ⟨b,0,none⟩) 1 1) 1 cs.toList:=
 ⟨by simp;omega, .inr ⟨b,1,cs,rfl,Nat.le_refl _,h,Nat.le_refl _,by decide,by omega,by rw [Nat.one_mul, ←hs];exact List.take_of_length_le (by simp)⟩⟩
set_option maxRecDepth 100000 in
set_option maxHeartbeats 8000000 in
theorem MJ (d:Int) (typ:Ps bO) (qR:sH d typ) (sub:Ps bD) (hsf:Sf sub) (HS:mZ d 3 sub):R6 d (Ag typ sub):=by
 intro w bp B ts h
 have hlt:=h.lt
 have hB:=h.1
 obtain⟨Q,hQ⟩:∃Q,Ag typ sub ts=Q:=⟨_,rfl⟩
 rw [hQ]
 have HQ:Hid (au sub (fun a=>au gF fun t0=>au (bS nW) (fun i=>match i with | none=>aG a | some i=>if i=3 then au (bS qm) fun t=>match t with | some t=>aG (aJ 12 [] t t0 [] [] [a]) | none=>ji 7 else if i=4 then au typ fun t=>aG (aJ 13 [] 0 t0 [t] [] [a])else au sub fun b=>aG (aJ 14 (nW.getD i []) 0 t0 [] [] [a,b]))) ts=Q):=hid hQ
 have HC:=hid (HS (w.alloc (.cells #[.int .i64 0, .string ⟨#[]⟩, .int .i64 0, .int .i64 0, .int .i64 0, .slice none 0 0, .slice none 0 0, .slice none 0 0] 49)) bp B ts (h.below (new1 _ _)))
 clear h hQ
 go_enter Tryz.func143,Tryz.ntmps143
 go_wp2_with fail
 refine(HC.out).mono ?_
 rintro e w1 h1
 rcases hq:sub ts with g | ⟨a,r1⟩
 ·obtain⟨rfl,tn,bn⟩:=h1.bF hq
  have tn:=(bq tn).1
  have HB:=hid (dI.mk2 tn bn)
  have bY:=hid (HQ.out.symm.trans (aB hq))
  clear h1 tn bn hq
  go_wp2_with fail
  exact⟨rfl,aD.fail bY.out HB.out⟩
 ·obtain⟨v1,rfl,tn,⟨z1,rfl,hz⟩,kn⟩:=h1.aL hq
  obtain⟨k1,s1,n1,l1,o1,O9,n11,c11,Pb,n21,c21,Pf,n31,c31,rfl⟩:=hz.shape'
  obtain⟨tm,hs1,hrs⟩:=bq tn
  have HT1:=hid tm
  have lN:=hid kn
  have HZ1:=hid (hz.iv.mono (G:=Iv (w.heap.size+1) w1.heap.size) (fun g _ h=>⟨by have h:=h.1;simp at h;exact h,h.2⟩))
  have lS:=hid (hrs (by omega))
  obtain⟨t0,ht0⟩:∃t0,aU r1=t0:=⟨_,rfl⟩
  have kF:Hid (au (bS nW) (fun i=>match i with | none=>aG a | some i=>if i=3 then au (bS qm) fun t=>match t with | some t=>aG (aJ 12 [] t t0 [] [] [a]) | none=>ji 7 else if i=4 then au typ fun t=>aG (aJ 13 [] 0 t0 [t] [] [a])else au sub fun b=>aG (aJ 14 (nW.getD i []) 0 t0 [] [] [a,b])) r1=Q):=hid (by subst ht0;exact(aj hq).symm.trans HQ.out)
  have HH:=hid (mX d (w1.alloc (.cells #[.int .i64 k1,sv s1, .int .i64 n1, .int .i64 l1, .int .i64 o1, .slice O9 n11 c11, .slice Pb n21 c21, .slice Pf n31 c31] 49)) bp B r1 (kn.below (new1 _ _)) 14)
  rw [ht0]at HH
  have Sb:=yT w1 (.cells #[.int .i64 k1,sv s1, .int .i64 n1, .int .i64 l1, .int .i64 o1, .slice O9 n11 c11, .slice Pb n21 c21, .slice Pf n31 c31] 49)
  obtain⟨a0,a1,a2,a3,a4,a5,a6,a7,az⟩:=aN Sb
  clear h1 tn tm hz kn hrs hq ht0
  go_wp2_with fail
  refine(HH.out).mono ?_
  rintro e w2 ⟨rfl,hb2⟩
  obtain⟨tm,hs2,Pg⟩:=bq (Turn.of_below (F:=fun k=>k=bp) hb2)
  have HT2:=hid (aA HT1.out tm)
  have jV:=hid ((lN.out.below (new1 _ _)).below hb2)
  have VK:=hid (Pg (by omega))
  have sQ:=hid (ah lS.out tm (by omega))
  have HZ2:=hid (HZ1.out.turn tm (fun g _ h e=>by have:=h.1;omega))
  have e2:=Pg (by omega)
  have hl12:=block_lt e2
  have Ph:¬w2.heap.size=w.heap.size:=by omega
  have Pj:¬w.heap.size=w2.heap.size:=by omega
  obtain⟨b0,b1,b2,b3,b4,b5,b6,b7,bz⟩:=aN e2
  clear hb2 tm Pg e2 Sb a0 a1 a2 a3 a4 a5 a6 a7 az
  have Kh:=hid (sG (((w2.alloc (.cells #[.int .i64 14, .string ⟨#[]⟩, .int .i64 0, .int .i64 (t0.line:Nat), .int .i64 (t0.col:Nat), .slice none 0 0, .slice none 0 0,(.slice (some ⟨w2.heap.size+1,0,none⟩) 1 1)] 49)).alloc (.cells #[.int .i64 k1,sv s1, .int .i64 n1, .int .i64 l1, .int .i64 o1, .slice O9 n11 c11, .slice Pb n21 c21, .slice Pf n31 c31] 49)).alloc (.cells #[.string ⟨#[60]⟩, .string ⟨#[60,61]⟩, .string ⟨#[61,61]⟩, .string ⟨#[105,115]⟩, .string ⟨#[97,115]⟩] 9)) bp B r1 d (jV.out.below (RL _ _ _ _)) (.slice (some ⟨w2.heap.size+1+1,0,none⟩) 5 5) nW (AJ _ (w2.heap.size+1+1) (by simp) nW #[.string ⟨#[60]⟩, .string ⟨#[60,61]⟩, .string ⟨#[61,61]⟩, .string ⟨#[105,115]⟩, .string ⟨#[97,115]⟩] 9 5 rfl rfl (by decide)) (by decide))
  go_wp2_with fail
  refine(Kh.out).mono ?_
  rintro e w3 h3
  rcases hq:bS nW r1 with g | ⟨o,r3⟩
  ·exact(fG hq).elim
  ·obtain⟨v3,rfl,tn,rfl,kn⟩:=h3.aL hq
   obtain⟨tm,hs3,sS,Sc,Sd⟩:=uf tn
   have HT3:=hid (aA HT2.out tm)
   have jm:=hid kn
   have kG:=hid (sS (by omega))
   have Ij:=hid (Sc (by omega))
   have VL:=hid (Sd (by omega))
   have VN:=hid (ah VK.out tm (by omega))
   have iR:=hid (ah sQ.out tm (by omega))
   have HZ3:=hid (HZ2.out.turn tm (fun g _ h e=>by have:=h.1;omega))
   have gU:=hid hq
   clear h3 tn tm kn sS Sc Sd hq b0 b1 b2 b3 b4 b5 b6 b7 bz
   rcases o with _ | i
   ·have fu:Hid (Pr.good a r3=Q):=hid ((aj gU.out).symm.trans kF.out)
    obtain⟨e0,e1,e2,e3,e4,e5,e6,e7,ez⟩:=aN VN.out
    obtain⟨c0,c1,c2,c3,c4,c5,c6,c7,cz⟩:=aN iR.out
    go_wp2_with fail
    refine bodyPost_ret (aW rfl rfl (aP iR.out _ _ _ _ _ _ _ _) Tryz.underlying49 rfl (by kernel_rfl)) rfl ?_
    exact aD.done fu.out.symm (bC HT3.out (by omega)) ⟨_,rfl,(HZ3.out.turn (aY _ _ _ _ _ _ _ _ _ _) (fun g _ h e=>by have:=h.1;omega)).mono (fun g _ h=>by have:=h.1;omega)⟩ (jm.out.eY (by omega))
   ·have hi:=jN gU.out
    simp only [nW,List.length_cons,List.length_nil]at hi
    have hsc:=fun j=>cell_of_row w3 _ j _ _ _ VL.out
    by_cases h3:i=3
    ·subst h3
     have s3:=(hsc 3).trans rfl
     have fu:Hid (au (bS qm) (fun t=>match t with | some t=>aG (aJ 12 [] t t0 [] [] [a]) | none=>ji 7) r3=Q):=hid ((aj gU.out).symm.trans kF.out)
     have t4:=ak w3 w2.heap.size 0 (.int .i64 12)
     have hk4:=jm.out.turn t4 (by omega) (fun k hk e=>by have:=jm.out.1;omega)
     have VO:=hid (kY (w3.setCell ⟨w2.heap.size,0,none⟩ (.int .i64 12)) bp B r3 d hk4 qm #[.string ⟨#[110,117,108,108]⟩, .string ⟨#[98,111,111,108]⟩, .string ⟨#[105,110,116]⟩, .string ⟨#[115,116,114]⟩, .string ⟨#[114,101,99,111,114,100]⟩, .string ⟨#[102,117,110,99,116,105,111,110]⟩] 9 6 w3.heap.size)
     have HF:=hid (fun(w1:World) (YC:List aF) (h1:bE w1 bp B YC d)=>pQ w1 bp B YC d 7 h1)
     obtain⟨n0,n1',n2,n3,n4,n5,n6,n7,nz⟩:=aN kG.out
     have lT:=hid (heap_setCell_same _ _ 0 _ _ (.int .i64 12) kG.out)
     have VP:=hid (ah Ij.out t4 (by omega))
     have ig:=hid (ah iR.out t4 (by omega))
     have vU:=hid (HZ3.out.turn t4 (fun g _ h e=>by have:=h.2;omega))
     have fM:=hid (HT3.out.trans t4 (fun i hi e=>by omega))
     clear hsc t4 hk4
     go_wp2_with fail
     refine(VO.out).mono ?_
     rintro e w5 h5
     rcases hq:bS qm r3 with g | ⟨o,r5⟩
     ·exact(fG hq).elim
     ·obtain⟨v5,rfl,tn,rfl,kn⟩:=h5.aL hq
      have hs5:=tn.size
      simp at hs5
      have fI:=hid (aA fM.out tn)
      have lQ:=hid kn
      have kH:=ah lT.out tn (by omega)
      have lU:=hid kH
      have Pm:=hid (ah VP.out tn (by omega))
      have iw:=hid (ah ig.out tn (by omega))
      have uW:=hid (vU.out.turn tn (fun g _ h e=>by have:=h.1;omega))
      have gK:=hid hq
      obtain⟨m0,m1,m2,m3,m4,m5,m6,m7,mz⟩:=aN (show w5.heap[w2.heap.size]? =some (.cells #[.int .i64 12, .string ⟨#[]⟩, .int .i64 0, .int .i64 (t0.line:Nat), .int .i64 (t0.col:Nat), .slice none 0 0, .slice none 0 0,(.slice (some ⟨w2.heap.size+1,0,none⟩) 1 1)] 49 (0,0))from kH)
      clear h5 tn kn hq kH n0 n1' n2 n3 n4 n5 n6 n7 nz s3
      rcases o with _ | j
      ·have rD:Hid (ji 7 r5=Q):=hid ((aj gK.out).symm.trans fu.out)
       have t6:=ak w5 w2.heap.size 2 (.int .i64 0)
       have Mc:=lQ.out.turn t6 (by omega) (fun k hk e=>by have:=lQ.out.1;omega)
       have ZP:=hid (HF.out _ _ Mc)
       have lF:=hid (fI.out.trans t6 (fun i hi e=>by omega))
       have VQ:=hid Mc.bp
       clear t6 Mc
       go_wp2_with fail
       refine(ZP.out).mono ?_
       rintro e w7 ⟨rfl,gI⟩
       have HB:=hid (dI.below lF.out VQ.out gI)
       clear gI
       go_wp2_with fail
       exact⟨rfl,aD.fail (rD.out.symm.trans rfl) HB.out⟩
      ·have rD:Hid (Pr.good (aJ 12 [] (j:Int) t0 [] [] [a]) r5=Q):=hid ((aj gK.out).symm.trans fu.out)
       have t6:=ak w5 w2.heap.size 2 (.int .i64 (j:Int))
       have Kk:=hid (show(w5.setCell ⟨w2.heap.size,2,none⟩ (.int .i64 (j:Int))).heap[w2.heap.size]? =some (.cells #[.int .i64 12, .string ⟨#[]⟩, .int .i64 (j:Int), .int .i64 (t0.line:Nat), .int .i64 (t0.col:Nat), .slice none 0 0, .slice none 0 0,(.slice (some ⟨w2.heap.size+1,0,none⟩) 1 1)] 49 (0,0))from heap_setCell_same _ _ 2 _ _ (.int .i64 (j:Int)) lU.out)
       have uX:=hid (lQ.out.turn t6 (by omega) (fun k hk e=>by have:=lQ.out.1;omega))
       have VR:=hid (gV (ah Pm.out t6 (by omega)) 8 1 rfl (by omega))
       have mE:=hid (ah iw.out t6 (by omega))
       have Sg:=hid (uW.out.turn t6 (fun g _ h e=>by have:=h.2;omega))
       have lF:=hid (fI.out.trans t6 (fun i hi e=>by omega))
       obtain⟨c0,c1,c2,c3,c4,c5,c6,c7,cz⟩:=aN iw.out
       clear t6
       go_wp2_with fail
       have tF:=aY (w5.setCell ⟨w2.heap.size,2,none⟩ (.int .i64 (j:Int))) w.heap.size (.int .i64 12) (.string ⟨#[]⟩) (.int .i64 (j:Int)) (.int .i64 (t0.line:Nat)) (.int .i64 (t0.col:Nat)) (.slice none 0 0) (.slice none 0 0) (.slice (some ⟨w2.heap.size+1,0,none⟩) 1 1)
       refine bodyPost_ret (aW rfl rfl (aP mE.out _ _ _ _ _ _ _ _) Tryz.underlying49 rfl (by kernel_rfl)) rfl ?_
       exact aD.done rD.out.symm (bC lF.out (by omega)) ⟨_,rfl, .mk (dh.nil _ _ _) .nil (dh.nil _ _ _) ((VR.out.turn tF (fun g _ h e=>by omega)).mono (fun g _ h=>by omega)) (.cons ((Sg.out.turn tF (fun g _ h e=>by have:=h.1;omega)).mono (fun g _ h=>by have:=h.1;omega)) .nil)⟩ (uX.out.eY (by omega))
    ·have hb3:((i:Int)==3)=false:=by simp;omega
     by_cases h4:i=4
     ·subst h4
      have s3:=(hsc 4).trans rfl
      have fu:Hid (au typ (fun t=>aG (aJ 13 [] 0 t0 [t] [] [a])) r3=Q):=hid ((aj gU.out).symm.trans kF.out)
      have VO:=hid (qR w3 bp B r3 jm.out)
      clear hsc
      go_wp2_with fail
      refine(VO.out).mono ?_
      rintro e w5 h5
      rcases hq:typ r3 with g | ⟨t,r5⟩
      ·obtain⟨rfl,tn,bn⟩:=h5.bF hq
       have HB:=hid (dI.mk2 (aA HT3.out tn) bn)
       have bY:=hid (fu.out.symm.trans (aB hq))
       clear h5 tn bn hq
       go_wp2_with fail
       exact⟨rfl,aD.fail bY.out HB.out⟩
      ·obtain⟨v5,rfl,tn,⟨z5,rfl,AL⟩,kn⟩:=h5.aL hq
       obtain⟨k5,s5,uj,n15,c15,um,n25,uo,rfl⟩:=AL.shape'
       have hs5:=tn.size
       have fI:=hid (aA HT3.out tn)
       have lQ:=hid kn
       have kH:=ah kG.out tn (by omega)
       have lU:=hid kH
       have Pm:=hid (ah Ij.out tn (by omega))
       have iw:=hid (ah iR.out tn (by omega))
       have uW:=hid (HZ3.out.turn tn (fun g _ h e=>by have:=h.1;omega))
       have UN:=hid (AL.iv)
       have gK:Hid (Pr.good (aJ 13 [] 0 t0 [t] [] [a]) r5=Q):=hid ((aj hq).symm.trans fu.out)
       obtain⟨m0,m1,m2,m3,m4,m5,m6,m7,mz⟩:=aN kH
       have VI:=block_lt kH
       have ZQ:=block_lt iw.out
       clear h5 tn AL kn hq kH s3
       obtain⟨c0,c1,c2,c3,c4,c5,c6,c7,cz⟩:=aN iw.out
       go_wp2_with fail
       have tV:=(ak w5 w2.heap.size 0 (.int .i64 13)).trans (ak _ w2.heap.size 5 (.slice (some ⟨w5.heap.size,0,none⟩) 1 1)) (fun _ _ h=>h)
       have ZR:=ah iw.out tV (by omega)
       have tP:=aY ((w5.setCell ⟨w2.heap.size,0,none⟩ (.int .i64 13)).setCell ⟨w2.heap.size,5,none⟩ (.slice (some ⟨w5.heap.size,0,none⟩) 1 1)) w.heap.size (.int .i64 13) (.string ⟨#[]⟩) (.int .i64 0) (.int .i64 (t0.line:Nat)) (.int .i64 (t0.col:Nat)) (.slice (some ⟨w5.heap.size,0,none⟩) 1 1) (.slice none 0 0) (.slice (some ⟨w2.heap.size+1,0,none⟩) 1 1)
       have ZT:=aP ZR (.int .i64 13) (.string ⟨#[]⟩) (.int .i64 0) (.int .i64 (t0.line:Nat)) (.int .i64 (t0.col:Nat)) (.slice (some ⟨w5.heap.size,0,none⟩) 1 1) (.slice none 0 0) (.slice (some ⟨w2.heap.size+1,0,none⟩) 1 1)
       have hsz:(vS ((w5.setCell ⟨w2.heap.size,0,none⟩ (.int .i64 13)).setCell ⟨w2.heap.size,5,none⟩ (.slice (some ⟨w5.heap.size,0,none⟩) 1 1)) w.heap.size (.int .i64 13) (.string ⟨#[]⟩) (.int .i64 0) (.int .i64 (t0.line:Nat)) (.int .i64 (t0.col:Nat)) (.slice (some ⟨w5.heap.size,0,none⟩) 1 1) (.slice none 0 0) (.slice (some ⟨w2.heap.size+1,0,none⟩) 1 1)).heap.size=w5.heap.size:=by simp
       have t7:Turn (fun k=>k=w2.heap.size∨k=w.heap.size) w5 _:=(tV.mono (G:=fun k=>k=w2.heap.size∨k=w.heap.size) fun _ _ h=> .inl h).trans tP (fun _ _ h=> .inr h)
       have hA:=yT (vS ((w5.setCell ⟨w2.heap.size,0,none⟩ (.int .i64 13)).setCell ⟨w2.heap.size,5,none⟩ (.slice (some ⟨w5.heap.size,0,none⟩) 1 1)) w.heap.size (.int .i64 13) (.string ⟨#[]⟩) (.int .i64 0) (.int .i64 (t0.line:Nat)) (.int .i64 (t0.col:Nat)) (.slice (some ⟨w5.heap.size,0,none⟩) 1 1) (.slice none 0 0) (.slice (some ⟨w2.heap.size+1,0,none⟩) 1 1)) (.cells #[.int .i64 k5,sv s5, .slice uj n15 c15, .slice um n25 uo] 63)
       rw [hsz]at hA
       have tA:=Turn.alloc (fun k=>k=w2.heap.size∨k=w.heap.size) (vS ((w5.setCell ⟨w2.heap.size,0,none⟩ (.int .i64 13)).setCell ⟨w2.heap.size,5,none⟩ (.slice (some ⟨w5.heap.size,0,none⟩) 1 1)) w.heap.size (.int .i64 13) (.string ⟨#[]⟩) (.int .i64 0) (.int .i64 (t0.line:Nat)) (.int .i64 (t0.col:Nat)) (.slice (some ⟨w5.heap.size,0,none⟩) 1 1) (.slice none 0 0) (.slice (some ⟨w2.heap.size+1,0,none⟩) 1 1)) (.cells #[.int .i64 k5,sv s5, .slice uj n15 c15, .slice um n25 uo] 63)
       have t8:=t7.trans tA (fun _ _ h=>h)
       have ZU:=gV hA 4 1 rfl (by omega)
       have ZV:=gV (ah Pm.out t8 (by omega)) 8 1 rfl (by omega)
       refine bodyPost_ret (aW rfl rfl (bB ZT) Tryz.underlying49 rfl (by kernel_rfl)) rfl ?_
       exact aD.done gK.out.symm (fI.out.trans t8 (fun i hi e=>by omega)) ⟨_,rfl, .mk (ZU.mono (fun g _ h=>by omega)) (.cons ((UN.out.turn t8 (fun g _ h e=>by have:=h.1;omega)).mono (fun g _ h=>by have:=h.1;omega)) .nil) (dh.nil _ _ _) (ZV.mono (fun g _ h=>by omega)) (.cons ((uW.out.turn t8 (fun g _ h e=>by have:=h.1;have:=h.2;omega)).mono (fun g _ h=>by have:=h.1;omega)) .nil)⟩ (lQ.out.turn t8 (by omega) (fun k hk e=>by have:=lQ.out.1;omega))
     ·have hi3:i<3:=by omega
      obtain⟨sx,hsx,hs0,ZW,ZX⟩:∃sx,nW.getD i []=sx∧w3.cell? ⟨w2.heap.size+1+1,i,none⟩=some (sv sx)∧(sx==[105,115])=false∧(sx==[97,115])=false:=by
       obtain rfl | rfl | rfl:i=0∨i=1∨i=2:=by omega
       ·exact⟨_,rfl,(hsc 0).trans rfl,rfl,rfl⟩
       ·exact⟨_,rfl,(hsc 1).trans rfl,rfl,rfl⟩
       ·exact⟨_,rfl,(hsc 2).trans rfl,rfl,rfl⟩
      have fu:Hid (au sub (fun b=>aG (aJ 14 sx 0 t0 [] [] [a,b])) r3=Q):=hid (by
       have:=(aj gU.out).symm.trans kF.out
       simp only [h3,h4,if_false,hsx]at this
       exact this)
      have hiI:(i:Int)<5:=by omega
      have HW:=hid hs0
      have k7:=(cell_of_row w3 _ 7 _ _ _ kG.out).trans rfl
      have PS:=hid (fun(w':World) (h:Turn (fun j=>j=bp∨w2.heap.size+1+1<j∨j=w2.heap.size+1) w3 w')=>aI hs0 h (by omega))
      have PK:=hid (fun(w':World) (h:Turn (fun j=>j=bp∨w2.heap.size+1+1<j∨j=w2.heap.size+1) w3 w')=>aI k7 h (by omega))
      have oV:Hid (Turn (fun j=>j=bp∨w2.heap.size+1+1<j∨j=w2.heap.size+1) w3 w3.drew):=hid ⟨rfl,rfl,rfl,Nat.le_refl _,fun _ _ _=>rfl⟩
      have Ki:Hid (Turn (fun j=>j=bp) w3 w3.drew):=hid ⟨rfl,rfl,rfl,Nat.le_refl _,fun _ _ _=>rfl⟩
      have Rb:=hid (HS w3.drew bp B r3 jm.out)
      clear hsc hsx k7 h3 h4
      go_wp2_with fail
      refine bM (S:=fun w'=>Turn (fun j=>j=bp∨w2.heap.size+1+1<j∨j=w2.heap.size+1) w3 w') (x:=11) (by kernel_rfl) ?_
      try simp only [Act.put,List.getElem_toArray,List.getElem_cons_zero,List.getElem_cons_succ,List.setIfInBounds_toArray,List.set_cons_zero,List.set_cons_succ]
      refine tx 0 (.slice (some ⟨w2.heap.size+1+1,0,none⟩) 5 5) oV.out ?_
      refine tx 1 (.int .i64 (i:Int)) oV.out ?_
      refine tx 2 (.pointer (some ⟨w2.heap.size+1+1,i,none⟩)) oV.out ?_
      refine jW 3 (sv sx) PS.out oV.out ?_
      refine tx 4 (.pointer (some ⟨w2.heap.size,7,none⟩)) oV.out ?_
      refine jW 5 (.slice (some ⟨w2.heap.size+1,0,none⟩) 1 1) PK.out oV.out ?_
      refine tt 6 (.pointer (some ⟨bp,0,none⟩)) (fun _=>oV.out) ?_
      refine tx 10 (.pointer (some ⟨w2.heap.size,1,none⟩)) oV.out ?_
      refine ay (rs:=[7]) (by kernel_rfl) (by simp) ?_
      refine av.cons rfl (fun K hK=> ?_) (av.nil)
      go_simp
      refine(Rb.out).mono ?_
      rintro e w5 h5
      rcases hq:sub r3 with g | ⟨x5,r5⟩
      ·obtain⟨rfl,tn,bn⟩:=h5.bF hq
       have HB:=hid (dI.mk2 (aA HT3.out (aA Ki.out tn)) bn)
       have bY:=hid (fu.out.symm.trans (aB hq))
       exact⟨rfl,aD.fail bY.out HB.out⟩
      ·obtain⟨v5,rfl,tn,⟨z5,rfl,AL⟩,kn⟩:=h5.aL hq
       obtain⟨k5,s5,n5,l5,o5,uj,n15,c15,um,n25,uo,F9,n35,Ga,rfl⟩:=AL.shape'
       have EI:=hid (aA Ki.out tn)
       have hs5:=EI.out.size
       have BA:=hid (EI.out.mono (G:=fun j=>j=bp∨w2.heap.size+1+1<j∨j=w2.heap.size+1) (fun _ _ h=> .inl h))
       have fI:=hid (aA HT3.out EI.out)
       have lQ:=hid kn
       have uW:=hid (AL.mono (G:=fun j=>w3.heap.size≤j) (fun g _ h=>h))
       have iw:=hid (ah iR.out EI.out (by omega))
       have lU:=hid (ah kG.out EI.out (by omega))
       have gK:Hid (Pr.good (aJ 14 sx 0 t0 [] [] [a,x5]) r5=Q):=hid ((aj hq).symm.trans fu.out)
       have HY:=hid (Gb Ij.out (k:=8) rfl)
       have HR:=hid (uV (R:=jG w3 (oO (fun j=>w.heap.size<j∧j≠w2.heap.size) (.slice (some ⟨w2.heap.size+1,0,none⟩) 1 1))) (k:=8) rfl (HZ3.out.mono (fun g _ h=>⟨fun e=>by injection e with e;have:=h.2;simp at e;omega,by have:=h.1;omega,by have:=h.2;omega⟩)))
       have UN:=hid (bT HY.out EI.out (fun g hg e=>by injection hg with hg;simp at hg;omega))
       clear h5 tn AL kn hq
       refine hK.out _ _ BA.out ?_
       clear hK K
       try simp only [Act.put,List.getElem_toArray,List.getElem_cons_zero,List.getElem_cons_succ,List.setIfInBounds_toArray,List.set_cons_zero,List.set_cons_succ]
       refine ay (rs:=[8]) (by kernel_rfl) (by simp) ?_
       refine av.cons rfl (fun K hK=> ?_) (av.nil)
       go_simp
       have MH:=hid (BA.out.trans (Turn.alloc (fun j=>j=bp∨w2.heap.size+1+1<j∨j=w2.heap.size+1) w5 (.cells #[.int .i64 k5,sv s5, .int .i64 n5, .int .i64 l5, .int .i64 o5, .slice uj n15 c15, .slice um n25 uo, .slice F9 n35 Ga] 49)) (fun _ _ h=>h))
       refine hK.out _ _ MH.out ?_
       clear hK K
       try simp only [Act.put,List.getElem_toArray,List.getElem_cons_zero,List.getElem_cons_succ,List.setIfInBounds_toArray,List.set_cons_zero,List.set_cons_succ]
       refine ay (rs:=[9]) (by kernel_rfl) (by simp) ?_
       refine av.cons rfl (fun K hK=> ?_) (av.nil)
       refine dX rfl (.tmp 36) (.tmp 39) _ rfl (w2.heap.size+1) Cq (.slice (some ⟨w2.heap.size+1,0,none⟩) 1 1) _ rfl rfl (UN.out.alloc (.cells #[.int .i64 k5,sv s5, .int .i64 n5, .int .i64 l5, .int .i64 o5, .slice uj n15 c15, .slice um n25 uo, .slice F9 n35 Ga] 49)) (fD w5 #[.int .i64 k5,sv s5, .int .i64 n5, .int .i64 l5, .int .i64 o5, .slice uj n15 c15, .slice um n25 uo, .slice F9 n35 Ga] 49 8 1 rfl (by decide)) (MI k5 s5 n5 l5 o5 _ _ _ _ _ _ _ _ _) (by simp [maxLen]) (by simp) (by simp;omega) (fun v7 w7 n7 aK fV dV=> ?_)
       obtain⟨A7,c7,rfl,zN,Ny⟩:=jd aK
       have ta:=Turn.alloc (fun j=>Value.ownBlock (.slice (some ⟨w2.heap.size+1,0,none⟩) 1 1)=some j) w5 (.cells #[.int .i64 k5,sv s5, .int .i64 n5, .int .i64 l5, .int .i64 o5, .slice uj n15 c15, .slice um n25 uo, .slice F9 n35 Ga] 49)
       have t7:=ta.trans (Turn.bf fV (F:=fun j=>Value.ownBlock (.slice (some ⟨w2.heap.size+1,0,none⟩) 1 1)=some j) (fun _ h=>h)) (fun _ _ h=>h)
       have vg:=fF.push aT (F:=fun j=>w.heap.size<j∧j≠w2.heap.size) (l:=[a]) HY.out HR.out EI.out uW.out t7 (fun j _ h=> .inl h) (dV.imp id fun e=>⟨_,by simp,e⟩) aK (by omega) (fun h=>by have:=h.1;omega) (fun j hj=>⟨by omega,by omega⟩)
       have hpo:∀j,Value.ownBlock (.slice (some ⟨w2.heap.size+1,0,none⟩) 1 1)=some j→j=w2.heap.size+1:=fun j e=>by injection e with e;exact e.symm
       have vo:=hid vg
       have iM:=hid (BA.out.trans t7 (fun _ _ h=> .inr (.inr (hpo _ h))))
       have iL:=hid (fI.out.trans t7 (fun i hi h=>by have:=hpo _ h;omega))
       have kP:=hid (lQ.out.turn t7 (fun h=>by have:=hpo _ h;omega) (fun k hk h=>by have:=hpo _ h;have:=lQ.out.1;omega))
       have qW:=hid (ah iw.out t7 (fun h=>by have:=hpo _ h;omega))
       have qZ:=ah lU.out t7 (fun h=>by have:=hpo _ h;omega)
       have Kl:=hid qZ
       obtain⟨m0,m1,m2,m3,m4,m5,m6,m7,mz⟩:=aN qZ
       clear aK fV dV ta t7 vg qZ
       refine hK.out _ _ iM.out ?_
       clear hK K
       try simp only [Act.put,List.getElem_toArray,List.getElem_cons_zero,List.getElem_cons_succ,List.setIfInBounds_toArray,List.set_cons_zero,List.set_cons_succ]
       refine ay (rs:=[11]) (by kernel_rfl) (by simp) ?_
       refine av.past rfl (by kernel_rfl) (fun K hK=> ?_) (av.nil)
       go_simp
       refine hK.out _ _ ?_
       clear hK K
       try simp only [Act.put,List.getElem_toArray,List.getElem_cons_zero,List.getElem_cons_succ,List.setIfInBounds_toArray,List.set_cons_zero,List.set_cons_succ]
       refine ay (rs:=[12]) (by kernel_rfl) (by simp) ?_
       refine av.past rfl (by kernel_rfl) (fun K hK=> ?_) (av.nil)
       go_simp
       refine hK.out _ _ ?_
       clear hK K
       try simp only [Act.put,List.getElem_toArray,List.getElem_cons_zero,List.getElem_cons_succ,List.setIfInBounds_toArray,List.set_cons_zero,List.set_cons_succ]
       refine ay (rs:=[13]) (by kernel_rfl) (by simp) ?_
       refine av.past rfl (by kernel_rfl) (fun K hK=> ?_) (av.nil)
       go_simp
       refine hK.out _ _ ?_
       clear hK K
       try simp only [Act.put,List.getElem_toArray,List.getElem_cons_zero,List.getElem_cons_succ,List.setIfInBounds_toArray,List.set_cons_zero,List.set_cons_succ]
       refine aO (by kernel_rfl) ?_ _
       have t8:=(ak w7 w2.heap.size 1 (sv sx)).trans (ak _ w2.heap.size 7 (.slice A7 n7 c7)) (fun _ _ h=>h)
       have Km:=heap_setCell_same _ _ 7 _ _ (.slice A7 n7 c7) (heap_setCell_same _ _ 1 _ _ (sv sx) Kl.out)
       have qw:=hid (kP.out.turn t8 (by omega) (fun k hk e=>by have:=kP.out.1;omega))
       have lH:=hid (iL.out.trans t8 (fun i hi e=>by omega))
       have iV:=hid (ah qW.out t8 (by omega))
       have NP:=hid (vo.out.turn aT t8 (fun g hg e=>by have:=(vo.out.lt g hg).1;omega) (fun g _ hg e=>hg.2 e))
       have lV:=hid Km
       obtain⟨W8,qY⟩:∃W8,(w7.setCell ⟨w2.heap.size,1,none⟩ (sv sx)).setCell ⟨w2.heap.size,7,none⟩ (.slice A7 n7 c7)=W8:=⟨_,rfl⟩
       rw [qY]at qw lH iV NP lV
       have EH:=hid qY
       obtain⟨f0,f1,f2,f3,f4,f5,f6,f7,fz⟩:=aN (show W8.heap[w2.heap.size]? =some (.cells #[.int .i64 14,sv sx, .int .i64 0, .int .i64 (t0.line:Nat), .int .i64 (t0.col:Nat), .slice none 0 0, .slice none 0 0,(.slice A7 n7 c7)] 49 (0,0))from lV.out)
       obtain⟨c0,c1,c2,c3,c4,c5,c6,c7',cz⟩:=aN iV.out
       clear t8 Km qY m0 m1 m2 m3 m4 m5 m6 m7 mz
       rw [EH.out]
       go_wp2_with fail
       have tF:=aY W8 w.heap.size (.int .i64 14) (sv sx) (.int .i64 0) (.int .i64 (t0.line:Nat)) (.int .i64 (t0.col:Nat)) (.slice none 0 0) (.slice none 0 0) (.slice A7 n7 c7)
       obtain⟨xs,q1,q2⟩:=NP.out.sl aT
       refine bodyPost_ret (aW rfl rfl (aP iV.out _ _ _ _ _ _ _ _) Tryz.underlying49 rfl (by kernel_rfl)) rfl ?_
       exact aD.done gK.out.symm (bC lH.out (by omega)) ⟨_,rfl, .mk (dh.nil _ _ _) .nil (dh.nil _ _ _) ((q1.turn tF (fun g _ h e=>by rcases h with h | h;omega;(have:=h.1;omega))).mono (fun g _ h=>by rcases h with h | h;omega;(have:=h.1;omega))) (jA (dB aT (fun g _ h=>by rcases h with h | h;omega;(have:=h.1;omega)) (bA aT tF (fun g _ h e=>by rcases h with h | h;omega;(have:=h.1;omega)) q2)))⟩ (qw.out.eY (by omega))
end Go.Proofs.YtmbppnbekkbibaaGreatDoor
end
