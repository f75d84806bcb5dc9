/- FR, HN, HQ, HS -/
import Derived.Test.YtfgjkmipfikooaaGreatDoorTTQ
import Derived.Test.YtfgjkmipfikooaaGreatDoorTT08
import Derived.Test.YtfgjkmipfikooaaGreatDoorTT07
import Derived.Test.YtfgjkmipfikooaaGreatDoorTT06
import Derived.Test.YtfgjkmipfikooaaGreatDoorTT02
set_option linter.unusedSimpArgs false
set_option linter.unusedVariables false
set_option maxRecDepth 100000
set_option maxHeartbeats 8000000
namespace Go.Proofs.YtfgjkmipfikooaaGreatDoor
open Go.RowKit
def vL (d:Int) (unary:Ps bX):Prop:=∀(w:World) (bp B:Nat) (ts:List aD),bK w bp B ts d→
 Calls Tryz.prog 163 #[.pointer (some ⟨bp,0,none⟩)] w (aF (LW w.heap.size) bp B d w (unary ts))
def Wz (d:Int) (p:Ps bX):Prop:=∀(w:World) (bp B:Nat) (ts:List aD),bK w bp B ts d→
 Calls Tryz.prog 164 #[.pointer (some ⟨bp,0,none⟩)] w (aF (LW w.heap.size) bp B d w (p ts))
def nS (d:Int) (k:Nat) (p:Ps bX):Prop:=∀(w:World) (bp B:Nat) (ts:List aD),bK w bp B ts d→
 Calls Tryz.prog 105 #[.pointer (some ⟨bp,0,none⟩), .int .i64 k] w (aF (LW w.heap.size) bp B d w (p ts))
theorem bI {bp a:Nat} {w w1:World} {v0 v1 v2 v3 v4 v5 v6 v7:Value} (h:Turn (fun k=>k=bp) w w1) (ha:w.heap.size≤a):Turn (fun k=>k=bp) w (sw w1 a v0 v1 v2 v3 v4 v5 v6 v7):=h.trans (bB w1 a v0 v1 v2 v3 v4 v5 v6 v7) (fun i hi e=>by omega)
theorem bK.fQ {bp B a:Nat} {w1:World} {ts:List aD} {d:Int} {v0 v1 v2 v3 v4 v5 v6 v7:Value} (h:bK w1 bp B ts d) (ha:bp<a):bK (sw w1 a v0 v1 v2 v3 v4 v5 v6 v7) bp B ts d:=h.turn (bB _ _ _ _ _ _ _ _ _ _) (by omega) (fun k hk e=>by have:=h.1;omega)
theorem Mk (d:Int) (p:Ps bX) (HU:vL d p):nS d 6 p:=by
 intro w bp B ts h;have hlt:=h.lt;have hB:=h.1;obtain⟨Q,hQ⟩:∃Q,p ts=Q:=⟨_,rfl⟩
 rw [hQ];have HQ:=hid hQ;have HR:=hid (vK (w.alloc (.cells #[.int .i64 0, .string ⟨#[]⟩, .int .i64 0, .int .i64 0, .int .i64 0, .slice none 0 0, .slice none 0 0, .slice none 0 0] 52)));have Ec:=hid (h.below (new1 w (.cells #[.int .i64 0, .string ⟨#[]⟩, .int .i64 0, .int .i64 0, .int .i64 0, .slice none 0 0, .slice none 0 0, .slice none 0 0] 52)));have hw1:=qR w (.cells #[.int .i64 0, .string ⟨#[]⟩, .int .i64 0, .int .i64 0, .int .i64 0, .slice none 0 0, .slice none 0 0, .slice none 0 0] 52);clear h hQ;go_enter Tryz.func105,Tryz.ntmps105;go_wp2_with fail;refine(HR.out).mono ?_;rintro e w1 ⟨hb,v,rfl,hv⟩;obtain⟨b,rfl,Pq,hbs,hcell⟩:=hv;have jP:=hid (Ec.out.below hb);obtain⟨tm,hs1,hrs⟩:=bH (Turn.of_below (F:=fun k=>k=bp) hb);have HT1:=hid tm;have mq:=hid (hrs (by omega));have HC:=hid (HU w1 bp B ts jP.out);clear hb Pq hbs hcell tm hrs hw1;go_wp2_with fail;refine(HC.out).mono ?_;rintro e w2 h2;rcases hq:p ts with g | ⟨x,r2⟩
 ·obtain⟨rfl,tn,bn⟩:=h2.bM hq;have HB:=hid (dX.mk2 (aA HT1.out tn) bn);have dG:=hid (HQ.out.symm.trans hq);clear h2 tn bn hq;go_wp2_with fail;exact⟨rfl,aF.fail dG.out HB.out⟩
 ·obtain⟨v2,rfl,tn,⟨z,rfl,hz⟩,kn⟩:=h2.aL hq;obtain⟨kz,sz,nz,lz,oz,lW,lX,lY,lZ,l6,l7,xY,xZ,x9,rfl⟩:=hz.shape';have HZ:=hid hz;have jO:=hid (HQ.out.symm.trans hq);clear hz;have hs2:=tn.size;have HT2:=hid (aA HT1.out tn);have iR:=hid kn;have nN:=hid (ah mq.out tn (by omega));clear h2 tn kn hq;obtain⟨c0,c1,c2,c3,c4,c5,c6,c7,cz⟩:=aT nN.out;go_wp2_with fail;refine bodyPost_ret (aS rfl rfl (aV nN.out _ _ _ _ _ _ _ _) Tryz.underlying52 rfl (by kernel_rfl)) rfl ?_;exact aF.done jO.out (bI HT2.out (by omega)) ⟨_,rfl,(HZ.out.turn (bB _ _ _ _ _ _ _ _ _ _) (fun g _ h e=>by omega)).mono (fun g _ h=>by omega)⟩ (iR.out.fQ (by omega))
theorem Ml (d:Int) (p:Ps bX) (HU:Wz d p):nS d 2 p:=by
 intro w bp B ts h;have hlt:=h.lt;have hB:=h.1;obtain⟨Q,hQ⟩:∃Q,p ts=Q:=⟨_,rfl⟩
 rw [hQ];have HQ:=hid hQ;have HR:=hid (vK (w.alloc (.cells #[.int .i64 0, .string ⟨#[]⟩, .int .i64 0, .int .i64 0, .int .i64 0, .slice none 0 0, .slice none 0 0, .slice none 0 0] 52)));have Ec:=hid (h.below (new1 w (.cells #[.int .i64 0, .string ⟨#[]⟩, .int .i64 0, .int .i64 0, .int .i64 0, .slice none 0 0, .slice none 0 0, .slice none 0 0] 52)));have hw1:=qR w (.cells #[.int .i64 0, .string ⟨#[]⟩, .int .i64 0, .int .i64 0, .int .i64 0, .slice none 0 0, .slice none 0 0, .slice none 0 0] 52);clear h hQ;go_enter Tryz.func105,Tryz.ntmps105;go_wp2_with fail;refine(HR.out).mono ?_;rintro e w1 ⟨hb,v,rfl,hv⟩;obtain⟨b,rfl,Pq,hbs,hcell⟩:=hv;have jP:=hid (Ec.out.below hb);obtain⟨tm,hs1,hrs⟩:=bH (Turn.of_below (F:=fun k=>k=bp) hb);have HT1:=hid tm;have mq:=hid (hrs (by omega));have HC:=hid (HU w1 bp B ts jP.out);clear hb Pq hbs hcell tm hrs hw1;go_wp2_with fail;refine(HC.out).mono ?_;rintro e w2 h2;rcases hq:p ts with g | ⟨x,r2⟩
 ·obtain⟨rfl,tn,bn⟩:=h2.bM hq;have HB:=hid (dX.mk2 (aA HT1.out tn) bn);have dG:=hid (HQ.out.symm.trans hq);clear h2 tn bn hq;go_wp2_with fail;exact⟨rfl,aF.fail dG.out HB.out⟩
 ·obtain⟨v2,rfl,tn,⟨z,rfl,hz⟩,kn⟩:=h2.aL hq;obtain⟨kz,sz,nz,lz,oz,lW,lX,lY,lZ,l6,l7,xY,xZ,x9,rfl⟩:=hz.shape';have HZ:=hid hz;have jO:=hid (HQ.out.symm.trans hq);clear hz;have hs2:=tn.size;have HT2:=hid (aA HT1.out tn);have iR:=hid kn;have nN:=hid (ah mq.out tn (by omega));clear h2 tn kn hq;obtain⟨c0,c1,c2,c3,c4,c5,c6,c7,cz⟩:=aT nN.out;go_wp2_with fail;refine bodyPost_ret (aS rfl rfl (aV nN.out _ _ _ _ _ _ _ _) Tryz.underlying52 rfl (by kernel_rfl)) rfl ?_;exact aF.done jO.out (bI HT2.out (by omega)) ⟨_,rfl,(HZ.out.turn (bB _ _ _ _ _ _ _ _ _ _) (fun g _ h e=>by omega)).mono (fun g _ h=>by omega)⟩ (iR.out.fQ (by omega))
theorem ze {l:List Bt} {ts r:List aD} {i:Nat} (h:cK l ts= .good (some i) r) (hw:1≤ts.length):r.length<ts.length:=by
 unfold cK at h;split at h
 ·cases h
 ·injection h with _ h;subst h;rw [List.length_drop];omega
structure uF (w:World) (bp B ab:Nat) (d:Int) (vr:Value) (wr:World) (a:bX) (r:List aD):Prop where
 turn:Turn (fun k=>k=bp) w wr
 tk:bK wr bp B r d
 res:wr.heap[w.heap.size]? =some (.cells #[.int .i64 0, .string ⟨#[]⟩, .int .i64 0, .int .i64 0, .int .i64 0, .slice none 0 0, .slice none 0 0, .slice none 0 0] 52 (0,0))
 rk:Eb wr (fun j=>w.heap.size+1≤j∧j<ab) vr
 no:∃z:List Value,wr.heap[ab]? =some (.cells z.toArray 52 (0,0))∧ow wr (fun j=>w.heap.size≤j∧j≠w.heap.size∧j≠ab) z a
theorem uF.go {w:World} {bp B ab:Nat} {d:Int} {vr:Value} {wr w':World} {a:bX} {r r':List aD} {G:Nat→Prop} (h:uF w bp B ab d vr wr a r) (hlt:bp<w.heap.size) (hab:w.heap.size<ab) (t:Turn G wr w') (hG:∀j,G j→j=bp∨wr.heap.size≤j) (hk:bK w' bp B r' d):uF w bp B ab d vr w' a r':=by
 obtain⟨ht, _,hr,hv,z,hz,hn⟩:=h;have hs:=ht.size;have hrl:=block_lt hr;have hzl:=block_lt hz;exact⟨ht.trans t (fun i hi e=>by rcases hG i e with e | e;exact e;omega),hk,ah hr t (fun e=>by rcases hG _ e with e | e <;> omega),hv.turn t (fun g hg h e=>by have:=h.1;rcases hG _ e with e | e <;> omega),z,ah hz t (fun e=>by rcases hG _ e with e | e <;> omega),hn.turn t (fun g hg h e=>by rcases hG _ e with e | e <;> omega)⟩
theorem nT (d:Int) (k:Nat) (hk:k=0∨k=1∨k=3∨k=4∨k=5) (sub:Ps bX) (hsf:Sf sub) (HS:nS d (k+1) sub):nS d k (AQ (BM.getD k []) sub):=by
 intro w bp B ts h;have hlt:=h.lt;have hB:=h.1;have hk5:k≤5:=by omega
 have OJ:((k:Int)==6)=false:=by simp;omega
 have hk2:((k:Int)==2)=false:=by simp;omega
 obtain⟨ops,hops⟩:∃ops,BM.getD k []=ops:=⟨_,rfl⟩
 have hol:ops.length≤6:=by
  rcases hk with rfl | rfl | rfl | rfl | rfl <;> rw [←hops] <;> decide
 have WA:=hid hops;rw [hops];obtain⟨Q,hQ⟩:∃Q,AQ ops sub ts=Q:=⟨_,rfl⟩
 rw [hQ];have HQ:Hid (aj sub (fun a ts=>lT ops sub ts.length a ts) ts=Q):=hid hQ;have HR:=hid (vK (w.alloc (.cells #[.int .i64 0, .string ⟨#[]⟩, .int .i64 0, .int .i64 0, .int .i64 0, .slice none 0 0, .slice none 0 0, .slice none 0 0] 52)));have Ec:=hid (h.below (new1 w (.cells #[.int .i64 0, .string ⟨#[]⟩, .int .i64 0, .int .i64 0, .int .i64 0, .slice none 0 0, .slice none 0 0, .slice none 0 0] 52)));have HKK:=hid hk;clear h hQ hops hk;go_enter Tryz.func105,Tryz.ntmps105;go_wp2_with fail;refine(HR.out).mono ?_;rintro e w1 ⟨hb,vr,rfl,hv⟩;have hv0:=hv;obtain⟨b,hvr,Pq,hbs,hcell⟩:=hv0;have aaF:=hid (hv.mono (G:=fun j=>w.heap.size+1≤j∧j<w1.heap.size) (fun g hg h=>⟨by simp at h;exact h,hg⟩));have jP:=hid (Ec.out.below hb);obtain⟨tm,hs1,hrs⟩:=bH (Turn.of_below (F:=fun k=>k=bp) hb);have HT1:=hid tm;have mq:=hid (hrs (by omega));have ZB:Hid (∀(w:World) (ts:List aD),bK w bp B ts d→Calls Tryz.prog 105 #[.pointer (some ⟨bp,0,none⟩), .int .i64 ((k:Int)+1)] w (aF (LW w.heap.size) bp B d w (sub ts))):=hid (fun w ts h=>HS w bp B ts h);have HC:=hid (ZB.out w1 ts jP.out);have afe:=hvr;subst hvr;clear hb Pq hbs hcell tm hrs hv;go_wp2_with fail;refine(HC.out).mono ?_;rintro e w2 h2;rcases hq:sub ts with g | ⟨a,r2⟩
 ·obtain⟨rfl,tn,bn⟩:=h2.bM hq;have HB:=hid (dX.mk2 (aA HT1.out tn) bn);have dG:=hid (HQ.out.symm.trans (aB hq));clear h2 tn bn hq;go_wp2_with fail;exact⟨rfl,aF.fail dG.out HB.out⟩
 ·obtain⟨v2,rfl,tn,⟨z,rfl,hz⟩,kn⟩:=h2.aL hq;have jO:Hid (lT ops sub r2.length a r2=Q):=hid ((au (f:=fun a ts=>lT ops sub ts.length a ts) hq).symm.trans HQ.out);obtain⟨k2,s2,n2,l2,o2,ZC,n12,c12,ZE,n22,ZF,ZG,n32,c32,rfl⟩:=hz.shape';have aaG:=hid (aaF.out.turn tn (fun g _ h e=>by have:=h.1;omega));have HZ:=hid hz;clear hz;have hs2:=tn.size;have HT2:=hid (aA HT1.out tn);have iR:=hid kn;have nN:=hid (ah mq.out tn (by omega));clear h2 tn kn hq;have ta:=Turn.alloc (fun k=>k=bp) w2 (.cells #[.int .i64 k2,sv s2, .int .i64 n2, .int .i64 l2, .int .i64 o2, .slice ZC n12 c12, .slice ZE n22 ZF, .slice ZG n32 c32] 52);have hab:w.heap.size<w2.heap.size:=by omega
  have HRI:Hid (uF w bp B w2.heap.size d (.slice (some ⟨b,0,none⟩) 6 6) (w2.alloc (.cells #[.int .i64 k2,sv s2, .int .i64 n2, .int .i64 l2, .int .i64 o2, .slice ZC n12 c12, .slice ZE n22 ZF, .slice ZG n32 c32] 52)) a r2):=hid ⟨aA HT2.out ta,iR.out.below (new1 _ _),bG nN.out,(aaG.out.turn ta (fun g _ h e=>by have:=h.1;omega)).mono (fun g _ h=>⟨h.1,by have:=h.2;omega⟩),[.int .i64 k2,sv s2, .int .i64 n2, .int .i64 l2, .int .i64 o2, .slice ZC n12 c12, .slice ZE n22 ZF, .slice ZG n32 c32],qR _ _,(HZ.out.iv.turn (Turn.alloc (fun _=>False) w2 (.cells #[.int .i64 k2,sv s2, .int .i64 n2, .int .i64 l2, .int .i64 o2, .slice ZC n12 c12, .slice ZE n22 ZF, .slice ZG n32 c32] 52)) (fun _ _ _=>id)).mono (fun g hg h=>⟨by have:=h.1;omega,by have:=h.1;omega,by have:=h.2;omega⟩)⟩;go_wp2_with fail;go_loopw [8] (fun _ wr=>∃(f:Nat) (a:bX) (r:List aD),lT ops sub f a r=Q∧r.length≤f∧uF w bp B w2.heap.size d (.slice (some ⟨b,0,none⟩) 6 6) wr a r) (fun _ wr=>leftOf wr bp)
  case atStart=>exact⟨_,a,r2,jO.out,Nat.le_refl _,HRI.out⟩
  case round=>
   obtain⟨f,a,r,hinv,hf,pG⟩:=hrel;have hwf:=pG.tk.wf;have hpos:=hwf.pos;obtain⟨f,rfl⟩:∃f',f=f'+1:=⟨f - 1,by omega⟩
   obtain⟨t,ht⟩:∃t,aQ r=t:=⟨_,rfl⟩
   have HL:Hid (aj (cK ops) (fun i=>match i with | none=>aG a | some i=>aj sub fun b=>lT ops sub f (aK 14 (ops.getD i []) 0 t [] [] [a,b])) r=Q):=hid (by subst ht;exact hinv);have HLEN:=hid pG.tk.left;have HF:=hid hf;have wX:=hid pG;have ru:=hid hwf;have hsr:=pG.turn.size;obtain⟨z4,hz0,hn0⟩:=pG.no;obtain⟨k4,s4,n4,l4,o4,mg,n14,c14,mh,n24,c24,oO,n34,c34,rfl⟩:=hn0.shape';have TJ:=hid hz0;have HN0:=hid (hn0.mono (G:=fun j=>(w.heap.size≤j∧j≠w.heap.size∧j≠w2.heap.size)∧j<wr.heap.size) (fun g hg h=>⟨h,hg⟩));have aaI:=block_lt hz0;have HH:=hid (nQ d wr bp B r pG.tk 14);rw [ht]at HH;clear hinv hf pG hwf ht hz0 hn0;go_wp2_with fail;refine(HH.out).mono ?_;rintro e w3 ⟨rfl,hb3⟩;have hs3:=hb3.size;have t3:=(Turn.of_below (F:=fun k=>k=bp) hb3).trans (Turn.alloc (fun k=>k=bp) w3 (.cells (nP 14 t) 52)) (fun _ _ h=>h);have hk3:=(wX.out.tk.below hb3).below (new1 w3 (.cells (nP 14 t) 52));have wY:=hid (wX.out.go hlt hab t3 (fun j h=> .inl h) hk3);have lu:=hid (qR w3 (.cells (nP 14 t) 52));have J9:=hid (ah TJ.out t3 (by omega));have Cc:=hid (HN0.out.turn t3 (fun g _ h e=>by have:=h.1.1;omega));obtain⟨W3,hW3⟩:∃W3,w3.alloc (.cells (nP 14 t) 52)=W3:=⟨_,rfl⟩
   rw [hW3]at wY lu J9 Cc;have ZH:W3.heap.size=w3.heap.size+1:=by rw [←hW3];simp
   have HW3:=hid hW3;obtain⟨bb,hbb,Pq,hbs,hcell⟩:=wY.out.rk;have hbe:bb=b:=by injection hbb with h1;injection h1 with h1;injection h1 with h1;exact h1.symm
   subst hbe;obtain⟨Ao,no,co,hoc,hos⟩:=hcell k (by omega);rw [WA.out]at hos;have PO:=hid (fun(w':World) (h:Turn (fun j=>j=bp) W3 w')=>aH hoc h (by omega));have DL:Hid (Ss W3.drew W3.drew.heap.size (.slice Ao no co) ops):=hid hos.all;have uD:=hid (ug W3.drew bp B r d wY.out.tk (.slice Ao no co) ops DL.out (by omega));have HOS:=hid hos;have HD0:Hid (Turn (fun j=>j=bp) W3 W3.drew):=hid ⟨rfl,rfl,rfl,Nat.le_refl _,fun _ _ _=>rfl⟩;have hkI:(k:Int)<6:=by omega
   have hkw:IntKind.i64.wrap ((k:Int)+1)=(k:Int)+1:=by rw [IntKind.wrap_i64];omega
   clear hb3 t3 hk3 hW3 hbb Pq hbs hcell hoc hos;go_wp2_with fail;rw [HW3.out];refine bO (S:=fun w'=>Turn (fun j=>j=bp) W3 w') (x:=12) (by kernel_rfl) ?_
   try simp only [Act.put,sq]
   refine tx 0 (.pointer (some ⟨bp,0,none⟩)) HD0.out ?_;refine tx 1 (.pointer (some ⟨bp,0,none⟩)) HD0.out ?_;refine tx 2 (.pointer (some ⟨bp,0,none⟩)) HD0.out ?_;refine tx 3 (.slice (some ⟨bb,0,none⟩) 6 6) HD0.out ?_;refine tx 4 (.int .i64 k) HD0.out ?_;refine tx 5 (.pointer (some ⟨bb,k,none⟩)) HD0.out ?_;refine jq 6 (.slice Ao no co) PO.out HD0.out ?_;refine ay (rs:=[7]) (by kernel_rfl) (by simp) ?_;refine av.cons rfl (fun K hK=> ?_) (av.nil);go_simp;refine(uD.out).mono ?_;rintro e w4 h4;rcases hq:cK ops r with g | ⟨o,r4⟩
   ·exact(gB hq).elim
   ·obtain⟨v4,rfl,tn,rfl,kn⟩:=h4.aL hq;have fP:=hid (aA HD0.out tn);have hs4:=fP.out.size;have zZ:=hid (wY.out.go hlt hab fP.out (fun j h=> .inl h) kn);have mD:=hid (ah lu.out fP.out (by omega));have TK:=hid (ah J9.out fP.out (by omega));have OI:=hid (Cc.out.turn fP.out (fun g _ h e=>by have:=h.1.1;omega));have fV:=hid hq;clear h4 tn kn hq;refine hK.out _ _ fP.out ?_;clear hK K
    try simp only [Act.put,sq]
    refine tx 8 (.tuple #[.int .i64 ((o.getD 0:Nat):Int), .bool o.isSome]) fP.out ?_;refine tx 9 (.int .i64 ((o.getD 0:Nat):Int)) fP.out ?_;refine tx 10 (.bool o.isSome) fP.out ?_;refine tx 11 (.int .i64 ((o.getD 0:Nat):Int)) fP.out ?_;refine ay (rs:=[12]) (by kernel_rfl) (by simp) ?_;refine av.past rfl (by kernel_rfl) (fun K hK=> ?_) (av.nil);go_simp;refine hK.out _ _ ?_;clear hK K
    try simp only [Act.put,sq]
    refine aM (by kernel_rfl) ?_ _;rcases o with _ | i
    ·have gN:Hid (Pr.good a r4=Q):=hid ((au fV.out).symm.trans HL.out);obtain⟨e0,e1,e2,e3,e4,e5,e6,e7,ez⟩:=aT TK.out;obtain⟨c0,c1,c2,c3,c4,c5,c6,c7,cz⟩:=aT zZ.out.res;go_wp2_with fail;refine bodyPost_ret (aS rfl rfl (aV zZ.out.res _ _ _ _ _ _ _ _) Tryz.underlying52 rfl (by kernel_rfl)) rfl ?_;exact aF.done gN.out.symm (bI zZ.out.turn (by omega)) ⟨_,rfl,(OI.out.turn (bB _ _ _ _ _ _ _ _ _ _) (fun g _ h e=>by have:=h.1.2.1;omega)).mono (fun g _ h=>h.1.1)⟩ (zZ.out.tk.fQ (by omega))
    ·have hio:=kD fV.out;have gN:Hid (aj sub (fun b=>lT ops sub f (aK 14 (ops.getD i []) 0 t [] [] [a,b])) r4=Q):=hid ((au fV.out).symm.trans HL.out);have afg:=zZ.out.turn.size;obtain⟨bb2,hbb,Pq,hbs,hcell⟩:=zZ.out.rk;have hbe:bb2=bb:=by injection hbb with h1;injection h1 with h1;injection h1 with h1;exact h1.symm
     subst hbe;obtain⟨Ap,np,cp,hoc,hos⟩:=hcell k (by omega);rw [WA.out]at hos;obtain⟨A9,n9,c9,hv9,ZI,hn9,hc9,ZJ⟩:=hos;injection hv9 with hv9 aaL aaM;subst hv9 aaL aaM;rw [eH,Nat.mul_one]at ZI;subst ZI;obtain⟨bo,oo,rfl,afh,afi,WB⟩:=ZJ (by omega);have hstr:=WB i (sv (ops.getD i [])) (by rw [xJ _ _ hio];simp [List.getD,hio]);obtain⟨e0,e1,e2,e3,e4,e5,e6,e7,ez⟩:=aT TK.out;obtain⟨m0,m1,m2,m3,m4,m5,m6,m7,mz⟩:=aT mD.out;obtain⟨sx,hsx⟩:∃sx,ops.getD i []=sx:=⟨_,rfl⟩
     rw [hsx]at hstr;have HSX:=hid hsx;have PR:=hid (fun(w':World) (h:Turn (fun j=>j=bp∨j=w3.heap.size) w4 w')=>aH hoc h (by omega));have PS:=hid (fun(w':World) (h:Turn (fun j=>j=bp∨j=w3.heap.size) w4 w')=>aH hstr h (by omega));have PA:=hid (fun(w':World) (h:Turn (fun j=>j=bp∨j=w3.heap.size) w4 w')=>(⟨aH e0 h (by omega),aH e1 h (by omega),aH e2 h (by omega),aH e3 h (by omega),aH e4 h (by omega),aH e5 h (by omega),aH e6 h (by omega),aH e7 h (by omega)⟩:w'.cell? ⟨w2.heap.size,0,none⟩=some (.int .i64 k4)∧w'.cell? ⟨w2.heap.size,1,none⟩=some (sv s4)∧w'.cell? ⟨w2.heap.size,2,none⟩=some (.int .i64 n4)∧w'.cell? ⟨w2.heap.size,3,none⟩=some (.int .i64 l4)∧w'.cell? ⟨w2.heap.size,4,none⟩=some (.int .i64 o4)∧w'.cell? ⟨w2.heap.size,5,none⟩=some (.slice mg n14 c14)∧w'.cell? ⟨w2.heap.size,6,none⟩=some (.slice mh n24 c24)∧w'.cell? ⟨w2.heap.size,7,none⟩=some (.slice oO n34 c34)));have qx:Hid (Turn (fun j=>j=bp∨j=w3.heap.size) w4 w4.drew):=hid ⟨rfl,rfl,rfl,Nat.le_refl _,fun _ _ _=>rfl⟩;have Mq:Hid (Turn (fun j=>j=bp) w4 w4.drew):=hid ⟨rfl,rfl,rfl,Nat.le_refl _,fun _ _ _=>rfl⟩;have VF:=hid (ZB.out w4.drew r4 zZ.out.tk);have afk:(i:Int)<(ops.length:Int):=by omega
     clear hbb Pq hbs hcell hoc ZJ hstr WB e0 e1 e2 e3 e4 e5 e6 e7 ez m0 m1 m2 m3 m4 m5 m6 m7 mz hsx;go_wp2_with fail;refine bO (S:=fun w'=>Turn (fun j=>j=bp∨j=w3.heap.size) w4 w') (x:=16) (by kernel_rfl) ?_
     try simp only [Act.put,sq]
     refine tx 0 (.slice (some ⟨bb2,0,none⟩) 6 6) qx.out ?_;refine tx 1 (.int .i64 k) qx.out ?_;refine tx 2 (.pointer (some ⟨bb2,k,none⟩)) qx.out ?_;refine jq 3 (.slice (some ⟨bo,oo,none⟩) ops.length cp) PR.out qx.out ?_;refine tx 4 (.int .i64 i) qx.out ?_;refine tx 5 (.pointer (some ⟨bo,oo+i,none⟩)) qx.out ?_;refine jq 6 (sv sx) PS.out qx.out ?_;refine jq 7 (.agg #[.int .i64 k4,sv s4, .int .i64 n4, .int .i64 l4, .int .i64 o4, .slice mg n14 c14, .slice mh n24 c24, .slice oO n34 c34]) PA.out qx.out ?_;refine tx 8 (.pointer (some ⟨bp,0,none⟩)) qx.out ?_;refine tx 9 (.int .i64 k) qx.out ?_;refine tx 10 (.int .i64 ((k:Int)+1)) qx.out ?_;refine tx 13 (.pointer (some ⟨w3.heap.size,1,none⟩)) qx.out ?_;refine ay (rs:=[11]) (by kernel_rfl) (by simp) ?_;refine av.cons rfl (fun K hK=> ?_) (av.nil);go_simp;refine(VF.out).mono ?_;rintro e w5 h5;rcases hq:sub r4 with g | ⟨x5,r5⟩
     ·obtain⟨rfl,tn,bn⟩:=h5.bM hq;have HB:=hid (dX.mk2 (aA zZ.out.turn (aA Mq.out tn)) bn);have dG:=hid (gN.out.symm.trans (aB hq));exact⟨rfl,aF.fail dG.out HB.out⟩
     ·obtain⟨v5,rfl,tn,⟨z5,rfl,Bj⟩,kn⟩:=h5.aL hq;obtain⟨k5,s5,n5,l5,o5,vE,n15,c15,vF,n25,vG,IC,n35,IE,rfl⟩:=Bj.shape';have fM:=hid (aA Mq.out tn);have CZ:=hid (fM.out.mono (G:=fun j=>j=bp∨j=w3.heap.size) (fun _ _ h=> .inl h));have hs5:=fM.out.size;have z8:=hid (zZ.out.go hlt hab fM.out (fun j h=> .inl h) kn);have K4:=hid (OI.out.turn fM.out (fun g _ h e=>by have:=h.1.1;omega));have WC:=ah TK.out fM.out (by omega);have Pt:=hid WC;have lC:=ah mD.out fM.out (by omega);have mE:=hid lC;have uU:=hid (Bj.iv.mono (G:=Iv w4.heap.size w5.heap.size) (fun g _ h=>h))
      have rz:Hid (lT ops sub f (aK 14 sx 0 t [] [] [a,x5]) r5=Q):=hid (by
       have:=(au hq).symm.trans gN.out;rw [HSX.out]at this;exact this)
      have Rk:=hid (hsf.good zZ.out.tk.wf hq).2.length_le;have afl:=hid ((Sf.iF ops).good wX.out.tk.wf fV.out).2.length_le;have uG:=hid (ze fV.out wX.out.tk.wf.pos);have aaN:=block_lt lC;obtain⟨m0,m1,m2,m3,m4,m5,m6,m7,mz⟩:=aT lC;clear h5 tn Bj kn hq lC WC;refine hK.out _ _ CZ.out ?_;clear hK K
      try simp only [Act.put,sq]
      refine ay (rs:=[12,14]) (by kernel_rfl) (by simp) ?_;refine av.cons rfl (fun K hK=> ?_) (av.cons rfl (fun K hK=> ?_) av.nil)
      ·go_simp;have Pv:=hid (CZ.out.trans (Turn.alloc (fun j=>j=bp∨j=w3.heap.size) w5 (.cells #[.int .i64 k4,sv s4, .int .i64 n4, .int .i64 l4, .int .i64 o4, .slice mg n14 c14, .slice mh n24 c24, .slice oO n34 c34, .int .i64 k5,sv s5, .int .i64 n5, .int .i64 l5, .int .i64 o5, .slice vE n15 c15, .slice vF n25 vG, .slice IC n35 IE] 52)) (fun _ _ h=>h));refine hK.out _ _ Pv.out ?_;clear hK K
       try simp only [Act.put,sq]
       refine ay (rs:=[14]) (by kernel_rfl) (by simp) ?_;refine av.cons rfl (fun K hK=> ?_) (av.nil);go_simp;have iT:=hid ((CZ.out.trans (ak w5 w3.heap.size 1 (sv sx)) (fun _ _ h=> .inr h)).trans (Turn.alloc (fun j=>j=bp∨j=w3.heap.size) _ (.cells #[.int .i64 k4,sv s4, .int .i64 n4, .int .i64 l4, .int .i64 o4, .slice mg n14 c14, .slice mh n24 c24, .slice oO n34 c34, .int .i64 k5,sv s5, .int .i64 n5, .int .i64 l5, .int .i64 o5, .slice vE n15 c15, .slice vF n25 vG, .slice IC n35 IE] 52)) (fun _ _ h=>h));refine hK.out _ _ iT.out ?_;clear hK K
       try simp only [Act.put,sq]
       refine tx 15 (.pointer (some ⟨w3.heap.size,7,none⟩)) iT.out ?_;refine ay (rs:=[16]) (by kernel_rfl) (by simp) ?_;refine av.past rfl (by kernel_rfl) (fun K hK=> ?_) (av.nil);go_simp;refine hK.out _ _ ?_;clear hK K
       try simp only [Act.put,sq]
       refine aM (by kernel_rfl) ?_ _;obtain⟨t8,Ed,Ee⟩:=nR (nb:=w3.heap.size) (c1:=1) (c2:=7) (v1:=sv sx) (v2:=(.slice (some ⟨w5.heap.size,0,none⟩) 2 2)) (P:= #[.int .i64 k4,sv s4, .int .i64 n4, .int .i64 l4, .int .i64 o4, .slice mg n14 c14, .slice mh n24 c24, .slice oO n34 c34, .int .i64 k5,sv s5, .int .i64 n5, .int .i64 l5, .int .i64 o5, .slice vE n15 c15, .slice vF n25 vG, .slice IC n35 IE]) (T:=52) mE.out (((w5.setCell ⟨w3.heap.size,1,none⟩ (sv sx)).setCell ⟨w3.heap.size,7,none⟩ (.slice (some ⟨w5.heap.size,0,none⟩) 2 2)).alloc (.cells #[.int .i64 k4,sv s4, .int .i64 n4, .int .i64 l4, .int .i64 o4, .slice mg n14 c14, .slice mh n24 c24, .slice oO n34 c34, .int .i64 k5,sv s5, .int .i64 n5, .int .i64 l5, .int .i64 o5, .slice vE n15 c15, .slice vF n25 vG, .slice IC n35 IE] 52)) rfl;have oZ:=z8.out.tk.turn t8 (by omega) (fun k hk e=>by have:=z8.out.tk.1;omega);have yV:=hid (gK Ed 8 2 rfl (by omega));have TL:=hid (K4.out.turn t8 (fun g hg h e=>by have:=h.2;omega));have Mr:=ah Pt.out t8 (by omega);have vM:Hid (uF w bp B w2.heap.size d (.slice (some ⟨bb2,0,none⟩) 6 6) _ a r5):=hid ⟨z8.out.turn.trans t8 (fun i hi e=>by omega),oZ,ah z8.out.res t8 (by omega),z8.out.rk.turn t8 (fun g hg h e=>by have:=h.2;omega), _,Mr,TL.out.mono (fun g _ h=>h.1)⟩;have Ef:=hid (uU.out.turn t8 (fun g _ h e=>by have:=h.1;omega));have mF:=hid Ee;have uw:=t8.size;obtain⟨W8,qM⟩:∃W8,(((w5.setCell ⟨w3.heap.size,1,none⟩ (sv sx)).setCell ⟨w3.heap.size,7,none⟩ (.slice (some ⟨w5.heap.size,0,none⟩) 2 2)).alloc (.cells #[.int .i64 k4,sv s4, .int .i64 n4, .int .i64 l4, .int .i64 o4, .slice mg n14 c14, .slice mh n24 c24, .slice oO n34 c34, .int .i64 k5,sv s5, .int .i64 n5, .int .i64 l5, .int .i64 o5, .slice vE n15 c15, .slice vF n25 vG, .slice IC n35 IE] 52))=W8:=⟨_,rfl⟩
       rw [qM]at vM yV TL Ef mF uw Mr;have C8:=hid qM;have q8:=aT (show W8.heap[w3.heap.size]? =some (.cells #[.int .i64 14,sv sx, .int .i64 0, .int .i64 t.line, .int .i64 t.col, .slice none 0 0, .slice none 0 0,(.slice (some ⟨w5.heap.size,0,none⟩) 2 2)] 52 (0,0))from mF.out);obtain⟨f0,f1,f2,f3,f4,f5,f6,f7,fz⟩:=q8;obtain⟨e0,e1,e2,e3,e4,e5,e6,e7,ez⟩:=aT Mr;have HZ8:=hid Mr;clear t8 Ed Ee oZ qM Mr m0 m1 m2 m3 m4 m5 m6 m7 mz;rw [C8.out];go_wp2_with fail;have tF:=bB W8 w2.heap.size (.int .i64 14) (sv sx) (.int .i64 0) (.int .i64 t.line) (.int .i64 t.col) (.slice none 0 0) (.slice none 0 0) (.slice (some ⟨w5.heap.size,0,none⟩) 2 2);have Eh:uF w bp B w2.heap.size d (.slice (some ⟨bb2,0,none⟩) 6 6) (sw W8 w2.heap.size (.int .i64 14) (sv sx) (.int .i64 0) (.int .i64 t.line) (.int .i64 t.col) (.slice none 0 0) (.slice none 0 0) (.slice (some ⟨w5.heap.size,0,none⟩) 2 2)) (aK 14 sx 0 t [] [] [a,x5]) r5:=by
        have hwx:=vM.out.turn.size;refine⟨bI vM.out.turn (by omega),vM.out.tk.fQ (by omega),ah vM.out.res tF (by omega),vM.out.rk.turn tF (fun g _ h e=>by have:=h.2;omega), _,aV HZ8.out _ _ _ _ _ _ _ _, ?_⟩;exact .mk (dB.nil _ _ _) .nil (dB.nil _ _ _) ((yV.out.turn tF (fun g _ h e=>by omega)).mono (fun g _ h=>by omega)) (.cons ((TL.out.turn tF (fun g _ h e=>by have:=h.1.2.2;omega)).mono (fun g _ h=>h.1)) (.cons ((Ef.out.turn tF (fun g _ h e=>by have:=h.1;omega)).mono (fun g _ h=>by have:=h.1;omega)) .nil))
       go_roundw
       case rel=>exact⟨f, _,r5,rz.out,by have:=Rk.out;have:=uG.out;have:=HF.out;omega,Eh⟩
       case measure=>rw [Eh.tk.left,HLEN.out];have:=Rk.out;have:=uG.out;omega
      ·go_simp;have Pv:=hid (CZ.out.trans (ak w5 w3.heap.size 1 (sv sx)) (fun _ _ h=> .inr h));refine hK.out _ _ Pv.out ?_;clear hK K
       try simp only [Act.put,sq]
       refine ay (rs:=[12]) (by kernel_rfl) (by simp) ?_;refine av.cons rfl (fun K hK=> ?_) (av.nil);go_simp;have iT:=hid (Pv.out.trans (Turn.alloc (fun j=>j=bp∨j=w3.heap.size) (w5.setCell ⟨w3.heap.size,1,none⟩ (sv sx)) (.cells #[.int .i64 k4,sv s4, .int .i64 n4, .int .i64 l4, .int .i64 o4, .slice mg n14 c14, .slice mh n24 c24, .slice oO n34 c34, .int .i64 k5,sv s5, .int .i64 n5, .int .i64 l5, .int .i64 o5, .slice vE n15 c15, .slice vF n25 vG, .slice IC n35 IE] 52)) (fun _ _ h=>h));refine hK.out _ _ iT.out ?_;clear hK K
       try simp only [Act.put,sq]
       refine tx 15 (.pointer (some ⟨w3.heap.size,7,none⟩)) iT.out ?_;refine ay (rs:=[16]) (by kernel_rfl) (by simp) ?_;refine av.past rfl (by kernel_rfl) (fun K hK=> ?_) (av.nil);go_simp;refine hK.out _ _ ?_;clear hK K
       try simp only [Act.put,sq]
       refine aM (by kernel_rfl) ?_ _;obtain⟨t8,Ed,Ee⟩:=nR (nb:=w3.heap.size) (c1:=1) (c2:=7) (v1:=sv sx) (v2:=(.slice (some ⟨w5.heap.size,0,none⟩) 2 2)) (P:= #[.int .i64 k4,sv s4, .int .i64 n4, .int .i64 l4, .int .i64 o4, .slice mg n14 c14, .slice mh n24 c24, .slice oO n34 c34, .int .i64 k5,sv s5, .int .i64 n5, .int .i64 l5, .int .i64 o5, .slice vE n15 c15, .slice vF n25 vG, .slice IC n35 IE]) (T:=52) mE.out (((w5.setCell ⟨w3.heap.size,1,none⟩ (sv sx)).setCell ⟨w3.heap.size,7,none⟩ (.slice (some ⟨w5.heap.size,0,none⟩) 2 2)).alloc (.cells #[.int .i64 k4,sv s4, .int .i64 n4, .int .i64 l4, .int .i64 o4, .slice mg n14 c14, .slice mh n24 c24, .slice oO n34 c34, .int .i64 k5,sv s5, .int .i64 n5, .int .i64 l5, .int .i64 o5, .slice vE n15 c15, .slice vF n25 vG, .slice IC n35 IE] 52)) rfl;have oZ:=z8.out.tk.turn t8 (by omega) (fun k hk e=>by have:=z8.out.tk.1;omega);have yV:=hid (gK Ed 8 2 rfl (by omega));have TL:=hid (K4.out.turn t8 (fun g hg h e=>by have:=h.2;omega));have Mr:=ah Pt.out t8 (by omega);have vM:Hid (uF w bp B w2.heap.size d (.slice (some ⟨bb2,0,none⟩) 6 6) _ a r5):=hid ⟨z8.out.turn.trans t8 (fun i hi e=>by omega),oZ,ah z8.out.res t8 (by omega),z8.out.rk.turn t8 (fun g hg h e=>by have:=h.2;omega), _,Mr,TL.out.mono (fun g _ h=>h.1)⟩;have Ef:=hid (uU.out.turn t8 (fun g _ h e=>by have:=h.1;omega));have mF:=hid Ee;have uw:=t8.size;obtain⟨W8,qM⟩:∃W8,(((w5.setCell ⟨w3.heap.size,1,none⟩ (sv sx)).setCell ⟨w3.heap.size,7,none⟩ (.slice (some ⟨w5.heap.size,0,none⟩) 2 2)).alloc (.cells #[.int .i64 k4,sv s4, .int .i64 n4, .int .i64 l4, .int .i64 o4, .slice mg n14 c14, .slice mh n24 c24, .slice oO n34 c34, .int .i64 k5,sv s5, .int .i64 n5, .int .i64 l5, .int .i64 o5, .slice vE n15 c15, .slice vF n25 vG, .slice IC n35 IE] 52))=W8:=⟨_,rfl⟩
       rw [qM]at vM yV TL Ef mF uw Mr;have C8:=hid qM;have q8:=aT (show W8.heap[w3.heap.size]? =some (.cells #[.int .i64 14,sv sx, .int .i64 0, .int .i64 t.line, .int .i64 t.col, .slice none 0 0, .slice none 0 0,(.slice (some ⟨w5.heap.size,0,none⟩) 2 2)] 52 (0,0))from mF.out);obtain⟨f0,f1,f2,f3,f4,f5,f6,f7,fz⟩:=q8;obtain⟨e0,e1,e2,e3,e4,e5,e6,e7,ez⟩:=aT Mr;have HZ8:=hid Mr;clear t8 Ed Ee oZ qM Mr m0 m1 m2 m3 m4 m5 m6 m7 mz;rw [C8.out];go_wp2_with fail;have tF:=bB W8 w2.heap.size (.int .i64 14) (sv sx) (.int .i64 0) (.int .i64 t.line) (.int .i64 t.col) (.slice none 0 0) (.slice none 0 0) (.slice (some ⟨w5.heap.size,0,none⟩) 2 2);have Eh:uF w bp B w2.heap.size d (.slice (some ⟨bb2,0,none⟩) 6 6) (sw W8 w2.heap.size (.int .i64 14) (sv sx) (.int .i64 0) (.int .i64 t.line) (.int .i64 t.col) (.slice none 0 0) (.slice none 0 0) (.slice (some ⟨w5.heap.size,0,none⟩) 2 2)) (aK 14 sx 0 t [] [] [a,x5]) r5:=by
        have hwx:=vM.out.turn.size;refine⟨bI vM.out.turn (by omega),vM.out.tk.fQ (by omega),ah vM.out.res tF (by omega),vM.out.rk.turn tF (fun g _ h e=>by have:=h.2;omega), _,aV HZ8.out _ _ _ _ _ _ _ _, ?_⟩;exact .mk (dB.nil _ _ _) .nil (dB.nil _ _ _) ((yV.out.turn tF (fun g _ h e=>by omega)).mono (fun g _ h=>by omega)) (.cons ((TL.out.turn tF (fun g _ h e=>by have:=h.1.2.2;omega)).mono (fun g _ h=>h.1)) (.cons ((Ef.out.turn tF (fun g _ h e=>by have:=h.1;omega)).mono (fun g _ h=>by have:=h.1;omega)) .nil))
       go_roundw
       case rel=>exact⟨f, _,r5,rz.out,by have:=Rk.out;have:=uG.out;have:=HF.out;omega,Eh⟩
       case measure=>rw [Eh.tk.left,HLEN.out];have:=Rk.out;have:=uG.out;omega
theorem Ms {G:Nat→Prop} (w:World) (o:Obj) (b:Nat) (hb:w.heap.size=b):∃W,w.alloc o=W∧W.heap[b]? =some o∧Turn G w W∧(b+1≤W.heap.size∧W.heap.size≤b+1):=by
 subst hb;exact⟨_,rfl,qR w o,Turn.alloc G w o,by simp,by simp⟩
theorem C9 {w:World} {b:Nat} (v0 v1 v2 v3:Value) {a0 a1 a2 a3:Value} {t:TypeId} (h:w.heap[b]? =some (.cells #[a0,a1,a2,a3] t (0,0))):∃W,dh w b v0 v1 v2 v3=W∧W.heap[b]? =some (.cells #[v0,v1,v2,v3] t (0,0))∧Turn (fun j=>j=b) w W∧(w.heap.size≤W.heap.size∧W.heap.size≤w.heap.size):=
 ⟨_,rfl,aU h _ _ _ _,bW _ _ _ _ _ _,by simp,by simp⟩
theorem l8 {G:Nat→Prop} {w w':World} {b:Nat} {o:Obj} (h:w.heap[b]? =some o) (t:Turn G w w') (hd:¬G b:=by omega):w'.heap[b]? =some o:=ah h t hd
theorem ow.tu {F G:Nat→Prop} {w w':World} {z:List Value} {x:bX} (h:ow w F z x) (t:Turn G w w') (hd:∀g,g<w.heap.size→F g→¬G g:=by intro g _ h e;have h:=h;omega):ow w' F z x:=h.turn t hd
theorem jR.tu {F G:Nat→Prop} {w w':World} {z:List Value} {x:bT} (h:jR w F z x) (t:Turn G w w') (hd:∀g,g<w.heap.size→F g→¬G g:=by intro g _ h e;have h:=h;omega):jR w' F z x:=h.turn t hd
theorem Turn.nY {F G:Nat→Prop} {a b c:World} (h:Turn F a b) (t:Turn G b c) (hd:∀i,i<a.heap.size→G i→F i:=by intro i hi e;omega):Turn F a c:=h.trans t hd
theorem eX.Mt {G:Nat→Prop} {w w':World} {bp B:Nat} {L:List aD} {d:Int} {q:Pr Unit} (h:eX w bp B L d q) (t:Turn G w w') (hk:¬G bp:=by omega) (hB:∀k,k<B→¬G k:=by intro k hk e;omega):eX w' bp B L d q:=h.turn t hk hB
theorem yc {α:Type} {t:aD} {r:List aD} {s:Bt} {f:Bool→Ps α} {R:Pr α} (ht:jc t s=true) (hq:aX (.good () (t :: r)) (aj (bY s) f)=R):aX (.good () r) (f true)=R:=by
 rw [←hq];exact(au (ou ht r)).symm
theorem yg {α:Type} {q:Pr Unit} {s:Bt} {f:Bool→Ps α} {R:Pr α} (h:Im q s) (hq:aX q (aj (bY s) f)=R):aX q (f false)=R:=by rw [←hq];exact(DT h).symm
theorem rA {α β γ:Type} (p:Ps α) (f:α→Ps β) (g:β→Ps γ):aj (aj p f) g=aj p (fun a=>aj (f a) g):=by
 funext ts;unfold aj;cases p ts <;> rfl
theorem Ka {α β:Type} {q:Pr Unit} {F:Nat→Ps α} {g:α→Ps β} {R:Pr β} (hq:aX q (aj (fun ts=>F ts.length ts) g)=R):∃f,(∀u ts,q= .good u ts→ts.length≤f)∧aX q (aj (F f) g)=R:=by
 cases q with
 | bad g=>exact⟨0,(fun u ts h=>by cases h),hq⟩
 | good u ts=>exact⟨ts.length,(fun u' ts' h=>by injection h with _ h;subst h;exact Nat.le_refl _),hq⟩
def Gl (q:Pr Unit):Nat:=match q with
 | .good _ ts=>ts.length
 | .bad _=>0
theorem zf {α:Type} {p:Ps α} (h:Sf p) {u:Unit} {ts:List aD} (hw:Wf ts):Gl (oF (aX (.good u ts) p))≤ts.length:=by
 show Gl (oF (p ts))≤ _;rcases hq:p ts with g | ⟨a,r⟩
 ·exact Nat.zero_le _
 ·exact(h.good hw hq).2.length_le
theorem eX.wf {w:World} {bp B:Nat} {L:List aD} {d:Int} {u:Unit} {ts:List aD} (h:eX w bp B L d (.good u ts)):Wf ts:=by
 obtain⟨_, _, _,v,k,dd,e,ln,cn, _, _, _, _,h8⟩:=h;exact h8.2.1
theorem eX.left {w:World} {bp B:Nat} {L:List aD} {d:Int} {u:Unit} {ts:List aD} (h:eX w bp B L d (.good u ts)):ts.length≤L.length:=by
 obtain⟨_, _, _,v,k,dd,e,ln,cn, _, _, _, _,h8⟩:=h;rw [h8.1,List.length_drop];omega
def RC {α:Type} (F:Nat) (P:Nat→World→Value→α→Prop) (d:Int) (p:Ps α):Prop:=∀(w:World) (bp B:Nat) (L:List aD) (q:Pr Unit),eX w bp B L d q→
 Calls Tryz.prog F #[.pointer (some ⟨bp,0,none⟩)] w (jM (P w.heap.size) bp B L d w (aX q p))
theorem up1 {w:World} {bp B:Nat} {L:List aD} {d:Int} {q:Pr Unit} {v:Value} {k:Nat} {dd e:Int} {ln cn:Nat} (h:eX w bp B L (d+1) q) (h0:0≤d) (h1:d<100) (hblk:w.heap[bp]? =some (.cells #[v, .int .i64 k, .int .i64 dd, .int .i64 e, .int .i64 ln, .int .i64 cn] 159 (0,0))):
  ∃W,w.setCell ⟨bp,2,none⟩ (.int .i64 (wrap64 (dd - 1)))=W∧eX W bp B L d q∧Turn (fun j=>j=bp) w W∧(w.heap.size≤W.heap.size∧W.heap.size≤w.heap.size):=
 ⟨_,rfl,h.up h0 h1 hblk rfl,ak _ _ _ _,by simp,by simp⟩
abbrev Pw (d:Int) (p:Ps bT):Prop:=RC 55 OG d p
def Kc (typ:Ps bT):Ps bT:=aj (iW typ) fun a=>aj (fun ts=>kJ typ ts.length [a] ts) fun l=>aG (gu l)
theorem Mv (typ:Ps bT):zU typ=aj (Kc typ) fun t=>aj (bY [45,62]) fun b=>if b then aj typ fun r=>aG (.mk 6 [] [] [t,r])else aG t:=by
 unfold zU Kc;rw [rA];congr 1;funext a;rw [rA];rfl
theorem TM {α:Type} {q:Pr Unit} {p:Ps α} {d:Int} (hn:(∃g,q= .bad g)∨(d=100∧p=jh 6)):Wy d q∧oF (aX q p)=wB q 6∧∀a ts,aX q p≠ .good a ts:=by
 rcases hn with⟨g,rfl⟩ | ⟨rfl,rfl⟩
 ·exact⟨.inl ⟨g,rfl⟩,rfl,fun a ts h=>by cases h⟩
 ·exact⟨.inr rfl,(Mf q 6).symm,fun a ts h=>by cases q <;> cases h⟩
theorem Px (w:World) (F:Nat→Prop):jR w F [.int .i64 0, .string ⟨#[]⟩, .slice none 0 0, .slice none 0 0] mX:= .mk (dB.nil _ _ _) (dB.nil _ _ _) .nil
theorem Ei (w:World) (bp B:Nat) (L:List aD) (d:Int) (q:Pr Unit) (h:eX w bp B L d q) {p:Ps bT} (hn:(∃g,q= .bad g)∨(d=100∧p=jh 6)):
  Calls Tryz.prog 55 #[.pointer (some ⟨bp,0,none⟩)] w (jM (OG w.heap.size) bp B L d w (aX q p)):=by
 obtain⟨n1,n2,n3⟩:=TM hn;have hlt:=h.lt;have hB:=h.1;have H0:=hid h;have N2:=hid n2;have N3:=hid n3;clear h n2 n3 hn;obtain⟨W1,hW1,hb1,tn,hs1⟩:=Ms (G:=fun _=>False) w (.cells #[.int .i64 0, .string ⟨#[]⟩, .slice none 0 0, .slice none 0 0] 57) (w.heap.size) rfl;have HT1:Hid (Turn (fun j=>j=bp) w W1):=hid (tn.mono (fun _ _ h=>h.elim));have jP:=hid (H0.out.turn tn id (fun _ _=>id));have zh:=hid hb1;clear tn hb1;have HW1:=hid hW1;clear hW1;have Ip:=hid (J8 _ bp B L d q jP.out n1);go_enter Tryz.func55,Tryz.ntmps55;go_wp2_with fail;have hW:=HW1.out;subst hW;clear HW1;refine(Ip.out).mono ?_;rintro e w2 ⟨rfl,tn,kn⟩;clear Ip;have hs2:=tn.size;have wZ:=hid (l8 zh.out tn);have HT2:=hid (HT1.out.nY tn);have iR:=hid kn;have hz2:w.heap.size+1≤w2.heap.size:=by omega
 clear hs1 hs2;clear tn kn zh;obtain⟨Py,Pz,PE,PG,PI⟩:=aP wZ.out;have PU:=block_lt wZ.out;obtain⟨W3,hW3,hb3,tn,hs3⟩:=C9 (.int .i64 0) (.string ⟨#[]⟩) (.slice none 0 0) (.slice none 0 0) wZ.out;have HT3:=hid (HT2.out.nY tn);have iM:=hid (iR.out.Mt tn);have vN:=hid hb3;clear tn hb3 wZ;have HW3:=hid hW3;clear hW3;go_wp2_with fail;have hW:=HW3.out;subst hW;clear HW3;refine bodyPost_ret (aS rfl rfl vN.out Tryz.underlying57 rfl (by kernel_rfl)) rfl ?_;exact⟨HT3.out, _,mX,rfl,⟨_,rfl,Px _ _⟩,fun a ts e=>absurd e (N3.out a ts),by rw [N2.out];exact iM.out⟩
theorem Mw (d:Int) (h0:0≤d) (h1:d<100) (typ:Ps bT) (pK:Pw (d+1) typ) (HAL:RC 114 OG (d+1) (Kc typ)):Pw d (zU typ):=by
 intro w bp B L q h;cases q with
 | bad g=>exact Ei w bp B L d _ h (.inl ⟨g,rfl⟩)
 | good u ts=>
  have hlt:=h.lt;have hB:=h.1;have H0:=hid h;obtain⟨Q,hQ⟩:∃Q,aX (.good u ts) (zU typ)=Q:=⟨_,rfl⟩
  rw [hQ];rw [Mv]at hQ;have KY:=hid hQ;clear h hQ;obtain⟨W1,hW1,hb1,tn,hs1⟩:=Ms (G:=fun _=>False) w (.cells #[.int .i64 0, .string ⟨#[]⟩, .slice none 0 0, .slice none 0 0] 57) (w.heap.size) rfl;have HT1:Hid (Turn (fun j=>j=bp) w W1):=hid (tn.mono (fun _ _ h=>h.elim));have jP:=hid (H0.out.turn tn id (fun _ _=>id));have zh:=hid hb1;clear tn hb1;have HW1:=hid hW1;clear hW1;have Ip:=hid (J7 _ bp B L d u ts jP.out h0 h1);go_enter Tryz.func55,Tryz.ntmps55;go_wp2_with fail;have hW:=HW1.out;subst hW;clear HW1;refine(Ip.out).mono ?_;rintro e w2 ⟨rfl,tn,kn⟩;clear Ip;have hs2:=tn.size;have wZ:=hid (l8 zh.out tn);have HT2:=hid (HT1.out.nY tn);have iR:=hid kn;have hz2:w.heap.size+1≤w2.heap.size:=by omega
  clear hs1 hs2;clear tn kn zh;have WE:=hid (HAL _ bp B L _ iR.out);go_wp2_with fail;refine(WE.out).mono ?_;rintro e w3 ⟨tn, _,x,rfl,⟨z,rfl,hz⟩,hx,kn⟩;clear WE;obtain⟨kx,sx,Rv,Rw,Rx,Ry,Rz,RA,rfl⟩:=hz.shape';obtain⟨q3,hqq⟩:∃qz,oF (aX (.good u ts) (Kc typ))=qz:=⟨_,rfl⟩
  have gQ:=hid (mJ KY.out hx);rw [hqq]at kn gQ;have WG:=hid hz.iv;have hs3:=tn.size;have vN:=hid (l8 wZ.out tn);have HT3:=hid (HT2.out.nY tn);have iM:=hid kn;clear tn kn wZ hqq hx hz;obtain⟨W4,Ce,hb4,tn,hs4⟩:=Ms (G:=fun _=>False) w3 (.cells #[.int .i64 kx,sv sx, .slice Rv Rw Rx, .slice Ry Rz RA] 57) (w3.heap.size) rfl;have sI:=hid (ah vN.out tn id);have PV:=hid (WG.out.turn tn (fun _ _ _=>id));have fP:Hid (Turn (fun j=>j=bp) w W4):=hid (HT3.out.trans tn (fun _ _ h=>h.elim));have jH:=hid (iM.out.turn tn id (fun _ _=>id));have PW:=hid hb4;clear tn hb4 vN WG;have PY:=hid Ce;clear Ce;have WH:=hid (jF _ bp B L (d+1) q3 jH.out [45,62]);go_wp2_with fail;have hW:=PY.out;subst hW;clear PY;refine(WH.out).mono ?_;rintro e w5 ⟨rfl,tn,kn⟩;clear WH;cases hA:CY (aX q3 (bY [45,62]))
  ·obtain⟨hs,hnn⟩:=fZ hA;rw [hs]at kn;have HN:=hid hnn;have hs5:=tn.size;have Cg:=hid (l8 sI.out tn);have P7:=hid (l8 PW.out tn);have WI:=hid (PV.out.tu tn);have fM:=hid (fP.out.nY tn);have kW:=hid kn;have Bj:w3.heap.size+1≤w5.heap.size:=by omega
   clear hs4 hs5;clear tn kn sI PW PV hs hnn hA;have rz:Hid (aX q3 (aG x)=Q):=hid (yg HN.out gQ.out);obtain⟨ZK,Rt,uo,ZL,ZM⟩:=aP P7.out;have ZN:=block_lt P7.out;obtain⟨Py,Pz,PE,PG,PI⟩:=aP Cg.out;have PU:=block_lt Cg.out;obtain⟨bL,oL,cL,kL,dd,eL,lnL,cnL, _, _, _, _, _, _,hblk, _⟩:=kW.out.open_;obtain⟨p0,p1,p2,p3,p4,p5,pz⟩:=iN hblk;have aaP:=hid hblk;have hpl:=block_lt hblk;clear hblk;have P8:¬w3.heap.size=w.heap.size:=by omega
   have aaQ:¬w3.heap.size=bp:=by omega
   have P9:¬w.heap.size=w3.heap.size:=by omega
   have aaR:¬w.heap.size=bp:=by omega
   have aaS:¬bp=w3.heap.size:=by omega
   have aaT:¬bp=w.heap.size:=by omega
   obtain⟨W8,qM,kn,tn,uw⟩:=up1 kW.out h0 h1 aaP.out;have Gm:=hid (l8 Cg.out tn);have WJ:=hid (l8 P7.out tn);have WK:=hid (WI.out.tu tn);have kV:=hid (fM.out.nY tn);have pO:=hid kn;clear tn kn Cg P7 WI;have C8:=hid qM;clear qM;obtain⟨W9,Gn,xq,tn,RB⟩:=C9 (.int .i64 kx) (sv sx) (.slice Rv Rw Rx) (.slice Ry Rz RA) Gm.out;have TN:=hid (l8 WJ.out tn);have Qa:=hid (WK.out.tu tn);have pQ:=hid (kV.out.nY tn);have sS:=hid (pO.out.Mt tn);have zi:=hid xq;clear tn xq Gm WJ WK;have nM:=hid Gn;clear Gn;go_wp2_with fail;have hW:=nM.out;subst hW;clear nM;have hW:=C8.out;subst hW;clear C8;refine bodyPost_ret (aS rfl rfl zi.out Tryz.underlying57 rfl (by kernel_rfl)) rfl ?_;exact jM.done rz.out pQ.out ⟨_,rfl,(Qa.out.mono (fun g _ h=>by have h:=h;omega))⟩ sS.out
  ·obtain⟨t9,r9,rfl,ht,hs⟩:=iw hA;rw [hs]at kn;have HY9:=hid ht;have RB:=tn.size;have zi:=hid (l8 sI.out tn);have TN:=hid (l8 PW.out tn);have Qa:=hid (PV.out.tu tn);have pQ:=hid (fP.out.nY tn);have sS:=hid kn;have OL:w3.heap.size+1≤w5.heap.size:=by omega
   clear hs4 RB;clear tn kn sI PW PV hs ht hA;have Gp:Hid (aX (.good () r9) (aj typ fun r=>aG (bT.mk 6 [] [] [x,r]))=Q):=hid (yc HY9.out gQ.out);have WL:=hid (pK _ bp B L _ sS.out);go_wp2_with fail;refine(WL.out).mono ?_;rintro e JU ⟨tn, _,y,rfl,⟨z,rfl,hz⟩,hx,kn⟩;clear WL;obtain⟨ky,sy,Da,Db,Dc,Df,Dh,Di,rfl⟩:=hz.shape';obtain⟨q11,hqq⟩:∃qz,oF (aX (.good () r9) (typ))=qz:=⟨_,rfl⟩
   have WM:=hid (mJ Gp.out hx);rw [hqq]at kn WM;have Mx:=hid hz.iv;have Qb:=tn.size;have uH:=hid (l8 zi.out tn);have uI:=hid (l8 TN.out tn);have RD:=hid (Qa.out.tu tn);have Qc:=hid (pQ.out.nY tn);have Qd:=hid kn;clear tn kn zi TN Qa hqq hx hz;obtain⟨ZK,Rt,uo,ZL,ZM⟩:=aP uI.out;have ZN:=block_lt uI.out;obtain⟨Py,Pz,PE,PG,PI⟩:=aP uH.out;have PU:=block_lt uH.out;obtain⟨bL,oL,cL,kL,dd,eL,lnL,cnL, _, _, _, _, _, _,hblk, _⟩:=Qd.out.open_;obtain⟨p0,p1,p2,p3,p4,p5,pz⟩:=iN hblk;have RG:=hid hblk;have hpl:=block_lt hblk;clear hblk;have P8:¬w3.heap.size=w.heap.size:=by omega
   have aaQ:¬w3.heap.size=bp:=by omega
   have P9:¬w.heap.size=w3.heap.size:=by omega
   have aaR:¬w.heap.size=bp:=by omega
   have aaS:¬bp=w3.heap.size:=by omega
   have aaT:¬bp=w.heap.size:=by omega
   obtain⟨W13,WO,WQ,tn,WR⟩:=C9 (.int .i64 6) (.string ⟨#[]⟩) (.slice none 0 0) (.slice (some ⟨JU.heap.size+1,0,none⟩) 2 2) uI.out;have RH:=hid (l8 uH.out tn);have WS:=hid (l8 RG.out tn);have RI:=hid (RD.out.tu tn);have MB:=hid (Mx.out.tu tn);have TP:=hid (Qc.out.nY tn);have TQ:=hid (Qd.out.Mt tn);have RJ:=hid WQ;clear tn WQ uI uH RG RD Mx;have WT:=hid WO;clear WO;obtain⟨W14,WU,kn,tn,aaV⟩:=up1 TQ.out h0 h1 WS.out;have Ej:=hid (l8 RH.out tn);have RL:=hid (l8 RJ.out tn);have RN:=hid (RI.out.tu tn);have MC:=hid (MB.out.tu tn);have TR:=hid (TP.out.nY tn);have TS:=hid kn;clear tn kn RH RJ RI MB;have WV:=hid WU;clear WU;obtain⟨W15,WW,WX,tn,aaW⟩:=C9 (.int .i64 6) (.string ⟨#[]⟩) (.slice none 0 0) (.slice (some ⟨JU.heap.size+1,0,none⟩) 2 2) Ej.out;have RO:=hid (l8 RL.out tn);have RP:=hid (RN.out.tu tn);have ME:=hid (MC.out.tu tn);have TT:=hid (TR.out.nY tn);have TU:=hid (TS.out.Mt tn);have El:=hid WX;clear tn WX Ej RL RN MC;have WY:=hid WW;clear WW;obtain⟨W16,WZ,Xa,tn,aaX⟩:=Ms (G:=fun _=>False) W15 (.cells #[.int .i64 ky,sv sy, .slice Da Db Dc, .slice Df Dh Di] 57) (JU.heap.size) (by omega);have IG:=hid (ah El.out tn id);have RQ:=hid (ah RO.out tn id);have RS:=hid (RP.out.turn tn (fun _ _ _=>id));have Ch:=hid (ME.out.turn tn (fun _ _ _=>id));have TV:Hid (Turn (fun j=>j=bp) w W16):=hid (TT.out.trans tn (fun _ _ h=>h.elim));have Qe:=hid (TU.out.turn tn id (fun _ _=>id));have RU:=hid Xa;clear tn Xa El RO RP ME;have Xb:=hid WZ;clear WZ;obtain⟨W17,Xc,Xd,tn,aaY⟩:=Ms (G:=fun _=>False) W16 (.cells #[.int .i64 kx,sv sx, .slice Rv Rw Rx, .slice Ry Rz RA, .int .i64 ky,sv sy, .slice Da Db Dc, .slice Df Dh Di] 57) (JU.heap.size+1) (by omega);have II:=hid (ah IG.out tn id);have adT:=hid (ah RQ.out tn id);have adU:=hid (ah RU.out tn id);have Xe:=hid (RS.out.turn tn (fun _ _ _=>id))
   have TW:=hid (Ch.out.turn tn (fun _ _ _=>id));have TY:Hid (Turn (fun j=>j=bp) w W17):=hid (TV.out.trans tn (fun _ _ h=>h.elim));have T9:=hid (Qe.out.turn tn id (fun _ _=>id));have Xf:=hid Xd;clear tn Xd IG RQ RU RS Ch;have Xg:=hid Xc;clear Xc;go_wp2_with fail;have hW:=Xg.out;subst hW;clear Xg;have hW:=Xb.out;subst hW;clear Xb;have hW:=WY.out;subst hW;clear WY;have hW:=WV.out;subst hW;clear WV;have hW:=WT.out;subst hW;clear WT;refine bodyPost_ret (aS rfl rfl II.out Tryz.underlying57 rfl (by kernel_rfl)) rfl ?_;exact jM.done WM.out TY.out ⟨_,rfl, .mk (dB.nil _ _ _) ((gK Xf.out 4 2 rfl (by omega)).mono (fun g _ h=>by have h:=h;omega)) (.cons (Xe.out.mono (fun g _ h=>by have h:=h;omega)) (.cons (TW.out.mono (fun g _ h=>by have h:=h;omega)) .nil))⟩ T9.out
theorem Qf {α:Type} {typ:Ps bT} {q:Pr Unit} {f:Nat} {l:List bT} {g:List bT→Ps α} {R:Pr α} (h:Im q [124]) (hq:aX q (aj (kJ typ f l) g)=R):aX q (g l)=R:=by
 cases f with
 | zero=>exact hq
 | succ f=>rw [kJ,rA]at hq;exact yg h hq
theorem Qg {α:Type} {typ:Ps bT} {t:aD} {r:List aD} {f:Nat} {l:List bT} {g:List bT→Ps α} {R:Pr α} (h:jc t [124]=true) (hq:aX (.good () (t :: r)) (aj (kJ typ (f+1) l) g)=R):
  aX (.good () r) (aj (iW typ) fun a=>aj (kJ typ f (l++[a])) g)=R:=by
 rw [kJ,rA]at hq;have:=yc h hq;rwa [if_pos rfl,rA]at this
def IJ (w:World) (bp:Nat):Nat:=match w.cell? ⟨bp,0,none⟩,w.cell? ⟨bp,1,none⟩,w.cell? ⟨bp,3,none⟩with
 | some (.slice _ n _),some (.int _ k),some (.int _ e)=>if e=0 then n - k.toNat else 0
 | _, _, _=>0
theorem eX.Ci {w:World} {bp B:Nat} {L:List aD} {d:Int} {q:Pr Unit} (h:eX w bp B L d q):IJ w bp=Gl q:=by
 obtain⟨b,o,c,k,dd,e,ln,cn,hk,hlc,hc63,Il,hdd,hrel,hblk, _⟩:=h.open_;obtain⟨p0,p1,p2,p3,p4,p5,pz⟩:=iN hblk;unfold IJ;rw [p0,p1,p3];cases q with
 | bad g=>
  obtain⟨rfl, _, _,hg⟩:=hrel;exact if_neg hg
 | good u ts=>
  obtain⟨rfl, _, _,rfl, _⟩:=hrel;show(if(0:Int)=0 then L.length - ((k:Int)).toNat else 0)=(L.drop k).length;rw [if_pos rfl,List.length_drop];rfl
theorem eX.sz {w:World} {bp B:Nat} {L:List aD} {d:Int} {q:Pr Unit} (h:eX w bp B L d q):Gl q≤8193:=by
 have h2:=h.2.1.1;cases q with
 | bad g=>exact Nat.zero_le _
 | good u ts=>exact Nat.le_trans h.left h2
theorem eX.Ua {α:Type} {p:Ps α} {w:World} {bp B:Nat} {L:List aD} {d:Int} {q:Pr Unit} (h:eX w bp B L d q) (hsf:Sf p):Gl (oF (aX q p))≤Gl q:=by
 cases q with
 | bad g=>exact Nat.zero_le _
 | good u ts=>exact zf hsf h.wf
theorem Cj (w:World) (cs:Array Value) (t:TypeId) (k n b:Nat) (hb:w.heap.size=b) (hs:cs.size=n*k) (hn:n≤100000):Sl (w.alloc (.cells cs t)) (b+1) k (.slice (some ⟨b,0,none⟩) n n) cs.toList:=by
 subst hb;exact fU w cs t k n hs (by unfold maxLen;omega)
theorem MF (d:Int) (typ:Ps bT) (hsf:Sf typ) (HPR:RC 168 OG d (iW typ)):RC 114 OG d (Kc typ):=by
 intro w bp B L q h;have hlt:=h.lt;have hB:=h.1;have H0:=hid h;obtain⟨Q,hQ⟩:∃Q,aX q (Kc typ)=Q:=⟨_,rfl⟩
 rw [hQ];have KY:Hid (aX q (aj (iW typ) fun a=>aj (fun ts=>kJ typ ts.length [a] ts) fun l=>aG (gu l))=Q):=hid hQ;clear h hQ;obtain⟨W1,hW1,hb1,tn,hs1⟩:=Ms (G:=fun _=>False) w (.cells #[.int .i64 0, .string ⟨#[]⟩, .slice none 0 0, .slice none 0 0] 57) (w.heap.size) rfl;have HT1:Hid (Turn (fun j=>j=bp) w W1):=hid (tn.mono (fun _ _ h=>h.elim));have jP:=hid (H0.out.turn tn id (fun _ _=>id));have zh:=hid hb1;clear tn hb1;have HW1:=hid hW1;clear hW1;have Ip:=hid (HPR _ bp B L _ jP.out);go_enter Tryz.func114,Tryz.ntmps114;go_wp2_with fail;have hW:=HW1.out;subst hW;clear HW1;refine(Ip.out).mono ?_;rintro e w2 ⟨tn, _,x,rfl,⟨z,rfl,hz⟩,hx,kn⟩;clear Ip;obtain⟨kx,sx,Rv,Rw,Rx,Ry,Rz,RA,rfl⟩:=hz.shape';obtain⟨q2,hqq⟩:∃qz,oF (aX q (iW typ))=qz:=⟨_,rfl⟩
 have jO:=hid (mJ KY.out hx);rw [hqq]at kn jO;have aaZ:=hid (hz.iv.mono (G:=Iv (w.heap.size+1) w2.heap.size) (fun g _ h=>⟨by have h1:=h.1;omega,h.2⟩));have hs2:=tn.size;have wZ:=hid (l8 zh.out tn);have HT2:=hid (HT1.out.nY tn);have iR:=hid kn;have hz2:w.heap.size+1≤w2.heap.size:=by omega
 clear hs1 hs2;clear tn kn zh hqq hx hz;obtain⟨f0,hf0,hq0⟩:=Ka (F:=fun n=>kJ typ n [x]) jO.out;have wD:=row_one aO (base:=w.heap.size+1) (G:=fun j=>w.heap.size+1≤j) (e:=57) aaZ.out (by omega) (fun g _ h=>by have h:=h;omega);obtain⟨W3,hW3,hb3,tn,hs3⟩:=Ms (G:=fun _=>False) w2 (.cells #[.int .i64 kx,sv sx, .slice Rv Rw Rx, .slice Ry Rz RA] 57) (w2.heap.size) rfl;have vN:=hid (ah wZ.out tn id);have HT3:Hid (Turn (fun j=>j=bp) w W3):=hid (HT2.out.trans tn (fun _ _ h=>h.elim));have iM:=hid (iR.out.turn tn id (fun _ _=>id));have afs:=hid hb3;clear tn hb3 wZ;have HW3:=hid hW3;clear hW3;have dV:=hid (show fu jR 4 57 W3 (w.heap.size+1) (fun j=>w.heap.size+1≤j) (.slice (some ⟨w2.heap.size,0,none⟩) 1 1) [x]from by have h:=HW3.out;subst h;exact wD);have HQS:=hid hq0;have HFS:=hid hf0;clear wD hq0 hf0;go_wp2_with fail;have hW:=HW3.out;subst hW;clear HW3;go_loopw [3] (fun v3 wr=>∃(f:Nat) (l:List bT) (q2:Pr Unit),fu jR 4 57 wr (w.heap.size+1) (fun j=>w.heap.size+1≤j) v3 l∧l≠[]∧aX q2 (aj (kJ typ f l) fun l=>aG (gu l))=Q∧(∀u ts,q2= .good u ts→ts.length≤f)∧l.length+Gl q2≤8194∧Turn (fun j=>j=bp) w wr∧w.heap.size+1≤wr.heap.size∧eX wr bp B L d q2∧wr.heap[w.heap.size]? =some (.cells #[.int .i64 0, .string ⟨#[]⟩, .slice none 0 0, .slice none 0 0] 57 (0,0))) (fun _ wr=>IJ wr bp)
 case atStart=>exact⟨f0,[x],q2,dV.out,by simp,HQS.out,HFS.out,by have:=iM.out.sz;simp;omega,HT3.out,by omega,iM.out,vN.out⟩
 case round=>
  obtain⟨f,l,qr,hrow,hne,hq,hf,hlr,ht,hsw,hk,hr⟩:=hrel;have RV:=hid hrow;have zR:=hid hq;have ZO:=hid hf;have FC:=hid hlr;have zX:=hid ht;have FH:=hid hk;have HRR:=hid hr;obtain⟨Al,cl,hvl,hcl,hml⟩:=hrow.shape;subst hvl;clear hrow hq hf hlr ht hk hr;have VG:=hid (jF _ bp B L d qr FH.out [124]);go_wp2_with fail;refine(VG.out).mono ?_;rintro e w4 ⟨rfl,tn,kn⟩;clear VG;cases hA:CY (aX qr (bY [124]))
  ·obtain⟨hs,hnn⟩:=fZ hA;rw [hs]at kn;have HN:=hid hnn;have hs4:=tn.size;have sI:=hid (l8 HRR.out tn);have Xh:=hid (RV.out.turn aO tn (fun g hg e=>by have:=(RV.out.lt g hg).1;omega) (fun g _ h e=>by have h:=h;omega));have fP:=hid (zX.out.nY tn);have jH:=hid kn;clear tn kn HRR RV hs hnn hA;have gN:Hid (aX qr (aG (gu l))=Q):=hid (Qf HN.out zR.out);obtain⟨ys,hy,hrr⟩:=Xh.out;obtain⟨ta,l',rfl⟩:∃a l',l=a :: l':=by cases l with | nil=>exact absurd rfl hne | cons a l'=>exact⟨a,l',rfl⟩
   obtain⟨g0,c9,hg0,hgb,hgs,hc9,hm9⟩:=gH hy (by simp);injection hg0 with hg0 hg1 hg2;subst hg0 hg2;cases hrr with
   | @cons z0 y0 _ _ hz0 hx0 hrt=>
    obtain⟨k0,s0,Aa0,na0,ca0,Ab0,nb0,cb0,rfl⟩:=hx0.shape';have o0:=(aR hy rfl (i:=0) (u:= .int .i64 k0) rfl).1;have o1:=(aR hy rfl (i:=1) (u:=sv s0) rfl).1;have o2:=(aR hy rfl (i:=2) (u:= .slice Aa0 na0 ca0) rfl).1;have o3:=(aR hy rfl (i:=3) (u:= .slice Ab0 nb0 cb0) rfl).1;have HZ0:=hid (hx0.mono (G:=fun j=>w.heap.size+1≤j) (fun _ _ h=>h.2));have hll:((ta :: l').length:Int)=(l'.length:Int)+1:=by simp
    clear hy hx0 hrt hz0 hne;cases l' with
    | nil=>
     simp only [List.length_nil]at*
     obtain⟨Py,Pz,PE,PG,PI⟩:=aP sI.out;have PU:=block_lt sI.out;obtain⟨W6,MG,hb6,tn,hs6⟩:=C9 (.int .i64 k0) (sv s0) (.slice Aa0 na0 ca0) (.slice Ab0 nb0 cb0) sI.out;have Xi:=hid (HZ0.out.tu tn);have kQ:=hid (fP.out.nY tn);have sU:=hid (jH.out.Mt tn);have Qh:=hid hb6;clear tn hb6 sI HZ0;have VH:=hid MG;clear MG;go_wp2_with fail;have hW:=VH.out;subst hW;clear VH;refine bodyPost_ret (aS rfl rfl Qh.out Tryz.underlying57 rfl (by kernel_rfl)) rfl ?_;exact jM.done gN.out kQ.out ⟨_,rfl,(Xi.out.mono (fun g _ h=>by have h:=h;omega))⟩ sU.out
    | cons uo l2=>
     have hgt:¬((l2.length:Int)+1+1=1):=by omega
     obtain⟨xsu,Rn,Ro⟩:=Xh.out.sl aO;have TD:=hid Rn;have TF:=hid Ro;clear Rn Ro;obtain⟨Py,Pz,PE,PG,PI⟩:=aP sI.out;have PU:=block_lt sI.out;obtain⟨W7,hW7,iQ,tn,hs7⟩:=C9 (.int .i64 7) (.string ⟨#[]⟩) (.slice none 0 0) (.slice (some ⟨g0,0,none⟩) (l2.length+1+1) cl) sI.out;have Xj:=hid (TD.out.turn tn (fun g _ h e=>by have h:=h;omega));have Xk:=hid (bD aO tn (fun g _ h e=>by have h:=h;omega) TF.out);have jg:=hid (fP.out.nY tn);have kP:=hid (jH.out.Mt tn);have Qi:=hid iQ;clear tn iQ sI TD TF;have HW7:=hid hW7;clear hW7;go_wp2_with fail;have hW:=HW7.out;subst hW;clear HW7;refine bodyPost_ret (aS rfl rfl Qi.out Tryz.underlying57 rfl (by kernel_rfl)) rfl ?_;exact jM.done gN.out jg.out ⟨_,rfl, .mk (dB.nil _ _ _) (Xj.out.mono (fun g _ h=>by have h:=h;omega)) (kZ (dD aO (fun g _ h=>by have h:=h;omega) Xk.out))⟩ kP.out
  ·obtain⟨t7,r7,rfl,ht,hs⟩:=iw hA;rw [hs]at kn;have HY7:=hid ht;have hs7:=tn.size;have Qi:=hid (l8 HRR.out tn);have Xl:=hid (RV.out.turn aO tn (fun g hg e=>by have:=(RV.out.lt g hg).1;omega) (fun g _ h e=>by have h:=h;omega));have jg:=hid (zX.out.nY tn);have kP:=hid kn;clear tn kn HRR RV hs ht hA;obtain⟨f,rfl⟩:∃f2,f=f2+1:=⟨f - 1,by have:=ZO.out _ _ rfl;simp at this;omega⟩
   have Ca:Hid (aX (.good () r7) (aj (iW typ) fun a=>aj (kJ typ f (l++[a])) fun l=>aG (gu l))=Q):=hid (Qg HY7.out zR.out);have ru:=hid kP.out.wf;have HC9:=hid (HPR _ bp B L _ kP.out);go_wp2_with fail;refine(HC9.out).mono ?_;rintro e w9 ⟨tn, _,y,rfl,⟨z,rfl,hz⟩,hx,kn⟩;clear HC9;obtain⟨ky,sy,Da,Db,Dc,Df,Dh,Di,rfl⟩:=hz.shape';obtain⟨q9,hqq⟩:∃qz,oF (aX (.good () r7) (iW typ))=qz:=⟨_,rfl⟩
   have Em:=hid (mJ Ca.out hx);rw [hqq]at kn Em;have hsz:=zf (Pf hsf) (u:=()) ru.out;rw [hqq]at hsz;have HSZ:=hid hsz;have vH:=hid tn;clear hsz;have Xm:=hid hz.iv;have RB:=tn.size;have zi:=hid (l8 Qi.out tn);have pQ:=hid (jg.out.nY tn);have sS:=hid kn;clear tn kn Qi hqq hx hz;obtain⟨ys,hy,hrr⟩:=Xl.out;have hyl:ys.length=l.length*4:=hy.1;have Rq:=dK hy vH.out (fun g hg e=>by have:=(hy.lt g hg).1;omega);have HY:=hid hy;have HRW:=hid hrr;have Wq:=hid Rq;have Ws:l.length≤8194:=by have:=FC.out;omega
   have hl5:w.heap.size+1≤w9.heap.size:=by omega
   clear hy hrr Rq;go_wp2_with (at_builtin;go_must (refine gq rfl (.tmp 15) (.tmp 17) _ rfl (w.heap.size+1) uh _ _ rfl rfl ((Wq.out.alloc (.cells #[.int .i64 ky,sv sy, .slice Da Db Dc, .slice Df Dh Di] 57)).alloc (.cells #[.int .i64 ky,sv sy, .slice Da Db Dc, .slice Df Dh Di] 57)) (Cj (w9.alloc (.cells #[.int .i64 ky,sv sy, .slice Da Db Dc, .slice Df Dh Di] 57)) #[.int .i64 ky,sv sy, .slice Da Db Dc, .slice Df Dh Di] 57 4 1 (w9.heap.size+1) (by simp) rfl (by decide)) (xV ky sy _ _ _ _ _ _) (by simp [maxLen];omega) (by simp;omega) (by simp;omega) (fun va wa nA eY qj jL=> ?_));obtain⟨A9,c9,rfl, _, _⟩:=iy eY;have qp:=hid eY;have K3:=hid qj;have y8:=hid jL;clear eY qj jL);have ta:=(Turn.alloc (fun j=>(Value.slice Al l.length cl).ownBlock=some j) w9 (.cells #[.int .i64 ky,sv sy, .slice Da Db Dc, .slice Df Dh Di] 57)).trans (Turn.alloc (fun j=>(Value.slice Al l.length cl).ownBlock=some j) _ (.cells #[.int .i64 ky,sv sy, .slice Da Db Dc, .slice Df Dh Di] 57)) (fun _ _ h=>h);have t9:=ta.trans (Turn.bA K3.out (F:=fun j=>(Value.slice Al l.length cl).ownBlock=some j) (fun _ h=>h)) (fun _ _ h=>h);have wV:=Xl.out.lt;have uy:=fu.push aO (F:=fun j=>w.heap.size+1≤j) HY.out HRW.out vH.out (Xm.out.mono (fun g _ h=>h.1)) t9 (fun j _ h=> .inl h) (y8.out.imp id fun e=>⟨_,by simp;omega,e⟩) qp.out (by omega) (by omega) (fun j hj=>by omega);have hk9:=sS.out.turn t9 (fun e=>by have:=(wV _ e).1;omega) (fun k hk e=>by have:=(wV _ e).1;omega)
   refine⟨⟨f, _,q9,uy,by simp,Em.out,(fun u ts e=>by have h1:ts.length≤r7.length:=(by have h:=HSZ.out;rwa [e]at h);have h2:r7.length+1≤f+1:=ZO.out () (t7 :: r7) rfl;omega),(by have h1:=HSZ.out;have h2:l.length+(r7.length+1)≤8194:=FC.out;rw [List.length_append,List.length_singleton];omega),pQ.out.trans t9 (fun i hi e=>by have:=(wV i e).1;omega),(by have:=t9.size;omega),hk9,ah zi.out t9 (fun e=>by have:=(wV _ e).1;omega)⟩, ?_⟩;rw [hk9.Ci,FH.out.Ci];have h1:=HSZ.out;show Gl _<(t7 :: r7).length;simp;omega
section
variable {α:Type} {R:World→(Nat→Prop)→List Value→α→Prop} {k:Nat} {e T:TypeId} {C:Value→Value→Array Value} {tb base:Nat} {l1:List Bt} {l2:List α} {v1 v2:Value}
structure vO (R:World→(Nat→Prop)→List Value→α→Prop) (k:Nat) (e T:TypeId) (C:Value→Value→Array Value) (tb base:Nat) (w:World) (l1:List Bt) (l2:List α) (v1 v2:Value):Prop where
 blk:w.heap[tb]? =some (.cells (C v1 v2) T (0,0))
 nL:gI w base 9 v1 l1
 kid:fu R k e w base (fun j=>base≤j∧v1.ownBlock≠some j) v2 l2
 ne:∀g,v1.ownBlock=some g→v2.ownBlock≠some g
theorem vO.turn {G:Nat→Prop} {w w':World} (hR:mH R k) (h:vO R k e T C tb base w l1 l2 v1 v2) (t:Turn G w w') (h1:¬G tb) (h2:∀j,base≤j→j<w.heap.size→¬G j):vO R k e T C tb base w' l1 l2 v1 v2:=
 ⟨ah h.blk t h1,h.nL.turn t (fun g hg=>h2 g (h.nL.lt g hg).1 (h.nL.lt g hg).2),h.kid.turn hR t (fun g hg=>h2 g (h.kid.lt g hg).1 (h.kid.lt g hg).2) (fun g hg hF=>h2 g hF.1 hg),h.ne⟩
theorem vO.name {w w6 w7:World} {i:Nat} {s:Bt} {v7:Value} (hR:mH R k) (h:vO R k e T C tb base w l1 l2 v1 v2) (htb:tb<base) (hbs:base≤w.heap.size) (hC:(C v1 v2).setIfInBounds i v7=C v7 v2)
  (t6:Turn (fun _=>False) w w6) (h7:gI w7 base 9 v7 (l1++[s])) (hg:w6.grownBy w7 v1.ownBlock) (hbk:v7.ownBlock=v1.ownBlock∨v7.ownBlock=some w6.heap.size):
  vO R k e T C tb base (w7.setCell ⟨tb,i,none⟩ v7) (l1++[s]) l2 v7 v2∧Turn (fun j=>v1.ownBlock=some j∨j=tb) w (w7.setCell ⟨tb,i,none⟩ v7):=by
 have t7:Turn (fun j=>v1.ownBlock=some j) w w7:=(t6.mono (G:=fun j=>v1.ownBlock=some j) (fun _ _ h=>h.elim)).trans (Turn.bA hg (fun k h=>h)) (fun _ _ h=>h);have t8:=ak w7 tb i v7;have hs:=t6.size;have hlt:=h.nL.lt;have hk:=h.kid;have hkl:=hk.lt
 have k1:fu R k e w base (fun j=>(base≤j∧v1.ownBlock≠some j)∧v7.ownBlock≠some j) v2 l2:=hk.mono hR fun g hg h=>⟨h,fun e=>by
  rcases hbk with hb | hb
  ·rw [hb]at e;exact h.2 e
  ·rw [hb]at e;injection e with e;omega⟩
 have k7:=k1.turn hR t7 (fun g hg e=>h.ne g e hg) (fun g _ hg e=>hg.1.2 e);have k8:=k7.turn hR t8 (fun g hg e=>by have:=(hkl g hg).1;omega) (fun g _ hg e=>by have:=hg.1.1;omega);have hb:=heap_setCell_same _ _ i _ _ v7 (ah h.blk t7 (fun e=>by have:=(hlt _ e).1;omega));rw [hC]at hb;refine⟨⟨hb,h7.turn t8 (fun g hg e=>by have:=(h7.lt g hg).1;omega),k8.mono hR fun g _ h=>⟨h.1.1,h.2⟩,fun g e=> ?_⟩,(t7.mono (G:=fun j=>v1.ownBlock=some j∨j=tb) fun _ _ h=> .inl h).trans t8 (fun _ _ h=> .inr h)⟩;rcases hbk with hb | hb
 ·rw [hb]at e;exact h.ne g e
 ·rw [hb]at e;injection e with e;intro e2;have:=(hkl g e2).2;omega
theorem fu.Xn {w w7:World} {F F':Nat→Prop} {v v7:Value} {l:List α} {x:α} {z ys:List Value} {n7:Nat} (hR:mH R k) (h1:w.ownsRow base e k v l.length ys) (h2:eD (R w (nD F v)) k ys l) (hx:R w F' z x)
  (hF:∀j,j<w.heap.size→F' j→F j∧v.ownBlock≠some j) {G:Nat→Prop} (t7:Turn G w w7) (hG:∀j,j<w.heap.size→G j→v.ownBlock=some j∨¬F j) (hbk:v7.ownBlock=v.ownBlock∨∃m,w.heap.size≤m∧v7.ownBlock=some m)
  (h7:w7.ownsRow base e k v7 n7 (ys++z)) (hk:0<k):fu R k e w7 base F v7 (l++[x]):=by
 have hn:n7=(l++[x]).length:=by
  have e1:=h7.1;have e2:=h1.1;have e3:=hR.len hx;rw [List.length_append,e2,e3]at e1;rw [List.length_append,List.length_singleton];have:n7*k=(l.length+1)*k:=by rw [←e1,Nat.add_mul,Nat.one_mul]
  exact Nat.eq_of_mul_eq_mul_right hk this
 subst hn;have hnew:∀j,j<w.heap.size→v.ownBlock≠some j→v7.ownBlock≠some j:=fun j hj hne e=>by
  rcases hbk with hb | ⟨m,hm,hb⟩
  ·rw [hb]at e;exact hne e
  ·rw [hb]at e;injection e with e;omega
 have key:∀ {z:List Value} {x:α},R w (fun j=>j<w.heap.size∧F j∧v.ownBlock≠some j) z x→R w7 (nD F v7) z x:=fun h=>
  hR.mono (hR.turn h t7 (fun j _ h e=>by rcases hG j h.1 e with e | e;exact h.2.2 e;exact e h.2.1)) fun j _ h=>⟨hnew j h.1 h.2.2,h.2.1⟩
 exact⟨_,h7,eD.app (wh (hR.len hx) (key (hR.mono hx fun j hj h=>⟨hj,hF j hj h⟩))) (h2.imp fun _ _ h=>key (hR.mono h fun j hj h=>⟨hj,h.2,h.1⟩))⟩
theorem vO.more {i:Nat} {w w6 w7:World} {F':Nat→Prop} {v7:Value} {z ys:List Value} {n7:Nat} {x:α} (hR:mH R k) (hk0:0<k) (h:vO R k e T C tb base w l1 l2 v1 v2) (htb:tb<base) (hC:(C v1 v2).setIfInBounds i v7=C v1 v7)
  (hx:R w F' z x) (hF:∀j,j<w.heap.size→F' j→base≤j∧v1.ownBlock≠some j∧v2.ownBlock≠some j) (t6:Turn (fun _=>False) w w6) (hy:w.ownsRow base e k v2 l2.length ys) (hr:eD (R w (nD (fun j=>base≤j∧v1.ownBlock≠some j) v2)) k ys l2)
  (hg:w6.grownBy w7 v2.ownBlock) (hbk:v7.ownBlock=v2.ownBlock∨v7.ownBlock=some w6.heap.size) (h7:w7.ownsRow base e k v7 n7 (ys++z)):
  vO R k e T C tb base (w7.setCell ⟨tb,i,none⟩ v7) l1 (l2++[x]) v1 v7∧Turn (fun j=>v2.ownBlock=some j∨j=tb) w (w7.setCell ⟨tb,i,none⟩ v7):=by
 have tg:Turn (fun j=>v2.ownBlock=some j) w w7:=(t6.mono (G:=fun j=>v2.ownBlock=some j) (fun _ _ h=>h.elim)).trans (Turn.bA hg (fun k h=>h)) (fun _ _ h=>h);have ts:=ak w7 tb i v7;have hlt:=h.nL.lt;have hkl:=h.kid.lt;have hs6:=t6.size;have t8:Turn (fun j=>v2.ownBlock=some j∨j=tb) w (w7.setCell ⟨tb,i,none⟩ v7):=(tg.mono (G:=fun j=>v2.ownBlock=some j∨j=tb) fun _ _ h=> .inl h).trans ts (fun _ _ h=> .inr h);have hb:=heap_setCell_same _ _ i _ _ v7 (ah h.blk tg (fun e=>by have:=(hkl _ e).1;omega));rw [hC]at hb;have h8:(w7.setCell ⟨tb,i,none⟩ v7).ownsRow base e k v7 n7 (ys++z):=dK h7 ts (fun g hg e=>by have:=(h7.lt g hg).1;omega);refine⟨⟨hb,h.nL.turn t8 (fun g hg e=> ?_), ?_,fun g e=> ?_⟩,t8⟩
 ·rcases e with e | e
  ·exact h.ne g hg e
  ·have:=(hlt g hg).1;omega
 ·exact fu.Xn hR hy hr hx (fun j hj h=>⟨⟨(hF j hj h).1,(hF j hj h).2.1⟩,(hF j hj h).2.2⟩) t8 (fun j _ e=>by
   rcases e with e | e
   ·exact .inl e
   ·exact .inr fun h=>by have:=h.1;omega) (hbk.imp id fun e=>⟨_,hs6,e⟩) h8 hk0
 ·have hg1:=(hlt g e).2;rcases hbk with hb | hb
  ·rw [hb];exact h.ne g e
  ·rw [hb];intro e2;injection e2 with e2;omega
end
theorem MH {α β:Type} (a:α) (f:α→Ps β):aj (aG a) f=f a:=rfl
theorem Qj {α β:Type} {one:Ps α} {q:Pr Unit} {f:Nat} {l:List α} {g:List α→Ps β} {R:Pr β} (h:Im q [44]) (hq:aX q (aj (mW one f l) g)=R):aX q (g l)=R:=by
 cases f with
 | zero=>exact hq
 | succ f=>rw [mW,rA]at hq;exact yg h hq
theorem Qk {α β:Type} {one:Ps α} {t:aD} {r:List aD} {f:Nat} {l:List α} {g:List α→Ps β} {R:Pr β} (h:jc t [44]=true) (hq:aX (.good () (t :: r)) (aj (mW one (f+1) l) g)=R):
  aX (.good () r) (aj one fun a=>aj (mW one f (l++[a])) g)=R:=by
 rw [mW,rA]at hq;have:=yc h hq;rwa [if_pos rfl,rA]at this
def Ub {α β:Type} (one:Ps α) (l:List α) (g:List α→Ps β) (R:Pr β) (q:Pr Unit):Prop:=∃f,aX q (aj one fun a=>aj (mW one f (l++[a])) g)=R∧Gl (oF (aX q one))≤f
theorem Ke {α β:Type} {one:Ps α} {q:Pr Unit} {g:List α→Ps β} {R:Pr β} (hq:aX q (aj (iB one) g)=R):Ub one [] g R q:=by
 refine⟨Gl (oF (aX q one)), ?_,Nat.le_refl _⟩;rw [←hq];unfold iB;rw [rA,sj,sj];rcases h:aX q one with g | ⟨a,ts⟩ <;> rfl
theorem MI {α β:Type} {one:Ps α} {t:aD} {r:List aD} {f:Nat} {l:List α} {g:List α→Ps β} {R:Pr β} (hsf:Sf one) (hw:Wf r) (h:jc t [44]=true) (hf:(t :: r).length≤f) (hq:aX (.good () (t :: r)) (aj (mW one f l) g)=R):Ub one l g R (.good () r):=by
 obtain⟨f,rfl⟩:∃f2,f=f2+1:=⟨f - 1,by simp at hf;omega⟩
 exact⟨f,Qk h hq,by have:=zf hsf (u:=()) hw;simp at hf;omega⟩
end Go.Proofs.YtfgjkmipfikooaaGreatDoor
