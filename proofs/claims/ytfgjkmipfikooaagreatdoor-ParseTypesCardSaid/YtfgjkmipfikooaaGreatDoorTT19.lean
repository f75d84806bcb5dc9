/- HJT, GJ, GI -/
import Derived.Test.YtfgjkmipfikooaaGreatDoorTTQ
import Derived.Test.YtfgjkmipfikooaaGreatDoorTT16
import Derived.Test.YtfgjkmipfikooaaGreatDoorTT02
import Derived.Test.YtfgjkmipfikooaaGreatDoorTT13
import Derived.IntWalk
import Derived.Test.YtfgjkmipfikooaaGreatDoorRows
import Derived.Test.YtfgjkmipfikooaaGreatDoorTT04
import Derived.Tactics
import Derived.Tactics2
import Derived.Defers
import Derived.Laws.Pointers
import Derived.Laws.LoneSync
import Derived.Laws.Tables
import Derived.RegionTactic
import Derived.RegionCalls
import Derived.Laws.MakeOwn
import Derived.Lib.ConvBytes
import Derived.Lib.AtoiErrMem
import Derived.Test.YtfgjkmipfikooaaGreatDoorTT01
import Derived.Laws.CopyOwn
import Derived.Laws.OwnMore
set_option linter.unusedSimpArgs false
set_option linter.unusedVariables false
set_option maxRecDepth 100000
set_option maxHeartbeats 8000000
namespace Go.Proofs.YtfgjkmipfikooaaGreatDoor
open Go.RowKit
theorem NQ (p q:Addr) (w:World):
  CallsD Tryz.prog 112 #[.pointer (some p), .pointer (some q)] .returning w fun e u' w'=>e= .returned (.tuple #[])∧u'= .returning∧w'=w:=by
 refine callsD_of_wpS Tryz.func112 rfl fun c₀ cs hu=> ?_;apply wpS_seq;apply wpS_region;simp [wpOpsS,go_sem,recoverD,hu,Tryz.ntmps112,Exit.thenS];refine wpS_of_wp ?_;change Code.wp _ _ _ { tmps:= #[.pointer (some p), .pointer (some q), .nilIface,undef,undef,undef, .nilIface,undef,undef,undef,undef,undef,undef,undef,undef,undef,undef,undef,undef,undef],defers:=[]} w
 go_wp2
 exact⟨rfl, .returning,by rw [←hu], .tuple #[],results_none rfl _ _ _,rfl,rfl,rfl⟩
theorem BA (pb qb:Nat) (hne:pb≠qb) (g:vZ) (older:List PanicEntry) (w:World) {a0 a1 a2 a3:Value} (hp:w.heap[pb]? =some (.cells #[a0,a1,a2,a3] 57 (0,0))) (hq:w.heap[qb]? =some (.cells #[.int .i64 0, .int .i64 0, .int .i64 0, .int .i64 0] 45 (0,0))):
  CallsD Tryz.prog 112 #[.pointer (some ⟨pb,0,none⟩), .pointer (some ⟨qb,0,none⟩)] (.panicking ({ v:= .iface 146 (pR g),recovered:=false} :: older)) w fun e u' w'=>e= .returned (.tuple #[])∧u'= .panicking ({ v:= .iface 146 (pR g),recovered:=true} :: older)∧
   Turn (fun k=>k=pb∨k=qb) w w'∧w'.heap[pb]? =some (.cells #[.int .i64 0, .string ⟨#[]⟩, .slice none 0 0, .slice none 0 0] 57 (0,0))∧w'.heap[qb]? =some (.cells (Qz g) 45 (0,0)):=by
 have hta:∀w:World,(Instr.typeAssert (.iface 146 (pR g)) 20 146 true).run Tryz.prog w= .ok (.tuple #[pR g, .bool true]) w:=fun _=>by kernel_rfl
 have hpl:=block_lt hp;have VK:=block_lt hq;have HP:=hid hp;have HQ:=hid hq;clear hp hq;refine callsD_of_wpS Tryz.func112 rfl fun c₀ cs hu=> ?_;apply wpS_seq;apply wpS_region;simp [wpOpsS,go_sem,recoverD,hu,Tryz.ntmps112,Exit.thenS];refine wpS_of_wp ?_;change Code.wp _ _ _ { tmps:= #[.pointer (some ⟨pb,0,none⟩), .pointer (some ⟨qb,0,none⟩), .iface 146 (pR g),undef,undef,undef, .iface 146 (pR g),undef,undef,undef,undef,undef,undef,undef,undef,undef,undef,undef,undef,undef],defers:=[]} w;obtain⟨W2,hW2⟩:∃W2,(w.alloc (.cells (Qz g) 146)).alloc (.cells #[.int .i64 0, .string ⟨#[]⟩, .slice none 0 0, .slice none 0 0] 57)=W2:=⟨_,rfl⟩
 have hs2:W2.heap.size=w.heap.size+2:=by rw [←hW2];simp
 obtain⟨tw, _,hbb,hzb⟩:=gG (G:=fun _=>False) (Turn.refl _ ((w.alloc (.cells (Qz g) 146)).alloc (.cells #[.int .i64 0, .string ⟨#[]⟩, .slice none 0 0, .slice none 0 0] 57)));rw [hW2]at tw hbb hzb;have HW2:=hid hW2;have hp2:=ah HP.out tw id;have hq2:=ah HQ.out tw id;have FE:=hid hp2;have jO:=hid hq2;have Kv:=hid tw;obtain⟨b0,b1,b2,b3,bz⟩:=aP (hbb id);have hz2:=hzb id;have HZ2:=hid hz2;clear hW2 tw hbb hzb;go_wp2_with fail;rw [HW2.out];have HD0:Hid (Turn (fun j=>j=pb∨j=qb) W2 W2.drew):=hid ⟨rfl,rfl,rfl,Nat.le_refl _,fun _ _ _=>rfl⟩;have PZ:=hid (fun(w':World) (h:Turn (fun j=>j=pb∨j=qb) W2 w')=>(⟨aH ((cell_of_row _ _ 0 _ _ _ hz2).trans rfl) h (by omega),aH ((cell_of_row _ _ 1 _ _ _ hz2).trans rfl) h (by omega),aH ((cell_of_row _ _ 2 _ _ _ hz2).trans rfl) h (by omega),aH ((cell_of_row _ _ 3 _ _ _ hz2).trans rfl) h (by omega)⟩:w'.cell? ⟨w.heap.size+1,0,none⟩=some (.int .i64 0)∧w'.cell? ⟨w.heap.size+1,1,none⟩=some (.string ⟨#[]⟩)∧w'.cell? ⟨w.heap.size+1,2,none⟩=some (.slice none 0 0)∧w'.cell? ⟨w.heap.size+1,3,none⟩=some (.slice none 0 0)));have PB:=hid (fun(w':World) (h:Turn (fun j=>j=pb∨j=qb) W2 w')=>(⟨aH b0 h (by omega),aH b1 h (by omega),aH b2 h (by omega),aH b3 h (by omega)⟩:w'.cell? ⟨w.heap.size,0,none⟩=some (.int .i64 0)∧w'.cell? ⟨w.heap.size,1,none⟩=some (.int .i64 g.1)∧w'.cell? ⟨w.heap.size,2,none⟩=some (.int .i64 g.2.1)∧w'.cell? ⟨w.heap.size,3,none⟩=some (.int .i64 g.2.2)));clear hz2 b0 b1 b2 b3 bz;refine bO (S:=fun w'=>Turn (fun j=>j=pb∨j=qb) W2 w') (x:=4) (by kernel_rfl) ?_
 try simp only [Act.put,sq]
 refine jq 0 (.agg #[.int .i64 0, .string ⟨#[]⟩, .slice none 0 0, .slice none 0 0]) PZ.out HD0.out ?_;refine tx 1 (.pointer (some ⟨w.heap.size,0,none⟩)) HD0.out ?_;refine jq 2 (pR g) PB.out HD0.out ?_;have l9:∀X:World,X.drew.heap=X.heap:=fun _=>rfl;have hdr:∀(G:Nat→Prop) (X:World),Turn G X X.drew:=fun _ _=>⟨rfl,rfl,rfl,Nat.le_refl _,fun _ _ _=>rfl⟩
 have tA:=((((ak W2 (pb) 0 (.int .i64 0)).trans (ak _ (pb) 1 (.string ⟨#[]⟩)) (fun _ _ h=>h)).trans (ak _ (pb) 2 (.slice none 0 0)) (fun _ _ h=>h)).trans (ak _ (pb) 3 (.slice none 0 0)) (fun _ _ h=>h))
 have Sr:((((W2.setCell ⟨pb,0,none⟩ (.int .i64 0)).setCell ⟨pb,1,none⟩ (.string ⟨#[]⟩)).setCell ⟨pb,2,none⟩ (.slice none 0 0)).setCell ⟨pb,3,none⟩ (.slice none 0 0)).heap[pb]? =some (.cells #[.int .i64 0, .string ⟨#[]⟩, .slice none 0 0, .slice none 0 0] 57 (0,0)):=(aU (b:=pb) FE.out (.int .i64 0) (.string ⟨#[]⟩) (.slice none 0 0) (.slice none 0 0))
 have Sv:=ah jO.out tA (fun e=>hne e.symm);have yh:=hid (tA.mono (G:=fun k=>k=pb∨k=qb) (fun _ _ h=> .inl h));have pE:=hid (yh.out.trans (hdr (fun k=>k=pb∨k=qb) _) (fun _ _ h=>h));have YO:=hid Sr;have KZ:=hid Sv;have p0:W2.cell? ⟨pb,0,none⟩=some a0:=(cell_of_row _ _ 0 _ _ _ hp2).trans rfl;have p1:W2.cell? ⟨pb,1,none⟩=some a1:=(cell_of_row _ _ 1 _ _ _ hp2).trans rfl;have p2:W2.cell? ⟨pb,2,none⟩=some a2:=(cell_of_row _ _ 2 _ _ _ hp2).trans rfl;have p3:W2.cell? ⟨pb,3,none⟩=some a3:=(cell_of_row _ _ 3 _ _ _ hp2).trans rfl;have pz:∀i,W2.frozen? ⟨pb,i,none⟩=false:=fun i=>frozen_of_row _ _ _ _ _ hp2;have q0:W2.cell? ⟨qb,0,none⟩=some (.int .i64 0):=(cell_of_row _ _ 0 _ _ _ hq2).trans rfl;have q1:W2.cell? ⟨qb,1,none⟩=some (.int .i64 0):=(cell_of_row _ _ 1 _ _ _ hq2).trans rfl;have q2:W2.cell? ⟨qb,2,none⟩=some (.int .i64 0):=(cell_of_row _ _ 2 _ _ _ hq2).trans rfl;have q3:W2.cell? ⟨qb,3,none⟩=some (.int .i64 0):=(cell_of_row _ _ 3 _ _ _ hq2).trans rfl;have qz:∀i,W2.frozen? ⟨qb,i,none⟩=false:=fun i=>frozen_of_row _ _ _ _ _ hq2;have hne':¬qb=pb:=fun e=>hne e.symm;clear tA Sr Sv hp2 hq2;refine ay (rs:=[3]) (by kernel_rfl) (by simp) ?_;refine av.cons rfl (fun K hK=> ?_) (av.nil);go_simp;refine hK.out _ _ pE.out ?_;clear hK K
 try simp only [Act.put,sq]
 refine ay (rs:=[4]) (by kernel_rfl) (by simp) ?_;refine av.past rfl (by kernel_rfl) (fun K hK=> ?_) (av.nil);go_simp;refine hK.out _ _ ?_;clear hK K
 try simp only [Act.put,sq]
 refine aM (by kernel_rfl) ?_ _;go_wp2_with fail;have tB:=((((ak ((((W2.setCell ⟨pb,0,none⟩ (.int .i64 0)).setCell ⟨pb,1,none⟩ (.string ⟨#[]⟩)).setCell ⟨pb,2,none⟩ (.slice none 0 0)).setCell ⟨pb,3,none⟩ (.slice none 0 0)) (qb) 0 (.int .i64 0)).trans (ak _ (qb) 1 (.int .i64 g.1)) (fun _ _ h=>h)).trans (ak _ (qb) 2 (.int .i64 g.2.1)) (fun _ _ h=>h)).trans (ak _ (qb) 3 (.int .i64 g.2.2)) (fun _ _ h=>h))
 have h1:=(Kv.out.mono (G:=fun k=>k=pb∨k=qb) (fun _ _ h=>h.elim)).trans ((yh.out.trans tB (fun _ _ h=> .inr h)).trans (hdr (fun k=>k=pb∨k=qb) _) (fun _ _ h=>h)) (fun _ _ h=>h);have h2:=ah YO.out tB hne;have h3:=(aU (b:=qb) KZ.out (.int .i64 0) (.int .i64 g.1) (.int .i64 g.2.1) (.int .i64 g.2.2))
 refine⟨rfl, _,rfl, .tuple #[],results_none rfl _ _ _,rfl,rfl,h1, ?_, ?_⟩
 ·rw [l9];exact h2
 ·rw [l9];exact h3
theorem QE (w:World) (s:Bt) (hX:jS w):Calls Tryz.prog 53 #[sv s, .func (.func 54) #[] #[]] w fun e w'=>Below w.heap.size w w'∧∃z:List Value,e= .returned (.tuple #[.agg z.toArray,pR (bS (bR 100).typ s).2])∧jR w' (fun j=>w.heap.size≤j) z (o9 (bR 100).typ s mR):=by
 have OH:∀(fn:Fn) (first cap:Array Value) (w:World),(Instr.makeFunc fn first cap).run Tryz.prog w= .ok (.func fn first cap) w:=fun _ _ _ _=>rfl;have hent:∀w:World,(callFunc 54 #[]).run Tryz.prog w= .ok (.enter 54 #[]) w:=fun _=>by kernel_rfl
 have l9:∀X:World,X.drew.heap=X.heap:=fun _=>rfl;have hdr:∀(G:Nat→Prop) (X:World),Turn G X X.drew:=fun _ _=>⟨rfl,rfl,rfl,Nat.le_refl _,fun _ _ _=>rfl⟩
 obtain⟨W0,hW0⟩:∃W0,((w.alloc (.cells #[.int .i64 0, .string ⟨#[]⟩, .slice none 0 0, .slice none 0 0] 57)).alloc (.cells #[.int .i64 0, .int .i64 0, .int .i64 0, .int .i64 0] 45))=W0:=⟨_,rfl⟩
 obtain⟨tw, _,hx0,hd0⟩:=gG (G:=fun _=>False) (Turn.refl _ ((w.alloc (.cells #[.int .i64 0, .string ⟨#[]⟩, .slice none 0 0, .slice none 0 0] 57)).alloc (.cells #[.int .i64 0, .int .i64 0, .int .i64 0, .int .i64 0] 45)));have hs0:W0.heap.size=w.heap.size+2:=by rw [←hW0];simp
 have hb0:Below w.heap.size w W0:=by rw [←hW0];exact new2 _ _ _
 rw [hW0]at tw hx0 hd0;have hx0:=hx0 id;have hd0:=hd0 id;have HX0:=hid hx0;have HD0:=hid hd0;have HB0:=hid hb0;have I8:=hid ((nH.of hX.1).below hb0);have HL:=hid (BR W0 s (hX.below hb0));have HW0:=hid hW0;obtain⟨Dg,qU⟩:∃Dg,(bS (bR 100).typ s).2=Dg:=⟨_,rfl⟩
 obtain⟨V,hV⟩:∃V,o9 (bR 100).typ s mR=V:=⟨_,rfl⟩
 rw [qU,hV];clear hX tw hx0 hd0 hb0 hW0;by_cases hE:(eZ s).2.2.2=0
 ·have hz:=uR hE;obtain⟨T,hT⟩:∃T,eZ s=(T,((0,0,0):Nat ×Nat ×Int)):=⟨(eZ s).1,by rw [←hz]⟩
  obtain⟨htk,hwf⟩:=uS hE;rw [hT]at HL htk hwf;have QB:Hid (bS (bR 100).typ s=xC (aj (bR 100).typ (fun x=>aj (dw 0) fun _=>aG x) T)):=hid (qP hT);have Nz:=hid qU;have HV:=hid hV;have uD:=hid htk;have ru:=hid hwf;clear hE hz hT htk hwf qU hV
  go_enter_defers Tryz.func53,Tryz.ntmps53
  go_wp2_with fail;rw [HW0.out];refine(HL.out).mono ?_;rintro e w1 ⟨v1,n1,rfl,hown,hb1⟩;obtain⟨zA,c1',rfl, _, _⟩:=iy hown;have hs1:=hb1.size;have hx1:=(hb1.block (w.heap.size) (by omega)).trans HX0.out;have hd1:=(hb1.block (w.heap.size+1) (by omega)).trans HD0.out;have HB1:=hid (HB0.out.trans (hb1.mono (by omega)));have EK:=hid (I8.out.below (hb1.mono (by omega)));obtain⟨x0,x1,x2,x3,xz⟩:=aP hd1;have t1:=bW w1 (w.heap.size+1) (.int .i64 0) (.int .i64 0) (.int .i64 0) (.int .i64 0);have nZ:=hid (ah hx1 t1 (by omega));have HD1:=hid (aU hd1 (.int .i64 0) (.int .i64 0) (.int .i64 0) (.int .i64 0));have HT1:=hid t1;have hsp:(dh w1 (w.heap.size+1) (.int .i64 0) (.int .i64 0) (.int .i64 0) (.int .i64 0)).heap.size=w1.heap.size:=by simp [dh]
  have HOWN:=hid hown;rw [show wz (0,0,0)= .agg #[.int .i64 0, .int .i64 0, .int .i64 0, .int .i64 0]from rfl];obtain⟨W2,hW2⟩:∃W2,(dh w1 (w.heap.size+1) (.int .i64 0) (.int .i64 0) (.int .i64 0) (.int .i64 0)).alloc (.cells #[.slice zA n1 c1', .int .i64 0] 151)=W2:=⟨_,rfl⟩
  have t2:Turn (fun k=>k=w.heap.size+1) w1 W2:=by rw [←hW2];exact t1.trans (Turn.alloc _ _ _) (fun _ _ h=>h)
  have hb2:=qR (dh w1 (w.heap.size+1) (.int .i64 0) (.int .i64 0) (.int .i64 0) (.int .i64 0)) (.cells #[.slice zA n1 c1', .int .i64 0] 151);rw [hW2,hsp]at hb2;have hs2:W2.heap.size=w1.heap.size+1:=by rw [←hW2];simp [dh]
  have Jd:=hid (by have:=bG (o':=(.cells #[.slice zA n1 c1', .int .i64 0] 151)) nZ.out;rwa [hW2]at this);have HD2:=hid (by have:=bG (o':=(.cells #[.slice zA n1 c1', .int .i64 0] 151)) HD1.out;rwa [hW2]at this);have hsl:Sl W2 w1.heap.size 4 (.slice zA n1 c1') (bU T):=((dB.own (F:=fun j=>W0.heap.size≤j∧j<w1.heap.size) hown (fun g hg=>hown.lt g hg)).turn t2 (fun g _ h e=>by have:=h.1;omega)).to (fun g _ h=>h.2);have htb:yR w1.heap.size W2 (.slice zA n1 c1'):=fun b o n c e=>by
   injection e with e _ _;subst e;rcases hown.2 with⟨h, _⟩ | ⟨g,cap,cur,h,hg,Sw, _⟩
   ·injection h with h;cases h
   ·injection h with h _ _;injection h with h;injection h with h _;subst h;exact⟨block_lt Sw, _,ah Sw t2 (by omega)⟩
  have EL:=hid (EK.out.below (t2.below (by omega) (fun k hk e=>by omega)));have HK:=hid (show bK W2 w1.heap.size w1.heap.size T 0 from⟨Nat.le_refl _,uD.out,ru.out, _,hb2,hsl,fun w' hb'=>EL.out w' (fun k hk=>hb' k (by omega)),htb⟩);have HT2:=hid (HB1.out.trans (t2.below (B:=w.heap.size) (by omega) (fun k hk e=>by omega)));have HR:=hid (I6 W2 w1.heap.size w1.heap.size T HK.out);have HW2:=hid hW2;clear hown hb1 hx1 hd1 t1 t2 hb2 hsl hW2 HOWN htb;go_wp2_with fail;rw [HW2.out];refine(HR.out).mono ?_;rintro e w3 h3;rcases hq:(bR 100).typ T with g | ⟨x,r3⟩
  ·obtain⟨rfl,tn,bn⟩:=h3.bM hq;have wM:Hid (bS (bR 100).typ s=(none,g)):=hid (by rw [QB.out,aB hq];rfl);have NA:=hid (ah Jd.out tn (by omega));have NC:=hid (ah HD2.out tn (by omega));have EM:=hid (HT2.out.trans (tn.below (B:=w.heap.size) (by omega) (fun k hk e=>by omega)));clear h3 tn bn hq;go_wp2_with fail;refine leaves_cons (f:=112) (args:= #[.pointer (some ⟨w.heap.size,0,none⟩), .pointer (some ⟨w.heap.size+1,0,none⟩)]) (by simp) (by simp [go_sem]) ?_;refine(BA w.heap.size (w.heap.size+1) (by omega) g [] _ NA.out NC.out).mono ?_;rintro e u9 w9 ⟨rfl,rfl,t9,p9,q9⟩;have e1:Dg=g:=by rw [←Nz.out,wM.out]
   have e2:V=mR:=by rw [←HV.out];unfold o9;rw [wM.out];rfl
   subst e1 e2;exact⟨_,cB rfl rfl rfl p9 q9 Tryz.underlying57 rfl (by kernel_rfl) Tryz.underlying45 rfl (by kernel_rfl),EM.out.trans (t9.below (by have:=EM.out.size;omega) (fun k hk e=>by omega)), _,rfl, .mk (dB.nil _ _ _) (dB.nil _ _ _) .nil⟩
  ·obtain⟨v3,rfl,tn,⟨z0,rfl,hz0⟩,kn⟩:=h3.aL hq;have hzc:=hz0;obtain⟨k4,s4,A1,n1',c1,A2,n2,c2,rfl⟩:=hzc.shape';have hs3:=tn.size;have hx3:=ah Jd.out tn (by omega);have hd3:=ah HD2.out tn (by omega);have t4:Turn (fun k=>k=w.heap.size) w3 ((((w3.setCell ⟨w.heap.size,0,none⟩ (.int .i64 k4)).setCell ⟨w.heap.size,1,none⟩ (sv s4)).setCell ⟨w.heap.size,2,none⟩ (.slice A1 n1' c1)).setCell ⟨w.heap.size,3,none⟩ (.slice A2 n2 c2)):=((((ak w3 (w.heap.size) 0 (.int .i64 k4)).trans (ak _ (w.heap.size) 1 (sv s4)) (fun _ _ h=>h)).trans (ak _ (w.heap.size) 2 (.slice A1 n1' c1)) (fun _ _ h=>h)).trans (ak _ (w.heap.size) 3 (.slice A2 n2 c2)) (fun _ _ h=>h))
   have yZ:=hid ((aU (b:=w.heap.size) hx3 (.int .i64 k4) (sv s4) (.slice A1 n1' c1) (.slice A2 n2 c2)));have HD4:=hid (ah hd3 t4 (by omega));have ND:=hid ((EL.out.below (tn.below (by omega) (fun k hk e=>by omega))).below (t4.below (by omega) (fun k hk e=>by omega)));have jH:=hid (kn.apart t4 (by omega) (fun g e _=>by have e:g=w.heap.size:=e;subst e;exact⟨_, _,hx3,by decide⟩) (fun w' hb'=>ND.out w' (fun k hk=>hb' k (by omega))));have fP:=hid (HT2.out.trans ((tn.below (B:=w.heap.size) (by omega) (fun k hk e=>by omega)).trans (t4.below (B:=w.heap.size) (by omega) (fun k hk e=>by omega))));have uV:=hid (hz0.turn t4 (fun g _ h e=>by omega));have Sy:Hid (bS (bR 100).typ s=xC (aj (dw 0) (fun _=>aG x) r3)):=hid (by rw [QB.out,au hq]);have QC:=hid (nI ((((w3.setCell ⟨w.heap.size,0,none⟩ (.int .i64 k4)).setCell ⟨w.heap.size,1,none⟩ (sv s4)).setCell ⟨w.heap.size,2,none⟩ (.slice A1 n1' c1)).setCell ⟨w.heap.size,3,none⟩ (.slice A2 n2 c2)) w1.heap.size w1.heap.size r3 0 jH.out 0);have u0:w3.cell? ⟨w.heap.size,0,none⟩=some (.int .i64 0):=(cell_of_row _ _ 0 _ _ _ hx3).trans rfl;have u1:w3.cell? ⟨w.heap.size,1,none⟩=some (.string ⟨#[]⟩):=(cell_of_row _ _ 1 _ _ _ hx3).trans rfl;have u2:w3.cell? ⟨w.heap.size,2,none⟩=some (.slice none 0 0):=(cell_of_row _ _ 2 _ _ _ hx3).trans rfl;have u3:w3.cell? ⟨w.heap.size,3,none⟩=some (.slice none 0 0):=(cell_of_row _ _ 3 _ _ _ hx3).trans rfl;have uz:∀i,w3.frozen? ⟨w.heap.size,i,none⟩=false:=fun i=>frozen_of_row _ _ _ _ _ hx3;clear h3 tn kn hz0 hzc hq hx3 hd3 t4;go_wp2_with fail;refine(QC.out).mono ?_;rintro e w5 h5;rcases hq:dw 0 r3 with g | ⟨sx,r5⟩
   ·obtain⟨rfl,tn,bn⟩:=h5.bM hq;have wM:Hid (bS (bR 100).typ s=(none,g)):=hid (by rw [Sy.out,aB hq];rfl);have NA:=hid (ah yZ.out tn (by omega));have NC:=hid (ah HD4.out tn (by omega));have EM:=hid (fP.out.trans (tn.below (B:=w.heap.size) (by have:=fP.out.size;omega) (fun k hk e=>by omega)));clear h5 tn bn hq;go_wp2_with fail;refine leaves_cons (f:=112) (args:= #[.pointer (some ⟨w.heap.size,0,none⟩), .pointer (some ⟨w.heap.size+1,0,none⟩)]) (by simp) (by simp [go_sem]) ?_;refine(BA w.heap.size (w.heap.size+1) (by omega) g [] _ NA.out NC.out).mono ?_;rintro e u9 w9 ⟨rfl,rfl,t9,p9,q9⟩;have e1:Dg=g:=by rw [←Nz.out,wM.out]
    have e2:V=mR:=by rw [←HV.out];unfold o9;rw [wM.out];rfl
    subst e1 e2;exact⟨_,cB rfl rfl rfl p9 q9 Tryz.underlying57 rfl (by kernel_rfl) Tryz.underlying45 rfl (by kernel_rfl),EM.out.trans (t9.below (by have:=EM.out.size;omega) (fun k hk e=>by omega)), _,rfl, .mk (dB.nil _ _ _) (dB.nil _ _ _) .nil⟩
   ·obtain⟨v5,rfl,tn, -,kn⟩:=h5.aL hq;have wM:Hid (bS (bR 100).typ s=(some x,(0,0,0))):=hid (by rw [Sy.out,au hq];rfl);have rE:=hid (ah yZ.out tn (by omega));have HD5:=hid (ah HD4.out tn (by omega));have fM:=hid (fP.out.trans (tn.below (B:=w.heap.size) (by have:=fP.out.size;omega) (fun k hk e=>by omega)));have uU:=hid (uV.out.turn tn (fun g _ h e=>by omega));clear h5 tn kn hq uz u0 u1 u2 u3;have PX:=hid (fun(w':World) (h:w'.heap[w.heap.size]? =some (.cells #[.int .i64 k4,sv s4, .slice A1 n1' c1, .slice A2 n2 c2] 57 (0,0))∧w'.heap[w.heap.size+1]? =some (.cells #[.int .i64 0, .int .i64 0, .int .i64 0, .int .i64 0] 45 (0,0)))=>(⟨(cell_of_row _ _ _ _ _ _ h.1).trans rfl,(cell_of_row _ _ _ _ _ _ h.1).trans rfl,(cell_of_row _ _ _ _ _ _ h.1).trans rfl,(cell_of_row _ _ _ _ _ _ h.1).trans rfl⟩:w'.cell? ⟨w.heap.size,0,none⟩=some (.int .i64 k4)∧w'.cell? ⟨w.heap.size,1,none⟩=some (sv s4)∧w'.cell? ⟨w.heap.size,2,none⟩=some (.slice A1 n1' c1)∧w'.cell? ⟨w.heap.size,3,none⟩=some (.slice A2 n2 c2)));have PD:=hid (fun(w':World) (h:w'.heap[w.heap.size]? =some (.cells #[.int .i64 k4,sv s4, .slice A1 n1' c1, .slice A2 n2 c2] 57 (0,0))∧w'.heap[w.heap.size+1]? =some (.cells #[.int .i64 0, .int .i64 0, .int .i64 0, .int .i64 0] 45 (0,0)))=>(⟨(cell_of_row _ _ _ _ _ _ h.2).trans rfl,(cell_of_row _ _ _ _ _ _ h.2).trans rfl,(cell_of_row _ _ _ _ _ _ h.2).trans rfl,(cell_of_row _ _ _ _ _ _ h.2).trans rfl⟩:w'.cell? ⟨w.heap.size+1,0,none⟩=some (.int .i64 0)∧w'.cell? ⟨w.heap.size+1,1,none⟩=some (.int .i64 0)∧w'.cell? ⟨w.heap.size+1,2,none⟩=some (.int .i64 0)∧w'.cell? ⟨w.heap.size+1,3,none⟩=some (.int .i64 0)))
    have fT:Hid (w5.drew.heap[w.heap.size]? =some (.cells #[.int .i64 k4,sv s4, .slice A1 n1' c1, .slice A2 n2 c2] 57 (0,0))∧w5.drew.heap[w.heap.size+1]? =some (.cells #[.int .i64 0, .int .i64 0, .int .i64 0, .int .i64 0] 45 (0,0))):=hid ⟨by rw [l9];exact rE.out,by rw [l9];exact HD5.out⟩;have YP:w5.cell? ⟨w.heap.size,0,none⟩=some (.int .i64 k4):=(cell_of_row _ _ 0 _ _ _ rE.out).trans rfl;have YQ:w5.cell? ⟨w.heap.size,1,none⟩=some (sv s4):=(cell_of_row _ _ 1 _ _ _ rE.out).trans rfl;have ka2:w5.cell? ⟨w.heap.size,2,none⟩=some (.slice A1 n1' c1):=(cell_of_row _ _ 2 _ _ _ rE.out).trans rfl;have ka3:w5.cell? ⟨w.heap.size,3,none⟩=some (.slice A2 n2 c2):=(cell_of_row _ _ 3 _ _ _ rE.out).trans rfl;have YR:∀i,w5.frozen? ⟨w.heap.size,i,none⟩=false:=fun i=>frozen_of_row _ _ _ _ _ rE.out;have YS:w5.cell? ⟨w.heap.size+1,0,none⟩=some (.int .i64 0):=(cell_of_row _ _ 0 _ _ _ HD5.out).trans rfl;have YT:w5.cell? ⟨w.heap.size+1,1,none⟩=some (.int .i64 0):=(cell_of_row _ _ 1 _ _ _ HD5.out).trans rfl;have YU:w5.cell? ⟨w.heap.size+1,2,none⟩=some (.int .i64 0):=(cell_of_row _ _ 2 _ _ _ HD5.out).trans rfl;have YV:w5.cell? ⟨w.heap.size+1,3,none⟩=some (.int .i64 0):=(cell_of_row _ _ 3 _ _ _ HD5.out).trans rfl;have YW:∀i,w5.frozen? ⟨w.heap.size+1,i,none⟩=false:=fun i=>frozen_of_row _ _ _ _ _ HD5.out;have tA:=((((ak w5 (w.heap.size) 0 (.int .i64 k4)).trans (ak _ (w.heap.size) 1 (sv s4)) (fun _ _ h=>h)).trans (ak _ (w.heap.size) 2 (.slice A1 n1' c1)) (fun _ _ h=>h)).trans (ak _ (w.heap.size) 3 (.slice A2 n2 c2)) (fun _ _ h=>h))
    have rF:=(aU (b:=w.heap.size) rE.out (.int .i64 k4) (sv s4) (.slice A1 n1' c1) (.slice A2 n2 c2))
    have rG:=ah HD5.out tA (by omega);have tB:=((((ak ((((w5.setCell ⟨w.heap.size,0,none⟩ (.int .i64 k4)).setCell ⟨w.heap.size,1,none⟩ (sv s4)).setCell ⟨w.heap.size,2,none⟩ (.slice A1 n1' c1)).setCell ⟨w.heap.size,3,none⟩ (.slice A2 n2 c2)) (w.heap.size+1) 0 (.int .i64 0)).trans (ak _ (w.heap.size+1) 1 (.int .i64 0)) (fun _ _ h=>h)).trans (ak _ (w.heap.size+1) 2 (.int .i64 0)) (fun _ _ h=>h)).trans (ak _ (w.heap.size+1) 3 (.int .i64 0)) (fun _ _ h=>h))
    have HXB:=hid (ah rF tB (by omega));have jW:=hid ((aU (b:=w.heap.size+1) rG (.int .i64 0) (.int .i64 0) (.int .i64 0) (.int .i64 0)));have jI:=hid ((tA.mono (G:=fun k=>k=w.heap.size∨k=w.heap.size+1) (fun _ _ h=> .inl h)).trans tB (fun _ _ h=> .inr h));have pE:Hid (((((w5.setCell ⟨w.heap.size,0,none⟩ (.int .i64 k4)).setCell ⟨w.heap.size,1,none⟩ (sv s4)).setCell ⟨w.heap.size,2,none⟩ (.slice A1 n1' c1)).setCell ⟨w.heap.size,3,none⟩ (.slice A2 n2 c2)).drew.heap[w.heap.size]? =some (.cells #[.int .i64 k4,sv s4, .slice A1 n1' c1, .slice A2 n2 c2] 57 (0,0))∧((((w5.setCell ⟨w.heap.size,0,none⟩ (.int .i64 k4)).setCell ⟨w.heap.size,1,none⟩ (sv s4)).setCell ⟨w.heap.size,2,none⟩ (.slice A1 n1' c1)).setCell ⟨w.heap.size,3,none⟩ (.slice A2 n2 c2)).drew.heap[w.heap.size+1]? =some (.cells #[.int .i64 0, .int .i64 0, .int .i64 0, .int .i64 0] 45 (0,0))):=hid ⟨by rw [l9];exact rF,by rw [l9];exact rG⟩;clear tA rF rG tB;go_wp2_with fail;refine bO (S:=fun w'=>w'.heap[w.heap.size]? =some (.cells #[.int .i64 k4,sv s4, .slice A1 n1' c1, .slice A2 n2 c2] 57 (0,0))∧w'.heap[w.heap.size+1]? =some (.cells #[.int .i64 0, .int .i64 0, .int .i64 0, .int .i64 0] 45 (0,0))) (x:=3) (by kernel_rfl) ?_
    try simp only [Act.put,sq]
    refine jq 0 (.agg #[.int .i64 k4,sv s4, .slice A1 n1' c1, .slice A2 n2 c2]) PX.out fT.out (hQ:=kR rfl (by decide) (by decide)) ?_;refine jq 1 (.agg #[.int .i64 0, .int .i64 0, .int .i64 0, .int .i64 0]) PD.out fT.out (hQ:=kR rfl (by decide) (by decide)) ?_;refine ay (rs:=[2]) (by kernel_rfl) (by simp) ?_;refine av.cons rfl (fun K hK=> ?_) (av.nil);go_simp;refine hK.out _ _ pE.out ?_;clear hK K
    try simp only [Act.put,sq]
    refine ay (rs:=[3]) (by kernel_rfl) (by simp) ?_;refine av.past rfl (by kernel_rfl) (fun K hK=> ?_) (av.nil);go_simp;refine hK.out _ _ ?_;clear hK K
    try simp only [Act.put,sq]
    refine aM (by kernel_rfl) ?_ _;go_wp2_with fail;refine leaves_cons (f:=112) (args:= #[.pointer (some ⟨w.heap.size,0,none⟩), .pointer (some ⟨w.heap.size+1,0,none⟩)]) (by simp) (by simp [go_sem]) ?_;refine(NQ _ _ _).mono ?_;rintro e u9 w9 ⟨rfl,rfl,rfl⟩;have e1:Dg=(0,0,0):=by rw [←Nz.out,wM.out]
    have e2:V=x:=by rw [←HV.out];unfold o9;rw [wM.out];rfl
    subst e1 e2;have OL:=(uU.out.turn jI.out (fun g _ h e=>by omega)).turn (hdr (fun _=>False) _) (fun _ _ _=>id);have xq:=(fM.out.trans (jI.out.below (B:=w.heap.size) (by have:=fM.out.size;omega) (fun k hk e=>by omega))).trans ((hdr (fun _=>False) _).below (by have:=fM.out.size;have:=jI.out.size;omega) (fun _ _=>id));exact⟨_,cB rfl rfl rfl (by rw [l9];exact HXB.out) (by rw [l9];exact jW.out) Tryz.underlying57 rfl (by kernel_rfl) Tryz.underlying45 rfl (by kernel_rfl),xq, _,rfl,OL.mono (fun g _ h=>by omega)⟩
 ·have NG:bS (bR 100).typ s=(none,(eZ s).2):=by unfold bS;rw [if_neg hE]
  have e1:Dg=(eZ s).2:=by rw [←qU,NG]
  have e2:V=mR:=by rw [←hV];unfold o9;rw [NG];rfl
  subst e2;obtain⟨T,D1,hT⟩:∃T D1,eZ s=(T,D1):=⟨_, _,rfl⟩
  rw [hT]at HL e1 hE;have e1:=e1.symm;subst e1;have hE1:(D1.2.2 != 0)=true:=by simpa using hE
  clear hE NG qU hV hT
  go_enter_defers Tryz.func53,Tryz.ntmps53
  go_wp2_with fail;rw [HW0.out];have Sz:wz D1= .agg #[.int .i64 0, .int .i64 D1.1, .int .i64 D1.2.1, .int .i64 D1.2.2]:=rfl;refine(HL.out).mono ?_;rintro e w1 ⟨v1,n1,rfl,hown,hb1⟩;obtain⟨zA,c1',rfl, _, _⟩:=iy hown;have hs1:=hb1.size;have hx1:=(hb1.block (w.heap.size) (by omega)).trans HX0.out;have hd1:=(hb1.block (w.heap.size+1) (by omega)).trans HD0.out;have HB1:=hid (HB0.out.trans (hb1.mono (by omega)));have EK:=hid (I8.out.below (hb1.mono (by omega)));obtain⟨x0,x1,x2,x3,xz⟩:=aP hd1;have t1:=bW w1 (w.heap.size+1) (.int .i64 0) (.int .i64 D1.1) (.int .i64 D1.2.1) (.int .i64 D1.2.2);have nZ:=hid (ah hx1 t1 (by omega));have HD1:=hid (aU hd1 (.int .i64 0) (.int .i64 D1.1) (.int .i64 D1.2.1) (.int .i64 D1.2.2));have HT1:=hid t1;have hsp:(dh w1 (w.heap.size+1) (.int .i64 0) (.int .i64 D1.1) (.int .i64 D1.2.1) (.int .i64 D1.2.2)).heap.size=w1.heap.size:=by simp [dh]
  have HOWN:=hid hown;rw [Sz];clear hown hb1 hx1 hd1 t1 Sz;have PX:=hid (fun(w':World) (h:w'.heap[w.heap.size]? =some (.cells #[.int .i64 0, .string ⟨#[]⟩, .slice none 0 0, .slice none 0 0] 57 (0,0))∧w'.heap[w.heap.size+1]? =some (.cells #[.int .i64 0, .int .i64 D1.1, .int .i64 D1.2.1, .int .i64 D1.2.2] 45 (0,0)))=>(⟨(cell_of_row _ _ _ _ _ _ h.1).trans rfl,(cell_of_row _ _ _ _ _ _ h.1).trans rfl,(cell_of_row _ _ _ _ _ _ h.1).trans rfl,(cell_of_row _ _ _ _ _ _ h.1).trans rfl⟩:w'.cell? ⟨w.heap.size,0,none⟩=some (.int .i64 0)∧w'.cell? ⟨w.heap.size,1,none⟩=some (.string ⟨#[]⟩)∧w'.cell? ⟨w.heap.size,2,none⟩=some (.slice none 0 0)∧w'.cell? ⟨w.heap.size,3,none⟩=some (.slice none 0 0)));have PD:=hid (fun(w':World) (h:w'.heap[w.heap.size]? =some (.cells #[.int .i64 0, .string ⟨#[]⟩, .slice none 0 0, .slice none 0 0] 57 (0,0))∧w'.heap[w.heap.size+1]? =some (.cells #[.int .i64 0, .int .i64 D1.1, .int .i64 D1.2.1, .int .i64 D1.2.2] 45 (0,0)))=>(⟨(cell_of_row _ _ _ _ _ _ h.2).trans rfl,(cell_of_row _ _ _ _ _ _ h.2).trans rfl,(cell_of_row _ _ _ _ _ _ h.2).trans rfl,(cell_of_row _ _ _ _ _ _ h.2).trans rfl⟩:w'.cell? ⟨w.heap.size+1,0,none⟩=some (.int .i64 0)∧w'.cell? ⟨w.heap.size+1,1,none⟩=some (.int .i64 D1.1)∧w'.cell? ⟨w.heap.size+1,2,none⟩=some (.int .i64 D1.2.1)∧w'.cell? ⟨w.heap.size+1,3,none⟩=some (.int .i64 D1.2.2)))
  have fT:Hid ((dh w1 (w.heap.size+1) (.int .i64 0) (.int .i64 D1.1) (.int .i64 D1.2.1) (.int .i64 D1.2.2)).drew.heap[w.heap.size]? =some (.cells #[.int .i64 0, .string ⟨#[]⟩, .slice none 0 0, .slice none 0 0] 57 (0,0))∧(dh w1 (w.heap.size+1) (.int .i64 0) (.int .i64 D1.1) (.int .i64 D1.2.1) (.int .i64 D1.2.2)).drew.heap[w.heap.size+1]? =some (.cells #[.int .i64 0, .int .i64 D1.1, .int .i64 D1.2.1, .int .i64 D1.2.2] 45 (0,0))):=hid ⟨by rw [l9];exact nZ.out,by rw [l9];exact HD1.out⟩;have YP:(dh w1 (w.heap.size+1) (.int .i64 0) (.int .i64 D1.1) (.int .i64 D1.2.1) (.int .i64 D1.2.2)).cell? ⟨w.heap.size,0,none⟩=some (.int .i64 0):=(cell_of_row _ _ 0 _ _ _ nZ.out).trans rfl;have YQ:(dh w1 (w.heap.size+1) (.int .i64 0) (.int .i64 D1.1) (.int .i64 D1.2.1) (.int .i64 D1.2.2)).cell? ⟨w.heap.size,1,none⟩=some (.string ⟨#[]⟩):=(cell_of_row _ _ 1 _ _ _ nZ.out).trans rfl;have ka2:(dh w1 (w.heap.size+1) (.int .i64 0) (.int .i64 D1.1) (.int .i64 D1.2.1) (.int .i64 D1.2.2)).cell? ⟨w.heap.size,2,none⟩=some (.slice none 0 0):=(cell_of_row _ _ 2 _ _ _ nZ.out).trans rfl;have ka3:(dh w1 (w.heap.size+1) (.int .i64 0) (.int .i64 D1.1) (.int .i64 D1.2.1) (.int .i64 D1.2.2)).cell? ⟨w.heap.size,3,none⟩=some (.slice none 0 0):=(cell_of_row _ _ 3 _ _ _ nZ.out).trans rfl;have YR:∀i,(dh w1 (w.heap.size+1) (.int .i64 0) (.int .i64 D1.1) (.int .i64 D1.2.1) (.int .i64 D1.2.2)).frozen? ⟨w.heap.size,i,none⟩=false:=fun i=>frozen_of_row _ _ _ _ _ nZ.out;have YS:(dh w1 (w.heap.size+1) (.int .i64 0) (.int .i64 D1.1) (.int .i64 D1.2.1) (.int .i64 D1.2.2)).cell? ⟨w.heap.size+1,0,none⟩=some (.int .i64 0):=(cell_of_row _ _ 0 _ _ _ HD1.out).trans rfl
  have YT:(dh w1 (w.heap.size+1) (.int .i64 0) (.int .i64 D1.1) (.int .i64 D1.2.1) (.int .i64 D1.2.2)).cell? ⟨w.heap.size+1,1,none⟩=some (.int .i64 D1.1):=(cell_of_row _ _ 1 _ _ _ HD1.out).trans rfl;have YU:(dh w1 (w.heap.size+1) (.int .i64 0) (.int .i64 D1.1) (.int .i64 D1.2.1) (.int .i64 D1.2.2)).cell? ⟨w.heap.size+1,2,none⟩=some (.int .i64 D1.2.1):=(cell_of_row _ _ 2 _ _ _ HD1.out).trans rfl;have YV:(dh w1 (w.heap.size+1) (.int .i64 0) (.int .i64 D1.1) (.int .i64 D1.2.1) (.int .i64 D1.2.2)).cell? ⟨w.heap.size+1,3,none⟩=some (.int .i64 D1.2.2):=(cell_of_row _ _ 3 _ _ _ HD1.out).trans rfl;have YW:∀i,(dh w1 (w.heap.size+1) (.int .i64 0) (.int .i64 D1.1) (.int .i64 D1.2.1) (.int .i64 D1.2.2)).frozen? ⟨w.heap.size+1,i,none⟩=false:=fun i=>frozen_of_row _ _ _ _ _ HD1.out;have tA:=((((ak (dh w1 (w.heap.size+1) (.int .i64 0) (.int .i64 D1.1) (.int .i64 D1.2.1) (.int .i64 D1.2.2)) (w.heap.size) 0 (.int .i64 0)).trans (ak _ (w.heap.size) 1 (.string ⟨#[]⟩)) (fun _ _ h=>h)).trans (ak _ (w.heap.size) 2 (.slice none 0 0)) (fun _ _ h=>h)).trans (ak _ (w.heap.size) 3 (.slice none 0 0)) (fun _ _ h=>h))
  have rF:=(aU (b:=w.heap.size) nZ.out (.int .i64 0) (.string ⟨#[]⟩) (.slice none 0 0) (.slice none 0 0))
  have rG:=ah HD1.out tA (by omega);have tB:=((((ak (((((dh w1 (w.heap.size+1) (.int .i64 0) (.int .i64 D1.1) (.int .i64 D1.2.1) (.int .i64 D1.2.2)).setCell ⟨w.heap.size,0,none⟩ (.int .i64 0)).setCell ⟨w.heap.size,1,none⟩ (.string ⟨#[]⟩)).setCell ⟨w.heap.size,2,none⟩ (.slice none 0 0)).setCell ⟨w.heap.size,3,none⟩ (.slice none 0 0)) (w.heap.size+1) 0 (.int .i64 0)).trans (ak _ (w.heap.size+1) 1 (.int .i64 D1.1)) (fun _ _ h=>h)).trans (ak _ (w.heap.size+1) 2 (.int .i64 D1.2.1)) (fun _ _ h=>h)).trans (ak _ (w.heap.size+1) 3 (.int .i64 D1.2.2)) (fun _ _ h=>h))
  have HXB:=hid (ah rF tB (by omega));have jW:=hid ((aU (b:=w.heap.size+1) rG (.int .i64 0) (.int .i64 D1.1) (.int .i64 D1.2.1) (.int .i64 D1.2.2)));have jI:=hid ((tA.mono (G:=fun k=>k=w.heap.size∨k=w.heap.size+1) (fun _ _ h=> .inl h)).trans tB (fun _ _ h=> .inr h));have pE:Hid ((((((dh w1 (w.heap.size+1) (.int .i64 0) (.int .i64 D1.1) (.int .i64 D1.2.1) (.int .i64 D1.2.2)).setCell ⟨w.heap.size,0,none⟩ (.int .i64 0)).setCell ⟨w.heap.size,1,none⟩ (.string ⟨#[]⟩)).setCell ⟨w.heap.size,2,none⟩ (.slice none 0 0)).setCell ⟨w.heap.size,3,none⟩ (.slice none 0 0)).drew.heap[w.heap.size]? =some (.cells #[.int .i64 0, .string ⟨#[]⟩, .slice none 0 0, .slice none 0 0] 57 (0,0))∧(((((dh w1 (w.heap.size+1) (.int .i64 0) (.int .i64 D1.1) (.int .i64 D1.2.1) (.int .i64 D1.2.2)).setCell ⟨w.heap.size,0,none⟩ (.int .i64 0)).setCell ⟨w.heap.size,1,none⟩ (.string ⟨#[]⟩)).setCell ⟨w.heap.size,2,none⟩ (.slice none 0 0)).setCell ⟨w.heap.size,3,none⟩ (.slice none 0 0)).drew.heap[w.heap.size+1]? =some (.cells #[.int .i64 0, .int .i64 D1.1, .int .i64 D1.2.1, .int .i64 D1.2.2] 45 (0,0))):=hid ⟨by rw [l9];exact rF,by rw [l9];exact rG⟩;clear tA rF rG tB;go_wp2_with fail;refine bO (S:=fun w'=>w'.heap[w.heap.size]? =some (.cells #[.int .i64 0, .string ⟨#[]⟩, .slice none 0 0, .slice none 0 0] 57 (0,0))∧w'.heap[w.heap.size+1]? =some (.cells #[.int .i64 0, .int .i64 D1.1, .int .i64 D1.2.1, .int .i64 D1.2.2] 45 (0,0))) (x:=3) (by kernel_rfl) ?_
  try simp only [Act.put,sq]
  refine jq 0 (.agg #[.int .i64 0, .string ⟨#[]⟩, .slice none 0 0, .slice none 0 0]) PX.out fT.out (hQ:=fun c a w h=>kR rfl (by decide) (by decide) c a w h) ?_;refine jq 1 (.agg #[.int .i64 0, .int .i64 D1.1, .int .i64 D1.2.1, .int .i64 D1.2.2]) PD.out fT.out (hQ:=fun c a w h=>kR rfl (by decide) (by decide) c a w h) ?_;refine ay (rs:=[2]) (by kernel_rfl) (by simp) ?_;refine av.cons rfl (fun K hK=> ?_) (av.nil);go_simp;refine hK.out _ _ pE.out ?_;clear hK K
  try simp only [Act.put,sq]
  refine ay (rs:=[3]) (by kernel_rfl) (by simp) ?_;refine av.past rfl (by kernel_rfl) (fun K hK=> ?_) (av.nil);go_simp;refine hK.out _ _ ?_;clear hK K
  try simp only [Act.put,sq]
  refine aM (by kernel_rfl) ?_ _;go_wp2_with fail;have xq:=((HB1.out.trans (HT1.out.below (B:=w.heap.size) (by omega) (fun k hk e=>by omega))).trans (jI.out.below (B:=w.heap.size) (by rw [hsp];omega) (fun k hk e=>by omega))).trans ((hdr (fun _=>False) _).below (by have:=jI.out.size;rw [hsp]at this;omega) (fun _ _=>id));exact⟨_,cB rfl rfl rfl (by rw [l9];exact HXB.out) (by rw [l9];exact jW.out) Tryz.underlying57 rfl (by kernel_rfl) Tryz.underlying45 rfl (by kernel_rfl),xq, _,rfl, .mk (dB.nil _ _ _) (dB.nil _ _ _) .nil⟩
theorem ES (w:World) (s:Bt) (hX:jS w):Calls Tryz.prog 24 #[sv s] w fun e w'=>Below w.heap.size w w'∧∃z:List Value,e= .returned (.tuple #[.agg z.toArray,pR (bS (bR 100).typ s).2])∧jR w' (fun j=>w.heap.size≤j) z (o9 (bR 100).typ s mR):=by
 obtain⟨W0,hW0⟩:∃W0,((w.alloc (.cells #[.int .i64 0, .string ⟨#[]⟩, .slice none 0 0, .slice none 0 0] 57)).alloc (.cells #[.int .i64 0, .int .i64 0, .int .i64 0, .int .i64 0] 45))=W0:=⟨_,rfl⟩
 obtain⟨tw, _,hx0,hd0⟩:=gG (G:=fun _=>False) (Turn.refl _ ((w.alloc (.cells #[.int .i64 0, .string ⟨#[]⟩, .slice none 0 0, .slice none 0 0] 57)).alloc (.cells #[.int .i64 0, .int .i64 0, .int .i64 0, .int .i64 0] 45)));have hs0:W0.heap.size=w.heap.size+2:=by rw [←hW0];simp
 have hb0:Below w.heap.size w W0:=by rw [←hW0];exact new2 _ _ _
 rw [hW0]at tw hx0 hd0;have HX0:=hid (hx0 id);have HD0:=hid (hd0 id);have HB0:=hid hb0;have HA:=hid (QE W0 s (hX.below hb0));have HW0:=hid hW0;obtain⟨Dg,qU⟩:∃Dg,(bS (bR 100).typ s).2=Dg:=⟨_,rfl⟩
 obtain⟨V,hV⟩:∃V,o9 (bR 100).typ s mR=V:=⟨_,rfl⟩
 rw [qU,hV]at HA;rw [qU,hV];clear hX tw hx0 hd0 hb0 hW0 qU hV;go_enter Tryz.func24,Tryz.ntmps24;go_wp2_with fail;rw [HW0.out];refine(HA.out).mono ?_;rintro e w1 ⟨hb1,z0,rfl,hz0⟩;have hzc:=hz0;obtain⟨k4,s4,A1,n1',c1,A2,n2,c2,rfl⟩:=hzc.shape';have hs1:=hb1.size;have hx1:=(hb1.block (w.heap.size) (by omega)).trans HX0.out;have hd1:=(hb1.block (w.heap.size+1) (by omega)).trans HD0.out;have tA:Turn (fun k=>k=w.heap.size) w1 ((((w1.setCell ⟨w.heap.size,0,none⟩ (.int .i64 k4)).setCell ⟨w.heap.size,1,none⟩ (sv s4)).setCell ⟨w.heap.size,2,none⟩ (.slice A1 n1' c1)).setCell ⟨w.heap.size,3,none⟩ (.slice A2 n2 c2)):=((((ak w1 (w.heap.size) 0 (.int .i64 k4)).trans (ak _ (w.heap.size) 1 (sv s4)) (fun _ _ h=>h)).trans (ak _ (w.heap.size) 2 (.slice A1 n1' c1)) (fun _ _ h=>h)).trans (ak _ (w.heap.size) 3 (.slice A2 n2 c2)) (fun _ _ h=>h))
 have rF:=(aU (b:=w.heap.size) hx1 (.int .i64 k4) (sv s4) (.slice A1 n1' c1) (.slice A2 n2 c2))
 have rG:=ah hd1 tA (by omega);have tB:=((((ak ((((w1.setCell ⟨w.heap.size,0,none⟩ (.int .i64 k4)).setCell ⟨w.heap.size,1,none⟩ (sv s4)).setCell ⟨w.heap.size,2,none⟩ (.slice A1 n1' c1)).setCell ⟨w.heap.size,3,none⟩ (.slice A2 n2 c2)) (w.heap.size+1) 0 (.int .i64 0)).trans (ak _ (w.heap.size+1) 1 (.int .i64 Dg.1)) (fun _ _ h=>h)).trans (ak _ (w.heap.size+1) 2 (.int .i64 Dg.2.1)) (fun _ _ h=>h)).trans (ak _ (w.heap.size+1) 3 (.int .i64 Dg.2.2)) (fun _ _ h=>h))
 have HXB:=hid (ah rF tB (by omega));have jW:=hid ((aU (b:=w.heap.size+1) rG (.int .i64 0) (.int .i64 Dg.1) (.int .i64 Dg.2.1) (.int .i64 Dg.2.2)));have jI:=hid ((tA.mono (G:=fun k=>k=w.heap.size∨k=w.heap.size+1) (fun _ _ h=> .inl h)).trans tB (fun _ _ h=> .inr h));have HZ:=hid hz0;have HB1:=hid (HB0.out.trans (hb1.mono (by omega)));have u0:w1.cell? ⟨w.heap.size,0,none⟩=some (.int .i64 0):=(cell_of_row _ _ 0 _ _ _ hx1).trans rfl;have u1:w1.cell? ⟨w.heap.size,1,none⟩=some (.string ⟨#[]⟩):=(cell_of_row _ _ 1 _ _ _ hx1).trans rfl;have u2:w1.cell? ⟨w.heap.size,2,none⟩=some (.slice none 0 0):=(cell_of_row _ _ 2 _ _ _ hx1).trans rfl;have u3:w1.cell? ⟨w.heap.size,3,none⟩=some (.slice none 0 0):=(cell_of_row _ _ 3 _ _ _ hx1).trans rfl;have l0:w1.cell? ⟨w.heap.size+1,0,none⟩=some (.int .i64 0):=(cell_of_row _ _ 0 _ _ _ hd1).trans rfl;have l1:w1.cell? ⟨w.heap.size+1,1,none⟩=some (.int .i64 0):=(cell_of_row _ _ 1 _ _ _ hd1).trans rfl;have l2:w1.cell? ⟨w.heap.size+1,2,none⟩=some (.int .i64 0):=(cell_of_row _ _ 2 _ _ _ hd1).trans rfl;have l3:w1.cell? ⟨w.heap.size+1,3,none⟩=some (.int .i64 0):=(cell_of_row _ _ 3 _ _ _ hd1).trans rfl;have uz:∀i,w1.frozen? ⟨w.heap.size,i,none⟩=false:=fun i=>frozen_of_row _ _ _ _ _ hx1;have lz:∀i,w1.frozen? ⟨w.heap.size+1,i,none⟩=false:=fun i=>frozen_of_row _ _ _ _ _ hd1;clear hb1 hz0 hx1 hd1 tA rF rG tB hzc;go_wp2_with fail;refine bodyPost_ret (cB rfl rfl rfl HXB.out jW.out Tryz.underlying57 rfl (by kernel_rfl) Tryz.underlying45 rfl (by kernel_rfl)) rfl ?_;exact⟨HB1.out.trans (jI.out.below (B:=w.heap.size) (by omega) (fun k hk e=>by omega)), _,rfl,(HZ.out.turn jI.out (fun g _ h e=>by omega)).mono (fun g _ h=>by omega)⟩
theorem zC {s:Bt} (h:32<s.length):dS s=false:=by
 cases s with
 | nil=>simp at h
 | cons c r=>
  show(decide ((c :: r).length≤32) && _ && _ && _)=false;rw [decide_eq_false (by omega)];rfl
theorem zD (w:World) (s:Bt) (hX:jD w) (hs:s.length≤maxLen):Calls Tryz.prog 77 #[sv s] w fun e w'=>e= .returned (.bool (dS s))∧Below w.heap.size w w':=by
 by_cases hl:s.length≤281474976710656
 ·exact Ng w s hX hl
 have hf:=zC (s:=s) (by omega);have hsz:=bP s;have hn:(s==[])=false:=by cases s with | nil=>simp at hl | cons c r=>rfl
 have hne:¬s=[]:=by intro h;rw [h]at hl;simp at hl
 have hg:decide ((s.length:Int)≤32)=false:=by rw [decide_eq_false_iff_not];omega
 rw [hf];unfold maxLen at hs;clear hf hl;go_enter Tryz.func77,Tryz.ntmps77;go_wp2_with fail;go_ret;exact⟨rfl,Below.refl _ _⟩
theorem NR (w:World) (s:Bt) (hX:jD w) (hs:s.length≤maxLen):Calls Tryz.prog 172 #[sv s] w fun e w'=>e= .returned (.bool (!dS s))∧Below w.heap.size w w':=by
 have HN:=hid (zD w s hX hs);generalize dS s=b at*
 go_enter Tryz.func172,Tryz.ntmps172;go_wp2_with fail;refine HN.out.mono ?_;rintro e w2 ⟨rfl,hb⟩;go_wp2_with fail;go_ret;exact⟨rfl,hb⟩
theorem zF {α:Type} {l:List α} {k:Nat} (h:k<l.length):l.take (k+1)=l.take k++[l[k]]:=List.take_succ_eq_append_getElem h
def ac3 (l:List Bt) (w:World) (e:Ending) (w':World):Prop:=(∃k:Int,e= .returned (.int .i64 k)∧(if l.all dS then k= -1 else 0≤k))∧Below w.heap.size w w'
theorem ET (v:Value) (l:List Bt) (w:World) (hv:Ss w w.heap.size v l) (hl:∀y∈l,y.length≤maxLen) (hX:jD w):
  Calls Tryz.prog 159 #[v, .func (.func 172) #[] #[]] w (ac3 l w):=by
 have HV:=hid hv;obtain⟨A,c,rfl⟩:=eO hv (by omega) (m:=l.length) (by rw [eH];omega);obtain⟨_,hn,hc⟩:=eF hv;have HL:=hid hl;have HX:=hid hX;clear hv hl hX;go_enter Tryz.func159,Tryz.ntmps159;go_wp2_with fail;go_loopw [8] (fun v8 wr=>∃k:Nat,v8= .int .i64 k∧k≤l.length∧(l.take k).all dS=true∧Below w.heap.size w wr) (fun v8 _=>l.length - (intOf v8).toNat)
 case atStart=>exact⟨0,rfl,by omega,rfl,Below.refl _ _⟩
 case round=>
  obtain⟨k,rfl,hk,hinv,hbr⟩:=hrel;have HI:=hid hinv;clear hinv;by_cases hlt:k<l.length
  ·have ac4:=hlt;obtain⟨b1,o1,rfl,hb1,hc1⟩:=xK HV.out hlt (by omega);have d1:wr.cell? ⟨b1,o1+k,none⟩=some (sv l[k]):=uY hbr (by have:=hc1 0 (sv l[k]) (by simp [lG,hlt]);simpa using this) hb1;have HN:=hid (NR wr l[k] (HX.out.below hbr) (HL.out _ (List.getElem_mem hlt)));have hst:=zF hlt;have HB:=hid hbr;clear hc1 hb1 hbr;cases hq:dS l[k]with
   | false=>
    have hall:l.all dS=false:=by
     cases h:l.all dS with
     | false=>rfl
     | true=>rw [List.all_eq_true]at h;rw [h _ (List.getElem_mem hlt)]at hq;cases hq
    rw [hq]at HN;have yK:=hid hall;clear hq hst hall;generalize l[k]=X at*
    go_wp2_with fail;refine HN.out.mono ?_;rintro e w2 ⟨rfl,hb⟩;have HB2:=hid (HB.out.trans (hb.mono HB.out.size));clear hb d1;go_wp2_with fail;go_ret;exact⟨⟨k,rfl,by rw [yK.out];simp⟩,HB2.out⟩
   | true=>
    rw [hq]at HN;have HST:Hid ((l.take (k+1)).all dS=true):=hid (by rw [hst,List.all_append,HI.out];simp [hq]);clear hq hst;generalize l[k]=X at*
    go_wp2_with fail;refine HN.out.mono ?_;rintro e w2 ⟨rfl,hb⟩;have HB2:=hid (HB.out.trans (hb.mono HB.out.size));clear hb d1;go_wp2_with fail
    go_roundw
    case rel=>exact⟨k+1,rfl,by omega,HST.out,HB2.out⟩
    case measure=>simp [intOf];omega
  ·obtain rfl:k=l.length:=by omega
   rw [List.take_length]at HI;have HB:=hid hbr;clear hbr;go_wp2_with fail;go_ret;exact⟨⟨-1,rfl,by rw [HI.out];simp⟩,HB.out⟩
theorem EU (v:Value) (l:List Bt) (w:World) (hv:Ss w w.heap.size v l) (hl:∀y∈l,y.length≤maxLen) (hX:jD w):
  Calls Tryz.prog 171 #[v, .func (.func 172) #[] #[]] w fun e w'=>e= .returned (.bool (!l.all dS))∧Below w.heap.size w w':=by
 have HI:=hid (ET v l w hv hl hX);obtain⟨A,n,c,rfl⟩:=gM hv;clear hv hl hX;cases hb:l.all dS
 all_goals
  go_enter Tryz.func171,Tryz.ntmps171;go_wp2_with fail;refine HI.out.mono ?_;rintro e w2 ⟨⟨k,rfl,hk⟩,hbel⟩;rw [hb]at hk;simp only [Bool.false_eq_true,if_false,if_true]at hk;have HB:=hid hbel;clear hbel hb HI
 ·have hg:decide (0≤k)=true:=by simpa using hk
  go_wp2_with fail;go_ret;exact⟨rfl,HB.out⟩
 ·subst hk;go_wp2_with fail;go_ret;exact⟨rfl,HB.out⟩
theorem zG (v:Value) (l:List Bt) (w:World) (hv:Ss w w.heap.size v l) (hl:∀y∈l,y.length≤maxLen) (hX:jD w):
  Calls Tryz.prog 117 #[v] w fun e w'=>e= .returned (.bool (l.all dS))∧Below w.heap.size w w':=by
 have HC:=hid (EU v l w hv hl hX);obtain⟨A,n,c,rfl⟩:=gM hv;clear hv hl hX;generalize l.all dS=b at*
 go_enter Tryz.func117,Tryz.ntmps117;go_wp2_with fail;refine HC.out.mono ?_;rintro e w2 ⟨rfl,hb⟩;go_wp2_with fail;go_ret;cases b <;> exact⟨rfl,hb⟩
def Vh (m:Nat):Prop:=∀(w:World) (z:List Value) (t:bT),sQ w w.heap.size z t→QY t→jD w→
 Calls Tryz.prog 59 #[.agg z.toArray, .int .i64 m] w fun e w'=>e= .returned (.bool (bf m t))∧Below w.heap.size w w'
theorem EW (m:Nat) (hm:m≤40) (ih:Vh m) (w:World) (z:List Value) (t:bT) (hr:sQ w w.heap.size z t) (hok:QY t) (hX:jD w) (p:Nat) (hp:w.cell? ⟨p,0,none⟩=some (.int .i64 ((m:Int)+1))):
  Calls Tryz.prog 122 #[.agg z.toArray, .pointer (some ⟨p,0,none⟩)] w fun e w'=>e= .returned (.bool (!bf m t))∧Below w.heap.size w w':=by
 have hr0:=hr;obtain⟨k,s,A1,n1,c1,A2,n2,c2,rfl⟩:=hr.shape;have hb1:Below w.heap.size w (w.alloc (.cells #[.int .i64 k, .string s, .slice A1 n1 c1, .slice A2 n2 c2] 57)):=(Below.refl _ _).alloc (Nat.le_refl _) _;have HI:=hid (ih _ _ t (hr0.far (Nat.le_refl _) hb1) hok (hX.below hb1));have HB:=hid hb1;have hpl:p<w.heap.size:=World.block_lt_of_cell? w _ hp;clear hr hr0 hX hb1 hok ih;generalize bf m t=b at*
 go_enter Tryz.func122,Tryz.ntmps122;go_wp2_with fail;refine HI.out.mono ?_;rintro e w2 ⟨rfl,hb⟩;go_wp2_with fail;go_ret;exact⟨rfl,HB.out.trans (hb.mono HB.out.size)⟩
def Y5 (m:Nat) (l:List bT) (w:World) (e:Ending) (w':World):Prop:=(∃k:Int,e= .returned (.int .i64 k)∧(if l.all (bf m)then k= -1 else 0≤k))∧Below w.heap.size w w'
theorem xE (m:Nat) (hm:m≤40) (ih:Vh m) (v:Value) (l:List bT) (xs:List Value) (w:World) (hv:Sl w w.heap.size 4 v xs) (hr:iP w w.heap.size xs l) (hl:∀y∈l,QY y) (hX:jD w) (p:Nat) (hp:w.cell? ⟨p,0,none⟩=some (.int .i64 ((m:Int)+1))):
  Calls Tryz.prog 176 #[v, .func (.func 122) #[] #[.pointer (some ⟨p,0,none⟩)]] w (Y5 m l w):=by
 have HV:=hid hv;obtain⟨A,c,rfl⟩:=eO hv (by omega) (m:=l.length) hr.length;obtain⟨_,hn,hc⟩:=eF hv;have HL:=hid hl;have HX:=hid hX;have HR:=hid hr;have HP:=hid hp;have QF:=hid ih;have hpl:=World.block_lt_of_cell? w _ hp;have HPL:=hid hpl;clear hv hl hX hr hp ih hpl;go_enter Tryz.func176,Tryz.ntmps176;go_wp2_with fail;go_loopw [8] (fun v8 wr=>∃k:Nat,v8= .int .i64 k∧k≤l.length∧(l.take k).all (bf m)=true∧Below w.heap.size w wr) (fun v8 _=>l.length - (intOf v8).toNat)
 case atStart=>exact⟨0,rfl,by omega,rfl,Below.refl _ _⟩
 case round=>
  obtain⟨k,rfl,hk,hinv,hbr⟩:=hrel;have HI:=hid hinv;clear hinv;by_cases hlt:k<l.length
  ·have ac4:=hlt;obtain⟨b1,o1,rfl,hb1,hc1⟩:=xK HV.out hlt (by omega);have hr1:=HR.out.at k hlt;obtain⟨kk,s,A1,n1,c1,A2,n2,c2,hv1⟩:=hr1.shape;rw [hv1]at hr1;have d0:wr.cell? ⟨b1,o1+k*4,none⟩=some (.int .i64 kk):=uY hbr (by have:=hc1 0 _ (iZ hv1 (by omega:0<4));simpa using this) hb1;have d1:wr.cell? ⟨b1,o1+k*4+1,none⟩=some (.string s):=uY hbr (by have:=hc1 1 _ (iZ hv1 (by omega:1<4));simpa [Nat.add_assoc]using this) hb1;have d2:wr.cell? ⟨b1,o1+k*4+2,none⟩=some (.slice A1 n1 c1):=uY hbr (by have:=hc1 2 _ (iZ hv1 (by omega:2<4));simpa [Nat.add_assoc]using this) hb1;have d3:wr.cell? ⟨b1,o1+k*4+3,none⟩=some (.slice A2 n2 c2):=uY hbr (by have:=hc1 3 _ (iZ hv1 (by omega:3<4));simpa [Nat.add_assoc]using this) hb1;have HN:=hid (EW m hm QF.out wr _ l[k] (hr1.far (Nat.le_refl _) hbr) (HL.out _ (List.getElem_mem hlt)) (HX.out.below hbr) p (uY hbr HP.out HPL.out));have hst:=zF hlt;have HB:=hid hbr;clear hc1 hb1 hbr hv1 hr1;cases hq:bf m l[k]with
   | false=>
    have hall:l.all (bf m)=false:=by
     cases h:l.all (bf m)with
     | false=>rfl
     | true=>rw [List.all_eq_true]at h;rw [h _ (List.getElem_mem hlt)]at hq;cases hq
    rw [hq]at HN;have yK:=hid hall;clear hq hst hall;generalize l[k]=X at*
    go_wp2_with fail;refine HN.out.mono ?_;rintro e w2 ⟨rfl,hb⟩;have HB2:=hid (HB.out.trans (hb.mono HB.out.size));clear hb d0 d1 d2 d3;go_wp2_with fail;go_ret;exact⟨⟨k,rfl,by rw [yK.out];simp⟩,HB2.out⟩
   | true=>
    rw [hq]at HN;have HST:Hid ((l.take (k+1)).all (bf m)=true):=hid (by rw [hst,List.all_append,HI.out];simp [hq]);clear hq hst;generalize l[k]=X at*
    go_wp2_with fail;refine HN.out.mono ?_;rintro e w2 ⟨rfl,hb⟩;have HB2:=hid (HB.out.trans (hb.mono HB.out.size));clear hb d0 d1 d2 d3;go_wp2_with fail
    go_roundw
    case rel=>exact⟨k+1,rfl,by omega,HST.out,HB2.out⟩
    case measure=>simp [intOf];omega
  ·obtain rfl:k=l.length:=by omega
   rw [List.take_length]at HI;have HB:=hid hbr;clear hbr;go_wp2_with fail;go_ret;exact⟨⟨-1,rfl,by rw [HI.out];simp⟩,HB.out⟩
theorem sO (m:Nat) (hm:m≤40) (ih:Vh m) (v:Value) (l:List bT) (xs:List Value) (w:World) (hv:Sl w w.heap.size 4 v xs) (hr:iP w w.heap.size xs l) (hl:∀y∈l,QY y) (hX:jD w) (p:Nat) (hp:w.cell? ⟨p,0,none⟩=some (.int .i64 ((m:Int)+1))):
  Calls Tryz.prog 121 #[v, .func (.func 122) #[] #[.pointer (some ⟨p,0,none⟩)]] w fun e w'=>e= .returned (.bool (!l.all (bf m)))∧Below w.heap.size w w':=by
 have HI:=hid (xE m hm ih v l xs w hv hr hl hX p hp);obtain⟨A,n,c,rfl⟩:=gM hv;clear hv hl hX hr hp ih;cases hb:l.all (bf m)
 all_goals
  go_enter Tryz.func121,Tryz.ntmps121;go_wp2_with fail;refine HI.out.mono ?_;rintro e w2 ⟨⟨k,rfl,hk⟩,hbel⟩;rw [hb]at hk;simp only [Bool.false_eq_true,if_false,if_true]at hk;have HB:=hid hbel;clear hbel hb HI
 ·have hg:decide (0≤k)=true:=by simpa using hk
  go_wp2_with fail;go_ret;exact⟨rfl,HB.out⟩
 ·subst hk;go_wp2_with fail;go_ret;exact⟨rfl,HB.out⟩
theorem Cz {w:World} {b:Nat} {x0 x1 x2 x3:Value} {T:TypeId} (h:w.heap[b]? =some (.cells #[x0,x1,x2,x3] T (0,0))):
  w.cell? ⟨b,0,none⟩=some x0∧w.cell? ⟨b,1,none⟩=some x1∧w.cell? ⟨b,2,none⟩=some x2∧w.cell? ⟨b,3,none⟩=some x3:=
 ⟨(cell_of_row _ _ _ _ _ _ h).trans rfl,(cell_of_row _ _ _ _ _ _ h).trans rfl,(cell_of_row _ _ _ _ _ _ h).trans rfl,(cell_of_row _ _ _ _ _ _ h).trans rfl⟩
theorem wrap_zero {a b:Nat} (ha:a≤2 ^ 63 - 1) (hb:b≤2 ^ 63 - 1) (h:¬(a=0∧b=0)):(wrap64 ((a:Int)+(b:Int))==0)=false:=by
 rw [beq_eq_false_iff_ne];intro h0;unfold wrap64 at h0;omega
theorem CB:Vh 0:=by
 intro w z t hr hok hX;have hw:bf 0 t=false:=rfl;rw [hw];obtain⟨k,s,A1,n1,c1,A2,n2,c2,rfl⟩:=hr.shape;have hb2:Below w.heap.size w ((w.alloc (.cells #[.int .i64 k, .string s, .slice A1 n1 c1, .slice A2 n2 c2] 57)).alloc (.cells #[.int .i64 0] 3)):=((Below.refl _ _).alloc (Nat.le_refl _) _).alloc (by simp) _;have HB:=hid hb2;clear hr hok hX hb2 hw;go_enter Tryz.func59,Tryz.ntmps59;go_wp2_with fail;go_ret;exact⟨rfl,HB.out⟩
theorem CF (m:Nat) (hm:m≤40) (ih:Vh m):Vh (m+1):=by
 intro w z t hr hok hX;obtain⟨k,nm,ns,ks⟩:=t;rw [QY]at hok;obtain⟨ok1,QG,NS,SC⟩:=hok;obtain⟨A1,c1,A2,c2,xk,rfl,s1,s2,r2⟩:=hr.parts;have l1:=(eF s1).2;have l2:=(eF s2).2;clear hr;have hw:bf (m+1) (.mk k nm ns ks)=(ns.all dS && ks.all (bf m) && fF k nm ns.length ks.length):=rfl;rw [hw];clear hw;have hz1:=heap_alloc_new w (.cells #[.int .i64 k,sv nm, .slice A1 ns.length c1, .slice A2 ks.length c2] 57);obtain⟨W1,hW1⟩:∃W1,W1=w.alloc (.cells #[.int .i64 k,sv nm, .slice A1 ns.length c1, .slice A2 ks.length c2] 57):=⟨_,rfl⟩
 have hb1:Below w.heap.size w W1:=by rw [hW1];exact(Below.refl _ _).alloc (Nat.le_refl _) _
 rw [←hW1]at hz1;have hs1:W1.heap.size=w.heap.size+1:=by rw [hW1];exact Array.size_push _
 have hz2:=heap_alloc_new W1 (.cells #[.int .i64 ((m:Int)+1)] 3);obtain⟨W2,hW2⟩:∃W2,W2=W1.alloc (.cells #[.int .i64 ((m:Int)+1)] 3):=⟨_,rfl⟩
 have EX:Below W1.heap.size W1 W2:=by rw [hW2];exact(Below.refl _ _).alloc (Nat.le_refl _) _
 have hb2:Below w.heap.size w W2:=hb1.trans (EX.mono hb1.size);rw [←hW2,hs1]at hz2;have hz1:=(EX.block _ (block_lt hz1)).trans hz1;have HZ:=hid (And.intro hz1 hz2);have Z0:=hW2;rw [hW1]at Z0;have Bw:=hid Z0;have HB2:=hid hb2;have HN:=hid (zG _ ns W2 (Sl.more (Sl.below s1 hb2) hb2.size) NS (hX.below hb2));rw [Z0]at HN;have HS:=hid (And.intro s2 r2);have Io:=hid (And.intro (Dr.1 SC) QG);have HX:=hid hX;have QF:=hid ih;have OH:∀(fn:Fn) (first cap:Array Value) (w:World),(Instr.makeFunc fn first cap).run Tryz.prog w= .ok (.func fn first cap) w:=fun _ _ _ _=>rfl;have hm0:(((m:Int)+1)==0)=false:=by rw [beq_eq_false_iff_ne];omega
 have hm1:(((m+1:Nat):Int)==0)=false:=by rw [beq_eq_false_iff_ne];omega
 clear s1 s2 r2 ok1 QG NS SC hX ih hz1 hz2 hb1 EX hb2 hs1 hW1 hW2 Z0;go_enter Tryz.func59,Tryz.ntmps59;go_wp2_with fail;refine HN.out.mono ?_;rintro e w3 ⟨rfl,hb3⟩;rw [←Bw.out]at hb3;have HB3:=hid hb3;clear hb3 HN;cases hns:ns.all dS with
 | false=>
  have BD:=hid hns;clear hns;go_wp2_with fail;go_ret;exact⟨by rw [BD.out];rfl,HB2.out.trans (HB3.out.mono HB2.out.size)⟩
 | true=>
  have BD:=hid hns;clear hns;have Y6:=(HB3.out.block _ (block_lt HZ.out.1)).trans HZ.out.1;obtain⟨g0,g1,g2,g3⟩:=Cz Y6;have Y8:=(HB3.out.block _ (block_lt HZ.out.2)).trans HZ.out.2;have gm:w3.cell? ⟨w.heap.size+1,0,none⟩=some (.int .i64 ((m:Int)+1)):=(cell_of_row _ _ _ _ _ _ Y8).trans rfl;have nV:Below w.heap.size w w3:=HB2.out.trans (HB3.out.mono HB2.out.size);have HC:=hid (sO m hm QF.out _ ks xk w3 (Sl.more (Sl.below HS.out.1 nV) nV.size) ((HS.out.2.keep nV).more nV.size) Io.out.1 (HX.out.below nV) (w.heap.size+1) gm);clear Y6 Y8 nV;go_wp2_with fail;clear hm0 hm1 g0 g1 g2 g3 gm;refine HC.out.mono ?_;rintro e w4 ⟨rfl,hb4⟩;have uM:=hid (HB3.out.trans (hb4.mono HB3.out.size));clear hb4 HC;cases hks:ks.all (bf m)with
  | false=>
   have Af:=hid hks;clear hks;go_wp2_with fail;go_ret;exact⟨by rw [BD.out,Af.out];rfl,HB2.out.trans (uM.out.mono HB2.out.size)⟩
  | true=>
   have Af:=hid hks;clear hks;have Y9:=(uM.out.block _ (block_lt HZ.out.1)).trans HZ.out.1;obtain⟨g0,g1,g2,g3⟩:=Cz Y9;have jY:=hid (HB2.out.trans (uM.out.mono HB2.out.size));have OP:Hid (∀wx:World,Below w.heap.size w wx→Calls Tryz.prog 77 #[sv nm] wx fun e w'=>e= .returned (.bool (dS nm))∧Below wx.heap.size wx w'):=hid (fun wx h=>zD wx nm (HX.out.below h) Io.out.2);have ha:ns.length≤2 ^ 63 - 1:=by omega
   have hb:ks.length≤2 ^ 63 - 1:=by omega
   obtain⟨a,hA⟩:∃a,ns.length=a:=⟨_,rfl⟩
   obtain⟨b,hB⟩:∃b,ks.length=b:=⟨_,rfl⟩
   rw [hA]at g2 ha ⊢;rw [hB]at g3 hb ⊢;have HA:=hid hA;have sV:=hid hB;clear hA hB;clear Y9 l1 l2 OH;by_cases n8:k=8
   ·subst n8;by_cases hz:a=0∧b=0
    ·obtain⟨rfl,rfl⟩:=hz;have HT:Hid (fF 8 nm 0 0=dS nm):=hid (by simp [fF]);go_wp2_with fail
     go_quiet (fail)
     go_wp2_with fail;refine(OP.out _ (jY.out.trans ((aJ w4 _).mono jY.out.size))).mono ?_;rintro e w5 ⟨rfl,hb5⟩;go_wp2_with fail;go_ret;exact⟨by rw [BD.out,Af.out,HA.out,sV.out,HT.out];rfl,(jY.out.trans ((aJ w4 _).mono jY.out.size)).trans (hb5.mono (jY.out.trans ((aJ w4 _).mono jY.out.size)).size)⟩
    ·have hwz:(wrap64 ((a:Int)+(b:Int))==0)=false:=wrap_zero ha hb hz;have HT:Hid (fF 8 nm a b=false):=hid (by simp [fF];omega);clear hz;go_wp2_with fail
     go_quiet (fail)
     go_wp2_with fail;go_ret;exact⟨by rw [BD.out,Af.out,HA.out,sV.out,HT.out];rfl,jY.out.trans ((aJ w4 _).mono jY.out.size)⟩
   have q8:(k==8)=false:=beq_eq_false_iff_ne.mpr n8;by_cases hnm:nm=[]
   ·subst hnm;by_cases hk0:k<0
    ·have g4:decide (k<0)=true:=by simpa using hk0
     have HT:Hid (fF k [] a b=false):=hid (by simp [fF,n8];intro h;omega);clear hk0 n8;go_wp2_with fail
     go_quiet (fail)
     go_wp2_with fail;go_ret;exact⟨by rw [BD.out,Af.out,HA.out,sV.out,HT.out];rfl,jY.out.trans ((aJ w4 _).mono jY.out.size)⟩
    have g4:decide (k<0)=false:=by simpa using hk0
    by_cases NT:7<k
    ·have g5:decide (7<k)=true:=by simpa using NT
     have HT:Hid (fF k [] a b=false):=hid (by simp [fF,n8,NT]);clear hk0 n8 NT;go_wp2_with fail
     go_quiet (fail)
     go_wp2_with fail;go_ret;exact⟨by rw [BD.out,Af.out,HA.out,sV.out,HT.out];rfl,jY.out.trans ((aJ w4 _).mono jY.out.size)⟩
    have g5:decide (7<k)=false:=by simpa using NT
    by_cases n5:k=5
    ·subst n5;clear g4 g5 hk0 NT n8 q8;by_cases hab:a=b
     ·subst hab;have HT:Hid (fF 5 [] a a=true):=hid (by simp [fF]);go_wp2_with fail
      go_quiet (fail)
      go_wp2_with fail;go_ret;exact⟨by rw [BD.out,Af.out,HA.out,sV.out,HT.out];rfl,jY.out.trans ((aJ w4 _).mono jY.out.size)⟩
     ·have hq:((a:Int)==(b:Int))=false:=beq_eq_false_iff_ne.mpr (by omega);have HT:Hid (fF 5 [] a b=false):=hid (by simp [fF,hab]);clear hab;go_wp2_with fail
      go_quiet (fail)
      go_wp2_with fail;go_ret;exact⟨by rw [BD.out,Af.out,HA.out,sV.out,HT.out];rfl,jY.out.trans ((aJ w4 _).mono jY.out.size)⟩
    by_cases n6:k=6
    ·subst n6;clear g4 g5 hk0 NT n8 q8 n5;by_cases ha0:a=0
     ·subst ha0;by_cases hb2:b=2
      ·subst hb2;have HT:Hid (fF 6 [] 0 2=true):=hid (by simp [fF]);go_wp2_with fail
       go_quiet (fail)
       go_wp2_with fail;go_ret;exact⟨by rw [BD.out,Af.out,HA.out,sV.out,HT.out];rfl,jY.out.trans ((aJ w4 _).mono jY.out.size)⟩
      ·have hq:((b:Int)==2)=false:=beq_eq_false_iff_ne.mpr (by omega);have HT:Hid (fF 6 [] 0 b=false):=hid (by simp [fF,hb2]);clear hb2;go_wp2_with fail
       go_quiet (fail)
       go_wp2_with fail;go_ret;exact⟨by rw [BD.out,Af.out,HA.out,sV.out,HT.out];rfl,jY.out.trans ((aJ w4 _).mono jY.out.size)⟩
     ·have hq:((a:Int)==0)=false:=beq_eq_false_iff_ne.mpr (by omega);have HT:Hid (fF 6 [] a b=false):=hid (by simp [fF,ha0]);clear ha0;go_wp2_with fail
      go_quiet (fail)
      go_wp2_with fail;go_ret;exact⟨by rw [BD.out,Af.out,HA.out,sV.out,HT.out];rfl,jY.out.trans ((aJ w4 _).mono jY.out.size)⟩
    by_cases n7:k=7
    ·subst n7;clear g4 g5 hk0 NT n8 q8 n5 n6;by_cases ha0:a=0
     ·subst ha0;by_cases hb2:2≤b
      ·have hq:decide ((2:Int)≤(b:Int))=true:=by simp;omega
       have HT:Hid (fF 7 [] 0 b=true):=hid (by simp [fF,hb2]);clear hb2;go_wp2_with fail
       go_quiet (fail)
       go_wp2_with fail;go_ret;exact⟨by rw [BD.out,Af.out,HA.out,sV.out,HT.out];rfl,jY.out.trans ((aJ w4 _).mono jY.out.size)⟩
      ·have hq:decide ((2:Int)≤(b:Int))=false:=by simp;omega
       have HT:Hid (fF 7 [] 0 b=false):=hid (by simp [fF,hb2]);clear hb2;go_wp2_with fail
       go_quiet (fail)
       go_wp2_with fail;go_ret;exact⟨by rw [BD.out,Af.out,HA.out,sV.out,HT.out];rfl,jY.out.trans ((aJ w4 _).mono jY.out.size)⟩
     ·have hq:((a:Int)==0)=false:=beq_eq_false_iff_ne.mpr (by omega);have HT:Hid (fF 7 [] a b=false):=hid (by simp [fF,ha0]);clear ha0;go_wp2_with fail
      go_quiet (fail)
      go_wp2_with fail;go_ret;exact⟨by rw [BD.out,Af.out,HA.out,sV.out,HT.out];rfl,jY.out.trans ((aJ w4 _).mono jY.out.size)⟩
    have q5:(k==5)=false:=beq_eq_false_iff_ne.mpr n5;have q6:(k==6)=false:=beq_eq_false_iff_ne.mpr n6;have q7:(k==7)=false:=beq_eq_false_iff_ne.mpr n7;by_cases hz:a=0∧b=0
    ·obtain⟨rfl,rfl⟩:=hz;have HT:Hid (fF k [] 0 0=true):=hid (by simp [fF,n8,n5,n6,n7,hk0,NT]);clear n5 n6 n7 n8 hk0 NT;go_wp2_with fail
     go_quiet (fail)
     go_wp2_with fail;go_ret;exact⟨by rw [BD.out,Af.out,HA.out,sV.out,HT.out];rfl,jY.out.trans ((aJ w4 _).mono jY.out.size)⟩
    ·have hwz:(wrap64 ((a:Int)+(b:Int))==0)=false:=wrap_zero ha hb hz;have HT:Hid (fF k [] a b=false):=hid (by simp [fF,n8,n5,n6,n7,hk0,NT];omega);clear n5 n6 n7 n8 hk0 NT hz;go_wp2_with fail
     go_quiet (fail)
     go_wp2_with fail;go_ret;exact⟨by rw [BD.out,Af.out,HA.out,sV.out,HT.out];rfl,jY.out.trans ((aJ w4 _).mono jY.out.size)⟩
   ·have hq:(nm==[])=false:=by cases nm with | nil=>exact absurd rfl hnm | cons c r=>rfl
    have HT:Hid (fF k nm a b=false):=hid (by simp [fF,n8,hnm]);clear n8;go_wp2_with fail
    go_quiet (fail)
    go_wp2_with fail;go_ret;exact⟨by rw [BD.out,Af.out,HA.out,sV.out,HT.out];rfl,jY.out.trans ((aJ w4 _).mono jY.out.size)⟩
theorem wN:∀m:Nat,m≤41→Vh m
 | 0, _=>CB
 | m+1,h=>CF m (by omega) (wN m (by omega))
def NV:List (UInt8 ×Bt):=[(9,[92,116]),(10,[92,110]),(34,[92,34]),(92,[92,92])]
def ac5:Value:= .slice none 0 0
def xG (w:World) (base bs:Nat) (m:List Bt) (l:List (UInt8 ×Bt)):Prop:=
 ∃(cs:Array Value) (tr:Value),w.heap[bs]? =some (.cells cs 295 (0,0))∧cs.size=257∧cs[256]? =some tr∧gI w base 9 tr m∧base≤bs∧tr.ownBlock≠some bs∧
  ∀c:UInt8,(l.lookup c=none→cs[c.toNat]? =some ac5)∧(∀u,l.lookup c=some u→∃g k,cs[c.toNat]? =some (.slice (some ⟨g,0,none⟩) u.length k)∧base≤g∧g<w.heap.size∧g≠bs∧tr.ownBlock≠some g∧∀(j:Nat) (hj:j<u.length),w.cell? ⟨g,j,none⟩=some (.int .u8 (u[j].toNat:Int)))
theorem xG.below {w w':World} {base bs:Nat} {m:List Bt} {l:List (UInt8 ×Bt)} (h:xG w base bs m l) (hb:Below w.heap.size w w'):xG w' base bs m l:=by
 obtain⟨cs,tr,h1,h2,h3,h4,h5,h6,h7⟩:=h;refine⟨cs,tr,(hb.block bs (block_lt h1)).trans h1,h2,h3,h4.below hb,h5,h6,fun c=>⟨(h7 c).1,fun u hu=> ?_⟩⟩;obtain⟨g,k,a1,a0,a2,a3,a4,a7⟩:=(h7 c).2 u hu;exact⟨g,k,a1,a0,Nat.lt_of_lt_of_le a2 hb.size,a3,a4,fun j hj=>(hb.cell (p:=⟨g,j,none⟩) a2).trans (a7 j hj)⟩
theorem xG.grow {w w9:World} {base bs:Nat} {m m':List Bt} {l:List (UInt8 ×Bt)} {cs:Array Value} {tr OQ:Value} (h:xG w base bs m l) (hcs:w.heap[bs]? =some (.cells cs 295 (0,0))) (htr:cs[256]? =some tr)
  (hg:w.grownBy w9 tr.ownBlock) (ho:gI w9 base 9 OQ m') (hb:OQ.ownBlock=tr.ownBlock∨OQ.ownBlock=some w.heap.size):xG (w9.setCell ⟨bs,256,none⟩ OQ) base bs m' l:=by
 obtain⟨cs0,tr0,h1,h2,h3,h4,h5,h6,h7⟩:=h;rw [hcs]at h1;simp only [Option.some.injEq,Obj.cells.injEq]at h1;obtain⟨rfl, _⟩:=h1;rw [htr]at h3;injection h3 with h3;subst h3;have hbs:bs<w.heap.size:=block_lt hcs;have qj:w9.heap[bs]? =some (.cells cs 295 (0,0)):=(hg.block bs hbs h6.symm).trans hcs;have hne:OQ.ownBlock≠some bs:=by
  rcases hb with hb | hb
  ·rw [hb];exact h6
  ·rw [hb];intro h;injection h with h;omega
 have ht:=ak w9 bs 256 OQ;refine⟨cs.setIfInBounds 256 OQ,OQ,heap_setCell_same w9 bs 256 _ _ OQ qj,by simp [h2], ?_,ho.turn ht (fun g hg h=>hne (by rw [hg,h])),h5,hne,fun c=> ?_⟩
 ·rw [Array.getElem?_setIfInBounds_self];simp [h2]
 ·have hc:=c.toNat_lt;have hcs':(cs.setIfInBounds 256 OQ)[c.toNat]? =cs[c.toNat]? :=by rw [Array.getElem?_setIfInBounds_ne (by omega)]
  rw [hcs'];refine⟨(h7 c).1,fun u hu=> ?_⟩;obtain⟨g,k,a1,a0,a2,a3,a4,a7⟩:=(h7 c).2 u hu;refine⟨g,k,a1,a0,by simp only [World.size_setCell];exact Nat.lt_of_lt_of_le a2 hg.size,a3, ?_,fun j hj=> ?_⟩
  ·rcases hb with hb | hb
   ·rw [hb];exact a4
   ·rw [hb];intro h;injection h with h;omega
  ·rw [World.cell?_setCell_other _ _ _ _ (by intro h;have:=congrArg Addr.block h;simp at this;omega)];have:w9.cell? ⟨g,j,none⟩=w.cell? ⟨g,j,none⟩:=by simp only [World.cell?,hg.block g a2 a4.symm]
   rw [this];exact a7 j hj
theorem xG.put {w:World} {base bs:Nat} {m:List Bt} {l:List (UInt8 ×Bt)} (h:xG w base bs m l) (c:UInt8) (u:Bt) (hl:l.lookup c=none) {w':World} (hb:Below w.heap.size w w') {k:Nat}
  (hlt:w.heap.size<w'.heap.size) (hc:∀(j:Nat) (hj:j<u.length),w'.cell? ⟨w.heap.size,j,none⟩=some (.int .u8 (u[j].toNat:Int))):
  xG (w'.setCell ⟨bs,c.toNat,none⟩ (.slice (some ⟨w.heap.size,0,none⟩) u.length k)) base bs m (l++[(c,u)]):=by
 have h':=h.below hb;obtain⟨cs0,tr0,g1, _,g3,g4, _, _, _⟩:=h;have hbs:bs<w.heap.size:=block_lt g1;obtain⟨cs,tr,h1,h2,h3,h4,h5,h6,h7⟩:=h';have hsame:some (Obj.cells cs 295 (0,0))=some (Obj.cells cs0 295 (0,0)):=by rw [←h1, ←g1,hb.block bs hbs]
 injection hsame with hsame;injection hsame with hsame;subst hsame;rw [h3]at g3;injection g3 with g3;subst g3;have hcl:=c.toNat_lt;have ht:=ak w' bs c.toNat (.slice (some ⟨w.heap.size,0,none⟩) u.length k);refine⟨cs.setIfInBounds c.toNat (.slice (some ⟨w.heap.size,0,none⟩) u.length k),tr,heap_setCell_same w' bs c.toNat _ _ _ h1,by simp [h2], ?_,h4.turn ht (fun g hg h=>h6 (by rw [hg,h])),h5,h6,fun d=> ?_⟩
 ·rw [Array.getElem?_setIfInBounds_ne (by omega)];exact h3
 ·have hd:=d.toNat_lt;rw [List.lookup_append];by_cases hcd:d=c
  ·subst hcd;rw [hl];have:List.lookup d [(d,u)]=some u:=by simp [List.lookup]
   rw [this];constructor
   ·intro h;simp at h
   intro u' hu';simp at hu';subst hu';refine⟨w.heap.size,k, ?_,by omega,by simp only [World.size_setCell];exact hlt,by omega,fun h=> ?_,fun j hj=> ?_⟩
   ·rw [Array.getElem?_setIfInBounds_self];simp [h2];omega
   ·have:=(g4.lt _ h).2;omega
   ·rw [World.cell?_setCell_other _ _ _ _ (by intro h;have:=congrArg Addr.block h;simp at this;omega)];exact hc j hj
  ·have hdc:(d==c)=false:=by rw [beq_eq_false_iff_ne];exact hcd
   have hno:List.lookup d [(c,u)]=none:=by simp [List.lookup,hdc]
   rw [hno,Option.or_none];have hcs':(cs.setIfInBounds c.toNat (.slice (some ⟨w.heap.size,0,none⟩) u.length k))[d.toNat]? =cs[d.toNat]? :=by
    rw [Array.getElem?_setIfInBounds_ne (by intro h;exact hcd (UInt8.toNat_inj.1 h.symm))]
   rw [hcs'];refine⟨(h7 d).1,fun u' hu'=> ?_⟩;obtain⟨g,k',a1,a0,a2,a3,a4,a7⟩:=(h7 d).2 u' hu';refine⟨g,k',a1,a0,by simp only [World.size_setCell];exact a2,a3,a4,fun j hj=> ?_⟩;rw [World.cell?_setCell_other _ _ _ _ (by intro h;have:=congrArg Addr.block h;simp at this;omega)];exact a7 j hj
theorem vR {w:World} {base:Nat} {e:TypeId} {v:Value} {m:List Bt} (h:gI w base e v m) (hm:0<m.length):∃g c n,v= .slice (some ⟨g,0,none⟩) n c:=by
 obtain⟨g,c,hv, _⟩:=gH h.row hm;exact⟨g,c, _,hv⟩
theorem QH (c:UInt8):(NV.lookup c=none∧Lf c=[c]∧c.toNat≠9∧c.toNat≠10∧c.toNat≠34∧c.toNat≠92)∨(∃a b,NV.lookup c=some [a,b]∧Lf c=[a,b]∧(c=9∨c=10∨c=34∨c=92)):=by
 by_cases h1:c=9
 ·subst h1;exact .inr ⟨92,116,rfl,rfl, .inl rfl⟩
 ·by_cases h2:c=10
  ·subst h2;exact .inr ⟨92,110,rfl,rfl, .inr (.inl rfl)⟩
  ·by_cases h3:c=34
   ·subst h3;exact .inr ⟨92,34,rfl,rfl, .inr (.inr (.inl rfl))⟩
   ·by_cases h4:c=92
    ·subst h4;exact .inr ⟨92,92,rfl,rfl, .inr (.inr (.inr rfl))⟩
    ·have e1:c.toNat≠9:=fun h=>h1 (UInt8.toNat_inj.1 h);have e2:c.toNat≠10:=fun h=>h2 (UInt8.toNat_inj.1 h);have e3:c.toNat≠34:=fun h=>h3 (UInt8.toNat_inj.1 h);have e4:c.toNat≠92:=fun h=>h4 (UInt8.toNat_inj.1 h);refine .inl ⟨?_, ?_,e1,e2,e3,e4⟩
     ·simp [NV,List.lookup,beq_eq_false_iff_ne.2 h1,beq_eq_false_iff_ne.2 h2,beq_eq_false_iff_ne.2 h3,beq_eq_false_iff_ne.2 h4]
     ·unfold Lf;rw [if_neg e4,if_neg e3,if_neg e2,if_neg e1]
def NW (s:Bt):Nat:=(s.map fun c=>if(NV.lookup c).isSome then 1 else 0).sum
theorem BF (c:UInt8) (s:Bt):NW (c :: s)=(if(NV.lookup c).isSome then 1 else 0)+NW s:=rfl
theorem QI (s:Bt):NW s≤s.length:=by
 induction s with
 | nil=>simp [NW]
 | cons c s ih=>rw [BF,List.length_cons];split <;> omega
theorem QJ (s:Bt):(s.flatMap Lf).length=s.length+NW s:=by
 induction s with
 | nil=>rfl
 | cons c s ih=>
  rw [List.flatMap_cons,List.length_append,ih,BF,List.length_cons];rcases QH c with⟨h1,h2, _⟩ | ⟨a,b,h1,h2, _⟩
  ·rw [h1,h2];simp;omega
  ·rw [h1,h2];simp;omega
theorem xG.turn {w w':World} {base bs b:Nat} {m:List Bt} {l:List (UInt8 ×Bt)} (h:xG w base bs m l) (ht:Turn (fun k=>k=b) w w') (hb:b<base):xG w' base bs m l:=by
 obtain⟨cs,tr,h1,h2,h3,h4,h5,h6,h7⟩:=h;refine⟨cs,tr,(ht.block (block_lt h1) (by omega)).trans h1,h2,h3,h4.turn ht (fun g hg h=>by have:=(h4.lt g hg).1;omega),h5,h6,fun c=>⟨(h7 c).1,fun u hu=> ?_⟩⟩;obtain⟨g,k,a1,a0,a2,a3,a4,a7⟩:=(h7 c).2 u hu;refine⟨g,k,a1,a0,Nat.lt_of_lt_of_le a2 ht.size,a3,a4,fun j hj=> ?_⟩;have:w'.cell? ⟨g,j,none⟩=w.cell? ⟨g,j,none⟩:=by simp only [World.cell?,ht.block a2 (show ¬g=b by omega)]
 rw [this];exact a7 j hj
end Go.Proofs.YtfgjkmipfikooaaGreatDoor
