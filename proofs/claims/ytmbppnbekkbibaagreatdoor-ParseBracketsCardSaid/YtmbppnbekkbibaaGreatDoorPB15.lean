/- HJN -/
import Derived.Test.YtmbppnbekkbibaaGreatDoorPB14
set_option linter.unusedSimpArgs false
set_option linter.unusedVariables false
set_option linter.unusedVariables false
namespace Go.Proofs.YtmbppnbekkbibaaGreatDoor
open Go.RowKit
set_option maxRecDepth 100000 in
set_option maxHeartbeats 4000000 in
theorem K6 (p q:Addr) (w:World):
  CallsD Tryz.prog 87 #[.pointer (some p), .pointer (some q)] .returning w fun e u' w'=>e= .returned (.tuple #[])∧u'= .returning∧w'=w:=by
 refine callsD_of_wpS Tryz.func87 rfl fun c₀ cs hu=> ?_
 apply wpS_seq
 apply wpS_region
 simp [wpOpsS,go_sem,recoverD,hu,Tryz.ntmps87,Exit.thenS]
 refine wpS_of_wp ?_
 change Code.wp _ _ _ { tmps:= #[.pointer (some p), .pointer (some q), .nilIface,undef,undef,undef, .nilIface,undef,undef,undef,undef,undef,undef,undef,undef,undef,undef,undef,undef,undef],defers:=[]} w
 go_wp2
 exact⟨rfl, .returning,by rw [←hu], .tuple #[],results_none rfl _ _ _,rfl,rfl,rfl⟩
set_option maxRecDepth 100000 in
set_option maxHeartbeats 4000000 in
theorem zU (pb qb:Nat) (hne:pb≠qb) (g:vQ) (older:List PanicEntry) (w:World) {a0 a1 a2 a3 a4 a5 a6 a7:Value} (hp:w.heap[pb]? =some (.cells #[a0,a1,a2,a3,a4,a5,a6,a7] 49 (0,0))) (hq:w.heap[qb]? =some (.cells #[.int .i64 0, .int .i64 0, .int .i64 0, .int .i64 0] 55 (0,0))):
  CallsD Tryz.prog 87 #[.pointer (some ⟨pb,0,none⟩), .pointer (some ⟨qb,0,none⟩)] (.panicking ({ v:= .iface 135 (tC g),recovered:=false} :: older)) w fun e u' w'=>e= .returned (.tuple #[])∧u'= .panicking ({ v:= .iface 135 (tC g),recovered:=true} :: older)∧
   Turn (fun k=>k=pb∨k=qb) w w'∧w'.heap[pb]? =some (.cells #[.int .i64 0, .string ⟨#[]⟩, .int .i64 0, .int .i64 0, .int .i64 0, .slice none 0 0, .slice none 0 0, .slice none 0 0] 49 (0,0))∧w'.heap[qb]? =some (.cells (MR g) 55 (0,0)):=by
 have YR:∀w:World,(Instr.typeAssert (.iface 135 (tC g)) 20 135 true).run Tryz.prog w= .ok (.tuple #[tC g, .bool true]) w:=fun _=>by kernel_rfl
 have hpl:=block_lt hp
 have YS:=block_lt hq
 have HP:=hid hp
 have HQ:=hid hq
 clear hp hq
 refine callsD_of_wpS Tryz.func87 rfl fun c₀ cs hu=> ?_
 apply wpS_seq
 apply wpS_region
 simp [wpOpsS,go_sem,recoverD,hu,Tryz.ntmps87,Exit.thenS]
 refine wpS_of_wp ?_
 change Code.wp _ _ _ { tmps:= #[.pointer (some ⟨pb,0,none⟩), .pointer (some ⟨qb,0,none⟩), .iface 135 (tC g),undef,undef,undef, .iface 135 (tC g),undef,undef,undef,undef,undef,undef,undef,undef,undef,undef,undef,undef,undef],defers:=[]} w
 obtain⟨W2,hW2⟩:∃W2,(w.alloc (.cells (MR g) 135)).alloc (.cells #[.int .i64 0, .string ⟨#[]⟩, .int .i64 0, .int .i64 0, .int .i64 0, .slice none 0 0, .slice none 0 0, .slice none 0 0] 49)=W2:=⟨_,rfl⟩
 have hs2:W2.heap.size=w.heap.size+2:=by rw [←hW2];simp
 obtain⟨tw, _,hbb,hzb⟩:=fZ (G:=fun _=>False) (Turn.refl _ ((w.alloc (.cells (MR g) 135)).alloc (.cells #[.int .i64 0, .string ⟨#[]⟩, .int .i64 0, .int .i64 0, .int .i64 0, .slice none 0 0, .slice none 0 0, .slice none 0 0] 49)))
 rw [hW2]at tw hbb hzb
 have HW2:=hid hW2
 have hp2:=ah HP.out tw id
 have hq2:=ah HQ.out tw id
 have Cu:=hid hp2
 have jU:=hid hq2
 have Iy:=hid tw
 obtain⟨b0,b1,b2,b3,bz⟩:=bK (hbb id)
 have hz2:=hzb id
 have HZ2:=hid hz2
 clear hW2 tw hbb hzb
 go_wp2_with fail
 rw [HW2.out]
 have HD0:Hid (Turn (fun j=>j=pb∨j=qb) W2 W2.drew):=hid ⟨rfl,rfl,rfl,Nat.le_refl _,fun _ _ _=>rfl⟩
 have PZ:=hid (fun(w':World) (h:Turn (fun j=>j=pb∨j=qb) W2 w')=>(⟨aI ((cell_of_row _ _ 0 _ _ _ hz2).trans rfl) h (by omega),aI ((cell_of_row _ _ 1 _ _ _ hz2).trans rfl) h (by omega),aI ((cell_of_row _ _ 2 _ _ _ hz2).trans rfl) h (by omega),aI ((cell_of_row _ _ 3 _ _ _ hz2).trans rfl) h (by omega),aI ((cell_of_row _ _ 4 _ _ _ hz2).trans rfl) h (by omega),aI ((cell_of_row _ _ 5 _ _ _ hz2).trans rfl) h (by omega),aI ((cell_of_row _ _ 6 _ _ _ hz2).trans rfl) h (by omega),aI ((cell_of_row _ _ 7 _ _ _ hz2).trans rfl) h (by omega)⟩:w'.cell? ⟨w.heap.size+1,0,none⟩=some (.int .i64 0)∧w'.cell? ⟨w.heap.size+1,1,none⟩=some (.string ⟨#[]⟩)∧w'.cell? ⟨w.heap.size+1,2,none⟩=some (.int .i64 0)∧w'.cell? ⟨w.heap.size+1,3,none⟩=some (.int .i64 0)∧w'.cell? ⟨w.heap.size+1,4,none⟩=some (.int .i64 0)∧w'.cell? ⟨w.heap.size+1,5,none⟩=some (.slice none 0 0)∧w'.cell? ⟨w.heap.size+1,6,none⟩=some (.slice none 0 0)∧w'.cell? ⟨w.heap.size+1,7,none⟩=some (.slice none 0 0)))
 have PB:=hid (fun(w':World) (h:Turn (fun j=>j=pb∨j=qb) W2 w')=>(⟨aI b0 h (by omega),aI b1 h (by omega),aI b2 h (by omega),aI b3 h (by omega)⟩:w'.cell? ⟨w.heap.size,0,none⟩=some (.int .i64 0)∧w'.cell? ⟨w.heap.size,1,none⟩=some (.int .i64 (g.1:Nat))∧w'.cell? ⟨w.heap.size,2,none⟩=some (.int .i64 (g.2.1:Nat))∧w'.cell? ⟨w.heap.size,3,none⟩=some (.int .i64 g.2.2)))
 clear hz2 b0 b1 b2 b3 bz
 refine bM (S:=fun w'=>Turn (fun j=>j=pb∨j=qb) W2 w') (x:=4) (by kernel_rfl) ?_
 try simp only [Act.put,List.getElem_toArray,List.getElem_cons_zero,List.getElem_cons_succ,List.setIfInBounds_toArray,List.set_cons_zero,List.set_cons_succ]
 refine jW 0 (.agg #[.int .i64 0, .string ⟨#[]⟩, .int .i64 0, .int .i64 0, .int .i64 0, .slice none 0 0, .slice none 0 0, .slice none 0 0]) PZ.out HD0.out ?_
 refine tx 1 (.pointer (some ⟨w.heap.size,0,none⟩)) HD0.out ?_
 refine jW 2 (tC g) PB.out HD0.out ?_
 have lG:∀X:World,X.drew.heap=X.heap:=fun _=>rfl
 have hdr:∀(G:Nat→Prop) (X:World),Turn G X X.drew:=fun _ _=>⟨rfl,rfl,rfl,Nat.le_refl _,fun _ _ _=>rfl⟩
 have tA:=((((((((ak W2 (pb) 0 (.int .i64 0)).trans (ak _ (pb) 1 (.string ⟨#[]⟩)) (fun _ _ h=>h)).trans (ak _ (pb) 2 (.int .i64 0)) (fun _ _ h=>h)).trans (ak _ (pb) 3 (.int .i64 0)) (fun _ _ h=>h)).trans (ak _ (pb) 4 (.int .i64 0)) (fun _ _ h=>h)).trans (ak _ (pb) 5 (.slice none 0 0)) (fun _ _ h=>h)).trans (ak _ (pb) 6 (.slice none 0 0)) (fun _ _ h=>h)).trans (ak _ (pb) 7 (.slice none 0 0)) (fun _ _ h=>h))
 have NY:((((((((W2.setCell ⟨pb,0,none⟩ (.int .i64 0)).setCell ⟨pb,1,none⟩ (.string ⟨#[]⟩)).setCell ⟨pb,2,none⟩ (.int .i64 0)).setCell ⟨pb,3,none⟩ (.int .i64 0)).setCell ⟨pb,4,none⟩ (.int .i64 0)).setCell ⟨pb,5,none⟩ (.slice none 0 0)).setCell ⟨pb,6,none⟩ (.slice none 0 0)).setCell ⟨pb,7,none⟩ (.slice none 0 0)).heap[pb]? =some (.cells #[.int .i64 0, .string ⟨#[]⟩, .int .i64 0, .int .i64 0, .int .i64 0, .slice none 0 0, .slice none 0 0, .slice none 0 0] 49 (0,0)):=(aP (b:=pb) Cu.out (.int .i64 0) (.string ⟨#[]⟩) (.int .i64 0) (.int .i64 0) (.int .i64 0) (.slice none 0 0) (.slice none 0 0) (.slice none 0 0))
 have NZ:=ah jU.out tA (fun e=>hne e.symm)
 have EU:=hid (tA.mono (G:=fun k=>k=pb∨k=qb) (fun _ _ h=> .inl h))
 have om:=hid (EU.out.trans (hdr (fun k=>k=pb∨k=qb) _) (fun _ _ h=>h))
 have Tp:=hid NY
 have Jh:=hid NZ
 have p0:W2.cell? ⟨pb,0,none⟩=some a0:=(cell_of_row _ _ 0 _ _ _ hp2).trans rfl
 have p1:W2.cell? ⟨pb,1,none⟩=some a1:=(cell_of_row _ _ 1 _ _ _ hp2).trans rfl
 have p2:W2.cell? ⟨pb,2,none⟩=some a2:=(cell_of_row _ _ 2 _ _ _ hp2).trans rfl
 have p3:W2.cell? ⟨pb,3,none⟩=some a3:=(cell_of_row _ _ 3 _ _ _ hp2).trans rfl
 have p4:W2.cell? ⟨pb,4,none⟩=some a4:=(cell_of_row _ _ 4 _ _ _ hp2).trans rfl
 have p5:W2.cell? ⟨pb,5,none⟩=some a5:=(cell_of_row _ _ 5 _ _ _ hp2).trans rfl
 have p6:W2.cell? ⟨pb,6,none⟩=some a6:=(cell_of_row _ _ 6 _ _ _ hp2).trans rfl
 have p7:W2.cell? ⟨pb,7,none⟩=some a7:=(cell_of_row _ _ 7 _ _ _ hp2).trans rfl
 have pz:∀i,W2.frozen? ⟨pb,i,none⟩=false:=fun i=>frozen_of_row _ _ _ _ _ hp2
 have q0:W2.cell? ⟨qb,0,none⟩=some (.int .i64 0):=(cell_of_row _ _ 0 _ _ _ hq2).trans rfl
 have q1:W2.cell? ⟨qb,1,none⟩=some (.int .i64 0):=(cell_of_row _ _ 1 _ _ _ hq2).trans rfl
 have q2:W2.cell? ⟨qb,2,none⟩=some (.int .i64 0):=(cell_of_row _ _ 2 _ _ _ hq2).trans rfl
 have q3:W2.cell? ⟨qb,3,none⟩=some (.int .i64 0):=(cell_of_row _ _ 3 _ _ _ hq2).trans rfl
 have qz:∀i,W2.frozen? ⟨qb,i,none⟩=false:=fun i=>frozen_of_row _ _ _ _ _ hq2
 have hne':¬qb=pb:=fun e=>hne e.symm
 clear tA NY NZ hp2 hq2
 refine ay (rs:=[3]) (by kernel_rfl) (by simp) ?_
 refine av.cons rfl (fun K hK=> ?_) (av.nil)
 go_simp
 refine hK.out _ _ om.out ?_
 clear hK K
 try simp only [Act.put,List.getElem_toArray,List.getElem_cons_zero,List.getElem_cons_succ,List.setIfInBounds_toArray,List.set_cons_zero,List.set_cons_succ]
 refine ay (rs:=[4]) (by kernel_rfl) (by simp) ?_
 refine av.past rfl (by kernel_rfl) (fun K hK=> ?_) (av.nil)
 go_simp
 refine hK.out _ _ ?_
 clear hK K
 try simp only [Act.put,List.getElem_toArray,List.getElem_cons_zero,List.getElem_cons_succ,List.setIfInBounds_toArray,List.set_cons_zero,List.set_cons_succ]
 refine aO (by kernel_rfl) ?_ _
 go_wp2_with fail
 have tB:=((((ak ((((((((W2.setCell ⟨pb,0,none⟩ (.int .i64 0)).setCell ⟨pb,1,none⟩ (.string ⟨#[]⟩)).setCell ⟨pb,2,none⟩ (.int .i64 0)).setCell ⟨pb,3,none⟩ (.int .i64 0)).setCell ⟨pb,4,none⟩ (.int .i64 0)).setCell ⟨pb,5,none⟩ (.slice none 0 0)).setCell ⟨pb,6,none⟩ (.slice none 0 0)).setCell ⟨pb,7,none⟩ (.slice none 0 0)) (qb) 0 (.int .i64 0)).trans (ak _ (qb) 1 (.int .i64 (g.1:Nat))) (fun _ _ h=>h)).trans (ak _ (qb) 2 (.int .i64 (g.2.1:Nat))) (fun _ _ h=>h)).trans (ak _ (qb) 3 (.int .i64 g.2.2)) (fun _ _ h=>h))
 have h1:=(Iy.out.mono (G:=fun k=>k=pb∨k=qb) (fun _ _ h=>h.elim)).trans ((EU.out.trans tB (fun _ _ h=> .inr h)).trans (hdr (fun k=>k=pb∨k=qb) _) (fun _ _ h=>h)) (fun _ _ h=>h)
 have h2:=ah Tp.out tB hne
 have h3:=(aV (b:=qb) Jh.out (.int .i64 0) (.int .i64 (g.1:Nat)) (.int .i64 (g.2.1:Nat)) (.int .i64 g.2.2))
 refine⟨rfl, _,rfl, .tuple #[],results_none rfl _ _ _,rfl,rfl,h1, ?_, ?_⟩
 ·rw [lG];exact h2
 ·rw [lG];exact h3
set_option maxRecDepth 100000 in
set_option maxHeartbeats 8000000 in
theorem MU (w:World) (s:Bt) (hX:jH w):Calls Tryz.prog 48 #[sv s, .func (.func 49) #[] #[]] w fun e w'=>Below w.heap.size w w'∧∃z:List Value,e= .returned (.tuple #[.agg z.toArray,tC (aZ (bg 100).expr s).2])∧jG w' (fun j=>w.heap.size≤j) z (pq (bg 100).expr s pE):=by
 have LZ:∀(fn:Fn) (first cap:Array Value) (w:World),(Instr.makeFunc fn first cap).run Tryz.prog w= .ok (.func fn first cap) w:=fun _ _ _ _=>rfl
 have hent:∀w:World,(callFunc 49 #[]).run Tryz.prog w= .ok (.enter 49 #[]) w:=fun _=>by kernel_rfl
 have lG:∀X:World,X.drew.heap=X.heap:=fun _=>rfl
 have hdr:∀(G:Nat→Prop) (X:World),Turn G X X.drew:=fun _ _=>⟨rfl,rfl,rfl,Nat.le_refl _,fun _ _ _=>rfl⟩
 obtain⟨W0,hW0⟩:∃W0,((w.alloc (.cells #[.int .i64 0, .string ⟨#[]⟩, .int .i64 0, .int .i64 0, .int .i64 0, .slice none 0 0, .slice none 0 0, .slice none 0 0] 49)).alloc (.cells #[.int .i64 0, .int .i64 0, .int .i64 0, .int .i64 0] 55))=W0:=⟨_,rfl⟩
 obtain⟨tw, _,hx0,hd0⟩:=fZ (G:=fun _=>False) (Turn.refl _ ((w.alloc (.cells #[.int .i64 0, .string ⟨#[]⟩, .int .i64 0, .int .i64 0, .int .i64 0, .slice none 0 0, .slice none 0 0, .slice none 0 0] 49)).alloc (.cells #[.int .i64 0, .int .i64 0, .int .i64 0, .int .i64 0] 55)))
 have hs0:W0.heap.size=w.heap.size+2:=by rw [←hW0];simp
 have hb0:Below w.heap.size w W0:=by rw [←hW0];exact new2 _ _ _
 rw [hW0]at tw hx0 hd0
 have hx0:=hx0 id
 have hd0:=hd0 id
 have HX0:=hid hx0
 have HD0:=hid hd0
 have HB0:=hid hb0
 have Gl:=hid ((mO.of hX.1).below hb0)
 have HL:=hid (Az W0 s (hX.below hb0))
 have HW0:=hid hW0
 obtain⟨Dg,tH⟩:∃Dg,(aZ (bg 100).expr s).2=Dg:=⟨_,rfl⟩
 obtain⟨V,hV⟩:∃V,pq (bg 100).expr s pE=V:=⟨_,rfl⟩
 rw [tH,hV]
 clear hX tw hx0 hd0 hb0 hW0
 by_cases hE:(dQ s).2.2.2=0
 ·have hz:=pX hE
  obtain⟨T,hT⟩:∃T,dQ s=(T,((0,0,0):Nat ×Nat ×Int)):=⟨(dQ s).1,by rw [←hz]⟩
  obtain⟨htk,hwf⟩:=Bd hE
  rw [hT]at HL htk hwf
  have N7:Hid (aZ (bg 100).expr s=Fx (au (bg 100).expr (fun x=>au (dH 0) fun _=>aG x) T)):=hid (uG hT)
  have KY:=hid tH
  have HV:=hid hV
  have Kh:=hid htk
  have ze:=hid hwf
  clear hE hz hT htk hwf tH hV
  go_enter_defers Tryz.func48,Tryz.ntmps48
  go_wp2_with fail
  rw [HW0.out]
  refine(HL.out).mono ?_
  rintro e w1 ⟨v1,n1,rfl,hown,hb1⟩
  obtain⟨yA,c1',rfl, _, _⟩:=jd hown
  have hs1:=hb1.size
  have hx1:=(hb1.block (w.heap.size) (by omega)).trans HX0.out
  have hd1:=(hb1.block (w.heap.size+1) (by omega)).trans HD0.out
  have HB1:=hid (HB0.out.trans (hb1.mono (by omega)))
  have Dc:=hid (Gl.out.below (hb1.mono (by omega)))
  obtain⟨x0,x1,x2,x3,xz⟩:=bK hd1
  have t1:=dx w1 (w.heap.size+1) (.int .i64 0) (.int .i64 0) (.int .i64 0) (.int .i64 0)
  have qh:=hid (ah hx1 t1 (by omega))
  have HD1:=hid (aV hd1 (.int .i64 0) (.int .i64 0) (.int .i64 0) (.int .i64 0))
  have HT1:=hid t1
  have hsp:(cB w1 (w.heap.size+1) (.int .i64 0) (.int .i64 0) (.int .i64 0) (.int .i64 0)).heap.size=w1.heap.size:=by simp [cB]
  have HOWN:=hid hown
  rw [show xI (0,0,0)= .agg #[.int .i64 0, .int .i64 0, .int .i64 0, .int .i64 0]from rfl]
  obtain⟨W2,hW2⟩:∃W2,(cB w1 (w.heap.size+1) (.int .i64 0) (.int .i64 0) (.int .i64 0) (.int .i64 0)).alloc (.cells #[.slice yA n1 c1', .int .i64 0] 140)=W2:=⟨_,rfl⟩
  have t2:Turn (fun k=>k=w.heap.size+1) w1 W2:=by rw [←hW2];exact t1.trans (Turn.alloc _ _ _) (fun _ _ h=>h)
  have hb2:=yT (cB w1 (w.heap.size+1) (.int .i64 0) (.int .i64 0) (.int .i64 0) (.int .i64 0)) (.cells #[.slice yA n1 c1', .int .i64 0] 140)
  rw [hW2,hsp]at hb2
  have hs2:W2.heap.size=w1.heap.size+1:=by rw [←hW2];simp [cB]
  have Me:=hid (by have:=bB (o':=(.cells #[.slice yA n1 c1', .int .i64 0] 140)) qh.out;rwa [hW2]at this)
  have HD2:=hid (by have:=bB (o':=(.cells #[.slice yA n1 c1', .int .i64 0] 140)) HD1.out;rwa [hW2]at this)
  have hsl:Sl W2 w1.heap.size 4 (.slice yA n1 c1') (dn T):=((dh.own (F:=fun j=>W0.heap.size≤j∧j<w1.heap.size) hown (fun g hg=>hown.lt g hg)).turn t2 (fun g _ h e=>by have:=h.1;omega)).to (fun g _ h=>h.2)
  have htb:xL w1.heap.size W2 (.slice yA n1 c1'):=fun b o n c e=>by
   injection e with e _ _
   subst e
   rcases hown.2 with⟨h, _⟩ | ⟨g,cap,cur,h,hg,N8, _⟩
   ·injection h with h;cases h
   ·injection h with h _ _
    injection h with h
    injection h with h _
    subst h
    exact⟨block_lt N8, _,ah N8 t2 (by omega)⟩
  have Df:=hid (Dc.out.below (t2.below (by omega) (fun k hk e=>by omega)))
  have HK:=hid (show bE W2 w1.heap.size w1.heap.size T 0 from⟨Nat.le_refl _,Kh.out,ze.out, _,hb2,hsl,fun w' hb'=>Df.out w' (fun k hk=>hb' k (by omega)),htb⟩)
  have HT2:=hid (HB1.out.trans (t2.below (B:=w.heap.size) (by omega) (fun k hk e=>by omega)))
  have HR:=hid (CU W2 w1.heap.size w1.heap.size T HK.out)
  have HW2:=hid hW2
  clear hown hb1 hx1 hd1 t1 t2 hb2 hsl hW2 HOWN htb
  go_wp2_with fail
  rw [HW2.out]
  refine(HR.out).mono ?_
  rintro e w3 h3
  rcases hq:(bg 100).expr T with g | ⟨x,r3⟩
  ·obtain⟨rfl,tn,bn⟩:=h3.bF hq
   have vI:Hid (aZ (bg 100).expr s=(none,g)):=hid (by rw [N7.out,aB hq];rfl)
   have KZ:=hid (ah Me.out tn (by omega))
   have K3:=hid (ah HD2.out tn (by omega))
   have Dh:=hid (HT2.out.trans (tn.below (B:=w.heap.size) (by omega) (fun k hk e=>by omega)))
   clear h3 tn bn hq
   go_wp2_with fail
   refine leaves_cons (f:=87) (args:= #[.pointer (some ⟨w.heap.size,0,none⟩), .pointer (some ⟨w.heap.size+1,0,none⟩)]) (by simp) (by simp [go_sem]) ?_
   refine(zU w.heap.size (w.heap.size+1) (by omega) g [] _ KZ.out K3.out).mono ?_
   rintro e u9 w9 ⟨rfl,rfl,t9,p9,q9⟩
   have e1:Dg=g:=by rw [←KY.out,vI.out]
   have e2:V=pE:=by rw [←HV.out];unfold pq;rw [vI.out];rfl
   subst e1 e2
   exact⟨_,cK rfl rfl rfl p9 q9 Tryz.underlying49 rfl (by kernel_rfl) Tryz.underlying55 rfl (by kernel_rfl),Dh.out.trans (t9.below (by have:=Dh.out.size;omega) (fun k hk e=>by omega)), _,rfl, .mk (dh.nil _ _ _) .nil (dh.nil _ _ _) (dh.nil _ _ _) .nil⟩
  ·obtain⟨v3,rfl,tn,⟨z0,rfl,hz0⟩,kn⟩:=h3.aL hq
   have hzc:=hz0
   obtain⟨k4,s4,n4,l4,o4,A1,n1',c1,A2,n2,c2,A3,n3,c3,rfl⟩:=hzc.shape'
   have hs3:=tn.size
   have hx3:=ah Me.out tn (by omega)
   have hd3:=ah HD2.out tn (by omega)
   have t4:Turn (fun k=>k=w.heap.size) w3 ((((((((w3.setCell ⟨w.heap.size,0,none⟩ (.int .i64 k4)).setCell ⟨w.heap.size,1,none⟩ (sv s4)).setCell ⟨w.heap.size,2,none⟩ (.int .i64 n4)).setCell ⟨w.heap.size,3,none⟩ (.int .i64 l4)).setCell ⟨w.heap.size,4,none⟩ (.int .i64 o4)).setCell ⟨w.heap.size,5,none⟩ (.slice A1 n1' c1)).setCell ⟨w.heap.size,6,none⟩ (.slice A2 n2 c2)).setCell ⟨w.heap.size,7,none⟩ (.slice A3 n3 c3)):=((((((((ak w3 (w.heap.size) 0 (.int .i64 k4)).trans (ak _ (w.heap.size) 1 (sv s4)) (fun _ _ h=>h)).trans (ak _ (w.heap.size) 2 (.int .i64 n4)) (fun _ _ h=>h)).trans (ak _ (w.heap.size) 3 (.int .i64 l4)) (fun _ _ h=>h)).trans (ak _ (w.heap.size) 4 (.int .i64 o4)) (fun _ _ h=>h)).trans (ak _ (w.heap.size) 5 (.slice A1 n1' c1)) (fun _ _ h=>h)).trans (ak _ (w.heap.size) 6 (.slice A2 n2 c2)) (fun _ _ h=>h)).trans (ak _ (w.heap.size) 7 (.slice A3 n3 c3)) (fun _ _ h=>h))
   have xW:=hid ((aP (b:=w.heap.size) hx3 (.int .i64 k4) (sv s4) (.int .i64 n4) (.int .i64 l4) (.int .i64 o4) (.slice A1 n1' c1) (.slice A2 n2 c2) (.slice A3 n3 c3)))
   have HD4:=hid (ah hd3 t4 (by omega))
   have K4:=hid ((Df.out.below (tn.below (by omega) (fun k hk e=>by omega))).below (t4.below (by omega) (fun k hk e=>by omega)))
   have jB:=hid (kn.apart t4 (by omega) (fun g e _=>by have e:g=w.heap.size:=e;subst e;exact⟨_, _,hx3,by decide⟩) (fun w' hb'=>K4.out w' (fun k hk=>hb' k (by omega))))
   have fM:=hid (HT2.out.trans ((tn.below (B:=w.heap.size) (by omega) (fun k hk e=>by omega)).trans (t4.below (B:=w.heap.size) (by omega) (fun k hk e=>by omega))))
   have vU:=hid (hz0.turn t4 (fun g _ h e=>by omega))
   have N9:Hid (aZ (bg 100).expr s=Fx (au (dH 0) (fun _=>aG x) r3)):=hid (by rw [N7.out,aj hq])
   have Tq:=hid (mP ((((((((w3.setCell ⟨w.heap.size,0,none⟩ (.int .i64 k4)).setCell ⟨w.heap.size,1,none⟩ (sv s4)).setCell ⟨w.heap.size,2,none⟩ (.int .i64 n4)).setCell ⟨w.heap.size,3,none⟩ (.int .i64 l4)).setCell ⟨w.heap.size,4,none⟩ (.int .i64 o4)).setCell ⟨w.heap.size,5,none⟩ (.slice A1 n1' c1)).setCell ⟨w.heap.size,6,none⟩ (.slice A2 n2 c2)).setCell ⟨w.heap.size,7,none⟩ (.slice A3 n3 c3)) w1.heap.size w1.heap.size r3 0 jB.out 0)
   have u0:w3.cell? ⟨w.heap.size,0,none⟩=some (.int .i64 0):=(cell_of_row _ _ 0 _ _ _ hx3).trans rfl
   have u1:w3.cell? ⟨w.heap.size,1,none⟩=some (.string ⟨#[]⟩):=(cell_of_row _ _ 1 _ _ _ hx3).trans rfl
   have u2:w3.cell? ⟨w.heap.size,2,none⟩=some (.int .i64 0):=(cell_of_row _ _ 2 _ _ _ hx3).trans rfl
   have u3:w3.cell? ⟨w.heap.size,3,none⟩=some (.int .i64 0):=(cell_of_row _ _ 3 _ _ _ hx3).trans rfl
   have u4:w3.cell? ⟨w.heap.size,4,none⟩=some (.int .i64 0):=(cell_of_row _ _ 4 _ _ _ hx3).trans rfl
   have u5:w3.cell? ⟨w.heap.size,5,none⟩=some (.slice none 0 0):=(cell_of_row _ _ 5 _ _ _ hx3).trans rfl
   have u6:w3.cell? ⟨w.heap.size,6,none⟩=some (.slice none 0 0):=(cell_of_row _ _ 6 _ _ _ hx3).trans rfl
   have u7:w3.cell? ⟨w.heap.size,7,none⟩=some (.slice none 0 0):=(cell_of_row _ _ 7 _ _ _ hx3).trans rfl
   have uz:∀i,w3.frozen? ⟨w.heap.size,i,none⟩=false:=fun i=>frozen_of_row _ _ _ _ _ hx3
   clear h3 tn kn hz0 hzc hq hx3 hd3 t4
   go_wp2_with fail
   refine(Tq.out).mono ?_
   rintro e w5 h5
   rcases hq:dH 0 r3 with g | ⟨sx,r5⟩
   ·obtain⟨rfl,tn,bn⟩:=h5.bF hq
    have vI:Hid (aZ (bg 100).expr s=(none,g)):=hid (by rw [N9.out,aB hq];rfl)
    have KZ:=hid (ah xW.out tn (by omega))
    have K3:=hid (ah HD4.out tn (by omega))
    have Dh:=hid (fM.out.trans (tn.below (B:=w.heap.size) (by have:=fM.out.size;omega) (fun k hk e=>by omega)))
    clear h5 tn bn hq
    go_wp2_with fail
    refine leaves_cons (f:=87) (args:= #[.pointer (some ⟨w.heap.size,0,none⟩), .pointer (some ⟨w.heap.size+1,0,none⟩)]) (by simp) (by simp [go_sem]) ?_
    refine(zU w.heap.size (w.heap.size+1) (by omega) g [] _ KZ.out K3.out).mono ?_
    rintro e u9 w9 ⟨rfl,rfl,t9,p9,q9⟩
    have e1:Dg=g:=by rw [←KY.out,vI.out]
    have e2:V=pE:=by rw [←HV.out];unfold pq;rw [vI.out];rfl
    subst e1 e2
    exact⟨_,cK rfl rfl rfl p9 q9 Tryz.underlying49 rfl (by kernel_rfl) Tryz.underlying55 rfl (by kernel_rfl),Dh.out.trans (t9.below (by have:=Dh.out.size;omega) (fun k hk e=>by omega)), _,rfl, .mk (dh.nil _ _ _) .nil (dh.nil _ _ _) (dh.nil _ _ _) .nil⟩
   ·obtain⟨v5,rfl,tn, -,kn⟩:=h5.aL hq
    have vI:Hid (aZ (bg 100).expr s=(some x,(0,0,0))):=hid (by rw [N9.out,aj hq];rfl)
    have wh:=hid (ah xW.out tn (by omega))
    have HD5:=hid (ah HD4.out tn (by omega))
    have fI:=hid (fM.out.trans (tn.below (B:=w.heap.size) (by have:=fM.out.size;omega) (fun k hk e=>by omega)))
    have uW:=hid (vU.out.turn tn (fun g _ h e=>by omega))
    clear h5 tn kn hq uz u0 u1 u2 u3 u4 u5 u6 u7
    have PX:=hid (fun(w':World) (h:w'.heap[w.heap.size]? =some (.cells #[.int .i64 k4,sv s4, .int .i64 n4, .int .i64 l4, .int .i64 o4, .slice A1 n1' c1, .slice A2 n2 c2, .slice A3 n3 c3] 49 (0,0))∧w'.heap[w.heap.size+1]? =some (.cells #[.int .i64 0, .int .i64 0, .int .i64 0, .int .i64 0] 55 (0,0)))=>(⟨(cell_of_row _ _ _ _ _ _ h.1).trans rfl,(cell_of_row _ _ _ _ _ _ h.1).trans rfl,(cell_of_row _ _ _ _ _ _ h.1).trans rfl,(cell_of_row _ _ _ _ _ _ h.1).trans rfl,(cell_of_row _ _ _ _ _ _ h.1).trans rfl,(cell_of_row _ _ _ _ _ _ h.1).trans rfl,(cell_of_row _ _ _ _ _ _ h.1).trans rfl,(cell_of_row _ _ _ _ _ _ h.1).trans rfl⟩:w'.cell? ⟨w.heap.size,0,none⟩=some (.int .i64 k4)∧w'.cell? ⟨w.heap.size,1,none⟩=some (sv s4)∧w'.cell? ⟨w.heap.size,2,none⟩=some (.int .i64 n4)∧w'.cell? ⟨w.heap.size,3,none⟩=some (.int .i64 l4)∧w'.cell? ⟨w.heap.size,4,none⟩=some (.int .i64 o4)∧w'.cell? ⟨w.heap.size,5,none⟩=some (.slice A1 n1' c1)∧w'.cell? ⟨w.heap.size,6,none⟩=some (.slice A2 n2 c2)∧w'.cell? ⟨w.heap.size,7,none⟩=some (.slice A3 n3 c3)))
    have PD:=hid (fun(w':World) (h:w'.heap[w.heap.size]? =some (.cells #[.int .i64 k4,sv s4, .int .i64 n4, .int .i64 l4, .int .i64 o4, .slice A1 n1' c1, .slice A2 n2 c2, .slice A3 n3 c3] 49 (0,0))∧w'.heap[w.heap.size+1]? =some (.cells #[.int .i64 0, .int .i64 0, .int .i64 0, .int .i64 0] 55 (0,0)))=>(⟨(cell_of_row _ _ _ _ _ _ h.2).trans rfl,(cell_of_row _ _ _ _ _ _ h.2).trans rfl,(cell_of_row _ _ _ _ _ _ h.2).trans rfl,(cell_of_row _ _ _ _ _ _ h.2).trans rfl⟩:w'.cell? ⟨w.heap.size+1,0,none⟩=some (.int .i64 0)∧w'.cell? ⟨w.heap.size+1,1,none⟩=some (.int .i64 0)∧w'.cell? ⟨w.heap.size+1,2,none⟩=some (.int .i64 0)∧w'.cell? ⟨w.heap.size+1,3,none⟩=some (.int .i64 0)))
    have zn:Hid (w5.drew.heap[w.heap.size]? =some (.cells #[.int .i64 k4,sv s4, .int .i64 n4, .int .i64 l4, .int .i64 o4, .slice A1 n1' c1, .slice A2 n2 c2, .slice A3 n3 c3] 49 (0,0))∧w5.drew.heap[w.heap.size+1]? =some (.cells #[.int .i64 0, .int .i64 0, .int .i64 0, .int .i64 0] 55 (0,0))):=hid ⟨by rw [lG];exact wh.out,by rw [lG];exact HD5.out⟩
    have Tt:w5.cell? ⟨w.heap.size,0,none⟩=some (.int .i64 k4):=(cell_of_row _ _ 0 _ _ _ wh.out).trans rfl
    have Tv:w5.cell? ⟨w.heap.size,1,none⟩=some (sv s4):=(cell_of_row _ _ 1 _ _ _ wh.out).trans rfl
    have Xu:w5.cell? ⟨w.heap.size,2,none⟩=some (.int .i64 n4):=(cell_of_row _ _ 2 _ _ _ wh.out).trans rfl
    have Xv:w5.cell? ⟨w.heap.size,3,none⟩=some (.int .i64 l4):=(cell_of_row _ _ 3 _ _ _ wh.out).trans rfl
    have ka4:w5.cell? ⟨w.heap.size,4,none⟩=some (.int .i64 o4):=(cell_of_row _ _ 4 _ _ _ wh.out).trans rfl
    have ka5:w5.cell? ⟨w.heap.size,5,none⟩=some (.slice A1 n1' c1):=(cell_of_row _ _ 5 _ _ _ wh.out).trans rfl
    have ka6:w5.cell? ⟨w.heap.size,6,none⟩=some (.slice A2 n2 c2):=(cell_of_row _ _ 6 _ _ _ wh.out).trans rfl
    have ka7:w5.cell? ⟨w.heap.size,7,none⟩=some (.slice A3 n3 c3):=(cell_of_row _ _ 7 _ _ _ wh.out).trans rfl
    have Tw:∀i,w5.frozen? ⟨w.heap.size,i,none⟩=false:=fun i=>frozen_of_row _ _ _ _ _ wh.out
    have Tx:w5.cell? ⟨w.heap.size+1,0,none⟩=some (.int .i64 0):=(cell_of_row _ _ 0 _ _ _ HD5.out).trans rfl
    have Tz:w5.cell? ⟨w.heap.size+1,1,none⟩=some (.int .i64 0):=(cell_of_row _ _ 1 _ _ _ HD5.out).trans rfl
    have TA:w5.cell? ⟨w.heap.size+1,2,none⟩=some (.int .i64 0):=(cell_of_row _ _ 2 _ _ _ HD5.out).trans rfl
    have TB:w5.cell? ⟨w.heap.size+1,3,none⟩=some (.int .i64 0):=(cell_of_row _ _ 3 _ _ _ HD5.out).trans rfl
    have TD:∀i,w5.frozen? ⟨w.heap.size+1,i,none⟩=false:=fun i=>frozen_of_row _ _ _ _ _ HD5.out
    have tA:=((((((((ak w5 (w.heap.size) 0 (.int .i64 k4)).trans (ak _ (w.heap.size) 1 (sv s4)) (fun _ _ h=>h)).trans (ak _ (w.heap.size) 2 (.int .i64 n4)) (fun _ _ h=>h)).trans (ak _ (w.heap.size) 3 (.int .i64 l4)) (fun _ _ h=>h)).trans (ak _ (w.heap.size) 4 (.int .i64 o4)) (fun _ _ h=>h)).trans (ak _ (w.heap.size) 5 (.slice A1 n1' c1)) (fun _ _ h=>h)).trans (ak _ (w.heap.size) 6 (.slice A2 n2 c2)) (fun _ _ h=>h)).trans (ak _ (w.heap.size) 7 (.slice A3 n3 c3)) (fun _ _ h=>h))
    have qy:=(aP (b:=w.heap.size) wh.out (.int .i64 k4) (sv s4) (.int .i64 n4) (.int .i64 l4) (.int .i64 o4) (.slice A1 n1' c1) (.slice A2 n2 c2) (.slice A3 n3 c3))
    have qA:=ah HD5.out tA (by omega)
    have tB:=((((ak ((((((((w5.setCell ⟨w.heap.size,0,none⟩ (.int .i64 k4)).setCell ⟨w.heap.size,1,none⟩ (sv s4)).setCell ⟨w.heap.size,2,none⟩ (.int .i64 n4)).setCell ⟨w.heap.size,3,none⟩ (.int .i64 l4)).setCell ⟨w.heap.size,4,none⟩ (.int .i64 o4)).setCell ⟨w.heap.size,5,none⟩ (.slice A1 n1' c1)).setCell ⟨w.heap.size,6,none⟩ (.slice A2 n2 c2)).setCell ⟨w.heap.size,7,none⟩ (.slice A3 n3 c3)) (w.heap.size+1) 0 (.int .i64 0)).trans (ak _ (w.heap.size+1) 1 (.int .i64 0)) (fun _ _ h=>h)).trans (ak _ (w.heap.size+1) 2 (.int .i64 0)) (fun _ _ h=>h)).trans (ak _ (w.heap.size+1) 3 (.int .i64 0)) (fun _ _ h=>h))
    have HXB:=hid (ah qy tB (by omega))
    have jX:=hid ((aV (b:=w.heap.size+1) qA (.int .i64 0) (.int .i64 0) (.int .i64 0) (.int .i64 0)))
    have ko:=hid ((tA.mono (G:=fun k=>k=w.heap.size∨k=w.heap.size+1) (fun _ _ h=> .inl h)).trans tB (fun _ _ h=> .inr h))
    have om:Hid (((((((((w5.setCell ⟨w.heap.size,0,none⟩ (.int .i64 k4)).setCell ⟨w.heap.size,1,none⟩ (sv s4)).setCell ⟨w.heap.size,2,none⟩ (.int .i64 n4)).setCell ⟨w.heap.size,3,none⟩ (.int .i64 l4)).setCell ⟨w.heap.size,4,none⟩ (.int .i64 o4)).setCell ⟨w.heap.size,5,none⟩ (.slice A1 n1' c1)).setCell ⟨w.heap.size,6,none⟩ (.slice A2 n2 c2)).setCell ⟨w.heap.size,7,none⟩ (.slice A3 n3 c3)).drew.heap[w.heap.size]? =some (.cells #[.int .i64 k4,sv s4, .int .i64 n4, .int .i64 l4, .int .i64 o4, .slice A1 n1' c1, .slice A2 n2 c2, .slice A3 n3 c3] 49 (0,0))∧((((((((w5.setCell ⟨w.heap.size,0,none⟩ (.int .i64 k4)).setCell ⟨w.heap.size,1,none⟩ (sv s4)).setCell ⟨w.heap.size,2,none⟩ (.int .i64 n4)).setCell ⟨w.heap.size,3,none⟩ (.int .i64 l4)).setCell ⟨w.heap.size,4,none⟩ (.int .i64 o4)).setCell ⟨w.heap.size,5,none⟩ (.slice A1 n1' c1)).setCell ⟨w.heap.size,6,none⟩ (.slice A2 n2 c2)).setCell ⟨w.heap.size,7,none⟩ (.slice A3 n3 c3)).drew.heap[w.heap.size+1]? =some (.cells #[.int .i64 0, .int .i64 0, .int .i64 0, .int .i64 0] 55 (0,0))):=hid ⟨by rw [lG];exact qy,by rw [lG];exact qA⟩
    clear tA qy qA tB
    go_wp2_with fail
    refine bM (S:=fun w'=>w'.heap[w.heap.size]? =some (.cells #[.int .i64 k4,sv s4, .int .i64 n4, .int .i64 l4, .int .i64 o4, .slice A1 n1' c1, .slice A2 n2 c2, .slice A3 n3 c3] 49 (0,0))∧w'.heap[w.heap.size+1]? =some (.cells #[.int .i64 0, .int .i64 0, .int .i64 0, .int .i64 0] 55 (0,0))) (x:=3) (by kernel_rfl) ?_
    try simp only [Act.put,List.getElem_toArray,List.getElem_cons_zero,List.getElem_cons_succ,List.setIfInBounds_toArray,List.set_cons_zero,List.set_cons_succ]
    refine jW 0 (.agg #[.int .i64 k4,sv s4, .int .i64 n4, .int .i64 l4, .int .i64 o4, .slice A1 n1' c1, .slice A2 n2 c2, .slice A3 n3 c3]) PX.out zn.out (hQ:=j6 rfl (by decide) (by decide)) ?_
    refine jW 1 (.agg #[.int .i64 0, .int .i64 0, .int .i64 0, .int .i64 0]) PD.out zn.out (hQ:=j6 rfl (by decide) (by decide)) ?_
    refine ay (rs:=[2]) (by kernel_rfl) (by simp) ?_
    refine av.cons rfl (fun K hK=> ?_) (av.nil)
    go_simp
    refine hK.out _ _ om.out ?_
    clear hK K
    try simp only [Act.put,List.getElem_toArray,List.getElem_cons_zero,List.getElem_cons_succ,List.setIfInBounds_toArray,List.set_cons_zero,List.set_cons_succ]
    refine ay (rs:=[3]) (by kernel_rfl) (by simp) ?_
    refine av.past rfl (by kernel_rfl) (fun K hK=> ?_) (av.nil)
    go_simp
    refine hK.out _ _ ?_
    clear hK K
    try simp only [Act.put,List.getElem_toArray,List.getElem_cons_zero,List.getElem_cons_succ,List.setIfInBounds_toArray,List.set_cons_zero,List.set_cons_succ]
    refine aO (by kernel_rfl) ?_ _
    go_wp2_with fail
    refine leaves_cons (f:=87) (args:= #[.pointer (some ⟨w.heap.size,0,none⟩), .pointer (some ⟨w.heap.size+1,0,none⟩)]) (by simp) (by simp [go_sem]) ?_
    refine(K6 _ _ _).mono ?_
    rintro e u9 w9 ⟨rfl,rfl,rfl⟩
    have e1:Dg=(0,0,0):=by rw [←KY.out,vI.out]
    have e2:V=x:=by rw [←HV.out];unfold pq;rw [vI.out];rfl
    subst e1 e2
    have MP:=(uW.out.turn ko.out (fun g _ h e=>by omega)).turn (hdr (fun _=>False) _) (fun _ _ _=>id)
    have Gf:=(fI.out.trans (ko.out.below (B:=w.heap.size) (by have:=fI.out.size;omega) (fun k hk e=>by omega))).trans ((hdr (fun _=>False) _).below (by have:=fI.out.size;have:=ko.out.size;omega) (fun _ _=>id))
    exact⟨_,cK rfl rfl rfl (by rw [lG];exact HXB.out) (by rw [lG];exact jX.out) Tryz.underlying49 rfl (by kernel_rfl) Tryz.underlying55 rfl (by kernel_rfl),Gf, _,rfl,MP.mono (fun g _ h=>by omega)⟩
 ·have K5:aZ (bg 100).expr s=(none,(dQ s).2):=by unfold aZ;rw [if_neg hE]
  have e1:Dg=(dQ s).2:=by rw [←tH,K5]
  have e2:V=pE:=by rw [←hV];unfold pq;rw [K5];rfl
  subst e2
  obtain⟨T,D1,hT⟩:∃T D1,dQ s=(T,D1):=⟨_, _,rfl⟩
  rw [hT]at HL e1 hE
  have e1:=e1.symm
  subst e1
  have hE1:(D1.2.2 != 0)=true:=by simpa using hE
  clear hE K5 tH hV hT
  go_enter_defers Tryz.func48,Tryz.ntmps48
  go_wp2_with fail
  rw [HW0.out]
  have Oa:xI D1= .agg #[.int .i64 0, .int .i64 (D1.1:Nat), .int .i64 (D1.2.1:Nat), .int .i64 D1.2.2]:=rfl
  refine(HL.out).mono ?_
  rintro e w1 ⟨v1,n1,rfl,hown,hb1⟩
  obtain⟨yA,c1',rfl, _, _⟩:=jd hown
  have hs1:=hb1.size
  have hx1:=(hb1.block (w.heap.size) (by omega)).trans HX0.out
  have hd1:=(hb1.block (w.heap.size+1) (by omega)).trans HD0.out
  have HB1:=hid (HB0.out.trans (hb1.mono (by omega)))
  have Dc:=hid (Gl.out.below (hb1.mono (by omega)))
  obtain⟨x0,x1,x2,x3,xz⟩:=bK hd1
  have t1:=dx w1 (w.heap.size+1) (.int .i64 0) (.int .i64 (D1.1:Nat)) (.int .i64 (D1.2.1:Nat)) (.int .i64 D1.2.2)
  have qh:=hid (ah hx1 t1 (by omega))
  have HD1:=hid (aV hd1 (.int .i64 0) (.int .i64 (D1.1:Nat)) (.int .i64 (D1.2.1:Nat)) (.int .i64 D1.2.2))
  have HT1:=hid t1
  have hsp:(cB w1 (w.heap.size+1) (.int .i64 0) (.int .i64 (D1.1:Nat)) (.int .i64 (D1.2.1:Nat)) (.int .i64 D1.2.2)).heap.size=w1.heap.size:=by simp [cB]
  have HOWN:=hid hown
  rw [Oa]
  clear hown hb1 hx1 hd1 t1 Oa
  have PX:=hid (fun(w':World) (h:w'.heap[w.heap.size]? =some (.cells #[.int .i64 0, .string ⟨#[]⟩, .int .i64 0, .int .i64 0, .int .i64 0, .slice none 0 0, .slice none 0 0, .slice none 0 0] 49 (0,0))∧w'.heap[w.heap.size+1]? =some (.cells #[.int .i64 0, .int .i64 (D1.1:Nat), .int .i64 (D1.2.1:Nat), .int .i64 D1.2.2] 55 (0,0)))=>(⟨(cell_of_row _ _ _ _ _ _ h.1).trans rfl,(cell_of_row _ _ _ _ _ _ h.1).trans rfl,(cell_of_row _ _ _ _ _ _ h.1).trans rfl,(cell_of_row _ _ _ _ _ _ h.1).trans rfl,(cell_of_row _ _ _ _ _ _ h.1).trans rfl,(cell_of_row _ _ _ _ _ _ h.1).trans rfl,(cell_of_row _ _ _ _ _ _ h.1).trans rfl,(cell_of_row _ _ _ _ _ _ h.1).trans rfl⟩:w'.cell? ⟨w.heap.size,0,none⟩=some (.int .i64 0)∧w'.cell? ⟨w.heap.size,1,none⟩=some (.string ⟨#[]⟩)∧w'.cell? ⟨w.heap.size,2,none⟩=some (.int .i64 0)∧w'.cell? ⟨w.heap.size,3,none⟩=some (.int .i64 0)∧w'.cell? ⟨w.heap.size,4,none⟩=some (.int .i64 0)∧w'.cell? ⟨w.heap.size,5,none⟩=some (.slice none 0 0)∧w'.cell? ⟨w.heap.size,6,none⟩=some (.slice none 0 0)∧w'.cell? ⟨w.heap.size,7,none⟩=some (.slice none 0 0)))
  have PD:=hid (fun(w':World) (h:w'.heap[w.heap.size]? =some (.cells #[.int .i64 0, .string ⟨#[]⟩, .int .i64 0, .int .i64 0, .int .i64 0, .slice none 0 0, .slice none 0 0, .slice none 0 0] 49 (0,0))∧w'.heap[w.heap.size+1]? =some (.cells #[.int .i64 0, .int .i64 (D1.1:Nat), .int .i64 (D1.2.1:Nat), .int .i64 D1.2.2] 55 (0,0)))=>(⟨(cell_of_row _ _ _ _ _ _ h.2).trans rfl,(cell_of_row _ _ _ _ _ _ h.2).trans rfl,(cell_of_row _ _ _ _ _ _ h.2).trans rfl,(cell_of_row _ _ _ _ _ _ h.2).trans rfl⟩:w'.cell? ⟨w.heap.size+1,0,none⟩=some (.int .i64 0)∧w'.cell? ⟨w.heap.size+1,1,none⟩=some (.int .i64 (D1.1:Nat))∧w'.cell? ⟨w.heap.size+1,2,none⟩=some (.int .i64 (D1.2.1:Nat))∧w'.cell? ⟨w.heap.size+1,3,none⟩=some (.int .i64 D1.2.2)))
  have zn:Hid ((cB w1 (w.heap.size+1) (.int .i64 0) (.int .i64 (D1.1:Nat)) (.int .i64 (D1.2.1:Nat)) (.int .i64 D1.2.2)).drew.heap[w.heap.size]? =some (.cells #[.int .i64 0, .string ⟨#[]⟩, .int .i64 0, .int .i64 0, .int .i64 0, .slice none 0 0, .slice none 0 0, .slice none 0 0] 49 (0,0))∧(cB w1 (w.heap.size+1) (.int .i64 0) (.int .i64 (D1.1:Nat)) (.int .i64 (D1.2.1:Nat)) (.int .i64 D1.2.2)).drew.heap[w.heap.size+1]? =some (.cells #[.int .i64 0, .int .i64 (D1.1:Nat), .int .i64 (D1.2.1:Nat), .int .i64 D1.2.2] 55 (0,0))):=hid ⟨by rw [lG];exact qh.out,by rw [lG];exact HD1.out⟩
  have Tt:(cB w1 (w.heap.size+1) (.int .i64 0) (.int .i64 (D1.1:Nat)) (.int .i64 (D1.2.1:Nat)) (.int .i64 D1.2.2)).cell? ⟨w.heap.size,0,none⟩=some (.int .i64 0):=(cell_of_row _ _ 0 _ _ _ qh.out).trans rfl
  have Tv:(cB w1 (w.heap.size+1) (.int .i64 0) (.int .i64 (D1.1:Nat)) (.int .i64 (D1.2.1:Nat)) (.int .i64 D1.2.2)).cell? ⟨w.heap.size,1,none⟩=some (.string ⟨#[]⟩):=(cell_of_row _ _ 1 _ _ _ qh.out).trans rfl
  have Xu:(cB w1 (w.heap.size+1) (.int .i64 0) (.int .i64 (D1.1:Nat)) (.int .i64 (D1.2.1:Nat)) (.int .i64 D1.2.2)).cell? ⟨w.heap.size,2,none⟩=some (.int .i64 0):=(cell_of_row _ _ 2 _ _ _ qh.out).trans rfl
  have Xv:(cB w1 (w.heap.size+1) (.int .i64 0) (.int .i64 (D1.1:Nat)) (.int .i64 (D1.2.1:Nat)) (.int .i64 D1.2.2)).cell? ⟨w.heap.size,3,none⟩=some (.int .i64 0):=(cell_of_row _ _ 3 _ _ _ qh.out).trans rfl
  have ka4:(cB w1 (w.heap.size+1) (.int .i64 0) (.int .i64 (D1.1:Nat)) (.int .i64 (D1.2.1:Nat)) (.int .i64 D1.2.2)).cell? ⟨w.heap.size,4,none⟩=some (.int .i64 0):=(cell_of_row _ _ 4 _ _ _ qh.out).trans rfl
  have ka5:(cB w1 (w.heap.size+1) (.int .i64 0) (.int .i64 (D1.1:Nat)) (.int .i64 (D1.2.1:Nat)) (.int .i64 D1.2.2)).cell? ⟨w.heap.size,5,none⟩=some (.slice none 0 0):=(cell_of_row _ _ 5 _ _ _ qh.out).trans rfl
  have ka6:(cB w1 (w.heap.size+1) (.int .i64 0) (.int .i64 (D1.1:Nat)) (.int .i64 (D1.2.1:Nat)) (.int .i64 D1.2.2)).cell? ⟨w.heap.size,6,none⟩=some (.slice none 0 0):=(cell_of_row _ _ 6 _ _ _ qh.out).trans rfl
  have ka7:(cB w1 (w.heap.size+1) (.int .i64 0) (.int .i64 (D1.1:Nat)) (.int .i64 (D1.2.1:Nat)) (.int .i64 D1.2.2)).cell? ⟨w.heap.size,7,none⟩=some (.slice none 0 0):=(cell_of_row _ _ 7 _ _ _ qh.out).trans rfl
  have Tw:∀i,(cB w1 (w.heap.size+1) (.int .i64 0) (.int .i64 (D1.1:Nat)) (.int .i64 (D1.2.1:Nat)) (.int .i64 D1.2.2)).frozen? ⟨w.heap.size,i,none⟩=false:=fun i=>frozen_of_row _ _ _ _ _ qh.out
  have Tx:(cB w1 (w.heap.size+1) (.int .i64 0) (.int .i64 (D1.1:Nat)) (.int .i64 (D1.2.1:Nat)) (.int .i64 D1.2.2)).cell? ⟨w.heap.size+1,0,none⟩=some (.int .i64 0):=(cell_of_row _ _ 0 _ _ _ HD1.out).trans rfl
  have Tz:(cB w1 (w.heap.size+1) (.int .i64 0) (.int .i64 (D1.1:Nat)) (.int .i64 (D1.2.1:Nat)) (.int .i64 D1.2.2)).cell? ⟨w.heap.size+1,1,none⟩=some (.int .i64 (D1.1:Nat)):=(cell_of_row _ _ 1 _ _ _ HD1.out).trans rfl
  have TA:(cB w1 (w.heap.size+1) (.int .i64 0) (.int .i64 (D1.1:Nat)) (.int .i64 (D1.2.1:Nat)) (.int .i64 D1.2.2)).cell? ⟨w.heap.size+1,2,none⟩=some (.int .i64 (D1.2.1:Nat)):=(cell_of_row _ _ 2 _ _ _ HD1.out).trans rfl
  have TB:(cB w1 (w.heap.size+1) (.int .i64 0) (.int .i64 (D1.1:Nat)) (.int .i64 (D1.2.1:Nat)) (.int .i64 D1.2.2)).cell? ⟨w.heap.size+1,3,none⟩=some (.int .i64 D1.2.2):=(cell_of_row _ _ 3 _ _ _ HD1.out).trans rfl
  have TD:∀i,(cB w1 (w.heap.size+1) (.int .i64 0) (.int .i64 (D1.1:Nat)) (.int .i64 (D1.2.1:Nat)) (.int .i64 D1.2.2)).frozen? ⟨w.heap.size+1,i,none⟩=false:=fun i=>frozen_of_row _ _ _ _ _ HD1.out
  have tA:=((((((((ak (cB w1 (w.heap.size+1) (.int .i64 0) (.int .i64 (D1.1:Nat)) (.int .i64 (D1.2.1:Nat)) (.int .i64 D1.2.2)) (w.heap.size) 0 (.int .i64 0)).trans (ak _ (w.heap.size) 1 (.string ⟨#[]⟩)) (fun _ _ h=>h)).trans (ak _ (w.heap.size) 2 (.int .i64 0)) (fun _ _ h=>h)).trans (ak _ (w.heap.size) 3 (.int .i64 0)) (fun _ _ h=>h)).trans (ak _ (w.heap.size) 4 (.int .i64 0)) (fun _ _ h=>h)).trans (ak _ (w.heap.size) 5 (.slice none 0 0)) (fun _ _ h=>h)).trans (ak _ (w.heap.size) 6 (.slice none 0 0)) (fun _ _ h=>h)).trans (ak _ (w.heap.size) 7 (.slice none 0 0)) (fun _ _ h=>h))
  have qy:=(aP (b:=w.heap.size) qh.out (.int .i64 0) (.string ⟨#[]⟩) (.int .i64 0) (.int .i64 0) (.int .i64 0) (.slice none 0 0) (.slice none 0 0) (.slice none 0 0))
  have qA:=ah HD1.out tA (by omega)
  have tB:=((((ak (((((((((cB w1 (w.heap.size+1) (.int .i64 0) (.int .i64 (D1.1:Nat)) (.int .i64 (D1.2.1:Nat)) (.int .i64 D1.2.2)).setCell ⟨w.heap.size,0,none⟩ (.int .i64 0)).setCell ⟨w.heap.size,1,none⟩ (.string ⟨#[]⟩)).setCell ⟨w.heap.size,2,none⟩ (.int .i64 0)).setCell ⟨w.heap.size,3,none⟩ (.int .i64 0)).setCell ⟨w.heap.size,4,none⟩ (.int .i64 0)).setCell ⟨w.heap.size,5,none⟩ (.slice none 0 0)).setCell ⟨w.heap.size,6,none⟩ (.slice none 0 0)).setCell ⟨w.heap.size,7,none⟩ (.slice none 0 0)) (w.heap.size+1) 0 (.int .i64 0)).trans (ak _ (w.heap.size+1) 1 (.int .i64 (D1.1:Nat))) (fun _ _ h=>h)).trans (ak _ (w.heap.size+1) 2 (.int .i64 (D1.2.1:Nat))) (fun _ _ h=>h)).trans (ak _ (w.heap.size+1) 3 (.int .i64 D1.2.2)) (fun _ _ h=>h))
  have HXB:=hid (ah qy tB (by omega))
  have jX:=hid ((aV (b:=w.heap.size+1) qA (.int .i64 0) (.int .i64 (D1.1:Nat)) (.int .i64 (D1.2.1:Nat)) (.int .i64 D1.2.2)))
  have ko:=hid ((tA.mono (G:=fun k=>k=w.heap.size∨k=w.heap.size+1) (fun _ _ h=> .inl h)).trans tB (fun _ _ h=> .inr h))
  have om:Hid ((((((((((cB w1 (w.heap.size+1) (.int .i64 0) (.int .i64 (D1.1:Nat)) (.int .i64 (D1.2.1:Nat)) (.int .i64 D1.2.2)).setCell ⟨w.heap.size,0,none⟩ (.int .i64 0)).setCell ⟨w.heap.size,1,none⟩ (.string ⟨#[]⟩)).setCell ⟨w.heap.size,2,none⟩ (.int .i64 0)).setCell ⟨w.heap.size,3,none⟩ (.int .i64 0)).setCell ⟨w.heap.size,4,none⟩ (.int .i64 0)).setCell ⟨w.heap.size,5,none⟩ (.slice none 0 0)).setCell ⟨w.heap.size,6,none⟩ (.slice none 0 0)).setCell ⟨w.heap.size,7,none⟩ (.slice none 0 0)).drew.heap[w.heap.size]? =some (.cells #[.int .i64 0, .string ⟨#[]⟩, .int .i64 0, .int .i64 0, .int .i64 0, .slice none 0 0, .slice none 0 0, .slice none 0 0] 49 (0,0))∧(((((((((cB w1 (w.heap.size+1) (.int .i64 0) (.int .i64 (D1.1:Nat)) (.int .i64 (D1.2.1:Nat)) (.int .i64 D1.2.2)).setCell ⟨w.heap.size,0,none⟩ (.int .i64 0)).setCell ⟨w.heap.size,1,none⟩ (.string ⟨#[]⟩)).setCell ⟨w.heap.size,2,none⟩ (.int .i64 0)).setCell ⟨w.heap.size,3,none⟩ (.int .i64 0)).setCell ⟨w.heap.size,4,none⟩ (.int .i64 0)).setCell ⟨w.heap.size,5,none⟩ (.slice none 0 0)).setCell ⟨w.heap.size,6,none⟩ (.slice none 0 0)).setCell ⟨w.heap.size,7,none⟩ (.slice none 0 0)).drew.heap[w.heap.size+1]? =some (.cells #[.int .i64 0, .int .i64 (D1.1:Nat), .int .i64 (D1.2.1:Nat), .int .i64 D1.2.2] 55 (0,0))):=hid ⟨by rw [lG];exact qy,by rw [lG];exact qA⟩
  clear tA qy qA tB
  go_wp2_with fail
  refine bM (S:=fun w'=>w'.heap[w.heap.size]? =some (.cells #[.int .i64 0, .string ⟨#[]⟩, .int .i64 0, .int .i64 0, .int .i64 0, .slice none 0 0, .slice none 0 0, .slice none 0 0] 49 (0,0))∧w'.heap[w.heap.size+1]? =some (.cells #[.int .i64 0, .int .i64 (D1.1:Nat), .int .i64 (D1.2.1:Nat), .int .i64 D1.2.2] 55 (0,0))) (x:=3) (by kernel_rfl) ?_
  try simp only [Act.put,List.getElem_toArray,List.getElem_cons_zero,List.getElem_cons_succ,List.setIfInBounds_toArray,List.set_cons_zero,List.set_cons_succ]
  refine jW 0 (.agg #[.int .i64 0, .string ⟨#[]⟩, .int .i64 0, .int .i64 0, .int .i64 0, .slice none 0 0, .slice none 0 0, .slice none 0 0]) PX.out zn.out (hQ:=fun c a w h=>j6 rfl (by decide) (by decide) c a w h) ?_
  refine jW 1 (.agg #[.int .i64 0, .int .i64 (D1.1:Nat), .int .i64 (D1.2.1:Nat), .int .i64 D1.2.2]) PD.out zn.out (hQ:=fun c a w h=>j6 rfl (by decide) (by decide) c a w h) ?_
  refine ay (rs:=[2]) (by kernel_rfl) (by simp) ?_
  refine av.cons rfl (fun K hK=> ?_) (av.nil)
  go_simp
  refine hK.out _ _ om.out ?_
  clear hK K
  try simp only [Act.put,List.getElem_toArray,List.getElem_cons_zero,List.getElem_cons_succ,List.setIfInBounds_toArray,List.set_cons_zero,List.set_cons_succ]
  refine ay (rs:=[3]) (by kernel_rfl) (by simp) ?_
  refine av.past rfl (by kernel_rfl) (fun K hK=> ?_) (av.nil)
  go_simp
  refine hK.out _ _ ?_
  clear hK K
  try simp only [Act.put,List.getElem_toArray,List.getElem_cons_zero,List.getElem_cons_succ,List.setIfInBounds_toArray,List.set_cons_zero,List.set_cons_succ]
  refine aO (by kernel_rfl) ?_ _
  go_wp2_with fail
  have Gf:=((HB1.out.trans (HT1.out.below (B:=w.heap.size) (by omega) (fun k hk e=>by omega))).trans (ko.out.below (B:=w.heap.size) (by rw [hsp];omega) (fun k hk e=>by omega))).trans ((hdr (fun _=>False) _).below (by have:=ko.out.size;rw [hsp]at this;omega) (fun _ _=>id))
  exact⟨_,cK rfl rfl rfl (by rw [lG];exact HXB.out) (by rw [lG];exact jX.out) Tryz.underlying49 rfl (by kernel_rfl) Tryz.underlying55 rfl (by kernel_rfl),Gf, _,rfl, .mk (dh.nil _ _ _) .nil (dh.nil _ _ _) (dh.nil _ _ _) .nil⟩
set_option maxRecDepth 100000 in
set_option maxHeartbeats 4000000 in
theorem yB (w:World) (s:Bt) (hX:jH w):Calls Tryz.prog 23 #[sv s] w fun e w'=>Below w.heap.size w w'∧∃z:List Value,e= .returned (.tuple #[.agg z.toArray,tC (aZ (bg 100).expr s).2])∧jG w' (fun j=>w.heap.size≤j) z (pq (bg 100).expr s pE):=by
 obtain⟨W0,hW0⟩:∃W0,((w.alloc (.cells #[.int .i64 0, .string ⟨#[]⟩, .int .i64 0, .int .i64 0, .int .i64 0, .slice none 0 0, .slice none 0 0, .slice none 0 0] 49)).alloc (.cells #[.int .i64 0, .int .i64 0, .int .i64 0, .int .i64 0] 55))=W0:=⟨_,rfl⟩
 obtain⟨tw, _,hx0,hd0⟩:=fZ (G:=fun _=>False) (Turn.refl _ ((w.alloc (.cells #[.int .i64 0, .string ⟨#[]⟩, .int .i64 0, .int .i64 0, .int .i64 0, .slice none 0 0, .slice none 0 0, .slice none 0 0] 49)).alloc (.cells #[.int .i64 0, .int .i64 0, .int .i64 0, .int .i64 0] 55)))
 have hs0:W0.heap.size=w.heap.size+2:=by rw [←hW0];simp
 have hb0:Below w.heap.size w W0:=by rw [←hW0];exact new2 _ _ _
 rw [hW0]at tw hx0 hd0
 have HX0:=hid (hx0 id)
 have HD0:=hid (hd0 id)
 have HB0:=hid hb0
 have HA:=hid (MU W0 s (hX.below hb0))
 have HW0:=hid hW0
 obtain⟨Dg,tH⟩:∃Dg,(aZ (bg 100).expr s).2=Dg:=⟨_,rfl⟩
 obtain⟨V,hV⟩:∃V,pq (bg 100).expr s pE=V:=⟨_,rfl⟩
 rw [tH,hV]at HA
 rw [tH,hV]
 clear hX tw hx0 hd0 hb0 hW0 tH hV
 go_enter Tryz.func23,Tryz.ntmps23
 go_wp2_with fail
 rw [HW0.out]
 refine(HA.out).mono ?_
 rintro e w1 ⟨hb1,z0,rfl,hz0⟩
 have hzc:=hz0
 obtain⟨k4,s4,n4,l4,o4,A1,n1',c1,A2,n2,c2,A3,n3,c3,rfl⟩:=hzc.shape'
 have hs1:=hb1.size
 have hx1:=(hb1.block (w.heap.size) (by omega)).trans HX0.out
 have hd1:=(hb1.block (w.heap.size+1) (by omega)).trans HD0.out
 have tA:Turn (fun k=>k=w.heap.size) w1 ((((((((w1.setCell ⟨w.heap.size,0,none⟩ (.int .i64 k4)).setCell ⟨w.heap.size,1,none⟩ (sv s4)).setCell ⟨w.heap.size,2,none⟩ (.int .i64 n4)).setCell ⟨w.heap.size,3,none⟩ (.int .i64 l4)).setCell ⟨w.heap.size,4,none⟩ (.int .i64 o4)).setCell ⟨w.heap.size,5,none⟩ (.slice A1 n1' c1)).setCell ⟨w.heap.size,6,none⟩ (.slice A2 n2 c2)).setCell ⟨w.heap.size,7,none⟩ (.slice A3 n3 c3)):=((((((((ak w1 (w.heap.size) 0 (.int .i64 k4)).trans (ak _ (w.heap.size) 1 (sv s4)) (fun _ _ h=>h)).trans (ak _ (w.heap.size) 2 (.int .i64 n4)) (fun _ _ h=>h)).trans (ak _ (w.heap.size) 3 (.int .i64 l4)) (fun _ _ h=>h)).trans (ak _ (w.heap.size) 4 (.int .i64 o4)) (fun _ _ h=>h)).trans (ak _ (w.heap.size) 5 (.slice A1 n1' c1)) (fun _ _ h=>h)).trans (ak _ (w.heap.size) 6 (.slice A2 n2 c2)) (fun _ _ h=>h)).trans (ak _ (w.heap.size) 7 (.slice A3 n3 c3)) (fun _ _ h=>h))
 have qy:=(aP (b:=w.heap.size) hx1 (.int .i64 k4) (sv s4) (.int .i64 n4) (.int .i64 l4) (.int .i64 o4) (.slice A1 n1' c1) (.slice A2 n2 c2) (.slice A3 n3 c3))
 have qA:=ah hd1 tA (by omega)
 have tB:=((((ak ((((((((w1.setCell ⟨w.heap.size,0,none⟩ (.int .i64 k4)).setCell ⟨w.heap.size,1,none⟩ (sv s4)).setCell ⟨w.heap.size,2,none⟩ (.int .i64 n4)).setCell ⟨w.heap.size,3,none⟩ (.int .i64 l4)).setCell ⟨w.heap.size,4,none⟩ (.int .i64 o4)).setCell ⟨w.heap.size,5,none⟩ (.slice A1 n1' c1)).setCell ⟨w.heap.size,6,none⟩ (.slice A2 n2 c2)).setCell ⟨w.heap.size,7,none⟩ (.slice A3 n3 c3)) (w.heap.size+1) 0 (.int .i64 0)).trans (ak _ (w.heap.size+1) 1 (.int .i64 (Dg.1:Nat))) (fun _ _ h=>h)).trans (ak _ (w.heap.size+1) 2 (.int .i64 (Dg.2.1:Nat))) (fun _ _ h=>h)).trans (ak _ (w.heap.size+1) 3 (.int .i64 Dg.2.2)) (fun _ _ h=>h))
 have HXB:=hid (ah qy tB (by omega))
 have jX:=hid ((aV (b:=w.heap.size+1) qA (.int .i64 0) (.int .i64 (Dg.1:Nat)) (.int .i64 (Dg.2.1:Nat)) (.int .i64 Dg.2.2)))
 have ko:=hid ((tA.mono (G:=fun k=>k=w.heap.size∨k=w.heap.size+1) (fun _ _ h=> .inl h)).trans tB (fun _ _ h=> .inr h))
 have HZ:=hid hz0
 have HB1:=hid (HB0.out.trans (hb1.mono (by omega)))
 have u0:w1.cell? ⟨w.heap.size,0,none⟩=some (.int .i64 0):=(cell_of_row _ _ 0 _ _ _ hx1).trans rfl
 have u1:w1.cell? ⟨w.heap.size,1,none⟩=some (.string ⟨#[]⟩):=(cell_of_row _ _ 1 _ _ _ hx1).trans rfl
 have u2:w1.cell? ⟨w.heap.size,2,none⟩=some (.int .i64 0):=(cell_of_row _ _ 2 _ _ _ hx1).trans rfl
 have u3:w1.cell? ⟨w.heap.size,3,none⟩=some (.int .i64 0):=(cell_of_row _ _ 3 _ _ _ hx1).trans rfl
 have u4:w1.cell? ⟨w.heap.size,4,none⟩=some (.int .i64 0):=(cell_of_row _ _ 4 _ _ _ hx1).trans rfl
 have u5:w1.cell? ⟨w.heap.size,5,none⟩=some (.slice none 0 0):=(cell_of_row _ _ 5 _ _ _ hx1).trans rfl
 have u6:w1.cell? ⟨w.heap.size,6,none⟩=some (.slice none 0 0):=(cell_of_row _ _ 6 _ _ _ hx1).trans rfl
 have u7:w1.cell? ⟨w.heap.size,7,none⟩=some (.slice none 0 0):=(cell_of_row _ _ 7 _ _ _ hx1).trans rfl
 have l0:w1.cell? ⟨w.heap.size+1,0,none⟩=some (.int .i64 0):=(cell_of_row _ _ 0 _ _ _ hd1).trans rfl
 have l1:w1.cell? ⟨w.heap.size+1,1,none⟩=some (.int .i64 0):=(cell_of_row _ _ 1 _ _ _ hd1).trans rfl
 have l2:w1.cell? ⟨w.heap.size+1,2,none⟩=some (.int .i64 0):=(cell_of_row _ _ 2 _ _ _ hd1).trans rfl
 have l3:w1.cell? ⟨w.heap.size+1,3,none⟩=some (.int .i64 0):=(cell_of_row _ _ 3 _ _ _ hd1).trans rfl
 have uz:∀i,w1.frozen? ⟨w.heap.size,i,none⟩=false:=fun i=>frozen_of_row _ _ _ _ _ hx1
 have lz:∀i,w1.frozen? ⟨w.heap.size+1,i,none⟩=false:=fun i=>frozen_of_row _ _ _ _ _ hd1
 clear hb1 hz0 hx1 hd1 tA qy qA tB hzc
 go_wp2_with fail
 refine bodyPost_ret (cK rfl rfl rfl HXB.out jX.out Tryz.underlying49 rfl (by kernel_rfl) Tryz.underlying55 rfl (by kernel_rfl)) rfl ?_
 exact⟨HB1.out.trans (ko.out.below (B:=w.heap.size) (by omega) (fun k hk e=>by omega)), _,rfl,(HZ.out.turn ko.out (fun g _ h e=>by omega)).mono (fun g _ h=>by omega)⟩
end Go.Proofs.YtmbppnbekkbibaaGreatDoor
