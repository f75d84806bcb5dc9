/- JR, JS, JT, JU, NB, JX, JW, XW -/
import Derived.Test.YtmbppnbekkbibaaGreatDoorLB18
import Derived.Test.YtmbppnbekkbibaaGreatDoorLB05
import Derived.Test.YtmbppnbekkbibaaGreatDoorLB16
import Derived.Test.YtmbppnbekkbibaaGreatDoorLB01
import Derived.Test.YtmbppnbekkbibaaGreatDoorLB03
import Derived.Test.YtmbppnbekkbibaaGreatDoorCards
import Derived.Test.YtmbppnbekkbibaaGreatDoorTie
import Derived.ProofKit
import Derived.OpenShut
import Derived.LaidMore
import Derived.LaidSub
import Derived.Stop.Joined
import Derived.Stop.LaidErr
import Derived.Lib.LaidTab
import Derived.Deep.DeepHandedRow
import Derived.Deep.DeepWitnessRowRef
set_option linter.unusedSimpArgs false
set_option linter.unusedVariables false
set_option maxRecDepth 100000
set_option maxHeartbeats 8000000
namespace Go.Proofs.YtmbppnbekkbibaaGreatDoor
open Go.RowKit
abbrev NT (w:World) (b:Nat) (v0 v1 v2 v3 v4 v5:Value):World:=(((((w.setCell ⟨b,0,none⟩ v0).setCell ⟨b,1,none⟩ v1).setCell ⟨b,2,none⟩ v2).setCell ⟨b,3,none⟩ v3).setCell ⟨b,4,none⟩ v4).setCell ⟨b,5,none⟩ v5
theorem AQ (w:World) (b:Nat) (v0 v1 v2 v3 v4 v5:Value):Turn (fun k=>k=b) w (NT w b v0 v1 v2 v3 v4 v5):=
 (((((ay w b 0 v0).trans (ay _ b 1 v1) (fun _ _ h=>h)).trans (ay _ b 2 v2) (fun _ _ h=>h)).trans (ay _ b 3 v3) (fun _ _ h=>h)).trans (ay _ b 4 v4) (fun _ _ h=>h)).trans (ay _ b 5 v5) (fun _ _ h=>h)
theorem zf {w:World} {b:Nat} {a0 a1 a2 a3 a4 a5:Value} {t:TypeId} (h:w.heap[b]? =some (.cells #[a0,a1,a2,a3,a4,a5] t (0,0))) (v0 v1 v2 v3 v4 v5:Value):(NT w b v0 v1 v2 v3 v4 v5).heap[b]? =some (.cells #[v0,v1,v2,v3,v4,v5] t (0,0)):=by
 have h0:(w.setCell ⟨b,0,none⟩ v0).heap[b]? =some (.cells #[v0,a1,a2,a3,a4,a5] t (0,0)):=heap_setCell_same _ b 0 _ _ v0 h;have h1:((w.setCell ⟨b,0,none⟩ v0).setCell ⟨b,1,none⟩ v1).heap[b]? =some (.cells #[v0,v1,a2,a3,a4,a5] t (0,0)):=heap_setCell_same _ b 1 _ _ v1 h0;have h2:(((w.setCell ⟨b,0,none⟩ v0).setCell ⟨b,1,none⟩ v1).setCell ⟨b,2,none⟩ v2).heap[b]? =some (.cells #[v0,v1,v2,a3,a4,a5] t (0,0)):=heap_setCell_same _ b 2 _ _ v2 h1;have h3:((((w.setCell ⟨b,0,none⟩ v0).setCell ⟨b,1,none⟩ v1).setCell ⟨b,2,none⟩ v2).setCell ⟨b,3,none⟩ v3).heap[b]? =some (.cells #[v0,v1,v2,v3,a4,a5] t (0,0)):=heap_setCell_same _ b 3 _ _ v3 h2;have h4:(((((w.setCell ⟨b,0,none⟩ v0).setCell ⟨b,1,none⟩ v1).setCell ⟨b,2,none⟩ v2).setCell ⟨b,3,none⟩ v3).setCell ⟨b,4,none⟩ v4).heap[b]? =some (.cells #[v0,v1,v2,v3,v4,a5] t (0,0)):=heap_setCell_same _ b 4 _ _ v4 h3;exact heap_setCell_same _ b 5 _ _ v5 h4
theorem BO {w:World} {b:Nat} {a0 a1 a2 a3 a4 a5:Value} {t:TypeId} (h:w.heap[b]? =some (.cells #[a0,a1,a2,a3,a4,a5] t (0,0))):w.cell? ⟨b,0,none⟩=some a0∧w.cell? ⟨b,1,none⟩=some a1∧w.cell? ⟨b,2,none⟩=some a2∧w.cell? ⟨b,3,none⟩=some a3∧
  w.cell? ⟨b,4,none⟩=some a4∧w.cell? ⟨b,5,none⟩=some a5∧∀i,w.frozen? ⟨b,i,none⟩=false:=
 ⟨(cell_of_row _ _ _ _ _ _ h).trans rfl,(cell_of_row _ _ _ _ _ _ h).trans rfl,(cell_of_row _ _ _ _ _ _ h).trans rfl,(cell_of_row _ _ _ _ _ _ h).trans rfl,(cell_of_row _ _ _ _ _ _ h).trans rfl,(cell_of_row _ _ _ _ _ _ h).trans rfl,fun i=>frozen_of_row _ _ _ _ _ h⟩
def O5 (l:List jo) (w:World) (e:Ending) (w':World):Prop:=Below w.heap.size w w'∧∃z vb,e= .returned (.tuple #[.agg z.toArray,vb])∧MV w' w'.heap.size z (eP l).1∧Sl w' w'.heap.size 4 vb (CO (eP l).2)
theorem Mf {w W:World} {lb mb:Nat} (hm:pU W mb []) (hb:W.heap[lb]? =some (.cells #[.slice none 0 0, .slice none 0 0, .slice none 0 0, .string ⟨#[]⟩, .int .i64 0, .int .i64 0, .map (some mb), .slice none 0 0] 79 (0,0))):P1 W.heap.size lb mb [] [] [] [] W:=
 ⟨.slice none 0 0, .slice none 0 0, .slice none 0 0,fun _=>False,hb,World.ownsRow_nil _ _ _ _,iC.nil _ _ _,dN.nil _ _ _ _ _ _,hm,fun j hj=>hj.elim,(fun g hg=>by cases hg),(fun g hg=>by cases hg),fun _=>rfl⟩
theorem NU (w:World):pU (w.alloc (.map #[] 0)) w.heap.size []:=by
 have h:=MapAt.made w 9 3;unfold pU;have e:IE []=fun _=>none:=by
  funext k;unfold IE;cases k <;> rfl
 rw [e];exact h
theorem FZ.blk {l:List jo} {lb:Nat} {w:World} (h:FZ l lb w):∃(a0 a1 a2 a3 a4 a5 a6:Value) (A:Option Addr) (c:Nat) (bad:List kT),bad≠[]∧eP l=(uV,bad)∧w.heap[lb]? =some (.cells #[a0,a1,a2,a3,a4,a5,a6, .slice A bad.length c] 79 (0,0))∧∀W r cs T,w.heap[r]? =some (.cells cs T (0,0))→T≠55→Turn (fun j=>j=r) w W→Sl W W.heap.size 4 (.slice A bad.length c) (CO bad):=by
 obtain⟨base,a0,a1,a2,a3,a4,a5,a6,vB,bad,h1,h2,h3,h4⟩:=h;obtain⟨A,c,rfl, _⟩:=eu h4;refine⟨a0,a1,a2,a3,a4,a5,a6,A,c,bad,h1,h2,h3,fun W r cs T hr hT t=>Sl.qX (h4.turn t fun g hg e=> ?_)⟩;subst e;exact hT (pV h4 hg hr)
theorem L2.none {B lb mb:Nat} {vN vM a b c:Value} {names:List Bt} {mods:List eH} {w:World} {sc:List (List jN)} (h:L2 B lb mb vN vM a b c names mods w sc []):∃vS A cc,mM w lb vN vM vS a b c (.map (some mb)) (.slice A 0 cc):=by
 obtain⟨vS,vB,F,h1,h2, _⟩:=h;obtain⟨A,c,rfl, _⟩:=eu h2;exact⟨vS,A,c,h1⟩
theorem qW.none {l:List jo} {B lb mb:Nat} {vN vM:Value} {k:Nat} {w:World} (h:qW l B lb mb vN vM k w):∃a0 a1 a2 a3 a4 a5 a6 A cc,w.heap[lb]? =some (.cells #[a0,a1,a2,a3,a4,a5,a6, .slice A 0 cc] 79 (0,0)):=by
 obtain⟨_,h | h | h | h⟩:=h
 ·obtain⟨vS,A,cc,h⟩:=h.2.none;exact⟨_, _, _, _, _, _, _, _, _,h⟩
 ·obtain⟨vS,A,cc,h⟩:=h.2.2.none;exact⟨_, _, _, _, _, _, _, _, _,h⟩
 ·obtain⟨vS,A,cc,h⟩:=h.2.2.2.none;exact⟨_, _, _, _, _, _, _, _, _,h⟩
 ·obtain⟨vS,A,cc,h⟩:=L2.none h.2.2;exact⟨_, _, _, _, _, _, _, _, _,h⟩
theorem L2.low {B lb mb r:Nat} {vN vM a b c:Value} {names:List Bt} {mods:List eH} {w w':World} {sc:List (List jN)} {bad:List kT} (h:L2 B lb mb vN vM a b c names mods w sc bad) (t:Turn (fun j=>j=r) w w') (hr:r<lb) (hm:r≠mb):L2 B lb mb vN vM a b c names mods w' sc bad:=by
 obtain⟨vS,vB,F,h1,h2,h3,⟨f1,f2,f3,f4,f5,xm,f6,f7⟩,h5,h6⟩:=h;have hd:∀g,g<w.heap.size→wK B lb g→¬g=r:=fun g _ hf e=>by have:=hf.2;omega
 have l2:=h2.lt;have l3:=h3.lt;exact⟨vS,vB,fun j=>j<w.heap.size∧F j,ah h1 t (by omega),h2.turn t (fun g hg e=>by have:=(l2 g hg).1;omega),(h3.turn gB t (fun g hg e=>by have:=(l3 g hg).1;omega) (fun j _ hj e=>by have:=(h5 j hj).2.1;omega)).mono gB (fun j hj h=>⟨(h5 j h).1,h⟩),⟨f1,f2,f3,f4.turn t hd,MapAt.turn f5 t (fun e=>hm e.symm),xm,f6.turn t hd,f7.imp fun _ _ h=>h.turn t hd⟩,fun j hj=>by have:=h5 j hj.2;exact⟨Nat.lt_of_lt_of_le this.1 t.size,this.2⟩,h6⟩
theorem qW.done {l:List jo} {B lb mb:Nat} {vN vM:Value} {w:World} (h:qW l B lb mb vN vM 3 w):∃A1 n1 c1 A2 n2 c2 A3 n3 c3 A cc z4 z5 z6,(∀W r,Turn (fun j=>j=r) w W→r<lb→r≠mb→MV W W.heap.size [.slice A1 n1 c1, .slice A2 n2 c2, .slice A3 n3 c3, .string z4, .int .i64 z5, .int .i64 z6] (eP l).1)∧(eP l).2=[]∧mM w lb (.slice A1 n1 c1) (.slice A2 n2 c2) (.slice A3 n3 c3) (.string z4) (.int .i64 z5) (.int .i64 z6) (.map (some mb)) (.slice A 0 cc):=by
 obtain⟨_,h | h | h | h⟩:=h
 ·exact absurd h.1 (by decide)
 ·exact absurd h.1 (by decide)
 ·exact absurd h.1 (by decide)
 ·obtain⟨_,hl,hM⟩:=h;obtain⟨vS,vB,h1,h2⟩:=O4 (a:= .int .i64 0) (b:= .int .i64 0) (c:= .int .i64 0) hM;obtain⟨OQ,A,cc,h'⟩:=L2.none hM;have e:=h1.symm.trans h';simp only [Option.some.injEq,Obj.cells.injEq,Array.mk.injEq,List.cons.injEq]at e;have hv:=e.1.2.2.2.2.2.2.2.1;subst hv;have hall:∀W r,Turn (fun j=>j=r) w W→r<lb→r≠mb→MV W W.heap.size [vN,vM,vS,sv (iV (l.map (·.name)) (l.map fun s=>aO s.text)).1.name, .int .i64 ((iV (l.map (·.name)) (l.map fun s=>aO s.text)).1.module:Nat), .int .i64 ((iV (l.map (·.name)) (l.map fun s=>aO s.text)).1.decl:Nat)] (eP l).1:=fun W r t hr hm=>by
   obtain⟨vS2,sw,k1,k2⟩:=O4 (a:= .int .i64 0) (b:= .int .i64 0) (c:= .int .i64 0) (L2.low hM t hr hm);have e2:=(ah h1 t (by omega)).symm.trans k1;simp only [Option.some.injEq,Obj.cells.injEq,Array.mk.injEq,List.cons.injEq]at e2;rw [hl,e2.1.2.2.1];exact k2
  obtain⟨x,y,s,xm,xs,ez,k1,k2,k3,k4,k5⟩:=h2;simp only [List.cons.injEq]at ez;obtain⟨rfl,rfl,rfl, _⟩:=ez;obtain⟨A1,n1,c1,e1⟩:=eX k1;obtain⟨A2,n2,c2,e2⟩:=eX k2;obtain⟨A3,n3,c3,e3⟩:=eX k4;subst e1 e2 e3;exact⟨A1,n1,c1,A2,n2,c2,A3,n3,c3,A,cc, _, _, _,hall,by rw [hl],h1⟩
def Mg (l:List jo) (B lb mb:Nat) (vN vM:Value) (k:Nat) (w:World) (e:Ending) (w':World):Prop:=e= .returned (.tuple #[])∧Turn (fun j=>j=lb∨B≤j) w w'∧(FZ l lb w'∨qW l B lb mb vN vM (k+1) w')
theorem Rw {l:List jo} {B lb mb:Nat} {vN vM:Value} {w:World} (h:qW l B lb mb vN vM 0 w) (h16:l.length≤16) (hB:B≤w.heap.size):Calls Tryz.prog 33 #[.pointer (some ⟨lb,0,none⟩)] w (Mg l B lb mb vN vM 0 w):=by
 obtain⟨ht,h | h | h | h⟩:=h
 ·refine(Fy w [] h.2 hB (by simp) (by simpa using h16) (ze l) (by simp)).mono ?_;rintro e w' ⟨rfl,hL,t⟩;refine⟨rfl,t, ?_⟩;by_cases h2:(dz (l.map (·.name)) (l.map fun s=>aO s.text) 0 [] (l.map fun s=>aO s.text)).2=[]
  ·exact .inr ⟨ht, .inr (.inl ⟨rfl,h2,by rw [h2]at hL;exact hL⟩)⟩
  ·exact .inl (hL.bad h2 (Hl ht h2))
 ·exact absurd h.1 (by decide)
 ·exact absurd h.1 (by decide)
 ·exact absurd h.1 (by decide)
theorem Rx {l:List jo} {B lb mb:Nat} {vN vM:Value} {w:World} (h:qW l B lb mb vN vM 1 w) (h16:l.length≤16) (hB:B≤w.heap.size):Calls Tryz.prog 34 #[.pointer (some ⟨lb,0,none⟩)] w (Mg l B lb mb vN vM 1 w):=by
 obtain⟨ht,h | h | h | h⟩:=h
 ·exact absurd h.1 (by decide)
 ·obtain⟨_,h2,hL0⟩:=h;refine(FE w _ hL0 hB (by simp) (by simpa using h16) (ze l)).mono ?_;rintro e w' ⟨rfl,hL,t⟩;refine⟨rfl,t.1, ?_⟩;by_cases h3:fC (l.map (·.name)) (l.map fun s=>aO s.text) 0 (l.map fun s=>aO s.text)=[]
  ·exact .inr ⟨ht, .inr (.inr (.inl ⟨rfl,h2,h3,by rw [h3]at hL;exact hL⟩))⟩
  ·exact .inl (hL.bad h3 (NR ht h2 h3))
 ·exact absurd h.1 (by decide)
 ·exact absurd h.1 (by decide)
theorem Ry {l:List jo} {B lb mb:Nat} {vN vM:Value} {w:World} (h:qW l B lb mb vN vM 2 w) (h16:l.length≤16) (hB:B≤w.heap.size):Calls Tryz.prog 35 #[.pointer (some ⟨lb,0,none⟩)] w (Mg l B lb mb vN vM 2 w):=by
 obtain⟨ht,h | h | h | h⟩:=h
 ·exact absurd h.1 (by decide)
 ·exact absurd h.1 (by decide)
 ·obtain⟨_,h2,h3,hL0⟩:=h;refine(LC w _ hL0 hB (by simp) (by simpa using h16)).mono ?_;rintro e w' ⟨rfl,hL,t⟩;refine⟨rfl,t, ?_⟩;by_cases h4:(iV (l.map (·.name)) (l.map fun s=>aO s.text)).2=[]
  ·refine .inr ⟨ht, .inr (.inr (.inr ⟨rfl,Ho ht h2 h3 h4, ?_⟩))⟩;unfold M2 at hL ⊢;rw [h4]at hL;exact hL
  ·exact .inl (L2.bad hL h4 (NS ht h2 h3 h4))
 ·exact absurd h.1 (by decide)
theorem zh (w:World) (v:Value) (l:List jo) (hv:Sl w w.heap.size 2 v (nX l)) (hls:∀s∈l,s.name.length≤1000∧s.text.length≤70000) (hX:jX w):
  Calls Tryz.prog 15 #[v] w (O5 l w):=by
 have hmm:= @run_makeMap Tryz.prog;have Pt:∀(fn:Fn) (first cap:Array Value) (w:World),(Instr.makeFunc fn first cap).run Tryz.prog w= .ok (.func fn first cap) w:=fun _ _ _ _=>rfl;obtain⟨W,hW⟩:∃W,((w.alloc (.cells #[.slice none 0 0, .slice none 0 0, .slice none 0 0, .string ⟨#[]⟩, .int .i64 0, .int .i64 0] 31)).alloc (.map #[] 0)).alloc (.cells #[.slice none 0 0, .slice none 0 0, .slice none 0 0, .string ⟨#[]⟩, .int .i64 0, .int .i64 0, .map (some (w.heap.size+1)), .slice none 0 0] 79)=W:=⟨_,rfl⟩
 obtain⟨t0,h3,q0,q1,q2⟩:=nW (G:=fun _=>False) (Turn.refl _ (((w.alloc (.cells #[.slice none 0 0, .slice none 0 0, .slice none 0 0, .string ⟨#[]⟩, .int .i64 0, .int .i64 0] 31)).alloc (.map #[] 0)).alloc (.cells #[.slice none 0 0, .slice none 0 0, .slice none 0 0, .string ⟨#[]⟩, .int .i64 0, .int .i64 0, .map (some (w.heap.size+1)), .slice none 0 0] 79)));have hs1:(w.alloc (.cells #[.slice none 0 0, .slice none 0 0, .slice none 0 0, .string ⟨#[]⟩, .int .i64 0, .int .i64 0] 31)).heap.size=w.heap.size+1:=by simp
 have hnm:=(NU (w.alloc (.cells #[.slice none 0 0, .slice none 0 0, .slice none 0 0, .string ⟨#[]⟩, .int .i64 0, .int .i64 0] 31))).turn (Turn.alloc (fun _=>False) _ (.cells #[.slice none 0 0, .slice none 0 0, .slice none 0 0, .string ⟨#[]⟩, .int .i64 0, .int .i64 0, .map (some (w.heap.size+1)), .slice none 0 0] 79)) id;have Sc:W.heap.size=w.heap.size+3:=by rw [←hW];simp
 rw [hs1]at hnm;rw [hW]at t0 q0 q2 hnm;have hbW:Below w.heap.size w W:=t0.below (Nat.le_refl _) (fun _ _=>id);have hP:=Mf (w:=w) hnm (q2 id);have HRB:=hid (q0 id);have hpp:w.heap.size≤w.heap.size+1+1∧w.heap.size≤w.heap.size+1∧w.heap.size+1+1<W.heap.size∧w.heap.size+1<W.heap.size∧w.heap.size+1≠w.heap.size+1+1∧W.heap.size≤W.heap.size:=⟨by omega,by omega,by omega,by omega,by omega,Nat.le_refl _⟩
 have HW:=hid hW;have Ug:=hid hbW;have hshape:∃A c,v= .slice A l.length c:=bP hv (by omega) (gy jS l);obtain⟨A,c,rfl⟩:=hshape;obtain⟨_,hnc,hc63⟩:=cB hv;obtain⟨w0,hw0⟩:∃w0,w.alloc (.cells #[.slice none 0 0, .slice none 0 0, .slice none 0 0, .string ⟨#[]⟩, .int .i64 0, .int .i64 0] 31)=w0:=⟨_,rfl⟩
 have hR0:w0.heap[w.heap.size]? =some (.cells #[.slice none 0 0, .slice none 0 0, .slice none 0 0, .string ⟨#[]⟩, .int .i64 0, .int .i64 0] 31 (0,0)):=by rw [←hw0];exact oF _ _
 have hb0:Below w0.heap.size w0 W:=by rw [←hw0, ←hW];exact(kK (G:=fun _=>False) (Turn.refl _ _)).1.below (Nat.le_refl _) (fun _ _=>id)
 rw [hw0]at hs1;have hbw:Below w.heap.size w w0:=by rw [←hw0];exact(Turn.alloc (fun _=>False) _ _).below (Nat.le_refl _) (fun _ _=>id)
 have hlX:=hid (hX.below hbw);have Zg:=hid (Sl.more (Sl.below hv hbw) hbw.size);have HP:Calls Tryz.prog 32 #[.pointer (some ⟨w.heap.size+1+1,0,none⟩), .slice A l.length c] W fun e w1=>e= .returned (.tuple #[])∧(FZ l (w.heap.size+1+1) w1∨gT l=[]∧l.length≤16∧P1 W.heap.size (w.heap.size+1+1) (w.heap.size+1) (l.map (·.name)) (l.map (·.name)) (l.map fun s=>aO s.text) [] w1)∧Below w0.heap.size w0 w1∧W.heap.size≤w1.heap.size:=by
  by_cases h16:16<l.length
  ·refine(DT w0 W (w.heap.size+1+1) (w.heap.size+1) W.heap.size (.slice A l.length c) l Zg.out h16 hb0 hP ⟨by omega,by omega,by omega,by omega,by omega,by omega⟩).mono ?_;rintro e w1 ⟨rfl,hP1,hb1,zP⟩;have ht:gT l=[⟨16,1,1,19⟩]:=by unfold gT;rw [if_pos h16]
   refine⟨rfl, .inl ?_,hb1,zP⟩;obtain⟨vN,vM,vB,F,h1,h2, _⟩:=hP1;exact⟨_, _, _, _, _, _, _, _,vB,[⟨16,1,1,19⟩],by simp,by rw [←ht];exact Hg (by rw [ht];simp),h1,h2⟩
  ·refine(FW w0 W (w.heap.size+1+1) (w.heap.size+1) W.heap.size (.slice A l.length c) l Zg.out (by omega) hls hb0 hlX.out hP ⟨by omega,by omega,by omega,by omega,by omega,by omega⟩).mono ?_;rintro e w1 ⟨rfl,hP1,hb1,zP⟩;rw [F3,Jt, ←Js (by omega)]at hP1;by_cases ht:gT l=[]
   ·rw [ht]at hP1;exact⟨rfl, .inr ⟨ht,by omega,hP1⟩,hb1,zP⟩
   ·refine⟨rfl, .inl ?_,hb1,zP⟩;obtain⟨vN,vM,vB,F,h1,h2, _⟩:=hP1;exact⟨_, _, _, _, _, _, _, _,vB,gT l,ht,Hg ht,h1,h2⟩
 have HL:=hid HP;have HBw:=hid hbw;have HR0:=hid hR0;have hsz0:=hid hs1;have hszW:=hid Sc;clear hv hls hX hnm q0 q1 q2 t0 hP hbW hW h3 HP Zg hlX hw0 hb0 hbw hR0 hs1 Ug HRB hpp Sc;go_enter Tryz.func15,Tryz.ntmps15;go_wp2_with fail;rw [HW.out];refine(HL.out).mono ?_;rintro e w1 ⟨rfl,hSt,hb1,zP⟩;have wG:=hid hSt;have HB1:=hid hb1;have HZ1:=hid zP;clear hSt hb1 zP;go_wp2_with fail;obtain⟨W3,hW3⟩:∃W3,w1.alloc (.cells #[.func (.func 33) #[.pointer (some ⟨w.heap.size+1+1,0,none⟩)] #[], .func (.func 34) #[.pointer (some ⟨w.heap.size+1+1,0,none⟩)] #[], .func (.func 35) #[.pointer (some ⟨w.heap.size+1+1,0,none⟩)] #[]] 1)=W3:=⟨_,rfl⟩
 rw [hW3];have hb3:Below w1.heap.size w1 W3:=by rw [←hW3];exact(Turn.alloc (fun _=>False) _ _).below (Nat.le_refl _) (fun _ _=>id)
 have Zh:=oF w1 (.cells #[.func (.func 33) #[.pointer (some ⟨w.heap.size+1+1,0,none⟩)] #[], .func (.func 34) #[.pointer (some ⟨w.heap.size+1+1,0,none⟩)] #[], .func (.func 35) #[.pointer (some ⟨w.heap.size+1+1,0,none⟩)] #[]] 1);rw [hW3]at Zh;have hz3:W3.heap.size=w1.heap.size+1:=by rw [←hW3];simp
 have hR3:=(hb3.mono (HB1.out.size)).block _ (by rw [hsz0.out];omega) |>.trans ((HB1.out.block _ (by rw [hsz0.out];omega)).trans HR0.out);have hS3:FZ l (w.heap.size+1+1) W3∨l.length≤16∧∃vN vM,qW l W3.heap.size (w.heap.size+1+1) (w.heap.size+1) vN vM 0 W3:=by
  rcases wG.out with h | ⟨ht,h16,hP⟩
  ·obtain⟨base,a0,a1,a2,a3,a4,a5,a6,vB,bad,k1,k2,k3,k4⟩:=h;exact .inl ⟨base,a0,a1,a2,a3,a4,a5,a6,vB,bad,k1,k2,ah k3 (Turn.of_below hb3 (F:=fun _=>False)) id,k4.turn (Turn.of_below hb3 (F:=fun _=>False)) (fun _ _=>id)⟩
  ·obtain⟨vN,vM,hL⟩:=Vn (hP.below hb3) (by rw [hszW.out];omega) (by rw [hszW.out];omega) (by omega) (Nat.le_trans HZ1.out hb3.size);exact .inr ⟨h16,vN,vM,ht, .inl ⟨rfl,hL⟩⟩
 have UL:=hid Zh;have Sb:=hid (show ¬(w1.heap.size=w.heap.size+1+1∨W3.heap.size≤w1.heap.size) by have:=HZ1.out;have:=hszW.out;omega);have Sm:=hid (show ¬(w.heap.size=w.heap.size+1+1∨W3.heap.size≤w.heap.size) by have:=HZ1.out;have:=hszW.out;omega);have Ug:=hid ((HBw.out.trans (HB1.out.mono HBw.out.size)).trans (hb3.mono (by have:=HZ1.out;have:=hszW.out;omega)));have HR3:=hid hR3;have ME:=hid hS3;have HB3:=hid hb3;have HZ3:=hid hz3;have HW3:=hid hW3;clear Zh hR3 hS3 hb3 hz3 hW3;go_loopw [21] (fun v21 wr=>∃k:Nat,v21= .int .i64 k∧k≤3∧Turn (fun j=>j=w.heap.size+1+1∨W3.heap.size≤j) W3 wr∧(FZ l (w.heap.size+1+1) wr∨l.length≤16∧∃vN vM,qW l W3.heap.size (w.heap.size+1+1) (w.heap.size+1) vN vM k wr)) (fun v21 _=>3 - (intOf v21).toNat)
 case atStart=>exact⟨0,rfl,by omega,Turn.refl _ _,ME.out⟩
 case round=>
  obtain⟨k,rfl,hk,hT,hs⟩:=hrel;rcases(show k=0∨k=1∨k=2∨k=3 by omega)with rfl | rfl | rfl | rfl
  ·have YK:=(cells3 (ah UL.out hT Sb.out)).1;rcases hs with hs | ⟨h16,vN,vM,hs⟩
   ·obtain⟨a0,a1,a2,a3,a4,a5,a6,A7,c7,bad,hbn,hbl,hblk,hsl⟩:=hs.blk;obtain⟨p0,p1,p2,p3,p4,p5,p6,p7,pz⟩:=aH hblk;have hb0:¬((bad.length:Int)=0):=by have:=List.length_pos_iff.2 hbn;omega
    have HS:=hid hs;have HT:=hid hT;clear hs hT hbn hbl hblk hsl p0 p1 p3 p4 p5 p6 pz;go_wp2_with fail;exact⟨⟨1,rfl,by omega,HT.out, .inl HS.out⟩,by simp [intOf]⟩
   ·obtain⟨a0,a1,a2,a3,a4,a5,a6,A7,c7,hblk⟩:=hs.none;obtain⟨p0,p1,p2,p3,p4,p5,p6,p7,pz⟩:=aH hblk;have HC:=hid (Rw hs h16 hT.size);have HT:=hid hT;have Vp:=hid h16;clear hs hT h16 hblk p0 p1 p3 p4 p5 p6 pz;go_wp2_with fail;refine(HC.out).mono ?_;rintro e w5 ⟨rfl,JA,hs5⟩;have fO:=hid (HT.out.trans JA (fun _ _ h=>h));have u6:=hid hs5;clear JA hs5;go_wp2_with fail;exact⟨⟨1,rfl,by omega,fO.out,u6.out.imp id fun h=>⟨Vp.out,vN,vM,h⟩⟩,by simp [intOf]⟩
  ·have YK:=(cells3 (ah UL.out hT Sb.out)).2.1;rcases hs with hs | ⟨h16,vN,vM,hs⟩
   ·obtain⟨a0,a1,a2,a3,a4,a5,a6,A7,c7,bad,hbn,hbl,hblk,hsl⟩:=hs.blk;obtain⟨p0,p1,p2,p3,p4,p5,p6,p7,pz⟩:=aH hblk;have hb0:¬((bad.length:Int)=0):=by have:=List.length_pos_iff.2 hbn;omega
    have HS:=hid hs;have HT:=hid hT;clear hs hT hbn hbl hblk hsl p0 p1 p3 p4 p5 p6 pz;go_wp2_with fail;exact⟨⟨2,rfl,by omega,HT.out, .inl HS.out⟩,by simp [intOf]⟩
   ·obtain⟨a0,a1,a2,a3,a4,a5,a6,A7,c7,hblk⟩:=hs.none;obtain⟨p0,p1,p2,p3,p4,p5,p6,p7,pz⟩:=aH hblk;have HC:=hid (Rx hs h16 hT.size);have HT:=hid hT;have Vp:=hid h16;clear hs hT h16 hblk p0 p1 p3 p4 p5 p6 pz;go_wp2_with fail;refine(HC.out).mono ?_;rintro e w5 ⟨rfl,JA,hs5⟩;have fO:=hid (HT.out.trans JA (fun _ _ h=>h));have u6:=hid hs5;clear JA hs5;go_wp2_with fail;exact⟨⟨2,rfl,by omega,fO.out,u6.out.imp id fun h=>⟨Vp.out,vN,vM,h⟩⟩,by simp [intOf]⟩
  ·have YK:=(cells3 (ah UL.out hT Sb.out)).2.2.1;rcases hs with hs | ⟨h16,vN,vM,hs⟩
   ·obtain⟨a0,a1,a2,a3,a4,a5,a6,A7,c7,bad,hbn,hbl,hblk,hsl⟩:=hs.blk;obtain⟨p0,p1,p2,p3,p4,p5,p6,p7,pz⟩:=aH hblk;have hb0:¬((bad.length:Int)=0):=by have:=List.length_pos_iff.2 hbn;omega
    have HS:=hid hs;have HT:=hid hT;clear hs hT hbn hbl hblk hsl p0 p1 p3 p4 p5 p6 pz;go_wp2_with fail;exact⟨⟨3,rfl,by omega,HT.out, .inl HS.out⟩,by simp [intOf]⟩
   ·obtain⟨a0,a1,a2,a3,a4,a5,a6,A7,c7,hblk⟩:=hs.none;obtain⟨p0,p1,p2,p3,p4,p5,p6,p7,pz⟩:=aH hblk;have HC:=hid (Ry hs h16 hT.size);have HT:=hid hT;have Vp:=hid h16;clear hs hT h16 hblk p0 p1 p3 p4 p5 p6 pz;go_wp2_with fail;refine(HC.out).mono ?_;rintro e w5 ⟨rfl,JA,hs5⟩;have fO:=hid (HT.out.trans JA (fun _ _ h=>h));have u6:=hid hs5;clear JA hs5;go_wp2_with fail;exact⟨⟨3,rfl,by omega,fO.out,u6.out.imp id fun h=>⟨Vp.out,vN,vM,h⟩⟩,by simp [intOf]⟩
  ·have hRR:=ah HR3.out hT Sm.out;have hbe:Below w.heap.size w wr:=Ug.out.trans (hT.below (by have:=HZ3.out;have:=HZ1.out;have:=hszW.out;omega) (fun j hj h=>by have:=HZ3.out;have:=HZ1.out;have:=hszW.out;omega));rcases hs with hs | ⟨h16,vN,vM,hs⟩
   ·obtain⟨a0,a1,a2,a3,a4,a5,a6,A7,c7,bad,hbn,hbl,hblk,hsl⟩:=hs.blk;obtain⟨p0,p1,p2,p3,p4,p5,p6,p7,pz⟩:=aH hblk;have hb0:(0:Int)<bad.length:=by have:=List.length_pos_iff.2 hbn;omega
    have Bz:=hid hbl;have HSL:=hid hsl;have HRR:=hid hRR;have O6:=hid hbe;have fQ:=hid p7;have SF:=hid hblk;clear hs hT hbn hbl hblk hsl p0 p1 p2 p3 p4 p5 p6 pz hRR hbe;go_wp2_with fail;have hNB:=hid (show w.heap.size≠w.heap.size+1+1 by omega);refine wp_region_held_drew (S:=fun w'=>w'.cell? ⟨w.heap.size+1+1,7,none⟩=some (.slice A7 bad.length c7)) (by kernel_rfl) fQ.out (fun _=> ?_)
    try simp only [Act.put,List.getElem_toArray,List.getElem_cons_zero,List.getElem_cons_succ,List.setIfInBounds_toArray,List.set_cons_zero,List.set_cons_succ]
    refine tk 0 (.agg #[.slice none 0 0, .slice none 0 0, .slice none 0 0, .string ⟨#[]⟩, .int .i64 0, .int .i64 0]) fQ.out ?_;refine tk 1 (.pointer (some ⟨w.heap.size+1+1,0,none⟩)) fQ.out ?_;refine tk 2 (.pointer (some ⟨w.heap.size+1+1,0,none⟩)) fQ.out ?_;refine tk 3 (.pointer (some ⟨w.heap.size+1+1,7,none⟩)) fQ.out ?_;refine sZ 4 (.slice A7 bad.length c7) (fun _ h=>h) fQ.out ?_;refine wpAnyH_ready (rs:=[5]) (by kernel_rfl) (by simp) ?_;refine AllReadyH.cons rfl (fun K hK=> ?_) AllReadyH.nil;obtain⟨z0,z1,z2,z3,z4,z5,zz⟩:=BO HRR.out;go_simp;obtain⟨W8,qg⟩:∃W8,NT wr w.heap.size (.slice none 0 0) (.slice none 0 0) (.slice none 0 0) (.string ⟨#[]⟩) (.int .i64 0) (.int .i64 0)=W8:=⟨_,rfl⟩
    have Rz:=AQ wr w.heap.size (.slice none 0 0) (.slice none 0 0) (.slice none 0 0) (.string ⟨#[]⟩) (.int .i64 0) (.int .i64 0);have Vq:=zf HRR.out (.slice none 0 0) (.slice none 0 0) (.slice none 0 0) (.string ⟨#[]⟩) (.int .i64 0) (.int .i64 0);rw [qg]at Rz Vq;have RA:=qg;unfold NT at RA;rw [RA];have hblk2:=ah SF.out Rz (fun e=>hNB.out e.symm);obtain⟨W9,GJ⟩:∃W9,W8.drew=W9:=⟨_,rfl⟩
    have RB:Turn (fun k=>k=w.heap.size) wr W9:=by rw [←GJ];exact Rz.trans (Turn.of_below (bF W8 1) (F:=fun k=>k=w.heap.size)) (fun _ _ h=>h)
    have Vr:W9.heap[w.heap.size]? =some (.cells #[.slice none 0 0, .slice none 0 0, .slice none 0 0, .string ⟨#[]⟩, .int .i64 0, .int .i64 0] 31 (0,0)):=by rw [←GJ];exact Vq
    have jH:W9.heap[w.heap.size+1+1]? =some (.cells #[a0,a1,a2,a3,a4,a5,a6, .slice A7 bad.length c7] 79 (0,0)):=by rw [←GJ];exact hblk2
    rw [GJ];have HPB:=hid Vr;have PW:=hid (HSL.out _ _ _ _ HRR.out (by decide) RB);have HPT:=hid RB;have wB:=hid (aH jH).2.2.2.2.2.2.2.1;clear hblk2 Vq Rz RB Vr jH qg RA z0 z1 z2 z3 z4 z5 zz;refine hK.out _ _ wB.out (fun _=> ?_);clear hK K
    try simp only [Act.put,List.getElem_toArray,List.getElem_cons_zero,List.getElem_cons_succ,List.setIfInBounds_toArray,List.set_cons_zero,List.set_cons_succ]
    refine tk 6 (.slice A7 bad.length c7) wB.out ?_;refine wpAnyH_done (by kernel_rfl) ?_ _;go_wp2_with fail;refine bodyPost_ret (oH rfl rfl rfl HPB.out rfl rfl rfl) rfl ?_;refine⟨O6.out.trans (HPT.out.below O6.out.size (fun j hj e=>by omega)),[.slice none 0 0, .slice none 0 0, .slice none 0 0, .string ⟨#[]⟩, .int .i64 0, .int .i64 0], _,rfl, ?_, ?_⟩
    ·rw [Bz.out];exact NQ _
    ·rw [Bz.out];exact PW.out
   ·obtain⟨A1,n1,c1,A2,n2,c2,A3,n3,c3,A7,c7,y3,y4,y5,hz,hl2,hblk⟩:=hs.done;obtain⟨p0,p1,p2,p3,p4,p5,p6,p7,pz⟩:=aH hblk;obtain⟨z0,z1,z2,z3,z4,z5,zz⟩:=BO hRR;have HLI:=hid hz;have HL2:=hid hl2;have HRR:=hid hRR;have O6:=hid hbe;clear hs hT hblk hRR hbe hz hl2;go_wp2_with fail;have Vq:=zf HRR.out (.slice A1 n1 c1) (.slice A2 n2 c2) (.slice A3 n3 c3) (.string y3) (.int .i64 y4) (.int .i64 y5);have Rz:=AQ wr w.heap.size (.slice A1 n1 c1) (.slice A2 n2 c2) (.slice A3 n3 c3) (.string y3) (.int .i64 y4) (.int .i64 y5);refine bodyPost_ret (oH rfl rfl rfl Vq rfl rfl rfl) rfl ?_;refine⟨O6.out.trans (Rz.below O6.out.size (fun j hj e=>by omega)),[.slice A1 n1 c1, .slice A2 n2 c2, .slice A3 n3 c3, .string y3, .int .i64 y4, .int .i64 y5], _,rfl, ?_, ?_⟩
    ·exact HLI.out _ _ Rz (by omega) (by omega)
    ·rw [HL2.out];exact xK _ _ _
def F4:Nat→List jo→Bool
 | _,[]=>true
 | n,s :: l=>if 70000<s.text.length+n∨1000<s.name.length then false else F4 (n+s.text.length) l
def zi (l:List jo):Bool:=if 20<l.length then false else F4 0 l
theorem DZ:∀(l:List jo) (n:Nat),F4 n l=true→∀s∈l,s.name.length≤1000∧s.text.length+n≤70000
 | [], _, _,s,hs=>by cases hs
 | x :: l,n,h,s,hs=>by
  unfold F4 at h;split at h
  ·cases h
  ·rcases List.mem_cons.1 hs with rfl | hs
   ·omega
   ·have:=DZ l _ h s hs;omega
theorem Mh {l:List jo} (h:zi l=true):∀s∈l,s.name.length≤1000∧s.text.length≤70000:=by
 unfold zi at h;split at h
 ·cases h
 ·intro s hs;have:=DZ l 0 h s hs;omega
theorem NV (w:World) (v:Value) (l:List jo) (hv:Sl w w.heap.size 2 v (nX l)):Calls Tryz.prog 14 #[v] w fun e w'=>e= .returned (.bool (zi l))∧Below w.heap.size w w':=by
 obtain⟨A,c,rfl⟩:=bP hv (by omega) (m:=l.length) (gy jS l);obtain⟨_,hnc,hc63⟩:=cB hv;have HV:=hid hv;clear hv;by_cases h20:20<l.length
 ·have hI:(20:Int)<l.length:=by omega
  have hf:zi l=false:=by unfold zi;exact if_pos h20
  have HF:=hid hf;clear hf;go_enter Tryz.func14,Tryz.ntmps14;go_wp2_with fail;go_ret;exact⟨by rw [HF.out];rfl,Below.refl _ _⟩
 ·have hI:¬(20:Int)<l.length:=by omega
  have hf:zi l=F4 0 l:=by unfold zi;exact if_neg h20
  have HF:=hid hf;clear hf;obtain⟨nl,hnl⟩:∃n,l.length=n:=⟨_,rfl⟩
  rw [hnl]at hI hnc h20 HV ⊢;have Jj:=hid hnl;clear hnl;go_enter Tryz.func14,Tryz.ntmps14;go_wp2_with fail;go_loopw [3,4] (fun v3 v4 wr=>∃n k:Nat,v3= .int .i64 n∧v4= .int .i64 k∧n≤70000∧k≤nl∧zi l=F4 n (l.drop k)∧Below w.heap.size w wr) (fun _ v4 _=>nl - (intOf v4).toNat)
  case atStart=>exact⟨0,0,rfl,rfl,by omega,by omega,by rw [List.drop_zero];exact HF.out,Below.refl _ _⟩
  case round=>
   obtain⟨n,k,rfl,rfl,hn,hk,hf,hb⟩:=hrel;by_cases hkl:k<nl
   ·have hkl':k<l.length:=by rw [Jj.out];exact hkl
    have hdrop:l.drop k=l[k] :: l.drop (k+1):=List.drop_eq_getElem_cons hkl';rw [hdrop,F4]at hf;obtain⟨bs,os,rfl,hbs,c0,c1⟩:=L9 (Sl.below HV.out hb) hkl' Jj.out.symm;obtain⟨s,hs⟩:∃s,l[k]=s:=⟨_,rfl⟩
    rw [hs]at hf c0 c1;obtain⟨nm,tx⟩:=s;simp only at hf c0 c1;have Tn:(k:Int)<nl:=by omega
    by_cases h1:70000<tx.length+n
    ·have h1I:(70000:Int) - n<tx.length:=by omega
     have MP:=hid (hf.trans (if_pos (.inl h1)));have HB:=hid hb;clear hf hs hdrop hb;go_wp2_with fail;go_ret;exact⟨by rw [MP.out];rfl,HB.out⟩
    ·have h1I:¬(70000:Int) - n<tx.length:=by omega
     by_cases h2:1000<nm.length
     ·have h2I:(1000:Int)<nm.length:=by omega
      have MP:=hid (hf.trans (if_pos (.inr h2)));have HB:=hid hb;clear hf hs hdrop hb;go_wp2_with fail;go_ret;exact⟨by rw [MP.out];rfl,HB.out⟩
     ·have h2I:¬(1000:Int)<nm.length:=by omega
      have MP:=hid (hf.trans (if_neg (by omega)));have HB:=hid hb;clear hf hs hdrop hb;go_wp2_with fail;exact⟨⟨n+tx.length,k+1,by simp,by simp,by omega,by omega,MP.out,HB.out⟩,by simp [intOf];omega⟩
   ·have Tn:¬(k:Int)<nl:=by omega
    have hd:l.drop k=[]:=List.drop_eq_nil_of_le (by rw [Jj.out];omega);rw [hd]at hf;have MP:=hid (hf.trans rfl:zi l=true);have HB:=hid hb;clear hf hd hb;go_wp2_with fail;go_ret;exact⟨by rw [MP.out];rfl,HB.out⟩
def AU:List jo:=[⟨[109,97,105,110],[105,109,112,111,114,116,32,97,58,32,102,59,32,102,110,32,109,97,105,110,40,120,41,32,61,32,102,40,120,41,59]⟩,⟨[97],[101,120,112,111,114,116,32,102,110,32,102,40,120,41,32,61,32,120,59]⟩]
def RD:List jo:=[⟨[109,97,105,110],[105,109,112,111,114,116,32,97,58,32,102,59,32,102,110,32,109,97,105,110,40,120,41,32,61,32,120,59]⟩,⟨[97],[105,109,112,111,114,116,32,109,97,105,110,58,32,109,97,105,110,59,32,101,120,112,111,114,116,32,102,110,32,102,40,120,41,32,61,32,120,59]⟩]
def exS:List (List jN):=[[⟨[102],1,0⟩,⟨[109,97,105,110],0,0⟩],[⟨[102],1,0⟩]]
theorem Mi:gT AU=[]:=by kernel_rfl
theorem zk:dz (AU.map (·.name)) (AU.map fun s=>aO s.text) 0 [] (AU.map fun s=>aO s.text)=(exS,[]):=by kernel_rfl
theorem Ju:pO (AU.map (·.name)) (AU.map fun s=>aO s.text) 1=[]:=by kernel_rfl
theorem NW {k:Nat} (h:oJ (AU.map (·.name)) (AU.map fun s=>aO s.text) 1 k):k=1:=by
 induction h with
 | refl=>rfl
 | step h1 h2 ih=>
  rw [ih,Ju]at h2;cases h2
theorem Jv:(aO [105,109,112,111,114,116,32,97,58,32,102,59,32,102,110,32,109,97,105,110,40,120,41,32,61,32,102,40,120,41,59]).imps=[⟨[97],[[102]],1,1⟩]:=by kernel_rfl
theorem Jw:(aO [101,120,112,111,114,116,32,102,110,32,102,40,120,41,32,61,32,120,59]).imps=[]:=by kernel_rfl
theorem NY (l c:Int) (ns:List Bt):iR (AU.map (·.name)) (AU.map fun s=>aO s.text) 0 ⟨[97],ns,l,c⟩=[]:=by
 unfold iR;exact if_neg fun h=>by
  have:=NW h;cases this
theorem F5:fC (AU.map (·.name)) (AU.map fun s=>aO s.text) 0 (AU.map fun s=>aO s.text)=[]:=by
 show fC _ _ 0 [aO _,aO _]=[]
 rw [fC,fC,fC,Jv,Jw,List.flatMap_cons,List.flatMap_nil,List.flatMap_nil,NY];rfl
theorem D5:iV (AU.map (·.name)) (AU.map fun s=>aO s.text)=(⟨iw,0,0⟩,[]):=by kernel_rfl
theorem Mj:eP AU=(⟨AU.map (·.name),AU.map fun s=>aO s.text,exS,⟨iw,0,0⟩⟩,[]):=by
 have h:=Ho (l:=AU) Mi (by rw [zk]) F5 (by rw [D5]);rw [zk,D5]at h;exact h
theorem Mk:gT RD=[]:=by kernel_rfl
theorem zm:(dz (RD.map (·.name)) (RD.map fun s=>aO s.text) 0 [] (RD.map fun s=>aO s.text)).2=[⟨1,1,1,12⟩]:=by kernel_rfl
theorem Ml:eP RD=(uV,[⟨1,1,1,12⟩]):=by
 have h:=Hl (l:=RD) Mk (by rw [zm];simp);rw [zm]at h;exact h
theorem uK {w:World} {B:Nat} {z:List Value} {r:SK} (h:MV w B z r):∃A1 n1 c1 A2 n2 c2 A3 c3 xs,z=[.slice A1 n1 c1, .slice A2 n2 c2, .slice A3 r.scopes.length c3,sv r.main.name, .int .i64 r.main.module, .int .i64 r.main.decl]∧Sl w B 1 (.slice A3 r.scopes.length c3) xs∧bQ (NP w B) 1 xs r.scopes:=by
 obtain⟨vN,vM,vS,xm,xs,rfl,h1,h2,h3,h4,h5⟩:=h;obtain⟨A1,n1,c1,rfl⟩:=eX h1;obtain⟨A2,n2,c2,rfl⟩:=eX h2;obtain⟨A3,c3,rfl⟩:=bP h4 (by omega) (m:=r.scopes.length) h5.len;exact⟨A1,n1,c1,A2,n2,c2,A3,c3,xs,rfl,h4,h5⟩
theorem Vs {w:World} {B:Nat} {A:Option Addr} {n c:Nat} {xs:List Value} {sc:List (List jN)} (h:Sl w B 1 (.slice A n c) xs) (hr:bQ (NP w B) 1 xs sc) {i:Nat} (hi:i<sc.length):∃b o A' c',A=some ⟨b,o,none⟩∧b<B∧w.cell? ⟨b,o+i,none⟩=some (.slice A' sc[i].length c')∧Sl w B 3 (.slice A' sc[i].length c') (zI sc[i]):=by
 have hl:=hr.len;have hn:=(cB h).1;obtain⟨b,o,rfl,hb,hc⟩:=sK h (i:=i) (by omega) (by omega);obtain⟨A',n',c',e,hs⟩:=hr.at i hi;have e0:xs[i*1+0]? =some (.slice A' n' c'):=by
  have:((xs.drop (i*1)).take 1)[0]? =some (.slice A' n' c'):=by rw [e];rfl
  rw [List.getElem?_take_of_lt (by omega),List.getElem?_drop]at this;exact this
 have h0:=hc 0 _ e0;rw [Nat.mul_one,Nat.add_zero]at h0;have hk:=(cB hs).1;have:(zI sc[i]).length=sc[i].length*3:=gy tC _;obtain rfl:sc[i].length=n':=by omega
 exact⟨b,o,A',c',rfl,hb,h0,hs⟩
theorem Vt {w:World} {B:Nat} {A:Option Addr} {n c:Nat} {l:List jN} (hs:Sl w B 3 (.slice A n c) (zI l)) {i:Nat} (hi:i<l.length) (hn:n=l.length):
  ∃b o,A=some ⟨b,o,none⟩∧b<B∧w.cell? ⟨b,o+i*3,none⟩=some (sv l[i].name)∧w.cell? ⟨b,o+i*3+1,none⟩=some (.int .i64 (l[i].module:Nat))∧w.cell? ⟨b,o+i*3+2,none⟩=some (.int .i64 (l[i].decl:Nat)):=by
 obtain⟨b,o,hA,hb,hc⟩:=sK hs (by omega:i<n) (by omega);have h0:=hc 0 _ ((nY tC l i hi 0 (by omega)).trans rfl);have h1:=hc 1 _ ((nY tC l i hi 1 (by omega)).trans rfl);have h2:=hc 2 _ ((nY tC l i hi 2 (by omega)).trans rfl);rw [Nat.add_zero]at h0;rw [←Nat.add_assoc]at h1 h2;exact⟨b,o,hA,hb,h0,h1,h2⟩
theorem NZ {w:World} {B:Nat} {z:List Value} {names:List Bt} {mods:List eH} (h:MV w B z ⟨names,mods,exS,⟨iw,0,0⟩⟩):∃A1 n1 c1 A2 n2 c2 b o c3 b' o' c4,z=[.slice A1 n1 c1, .slice A2 n2 c2, .slice (some ⟨b,o,none⟩) 2 c3, .string ⟨#[109,97,105,110]⟩, .int .i64 0, .int .i64 0]∧b<B∧2≤c3∧c3≤2 ^ 63 - 1∧w.cell? ⟨b,o,none⟩=some (.slice (some ⟨b',o',none⟩) 2 c4)∧b'<B∧2≤c4∧c4≤2 ^ 63 - 1∧w.cell? ⟨b',o',none⟩=some (.string ⟨#[102]⟩)∧w.cell? ⟨b',o'+1,none⟩=some (.int .i64 1)∧w.cell? ⟨b',o'+2,none⟩=some (.int .i64 0):=by
 obtain⟨A1,n1,c1,A2,n2,c2,A3,c3,xs,rfl,h4,h5⟩:=uK h;obtain⟨_,q1,q2⟩:=cB h4;obtain⟨b,o,A',c',rfl,hb,hc,hs⟩:=Vs h4 h5 (i:=0) (show 0<2 by decide);obtain⟨_,q3,q4⟩:=cB hs;obtain⟨b',o',rfl,hb',k0,k1,k2⟩:=Vt (l:=[⟨[102],1,0⟩,⟨[109,97,105,110],0,0⟩]) hs (i:=0) (by simp) rfl;exact⟨A1,n1,c1,A2,n2,c2,b,o,c3,b',o',c',rfl,hb,q1,q2,hc,hb',q3,q4,k0,k1,k2⟩
theorem zn (w:World) (l:List jo) (cs:Array Value) (hX:jX w) (hcs:cs.toList=nX l) (hls:∀s∈l,s.name.length≤1000∧s.text.length≤70000) (hl:l.length≤16):
  Calls Tryz.prog 15 #[.slice (some ⟨w.heap.size,0,none⟩) l.length l.length] (w.alloc (.cells cs 44)) (O5 l (w.alloc (.cells cs 44))):=by
 have hb:Below w.heap.size w (w.alloc (.cells cs 44)):=(Turn.alloc (fun _=>False) _ _).below (Nat.le_refl _) (fun _ _=>id);have hlen:cs.size=l.length*2:=by rw [←Array.length_toList,hcs];exact gy jS l
 have hs:=fT w cs 44 2 l.length hlen (by unfold maxLen;omega);rw [hcs]at hs;refine zh _ _ l ?_ hls (hX.below hb);rw [show(w.alloc (.cells cs 44)).heap.size=w.heap.size+1 by simp];exact hs
theorem F6 (w:World) (hX:jX w):Calls Tryz.prog 13 #[] w fun e w'=>e= .returned (.bool true)∧Below w.heap.size w w':=by
 have HC:=hid (zn w AU #[.string ⟨#[109,97,105,110]⟩, .string ⟨#[105,109,112,111,114,116,32,97,58,32,102,59,32,102,110,32,109,97,105,110,40,120,41,32,61,32,102,40,120,41,59]⟩, .string ⟨#[97]⟩, .string ⟨#[101,120,112,111,114,116,32,102,110,32,102,40,120,41,32,61,32,120,59]⟩] hX rfl (by decide) (by decide));go_enter Tryz.func13,Tryz.ntmps13;go_wp2_with fail;refine(HC.out).mono ?_;rintro e w2 ⟨hb2,z,vb,rfl,hz,hvb⟩;rw [Mj]at hz hvb;obtain⟨A1,n1,c1,A2,n2,c2,b,o,c3,b',o',c4,rfl,q1,q2,q3,q4,q5,q6,q7,q8,q9,Vu⟩:=NZ hz;obtain⟨A5,c5,rfl⟩:=bP hvb (by omega) (m:=0) (by rfl);have RF:Below w.heap.size w w2:=((Turn.alloc (fun _=>False) w _).below (Nat.le_refl _) (fun _ _=>id)).trans (hb2.mono (by simp));have Wh:Below w2.heap.size w2 (w2.alloc (.cells #[.slice A1 n1 c1, .slice A2 n2 c2, .slice (some ⟨b,o,none⟩) 2 c3, .string ⟨#[109,97,105,110]⟩, .int .i64 0, .int .i64 0] 31)):=(Turn.alloc (fun _=>False) _ _).below (Nat.le_refl _) (fun _ _=>id);have RG:=oF w2 (.cells #[.slice A1 n1 c1, .slice A2 n2 c2, .slice (some ⟨b,o,none⟩) 2 c3, .string ⟨#[109,97,105,110]⟩, .int .i64 0, .int .i64 0] 31);have HD:=hid (zn (w2.alloc (.cells #[.slice A1 n1 c1, .slice A2 n2 c2, .slice (some ⟨b,o,none⟩) 2 c3, .string ⟨#[109,97,105,110]⟩, .int .i64 0, .int .i64 0] 31)) RD #[.string ⟨#[109,97,105,110]⟩, .string ⟨#[105,109,112,111,114,116,32,97,58,32,102,59,32,102,110,32,109,97,105,110,40,120,41,32,61,32,120,59]⟩, .string ⟨#[97]⟩, .string ⟨#[105,109,112,111,114,116,32,109,97,105,110,58,32,109,97,105,110,59,32,101,120,112,111,114,116,32,102,110,32,102,40,120,41,32,61,32,120,59]⟩] ((hX.below RF).below Wh) rfl (by decide) (by decide))
 rw [show(w2.alloc (.cells #[.slice A1 n1 c1, .slice A2 n2 c2, .slice (some ⟨b,o,none⟩) 2 c3, .string ⟨#[109,97,105,110]⟩, .int .i64 0, .int .i64 0] 31)).heap.size=w2.heap.size+1 by simp]at HD;obtain⟨W3,hW3⟩:∃W3,w2.alloc (.cells #[.slice A1 n1 c1, .slice A2 n2 c2, .slice (some ⟨b,o,none⟩) 2 c3, .string ⟨#[109,97,105,110]⟩, .int .i64 0, .int .i64 0] 31)=W3:=⟨_,rfl⟩
 have hz3:W3.heap.size=w2.heap.size+1:=by rw [←hW3];simp
 obtain⟨W4,Bw⟩:∃W4,W3.alloc (.cells #[.string ⟨#[109,97,105,110]⟩, .string ⟨#[105,109,112,111,114,116,32,97,58,32,102,59,32,102,110,32,109,97,105,110,40,120,41,32,61,32,120,59]⟩, .string ⟨#[97]⟩, .string ⟨#[105,109,112,111,114,116,32,109,97,105,110,58,32,109,97,105,110,59,32,101,120,112,111,114,116,32,102,110,32,102,40,120,41,32,61,32,120,59]⟩] 44)=W4:=⟨_,rfl⟩
 have Vv:Below W3.heap.size W3 W4:=by rw [←Bw];exact(Turn.alloc (fun _=>False) _ _).below (Nat.le_refl _) (fun _ _=>id)
 rw [hW3]at HD Wh RG;rw [Bw]at HD;have HW3:=hid hW3;have Tj:=hid Bw;have Vw:=hid RF;have QB:=hid Wh;have HAT:=hid RG;have HZ3:=hid hz3;have N7:=hid Vv;have HQ:=hid (show _∧ _∧ _∧ _∧ _∧ _ from⟨q1,q4,q5,q8,q9,Vu⟩);clear hz hvb hX hb2 RF Wh RG hW3 hz3 Bw Vv q1 q4 q5 q8 q9 Vu HC;go_wp2_with fail;rw [HW3.out,Tj.out];refine(HD.out).mono ?_;rintro e w5 ⟨hb5,z,vb,rfl,hz,hvb⟩;rw [Ml]at hz hvb;obtain⟨A6,n6,c6,A7,n7,c7,A8,c8,xs8,rfl, _, _⟩:=uK hz;obtain⟨A9,c9,rfl⟩:=bP hvb (by omega) (m:=1) (by rfl);obtain⟨_,r1,r2⟩:=cB hvb;obtain⟨b9,o9,rfl,Qu,P9⟩:=sK hvb (i:=0) (by decide) (by omega);have e0:w5.cell? ⟨b9,o9,none⟩=some (.int .i64 1):=by have h:=P9 0 _ rfl;rw [show o9+(0*4+0)=o9 by omega]at h;exact h
 have e1:w5.cell? ⟨b9,o9+1,none⟩=some (.int .i64 1):=by have h:=P9 1 _ rfl;rw [show o9+(0*4+1)=o9+1 by omega]at h;exact h
 have e2:w5.cell? ⟨b9,o9+2,none⟩=some (.int .i64 1):=by have h:=P9 2 _ rfl;rw [show o9+(0*4+2)=o9+2 by omega]at h;exact h
 have e3:w5.cell? ⟨b9,o9+3,none⟩=some (.int .i64 12):=by have h:=P9 3 _ rfl;rw [show o9+(0*4+3)=o9+3 by omega]at h;exact h
 obtain⟨q1,q4,q5,q8,q9,Vu⟩:=HQ.out;have D6:Below w2.heap.size w2 w5:=(QB.out.trans (N7.out.mono QB.out.size)).trans (hb5.mono (Nat.le_trans QB.out.size N7.out.size));have RH:Below W3.heap.size W3 w5:=N7.out.trans (hb5.mono N7.out.size);obtain⟨p0,p1,p2,p3,p4,p5,pz⟩:=BO ((RH.block _ (by rw [HZ3.out];omega)).trans HAT.out);have s1:=(D6.cell (p:=⟨b,o,none⟩) q1).trans q4;have s2:=(D6.cell (p:=⟨b',o',none⟩) q5).trans q8;have s3:=(D6.cell (p:=⟨b',o'+1,none⟩) q5).trans q9;have s4:=(D6.cell (p:=⟨b',o'+2,none⟩) q5).trans Vu;have t1:b<w5.heap.size:=Nat.lt_of_lt_of_le q1 D6.size;have t2:b'<w5.heap.size:=Nat.lt_of_lt_of_le q5 D6.size;have t3:w2.heap.size<w5.heap.size:=by have:=RH.size;rw [HZ3.out]at this;omega
 have Vx:=hid (Vw.out.trans (D6.mono Vw.out.size));clear hz hvb P9 q1 q4 q5 q8 q9 Vu D6 RH hb5;go_wp2_with fail;go_ret;refine⟨rfl,Vx.out.trans ((Turn.alloc (fun _=>False) _ _).below Vx.out.size (fun _ _=>id))⟩
def Mq (mods:List eH) (i:Nat) (e:jN):Prop:=∃m d,mods[e.module]? =some m∧m.decls[e.decl]? =some d∧d.name=e.name∧(e.module=i∨d.exp=true)
def F7 (mods:List eH) (i:Nat) (l:List jN):Prop:=(∀e∈l,Mq mods i e)∧(l.map (·.name)).Nodup
theorem Jy {s:Bt} {l:List jN}:lH s l=true↔s∈l.map (·.name):=by
 unfold lH;rw [List.any_eq_true,List.mem_map];exact⟨fun⟨e,h1,h2⟩=>⟨e,h1,by simpa using h2⟩,fun⟨e,h1,h2⟩=>⟨e,h1,by simpa using h2⟩⟩
theorem F7.snoc {mods:List eH} {i:Nat} {l:List jN} {e:jN} (h:F7 mods i l) (he:Mq mods i e) (hn:lH e.name l=false):F7 mods i (l++[e]):=by
 refine⟨fun x hx=> ?_, ?_⟩
 ·rcases List.mem_append.1 hx with hx | hx
  ·exact h.1 x hx
  ·obtain rfl:x=e:=by simpa using hx
   exact he
 ·rw [List.map_append,List.nodup_append];refine⟨h.2,by simp,fun a ha b hb=> ?_⟩;obtain rfl:b=e.name:=by simpa using hb
  rintro rfl;rw [Jy.2 ha]at hn;cases hn
theorem zo (s:Bt):(mV s).2.2=0↔(cK bC s).1.isSome=true:=by
 unfold mV;rcases hq:cK bC s with⟨_ | a,d⟩
 ·refine⟨fun h=> ?_,fun h=>by cases h⟩;rcases FP Sf.module hq with⟨h1,rfl⟩ | ⟨_, _,h1⟩
  ·exact absurd h h1
  ·have h:d.2.2=0:=h;omega
 ·refine⟨fun _=>rfl,fun _=> ?_⟩;obtain⟨h1, _⟩:=pW Sf.module (by rw [hq]);rw [hq]at h1;injection h1 with _ h1;rw [h1]
theorem wD:∀(l m:List jo) (i:Nat) (had:List Bt),l.map (·.name)=m.map (·.name)→(∀(j:Nat) (a b:jo),l[j]? =some a→m[j]? =some b→((mV a.text).2.2=0↔(mV b.text).2.2=0))→(iq i had l).length=(iq i had m).length
 | [],m,i,had,hn, _=>by
  obtain rfl:m=[]:=by simpa using hn.symm
  rfl
 | a :: l,[],i,had,hn, _=>by simp at hn
 | a :: l,b :: m,i,had,hn,h=>by
  rw [List.map_cons,List.map_cons]at hn;injection hn with h1 h2;have h1:a.name=b.name:=h1;unfold iq;rw [List.length_append,List.length_append,h1,wD l m (i+1) (had++[b.name]) h2 (fun j x y hx hy=>h (j+1) x y hx hy)];congr 1;have h3:=h 0 a b rfl rfl;unfold iQ;rw [h1];by_cases c1:sI b.name=false
  ·rw [if_pos c1,if_pos c1]
  ·rw [if_neg c1,if_neg c1];by_cases c2:b.name∈had
   ·rw [if_pos c2,if_pos c2]
   ·rw [if_neg c2,if_neg c2];by_cases c3:(mV a.text).2.2=0
    ·rw [if_neg (by simp [c3]),if_neg (by simp [h3.1 c3])]
    ·rw [if_pos c3,if_pos (fun h=>c3 (h3.2 h))];rfl
theorem zq {l m:List jo} (hn:l.map (·.name)=m.map (·.name)) (hp:∀(j:Nat) (a b:jo),l[j]? =some a→m[j]? =some b→(cK bC a.text).1=(cK bC b.text).1):
  (eP l).2.length=(eP m).2.length∧(eP l).1.scopes=(eP m).1.scopes∧(eP l).1.main=(eP m).1.main:=by
 have hlen:l.length=m.length:=by have:=congrArg List.length hn;simpa using this
 have h1:(gT l).length=(gT m).length:=by
  unfold gT;rw [hlen];split
  ·rfl
  ·exact wD l m 0 [] hn fun j a b ha hb=>by rw [zo,zo,hp j a b ha hb]
 have h2:(l.map fun s=>aO s.text)=m.map fun s=>aO s.text:=by
  apply List.ext_getElem?;intro j;rw [List.getElem?_map,List.getElem?_map];cases ha:l[j]? with
  | none=>
   rw [List.getElem?_eq_none_iff]at ha;rw [List.getElem?_eq_none_iff.2 (by omega)]
  | some a=>
   have hj:=(List.getElem?_eq_some_iff.1 ha).1;obtain⟨b,hb⟩:∃b,m[j]? =some b:=⟨m[j]'(by omega),List.getElem?_eq_getElem (by omega)⟩
   rw [hb];simp only [Option.map_some];unfold aO;rw [hp j a b ha hb]
 have h3:gT l=[]↔gT m=[]:=by
  rw [←List.length_eq_zero_iff, ←List.length_eq_zero_iff,h1]
 unfold eP;simp only;rw [hn,h2];by_cases c1:gT m=[]
 ·have c2:=h3.2 c1;simp only [c1,c2,ne_eq,not_true_eq_false,if_false];exact⟨trivial,trivial,trivial⟩
 ·have c2:¬gT l=[]:=fun h=>c1 (h3.1 h);simp only [c1,c2,ne_eq,not_false_eq_true,if_true];exact⟨h1,trivial,trivial⟩
theorem RI:iF Tryz.prog 22 44 (.agg #[.string ByteArray.empty, .string ByteArray.empty]) 2 32:=⟨Tryz.underlying22,by kernel_rfl,rfl,by omega⟩
theorem Mr (l:List jo):∀u∈nX l,u.oneCell'=true:=by
 intro u hu;obtain⟨s, _,hs⟩:=List.mem_flatMap.1 hu;simp only [RS,List.mem_cons,List.not_mem_nil,or_false]at hs;rcases hs with rfl | rfl <;> rfl
theorem D7:∀(l:List jo) (i:Nat) (hi:i<l.length) (t:Bt),(nX l).set (i*2+1) (sv t)=nX (l.set i ⟨(l[i]'hi).name,t⟩)
 | s :: l,0, _,t=>rfl
 | s :: l,i+1,hi,t=>by
  have e:∀(x:jo) (r:List jo),nX (x :: r)=sv x.name :: sv x.text :: nX r:=fun _ _=>rfl;rw [List.set_cons_succ,e,e,show(i+1)*2+1=(i*2+1)+1+1 by omega,List.set_cons_succ,List.set_cons_succ,D7 l i (by simpa using hi) t];rfl
theorem BP {l:List jo} {i:Nat} (hi:i<l.length) (t:Bt):l.map (·.name)=(l.set i ⟨l[i].name,t⟩).map (·.name):=by
 rw [List.map_set];apply List.ext_getElem?;intro j;rw [List.getElem?_set];split
 ·rename_i h
  subst h;rw [if_pos (by simpa using hi),List.getElem?_map,List.getElem?_eq_getElem hi];rfl
 ·rfl
theorem D8 {l:List jo} {i:Nat} (hi:i<l.length) (h6:l[i].text.length≤60000):∀(j:Nat) (a b:jo),l[j]? =some a→(l.set i ⟨l[i].name,l[i].text++jE⟩)[j]? =some b→(cK bC a.text).1=(cK bC b.text).1:=by
 intro j a b ha hb;rw [List.getElem?_set]at hb;by_cases hj:i=j
 ·subst hj;rw [if_pos rfl,if_pos hi]at hb;injection hb with hb;subst hb;rw [List.getElem?_eq_getElem hi]at ha;injection ha with ha;subst ha;exact(LW (by omega)).symm
 ·rw [if_neg hj,ha]at hb;injection hb with hb;subst hb;rfl
theorem zu (w:World) (v:Value) (l:List jo) (k:Int) (hv:Sl w w.heap.size 2 v (nX l)) (hX:jX w):Calls Tryz.prog 6 #[v, .int .i64 k] w fun e w'=>e= .returned (.bool true)∧Below w.heap.size w w':=by
 have HA:=hid (F6 w hX);obtain⟨A0,c0,rfl⟩:=bP hv (by omega) (m:=l.length) (gy jS l);have hq0:=(cB hv).2;have HV:=hid hv;have HX:=hid hX;clear hv hX;go_enter Tryz.func6,Tryz.ntmps6;go_wp2_with fail;refine(HA.out).mono ?_;rintro e w1 ⟨rfl,hb1⟩;have HF:=hid (NV w1 _ l (Sl.more (Sl.below HV.out hb1) hb1.size));have HB1:=hid hb1;clear hb1;go_wp2_with fail;refine(HF.out).mono ?_;rintro e w2 ⟨rfl,hb2⟩;have HB2:=hid (HB1.out.trans (hb2.mono HB1.out.size));clear hb2;cases hfe:zi l with
 | false=>
  clear hfe;go_wp2_with fail;go_ret;exact⟨rfl,HB2.out⟩
 | true=>
  have hls:=Mh hfe;have U1:=hid hls;have h20:l.length≤20:=by
   unfold zi at hfe;split at hfe
   ·cases hfe
   ·omega
  clear hfe hls;by_cases hk0:k<0
  ·go_wp2_with fail;go_ret;exact⟨rfl,HB2.out⟩
  ·by_cases hk1:(l.length:Int)≤k
   ·go_wp2_with fail;go_ret;exact⟨rfl,HB2.out⟩
   ·obtain⟨i,rfl⟩:∃i:Nat,k=i:=⟨k.toNat,by omega⟩
    have hil:i<l.length:=by omega
    have ZM:(i:Int)<l.length:=by omega
    obtain⟨bs,os,rfl,hbs,c0',c1'⟩:=L9 (Sl.below HV.out HB2.out) hil rfl;have HC1:=hid c1';by_cases h6:60000<l[i].text.length
    ·have h6I:(60000:Int)<l[i].text.length:=by omega
     go_wp2_with fail;go_ret;exact⟨rfl,HB2.out⟩
    ·have h6I:¬(60000:Int)<l[i].text.length:=by omega
     have HSL:=hid (Sl.more (Sl.below HV.out HB2.out) HB2.out.size);have hlen:(nX l).length=l.length*2:=gy jS l;have h63:0*2+(nX l).length≤maxLen:=by unfold maxLen;omega
     have hby:(0*2+(nX l).length)*32≤140737488355328:=by omega
     have H63:=hid h63;have HBY:=hid hby;have HLEN:=hid hlen;obtain⟨tx,htx⟩:∃tx,l[i].text=tx:=⟨_,rfl⟩
     rw [htx]at h6 h6I HC1 c1';have Zi:=hid htx;have hov:¬(9223372036854775807<tx.length+12):=by omega
     clear h63 hby hlen htx;have Zj:=hid (show(nX l)[i*2+1]? =some (sv tx) by rw [←Zi.out];exact(nY jS l i hil 1 (by omega)).trans rfl);go_wp2_with (at_builtin;go_must (refine iG rfl (.const (.slice none 0 0)) (.tmp 41) _ rfl w2.heap.size RI _ _ rfl rfl (World.ownsRow_nil _ _ _ _) HSL.out (Mr l) H63.out HBY.out (Nat.le_refl _) (fun v3 w3 n3 hown hg hbk=> ?_));rw [List.nil_append]at hown;have Zr:n3=l.length:=(by have h1:=hown.1;have h2:=HLEN.out;omega);subst Zr;obtain⟨g3,c3,rfl,hgb,hgs,adA,adB⟩:=gN hown (by omega);obtain⟨o1,z1⟩:=aQ hown rfl (i:=i*2+1) (u:=sv tx) Zj.out;have HO:=hid hown;have HG:=hid hg;clear hown hg hbk);have RJ:Below w2.heap.size w2 w3:=xL HG.out;obtain⟨W4,Bw⟩:∃W4,w3.setCell ⟨g3,i*2+1,none⟩ (sv (tx++jE))=W4:=⟨_,rfl⟩
     have tw:=ay w3 g3 (i*2+1) (sv (tx++jE));have hown:=Gf HO.out rfl (i:=i*2+1) (u:=sv (tx++jE));rw [D7 l i hil]at hown;rw [Bw]at tw hown;rw [show Value.string ((⟨tx.toArray⟩:ByteArray)++⟨#[10,10,35,32,110,111,116,104,105,110,103,10]⟩)=sv (tx++jE)from Hu tx jE,Bw];have Vy:Below w2.heap.size w2 W4:=RJ.trans (tw.below RJ.size (fun k hk e=>by omega));have xC:=hid (HB2.out.trans (Vy.mono HB2.out.size));obtain⟨m,hm⟩:∃m,l.set i ⟨l[i].name,tx++jE⟩=m:=⟨_,rfl⟩
     have hml:m.length=l.length:=by rw [←hm];simp
     have Zk:=zq (BP hil (tx++jE)) (by rw [←Zi.out];exact D8 hil (by rw [Zi.out];omega));rw [hm]at hown Zk;have hms:∀s∈m,s.name.length≤1000∧s.text.length≤70000:=by
      intro s hs;rw [←hm]at hs;rcases List.mem_or_eq_of_mem_set hs with hs | rfl
      ·exact U1.out s hs
      ·refine⟨(U1.out _ (List.getElem_mem hil)).1, ?_⟩;show(tx++jE).length≤70000;rw [List.length_append,show jE.length=12 from rfl];omega
     have HOW:=hid hown;have Uq:=hid Zk;have HMS:=hid hms;have Sn:=hid hml;have HC:=hid (zh W4 _ l (Sl.more (Sl.below HV.out xC.out) xC.out.size) U1.out (HX.out.below xC.out));have hg4:g3<W4.heap.size:=by have:=tw.size;omega
     clear RJ Bw tw hown Zk hms Vy hm hml o1 z1;refine(HC.out).mono ?_;rintro e w5 ⟨hb5,z,vb,rfl,hz,hvb⟩;obtain⟨A9,c9,rfl⟩:=bP hvb (by omega) (gy xA _);obtain⟨B1,n1,d1,B2,n2,d2,B3,d3,xs,rfl,h4,h5⟩:=uK hz;have hq9:=(cB hvb).2;have hq3:=(cB h4).2;obtain⟨D,hD⟩:∃D,(eP l).2.length=D:=⟨_,rfl⟩
     obtain⟨S,hS⟩:∃S,(eP l).1.scopes.length=S:=⟨_,rfl⟩
     obtain⟨en,hen⟩:∃en,(eP l).1.main=en:=⟨_,rfl⟩
     have hD2:(eP m).2.length=D:=by rw [←hD];exact Uq.out.1.symm
     have hS2:(eP m).1.scopes.length=S:=by rw [←hS,Uq.out.2.1]
     have Vz:(eP m).1.main=en:=by rw [←hen,Uq.out.2.2]
     rw [hD]at hq9 ⊢;rw [hS]at hq3 ⊢;rw [hen];obtain⟨nm,md,dc⟩:=en;simp only;obtain⟨W6,BD⟩:∃W6,w5.alloc (.cells #[.slice B1 n1 d1, .slice B2 n2 d2, .slice B3 S d3, .string ⟨nm.toArray⟩, .int .i64 md, .int .i64 dc] 31)=W6:=⟨_,rfl⟩
     have hat:=oF w5 (.cells #[.slice B1 n1 d1, .slice B2 n2 d2, .slice B3 S d3, .string ⟨nm.toArray⟩, .int .i64 md, .int .i64 dc] 31);have VA:Below w5.heap.size w5 W6:=by rw [←BD];exact(Turn.alloc (fun _=>False) _ _).below (Nat.le_refl _) (fun _ _=>id)
     rw [BD]at hat;have DU:Below W4.heap.size W4 W6:=hb5.trans (VA.mono hb5.size);have Nu:=hid (xC.out.trans (DU.mono xC.out.size));have HAT:=hid hat;have VY:=block_lt hat;have Aw:=hid ((Sl.qX HOW.out).below DU);have Zl:=hid (Sl.more Aw.out DU.size);have Pv:=hid (zh W6 _ m Zl.out HMS.out (HX.out.below Nu.out));have QF:=hid BD;have HD2:=hid hD2;have HS2:=hid hS2;have HE2:=hid Vz;clear hz hvb h4 h5 hD hS hen hD2 hS2 Vz hat VA DU BD hb5 HC;go_wp2_with fail;rw [QF.out];refine(Pv.out).mono ?_;rintro e w7 ⟨fI,z,vb,rfl,hz,hvb⟩;obtain⟨A8,c8,rfl⟩:=bP hvb (by omega) (gy xA _);obtain⟨E1,k1,e1,E2,k2,e2,E3,e3,xs2,rfl,h4,h5⟩:=uK hz;have hq8:=(cB hvb).2;have hq2:=(cB h4).2;rw [HD2.out]at hq8 ⊢;rw [HS2.out]at hq2 ⊢;rw [HE2.out];simp only;obtain⟨p0,p1,p2,p3,p4,p5,pz⟩:=BO ((fI.block _ VY).trans HAT.out);have Zy:w5.heap.size<w7.heap.size:=Nat.lt_of_lt_of_le VY fI.size;have qM:=hid (Nu.out.trans (fI.mono Nu.out.size));have O6:=hid (qM.out.trans ((Turn.alloc (fun _=>False) w7 (.cells #[.slice E1 k1 e1, .slice E2 k2 e2, .slice E3 S e3, .string ⟨nm.toArray⟩, .int .i64 md, .int .i64 dc] 31)).below qM.out.size (fun _ _=>id)));clear hz hvb h4 h5 fI;by_cases hD0:D=0
     ·subst hD0;go_wp2_with fail;go_ret;exact⟨rfl,O6.out⟩
     ·have hDI:(0:Int)<D:=by omega
      clear hD0;go_wp2_with fail;go_ret;exact⟨rfl,O6.out⟩
theorem zB (v:Value) (l:List jo) (k:Int) (w:World) (hv:Sl w w.heap.size 2 v (nX l)) (hk:In64 k) (hX:jX w):Calls Tryz.prog 6 #[v, .int .i64 k] w fun e w'=>e= .returned (.bool true)∧Below w.heap.size w w':=zu w v l k hv hX
section
variable {H:Type} {enc:TypeId ×Value→H} {W:World}
def VB (s:jo):Prop:=s.name.length≤maxLen∧s.text.length≤maxLen
theorem Ms {fuel:Nat} {cs:List Value} {x:DataW H ×List MemPlace} (h:DataW.trod enc Tryz.prog W 0 (fun _=>true) true fuel 44 cs=some x):∃y:jo,cs=RS y∧VB y:=by
 obtain⟨xs,n,hn,rfl,hl,hlen,hf⟩:=DataW.trod_struct Tryz.underlying44 h;rw [show Tryz.prog.cellsOf 44=2 by kernel_rfl]at hl
 match cs,hl,xs,hlen with
 | [u0,u1], _,[y0,y1], _=>
  have t0:DataW.trod enc Tryz.prog W 0 (fun _=>true) true n 9 [u0]=some y0:=hf 0 _ rfl;have t1:DataW.trod enc Tryz.prog W 0 (fun _=>true) true n 9 [u1]=some y1:=hf 1 _ rfl;obtain⟨a,rfl,ha⟩:=Sv t0;obtain⟨b,rfl,hb⟩:=Sv t1;exact⟨⟨a,b⟩,rfl,ha,hb⟩
theorem D9:∀ {xs:List Value} {ys:List jo},bQ (fun cs y=>cs=RS y∧VB y) 2 xs ys→xs=nX ys∧∀y∈ys,VB y
 | _, _, .nil=>⟨rfl,fun y hy=>by cases hy⟩
 | _, _, .cons h1 h2 h3=>by
  obtain⟨e,h⟩:=D9 h3;refine⟨by rw [h2.1,e];rfl,fun y hy=> ?_⟩;rcases List.mem_cons.1 hy with rfl | hy
  ·exact h2.2
  ·exact h y hy
theorem Ht {fuel:Nat} {v:Value} {x:DataW H ×List MemPlace} (h:DataW.trod enc Tryz.prog W 0 (fun _=>true) true fuel 22 [v]=some x):∃y,Sl W W.heap.size 2 v (nX y)∧∀z∈y,VB z:=by
 obtain⟨xs,ys,h1,h2⟩:=open_row Tryz.underlying22 (k:=2) (by kernel_rfl) (by omega) h (fun cs y=>cs=RS y∧VB y) (fun n cs' x' _ ht _=>Ms ht);obtain⟨rfl,h4⟩:=D9 h2;exact⟨ys,h1,h4⟩
end
section
open Go.ChangeShapes Go.WideShapes Go.ChangeAt Go.RowKit
theorem own:ownKnob Tryz.prog.godebug=none:=by kernel_rfl
theorem laidOut:laidOutB Tryz.prog=true:=by kernel_rfl
theorem Hr: "*" ++ "errors.errorString" = "*errors.errorString" :=by decide
theorem Mt (u:TypeId) (h:Tryz.prog.typeName? 3 u=some "*errors.errorString"):u=298:=
 typeName_ptr_named (nm:= "errors.errorString") (by rw [Hr];kernel_rfl) (by kernel_rfl) (by decide) u (by rw [Hr];exact h)
theorem JK {l:List (String ×DataW Unit)} {W:World} (hp:(l.all fun x=>x.2.handleName?.isNone)=true)
  (h1:(l.filter fun x=>x.1== "internal/strconv.uint64pow10")=[("internal/strconv.uint64pow10",Lib.tabData .u64 Lib.pow10Tab)])
  (h2:(l.filter fun x=>x.1== "strconv.ErrSyntax")=[("strconv.ErrSyntax",Rows.laid_strconv_ErrSyntax)])
  (h3:(l.filter fun x=>x.1== "strconv.ErrRange")=[("strconv.ErrRange",Rows.laid_strconv_ErrRange)])
  (h:laidMetH Tryz.prog l W):mH W:=by
 have g1:=laidMetH.filter (fun x=>x.1== "internal/strconv.uint64pow10") h;have g2:=laidMetH.filter (fun x=>x.1== "strconv.ErrSyntax") h;have g3:=laidMetH.filter (fun x=>x.1== "strconv.ErrRange") h;rw [h1]at g1;rw [h2]at g2;rw [h3]at g3;rw [MakeChecks.laidMetH_plain _ _ _ (by kernel_rfl)]at g1;rw [MakeChecks.laidMetH_plain _ _ _ (by kernel_rfl)]at g2;rw [MakeChecks.laidMetH_plain _ _ _ (by kernel_rfl)]at g3;obtain⟨a2, _,e2, _⟩:=laid_sentinel g2 (g:=3) (by kernel_rfl) (by kernel_rfl) Tryz.underlying205 Mt Tryz.underlying298 Tryz.underlying300 rfl rfl Tryz.underlying9 (by kernel_rfl) (by kernel_rfl);obtain⟨a3, _,e3, _⟩:=laid_sentinel g3 (g:=4) (by kernel_rfl) (by kernel_rfl) Tryz.underlying205 Mt Tryz.underlying298 Tryz.underlying300 rfl rfl Tryz.underlying9 (by kernel_rfl) (by kernel_rfl);refine⟨?_,⟨_, _,e2⟩,⟨_, _,e3⟩⟩;exact Lib.tabIs_of_head (g:=5) (by kernel_rfl) (by kernel_rfl) Tryz.underlying303 Tryz.underlying219 (by kernel_rfl) (by kernel_rfl) g1
theorem JL {l:List (String ×DataW Unit)} {W:World}
  (h1:(l.filter fun x=>x.1== "strings.asciiSpace")=[("strings.asciiSpace",Lib.tabData .u8 Lib.asciiSpaceTab)])
  (h:laidMetH Tryz.prog l W):Lib.TabIs Tryz.prog W "strings.asciiSpace" .u8 Lib.asciiSpaceTab:=by
 have g1:=laidMetH.filter (fun x=>x.1== "strings.asciiSpace") h;rw [h1]at g1;rw [MakeChecks.laidMetH_plain _ _ _ (by kernel_rfl)]at g1;exact Lib.tabIs_of_head (g:=0) (by kernel_rfl) (by kernel_rfl) Tryz.underlying217 Tryz.underlying5 (by kernel_rfl) (by kernel_rfl) g1
end
end Go.Proofs.YtmbppnbekkbibaaGreatDoor
