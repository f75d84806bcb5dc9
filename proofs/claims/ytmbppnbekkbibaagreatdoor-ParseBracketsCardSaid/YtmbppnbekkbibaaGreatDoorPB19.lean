/- YW, ZG, YK, YS, YT -/
import Derived.Test.YtmbppnbekkbibaaGreatDoorPB18
import Derived.Test.YtmbppnbekkbibaaGreatDoorPB01
import Derived.Lib.AppendStr
import Derived.Test.YtmbppnbekkbibaaGreatDoorPB17
import Derived.Test.YtmbppnbekkbibaaGreatDoorPB05
import Derived.Test.YtmbppnbekkbibaaGreatDoorPB02
set_option linter.unusedSimpArgs false
set_option linter.unusedVariables false
section
set_option linter.unusedVariables false
namespace Go.Proofs.YtmbppnbekkbibaaGreatDoor
open Go.RowKit
theorem LJ {w:World} {F:Nat→Prop} {A:Option Addr} {n c:Nat} {xk:List Value} {ks:List bD} (h2:dh w F 8 (.slice A n c) xk) (hr:gQ w F xk ks) {i:Nat} (hi:i<ks.length) (hn:n=ks.length):
  ∃b o k s v2 v3 v4 A1 n1 c1 A2 n2 c2 A3 n3 c3,A=some ⟨b,o,none⟩∧jG w F [.int .i64 k, .string s, .int .i64 v2, .int .i64 v3, .int .i64 v4, .slice A1 n1 c1, .slice A2 n2 c2, .slice A3 n3 c3] ks[i]∧
   w.cell? ⟨b,o+i*8,none⟩=some (.int .i64 k)∧w.cell? ⟨b,o+i*8+1,none⟩=some (.string s)∧w.cell? ⟨b,o+i*8+2,none⟩=some (.int .i64 v2)∧w.cell? ⟨b,o+i*8+3,none⟩=some (.int .i64 v3)∧w.cell? ⟨b,o+i*8+4,none⟩=some (.int .i64 v4)∧
   w.cell? ⟨b,o+i*8+5,none⟩=some (.slice A1 n1 c1)∧w.cell? ⟨b,o+i*8+6,none⟩=some (.slice A2 n2 c2)∧w.cell? ⟨b,o+i*8+7,none⟩=some (.slice A3 n3 c3):=by
 subst hn
 obtain⟨b1,o1,rfl,hb1,hc1⟩:=pK h2.all hi (by omega)
 have hr1:=hr.at i hi
 obtain⟨kk,s,v2,v3,v4,A1,n1,c1,A2,n2,c2,A3,n3,c3,hv1⟩:=hr1.all.shape
 rw [hv1]at hr1
 refine⟨b1,o1,kk,s,v2,v3,v4,A1,n1,c1,A2,n2,c2,A3,n3,c3,rfl,hr1, ?_, ?_, ?_, ?_, ?_, ?_, ?_, ?_⟩
 ·have:=hc1 0 _ (fq hv1 (by omega:0<8));simpa using this
 ·have:=hc1 1 _ (fq hv1 (by omega:1<8));simpa [Nat.add_assoc]using this
 ·have:=hc1 2 _ (fq hv1 (by omega:2<8));simpa [Nat.add_assoc]using this
 ·have:=hc1 3 _ (fq hv1 (by omega:3<8));simpa [Nat.add_assoc]using this
 ·have:=hc1 4 _ (fq hv1 (by omega:4<8));simpa [Nat.add_assoc]using this
 ·have:=hc1 5 _ (fq hv1 (by omega:5<8));simpa [Nat.add_assoc]using this
 ·have:=hc1 6 _ (fq hv1 (by omega:6<8));simpa [Nat.add_assoc]using this
 ·have:=hc1 7 _ (fq hv1 (by omega:7<8));simpa [Nat.add_assoc]using this
def But (F:Nat→Prop) (base:Nat) (v:Value):Nat→Prop:=fun j=>v.ownBlock≠some j∧(F j∨base≤j)
theorem Jb {F:Nat→Prop} {base n:Nat} {wr w6 w7:World} {v v7:Value} {e:TypeId} {ys z2:List Value} {l:List bD} {x:bD} {o:Obj} (hF:∀j,F j→j<base) (hys:gQ wr (But F base v) ys l) (hown:wr.ownsRow base e 8 v n ys) (hbase:base≤wr.heap.size) (hb:Below wr.heap.size wr w6)
  (hz:jG w6 (fun j=>F j∨wr.heap.size≤j) z2 x) (hg:(w6.alloc o).grownBy w7 v.ownBlock) (hbk:v7.ownBlock=v.ownBlock∨v7.ownBlock=some (w6.alloc o).heap.size):gQ w7 (But F base v7) (ys++z2) (l++[x]):=by
 have hlt:=hown.lt
 have hs6:=hb.size
 have t7:Turn (fun j=>v.ownBlock=some j) w6 w7:=((Turn.alloc (fun j=>v.ownBlock=some j) w6 o)).trans (Turn.bf hg (fun k h=>h)) (fun _ _ h=>h)
 have h1:gQ wr (fun j=>j<wr.heap.size∧But F base v j) ys l:=hys.mono fun j hj h=>⟨hj,h⟩
 have h2:gQ w7 (fun j=>j<wr.heap.size∧But F base v j) ys l:=(h1.turn (Turn.of_below (F:=fun _=>False) hb) (fun _ _ _ h=>h)).turn t7 (fun j _ h e=>h.2.1 e)
 have h3:jG w6 (fun j=>j<w6.heap.size∧(F j∨wr.heap.size≤j)) z2 x:=hz.mono fun j hj h=>⟨hj,h⟩
 have h4:jG w7 (fun j=>j<w6.heap.size∧(F j∨wr.heap.size≤j)) z2 x:=h3.turn t7 (fun j _ h e=>by
  have:=hlt j e
  rcases h.2 with h | h
  ·have:=hF j h;omega
  ·omega)
 have sa:(w6.alloc o).heap.size=w6.heap.size+1:=by simp
 have hA:jG w7 (But F base v7) z2 x:=h4.mono fun j _ h=>⟨fun e=>by
   rcases hbk with hk | hk
   ·rw [hk]at e
    have:=hlt j e
    rcases h.2 with h | h
    ·have:=hF j h;omega
    ·omega
   ·rw [hk,sa]at e
    injection e with e
    have:=h.1;omega,by
   rcases h.2 with h | h
   ·exact .inl h
   ·exact .inr (by omega)⟩
 have hB:gQ w7 (But F base v7) ys l:=h2.mono fun j _ h=>⟨fun e=>by
   rcases hbk with hk | hk
   ·rw [hk]at e;exact h.2.1 e
   ·rw [hk,sa]at e
    injection e with e
    have:=h.1;omega,h.2.2⟩
 exact gQ.snoc hA hB
def Bq (x:bD):Prop:=∀(w:World) (z:List Value) (F:Nat→Prop),jG w F z x→(∀j,F j→j<w.heap.size)→dZ x≤100000→
 Calls Tryz.prog 59 #[.agg z.toArray] w fun e w'=>∃z',e= .returned (.agg z'.toArray)∧jG w' (fun j=>F j∨w.heap.size≤j) z' (oH x)∧Below w.heap.size w w'
set_option maxRecDepth 100000 in
set_option maxHeartbeats 8000000 in
theorem FK (k:Int) (text:Bt) (n line col:Int) (ts:List bO) (ns:List Bt) (ks:List bD) (H:∀t∈ks,Bq t):Bq (.mk k text n line col ts ns ks):=by
 intro w z F h1 hF hc
 obtain⟨A1,c1,A2,c2,A3,c3,xt,xk,rfl,s1,r1,s2,s3,r3⟩:=h1.parts
 obtain⟨W,hW⟩:∃W,(w.alloc (.cells #[.int .i64 k,sv text, .int .i64 n, .int .i64 line, .int .i64 col, .slice A1 ts.length c1, .slice A2 ns.length c2, .slice A3 ks.length c3] 49)).alloc (.cells #[.int .i64 0, .string ⟨#[]⟩, .int .i64 0, .int .i64 0, .int .i64 0, .slice none 0 0, .slice none 0 0, .slice none 0 0] 49)=W:=⟨_,rfl⟩
 have hb2:Below w.heap.size w W:=by rw [←hW];exact((Below.refl _ _).alloc (Nat.le_refl _) _).alloc (by simp) _
 have hbx:=iY w (.cells #[.int .i64 k,sv text, .int .i64 n, .int .i64 line, .int .i64 col, .slice A1 ts.length c1, .slice A2 ns.length c2, .slice A3 ks.length c3] 49) (.cells #[.int .i64 0, .string ⟨#[]⟩, .int .i64 0, .int .i64 0, .int .i64 0, .slice none 0 0, .slice none 0 0, .slice none 0 0] 49)
 rw [hW]at hbx
 have sW:W.heap.size=w.heap.size+2:=by rw [←hW];simp
 have hkl:=qc ks
 rw [dZ]at hc
 obtain⟨m,hm⟩:∃m,ks.length=m:=⟨_,rfl⟩
 rw [hm]at hbx hW hkl s3
 have HM:=hid hm
 have hmb:m≤100000:=by omega
 obtain⟨W4,DW⟩:∃W4,(W.setCell ⟨w.heap.size,3,none⟩ (.int .i64 0)).setCell ⟨w.heap.size,4,none⟩ (.int .i64 0)=W4:=⟨_,rfl⟩
 have hx4:W4.heap[w.heap.size]? =some (.cells #[.int .i64 k,sv text, .int .i64 n, .int .i64 0, .int .i64 0, .slice A1 ts.length c1, .slice A2 ns.length c2, .slice A3 m c3] 49 (0,0)):=by
  rw [←DW];exact heap_setCell_same _ _ 4 _ _ _ (heap_setCell_same _ _ 3 _ _ _ hbx.1)
 have t34:Turn (fun j=>j=w.heap.size) W W4:=by
  rw [←DW];exact(ak _ _ _ _).trans (ak _ _ _ _) (fun _ _ h=>h)
 have sW4:W4.heap.size=w.heap.size+2:=by rw [←DW];simp [sW]
 have hy4:=(t34.block (block_lt hbx.2) (by omega)).trans hbx.2
 have hw4:Below w.heap.size w W4:=hb2.trans (t34.below (by omega) (fun j hj=>by omega))
 obtain⟨x0,x1,x2,x3,x4,x5,x6,x7⟩:=gq hbx.1
 have z0:∀i,W.frozen? ⟨w.heap.size,i,none⟩=false:=fun i=>frozen_of_row _ _ _ _ _ hbx.1
 have Rs:Turn (fun _=>False) w W4:=Turn.of_below hw4
 have og:=hid (s1.turn Rs (fun _ _ _ h=>h))
 have HR1:=hid (r1.turn Rs (fun _ _ _ h=>h))
 have HS2:=hid (s2.turn Rs (fun _ _ _ h=>h))
 have zu:=hid (s3.turn Rs (fun _ _ _ h=>h))
 have HR3:=hid (r3.turn Rs (fun _ _ _ h=>h))
 have l3:=(bL s3.all).2
 have HH:=hid H
 have HF:Hid (∀j,F j→j<W4.heap.size):=hid (fun j h=>by have:=hF j h;omega)
 have X0:=hid hF
 have HC:=hid hc
 have xW:=hid hx4
 have YZ:=hid hy4
 have Rn:=hid hw4
 rw [hm]
 clear h1 s1 s2 s3 r1 r3 hbx hb2 H hF hc hx4 hy4 t34 hw4 Rs hm
 go_enter Tryz.func59,Tryz.ntmps59
 go_wp2_with fail
 clear x0 x1 x2 x3 x4 x5 x6 x7 z0 hW
 go_loopw [3,4] (fun v3 v4 wr=>∃(i:Nat) (ys:List Value),v4= .int .i64 i∧i≤m∧wr.ownsRow W4.heap.size 49 8 v3 i ys∧gQ wr (But F W4.heap.size v3) ys (jr (ks.take i))∧Below W4.heap.size W4 wr) (fun _ v4 _=>m - (intOf v4).toNat)
 case atStart=>exact⟨0,[],rfl,by omega,World.ownsRow_nil _ _ _ _, .nil,Below.refl _ _⟩
 case round=>
  obtain⟨i,ys,rfl,hi,hown,hys,hbr⟩:=hrel
  have hwl:=hbr.size
  have hx5:=(hbr.block _ (block_lt xW.out)).trans xW.out
  have x7:=(gq hx5).2.2.2.2.2.2.2
  by_cases hlt:i<m
  ·have hil:i<ks.length:=by rw [HM.out];exact hlt
   obtain⟨b1,o1,k1,s1,a1,a2,a3,P1,m1,e1,P2,m2,e2,P3,m3,e3,rfl,hz,d0,d1,d2,d3,d4,d5,d6,d7⟩:=LJ (zu.out.below hbr) (HR3.out.QX hbr) hil HM.out.symm
   have RI:=hid (HH.out _ (List.getElem_mem hil) wr _ F hz (fun j hj=>by have:=X0.out j hj;omega) (by have:=yH (List.getElem_mem hil);have:=HC.out;omega))
   have hST:Hid (jr (ks.take (i+1))=jr (ks.take i)++[oH ks[i]]):=hid (by rw [List.take_succ_eq_append_getElem hil,nH,nH,List.map_append];rfl)
   have HOW:=hid hown
   have Ov:=hid hys
   have ou:=hid hbr
   clear hown hys hbr hz hx5
   go_wp2_with fail
   refine RI.out.mono ?_
   rintro e w6 ⟨z2,rfl,hz2,hb⟩
   obtain⟨k2,s2,a4,a5,a6,P4,m4,e4,P5,m5,e5,P6,m6,e6,rfl⟩:=hz2.all.shape
   have HZ2:=hid hz2
   have HB:=hid hb
   have Y0:=hid (own_below HOW.out hb)
   have hxl:=HOW.out.1
   have hb6:=hb.size
   clear hz2 hb
   go_wp2_with (at_builtin;go_must (refine gN rfl (.tmp 14) (.tmp 21) _ rfl W4.heap.size Na _ _ rfl rfl (Y0.out.alloc _) (fD w6 #[.int .i64 k2, .string s2, .int .i64 a4, .int .i64 a5, .int .i64 a6, .slice P4 m4 e4, .slice P5 m5 e5, .slice P6 m6 e6] 49 8 1 rfl (by decide)) (QJ HZ2.out) (by unfold maxLen;simp;omega) (by simp;omega) (gW (by omega) _) (fun v7 w7 n7' aK fV dV=> ?_));obtain⟨Ax,nx,cx,rfl⟩:=jw aK;have Mh:=hid aK;have UQ:=hid (Jb HF.out Ov.out HOW.out (by omega) HB.out HZ2.out fV dV);have tK:=hid (below_app (((ou.out.trans (HB.out.mono ou.out.size))).alloc (by omega) _) (Y0.out.alloc _) fV (Nat.le_refl _) (gW (by omega) _));clear aK fV dV)
   go_roundw
   case rel=>
    obtain rfl:n7'=i+1:=by have h:=Mh.out.1;rw [List.length_append,hxl]at h;simp at h;omega
    exact⟨i+1, _,rfl,by omega,Mh.out,by rw [hST.out];exact UQ.out,tK.out⟩
   case measure=>simp [intOf];omega
  ·obtain rfl:i=m:=by omega
   obtain⟨A9,c9,g,rfl,Vt,Yv,hbg,Y3,hrg, _⟩:=Ja hown (by omega)
   have Rt:=(hbr.block _ (block_lt YZ.out)).trans YZ.out
   obtain⟨x0,x1,x2,x3,x4,x5,x6, _⟩:=gq hx5
   obtain⟨y0,y1,y2,y3,y4,y5,y6,y7⟩:=gq Rt
   have z0:∀j,wr.frozen? ⟨w.heap.size,j,none⟩=false:=fun j=>frozen_of_row _ _ _ _ _ hx5
   have z1:∀j,wr.frozen? ⟨w.heap.size+1,j,none⟩=false:=fun j=>frozen_of_row _ _ _ _ _ Rt
   have aaY:=Rn.out.size
   rw [List.take_of_length_le (by rw [HM.out];omega)]at hys
   have Ov:=hid hys
   have HRG:=hid hrg
   have ou:=hid hbr
   have UN:=hid Rt
   obtain⟨V,hV⟩:∃V,wr.setCell ⟨w.heap.size,7,none⟩ (.slice A9 i c9)=V:=⟨_,rfl⟩
   have tv:Turn (fun j=>j=w.heap.size) wr V:=by rw [←hV];exact ak _ _ _ _
   have hx6:V.heap[w.heap.size]? =some (.cells #[.int .i64 k,sv text, .int .i64 n, .int .i64 0, .int .i64 0, .slice A1 ts.length c1, .slice A2 ns.length c2, .slice A9 i c9] 49 (0,0)):=by rw [←hV];exact heap_setCell_same _ _ 7 _ _ _ hx5
   have U1:=(tv.block (block_lt Rt) (by omega)).trans Rt
   clear x0 x1 x2 x3 x4 x5 x6 y0 y1 y2 y3 y4 y5 y6 y7 z1
   obtain⟨x0,x1,x2,x3,x4,x5,x6,x8⟩:=gq hx6
   obtain⟨y0,y1,y2,y3,y4,y5,y6,y7⟩:=gq U1
   have z1:∀j,V.frozen? ⟨w.heap.size+1,j,none⟩=false:=fun j=>frozen_of_row _ _ _ _ _ U1
   have HY6:=hid U1
   have X4:=hid tv
   have hvs:=tv.size
   clear hys hrg hbr Rt U1 hx5 hx6 tv
   go_wp2_with fail
   have ec:=heap_setCell_same _ _ 7 _ _ (.slice A9 i c9) (heap_setCell_same _ _ 6 _ _ (.slice A2 ns.length c2) (heap_setCell_same _ _ 5 _ _ (.slice A1 ts.length c1) (heap_setCell_same _ _ 4 _ _ (.int .i64 0) (heap_setCell_same _ _ 3 _ _ (.int .i64 0) (heap_setCell_same _ _ 2 _ _ (.int .i64 n) (heap_setCell_same _ _ 1 _ _ (sv text) (heap_setCell_same _ _ 0 _ _ (.int .i64 k) HY6.out)))))))
   have tc:=(ak V (w.heap.size+1) 0 (.int .i64 k)).trans ((ak _ (w.heap.size+1) 1 (sv text)).trans ((ak _ (w.heap.size+1) 2 (.int .i64 n)).trans ((ak _ (w.heap.size+1) 3 (.int .i64 0)).trans ((ak _ (w.heap.size+1) 4 (.int .i64 0)).trans ((ak _ (w.heap.size+1) 5 (.slice A1 ts.length c1)).trans ((ak _ (w.heap.size+1) 6 (.slice A2 ns.length c2)).trans (ak _ (w.heap.size+1) 7 (.slice A9 i c9)) (fun _ _ h=>h)) (fun _ _ h=>h)) (fun _ _ h=>h)) (fun _ _ h=>h)) (fun _ _ h=>h)) (fun _ _ h=>h)) (fun _ _ h=>h)
   refine bodyPost_ret (aW rfl rfl ec Tryz.underlying49 rfl (by kernel_rfl)) rfl ?_
   clear ec
   generalize hw9:((((((((V.setCell _ _).setCell _ _).setCell _ _).setCell _ _).setCell _ _).setCell _ _).setCell _ _).setCell _ _)=w9 at tc ⊢
   have tcs:=tc.size
   have nR:Turn (fun j=>j=w.heap.size∨j=w.heap.size+1) wr w9:=(X4.out.mono (fun _ _ h=> .inl h)).trans tc (fun _ _ h=> .inr h)
   have hwf:Below w.heap.size W4 w9:=(ou.out.mono (by omega)).trans (nR.below (by omega) (fun j hj e=>by omega))
   refine⟨[.int .i64 k,sv text, .int .i64 n, .int .i64 0, .int .i64 0, .slice A1 ts.length c1, .slice A2 ns.length c2, .slice A9 i c9],rfl, ?_,Rn.out.trans hwf⟩
   have tf:Turn (fun j=>w.heap.size≤j) W4 w9:=⟨hwf.os,hwf.tape,hwf.output,hwf.size,fun j hj h=>hwf.block j (by omega)⟩
   have hsub:∀j,j<w9.heap.size→F j→F j∨w.heap.size≤j:=fun _ _ h=> .inl h
   have QK:∀j,j<W4.heap.size→F j→¬w.heap.size≤j:=fun j _ h=>by have:=X0.out j h;omega
   show jG w9 (fun j=>F j∨w.heap.size≤j) _ (.mk k text n 0 0 ts ns (jr ks))
   refine .mk ((og.out.turn tf QK).mono hsub) ((HR1.out.turn tf QK).mono hsub) ((HS2.out.turn tf QK).mono hsub) (xk:=ys) ?_ ?_
   ·refine⟨A9,i,c9,rfl, ?_,Vt,Yv,fun h0=>⟨g,0,(Y3 h0).1, .inr (by omega),by have:=(Y3 h0).2;omega,FI HRG.out nR (by omega)⟩⟩
    rw [Ov.out.all.length,nH,List.length_map,HM.out]
   ·exact(Ov.out.turn nR (fun j _ h e=>by
     rcases h.2 with h2 | h2
     ·have:=X0.out j h2;omega
     ·omega)).mono fun j _ h=>by
      rcases h.2 with h2 | h2
      ·exact .inl h2
      ·exact .inr (by omega)
theorem Jc (t:bD):Bq t:=by
 have h:∀(n:Nat) (t:bD),SizeOf.sizeOf t≤n→Bq t:=by
  intro n
  induction n with
  | zero=>intro t ht;cases t;simp at ht
  | succ n ih=>
   intro t ht
   obtain⟨k,text,n1,line,col,ts,ns,ks⟩:=t
   refine FK k text n1 line col ts ns ks fun x hx=>ih x ?_
   have:=List.sizeOf_lt_of_mem hx
   simp at ht;omega
 exact h _ t (Nat.le_refl _)
end Go.Proofs.YtmbppnbekkbibaaGreatDoor
end
section
set_option linter.unusedVariables false
namespace Go.Proofs.YtmbppnbekkbibaaGreatDoor
open Go.RowKit
def Jl (w wr:World) (G:Nat→Prop) (z:List Value) (d:kg):Prop:=
 ∃vv xv vt xt y,z=[sv d.name, .bool d.exp,vv,sv d.param,vt]++(y++[.int .i64 d.line, .int .i64 d.col])∧Sl w w.heap.size 5 vv xv∧bU (DN w w.heap.size) 5 xv d.vars∧Sl w w.heap.size 4 vt xt∧iq w w.heap.size xt d.types∧jG wr G y d.body
theorem Jl.turn {w wr wr':World} {z:List Value} {d:kg} {F G:Nat→Prop} (h:Jl w wr F z d) (t:Turn G wr wr') (hd:∀j,j<wr.heap.size→F j→¬G j):Jl w wr' F z d:=by
 obtain⟨vv,xv,vt,xt,y,e,h1,h2,h3,h4,h5⟩:=h
 exact⟨vv,xv,vt,xt,y,e,h1,h2,h3,h4,h5.turn t hd⟩
theorem Jl.mono {w wr:World} {z:List Value} {d:kg} {F G:Nat→Prop} (h:Jl w wr F z d) (hF:∀j,j<wr.heap.size→F j→G j):Jl w wr G z d:=by
 obtain⟨vv,xv,vt,xt,y,e,h1,h2,h3,h4,h5⟩:=h
 exact⟨vv,xv,vt,xt,y,e,h1,h2,h3,h4,h5.mono hF⟩
theorem Jl.de {w wr:World} {z:List Value} {d:kg} {G:Nat→Prop} (h:Jl w wr G z d) (hb:Below w.heap.size w wr):wG wr wr.heap.size z d:=by
 obtain⟨vv,xv,vt,xt,y,e,h1,h2,h3,h4,h5⟩:=h
 exact⟨vv,xv,vt,xt,y,e,Sl.more (Sl.below h1 hb) hb.size,h2.imp fun _ _ h=>(h.keep hb).more hb.size,Sl.more (Sl.below h3 hb) hb.size,h4.far (Nat.le_refl _) hb,h5.all⟩
theorem LK {w wr w2 V7 w8:World} {base b3 n bd:Nat} {v v7:Value} {e:TypeId} {ys z2:List Value} {vv vt:Value} {xv xt:List Value} {l:List kg} {d:kg} (hwb:w.heap.size≤b3) (hb3:b3<base) (hys:bU (Jl w wr (But (· <w.heap.size) base v)) 15 ys l) (hown:wr.ownsRow base e 15 v n ys) (hbase:base≤wr.heap.size)
  (hbd:bd=wr.heap.size) (h2:Turn (fun _=>False) wr w2) (hs2:bd<w2.heap.size) (hz:jG w2 (fun j=>j<w.heap.size∨bd<j) z2 d.body) (t8:Turn (fun j=>j=bd∨v.ownBlock=some j∨j=b3) w2 w8) (hV:w2.heap.size≤V7.heap.size) (hbk:v7.ownBlock=v.ownBlock∨v7.ownBlock=some V7.heap.size)
  (s1:Sl w w.heap.size 5 vv xv) (s2:bU (DN w w.heap.size) 5 xv d.vars) (s3:Sl w w.heap.size 4 vt xt) (s4:iq w w.heap.size xt d.types) {z:List Value} (hzz:z=[sv d.name, .bool d.exp,vv,sv d.param,vt]++(z2++[.int .i64 d.line, .int .i64 d.col])):
  bU (Jl w w8 (But (· <w.heap.size) base v7)) 15 (ys++z) (l++[d]):=by
 have hlt:=hown.lt
 have sz:=h2.size
 refine bU.app (DI ?_ ?_) (hys.imp fun _ _ h=> ?_)
 ·rw [hzz]
  have:=hz.all.len
  simp only [List.length_append,List.length_cons,List.length_nil];omega
 ·refine⟨vv,xv,vt,xt,z2,hzz,s1,s2,s3,s4, ?_⟩
  have h3:jG w2 (fun j=>j<w2.heap.size∧(j<w.heap.size∨bd<j)) z2 d.body:=hz.mono fun j hj h=>⟨hj,h⟩
  refine(h3.turn t8 (fun j _ h e=> ?_)).mono fun j _ h=>⟨fun e=> ?_,by rcases h.2 with h | h;exact .inl h;exact .inr (by omega)⟩
  ·rcases e with e | e | e
   ·rcases h.2 with h | h <;> omega
   ·have:=hlt j e
    rcases h.2 with h | h <;> omega
   ·rcases h.2 with h | h <;> omega
  ·rcases hbk with hk | hk
   ·rw [hk]at e
    have:=hlt j e
    rcases h.2 with h | h <;> omega
   ·rw [hk]at e
    injection e with e
    omega
 ·have h1:Jl w wr (fun j=>j<wr.heap.size∧But (· <w.heap.size) base v j) _ _:=h.mono fun j hj h=>⟨hj,h⟩
  refine((h1.turn h2 (fun _ _ _ h=>h)).turn t8 (fun j _ h e=> ?_)).mono fun j _ h=>⟨fun e=> ?_,h.2.2⟩
  ·rcases e with e | e | e
   ·omega
   ·exact h.2.1 e
   ·rcases h.2.2 with h | h <;> omega
  ·rcases hbk with hk | hk
   ·rw [hk]at e;exact h.2.1 e
   ·rw [hk]at e
    injection e with e
    omega
theorem LM (a b c d:Value) (ha:a.oneCell'=true) (hb:b.oneCell'=true) (hc:c.oneCell'=true) (hd:d.oneCell'=true):∀u∈ #[a,b,c,d].toList,u.oneCell'=true:=by
 intro u hu
 simp only [List.mem_cons,List.not_mem_nil,or_false]at hu
 rcases hu with rfl | rfl | rfl | rfl <;> assumption
set_option maxRecDepth 100000 in
set_option maxHeartbeats 8000000 in
theorem yQ (m:tO) (w:World) (z:List Value) (h1:Bu w w.heap.size z m) (hni:m.imps.length≤100000) (hnd:m.decls.length≤100000) (Y4:∀d∈m.decls,dZ d.body≤100000):
  Calls Tryz.prog 29 #[.agg z.toArray] w fun e w'=>∃z',e= .returned (.agg z'.toArray)∧Bu w' w'.heap.size z' (uQ m)∧Below w.heap.size w w':=by
 obtain⟨A1,c1,A2,c2,xi,xd,rfl,s1,r1,s2,r2⟩:=h1.parts
 obtain⟨W,hW⟩:∃W,((w.alloc (.cells #[.slice A1 m.imps.length c1, .slice A2 m.decls.length c2] 40)).alloc (.cells #[.slice none 0 0, .slice none 0 0] 40)).alloc (.cells #[.slice none 0 0, .slice none 0 0] 40)=W:=⟨_,rfl⟩
 have hb3:Below w.heap.size w W:=by rw [←hW];exact(((Below.refl _ _).alloc (Nat.le_refl _) _).alloc (by simp) _).alloc (by simp;omega) _
 have sW:W.heap.size=w.heap.size+3:=by rw [←hW];simp
 have hbx:W.heap[w.heap.size]? =some (.cells #[.slice A1 m.imps.length c1, .slice A2 m.decls.length c2] 40 (0,0)):=by
  rw [←hW];exact ah (iY w _ _).1 (Turn.alloc (fun _=>False) _ _) id
 have hby:W.heap[w.heap.size+1]? =some (.cells #[.slice none 0 0, .slice none 0 0] 40 (0,0)):=by
  rw [←hW];exact ah (iY w _ _).2 (Turn.alloc (fun _=>False) _ _) id
 have uN:W.heap[w.heap.size+2]? =some (.cells #[.slice none 0 0, .slice none 0 0] 40 (0,0)):=by
  rw [←hW]
  have:=heap_alloc_new ((w.alloc (.cells #[.slice A1 m.imps.length c1, .slice A2 m.decls.length c2] 40)).alloc (.cells #[.slice none 0 0, .slice none 0 0] 40)) (.cells #[.slice none 0 0, .slice none 0 0] 40)
  have hs:((w.alloc (.cells #[.slice A1 m.imps.length c1, .slice A2 m.decls.length c2] 40)).alloc (.cells #[.slice none 0 0, .slice none 0 0] 40)).heap.size=w.heap.size+2:=by simp
  rwa [hs]at this
 have HX:=hid hbx
 have HY:=hid hby
 have HO:=hid uN
 have HW:=hid hb3
 have HR1:=hid r1
 have HR2:=hid r2
 have og:=hid s1
 have HS2:=hid s2
 have HBO:=hid Y4
 have l1:=(bL s1).2
 have l2:=(bL s2).2
 clear h1 s1 s2 r1 r2 hbx hby uN hb3 Y4
 obtain⟨ni,Nf⟩:∃x,m.imps.length=x:=⟨_,rfl⟩
 obtain⟨nd,Ng⟩:∃x,m.decls.length=x:=⟨_,rfl⟩
 rw [Nf]at hW HX hni l1 og
 rw [Ng]at hW HX hnd l2 HS2
 rw [Nf,Ng]
 have X5:=hid Nf
 have X6:=hid Ng
 have BF:=hid hW
 clear Nf Ng hW
 go_enter Tryz.func29,Tryz.ntmps29
 go_wp2_with fail
 rw [BF.out]
 clear BF
 go_loopw [4] (fun v4 wr=>∃(i:Nat) (v:Value) (ys:List Value),v4= .int .i64 i∧i≤ni∧wr.heap[w.heap.size+1+1]? =some (.cells #[v, .slice none 0 0] 40 (0,0))∧wr.ownsRow W.heap.size 88 4 v i ys∧bU (G8 w w.heap.size) 4 ys ((m.imps.take i).map Jv)∧Turn (fun k=>k=w.heap.size+1+1) W wr) (fun v4 _=>ni - (intOf v4).toNat)
 case atStart=>exact⟨0, _,[],rfl,by omega,HO.out,World.ownsRow_nil _ _ _ _, .nil,Turn.refl _ _⟩
 case round=>
  obtain⟨i,v,ys,rfl,hi,uN,hown,hys,htu⟩:=hrel
  have hbx:=(htu.block (block_lt HX.out) (by omega)).trans HX.out
  obtain⟨x0,x1⟩:=jf hbx
  have stz:=htu.size
  have Oh:Hid (Below w.heap.size w wr):=hid (HW.out.trans (htu.below HW.out.size (fun k hk h=>by omega)))
  by_cases hlt:i<ni
  ·have hil:i<m.imps.length:=by rw [X5.out];exact hlt
   obtain⟨b,o,B1,e1,rfl,hss,d0,d1,d2,d3⟩:=FJ og.out HR1.out hil X5.out.symm
   have d0:=Oh.out.cell (p:=⟨b,o+i*4,none⟩) (World.block_lt_of_cell? w _ d0) |>.trans d0
   have d1:=Oh.out.cell (p:=⟨b,o+i*4+1,none⟩) (World.block_lt_of_cell? w _ d1) |>.trans d1
   have d2:=Oh.out.cell (p:=⟨b,o+i*4+2,none⟩) (World.block_lt_of_cell? w _ d2) |>.trans d2
   have d3:=Oh.out.cell (p:=⟨b,o+i*4+3,none⟩) (World.block_lt_of_cell? w _ d3) |>.trans d3
   obtain⟨Av,nv,cv,rfl⟩:=jw hown
   have y0:∀o,(wr.alloc o).cell? ⟨w.heap.size+1+1,0,none⟩=some (.slice Av nv cv):=fun o=>(jf (ah uN (Turn.alloc (fun _=>False) wr o) id)).1
   have hol:=hown.lt
   have hxl:=hown.1
   have Cg:=hid hss
   have HB3:=hid uN
   have HOWN:=hid hown
   have Ov:=hid hys
   have J9:=hid htu
   obtain⟨X,hX⟩:∃X:Obj,X= .cells #[sv m.imps[i].from_, .slice B1 m.imps[i].names.length e1, .int .i64 0, .int .i64 0] 88:=⟨_,rfl⟩
   have TU:Hid (Turn (fun k=>(Value.slice Av nv cv).ownBlock=some k) wr ((wr.alloc X).alloc X)):=hid ((Turn.alloc _ _ _).trans (Turn.alloc _ _ _) (fun _ _ h=>h))
   subst hX
   have hsn:=fD (wr.alloc (.cells #[sv m.imps[i].from_, .slice B1 m.imps[i].names.length e1, .int .i64 0, .int .i64 0] 88)) #[sv m.imps[i].from_, .slice B1 m.imps[i].names.length e1, .int .i64 0, .int .i64 0] 88 4 1 rfl (by decide)
   rw [show(wr.alloc (.cells #[sv m.imps[i].from_, .slice B1 m.imps[i].names.length e1, .int .i64 0, .int .i64 0] 88)).heap.size=wr.heap.size+1 by simp]at hsn
   have HSN:=hid hsn
   have O1:Hid (¬(Value.slice Av nv cv).ownBlock=some (w.heap.size+1+1)):=hid (fun e=>by have:=hol _ e;omega)
   have HOL:=hid hol
   clear hss uN hown hys htu hbx hol hsn
   go_wp2_with (at_builtin;go_must (refine gN rfl (.tmp 24) (.tmp 26) _ rfl W.heap.size I8 _ _ rfl rfl ((HOWN.out.alloc _).alloc _) HSN.out (LM (sv m.imps[i].from_) (.slice B1 m.imps[i].names.length e1) (.int .i64 0) (.int .i64 0) rfl rfl rfl rfl) (by unfold maxLen;simp;omega) (by simp;omega) (by simp;omega) (fun v7 w7 n7' aK fV dV=> ?_));obtain⟨Ax,nx,cx,rfl⟩:=jw aK;have Mh:=hid aK;have iL:=hid (TU.out.trans (Turn.bf (F:=fun k=>(Value.slice Av nv cv).ownBlock=some k) fV (fun k h=>h)) (fun _ _ h=>h));have gI:=ah HB3.out iL.out O1.out;obtain⟨g0,g1⟩:=jf gI;have gz:∀k,w7.frozen? ⟨w.heap.size+1+1,k,none⟩=false:=fun k=>frozen_of_row _ _ _ _ _ gI;have tK:=hid gI;clear aK fV dV gI)
   go_roundw
   case rel=>
    obtain rfl:n7'=i+1:=by have h:=Mh.out.1;rw [List.length_append,hxl]at h;simp at h;omega
    have QL:=Mh.out.lt
    refine⟨i+1, _, _,rfl,by omega,heap_setCell_same _ _ 0 _ _ _ tK.out,bT Mh.out (ak _ _ _ _) (fun k h e=>by have:=QL k h;omega), ?_,J9.out.trans ((iL.out.mono (G:=fun k=>(Value.slice Av nv cv).ownBlock=some k∨k=w.heap.size+1+1) (fun _ _ h=> .inl h)).trans (ak _ _ _ _) (fun _ _ h=> .inr h)) (fun k hk h=>by rcases h with h | h;have:=HOL.out k h;omega;exact h)⟩
    rw [List.take_succ_eq_append_getElem hil,List.map_append]
    have hone:G8 w w.heap.size [sv m.imps[i].from_, .slice B1 m.imps[i].names.length e1, .int .i64 0, .int .i64 0] (Jv m.imps[i]):=⟨_,rfl,Cg.out⟩
    exact bU.app (DI rfl hone) Ov.out
   case measure=>simp [intOf];omega
  ·obtain rfl:i=ni:=by omega
   obtain⟨Av,nv,cv,rfl⟩:=jw hown
   rw [List.take_of_length_le (by rw [X5.out];exact Nat.le_refl _)]at hys
   have HB3:=hid uN
   have HOWN:=hid hown
   have Ov:=hid hys
   have ug:=hid hbx
   have Y5:=hid ((htu.block (block_lt HY.out) (by omega)).trans HY.out)
   clear uN hown hys hbx htu
   obtain⟨wx,rfl⟩:∃x,x=wr:=⟨_,rfl⟩
   go_wp2_with fail
   clear x0 x1
   go_loopw [6] (fun v6 wr=>∃(j:Nat) (v:Value) (zs:List Value),v6= .int .i64 j∧j≤nd∧wr.heap[w.heap.size+1+1]? =some (.cells #[.slice Av nv cv,v] 40 (0,0))∧wr.ownsRow wx.heap.size 51 15 v j zs∧bU (Jl w wr (But (· <w.heap.size) wx.heap.size v)) 15 zs ((m.decls.take j).map FT)∧Turn (fun k=>k=w.heap.size+1+1) wx wr) (fun v6 _=>nd - (intOf v6).toNat)
   case atStart=>exact⟨0, _,[],rfl,by omega,HB3.out,World.ownsRow_nil _ _ _ _, .nil,Turn.refl _ _⟩
   case round=>
    obtain⟨j,v,zs,rfl,hj,uN,hown,hzs,htd⟩:=hrel
    have hbx:=(htd.block (block_lt ug.out) (by omega)).trans ug.out
    obtain⟨x0,x1⟩:=jf hbx
    have sdz:=htd.size
    have Uc:Hid (Below w.heap.size w wr):=hid (Oh.out.trans (htd.below Oh.out.size (fun k hk h=>by omega)))
    obtain⟨Aw,nw,cw,rfl⟩:=jw hown
    by_cases hlt:j<nd
    ·have hjl:j<m.decls.length:=by rw [X6.out];exact hlt
     obtain⟨b,o,z,rfl, _,hz,hcell0⟩:=Aj HS2.out HR2.out (by omega) hjl X6.out.symm
     obtain⟨B1,e1,B2,e2,k,t,n,l,c,B3,n3,e3,B4,n4,e4,B5,n5,e5,xv,xt,rfl,q1,q2,q3,q4,q5⟩:=hz.parts
     have hcell:∀(i:Nat) u,([sv m.decls[j].name, .bool m.decls[j].exp, .slice B1 m.decls[j].vars.length e1,sv m.decls[j].param, .slice B2 m.decls[j].types.length e2, .int .i64 k, .string t, .int .i64 n, .int .i64 l, .int .i64 c, .slice B3 n3 e3, .slice B4 n4 e4, .slice B5 n5 e5, .int .i64 m.decls[j].line, .int .i64 m.decls[j].col]:List Value)[i]? =some u→wr.cell? ⟨b,o+j*15+i,none⟩=some u:=fun i u h=>by
      have:=hcell0 i u h
      exact(Uc.out.cell (p:=⟨b,o+j*15+i,none⟩) (World.block_lt_of_cell? w _ this)).trans this
     have d0:wr.cell? ⟨b,o+j*15,none⟩=some (sv m.decls[j].name):=hcell 0 _ rfl
     have d1:=hcell 1 _ rfl
     have d2:=hcell 2 _ rfl
     have d3:=hcell 3 _ rfl
     have d4:=hcell 4 _ rfl
     have d5:=hcell 5 _ rfl
     have d6:=hcell 6 _ rfl
     have d7:=hcell 7 _ rfl
     have d8:=hcell 8 _ rfl
     have d9:=hcell 9 _ rfl
     have Ud:=hcell 10 _ rfl
     have Ue:=hcell 11 _ rfl
     have Uf:=hcell 12 _ rfl
     have Ug:=hcell 13 _ rfl
     have Uh:=hcell 14 _ rfl
     have hol:=hown.lt
     have hxl:=hown.1
     obtain⟨U,hU⟩:∃U,wr.alloc (.cells #[sv m.decls[j].name, .bool m.decls[j].exp, .slice B1 m.decls[j].vars.length e1,sv m.decls[j].param, .slice B2 m.decls[j].types.length e2, .int .i64 k, .string t, .int .i64 n, .int .i64 l, .int .i64 c, .slice B3 n3 e3, .slice B4 n4 e4, .slice B5 n5 e5, .int .i64 0, .int .i64 0] 51)=U:=⟨_,rfl⟩
     have sU:U.heap.size=wr.heap.size+1:=by rw [←hU];simp
     have tU:Turn (fun _=>False) wr U:=by rw [←hU];exact Turn.alloc _ _ _
     have hbd:U.heap[wr.heap.size]? =some (.cells #[sv m.decls[j].name, .bool m.decls[j].exp, .slice B1 m.decls[j].vars.length e1,sv m.decls[j].param, .slice B2 m.decls[j].types.length e2, .int .i64 k, .string t, .int .i64 n, .int .i64 l, .int .i64 c, .slice B3 n3 e3, .slice B4 n4 e4, .slice B5 n5 e5, .int .i64 0, .int .i64 0] 51 (0,0)):=by rw [←hU];exact heap_alloc_new _ _
     have Ui:=hid (Jc m.decls[j].body U _ (· <w.heap.size) (((jG.of q5 (Nat.le_refl _)).turn (Turn.of_below (F:=fun _=>False) Uc.out) (fun _ _ _ h=>h)).turn tU (fun _ _ _ h=>h)) (fun k hk=>by have:=Uc.out.size;omega) (HBO.out _ (List.getElem_mem hjl)))
     have HP:=hid (And.intro q1 (And.intro q2 (And.intro q3 q4)))
     have X8:=hid hzs
     have o9:=hid uN
     have HOW:=hid hown
     have X9:=hid htd
     have Rm:=hid hbd
     have J9:=hid tU
     have HUE:=hid hU
     clear hzs uN hown htd hbx hcell hcell0 hz q1 q2 q3 q4 q5 hbd tU hU
     go_wp2_with fail
     rw [HUE.out]
     refine Ui.out.mono ?_
     rintro e w2 ⟨z2,rfl,hz2,hb⟩
     have t2:Turn (fun _=>False) U w2:=Turn.of_below hb
     have Nh:=(hb.block _ (block_lt Rm.out)).trans Rm.out
     obtain⟨p0,p1,p2,p3,p4,p5,p6,p7,p8,p9,p10,p11,p12,p13,p14⟩:=qg Nh
     have pz:∀i,w2.frozen? ⟨wr.heap.size,i,none⟩=false:=fun i=>frozen_of_row _ _ _ _ _ Nh
     obtain⟨k2,s2,a4,a5,a6,P4,m4,e4',P5,m5,e5',P6,m6,U2,rfl⟩:=hz2.all.shape
     obtain⟨V,hV⟩:∃V,((((((((w2.setCell ⟨wr.heap.size,5,none⟩ (.int .i64 k2)).setCell ⟨wr.heap.size,6,none⟩ (.string s2)).setCell ⟨wr.heap.size,7,none⟩ (.int .i64 a4)).setCell ⟨wr.heap.size,8,none⟩ (.int .i64 a5)).setCell ⟨wr.heap.size,9,none⟩ (.int .i64 a6)).setCell ⟨wr.heap.size,10,none⟩ (.slice P4 m4 e4')).setCell ⟨wr.heap.size,11,none⟩ (.slice P5 m5 e5')).setCell ⟨wr.heap.size,12,none⟩ (.slice P6 m6 U2))=V:=⟨_,rfl⟩
     have U3:V.heap[wr.heap.size]? =some (.cells #[sv m.decls[j].name, .bool m.decls[j].exp, .slice B1 m.decls[j].vars.length e1,sv m.decls[j].param, .slice B2 m.decls[j].types.length e2, .int .i64 k2, .string s2, .int .i64 a4, .int .i64 a5, .int .i64 a6, .slice P4 m4 e4', .slice P5 m5 e5', .slice P6 m6 U2, .int .i64 0, .int .i64 0] 51 (0,0)):=by rw [←hV];exact(heap_setCell_same _ _ 12 _ _ (.slice P6 m6 U2) (heap_setCell_same _ _ 11 _ _ (.slice P5 m5 e5') (heap_setCell_same _ _ 10 _ _ (.slice P4 m4 e4') (heap_setCell_same _ _ 9 _ _ (.int .i64 a6) (heap_setCell_same _ _ 8 _ _ (.int .i64 a5) (heap_setCell_same _ _ 7 _ _ (.int .i64 a4) (heap_setCell_same _ _ 6 _ _ (.string s2) (heap_setCell_same _ _ 5 _ _ (.int .i64 k2) Nh))))))))
     have tV:Turn (fun k=>k=wr.heap.size) w2 V:=by rw [←hV];exact((((((((ak w2 wr.heap.size 5 _).trans (ak _ wr.heap.size 6 _) (fun _ _ h=>h)).trans (ak _ wr.heap.size 7 _) (fun _ _ h=>h)).trans (ak _ wr.heap.size 8 _) (fun _ _ h=>h)).trans (ak _ wr.heap.size 9 _) (fun _ _ h=>h)).trans (ak _ wr.heap.size 10 _) (fun _ _ h=>h)).trans (ak _ wr.heap.size 11 _) (fun _ _ h=>h)).trans (ak _ wr.heap.size 12 _) (fun _ _ h=>h))
     obtain⟨f0,f1,f2,f3,f4,f5,f6,f7,f8,f9,f10,f11,f12,f13,f14⟩:=qg U3
     have hb4:=ah (ah (ah o9.out J9.out id) t2 id) tV (by omega)
     obtain⟨y0,y1⟩:=jf hb4
     have TV:Hid (Turn (fun k=>k=wr.heap.size) wr V):=hid (((J9.out.trans t2 (fun _ _ h=>h)).mono (fun _ _ h=>h.elim)).trans tV (fun _ _ h=>h))
     have HOV:=hid (bT HOW.out TV.out (fun g h e=>by have:=hol g h;omega))
     have nk:=hid hb4
     have HZ2:=hid hz2
     have HT2:=hid t2
     have X4:=hid tV
     have O1:Hid (¬(Value.slice Aw nw cw).ownBlock=some (w.heap.size+1+1)):=hid (fun e=>by have:=hol _ e;omega)
     have HOL:=hid hol
     have s2z:=hb.size
     have sVz:=tV.size
     clear hz2 hb t2 Nh U3 tV hb4 hol
     go_wp2_with (at_builtin;go_must (refine gN rfl (.tmp 48) (.tmp 50) _ rfl wx.heap.size Nb _ _ rfl rfl (HOV.out.alloc _) (fD V #[sv m.decls[j].name, .bool m.decls[j].exp, .slice B1 m.decls[j].vars.length e1,sv m.decls[j].param, .slice B2 m.decls[j].types.length e2, .int .i64 k2, .string s2, .int .i64 a4, .int .i64 a5, .int .i64 a6, .slice P4 m4 e4', .slice P5 m5 e5', .slice P6 m6 U2, .int .i64 0, .int .i64 0] 51 15 1 rfl (by decide)) (by intro u hu;simp only [List.mem_cons,List.not_mem_nil,or_false]at hu;rcases hu with rfl | rfl | rfl | rfl | rfl | rfl | rfl | rfl | rfl | rfl | rfl | rfl | rfl | rfl | rfl <;> rfl) (by unfold maxLen;simp;omega) (by simp;omega) (by simp;omega) (fun v7 w7 n7' aK fV dV=> ?_));obtain⟨Ax,nx,cx,rfl⟩:=jw aK;have Mh:=hid aK;have iL:=hid ((Turn.alloc (fun k=>(Value.slice Aw nw cw).ownBlock=some k) V _).trans (Turn.bf (F:=fun k=>(Value.slice Aw nw cw).ownBlock=some k) fV (fun k h=>h)) (fun _ _ h=>h));have gI:=ah nk.out iL.out O1.out;obtain⟨g0,g1⟩:=jf gI;have gz:∀k,w7.frozen? ⟨w.heap.size+1+1,k,none⟩=false:=fun k=>frozen_of_row _ _ _ _ _ gI;have tK:=hid gI;have kP:=hid dV;clear aK fV dV gI)
     go_roundw
     case rel=>
      obtain rfl:n7'=j+1:=by have h:=Mh.out.1;rw [List.length_append,hxl]at h;simp at h;omega
      have QL:=Mh.out.lt
      have t8:Turn (fun k=>k=wr.heap.size∨(Value.slice Aw nw cw).ownBlock=some k∨k=w.heap.size+1+1) w2 (w7.setCell ⟨w.heap.size+1+1,1,none⟩ (.slice Ax nx cx)):=((X4.out.mono (fun _ _ h=> .inl h)).trans iL.out (fun _ _ h=> .inr (.inl h))).trans (ak _ _ _ _) (fun _ _ h=> .inr (.inr h))
      refine⟨j+1, _, _,rfl,by omega,heap_setCell_same _ _ 1 _ _ _ tK.out,bT Mh.out (ak _ _ _ _) (fun k h e=>by have:=QL k h;omega), ?_,X9.out.trans (((TV.out.mono (G:=fun k=>k=wr.heap.size∨(Value.slice Aw nw cw).ownBlock=some k∨k=w.heap.size+1+1) (fun _ _ h=> .inl h)).trans iL.out (fun _ _ h=> .inr (.inl h))).trans (ak _ _ _ _) (fun _ _ h=> .inr (.inr h))) (fun k hk h=>by rcases h with h | h | h;omega;have:=HOL.out k h;omega;exact h)⟩
      rw [List.take_succ_eq_append_getElem hjl,List.map_append]
      exact LK (d:=FT m.decls[j]) (by omega) (by omega) X8.out HOW.out sdz rfl (J9.out.trans HT2.out (fun _ _ h=>h)) (by omega) (HZ2.out.mono (G:=fun k=>k<w.heap.size∨wr.heap.size<k) (fun k _ h=>h.imp id (fun h=>by omega))) t8 (by simp;omega) kP.out HP.out.1 HP.out.2.1 HP.out.2.2.1 HP.out.2.2.2 rfl
     case measure=>simp [intOf];omega
    ·obtain rfl:j=nd:=by omega
     rw [List.take_of_length_le (by rw [X6.out];exact Nat.le_refl _)]at hzs
     have U4:=(htd.block (block_lt Y5.out) (by omega)).trans Y5.out
     obtain⟨r0,r1⟩:=jf U4
     obtain⟨y0,y1⟩:=jf uN
     have z1:∀k,wr.frozen? ⟨w.heap.size+1,k,none⟩=false:=fun k=>frozen_of_row _ _ _ _ _ U4
     have HYD:=hid U4
     have X8:=hid hzs
     have HOW:=hid hown
     have X9:=hid htd
     clear hzs hown htd hbx U4 uN
     go_wp2_with fail
     have ec:=heap_setCell_same _ _ 1 _ _ (.slice Aw nw cw) (heap_setCell_same _ _ 0 _ _ (.slice Av nv cv) HYD.out)
     have tc:=(ak wr (w.heap.size+1) 0 (.slice Av nv cv)).trans (ak _ (w.heap.size+1) 1 (.slice Aw nw cw)) (fun _ _ h=>h)
     refine bodyPost_ret (aW rfl rfl ec Tryz.underlying40 rfl (by kernel_rfl)) rfl ?_
     clear ec
     generalize hw9:((wr.setCell _ _).setCell _ _)=w9 at tc ⊢
     have hwf:Below w.heap.size w w9:=Uc.out.trans (tc.below Uc.out.size (fun k hk e=>by omega))
     have ho1:=bT (bT HOWN.out X9.out (fun g h e=>by have:=HOWN.out.lt g h;omega)) tc (fun g h e=>by have:=HOWN.out.lt g h;omega)
     have ho2:=bT HOW.out tc (fun g h e=>by have:=HOW.out.lt g h;omega)
     refine⟨[.slice Av nv cv, .slice Aw nw cw],rfl,⟨_,ys, _,zs,rfl,Sl.qB ho1, ?_,Sl.qB ho2, ?_⟩,hwf⟩
     ·exact Ov.out.imp fun _ _ h=>(h.keep hwf).more hwf.size
     ·exact X8.out.imp fun _ _ h=>(h.turn tc (fun k _ h e=>by rcases h with⟨_,h | h⟩ <;> omega)).de hwf
end Go.Proofs.YtmbppnbekkbibaaGreatDoor
end
section
set_option linter.unusedVariables false
namespace Go.Proofs.YtmbppnbekkbibaaGreatDoor
open Go.RowKit
theorem FL {a b:List Bt} {i:Nat} (ha:i<a.length) (hb:i<b.length) (h:a.take i=b.take i) (h2:a[i]=b[i]):a.take (i+1)=b.take (i+1):=by
 rw [List.take_succ_eq_append_getElem ha,List.take_succ_eq_append_getElem hb,h,h2]
set_option maxRecDepth 100000 in
set_option maxHeartbeats 2000000 in
theorem Jd (va vb:Value) (a b:List Bt) (w:World) (ha:Ss w w.heap.size va a) (hb:Ss w w.heap.size vb b):
  Calls Tryz.prog 41 #[va,vb] w fun e w'=>e= .returned (.bool (decide (a=b)))∧Below w.heap.size w w':=by
 have HA:=hid ha
 have HB:=hid hb
 obtain⟨A,ca,rfl⟩:=bZ ha (by omega) (m:=a.length) (by rw [dS];omega)
 obtain⟨B,cb,rfl⟩:=bZ hb (by omega) (m:=b.length) (by rw [dS];omega)
 have l1:=(bL ha).2
 have l2:=(bL hb).2
 clear ha hb
 by_cases hl:a.length=b.length
 case neg=>
  have g:((a.length:Int) != (b.length:Int))=true:=by rw [bne_iff_ne];omega
  have HR:Hid (decide (a=b)=false):=hid (decide_eq_false (fun h=>hl (by rw [h])))
  clear hl
  go_enter Tryz.func41,Tryz.ntmps41
  go_wp2_with fail
  go_ret
  exact⟨by rw [HR.out];rfl,Below.refl _ _⟩
 obtain⟨n,hn⟩:∃n,a.length=n:=⟨_,rfl⟩
 have hm:b.length=n:=by omega
 rw [hn]at HA l1
 rw [hm]at HB l2
 rw [hn,hm]
 have HN:=hid hn
 have HM:=hid hm
 clear hl hn hm
 go_enter Tryz.func41,Tryz.ntmps41
 go_wp2_with fail
 go_loopw [5] (fun v5 wr=>∃i:Nat,v5= .int .i64 i∧i≤n∧a.take i=b.take i∧Below w.heap.size w wr) (fun v5 _=>n - (intOf v5).toNat)
 case atStart=>exact⟨0,rfl,by omega,by simp,Below.refl _ _⟩
 case round=>
  obtain⟨i,rfl,hi,heq,hbr⟩:=hrel
  have HE:=hid heq
  have ou:=hid hbr
  clear heq
  by_cases hlt:i<n
  ·have hia:i<a.length:=by rw [HN.out];exact hlt
   have hib:i<b.length:=by rw [HM.out];exact hlt
   obtain⟨b1,o1,rfl,d0⟩:=Gt (Sl.below HA.out hbr) hia
   obtain⟨b2,o2,rfl,d1⟩:=Gt (Sl.below HB.out hbr) hib
   have BX:Hid (a[i]=b[i]→a.take (i+1)=b.take (i+1)):=hid (fun h=>FL hia hib HE.out h)
   have O1:Hid (¬a[i]=b[i]→decide (a=b)=false):=hid (fun h=>decide_eq_false (fun h2=>h (by subst h2;rfl)))
   have D0:=hid d0
   have D1:=hid d1
   have HB0:Hid (Below wr.heap.size wr wr.drew):=hid (aM wr 1)
   generalize a[i]=X at*
   generalize b[i]=Y at*
   clear hbr d0 d1
   by_cases hxy:X=Y
   ·have H9:=hid (BX.out hxy)
    subst hxy
    clear BX O1
    go_wp2_with fail
    refine wp_region_held_drew (S:=fun w'=>Below wr.heap.size wr w') (by kernel_rfl) HB0.out (fun _=> ?_)
    try simp only [Act.put,List.getElem_toArray,List.getElem_cons_zero,List.getElem_cons_succ,List.setIfInBounds_toArray,List.set_cons_zero,List.set_cons_succ]
    refine tk 0 (.slice (some ⟨b1,o1,none⟩) n ca) HB0.out ?_
    refine tk 1 (.int .i64 (i:Int)) HB0.out ?_
    refine tk 2 (.pointer (some ⟨b1,o1+i,none⟩)) HB0.out ?_
    refine qP 3 (sv X) (za D0.out) HB0.out ?_
    refine tk 4 (.slice (some ⟨b2,o2,none⟩) n cb) HB0.out ?_
    refine tk 5 (.int .i64 (i:Int)) HB0.out ?_
    refine tk 6 (.pointer (some ⟨b2,o2+i,none⟩)) HB0.out ?_
    refine qP 7 (sv X) (za D1.out) HB0.out ?_
    refine tk 8 (.bool false) HB0.out ?_
    refine wpAnyH_done (by kernel_rfl) ?_ _
    go_wp2_with fail
    go_roundw
    case rel=>exact⟨i+1,rfl,by omega,H9.out,ou.out.trans (HB0.out.mono ou.out.size)⟩
    case measure=>simp [intOf];omega
   ·have g:(X != Y)=true:=by rw [bne_iff_ne];exact hxy
    have H9:=hid (O1.out hxy)
    go_wp2_with fail
    refine wp_region_held_drew (S:=fun w'=>Below wr.heap.size wr w') (by kernel_rfl) HB0.out (fun _=> ?_)
    try simp only [Act.put,List.getElem_toArray,List.getElem_cons_zero,List.getElem_cons_succ,List.setIfInBounds_toArray,List.set_cons_zero,List.set_cons_succ]
    refine tk 0 (.slice (some ⟨b1,o1,none⟩) n ca) HB0.out ?_
    refine tk 1 (.int .i64 (i:Int)) HB0.out ?_
    refine tk 2 (.pointer (some ⟨b1,o1+i,none⟩)) HB0.out ?_
    refine qP 3 (sv X) (za D0.out) HB0.out ?_
    refine tk 4 (.slice (some ⟨b2,o2,none⟩) n cb) HB0.out ?_
    refine tk 5 (.int .i64 (i:Int)) HB0.out ?_
    refine tk 6 (.pointer (some ⟨b2,o2+i,none⟩)) HB0.out ?_
    refine qP 7 (sv Y) (za D1.out) HB0.out ?_
    refine tk 8 (.bool true) HB0.out ?_
    refine wpAnyH_done (by kernel_rfl) ?_ _
    go_wp2_with fail
    go_ret
    exact⟨by rw [H9.out];rfl,ou.out.trans (HB0.out.mono ou.out.size)⟩
  ·obtain rfl:i=n:=by omega
   have H9:Hid (decide (a=b)=true):=hid (decide_eq_true (by
    have h:=HE.out
    rw [List.take_of_length_le (by rw [HN.out];omega),List.take_of_length_le (by rw [HM.out];omega)]at h
    exact h))
   clear hbr hlt
   go_wp2_with fail
   go_ret
   exact⟨by rw [H9.out];rfl,ou.out⟩
end Go.Proofs.YtmbppnbekkbibaaGreatDoor
end
section
set_option linter.unusedVariables false
namespace Go.Proofs.YtmbppnbekkbibaaGreatDoor
open Go.RowKit
def DJ (t:bO):Prop:=∀(w:World) (z1 z2:List Value),rR w w.heap.size z1 t→rR w w.heap.size z2 t→
 Calls Tryz.prog 72 #[.agg z1.toArray, .agg z2.toArray] w fun e w'=>e= .returned (.bool true)∧Below w.heap.size w w'
theorem yR (va vb:Value) (a:List Bt) (w:World) (ha:Ss w w.heap.size va a) (hb:Ss w w.heap.size vb a):
  Calls Tryz.prog 41 #[va,vb] w fun e w'=>e= .returned (.bool true)∧Below w.heap.size w w':=
 (Jd va vb a a w ha hb).mono fun e w' h=>⟨by rw [h.1,decide_eq_true (Eq.refl a)],h.2⟩
set_option maxRecDepth 100000 in
set_option maxHeartbeats 4000000 in
theorem yS (l:List bO) (H:∀t∈l,DJ t) (w:World) (v1 v2:Value) (x1 x2:List Value) (h1:Sl w w.heap.size 4 v1 x1) (r1:iq w w.heap.size x1 l) (h2:Sl w w.heap.size 4 v2 x2) (r2:iq w w.heap.size x2 l):
  Calls Tryz.prog 51 #[v1,v2] w fun e w'=>e= .returned (.bool true)∧Below w.heap.size w w':=by
 obtain⟨A1,c1,rfl⟩:=bZ h1 (by omega) (m:=l.length) r1.length
 obtain⟨A2,c2,rfl⟩:=bZ h2 (by omega) (m:=l.length) r2.length
 have l1:=(bL h1).2
 have l2:=(bL h2).2
 have og:=hid h1
 have HS2:=hid h2
 have HR1:=hid r1
 have HR2:=hid r2
 have HH:=hid H
 obtain⟨n,hn⟩:∃n,l.length=n:=⟨_,rfl⟩
 rw [hn]at og HS2 l1 l2
 rw [hn]
 have HN:=hid hn
 clear h1 h2 r1 r2 H hn
 go_enter Tryz.func51,Tryz.ntmps51
 go_wp2_with fail
 go_loopw [5] (fun v5 wr=>∃i:Nat,v5= .int .i64 i∧i≤n∧Below w.heap.size w wr) (fun v5 _=>n - (intOf v5).toNat)
 case atStart=>exact⟨0,rfl,by omega,Below.refl _ _⟩
 case round=>
  obtain⟨i,rfl,hi,hbr⟩:=hrel
  have ou:=hid hbr
  by_cases hlt:i<n
  ·have hil:i<l.length:=by rw [HN.out];exact hlt
   obtain⟨b1,o1,k1,s1,A3,n3,c3,A4,n4,c4,rfl,q1,d0,d1,d2,d3⟩:=Bj (Sl.more (Sl.below og.out hbr) hbr.size) ((HR1.out.keep hbr).more hbr.size) hil HN.out.symm
   obtain⟨b2,o2,k2,s2,A5,n5,c5,A6,n6,c6,rfl,q2,e0,e1,e2,e3⟩:=Bj (Sl.more (Sl.below HS2.out hbr) hbr.size) ((HR2.out.keep hbr).more hbr.size) hil HN.out.symm
   have HC:=hid (fun(w1:World) (h:Below wr.heap.size wr w1)=>HH.out _ (List.getElem_mem hil) w1 _ _ (q1.far (Nat.le_refl _) h) (q2.far (Nat.le_refl _) h))
   have D0:=hid d0
   have D1:=hid d1
   have D2:=hid d2
   have D3:=hid d3
   have E0:=hid e0
   have E1:=hid e1
   have E2:=hid e2
   have E3:=hid e3
   have HB0:Hid (Below wr.heap.size wr wr.drew):=hid (aM wr 1)
   clear q1 q2 d0 d1 d2 d3 e0 e1 e2 e3 hbr
   go_wp2_with fail
   refine wp_region_held_drew (S:=fun w'=>Below wr.heap.size wr w') (by kernel_rfl) HB0.out (fun _=> ?_)
   try simp only [Act.put,List.getElem_toArray,List.getElem_cons_zero,List.getElem_cons_succ,List.setIfInBounds_toArray,List.set_cons_zero,List.set_cons_succ]
   refine tk 0 (.slice (some ⟨b1,o1,none⟩) n c1) HB0.out ?_
   refine tk 1 (.int .i64 (i:Int)) HB0.out ?_
   refine tk 2 (.pointer (some ⟨b1,o1+i*4,none⟩)) HB0.out ?_
   refine qP 3 (.agg #[.int .i64 k1, .string s1, .slice A3 n3 c3, .slice A4 n4 c4]) (Uy D0.out D1.out D2.out D3.out) HB0.out ?_
   refine tk 4 (.slice (some ⟨b2,o2,none⟩) n c2) HB0.out ?_
   refine tk 5 (.int .i64 (i:Int)) HB0.out ?_
   refine tk 6 (.pointer (some ⟨b2,o2+i*4,none⟩)) HB0.out ?_
   refine qP 7 (.agg #[.int .i64 k2, .string s2, .slice A5 n5 c5, .slice A6 n6 c6]) (Uy E0.out E1.out E2.out E3.out) HB0.out ?_
   refine wpAnyH_ready (rs:=[8]) (by kernel_rfl) (by simp) ?_
   refine AllReadyH.cons rfl (fun K hK=> ?_) (AllReadyH.nil)
   go_simp
   refine(HC.out _ HB0.out).mono ?_
   rintro e w2 ⟨rfl,hb⟩
   have HB2:=hid (HB0.out.trans (hb.mono HB0.out.size))
   clear hb
   refine hK.out _ _ HB2.out (fun _=> ?_)
   clear hK K
   try simp only [Act.put,List.getElem_toArray,List.getElem_cons_zero,List.getElem_cons_succ,List.setIfInBounds_toArray,List.set_cons_zero,List.set_cons_succ]
   refine tk 9 (.bool true) HB2.out ?_
   refine wpAnyH_done (by kernel_rfl) ?_ _
   go_wp2_with fail
   go_roundw
   case rel=>exact⟨i+1,rfl,by omega,ou.out.trans (HB2.out.mono ou.out.size)⟩
   case measure=>simp [intOf];omega
  ·obtain rfl:i=n:=by omega
   clear hbr hlt
   go_wp2_with fail
   go_ret
   exact⟨rfl,ou.out⟩
set_option maxRecDepth 100000 in
set_option maxHeartbeats 4000000 in
theorem LP (k:Int) (nm:Bt) (ns:List Bt) (ks:List bO) (H:∀t∈ks,DJ t):DJ (.mk k nm ns ks):=by
 intro w z1 z2 h1 h2
 obtain⟨A1,c1,A2,c2,xk,rfl,s1,s2,r2⟩:=h1.parts
 obtain⟨A3,c3,A4,c4,xk',rfl,s3,s4,r4⟩:=h2.parts
 obtain⟨W,hW⟩:∃W,(w.alloc (.cells #[.int .i64 k,sv nm, .slice A1 ns.length c1, .slice A2 ks.length c2] 63)).alloc (.cells #[.int .i64 k,sv nm, .slice A3 ns.length c3, .slice A4 ks.length c4] 63)=W:=⟨_,rfl⟩
 have hb2:Below w.heap.size w W:=by rw [←hW];exact((Below.refl _ _).alloc (Nat.le_refl _) _).alloc (by simp) _
 have hbx:=iY w (.cells #[.int .i64 k,sv nm, .slice A1 ns.length c1, .slice A2 ks.length c2] 63) (.cells #[.int .i64 k,sv nm, .slice A3 ns.length c3, .slice A4 ks.length c4] 63)
 rw [hW]at hbx
 have HX:=hid hbx.1
 have HY:=hid hbx.2
 have HB2:=hid hb2
 have HT:=hid (yR _ _ ns W (Ss.more (s1.below hb2) hb2.size) (Ss.more (s3.below hb2) hb2.size))
 have HK:=hid (fun(w1:World) (h:Below W.heap.size W w1)=>yS ks H w1 _ _ _ _ (Sl.more (Sl.below (Sl.more (Sl.below s2 hb2) hb2.size) h) h.size) ((r2.far (Nat.le_refl _) hb2).far (Nat.le_refl _) h) (Sl.more (Sl.below (Sl.more (Sl.below s4 hb2) hb2.size) h) h.size) ((r4.far (Nat.le_refl _) hb2).far (Nat.le_refl _) h))
 have l1:=(bL s2).2
 generalize ns.length=n1 at*
 generalize ks.length=n2 at*
 clear h1 h2 s1 s2 s3 s4 r2 r4 hbx hb2
 have hsz:w.heap.size+1<W.heap.size:=block_lt HY.out
 obtain⟨x0,x1,x2,x3⟩:=uH HX.out
 obtain⟨y0,y1,y2,y3⟩:=uH HY.out
 go_enter Tryz.func72,Tryz.ntmps72
 go_wp2_with fail
 refine HT.out.mono ?_
 rintro e w2 ⟨rfl,hb⟩
 have HB3:=hid hb
 have x0:=kb hb x0
 have x1:=kb hb x1
 have x3:=kb hb x3
 have y0:=kb hb y0
 have y1:=kb hb y1
 have y3:=kb hb y3
 clear hb
 go_wp2_with fail
 refine(HK.out _ HB3.out).mono ?_
 rintro e w3 ⟨rfl,hb⟩
 have o9:=hid (HB3.out.trans (hb.mono HB3.out.size))
 have x0:=kb hb x0
 have x1:=kb hb x1
 have y0:=kb hb y0
 have y1:=kb hb y1
 clear hb
 go_wp2_with fail
 go_ret
 exact⟨rfl,HB2.out.trans (o9.out.mono HB2.out.size)⟩
theorem Ab (t:bO):DJ t:=by
 have h:∀(n:Nat) (t:bO),SizeOf.sizeOf t≤n→DJ t:=by
  intro n
  induction n with
  | zero=>intro t ht;cases t;simp at ht
  | succ n ih=>
   intro t ht
   obtain⟨k,nm,ns,ks⟩:=t
   refine LP k nm ns ks fun x hx=>ih x ?_
   have:=List.sizeOf_lt_of_mem hx
   simp at ht;omega
 exact h _ t (Nat.le_refl _)
theorem DK (l:List bO) (w:World) (v1 v2:Value) (x1 x2:List Value) (h1:Sl w w.heap.size 4 v1 x1) (r1:iq w w.heap.size x1 l) (h2:Sl w w.heap.size 4 v2 x2) (r2:iq w w.heap.size x2 l):
  Calls Tryz.prog 51 #[v1,v2] w fun e w'=>e= .returned (.bool true)∧Below w.heap.size w w':=yS l (fun t _=>Ab t) w v1 v2 x1 x2 h1 r1 h2 r2
def GA (x:bD):Prop:=∀(w:World) (z1 z2:List Value),qH w w.heap.size z1 x→qH w w.heap.size z2 x→
 Calls Tryz.prog 25 #[.agg z1.toArray, .agg z2.toArray] w fun e w'=>e= .returned (.bool true)∧Below w.heap.size w w'
set_option maxRecDepth 100000 in
set_option maxHeartbeats 4000000 in
theorem Je (k:Int) (text:Bt) (n line col:Int) (ts:List bO) (ns:List Bt) (ks:List bD) (H:∀t∈ks,GA t):GA (.mk k text n line col ts ns ks):=by
 intro w z1 z2 h1 h2
 obtain⟨A1,c1,A2,c2,A3,c3,xt,xk,rfl,s1,r1,s2,s3,r3⟩:=h1.parts
 obtain⟨A4,c4,A5,c5,A6,c6,xt',xk',rfl,s4,r4,s5,s6,r6⟩:=h2.parts
 obtain⟨W,hW⟩:∃W,(w.alloc (.cells #[.int .i64 k,sv text, .int .i64 n, .int .i64 line, .int .i64 col, .slice A1 ts.length c1, .slice A2 ns.length c2, .slice A3 ks.length c3] 49)).alloc (.cells #[.int .i64 k,sv text, .int .i64 n, .int .i64 line, .int .i64 col, .slice A4 ts.length c4, .slice A5 ns.length c5, .slice A6 ks.length c6] 49)=W:=⟨_,rfl⟩
 have hb2:Below w.heap.size w W:=by rw [←hW];exact((Below.refl _ _).alloc (Nat.le_refl _) _).alloc (by simp) _
 have hbx:=iY w (.cells #[.int .i64 k,sv text, .int .i64 n, .int .i64 line, .int .i64 col, .slice A1 ts.length c1, .slice A2 ns.length c2, .slice A3 ks.length c3] 49) (.cells #[.int .i64 k,sv text, .int .i64 n, .int .i64 line, .int .i64 col, .slice A4 ts.length c4, .slice A5 ns.length c5, .slice A6 ks.length c6] 49)
 rw [hW]at hbx
 have HX:=hid hbx.1
 have HY:=hid hbx.2
 have HB2:=hid hb2
 have HT:=hid (yR _ _ ns W (Ss.more (s2.below hb2) hb2.size) (Ss.more (s5.below hb2) hb2.size))
 have HK:=hid (fun(w1:World) (h:Below W.heap.size W w1)=>DK ts w1 _ _ _ _ (Sl.more (Sl.below (Sl.more (Sl.below s1 hb2) hb2.size) h) h.size) ((r1.far (Nat.le_refl _) hb2).far (Nat.le_refl _) h) (Sl.more (Sl.below (Sl.more (Sl.below s4 hb2) hb2.size) h) h.size) ((r4.far (Nat.le_refl _) hb2).far (Nat.le_refl _) h))
 have zu:=hid (Sl.more (Sl.below s3 hb2) hb2.size)
 have MH:=hid (Sl.more (Sl.below s6 hb2) hb2.size)
 have HR3:=hid (r3.far (Nat.le_refl _) hb2)
 have AO:=hid (r6.far (Nat.le_refl _) hb2)
 have HH:=hid H
 have l1:=(bL s3).2
 have l2:=(bL s6).2
 obtain⟨n4,U5⟩:∃x,ks.length=x:=⟨_,rfl⟩
 rw [U5]at HX HY zu MH l1 l2 hW
 rw [U5]
 have NK:=hid U5
 generalize ts.length=n2 at*
 generalize ns.length=n3 at*
 clear h1 h2 s1 s2 s3 s4 s5 s6 r1 r3 r4 r6 hbx hb2 H U5
 have hsz:w.heap.size+1<W.heap.size:=block_lt HY.out
 obtain⟨x0,x1,x2,x3,x4,x5,x6,x7⟩:=gq HX.out
 obtain⟨y0,y1,y2,y3,y4,y5,y6,y7⟩:=gq HY.out
 go_enter Tryz.func25,Tryz.ntmps25
 go_wp2_with fail
 refine HT.out.mono ?_
 rintro e w2 ⟨rfl,hb⟩
 have HB3:=hid hb
 have x0:=kb hb x0
 have y0:=kb hb y0
 have x1:=kb hb x1
 have y1:=kb hb y1
 have x2:=kb hb x2
 have y2:=kb hb y2
 have x3:=kb hb x3
 have y3:=kb hb y3
 have x4:=kb hb x4
 have y4:=kb hb y4
 have x5:=kb hb x5
 have y5:=kb hb y5
 have x7:=kb hb x7
 have y7:=kb hb y7
 clear hb
 go_wp2_with fail
 refine(HK.out _ HB3.out).mono ?_
 rintro e w3 ⟨rfl,hb⟩
 have o9:=hid (HB3.out.trans (hb.mono HB3.out.size))
 have x0:=kb hb x0
 have y0:=kb hb y0
 have x1:=kb hb x1
 have y1:=kb hb y1
 have x2:=kb hb x2
 have y2:=kb hb y2
 have x3:=kb hb x3
 have y3:=kb hb y3
 have x4:=kb hb x4
 have y4:=kb hb y4
 have x7:=kb hb x7
 have y7:=kb hb y7
 clear hb
 go_wp2_with fail
 clear x0 x1 x2 x3 x4 x5 x6 y0 y1 y2 y3 y4 y5 y6
 go_loopw [7] (fun v7 wr=>∃i:Nat,v7= .int .i64 i∧i≤n4∧Below W.heap.size W wr) (fun v7 _=>n4 - (intOf v7).toNat)
 case atStart=>exact⟨0,rfl,by omega,o9.out⟩
 case round=>
  obtain⟨i,rfl,hi,hbr⟩:=hrel
  have ou:=hid hbr
  have x7:=((hbr.cell (p:=⟨w.heap.size,7,none⟩) (by show w.heap.size<W.heap.size;omega)).trans (gq HX.out).2.2.2.2.2.2.2)
  have y7:=((hbr.cell (p:=⟨w.heap.size+1,7,none⟩) hsz).trans (gq HY.out).2.2.2.2.2.2.2)
  by_cases hlt:i<n4
  ·have hil:i<ks.length:=by rw [NK.out];exact hlt
   obtain⟨b1,o1,k1,s1,a1,a2,a3,P1,m1,e1,P2,m2,e2,P3,m3,e3,rfl,q1,d0,d1,d2,d3,d4,d5,d6,d7⟩:=wS (Sl.more (Sl.below zu.out hbr) hbr.size) ((HR3.out.keep hbr).more hbr.size) hil NK.out.symm
   obtain⟨b2,o2,k2,s2,a4,a5,a6,P4,m4,e4,P5,m5,e5,P6,m6,e6,rfl,q2,f0,f1,f2,f3,f4,f5,f6,f7⟩:=wS (Sl.more (Sl.below MH.out hbr) hbr.size) ((AO.out.keep hbr).more hbr.size) hil NK.out.symm
   have HC:=hid (fun(w1:World) (h:Below wr.heap.size wr w1)=>HH.out _ (List.getElem_mem hil) w1 _ _ (q1.far (Nat.le_refl _) h) (q2.far (Nat.le_refl _) h))
   have D0:=hid d0
   have E0:=hid f0
   have D1:=hid d1
   have E1:=hid f1
   have D2:=hid d2
   have E2:=hid f2
   have D3:=hid d3
   have E3:=hid f3
   have D4:=hid d4
   have E4:=hid f4
   have D5:=hid d5
   have E5:=hid f5
   have D6:=hid d6
   have E6:=hid f6
   have D7:=hid d7
   have E7:=hid f7
   have X7:=hid x7
   have Y7:=hid y7
   have HB0:Hid (Below wr.heap.size wr wr.drew):=hid (aM wr 1)
   clear q1 q2 d0 d1 d2 d3 d4 d5 d6 d7 f0 f1 f2 f3 f4 f5 f6 f7 hbr
   go_wp2_with fail
   refine wp_region_held_drew (S:=fun w'=>Below wr.heap.size wr w') (by kernel_rfl) HB0.out (fun _=> ?_)
   try simp only [Act.put,List.getElem_toArray,List.getElem_cons_zero,List.getElem_cons_succ,List.setIfInBounds_toArray,List.set_cons_zero,List.set_cons_succ]
   refine tk 0 (.pointer (some ⟨w.heap.size,7,none⟩)) HB0.out ?_
   refine qP 1 (.slice (some ⟨b1,o1,none⟩) n4 c3) (za X7.out) HB0.out ?_
   refine tk 2 (.int .i64 (i:Int)) HB0.out ?_
   refine tk 3 (.pointer (some ⟨b1,o1+i*8,none⟩)) HB0.out ?_
   refine qP 4 (.agg #[.int .i64 k1, .string s1, .int .i64 a1, .int .i64 a2, .int .i64 a3, .slice P1 m1 e1, .slice P2 m2 e2, .slice P3 m3 e3]) (Yp D0.out D1.out D2.out D3.out D4.out D5.out D6.out D7.out) HB0.out ?_
   refine tk 5 (.pointer (some ⟨w.heap.size+1,7,none⟩)) HB0.out ?_
   refine qP 6 (.slice (some ⟨b2,o2,none⟩) n4 c6) (za Y7.out) HB0.out ?_
   refine tk 7 (.int .i64 (i:Int)) HB0.out ?_
   refine tk 8 (.pointer (some ⟨b2,o2+i*8,none⟩)) HB0.out ?_
   refine qP 9 (.agg #[.int .i64 k2, .string s2, .int .i64 a4, .int .i64 a5, .int .i64 a6, .slice P4 m4 e4, .slice P5 m5 e5, .slice P6 m6 e6]) (Yp E0.out E1.out E2.out E3.out E4.out E5.out E6.out E7.out) HB0.out ?_
   refine wpAnyH_ready (rs:=[10]) (by kernel_rfl) (by simp) ?_
   refine AllReadyH.cons rfl (fun K hK=> ?_) (AllReadyH.nil)
   go_simp
   refine(HC.out _ HB0.out).mono ?_
   rintro e w2 ⟨rfl,hb⟩
   have HB2:=hid (HB0.out.trans (hb.mono HB0.out.size))
   clear hb
   refine hK.out _ _ HB2.out (fun _=> ?_)
   clear hK K
   try simp only [Act.put,List.getElem_toArray,List.getElem_cons_zero,List.getElem_cons_succ,List.setIfInBounds_toArray,List.set_cons_zero,List.set_cons_succ]
   refine tk 11 (.bool true) HB2.out ?_
   refine wpAnyH_done (by kernel_rfl) ?_ _
   go_wp2_with fail
   go_roundw
   case rel=>exact⟨i+1,rfl,by omega,ou.out.trans (HB2.out.mono ou.out.size)⟩
   case measure=>simp [intOf];omega
  ·obtain rfl:i=n4:=by omega
   clear hbr hlt
   go_wp2_with fail
   go_ret
   exact⟨rfl,HB2.out.trans (ou.out.mono HB2.out.size)⟩
theorem Jf (t:bD):GA t:=by
 have h:∀(n:Nat) (t:bD),SizeOf.sizeOf t≤n→GA t:=by
  intro n
  induction n with
  | zero=>intro t ht;cases t;simp at ht
  | succ n ih=>
   intro t ht
   obtain⟨k,text,n1,line,col,ts,ns,ks⟩:=t
   refine Je k text n1 line col ts ns ks fun x hx=>ih x ?_
   have:=List.sizeOf_lt_of_mem hx
   simp at ht;omega
 exact h _ t (Nat.le_refl _)
end Go.Proofs.YtmbppnbekkbibaaGreatDoor
end
section
set_option linter.unusedVariables false
namespace Go.Proofs.YtmbppnbekkbibaaGreatDoor
open Go.RowKit
theorem Uj {w:World} {a0 a1 a2 a3 a4 a5 a6 a7 a8 a9 BD AX a12 zP zo:Addr} {v0 v1 v2 v3 v4 v5 v6 v7 v8 v9 v10 v11 v12 v13 v14:Value} (d0:w.cell? a0=some v0) (d1:w.cell? a1=some v1) (d2:w.cell? a2=some v2) (d3:w.cell? a3=some v3) (d4:w.cell? a4=some v4) (d5:w.cell? a5=some v5) (d6:w.cell? a6=some v6) (d7:w.cell? a7=some v7) (d8:w.cell? a8=some v8) (d9:w.cell? a9=some v9) (Ud:w.cell? BD=some v10) (Ue:w.cell? AX=some v11) (Uf:w.cell? a12=some v12) (Ug:w.cell? zP=some v13) (Uh:w.cell? zo=some v14):
  ∀w',Below w.heap.size w w'→w'.cell? a0=some v0∧w'.cell? a1=some v1∧w'.cell? a2=some v2∧w'.cell? a3=some v3∧w'.cell? a4=some v4∧w'.cell? a5=some v5∧w'.cell? a6=some v6∧w'.cell? a7=some v7∧w'.cell? a8=some v8∧w'.cell? a9=some v9∧w'.cell? BD=some v10∧w'.cell? AX=some v11∧w'.cell? a12=some v12∧w'.cell? zP=some v13∧w'.cell? zo=some v14:=fun _ h=>⟨kb h d0,kb h d1,kb h d2,kb h d3,kb h d4,kb h d5,kb h d6,kb h d7,kb h d8,kb h d9,kb h Ud,kb h Ue,kb h Uf,kb h Ug,kb h Uh⟩
set_option maxRecDepth 100000 in
set_option maxHeartbeats 8000000 in
theorem Jg (d:kg) (w:World) (z1 z2:List Value) (h1:wG w w.heap.size z1 d) (h2:wG w w.heap.size z2 d):
  Calls Tryz.prog 42 #[.agg z1.toArray, .agg z2.toArray] w fun e w'=>e= .returned (.bool true)∧Below w.heap.size w w':=by
 obtain⟨A1,c1,A2,c2,k,s,n,l,c,A3,n3,c3,A4,n4,c4,A5,n5,c5,xv,xt,rfl,s1,r1,s2,r2,r3⟩:=h1.parts
 obtain⟨B1,e1,B2,e2,k_,s_,n_,l_,c_,B3,m3,e3,B4,m4,e4,B5,m5,e5,yv,yt,rfl,s4,r4,s5,r5,r6⟩:=h2.parts
 obtain⟨W,hW⟩:∃W,(w.alloc (.cells #[sv d.name, .bool d.exp, .slice A1 d.vars.length c1,sv d.param, .slice A2 d.types.length c2, .int .i64 k, .string s, .int .i64 n, .int .i64 l, .int .i64 c, .slice A3 n3 c3, .slice A4 n4 c4, .slice A5 n5 c5, .int .i64 d.line, .int .i64 d.col] 51)).alloc (.cells #[sv d.name, .bool d.exp, .slice B1 d.vars.length e1,sv d.param, .slice B2 d.types.length e2, .int .i64 k_, .string s_, .int .i64 n_, .int .i64 l_, .int .i64 c_, .slice B3 m3 e3, .slice B4 m4 e4, .slice B5 m5 e5, .int .i64 d.line, .int .i64 d.col] 51)=W:=⟨_,rfl⟩
 have hb2:Below w.heap.size w W:=by rw [←hW];exact((Below.refl _ _).alloc (Nat.le_refl _) _).alloc (by simp) _
 have hbx:=iY w (.cells #[sv d.name, .bool d.exp, .slice A1 d.vars.length c1,sv d.param, .slice A2 d.types.length c2, .int .i64 k, .string s, .int .i64 n, .int .i64 l, .int .i64 c, .slice A3 n3 c3, .slice A4 n4 c4, .slice A5 n5 c5, .int .i64 d.line, .int .i64 d.col] 51) (.cells #[sv d.name, .bool d.exp, .slice B1 d.vars.length e1,sv d.param, .slice B2 d.types.length e2, .int .i64 k_, .string s_, .int .i64 n_, .int .i64 l_, .int .i64 c_, .slice B3 m3 e3, .slice B4 m4 e4, .slice B5 m5 e5, .int .i64 d.line, .int .i64 d.col] 51)
 rw [hW]at hbx
 have HX:=hid hbx.1
 have HY:=hid hbx.2
 have HB2:=hid hb2
 have HK:=hid (fun(w1:World) (h:Below W.heap.size W w1)=>DK d.types w1 _ _ _ _ (Sl.more (Sl.below (Sl.more (Sl.below s2 hb2) hb2.size) h) h.size) ((r2.far (Nat.le_refl _) hb2).far (Nat.le_refl _) h) (Sl.more (Sl.below (Sl.more (Sl.below s5 hb2) hb2.size) h) h.size) ((r5.far (Nat.le_refl _) hb2).far (Nat.le_refl _) h))
 have HN:=hid (fun(w1:World) (h:Below W.heap.size W w1)=>Jf d.body w1 _ _ ((r3.far (Nat.le_refl _) hb2).far (Nat.le_refl _) h) ((r6.far (Nat.le_refl _) hb2).far (Nat.le_refl _) h))
 have og:=hid (Sl.more (Sl.below s1 hb2) hb2.size)
 have vZ:=hid (Sl.more (Sl.below s4 hb2) hb2.size)
 have HR1:=hid (r1.imp fun _ _ h=>(h.keep hb2).more hb2.size)
 have HR4:=hid (r4.imp fun _ _ h=>(h.keep hb2).more hb2.size)
 have l1:=(bL s1).2
 have l2:=(bL s4).2
 obtain⟨vs,hvs⟩:∃x,d.vars=x:=⟨_,rfl⟩
 rw [hvs]at HX HY og vZ HR1 HR4 hW l1 l2
 rw [hvs]
 obtain⟨nv,U6⟩:∃x,vs.length=x:=⟨_,rfl⟩
 rw [U6]at HX HY og vZ hW l1 l2
 rw [U6]
 have Ya:=hid U6
 generalize d.types.length=nt at*
 generalize d.name=nm at*
 generalize d.exp=ex at*
 generalize d.param=pm at*
 generalize d.line=dl at*
 generalize d.col=dc at*
 clear h1 h2 s1 s2 s4 s5 r1 r2 r3 r4 r5 r6 hbx hb2 U6 hvs
 have hsz:w.heap.size+1<W.heap.size:=block_lt HY.out
 obtain⟨x0,x1,x2,x3,x4,x5,x6,x7,x8,x9,x10,Ot,Ou,Ro,Rp⟩:=qg HX.out
 obtain⟨y0,y1,y2,y3,y4,y5,y6,y7,y8,y9,Uk,Ul,Um,y13,Yb⟩:=qg HY.out
 go_enter Tryz.func42,Tryz.ntmps42
 go_wp2_with fail
 clear x0 x1 x2 x3 x4 x5 x6 x7 x8 x9 x10 Ot Ou Ro Rp y0 y1 y2 y3 y4 y5 y6 y7 y8 y9 Uk Ul Um y13 Yb
 go_loopw [5] (fun v5 wr=>∃i:Nat,v5= .int .i64 i∧i≤nv∧Below W.heap.size W wr) (fun v5 _=>nv - (intOf v5).toNat)
 case atStart=>exact⟨0,rfl,by omega,Below.refl _ _⟩
 case round=>
  obtain⟨i,rfl,hi,hbr⟩:=hrel
  have ou:=hid hbr
  obtain⟨x0,x1,x2,x3,x4,x5,x6,x7,x8,x9,x10,Ot,Ou,Ro,Rp⟩:=qg ((hbr.block _ (block_lt HX.out)).trans HX.out)
  obtain⟨y0,y1,y2,y3,y4,y5,y6,y7,y8,y9,Uk,Ul,Um,y13,Yb⟩:=qg ((hbr.block _ (block_lt HY.out)).trans HY.out)
  by_cases hlt:i<nv
  ·clear x0 x1 x3 x4 x5 x6 x7 x8 x9 x10 Ot Ou Ro Rp y0 y1 y3 y4 y5 y6 y7 y8 y9 Uk Ul Um y13 Yb
   have hil:i<vs.length:=by rw [Ya.out];exact hlt
   obtain⟨b1,o1,k1,s1,P1,m1,f1,P2,m2,f2,rfl,q1,hk1,d0,d1,d2,d3,d4⟩:=LH (Sl.more (Sl.below og.out hbr) hbr.size) (HR1.out.imp fun _ _ h=>(h.keep hbr).more hbr.size) hil Ya.out.symm
   obtain⟨b2,o2,k2,s2,P3,q3,f3,P4,q4,f4,rfl,q2,hk2,g0,g1,g2,g3,g4⟩:=LH (Sl.more (Sl.below vZ.out hbr) hbr.size) (HR4.out.imp fun _ _ h=>(h.keep hbr).more hbr.size) hil Ya.out.symm
   have HC:=hid (fun(w1:World) (h:Below wr.heap.size wr w1)=>Ab _ w1 _ _ (q1.far (Nat.le_refl _) h) (q2.far (Nat.le_refl _) h))
   have D0:=hid d0
   have E0:=hid g0
   have D1:=hid d1
   have E1:=hid g1
   have D2:=hid d2
   have E2:=hid g2
   have D3:=hid d3
   have E3:=hid g3
   have D4:=hid d4
   have E4:=hid g4
   have X2:=hid x2
   have Y2:=hid y2
   have HB0:Hid (Below wr.heap.size wr wr.drew):=hid (aM wr 1)
   generalize vs[i].name=X at*
   clear q1 q2 hk1 hk2 d0 d1 d2 d3 d4 g0 g1 g2 g3 g4 hbr
   go_wp2_with fail
   refine wp_region_held_drew (S:=fun w'=>Below wr.heap.size wr w') (by kernel_rfl) HB0.out (fun _=> ?_)
   try simp only [Act.put,List.getElem_toArray,List.getElem_cons_zero,List.getElem_cons_succ,List.setIfInBounds_toArray,List.set_cons_zero,List.set_cons_succ]
   refine tk 0 (.pointer (some ⟨w.heap.size,2,none⟩)) HB0.out ?_
   refine qP 1 (.slice (some ⟨b1,o1,none⟩) nv c1) (za X2.out) HB0.out ?_
   refine tk 2 (.int .i64 (i:Int)) HB0.out ?_
   refine tk 3 (.pointer (some ⟨b1,o1+i*5,none⟩)) HB0.out ?_
   refine tk 4 (.pointer (some ⟨b1,o1+i*5+1,none⟩)) HB0.out ?_
   refine qP 5 (.agg #[.int .i64 k1, .string s1, .slice P1 m1 f1, .slice P2 m2 f2]) (Uy D1.out D2.out D3.out D4.out) HB0.out ?_
   refine tk 6 (.pointer (some ⟨w.heap.size+1,2,none⟩)) HB0.out ?_
   refine qP 7 (.slice (some ⟨b2,o2,none⟩) nv e1) (za Y2.out) HB0.out ?_
   refine tk 8 (.int .i64 (i:Int)) HB0.out ?_
   refine tk 9 (.pointer (some ⟨b2,o2+i*5,none⟩)) HB0.out ?_
   refine tk 10 (.pointer (some ⟨b2,o2+i*5+1,none⟩)) HB0.out ?_
   refine qP 11 (.agg #[.int .i64 k2, .string s2, .slice P3 q3 f3, .slice P4 q4 f4]) (Uy E1.out E2.out E3.out E4.out) HB0.out ?_
   refine wpAnyH_ready (rs:=[12]) (by kernel_rfl) (by simp) ?_
   refine AllReadyH.cons rfl (fun K hK=> ?_) (AllReadyH.nil)
   go_simp
   refine(HC.out _ HB0.out).mono ?_
   rintro e w2 ⟨rfl,hb⟩
   have HB2:=hid (HB0.out.trans (hb.mono HB0.out.size))
   clear hb
   refine hK.out _ _ HB2.out (fun _=> ?_)
   clear hK K
   try simp only [Act.put,List.getElem_toArray,List.getElem_cons_zero,List.getElem_cons_succ,List.setIfInBounds_toArray,List.set_cons_zero,List.set_cons_succ]
   refine tk 13 (.bool true) HB2.out ?_
   refine wpAnyH_done (by kernel_rfl) ?_ _
   have x2:=kb HB2.out x2
   have y2:=kb HB2.out y2
   have d0:=kb HB2.out D0.out
   have g0:=kb HB2.out E0.out
   clear X2 Y2 D0 E0
   have D0:=hid d0
   have E0:=hid g0
   have X2:=hid x2
   have Y2:=hid y2
   have nk:Hid (Below w2.heap.size w2 w2.drew):=hid (aM w2 1)
   clear d0 g0
   go_wp2_with fail
   refine wp_region_held_drew (S:=fun w'=>Below w2.heap.size w2 w') (by kernel_rfl) nk.out (fun _=> ?_)
   try simp only [Act.put,List.getElem_toArray,List.getElem_cons_zero,List.getElem_cons_succ,List.setIfInBounds_toArray,List.set_cons_zero,List.set_cons_succ]
   refine tk 0 (.pointer (some ⟨w.heap.size,2,none⟩)) nk.out ?_
   refine qP 1 (.slice (some ⟨b1,o1,none⟩) nv c1) (za X2.out) nk.out ?_
   refine tk 2 (.int .i64 (i:Int)) nk.out ?_
   refine tk 3 (.pointer (some ⟨b1,o1+i*5,none⟩)) nk.out ?_
   refine tk 4 (.pointer (some ⟨b1,o1+i*5,none⟩)) nk.out ?_
   refine qP 5 (sv X) (za D0.out) nk.out ?_
   refine tk 6 (.pointer (some ⟨w.heap.size+1,2,none⟩)) nk.out ?_
   refine qP 7 (.slice (some ⟨b2,o2,none⟩) nv e1) (za Y2.out) nk.out ?_
   refine tk 8 (.int .i64 (i:Int)) nk.out ?_
   refine tk 9 (.pointer (some ⟨b2,o2+i*5,none⟩)) nk.out ?_
   refine tk 10 (.pointer (some ⟨b2,o2+i*5,none⟩)) nk.out ?_
   refine qP 11 (sv X) (za E0.out) nk.out ?_
   refine tk 12 (.bool false) nk.out ?_
   refine tk 13 (.bool false) nk.out ?_
   refine tk 14 (.bool true) nk.out ?_
   refine tk 15 (.bool false) nk.out ?_
   refine tk 16 (.bool false) nk.out ?_
   refine wpAnyH_done (by kernel_rfl) ?_ _
   go_wp2_with fail
   go_roundw
   case rel=>exact⟨i+1,rfl,by omega,(ou.out.trans (HB2.out.mono ou.out.size)).trans (nk.out.mono (ou.out.trans (HB2.out.mono ou.out.size)).size)⟩
   case measure=>simp [intOf];omega
  ·obtain rfl:i=nv:=by omega
   clear hlt hbr
   go_wp2_with fail
   refine(HK.out _ ou.out).mono ?_
   rintro e w2 ⟨rfl,hb⟩
   have HB3:=hid (ou.out.trans (hb.mono ou.out.size))
   have x5:=kb hb x5
   have y5:=kb hb y5
   have x6:=kb hb x6
   have y6:=kb hb y6
   have x7:=kb hb x7
   have y7:=kb hb y7
   have x8:=kb hb x8
   have y8:=kb hb y8
   have x9:=kb hb x9
   have y9:=kb hb y9
   have x10:=kb hb x10
   have Uk:=kb hb Uk
   have Ot:=kb hb Ot
   have Ul:=kb hb Ul
   have Ou:=kb hb Ou
   have Um:=kb hb Um
   clear hb
   go_wp2_with fail
   refine(HN.out _ HB3.out).mono ?_
   rintro e w3 ⟨rfl,hb⟩
   have o9:=hid (HB3.out.trans (hb.mono HB3.out.size))
   clear hb
   go_wp2_with fail
   go_ret
   exact⟨rfl,HB2.out.trans (o9.out.mono HB2.out.size)⟩
set_option maxRecDepth 100000 in
set_option maxHeartbeats 8000000 in
theorem DL (m:tO) (w:World) (z1 z2:List Value) (h1:Bu w w.heap.size z1 m) (h2:Bu w w.heap.size z2 m):
  Calls Tryz.prog 18 #[.agg z1.toArray, .agg z2.toArray] w fun e w'=>e= .returned (.bool true)∧Below w.heap.size w w':=by
 obtain⟨A1,c1,A2,c2,xi,xd,rfl,s1,r1,s2,r2⟩:=h1.parts
 obtain⟨A3,c3,A4,c4,yi,yd,rfl,s3,r3,s4,r4⟩:=h2.parts
 obtain⟨W,hW⟩:∃W,(w.alloc (.cells #[.slice A1 m.imps.length c1, .slice A2 m.decls.length c2] 40)).alloc (.cells #[.slice A3 m.imps.length c3, .slice A4 m.decls.length c4] 40)=W:=⟨_,rfl⟩
 have hb2:Below w.heap.size w W:=by rw [←hW];exact((Below.refl _ _).alloc (Nat.le_refl _) _).alloc (by simp) _
 have hbx:=iY w (.cells #[.slice A1 m.imps.length c1, .slice A2 m.decls.length c2] 40) (.cells #[.slice A3 m.imps.length c3, .slice A4 m.decls.length c4] 40)
 rw [hW]at hbx
 have HX:=hid hbx.1
 have HY:=hid hbx.2
 have HB2:=hid hb2
 have og:=hid (Sl.more (Sl.below s1 hb2) hb2.size)
 have HS2:=hid (Sl.more (Sl.below s2 hb2) hb2.size)
 have zu:=hid (Sl.more (Sl.below s3 hb2) hb2.size)
 have vZ:=hid (Sl.more (Sl.below s4 hb2) hb2.size)
 have HR1:=hid (r1.imp fun _ _ h=>(h.keep hb2).more hb2.size)
 have HR2:=hid (r2.imp fun _ _ h=>(h.keep hb2).more hb2.size)
 have HR3:=hid (r3.imp fun _ _ h=>(h.keep hb2).more hb2.size)
 have HR4:=hid (r4.imp fun _ _ h=>(h.keep hb2).more hb2.size)
 have l1:=(bL s1).2
 have l2:=(bL s2).2
 have l3:=(bL s3).2
 have l4:=(bL s4).2
 obtain⟨is,his⟩:∃x,m.imps=x:=⟨_,rfl⟩
 obtain⟨ds,hds⟩:∃x,m.decls=x:=⟨_,rfl⟩
 rw [his,hds]at HX HY hW
 rw [his]at og zu HR1 HR3 l1 l3
 rw [hds]at HS2 vZ HR2 HR4 l2 l4
 rw [his,hds]
 obtain⟨a,ha⟩:∃x,is.length=x:=⟨_,rfl⟩
 obtain⟨d,hd⟩:∃x,ds.length=x:=⟨_,rfl⟩
 rw [ha,hd]at HX HY hW
 rw [ha]at og zu l1 l3
 rw [hd]at HS2 vZ l2 l4
 rw [ha,hd]
 have HA:=hid ha
 have HD:=hid hd
 clear h1 h2 s1 s2 s3 s4 r1 r2 r3 r4 hbx hb2 his hds ha hd
 have hsz:w.heap.size+1<W.heap.size:=block_lt HY.out
 obtain⟨x0,x1⟩:=jf HX.out
 obtain⟨y0,y1⟩:=jf HY.out
 go_enter Tryz.func18,Tryz.ntmps18
 go_wp2_with fail
 clear x0 x1 y0 y1
 go_loopw [5] (fun v5 wr=>∃i:Nat,v5= .int .i64 i∧i≤a∧Below W.heap.size W wr) (fun v5 _=>a - (intOf v5).toNat)
 case atStart=>exact⟨0,rfl,by omega,Below.refl _ _⟩
 case round=>
  obtain⟨i,rfl,hi,hbr⟩:=hrel
  have ou:=hid hbr
  obtain⟨x0,x1⟩:=jf ((hbr.block _ (block_lt HX.out)).trans HX.out)
  obtain⟨y0,y1⟩:=jf ((hbr.block _ (block_lt HY.out)).trans HY.out)
  by_cases hlt:i<a
  ·have hil:i<is.length:=by rw [HA.out];exact hlt
   obtain⟨b1,o1,A6,c6,rfl,q1,d0,d1,d2,d3⟩:=FJ (Sl.more (Sl.below og.out hbr) hbr.size) (HR1.out.imp fun _ _ h=>(h.keep hbr).more hbr.size) hil HA.out.symm
   obtain⟨b2,o2,A7,c7,rfl,q2,g0,g1,g2,g3⟩:=FJ (Sl.more (Sl.below zu.out hbr) hbr.size) (HR3.out.imp fun _ _ h=>(h.keep hbr).more hbr.size) hil HA.out.symm
   have HT:=hid (fun(w1:World) (h:Below wr.heap.size wr w1)=>yR _ _ is[i].names w1 (Ss.more (Ss.below q1 h) h.size) (Ss.more (Ss.below q2 h) h.size))
   have l6:=(bL q1).2
   have l7:=(bL q2).2
   generalize is[i].names.length=nn at*
   generalize is[i].from_=F at*
   generalize is[i].line=li at*
   generalize is[i].col=co at*
   clear q1 q2
   obtain⟨U,hU⟩:∃U,wr.alloc (.cells #[sv F, .slice A6 nn c6, .int .i64 li, .int .i64 co] 88)=U:=⟨_,rfl⟩
   have Ow:Below wr.heap.size wr U:=by rw [←hU];exact(Below.refl _ _).alloc (Nat.le_refl _) _
   obtain⟨V,hV⟩:∃V,U.alloc (.cells #[sv F, .slice A7 nn c7, .int .i64 li, .int .i64 co] 88)=V:=⟨_,rfl⟩
   have sU:U.heap.size=wr.heap.size+1:=by rw [←hU,World.size_alloc]
   have U3:Below wr.heap.size wr V:=by rw [←hV];exact Ow.alloc (by omega) _
   have Y6:V.heap[wr.heap.size]? =some (.cells #[sv F, .slice A6 nn c6, .int .i64 li, .int .i64 co] 88 (0,0)):=by rw [←hV];exact ah (by rw [←hU];exact heap_alloc_new _ _) (Turn.alloc (fun _=>False) _ _) (fun h=>h)
   have Y8:V.heap[wr.heap.size+1]? =some (.cells #[sv F, .slice A7 nn c7, .int .i64 li, .int .i64 co] 88 (0,0)):=by rw [←hV, ←sU];exact heap_alloc_new _ _
   have y0:=kb Ow y0
   have g0:=kb Ow g0
   have g1:=kb Ow g1
   have g2:=kb Ow g2
   have g3:=kb Ow g3
   obtain⟨p0,p1,p2,p3⟩:=uH Y6
   obtain⟨r0,r1,r2,r3⟩:=uH Y8
   have Yc:=hid U3
   have HBU:=hid Ow
   clear Ow Y6 Y8 hbr
   go_wp2_with fail
   refine(HT.out _ Yc.out).mono ?_
   rintro e w2 ⟨rfl,hb⟩
   have HB3:=hid (Yc.out.trans (hb.mono Yc.out.size))
   have p0:=kb hb p0
   have p2:=kb hb p2
   have p3:=kb hb p3
   have r0:=kb hb r0
   have r2:=kb hb r2
   have r3:=kb hb r3
   clear hb hU hV
   go_wp2_with fail
   go_roundw
   case rel=>exact⟨i+1,rfl,by omega,ou.out.trans (HB3.out.mono ou.out.size)⟩
   case measure=>simp [intOf];omega
  obtain rfl:i=a:=by omega
  clear hlt hbr
  go_wp2_with fail
  clear x0 x1 y0 y1 hi
  go_loopw [9] (fun v9 wr=>∃i:Nat,v9= .int .i64 i∧i≤d∧Below W.heap.size W wr) (fun v9 _=>d - (intOf v9).toNat)
  case atStart=>exact⟨0,rfl,by omega,ou.out⟩
  case round=>
  obtain⟨i,rfl,hi,hbr⟩:=hrel
  have ou:=hid hbr
  obtain⟨x0,x1⟩:=jf ((hbr.block _ (block_lt HX.out)).trans HX.out)
  obtain⟨y0,y1⟩:=jf ((hbr.block _ (block_lt HY.out)).trans HY.out)
  by_cases hlt:i<d
  ·have hil:i<ds.length:=by rw [HD.out];exact hlt
   obtain⟨b1,o1,P1,Pc1,P2,Pc2,Pk,Ps,Pn,Pl,Pc,P3,Pn3,Pc3,P4,Pn4,Pc4,P5,Pn5,Pc5,Pnd,Pmd,rfl,q1,d0,d1,d2,d3,d4,d5,d6,d7,d8,d9,Ud,Ue,Uf,Ug,Uh⟩:=Gz (Sl.more (Sl.below HS2.out hbr) hbr.size) (HR2.out.imp fun _ _ h=>(h.keep hbr).more hbr.size) hil HD.out.symm
   obtain⟨b2,o2,Q1,Qc1,Q2,Qc2,Qk,Qs,Qn,Ql,Qc,Q3,Qn3,Qc3,Q4,Qn4,Qc4,Q5,Qn5,Qc5,Qnd,Qmd,rfl,q2,g0,g1,g2,g3,g4,g5,g6,g7,g8,g9,g10,g11,g12,g13,g14⟩:=Gz (Sl.more (Sl.below vZ.out hbr) hbr.size) (HR4.out.imp fun _ _ h=>(h.keep hbr).more hbr.size) hil HD.out.symm
   have HC:=hid (fun(w1:World) (h:Below wr.heap.size wr w1)=>Jg _ w1 _ _ (q1.far (Nat.le_refl _) h) (q2.far (Nat.le_refl _) h))
   have D0:=hid d0
   have E0:=hid g0
   have D1:=hid d1
   have E1:=hid g1
   have D2:=hid d2
   have E2:=hid g2
   have D3:=hid d3
   have E3:=hid g3
   have D4:=hid d4
   have E4:=hid g4
   have D5:=hid d5
   have E5:=hid g5
   have D6:=hid d6
   have E6:=hid g6
   have D7:=hid d7
   have E7:=hid g7
   have D8:=hid d8
   have E8:=hid g8
   have D9:=hid d9
   have E9:=hid g9
   have D10:=hid Ud
   have E10:=hid g10
   have D11:=hid Ue
   have E11:=hid g11
   have D12:=hid Uf
   have Vb:=hid g12
   have D13:=hid Ug
   have E13:=hid g13
   have D14:=hid Uh
   have E14:=hid g14
   have X1:=hid x1
   have Y1:=hid y1
   have HB0:Hid (Below wr.heap.size wr wr.drew):=hid (aM wr 1)
   generalize ds[i].vars.length=nv at*
   generalize ds[i].types.length=nt at*
   generalize ds[i].exp=ex at*
   generalize ds[i].line=dl at*
   generalize ds[i].col=dc at*
   clear q1 q2 d0 d1 d2 d3 d4 d5 d6 d7 d8 d9 Ud Ue Uf Ug Uh g0 g1 g2 g3 g4 g5 g6 g7 g8 g9 g10 g11 g12 g13 g14 hbr
   go_wp2_with fail
   refine wp_region_held_drew (S:=fun w'=>Below wr.heap.size wr w') (by kernel_rfl) HB0.out (fun _=> ?_)
   try simp only [Act.put,List.getElem_toArray,List.getElem_cons_zero,List.getElem_cons_succ,List.setIfInBounds_toArray,List.set_cons_zero,List.set_cons_succ]
   refine tk 0 (.pointer (some ⟨w.heap.size,1,none⟩)) HB0.out ?_
   refine qP 1 (.slice (some ⟨b1,o1,none⟩) d c2) (za X1.out) HB0.out ?_
   refine tk 2 (.int .i64 (i:Int)) HB0.out ?_
   refine tk 3 (.pointer (some ⟨b1,o1+i*15,none⟩)) HB0.out ?_
   refine qP 4 (.agg #[sv Pnd, .bool ex, .slice P1 nv Pc1,sv Pmd, .slice P2 nt Pc2, .int .i64 Pk, .string Ps, .int .i64 Pn, .int .i64 Pl, .int .i64 Pc, .slice P3 Pn3 Pc3, .slice P4 Pn4 Pc4, .slice P5 Pn5 Pc5, .int .i64 dl, .int .i64 dc]) (Uj D0.out D1.out D2.out D3.out D4.out D5.out D6.out D7.out D8.out D9.out D10.out D11.out D12.out D13.out D14.out) HB0.out ?_
   refine tk 5 (.pointer (some ⟨w.heap.size+1,1,none⟩)) HB0.out ?_
   refine qP 6 (.slice (some ⟨b2,o2,none⟩) d c4) (za Y1.out) HB0.out ?_
   refine tk 7 (.int .i64 (i:Int)) HB0.out ?_
   refine tk 8 (.pointer (some ⟨b2,o2+i*15,none⟩)) HB0.out ?_
   refine qP 9 (.agg #[sv Qnd, .bool ex, .slice Q1 nv Qc1,sv Qmd, .slice Q2 nt Qc2, .int .i64 Qk, .string Qs, .int .i64 Qn, .int .i64 Ql, .int .i64 Qc, .slice Q3 Qn3 Qc3, .slice Q4 Qn4 Qc4, .slice Q5 Qn5 Qc5, .int .i64 dl, .int .i64 dc]) (Uj E0.out E1.out E2.out E3.out E4.out E5.out E6.out E7.out E8.out E9.out E10.out E11.out Vb.out E13.out E14.out) HB0.out ?_
   refine wpAnyH_ready (rs:=[10]) (by kernel_rfl) (by simp) ?_
   refine AllReadyH.cons rfl (fun K hK=> ?_) (AllReadyH.nil)
   go_simp
   refine(HC.out _ HB0.out).mono ?_
   rintro e w2 ⟨rfl,hb⟩
   have QM:=hid (HB0.out.trans (hb.mono HB0.out.size))
   clear hb
   refine hK.out _ _ QM.out (fun _=> ?_)
   clear hK K
   try simp only [Act.put,List.getElem_toArray,List.getElem_cons_zero,List.getElem_cons_succ,List.setIfInBounds_toArray,List.set_cons_zero,List.set_cons_succ]
   refine tk 11 (.bool true) QM.out ?_
   refine wpAnyH_done (by kernel_rfl) ?_ _
   go_wp2_with fail
   go_roundw
   case rel=>exact⟨i+1,rfl,by omega,ou.out.trans (QM.out.mono ou.out.size)⟩
   case measure=>simp [intOf];omega
  ·obtain rfl:i=d:=by omega
   clear hlt hbr
   go_wp2_with fail
   go_ret
   exact⟨rfl,HB2.out.trans (ou.out.mono HB2.out.size)⟩
end Go.Proofs.YtmbppnbekkbibaaGreatDoor
end
