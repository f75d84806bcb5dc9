/- YS, ZA, ZB, ZC -/
import Derived.Test.YtfgjkmipfikooaaGreatDoorTKQ
import Derived.Test.YtfgjkmipfikooaaGreatDoorTK02
import Derived.Test.YtfgjkmipfikooaaGreatDoorTK18
import Derived.IntWalk
import Derived.Test.YtfgjkmipfikooaaGreatDoorTK19
import Derived.Test.YtfgjkmipfikooaaGreatDoorTK01
set_option linter.unusedSimpArgs false
set_option linter.unusedVariables false
set_option maxRecDepth 100000
set_option maxHeartbeats 4000000
namespace Go.Proofs.YtfgjkmipfikooaaGreatDoor
open Go.RowKit
def Ev (t:aZ):Prop:=∀(w:World) (z1 z2:List Value),nX w w.heap.size z1 t→nX w w.heap.size z2 t→
 Calls Tryz.prog 85 #[.agg z1.toArray, .agg z2.toArray] w fun e w'=>e= .returned (.bool true)∧Below w.heap.size w w'
theorem Ew (va vb:Value) (a:List Bt) (w:World) (ha:Ss w w.heap.size va a) (hb:Ss w w.heap.size vb a):
  Calls Tryz.prog 42 #[va,vb] w fun e w'=>e= .returned (.bool true)∧Below w.heap.size w w':=
 (J2 va vb a a w ha hb).mono fun e w' h=>⟨by rw [h.1,decide_eq_true (Eq.refl a)],h.2⟩
theorem zu (l:List aZ) (H:∀t∈l,Ev t) (w:World) (v1 v2:Value) (x1 x2:List Value) (h1:Sl w w.heap.size 4 v1 x1) (r1:iJ w w.heap.size x1 l) (h2:Sl w w.heap.size 4 v2 x2) (r2:iJ w w.heap.size x2 l):
  Calls Tryz.prog 52 #[v1,v2] w fun e w'=>e= .returned (.bool true)∧Below w.heap.size w w':=by
 obtain⟨A1,c1,rfl⟩:=dS h1 (by omega) (m:=l.length) r1.length;obtain⟨A2,c2,rfl⟩:=dS h2 (by omega) (m:=l.length) r2.length;have l1:=(cu h1).2;have l2:=(cu h2).2;have wX:=hid h1;have HS2:=hid h2;have HR1:=hid r1;have HR2:=hid r2;have HH:=hid H;obtain⟨n,hn⟩:∃n,l.length=n:=⟨_,rfl⟩
 rw [hn]at wX HS2 l1 l2;rw [hn];have HN:=hid hn;clear h1 h2 r1 r2 H hn;go_enter Tryz.func52,Tryz.ntmps52;go_wp2_with fail;go_loopw [5] (fun v5 wr=>∃i:Nat,v5= .int .i64 i∧i≤n∧Below w.heap.size w wr) (fun v5 _=>n - (intOf v5).toNat)
 case atStart=>exact⟨0,rfl,by omega,Below.refl _ _⟩
 case round=>
  obtain⟨i,rfl,hi,hbr⟩:=hrel;have EZ:=hid hbr;by_cases hlt:i<n
  ·have hil:i<l.length:=by rw [HN.out];exact hlt
   obtain⟨b1,o1,k1,s1,A3,n3,c3,A4,n4,c4,rfl,q1,d0,d1,d2,d3⟩:=oG (Sl.more (Sl.below wX.out hbr) hbr.size) ((HR1.out.keep hbr).more hbr.size) hil HN.out.symm;obtain⟨b2,o2,k2,s2,A5,n5,c5,A6,n6,c6,rfl,q2,e0,e1,e2,e3⟩:=oG (Sl.more (Sl.below HS2.out hbr) hbr.size) ((HR2.out.keep hbr).more hbr.size) hil HN.out.symm;have HC:=hid (fun(w1:World) (h:Below wr.heap.size wr w1)=>HH.out _ (List.getElem_mem hil) w1 _ _ (q1.far (Nat.le_refl _) h) (q2.far (Nat.le_refl _) h));have D0:=hid d0;have D1:=hid d1;have D2:=hid d2;have D3:=hid d3;have E0:=hid e0;have E1:=hid e1;have E2:=hid e2;have E3:=hid e3;have HB0:Hid (Below wr.heap.size wr wr.drew):=hid (aN wr 1);clear q1 q2 d0 d1 d2 d3 e0 e1 e2 e3 hbr;go_wp2_with fail;refine wp_region_held_drew (S:=fun w'=>Below wr.heap.size wr w') (by kernel_rfl) HB0.out (fun _=> ?_)
   try simp only [Act.put,sq]
   refine tk 0 (.slice (some ⟨b1,o1,none⟩) n c1) HB0.out ?_;refine tk 1 (.int .i64 i) HB0.out ?_;refine tk 2 (.pointer (some ⟨b1,o1+i*4,none⟩)) HB0.out ?_;refine uK 3 (.agg #[.int .i64 k1, .string s1, .slice A3 n3 c3, .slice A4 n4 c4]) (SV D0.out D1.out D2.out D3.out) HB0.out ?_;refine tk 4 (.slice (some ⟨b2,o2,none⟩) n c2) HB0.out ?_;refine tk 5 (.int .i64 i) HB0.out ?_;refine tk 6 (.pointer (some ⟨b2,o2+i*4,none⟩)) HB0.out ?_;refine uK 7 (.agg #[.int .i64 k2, .string s2, .slice A5 n5 c5, .slice A6 n6 c6]) (SV E0.out E1.out E2.out E3.out) HB0.out ?_;refine wpAnyH_ready (rs:=[8]) (by kernel_rfl) (by simp) ?_;refine AllReadyH.cons rfl (fun K hK=> ?_) (AllReadyH.nil);go_simp;refine(HC.out _ HB0.out).mono ?_;rintro e w2 ⟨rfl,hb⟩;have HB2:=hid (HB0.out.trans (hb.mono HB0.out.size));clear hb;refine hK.out _ _ HB2.out (fun _=> ?_);clear hK K
   try simp only [Act.put,sq]
   refine tk 9 (.bool true) HB2.out ?_;refine wpAnyH_done (by kernel_rfl) ?_ _;go_wp2_with fail
   go_roundw
   case rel=>exact⟨i+1,rfl,by omega,EZ.out.trans (HB2.out.mono EZ.out.size)⟩
   case measure=>simp [intOf];omega
  ·obtain rfl:i=n:=by omega
   clear hbr hlt;go_wp2_with fail;go_ret;exact⟨rfl,EZ.out⟩
theorem M4 (k:Int) (nm:Bt) (ns:List Bt) (ks:List aZ) (H:∀t∈ks,Ev t):Ev (.mk k nm ns ks):=by
 intro w z1 z2 h1 h2;obtain⟨A1,c1,A2,c2,xk,rfl,s1,s2,r2⟩:=h1.parts;obtain⟨A3,c3,A4,c4,xk',rfl,s3,s4,r4⟩:=h2.parts;obtain⟨W,hW⟩:∃W,(w.alloc (.cells #[.int .i64 k,sv nm, .slice A1 ns.length c1, .slice A2 ks.length c2] 57)).alloc (.cells #[.int .i64 k,sv nm, .slice A3 ns.length c3, .slice A4 ks.length c4] 57)=W:=⟨_,rfl⟩
 have hb2:Below w.heap.size w W:=by rw [←hW];exact((Below.refl _ _).alloc (Nat.le_refl _) _).alloc (by simp) _
 have hbx:=mV w (.cells #[.int .i64 k,sv nm, .slice A1 ns.length c1, .slice A2 ks.length c2] 57) (.cells #[.int .i64 k,sv nm, .slice A3 ns.length c3, .slice A4 ks.length c4] 57);rw [hW]at hbx;have HX:=hid hbx.1;have HY:=hid hbx.2;have HB2:=hid hb2;have HT:=hid (Ew _ _ ns W (Ss.more (s1.below hb2) hb2.size) (Ss.more (s3.below hb2) hb2.size));have HK:=hid (fun(w1:World) (h:Below W.heap.size W w1)=>zu ks H w1 _ _ _ _ (Sl.more (Sl.below (Sl.more (Sl.below s2 hb2) hb2.size) h) h.size) ((r2.far (Nat.le_refl _) hb2).far (Nat.le_refl _) h) (Sl.more (Sl.below (Sl.more (Sl.below s4 hb2) hb2.size) h) h.size) ((r4.far (Nat.le_refl _) hb2).far (Nat.le_refl _) h));have l1:=(cu s2).2;generalize ns.length=n1 at*
 generalize ks.length=n2 at*
 clear h1 h2 s1 s2 s3 s4 r2 r4 hbx hb2;have hsz:w.heap.size+1<W.heap.size:=block_lt HY.out;obtain⟨x0,x1,x2,x3⟩:=ni HX.out;obtain⟨y0,y1,y2,y3⟩:=ni HY.out;go_enter Tryz.func85,Tryz.ntmps85;go_wp2_with fail;refine HT.out.mono ?_;rintro e w2 ⟨rfl,hb⟩;have HB3:=hid hb;have x0:=kb hb x0;have x1:=kb hb x1;have x3:=kb hb x3;have y0:=kb hb y0;have y1:=kb hb y1;have y3:=kb hb y3;clear hb;go_wp2_with fail;refine(HK.out _ HB3.out).mono ?_;rintro e w3 ⟨rfl,hb⟩;have o8:=hid (HB3.out.trans (hb.mono HB3.out.size));have x0:=kb hb x0;have x1:=kb hb x1;have y0:=kb hb y0;have y1:=kb hb y1;clear hb;go_wp2_with fail;go_ret;exact⟨rfl,HB2.out.trans (o8.out.mono HB2.out.size)⟩
theorem J3 (t:aZ):Ev t:=by
 have h:∀(n:Nat) (t:aZ),SizeOf.sizeOf t≤n→Ev t:=by
  intro n;induction n with
  | zero=>intro t ht;cases t;simp at ht
  | succ n ih=>
   intro t ht;obtain⟨k,nm,ns,ks⟩:=t;refine M4 k nm ns ks fun x hx=>ih x ?_;have:=List.sizeOf_lt_of_mem hx;simp at ht;omega
 exact h _ t (Nat.le_refl _)
theorem M5 (l:List aZ) (w:World) (v1 v2:Value) (x1 x2:List Value) (h1:Sl w w.heap.size 4 v1 x1) (r1:iJ w w.heap.size x1 l) (h2:Sl w w.heap.size 4 v2 x2) (r2:iJ w w.heap.size x2 l):
  Calls Tryz.prog 52 #[v1,v2] w fun e w'=>e= .returned (.bool true)∧Below w.heap.size w w':=zu l (fun t _=>J3 t) w v1 v2 x1 x2 h1 r1 h2 r2
def Iq (x:bR):Prop:=∀(w:World) (z1 z2:List Value),rA w w.heap.size z1 x→rA w w.heap.size z2 x→
 Calls Tryz.prog 23 #[.agg z1.toArray, .agg z2.toArray] w fun e w'=>e= .returned (.bool true)∧Below w.heap.size w w'
theorem J4 (k:Int) (text:Bt) (n line col:Int) (ts:List aZ) (ns:List Bt) (ks:List bR) (H:∀t∈ks,Iq t):Iq (.mk k text n line col ts ns ks):=by
 intro w z1 z2 h1 h2;obtain⟨A1,c1,A2,c2,A3,c3,xt,xk,rfl,s1,r1,s2,s3,r3⟩:=h1.parts;obtain⟨A4,c4,A5,c5,A6,c6,xt',xk',rfl,s4,r4,s5,s6,r6⟩:=h2.parts;obtain⟨W,hW⟩:∃W,(w.alloc (.cells #[.int .i64 k,sv text, .int .i64 n, .int .i64 line, .int .i64 col, .slice A1 ts.length c1, .slice A2 ns.length c2, .slice A3 ks.length c3] 52)).alloc (.cells #[.int .i64 k,sv text, .int .i64 n, .int .i64 line, .int .i64 col, .slice A4 ts.length c4, .slice A5 ns.length c5, .slice A6 ks.length c6] 52)=W:=⟨_,rfl⟩
 have hb2:Below w.heap.size w W:=by rw [←hW];exact((Below.refl _ _).alloc (Nat.le_refl _) _).alloc (by simp) _
 have hbx:=mV w (.cells #[.int .i64 k,sv text, .int .i64 n, .int .i64 line, .int .i64 col, .slice A1 ts.length c1, .slice A2 ns.length c2, .slice A3 ks.length c3] 52) (.cells #[.int .i64 k,sv text, .int .i64 n, .int .i64 line, .int .i64 col, .slice A4 ts.length c4, .slice A5 ns.length c5, .slice A6 ks.length c6] 52);rw [hW]at hbx;have HX:=hid hbx.1;have HY:=hid hbx.2;have HB2:=hid hb2;have HT:=hid (Ew _ _ ns W (Ss.more (s2.below hb2) hb2.size) (Ss.more (s5.below hb2) hb2.size));have HK:=hid (fun(w1:World) (h:Below W.heap.size W w1)=>M5 ts w1 _ _ _ _ (Sl.more (Sl.below (Sl.more (Sl.below s1 hb2) hb2.size) h) h.size) ((r1.far (Nat.le_refl _) hb2).far (Nat.le_refl _) h) (Sl.more (Sl.below (Sl.more (Sl.below s4 hb2) hb2.size) h) h.size) ((r4.far (Nat.le_refl _) hb2).far (Nat.le_refl _) h));have Gx:=hid (Sl.more (Sl.below s3 hb2) hb2.size);have Oc:=hid (Sl.more (Sl.below s6 hb2) hb2.size);have HR3:=hid (r3.far (Nat.le_refl _) hb2);have BM:=hid (r6.far (Nat.le_refl _) hb2);have HH:=hid H;have l1:=(cu s3).2;have l2:=(cu s6).2;obtain⟨n4,Qk⟩:∃x,ks.length=x:=⟨_,rfl⟩
 rw [Qk]at HX HY Gx Oc l1 l2 hW;rw [Qk];have N7:=hid Qk;generalize ts.length=n2 at*
 generalize ns.length=n3 at*
 clear h1 h2 s1 s2 s3 s4 s5 s6 r1 r3 r4 r6 hbx hb2 H Qk;have hsz:w.heap.size+1<W.heap.size:=block_lt HY.out;obtain⟨x0,x1,x2,x3,x4,x5,x6,x7⟩:=jv HX.out;obtain⟨y0,y1,y2,y3,y4,y5,y6,y7⟩:=jv HY.out;go_enter Tryz.func23,Tryz.ntmps23;go_wp2_with fail;refine HT.out.mono ?_;rintro e w2 ⟨rfl,hb⟩;have HB3:=hid hb;have x0:=kb hb x0;have y0:=kb hb y0;have x1:=kb hb x1;have y1:=kb hb y1;have x2:=kb hb x2;have y2:=kb hb y2;have x3:=kb hb x3;have y3:=kb hb y3;have x4:=kb hb x4;have y4:=kb hb y4;have x5:=kb hb x5;have y5:=kb hb y5;have x7:=kb hb x7;have y7:=kb hb y7;clear hb;go_wp2_with fail;refine(HK.out _ HB3.out).mono ?_;rintro e w3 ⟨rfl,hb⟩;have o8:=hid (HB3.out.trans (hb.mono HB3.out.size));have x0:=kb hb x0;have y0:=kb hb y0;have x1:=kb hb x1;have y1:=kb hb y1;have x2:=kb hb x2;have y2:=kb hb y2;have x3:=kb hb x3;have y3:=kb hb y3;have x4:=kb hb x4;have y4:=kb hb y4;have x7:=kb hb x7;have y7:=kb hb y7;clear hb;go_wp2_with fail;clear x0 x1 x2 x3 x4 x5 x6 y0 y1 y2 y3 y4 y5 y6;go_loopw [7] (fun v7 wr=>∃i:Nat,v7= .int .i64 i∧i≤n4∧Below W.heap.size W wr) (fun v7 _=>n4 - (intOf v7).toNat)
 case atStart=>exact⟨0,rfl,by omega,o8.out⟩
 case round=>
  obtain⟨i,rfl,hi,hbr⟩:=hrel;have EZ:=hid hbr;have x7:=((hbr.cell (p:=⟨w.heap.size,7,none⟩) (by show w.heap.size<W.heap.size;omega)).trans (jv HX.out).2.2.2.2.2.2.2)
  have y7:=((hbr.cell (p:=⟨w.heap.size+1,7,none⟩) hsz).trans (jv HY.out).2.2.2.2.2.2.2)
  by_cases hlt:i<n4
  ·have hil:i<ks.length:=by rw [N7.out];exact hlt
   obtain⟨b1,o1,k1,s1,a1,a2,a3,P1,m1,e1,P2,m2,e2,P3,m3,e3,rfl,q1,d0,d1,d2,d3,d4,d5,d6,d7⟩:=xH (Sl.more (Sl.below Gx.out hbr) hbr.size) ((HR3.out.keep hbr).more hbr.size) hil N7.out.symm;obtain⟨b2,o2,k2,s2,a4,a5,a6,P4,m4,e4,P5,m5,e5,P6,m6,e6,rfl,q2,f0,f1,f2,f3,f4,f5,f6,f7⟩:=xH (Sl.more (Sl.below Oc.out hbr) hbr.size) ((BM.out.keep hbr).more hbr.size) hil N7.out.symm;have HC:=hid (fun(w1:World) (h:Below wr.heap.size wr w1)=>HH.out _ (List.getElem_mem hil) w1 _ _ (q1.far (Nat.le_refl _) h) (q2.far (Nat.le_refl _) h));have D0:=hid d0;have E0:=hid f0;have D1:=hid d1;have E1:=hid f1;have D2:=hid d2;have E2:=hid f2;have D3:=hid d3;have E3:=hid f3;have D4:=hid d4;have E4:=hid f4;have D5:=hid d5;have E5:=hid f5;have D6:=hid d6;have E6:=hid f6;have D7:=hid d7;have E7:=hid f7;have X7:=hid x7;have Y7:=hid y7;have HB0:Hid (Below wr.heap.size wr wr.drew):=hid (aN wr 1);clear q1 q2 d0 d1 d2 d3 d4 d5 d6 d7 f0 f1 f2 f3 f4 f5 f6 f7 hbr;go_wp2_with fail;refine wp_region_held_drew (S:=fun w'=>Below wr.heap.size wr w') (by kernel_rfl) HB0.out (fun _=> ?_)
   try simp only [Act.put,sq]
   refine tk 0 (.pointer (some ⟨w.heap.size,7,none⟩)) HB0.out ?_;refine uK 1 (.slice (some ⟨b1,o1,none⟩) n4 c3) (Ct X7.out) HB0.out ?_;refine tk 2 (.int .i64 i) HB0.out ?_;refine tk 3 (.pointer (some ⟨b1,o1+i*8,none⟩)) HB0.out ?_;refine uK 4 (.agg #[.int .i64 k1, .string s1, .int .i64 a1, .int .i64 a2, .int .i64 a3, .slice P1 m1 e1, .slice P2 m2 e2, .slice P3 m3 e3]) (YO D0.out D1.out D2.out D3.out D4.out D5.out D6.out D7.out) HB0.out ?_;refine tk 5 (.pointer (some ⟨w.heap.size+1,7,none⟩)) HB0.out ?_;refine uK 6 (.slice (some ⟨b2,o2,none⟩) n4 c6) (Ct Y7.out) HB0.out ?_;refine tk 7 (.int .i64 i) HB0.out ?_;refine tk 8 (.pointer (some ⟨b2,o2+i*8,none⟩)) HB0.out ?_;refine uK 9 (.agg #[.int .i64 k2, .string s2, .int .i64 a4, .int .i64 a5, .int .i64 a6, .slice P4 m4 e4, .slice P5 m5 e5, .slice P6 m6 e6]) (YO E0.out E1.out E2.out E3.out E4.out E5.out E6.out E7.out) HB0.out ?_;refine wpAnyH_ready (rs:=[10]) (by kernel_rfl) (by simp) ?_;refine AllReadyH.cons rfl (fun K hK=> ?_) (AllReadyH.nil);go_simp;refine(HC.out _ HB0.out).mono ?_;rintro e w2 ⟨rfl,hb⟩;have HB2:=hid (HB0.out.trans (hb.mono HB0.out.size));clear hb;refine hK.out _ _ HB2.out (fun _=> ?_);clear hK K
   try simp only [Act.put,sq]
   refine tk 11 (.bool true) HB2.out ?_;refine wpAnyH_done (by kernel_rfl) ?_ _;go_wp2_with fail
   go_roundw
   case rel=>exact⟨i+1,rfl,by omega,EZ.out.trans (HB2.out.mono EZ.out.size)⟩
   case measure=>simp [intOf];omega
  ·obtain rfl:i=n4:=by omega
   clear hbr hlt;go_wp2_with fail;go_ret;exact⟨rfl,HB2.out.trans (EZ.out.mono HB2.out.size)⟩
theorem J5 (t:bR):Iq t:=by
 have h:∀(n:Nat) (t:bR),SizeOf.sizeOf t≤n→Iq t:=by
  intro n;induction n with
  | zero=>intro t ht;cases t;simp at ht
  | succ n ih=>
   intro t ht;obtain⟨k,text,n1,line,col,ts,ns,ks⟩:=t;refine J4 k text n1 line col ts ns ks fun x hx=>ih x ?_;have:=List.sizeOf_lt_of_mem hx;simp at ht;omega
 exact h _ t (Nat.le_refl _)
def Sep (x:Int ×Bt) (r:Bt):Prop:=match r with
 | []=>True
 | d :: _=>x.1=4∨(x.1=5∧(x.2.length=2∨[x.2.headD 0,d] ∉ bQ))∨aW d=false∧x.1≠5
theorem Ey {d:UInt8} (h:aW d=false):bX d=false:=by
 unfold aW at h;rw [Bool.or_eq_false_iff]at h;exact h.2
theorem J6 {s:Bt} {kd:Int} {t:Bt} {d:UInt8} (x:Bt) (h:dQ s= .inr (kd,t,s.length)) (hd:Sep (kd,t) (d :: x)):dQ (s++d :: x)= .inr (kd,t,s.length):=by
 cases s with
 | nil=>simp [dQ]at h
 | cons c r=>
  have oK:=iQ aW (c :: r);have hrd:=iQ bX (c :: r);rw [dQ]at h;rw [List.cons_append,dQ, ←List.cons_append];split at h
  ·rename_i hl
   rw [if_pos hl];have hi:aW d=false:=by
    rcases hd with hd | hd | hd
    ·simp only at hd
     repeat' split at h
     all_goals first | cases h;done | (injection h with h;simp only [Prod.mk.injEq]at h;omega)
    ·have hd:=hd.1;simp only at hd
     repeat' split at h
     all_goals first | cases h;done | (injection h with h;simp only [Prod.mk.injEq]at h;omega)
    ·exact hd.1
   rw [qp hi,List.take_append_of_le_length oK];exact h
  ·rename_i hl
   rw [if_neg hl];split at h
   ·rename_i hg
    rw [if_pos hg];have hi:bX d=false:=by
     rcases hd with hd | hd | hd
     ·simp only at hd
      repeat' split at h
      all_goals first | cases h;done | (injection h with h;simp only [Prod.mk.injEq]at h;omega)
     ·have hd:=hd.1;simp only at hd
      repeat' split at h
      all_goals first | cases h;done | (injection h with h;simp only [Prod.mk.injEq]at h;omega)
     ·exact Ey hd.1
    rw [qp hi,List.take_append_of_le_length hrd];exact h
   ·rename_i hg
    rw [if_neg hg];split at h
    ·rename_i Cn
     rw [if_pos Cn];split at h
     ·cases h
     ·rename_i t' n' hq
      have hq':mX (c :: r++d :: x)=some (t',n'):=by
       unfold mX at hq ⊢;simp only [List.cons_append,List.drop_succ_cons,List.drop_zero]at hq ⊢;exact vI hq _
      rw [hq'];exact h
    ·rename_i Cn
     rw [if_neg Cn];split at h
     ·rename_i hp
      injection h with h;simp only [Prod.mk.injEq]at h;obtain⟨h1,h2,h3⟩:=h;have:(c :: r++d :: x).take 2=(c :: r).take 2:=List.take_append_of_le_length (by omega);rw [this,if_pos hp,h1,h2,h3]
     ·rename_i hp
      split at h
      ·rename_i hs
       injection h with h;simp only [Prod.mk.injEq]at h;obtain⟨h1,h2,h3⟩:=h;have hr:r=[]:=List.eq_nil_of_length_eq_zero (by simp only [List.length_cons]at h3;omega);subst hr;have hn:[c,d] ∉ bQ:=by
        rcases hd with hd | hd | hd
        ·simp only at hd;omega
        ·rcases hd.2 with hd2 | hd2
         ·rw [←h2]at hd2;simp at hd2
         ·rw [←h2]at hd2;simpa using hd2
        ·exact absurd h1.symm (by have:=hd.2;simpa using this)
       rw [if_neg (show ¬(([c]++d :: x:Bt).take 2∈bQ)from hn),if_pos hs];subst h1 h2;rfl
      ·cases h
inductive Pc where
 | tok (k:Int) (t:Bt):Pc
 | sp:Pc
 | nl:Pc
def Pc.text:Pc→Bt
 | .tok k t=>jm (k,t)
 | .sp=>[32]
 | .nl=>[10]
def Pc.qZ:Pc→Option (Int ×Bt)
 | .tok k t=>some (k,t)
 | _=>none
def dW (l:List Pc):Bt:=l.flatMap Pc.text
def bP (l:List Pc):List (Int ×Bt):=l.filterMap Pc.qZ
theorem fD (p:Pc) (l:List Pc):dW (p :: l)=p.text++dW l:=by unfold dW;rw [List.flatMap_cons]
theorem jK (a b:List Pc):dW (a++b)=dW a++dW b:=by unfold dW;rw [List.flatMap_append]
theorem eF (a b:List Pc):bP (a++b)=bP a++bP b:=by unfold bP;rw [List.filterMap_append]
theorem GH (p:Pc) (l:List Pc):bP (p :: l)=(match p.qZ with | some x=>[x] | none=>[])++bP l:=by
 unfold bP;rw [List.filterMap_cons];cases p.qZ <;> rfl
def Vw:List Pc→Prop
 | []=>True
 | .tok k t :: l=>Good (k,t)∧Sep (k,t) (dW l)∧Vw l
 | _ :: l=>Vw l
theorem Bh {x:Int ×Bt} (h:Good x):∃c r,jm x=c :: r:=by
 unfold Good at h;cases hw:jm x with
 | nil=>rw [hw]at h;simp [dQ]at h
 | cons c r=>exact⟨c,r,rfl⟩
theorem zw {x:Int ×Bt} (h:Good x):∀ {r:Bt},Sep x r→dQ (jm x++r)= .inr (x.1,x.2,(jm x).length)
 | [], _=>by rw [List.append_nil];exact h
 | d :: r,hs=>J6 r h hs
theorem kG:∀(l:List Pc) (f:Nat),Vw l→(dW l).length<f→uE f (dW l)=some (bP l)
 | [],f, _,hf=>by
  obtain⟨f',rfl⟩:∃f',f=f'+1:=⟨f - 1,by omega⟩
  rfl
 | .sp :: l,f,ho,hf=>by
  have e:dW (.sp :: l)=[32]++dW l:=fD _ _;rw [e]at hf ⊢;simp only [List.length_append,List.length_cons,List.length_nil]at hf;obtain⟨f',rfl⟩:∃f',f=f'+1:=⟨f - 1,by omega⟩
  rw [Ah f' [32] (dW l) (by unfold aV;rw [List.singleton_append,d9,if_pos (by decide)];simp;omega)];exact kG l (f'+1) ho (by omega)
 | .nl :: l,f,ho,hf=>by
  have e:dW (.nl :: l)=[10]++dW l:=fD _ _;rw [e]at hf ⊢;simp only [List.length_append,List.length_cons,List.length_nil]at hf;obtain⟨f',rfl⟩:∃f',f=f'+1:=⟨f - 1,by omega⟩
  rw [Ah f' [10] (dW l) (by unfold aV;rw [List.singleton_append,d9,if_pos (by decide)];simp;omega)];exact kG l (f'+1) ho (by omega)
 | .tok k t :: l,f,ho,hf=>by
  obtain⟨hg,hs,hl⟩:=ho;have e:dW (.tok k t :: l)=jm (k,t)++dW l:=fD _ _;obtain⟨f',rfl⟩:∃f',f=f'+1:=⟨f - 1,by omega⟩
  have hn:=zw hg hs;obtain⟨c,r,hc⟩:=Bh hg;have hk:aV (jm (k,t)++dW l)=0:=by
   have hn2:=hn;rw [hc,List.cons_append]at hn2 ⊢;obtain⟨b1,b2⟩:=Fj hn2;unfold aV;rw [d9,if_neg (by simp [b1]),if_neg b2]
  rw [e]at hf ⊢;rw [uE,hk,List.drop_zero,if_neg (by rw [hc];simp),hn];simp only;rw [List.drop_left,kG l f' hl (by rw [hc]at hf;simp only [List.length_append,List.length_cons]at hf;omega)];rfl
def wu (d:Nat) (x:Int ×Bt):Option Nat:=
 if x.1=5 then
  (if x.2=[40]∨x.2=[91]∨x.2=[123]then some (d+1)
   else if x.2=[41]∨x.2=[93]∨x.2=[125]then(if d=0 then none else some (d - 1))
   else some d)
 else some d
def qm (d:Nat) (l:List (Int ×Bt)):Option Nat:=l.foldlM wu d
theorem zx (d:Nat) (x:Int ×Bt) (l:List (Int ×Bt)):qm d (x :: l)=(wu d x).bind fun e=>qm e l:=by unfold qm;rw [List.foldlM_cons];rfl
theorem uj (d:Nat) (a b:List (Int ×Bt)):qm d (a++b)=(qm d a).bind fun e=>qm e b:=by unfold qm;rw [List.foldlM_append];rfl
theorem GI {d e:Nat} {x:Int ×Bt} (h:wu d x=some e) (j:Nat):wu (d+j) x=some (e+j):=by
 unfold wu at h ⊢;by_cases h5:x.1=5
 ·rw [if_pos h5]at h ⊢;by_cases ho:x.2=[40]∨x.2=[91]∨x.2=[123]
  ·rw [if_pos ho]at h ⊢;injection h with h;congr 1;omega
  ·rw [if_neg ho]at h ⊢;by_cases hc:x.2=[41]∨x.2=[93]∨x.2=[125]
   ·rw [if_pos hc]at h ⊢;by_cases h0:d=0
    ·rw [if_pos h0]at h;cases h
    ·rw [if_neg h0]at h;rw [if_neg (by omega)];injection h with h;congr 1;omega
   ·rw [if_neg hc]at h ⊢;injection h with h;congr 1;omega
 ·rw [if_neg h5]at h ⊢;injection h with h;congr 1;omega
def J7 (l:List (Int ×Bt)):Prop:=∀d,qm d l=some d
theorem J7.nil:J7 []:=fun _=>rfl
theorem J7.append {a b:List (Int ×Bt)} (ha:J7 a) (hb:J7 b):J7 (a++b):=fun d=>by rw [uj,ha d];exact hb d
theorem J7.one {k:Int} {t:Bt} (h:k≠5∨(t≠[40]∧t≠[91]∧t≠[123]∧t≠[41]∧t≠[93]∧t≠[125])):J7 [(k,t)]:=by
 intro d;rw [zx];have:wu d (k,t)=some d:=by
  unfold wu;by_cases hk:k=5
  ·rw [if_pos hk];rcases h with h | ⟨h1,h2,h3,h4,h5,h6⟩
   ·exact absurd hk h
   ·rw [if_neg (by simp [h1,h2,h3]),if_neg (by simp [h4,h5,h6])]
  ·rw [if_neg hk]
 rw [this];rfl
theorem Bj {t:Bt} (h:bY t=true):Good (1,t):=by
 unfold Good jm;rw [if_neg (show ¬(1:Int)=4 by decide)];cases t with
 | nil=>simp [bY]at h
 | cons c r=>
  unfold bY at h;simp only [Bool.and_eq_true,decide_eq_true_eq,Bool.not_eq_true',decide_eq_false_iff_not]at h;obtain⟨⟨⟨h1,h2⟩,h3⟩,h4⟩:=h;rw [dQ,if_pos h2,h3,if_neg (by omega),List.take_length,if_neg h4]
theorem nU:∀ {t:Bt},t∈eG→Good (2,t):=by
 have h:∀t∈eG,dQ t= .inr (2,t,t.length):=by decide
 intro t ht;unfold Good jm;rw [if_neg (show ¬(2:Int)=4 by decide)];exact h t ht
theorem vD:∀ {t:Bt},t∈bQ∨t∈dV.map (fun c=>[c])→Good (5,t):=by
 have h:∀t∈bQ++dV.map (fun c=>[c]),dQ t= .inr (5,t,t.length):=by decide
 intro t ht;unfold Good jm;rw [if_neg (show ¬(5:Int)=4 by decide)];exact h t (List.mem_append.2 ht)
def xI:Pc→Nat
 | .tok k t=>if k=5 then(if t=[40]∨t=[91]∨t=[123]then 3 else 2)else if k=4 then 3 else 1
 | _=>0
def E8:Pc→Nat
 | .tok k t=>if k=5 then(if t.length=2∨(t.headD 0).toNat ∉ [45,61,60,62,43]then 0 else 2)else if k=4 then 0 else 1
 | _=>0
theorem xJ (k:Int) (t:Bt):xI (.tok k t)=if k=5 then(if t=[40]∨t=[91]∨t=[123]then 3 else 2)else if k=4 then 3 else 1:=rfl
theorem um (k:Int) (t:Bt):E8 (.tok k t)=if k=5 then(if t.length=2∨(t.headD 0).toNat ∉ [45,61,60,62,43]then 0 else 2)else if k=4 then 0 else 1:=rfl
def ny (r l:Nat):Bool:=match r with
 | 0=>true
 | 1=>l==0 || l==2 || l==3
 | _=>l==0 || l==1 || l==3 || l==4
def Ez:Pc→Prop
 | .tok k t=>Good (k,t)∧1≤k∧k≤5
 | _=>True
def EA:List Pc→Prop
 | []=>True
 | p :: l=>Ez p∧(∀q,l.head? =some q→ny (E8 p) (xI q)=true)∧EA l
theorem EB:∀m∈bQ,(m.headD 0).toNat∈[45,61,60,62,43]:=by decide
theorem Ac:∀m∈bQ,(m.getD 1 0).toNat∈[62,58,60,61,43]:=by decide
theorem GJ {k:Int} {t:Bt} (h:Good (k,t)) (h1:1≤k) (h5:k≤5):∃d r,jm (k,t)=d :: r∧((k=1∨k=2∨k=3)→aW d=true)∧(k=4→d.toNat=34)∧(k=5→aW d=false∧d=t.headD 0):=by
 obtain⟨c,r,hc⟩:=Bh h;refine⟨c,r,hc, ?_⟩;unfold Good at h;rw [hc,dQ]at h;by_cases hl:eT c=true
 ·rw [if_pos hl]at h;have hi:aW c=true:=by unfold aW;rw [hl];rfl
  have hk:k=1∨k=2:=by
   repeat' split at h
   all_goals first | cases h;done | (injection h with h;simp only [Prod.mk.injEq]at h;omega)
  exact⟨fun _=>hi,fun h=>by omega,fun h=>by omega⟩
 ·rw [if_neg hl]at h;by_cases hd:bX c=true
  ·rw [if_pos hd]at h;have hi:aW c=true:=by unfold aW;rw [hd];simp
   have hk:k=3:=by
    repeat' split at h
    all_goals first | cases h;done | (injection h with h;simp only [Prod.mk.injEq]at h;omega)
   exact⟨fun _=>hi,fun h=>by omega,fun h=>by omega⟩
  ·rw [if_neg hd]at h;have hi:aW c=false:=by unfold aW;simp [hl,hd]
   by_cases Cn:c.toNat=34
   ·rw [if_pos Cn]at h;have hk:k=4:=by
     repeat' split at h
     all_goals first | cases h;done | (injection h with h;simp only [Prod.mk.injEq]at h;omega)
    exact⟨fun h=>by omega,fun _=>Cn,fun h=>by omega⟩
   ·rw [if_neg Cn]at h;split at h
    ·injection h with h;simp only [Prod.mk.injEq]at h;refine⟨fun h=>by omega,fun h=>by omega,fun _=>⟨hi, ?_⟩⟩;rw [←h.2.1];rfl
    ·split at h
     ·injection h with h;simp only [Prod.mk.injEq]at h;refine⟨fun h=>by omega,fun h=>by omega,fun _=>⟨hi, ?_⟩⟩;rw [←h.2.1];rfl
     ·cases h
theorem OW {k:Int} {t:Bt} {q:Pc} {r:Bt} (hp:Ez (.tok k t)) (hq:Ez q) (ha:ny (E8 (.tok k t)) (xI q)=true):Sep (k,t) (q.text++r):=by
 obtain⟨hg,h1,h5⟩:=hp;have hne:∃d x,q.text++r=d :: x∧(xI q=0→bM d=true)∧(xI q=2→aW d=false)∧(xI q=1→aW d=true)∧(xI q=3→d.toNat=34∨d.toNat=40∨d.toNat=91∨d.toNat=123):=by
  cases q with
  | sp=>exact⟨32,r,rfl,fun _=>by decide,fun h=>absurd h (by decide),fun h=>absurd h (by decide),fun h=>absurd h (by decide)⟩
  | nl=>exact⟨10,r,rfl,fun _=>by decide,fun h=>absurd h (by decide),fun h=>absurd h (by decide),fun h=>absurd h (by decide)⟩
  | tok k2 t2=>
   obtain⟨d,x,e,e1,e2,e3⟩:=GJ hq.1 hq.2.1 hq.2.2;refine⟨d,x++r,by show jm (k2,t2)++r= _;rw [e];rfl, ?_, ?_, ?_, ?_⟩
   all_goals
    rw [xJ];by_cases hk5:k2=5
    ·rw [if_pos hk5];by_cases ht:t2=[40]∨t2=[91]∨t2=[123]
     ·rw [if_pos ht];have hd:=(e3 hk5).2;intro h
      first
       | omega
       | (rcases ht with rfl | rfl | rfl <;> simp at hd <;> subst hd <;> simp)
     ·rw [if_neg ht];intro h
      first
       | omega
       | exact(e3 hk5).1
    ·rw [if_neg hk5];by_cases hk4:k2=4
     ·rw [if_pos hk4];intro h
      first
       | omega
       | exact .inl (e2 hk4)
     ·rw [if_neg hk4];have hq1:=hq.2.1;have hq2:=hq.2.2;intro h
      first
       | omega
       | exact e1 (by omega)
 obtain⟨d,x,e,e0,e2,e1,e3⟩:=hne;rw [e];show k=4∨(k=5∧(t.length=2∨[t.headD 0,d] ∉ bQ))∨aW d=false∧k≠5;have hi0:xI q=0→aW d=false:=fun h=>(vH (e0 h)).1;have hi3:xI q=3→aW d=false:=fun h=>by
  have:=e3 h;unfold aW eT bX;simp only [Bool.or_eq_false_iff,Bool.and_eq_false_iff,decide_eq_false_iff_not];omega
 by_cases hk5:k=5
 ·refine .inr (.inl ⟨hk5, ?_⟩);by_cases ht:t.length=2
  ·exact .inl ht
  ·refine .inr fun hm=> ?_;have hs:=EB _ hm;have hs2:=Ac _ hm;simp only [List.headD_cons]at hs;rw [show([t.headD 0,d]:Bt).getD 1 0=d from rfl]at hs2;have hr:E8 (.tok k t)=2:=by
    rw [um];rw [if_pos hk5,if_neg];rintro(h | h)
    ·exact ht h
    ·exact h hs
   rw [hr]at ha;have ha2:xI q=0∨xI q=1∨xI q=3:=by
    have hl4:xI q≠4:=by
     cases q with
     | tok k2 t2=>rw [xJ];(repeat' split);all_goals omega
     | sp=>decide
     | nl=>decide
    unfold ny at ha;simp only [Bool.or_eq_true,beq_iff_eq]at ha;omega
   have hd:d.toNat=62∨d.toNat=58∨d.toNat=60∨d.toNat=61∨d.toNat=43:=by simpa using hs2
   rcases ha2 with h | h | h
   ·have:=e0 h;unfold bM at this;simp only [Bool.or_eq_true,decide_eq_true_eq]at this;omega
   ·have:=e1 h;unfold aW eT bX at this;simp only [Bool.or_eq_true,Bool.and_eq_true,decide_eq_true_eq]at this;omega
   ·have:=e3 h;omega
 ·by_cases hk4:k=4
  ·exact .inl hk4
  ·refine .inr (.inr ⟨?_,hk5⟩);have hr:E8 (.tok k t)=1:=by rw [um];rw [if_neg hk5,if_neg hk4]
   rw [hr]at ha;unfold ny at ha;simp only [Bool.or_eq_true,beq_iff_eq]at ha;rcases ha with(h | h) | h
   ·exact hi0 h
   ·exact e2 h
   ·exact hi3 h
theorem EA.ok:∀ {l:List Pc},EA l→Vw l
 | [], _=>trivial
 | .sp :: l,h=>EA.ok (l:=l) h.2.2
 | .nl :: l,h=>EA.ok (l:=l) h.2.2
 | .tok k t :: l,h=>by
  refine⟨h.1.1, ?_,EA.ok h.2.2⟩;cases l with
  | nil=>trivial
  | cons q l=>
   rw [fD];exact OW h.1 h.2.2.1 (h.2.1 q rfl)
def WP (l:List Pc):Prop:=EA l∧(∃p,l.head? =some p∧(xI p=1∨xI p=3))∧(∃p,l.getLast? =some p∧(E8 p=0∨E8 p=1))∧J7 (bP l)
def VP (l:List Pc):Prop:=EA l∧(∀p,l.head? =some p→xI p=2∨xI p=3)∧(∀p,l.getLast? =some p→E8 p=0∨E8 p=1)∧J7 (bP l)
def EP (l:List Pc):Prop:=l=[]∨WP l
inductive Sg where
 | p (x:Pc):Sg
 | u (l:List Pc):Sg
 | v (l:List Pc):Sg
 | e (l:List Pc):Sg
 | w (x:Pc):Sg
def Sg.flat:Sg→List Pc
 | .p x=>[x]
 | .u l=>l
 | .v l=>l
 | .e l=>l
 | .w x=>[x]
def gT (l:List Sg):List Pc:=l.flatMap Sg.flat
def Sg.Is:Sg→Prop
 | .p x=>Ez x
 | .u l=>WP l
 | .v l=>VP l
 | .e l=>EP l
 | .w x=>Ez x∧J7 (bP [x])
def jQ:List Nat→List Sg→Option (List Nat)
 | st,[]=>some st
 | st, .p x :: l=>if st.all (fun r=>ny r (xI x))then jQ [E8 x] l else none
 | st, .u x :: l=>if st.all (fun r=>ny r 1 && ny r 3)then jQ [1] l else none
 | st, .v x :: l=>if st.all (fun r=>ny r 2 && ny r 3)then jQ (1 :: st) l else none
 | st, .e x :: l=>if st.all (fun r=>ny r 1 && ny r 3)then jQ (1 :: st) l else none
 | st, .w x :: l=>if st.all (fun r=>ny r 1 && ny r 2 && ny r 3)then jQ [1,2] l else none
theorem EA.append:∀ {a b:List Pc},EA a→EA b→(∀p q,a.getLast? =some p→b.head? =some q→ny (E8 p) (xI q)=true)→EA (a++b)
 | [],b, _,hb, _=>hb
 | [p],b,ha,hb,h=>⟨ha.1,fun q hq=>h p q rfl hq,hb⟩
 | p :: p2 :: a,b,ha,hb,h=>⟨ha.1,fun q hq=>ha.2.1 q hq,EA.append (a:=p2 :: a) ha.2.2 hb (fun x y hx hy=>h x y (by rw [List.getLast?_cons_cons];exact hx) hy)⟩
def Ql (l:List Pc) (st:List Nat):Prop:=∀p,l.getLast? =some p→∀c,(∀r∈st,ny r c=true)→ny (E8 p) c=true
theorem Ch {r c:Nat} (h:r=0∨r=1) (hc:ny 1 c=true):ny r c=true:=by
 rcases h with rfl | rfl
 ·rfl
 ·exact hc
theorem qo {a b:List Pc} {p:Pc} (h:(a++b).getLast? =some p):(b=[]∧a.getLast? =some p)∨b.getLast? =some p:=by
 cases b with
 | nil=>rw [List.append_nil]at h;exact .inl ⟨rfl,h⟩
 | cons x b=>
  rw [List.getLast?_append]at h;cases hb:(x :: b).getLast? with
  | none=>simp at hb
  | some y=>rw [hb]at h;exact .inr h
theorem jR:∀(l:List Sg) (st st':List Nat) (a:List Pc),jQ st l=some st'→(∀s∈l,s.Is)→EA a→Ql a st→EA (a++gT l)∧Ql (a++gT l) st'
 | [],st,st',a,h, _,ha,he=>by
  injection h with h;subst h;rw [show gT []=[]from rfl,List.append_nil];exact⟨ha,he⟩
 | s :: l,st,st',a,h,hs,ha,he=>by
  have hs0:=hs s (by simp);have hsl:∀x∈l,x.Is:=fun x hx=>hs x (by simp [hx]);have e:a++gT (s :: l)=(a++s.flat)++gT l:=by unfold gT;rw [List.flatMap_cons,List.append_assoc]
  rw [e];cases s with
  | p x=>
   rw [jQ]at h;split at h
   ·rename_i hc
    rw [List.all_eq_true]at hc;refine jR l _ st' _ h hsl (ha.append (b:=[x]) ⟨hs0,fun q hq=>(by cases hq),trivial⟩ fun p q hp hq=> ?_) fun p hp c hcc=> ?_
    ·injection hq with hq;subst hq;exact he p hp _ fun r hr=>hc r hr
    ·rw [show(Sg.p x).flat=[x]from rfl,List.getLast?_concat]at hp;injection hp with hp;subst hp;exact hcc _ (by simp)
   ·cases h
  | u x=>
   rw [jQ]at h;obtain⟨w1,⟨hd,w2,w2'⟩,⟨tl,w3,w3'⟩,w4⟩:=hs0;split at h
   ·rename_i hc
    rw [List.all_eq_true]at hc;refine jR l _ st' _ h hsl (ha.append (b:=x) w1 fun p q hp hq=> ?_) fun p hp c hcc=> ?_
    ·rw [w2]at hq;injection hq with hq;subst hq;refine he p hp _ fun r hr=> ?_;have:=hc r hr;rw [Bool.and_eq_true]at this;rcases w2' with h | h <;> rw [h]
     ·exact this.1
     ·exact this.2
    ·rcases qo hp with⟨h1, _⟩ | h1
     ·rw [show(Sg.u x).flat=x from rfl]at h1;rw [h1]at w2;cases w2
     ·rw [show(Sg.u x).flat=x from rfl,w3]at h1;injection h1 with h1;subst h1;exact Ch w3' (hcc 1 (by simp))
   ·cases h
  | v x=>
   rw [jQ]at h;obtain⟨w1,w2,w3,w4⟩:=hs0;split at h
   ·rename_i hc
    rw [List.all_eq_true]at hc;refine jR l _ st' _ h hsl (ha.append (b:=x) w1 fun p q hp hq=> ?_) fun p hp c hcc=> ?_
    ·refine he p hp _ fun r hr=> ?_;have:=hc r hr;rw [Bool.and_eq_true]at this;rcases w2 q hq with h | h <;> rw [h]
     ·exact this.1
     ·exact this.2
    ·rcases qo hp with⟨_,h1⟩ | h1
     ·exact he p h1 c fun r hr=>hcc r (by simp [hr])
     ·exact Ch (w3 p h1) (hcc 1 (by simp))
   ·cases h
  | e x=>
   rw [jQ]at h;split at h
   ·rename_i hc
    rw [List.all_eq_true]at hc;rcases hs0 with rfl | ⟨w1,⟨hd,w2,w2'⟩,⟨tl,w3,w3'⟩,w4⟩
    ·refine jR l _ st' _ h hsl (by rw [show(Sg.e []).flat=[]from rfl,List.append_nil];exact ha) fun p hp c hcc=> ?_;rw [show(Sg.e []).flat=[]from rfl,List.append_nil]at hp;exact he p hp c fun r hr=>hcc r (by simp [hr])
    ·refine jR l _ st' _ h hsl (ha.append (b:=x) w1 fun p q hp hq=> ?_) fun p hp c hcc=> ?_
     ·rw [w2]at hq;injection hq with hq;subst hq;refine he p hp _ fun r hr=> ?_;have:=hc r hr;rw [Bool.and_eq_true]at this;rcases w2' with h | h <;> rw [h]
      ·exact this.1
      ·exact this.2
     ·rcases qo hp with⟨h1, _⟩ | h1
      ·rw [show(Sg.e x).flat=x from rfl]at h1;rw [h1]at w2;cases w2
      ·rw [show(Sg.e x).flat=x from rfl,w3]at h1;injection h1 with h1;subst h1;exact Ch w3' (hcc 1 (by simp))
   ·cases h
  | w x=>
   rw [jQ]at h;split at h
   ·rename_i hc
    rw [List.all_eq_true]at hc;refine jR l _ st' _ h hsl (ha.append (b:=[x]) ⟨hs0.1,fun q hq=>(by cases hq),trivial⟩ fun p q hp hq=> ?_) fun p hp c hcc=> ?_
    ·injection hq with hq;subst hq;refine he p hp _ fun r hr=> ?_;have:=hc r hr;simp only [Bool.and_eq_true]at this;have h4:∀r,ny r 0=true:=by intro r;unfold ny;split <;> rfl
     cases x with
     | sp=>exact h4 r
     | nl=>exact h4 r
     | tok k t=>
      rw [xJ]
      repeat' split
      ·exact this.2
      ·exact this.1.2
      ·exact this.2
      ·exact this.1.1
    ·rw [show(Sg.w x).flat=[x]from rfl,List.getLast?_concat]at hp;injection hp with hp;subst hp;have h1:=hcc 1 (by simp);have h2:=hcc 2 (by simp);cases x with
     | sp=>rfl
     | nl=>rfl
     | tok k t=>
      rw [um]
      repeat' split
      ·rfl
      ·exact h2
      ·rfl
      ·exact h1
   ·cases h
def R7 (d:Nat):Sg→Option Nat
 | .p (.tok k t)=>wu d (k,t)
 | _=>some d
def EC (d:Nat):List Sg→Option Nat
 | []=>some d
 | s :: l=>match R7 d s with
  | some e=>EC e l
  | none=>none
theorem GK (s:Sg) (l:List Sg):bP (gT (s :: l))=bP s.flat++bP (gT l):=by
 unfold gT;rw [List.flatMap_cons,eF]
theorem OX {s:Sg} {d e:Nat} (h:R7 d s=some e) (hs:s.Is) (j:Nat):qm (d+j) (bP s.flat)=some (e+j):=by
 cases s with
 | p x=>
  cases x with
  | sp=>injection h with h;subst h;rfl
  | nl=>injection h with h;subst h;rfl
  | tok k t=>
   show qm (d+j) [(k,t)]= _;rw [zx,GI h j];rfl
 | u x=>injection h with h;subst h;exact hs.2.2.2 _
 | v x=>injection h with h;subst h;exact hs.2.2.2 _
 | e x=>
  injection h with h;subst h;rcases hs with rfl | hs
  ·rfl
  ·exact hs.2.2.2 _
 | w x=>injection h with h;subst h;exact hs.2 _
theorem ED:∀(l:List Sg) (d e:Nat),EC d l=some e→(∀s∈l,s.Is)→∀(j:Nat),qm (d+j) (bP (gT l))=some (e+j)
 | [],d,e,h, _,j=>by
  injection h with h;subst h;rfl
 | s :: l,d,e,h,hs,j=>by
  rw [EC]at h;rw [GK,uj];cases hd:R7 d s with
  | none=>rw [hd]at h;cases h
  | some c=>
   rw [hd]at h;rw [OX hd (hs s (by simp)) j];exact ED l c e h (fun x hx=>hs x (by simp [hx])) j
theorem M6 {l:List Sg} (h:EC 0 l=some 0) (hs:∀s∈l,s.Is):J7 (bP (gT l)):=by
 intro d;have:=ED l 0 0 h hs d;simpa using this
def M7:List Sg→Bool
 | .p x :: _=>xI x==1 || xI x==3
 | .u _ :: _=>true
 | _=>false
def YA:Option (List Nat)→Bool
 | some st=>st.all (fun r=>r==0 || r==1)
 | none=>false
theorem qF {l:List Sg} (h:(M7 l && YA (jQ [] l) && EC 0 l==some 0)=true) (hs:∀s∈l,s.Is):WP (gT l):=by
 simp only [Bool.and_eq_true,beq_iff_eq]at h;obtain⟨⟨h1,h2⟩,h3⟩:=h;cases hc:jQ [] l with
 | none=>rw [hc]at h2;cases h2
 | some st=>
  rw [hc]at h2;obtain⟨g1,g2⟩:=jR l [] st [] hc hs trivial (fun p hp=>by cases hp);rw [List.nil_append]at g1 g2;have hst:∀r∈st,r=0∨r=1:=by
   intro r hr;have:=List.all_eq_true.1 h2 r hr;simpa using this
  have hhead:∃p,(gT l).head? =some p∧(xI p=1∨xI p=3):=by
   cases l with
   | nil=>cases h1
   | cons s l=>
    have hs0:=hs s (by simp);cases s with
    | p x=>exact⟨x,rfl,by simpa [M7]using h1⟩
    | u x=>
     obtain⟨p,hp,hp2⟩:=hs0.2.1;refine⟨p, ?_,hp2⟩;unfold gT;rw [List.flatMap_cons];show(x++ _).head? = _;cases x with
     | nil=>cases hp
     | cons y x=>exact hp
    | v x=>cases h1
    | e x=>cases h1
    | w x=>cases h1
  refine⟨g1,hhead, ?_,M6 h3 hs⟩;cases hl:(gT l).getLast? with
  | none=>
   rw [List.getLast?_eq_none_iff]at hl;rw [hl]at hhead;obtain⟨p,hp, _⟩:=hhead;cases hp
  | some p=>
   refine⟨p,rfl, ?_⟩;have h4:=g2 p hl 2 fun r hr=>by rcases hst r hr with rfl | rfl <;> rfl
   have h5:E8 p=0∨E8 p=1∨E8 p=2:=by
    cases p with
    | tok k t=>rw [um];(repeat' split);all_goals omega
    | sp=>exact .inl rfl
    | nl=>exact .inl rfl
   rcases h5 with h | h | h
   ·exact .inl h
   ·exact .inr h
   ·rw [h]at h4;cases h4
theorem Bl:∀(f:Nat) (s:Bt) (p:Nat ×Nat) (out:List aF) (l:List (Int ×Bt)),uE f s=some l→out.length+l.length≤8192→
  ∃m e,l=m.map jM∧kL f s p out=(out++m++[e],(0,0,0))∧jM e=(0,[])
 | 0,s,p,out,l,h, _=>by simp [uE]at h
 | f+1,s,p,out,l,h,h8=>by
  rw [uE]at h;rw [kL];by_cases hnil:s.drop (aV s)=[]
  ·rw [if_pos hnil]at h ⊢;injection h with h;subst h;exact⟨[], _,rfl,by rw [List.append_nil],rfl⟩
  ·rw [if_neg hnil]at h ⊢;cases hn:dQ (s.drop (aV s))with
   | inl e=>rw [hn]at h;cases h
   | inr x=>
    obtain⟨kd,t,n⟩:=x;rw [hn]at h;simp only at h ⊢;rw [Option.map_eq_some_iff]at h;obtain⟨l',h1,rfl⟩:=h;rw [List.length_cons]at h8;rw [if_neg (by omega)];obtain⟨m,e,k1,k2,k3⟩:=Bl f _ (eu (eu p (s.take (aV s))) ((s.drop (aV s)).take n)) (out++[⟨kd,t,(eu p (s.take (aV s))).1,(eu p (s.take (aV s))).2⟩]) l' h1 (by simp only [List.length_append,List.length_cons,List.length_nil];omega);exact⟨⟨kd,t,(eu p (s.take (aV s))).1,(eu p (s.take (aV s))).2⟩ :: m,e,by rw [k1];rfl,by rw [k2];simp,k3⟩
theorem EF {l:List Pc} (h:EA l) (hs:(dW l).length≤65536) (h8:(bP l).length≤8192):
  ∃m e,bP l=m.map jM∧fZ (dW l)=(m++[e],(0,0,0))∧jM e=(0,[]):=by
 rw [xW _ hs];obtain⟨m,e,h1,h2,h3⟩:=Bl _ _ (1,1) [] _ (kG l _ h.ok (Nat.lt_succ_self _)) (by simpa using h8);exact⟨m,e,h1,by rw [h2];simp,h3⟩
def eZ (sep:List Pc):List (List Pc)→List Pc
 | []=>[]
 | [x]=>x
 | x :: y :: l=>x++(sep++eZ sep (y :: l))
def jS:List Pc:=[.tok 5 [44], .sp]
def wP:List Pc:=[.sp, .tok 5 [124], .sp]
theorem sw (sep:List Pc):∀l:List (List Pc),dW (eZ sep l)=jd (dW sep) (l.map dW)
 | []=>rfl
 | [x]=>rfl
 | x :: y :: l=>by
  rw [eZ,jK,jK,sw sep (y :: l)];rfl
theorem EG:∀l:List (List Pc),l≠[]→(∀x∈l,WP x)→WP (eZ jS l)
 | [],h, _=>absurd rfl h
 | [x], _,h=>h x (by simp)
 | x :: y :: l, _,h=>by
  have hr:=EG (y :: l) (by simp) fun z hz=>h z (by simp [hz])
  have:=qF (l:=[.u x, .p (.tok 5 [44]), .p .sp, .u (eZ jS (y :: l))]) rfl (by
   intro s hs;simp only [List.mem_cons,List.not_mem_nil,or_false]at hs;rcases hs with rfl | rfl | rfl | rfl
   ·exact h x (by simp)
   ·exact⟨vD (.inr (by decide)),by omega,by omega⟩
   ·trivial
   ·exact hr)
  have e:gT [.u x, .p (.tok 5 [44]), .p .sp, .u (eZ jS (y :: l))]=eZ jS (x :: y :: l):=by simp [gT,Sg.flat,eZ,jS]
  rw [←e];exact this
theorem M8:∀l:List (List Pc),l≠[]→(∀x∈l,WP x)→WP (eZ wP l)
 | [],h, _=>absurd rfl h
 | [x], _,h=>h x (by simp)
 | x :: y :: l, _,h=>by
  have hr:=M8 (y :: l) (by simp) fun z hz=>h z (by simp [hz])
  have:=qF (l:=[.u x, .p .sp, .p (.tok 5 [124]), .p .sp, .u (eZ wP (y :: l))]) rfl (by
   intro s hs;simp only [List.mem_cons,List.not_mem_nil,or_false]at hs;rcases hs with rfl | rfl | rfl | rfl | rfl
   ·exact h x (by simp)
   ·trivial
   ·exact⟨vD (.inr (by decide)),by omega,by omega⟩
   ·trivial
   ·exact hr)
  have e:gT [.u x, .p .sp, .p (.tok 5 [124]), .p .sp, .u (eZ wP (y :: l))]=eZ wP (x :: y :: l):=by simp [gT,Sg.flat,eZ,wP]
  rw [←e];exact this
theorem M9 (l:List (List Pc)) (h:∀x∈l,WP x):EP (eZ jS l):=by
 cases l with
 | nil=>exact .inl rfl
 | cons x l=>exact .inr (EG _ (by simp) h)
def jT (l:List Pc):Nat:=(bP l).length
theorem EH:jT []=0:=rfl
theorem iO (a b:List Pc):jT (a++b)=jT a+jT b:=by unfold jT;rw [eF,List.length_append]
theorem l8 (k:Int) (t:Bt) (l:List Pc):jT (.tok k t :: l)=jT l+1:=by unfold jT;rw [GH];simp [Pc.qZ]
theorem Ci (l:List Pc):jT (.sp :: l)=jT l:=rfl
def qL (l:List (List Pc)):Nat:=(l.map jT).sum
theorem iA (x:List Pc) (l:List (List Pc)):qL (x :: l)=jT x+qL l:=by simp [qL]
theorem zy:∀l:List (List Pc),jT (eZ jS l)≤qL l+l.length
 | []=>by simp [eZ,jT,bP]
 | [x]=>by rw [eZ,iA];omega
 | x :: y :: l=>by
  have:=zy (y :: l);rw [eZ,iO,iO,show jT jS=1 from rfl,iA,List.length_cons];omega
theorem EI:∀l:List (List Pc),jT (eZ wP l)≤qL l+l.length
 | []=>by simp [eZ,jT,bP]
 | [x]=>by rw [eZ,iA];omega
 | x :: y :: l=>by
  have:=EI (y :: l);rw [eZ,iO,iO,show jT wP=1 from rfl,iA,List.length_cons];omega
def iC (n:Bt) (p:List Pc):List Pc:= .tok 1 n :: .tok 5 [58] :: .sp :: p
def fE (kk:List Int) (k:Int) (p:List Pc):List Pc:=if kk.contains k then .tok 5 [40] :: (p++[.tok 5 [41]])else p
mutual
def dZ:aZ→List Pc
 | .mk k nm ns ks=>
  if k=0 then [.tok 2 [97,110,121]]
  else if k=1 then [.tok 2 [110,117,108,108]]
  else if k=2 then [.tok 2 [98,111,111,108]]
  else if k=3 then [.tok 2 [105,110,116]]
  else if k=4 then [.tok 2 [115,116,114]]
  else if k=5 then .tok 5 [123] :: (eZ jS (List.zipWith iC ns (fV ks))++[.tok 5 [125]])
  else if k=6 then fE [6] ((ks.map aZ.kind).getD 0 0) ((fV ks).getD 0 [])++(.sp :: .tok 5 [45,62] :: .sp :: (fV ks).getD 1 [])
  else if k=7 then eZ wP (List.zipWith (fE [6,7]) (ks.map aZ.kind) (fV ks))
  else [.tok 1 nm]
def fV:List aZ→List (List Pc)
 | []=>[]
 | t :: l=>dZ t :: fV l
end
theorem nV:∀l:List aZ,fV l=l.map dZ
 | []=>by simp [fV]
 | t :: l=>by simp [fV,nV l]
inductive Bn (m:Nat):aZ→Prop
 | base {k:Int}:0≤k→k≤4→Bn m (.mk k [] [] [])
 | zP {ns:List Bt} {ks:List aZ}:ns.all bY=true→(∀t∈ks,aH m t=true)→ns.length=ks.length→Bn m (.mk 5 [] ns ks)
 | Na {a b:aZ}:aH m a=true→aH m b=true→Bn m (.mk 6 [] [] [a,b])
 | union {a b:aZ} {l:List aZ}:(∀t∈a :: b :: l,aH m t=true)→Bn m (.mk 7 [] [] (a :: b :: l))
 | var {nm:Bt}:bY nm=true→Bn m (.mk 8 nm [] [])
theorem qG {m:Nat} {t:aZ} (h:aH (m+1) t=true):Bn m t:=by
 obtain⟨k,nm,ns,ks⟩:=t;have h:(ns.all bY && ks.all (aH m) && dI k nm ns.length ks.length)=true:=h;rw [Bool.and_eq_true,Bool.and_eq_true]at h;obtain⟨⟨h1,h2⟩,h3⟩:=h;rw [List.all_eq_true]at h2;unfold dI at h3;by_cases h8:k=8
 ·subst h8;rw [if_pos rfl,Bool.and_eq_true,beq_iff_eq]at h3;obtain rfl:ns=[]:=List.eq_nil_of_length_eq_zero (by omega);obtain rfl:ks=[]:=List.eq_nil_of_length_eq_zero (by have:=h3.1;omega);exact .var h3.2
 rw [if_neg h8]at h3;by_cases hn:nm≠[]∨k<0∨7<k
 ·rw [if_pos hn]at h3;cases h3
 rw [if_neg hn]at h3;obtain⟨rfl,hk0,Kk⟩:nm=[]∧0≤k∧k≤7:=by
  refine⟨?_,by omega,by omega⟩;by_cases h:nm=[]
  ·exact h
  ·exact absurd (.inl h) hn
 by_cases h5:k=5
 ·subst h5;rw [if_pos rfl,beq_iff_eq]at h3;exact .zP h1 h2 h3
 rw [if_neg h5]at h3;by_cases h6:k=6
 ·subst h6;rw [if_pos rfl,Bool.and_eq_true,beq_iff_eq,beq_iff_eq]at h3;obtain rfl:ns=[]:=List.eq_nil_of_length_eq_zero h3.1
  match ks,h3.2 with
  | [a,b], _=>exact .Na (h2 a (by simp)) (h2 b (by simp))
 rw [if_neg h6]at h3;by_cases h7:k=7
 ·subst h7;rw [if_pos rfl,Bool.and_eq_true,beq_iff_eq,decide_eq_true_eq]at h3;obtain rfl:ns=[]:=List.eq_nil_of_length_eq_zero h3.1
  match ks,h3.2 with
  | a :: b :: l, _=>exact .union h2
 rw [if_neg h7,beq_iff_eq]at h3;obtain rfl:ns=[]:=List.eq_nil_of_length_eq_zero (by omega);obtain rfl:ks=[]:=List.eq_nil_of_length_eq_zero (by omega);exact .base hk0 (by omega)
theorem vE {k:Int} {t:Bt} (h:Good (k,t)) (hk:1≤k∧k≤3):WP [.tok k t]:=by
 have hl:xI (.tok k t)=1:=by rw [xJ,if_neg (by omega),if_neg (by omega)]
 have hr:E8 (.tok k t)=1:=by rw [um,if_neg (by omega),if_neg (by omega)]
 exact⟨⟨⟨h,by omega,by omega⟩,fun q hq=>(by cases hq),trivial⟩,⟨_,rfl, .inl hl⟩,⟨_,rfl, .inr hr⟩,J7.one (.inl (by omega))⟩
theorem qH {t:Bt} (h:t∈bQ∨t∈dV.map (fun c=>[c])):(Sg.p (.tok 5 t)).Is:=⟨vD h,by omega,by omega⟩
theorem OY {t:Bt} (h:bY t=true):(Sg.p (.tok 1 t)).Is:=⟨Bj h,by omega,by omega⟩
theorem Nb {n:Bt} {p:List Pc} (hn:bY n=true) (hp:WP p):WP (iC n p):=by
 have:=qF (l:=[.p (.tok 1 n), .p (.tok 5 [58]), .p .sp, .u p]) rfl (by
  intro s hs;simp only [List.mem_cons,List.not_mem_nil,or_false]at hs;rcases hs with rfl | rfl | rfl | rfl
  ·exact OY hn
  ·exact qH (.inr (by decide))
  ·trivial
  ·exact hp)
 have e:gT [.p (.tok 1 n), .p (.tok 5 [58]), .p .sp, .u p]=iC n p:=by simp [gT,Sg.flat,iC]
 rw [←e];exact this
theorem Nc {p:List Pc} (hp:WP p):WP (.tok 5 [40] :: (p++[.tok 5 [41]])):=by
 have:=qF (l:=[.p (.tok 5 [40]), .u p, .p (.tok 5 [41])]) rfl (by
  intro s hs;simp only [List.mem_cons,List.not_mem_nil,or_false]at hs;rcases hs with rfl | rfl | rfl
  ·exact qH (.inr (by decide))
  ·exact hp
  ·exact qH (.inr (by decide)))
 have e:gT [.p (.tok 5 [40]), .u p, .p (.tok 5 [41])]= .tok 5 [40] :: (p++[.tok 5 [41]]):=by simp [gT,Sg.flat]
 rw [←e];exact this
theorem Nf {p:List Pc} (hp:EP p):WP (.tok 5 [123] :: (p++[.tok 5 [125]])):=by
 have:=qF (l:=[.p (.tok 5 [123]), .e p, .p (.tok 5 [125])]) rfl (by
  intro s hs;simp only [List.mem_cons,List.not_mem_nil,or_false]at hs;rcases hs with rfl | rfl | rfl
  ·exact qH (.inr (by decide))
  ·exact hp
  ·exact qH (.inr (by decide)))
 have e:gT [.p (.tok 5 [123]), .e p, .p (.tok 5 [125])]= .tok 5 [123] :: (p++[.tok 5 [125]]):=by simp [gT,Sg.flat]
 rw [←e];exact this
theorem EJ {kk:List Int} {k:Int} {p:List Pc} (hp:WP p):WP (fE kk k p):=by
 unfold fE;split
 ·exact Nc hp
 ·exact hp
theorem GL (n:Bt) (p:List Pc):dW (iC n p)=gu n (dW p):=by
 unfold iC gu;rw [fD,fD,fD];rfl
theorem zA (kk:List Int) (k:Int) (p:List Pc):dW (fE kk k p)=gK kk k (dW p):=by
 unfold fE gK;split
 ·rw [fD,jK];rfl
 ·rfl
theorem Ng {α:Type} {f:α→List Pc→List Pc} {ns:List α} {l:List (List Pc)} (hf:∀n∈ns,∀p∈l,WP (f n p)):∀x∈List.zipWith f ns l,WP x:=by
 intro x hx;obtain⟨i,hi,rfl⟩:=List.getElem_of_mem hx;rw [List.getElem_zipWith];exact hf _ (List.getElem_mem _) _ (List.getElem_mem _)
theorem EK {α:Type} {f:α→List Pc→List Pc} {g:α→Bt→Bt} (hf:∀n p,dW (f n p)=g n (dW p)) (ns:List α) (l:List (List Pc)):(List.zipWith f ns l).map dW=List.zipWith g ns (l.map dW):=by
 induction ns generalizing l with
 | nil=>simp
 | cons n ns ih=>
  cases l with
  | nil=>simp
  | cons p l=>simp [hf,ih]
theorem zB:∀(ns:List Bt) (l:List (List Pc)),qL (List.zipWith iC ns l)≤qL l+2*l.length
 | [],l=>by simp [qL]
 | n :: ns,[]=>by simp [qL]
 | n :: ns,p :: l=>by
  have:=zB ns l;rw [List.zipWith_cons_cons,iA,iA,List.length_cons,iC,l8,l8,Ci];omega
theorem sD (kk:List Int):∀(ks:List Int) (l:List (List Pc)),qL (List.zipWith (fE kk) ks l)≤qL l+2*l.length
 | [],l=>by simp [qL]
 | n :: ns,[]=>by simp [qL]
 | n :: ns,p :: l=>by
  have:=sD kk ns l;have h:jT (fE kk n p)≤jT p+2:=by
   unfold fE;split
   ·rw [l8,iO,l8,EH];omega
   ·omega
  rw [List.zipWith_cons_cons,iA,iA,List.length_cons];omega
theorem ru {α β γ:Type} (f:α→β→γ) (a:List α) (b:List β):(List.zipWith f a b).length≤b.length:=by rw [List.length_zipWith];omega
theorem xK:∀(m:Nat) (t:aZ),aH m t=true→WP (dZ t)∧dW (dZ t)=bV t∧jT (dZ t)+4≤6*iL t
 | 0,t,h=>by cases h
 | m+1,t,h=>by
  have all:∀ks:List aZ,(∀t∈ks,aH m t=true)→(∀p∈fV ks,WP p)∧(fV ks).map dW=dB ks∧qL (fV ks)+4*ks.length≤6*fH ks:=by
   intro ks hk;induction ks with
   | nil=>exact⟨by simp [fV],by simp [fV,dB],by simp [fV,qL,fH]⟩
   | cons x l ih=>
    obtain⟨a1,a2,a3⟩:=xK m x (hk x (by simp));obtain⟨b1,b2,b3⟩:=ih fun t ht=>hk t (by simp [ht]);refine⟨?_, ?_, ?_⟩
    ·intro p hp;rw [fV]at hp;rcases List.mem_cons.1 hp with rfl | hp
     ·exact a1
     ·exact b1 p hp
    ·rw [fV,dB,List.map_cons,a2,b2]
    ·rw [fV,iA,fH,List.length_cons];omega
  have tl:∀ks:List aZ,(fV ks).length=ks.length:=fun ks=>by rw [nV,List.length_map]
  cases qG h with
  | @base k h0 h4=>
   have hk:k=0∨k=1∨k=2∨k=3∨k=4:=by omega
   rcases hk with rfl | rfl | rfl | rfl | rfl
   ·exact⟨vE (nU (by decide)) (by omega),rfl,by simp [dZ,jT,bP,Pc.qZ,iL,fH]⟩
   ·exact⟨vE (nU (by decide)) (by omega),rfl,by simp [dZ,jT,bP,Pc.qZ,iL,fH]⟩
   ·exact⟨vE (nU (by decide)) (by omega),rfl,by simp [dZ,jT,bP,Pc.qZ,iL,fH]⟩
   ·exact⟨vE (nU (by decide)) (by omega),rfl,by simp [dZ,jT,bP,Pc.qZ,iL,fH]⟩
   ·exact⟨vE (nU (by decide)) (by omega),rfl,by simp [dZ,jT,bP,Pc.qZ,iL,fH]⟩
  | @zP ns ks hn hk hl=>
   obtain⟨a1,a2,a3⟩:=all ks hk;have e:dZ (.mk 5 [] ns ks)= .tok 5 [123] :: (eZ jS (List.zipWith iC ns (fV ks))++[.tok 5 [125]]):=by rw [dZ];rfl
   have e2:bV (.mk 5 [] ns ks)=[123]++(jd [44,32] (List.zipWith gu ns (dB ks))++[125]):=by rw [bV];rfl
   rw [e,e2];refine⟨Nf (M9 _ (Ng fun n hnn p hp=>Nb (List.all_eq_true.1 hn n hnn) (a1 p hp))), ?_, ?_⟩
   ·rw [fD,jK,sw,EK GL,a2];rfl
   ·have h1:=zy (List.zipWith iC ns (fV ks));have h2:=zB ns (fV ks);have h3:=ru iC ns (fV ks);rw [tl]at h2 h3;rw [l8,iO,l8,EH,iL];omega
  | @Na a b ha hb=>
   obtain⟨a1,a2,a3⟩:=xK m a ha;obtain⟨b1,b2,b3⟩:=xK m b hb;have e:dZ (.mk 6 [] [] [a,b])=fE [6] a.kind (dZ a)++(.sp :: .tok 5 [45,62] :: .sp :: dZ b):=by rw [dZ];simp [fV]
   have e2:bV (.mk 6 [] [] [a,b])=gK [6] a.kind (bV a)++([32,45,62,32]++bV b):=by rw [bV];simp [dB]
   rw [e,e2];refine⟨?_, ?_, ?_⟩
   ·have:=qF (l:=[.u (fE [6] a.kind (dZ a)), .p .sp, .p (.tok 5 [45,62]), .p .sp, .u (dZ b)]) rfl (by
     intro s hs;simp only [List.mem_cons,List.not_mem_nil,or_false]at hs;rcases hs with rfl | rfl | rfl | rfl | rfl
     ·exact EJ a1
     ·trivial
     ·exact qH (.inl (by decide))
     ·trivial
     ·exact b1)
    simpa [gT,Sg.flat]using this
   ·rw [jK,zA,a2,fD,fD,fD,b2];rfl
   ·have h1:=sD [6] [a.kind] [dZ a];simp only [List.zipWith_cons_cons,List.zipWith_nil_left,iA,List.length_cons,List.length_nil]at h1;rw [iO,Ci,l8,Ci,iL,fH,fH,fH];have:qL []=0:=rfl;omega
  | @union a b l hk=>
   obtain⟨a1,a2,a3⟩:=all (a :: b :: l) hk;have e:dZ (.mk 7 [] [] (a :: b :: l))=eZ wP (List.zipWith (fE [6,7]) ((a :: b :: l).map aZ.kind) (fV (a :: b :: l))):=by rw [dZ];rfl
   have e2:bV (.mk 7 [] [] (a :: b :: l))=jd [32,124,32] (List.zipWith (gK [6,7]) ((a :: b :: l).map aZ.kind) (dB (a :: b :: l))):=by rw [bV];rfl
   rw [e,e2];refine⟨M8 _ (by rw [fV];simp) (Ng fun n hnn p hp=>EJ (a1 p hp)), ?_, ?_⟩
   ·rw [sw,EK (zA [6,7]),a2];rfl
   ·have h1:=EI (List.zipWith (fE [6,7]) ((a :: b :: l).map aZ.kind) (fV (a :: b :: l)));have h2:=sD [6,7] ((a :: b :: l).map aZ.kind) (fV (a :: b :: l));have h3:=ru (fE [6,7]) ((a :: b :: l).map aZ.kind) (fV (a :: b :: l));rw [tl]at h2 h3;rw [iL];simp only [List.length_cons]at a3 h2 h3;omega
  | @var nm hn=>exact⟨vE (Bj hn) (by omega),by simp [dZ,bV,dW,Pc.text,jm],by simp [dZ,jT,bP,Pc.qZ,iL,fH]⟩
inductive iW (m:Nat):bR→Prop
 | int {n li co:Int}:0≤n→n≤9223372036854775807→iW m (.mk 0 [] n li co [] [] [])
 | str {t:Bt} {li co:Int}:zO t=true→iW m (.mk 1 t 0 li co [] [] [])
 | bool {n li co:Int}:n=0∨n=1→iW m (.mk 2 [] n li co [] [] [])
 | null {li co:Int}:iW m (.mk 3 [] 0 li co [] [] [])
 | name {t:Bt} {li co:Int}:bY t=true→iW m (.mk 4 t 0 li co [] [] [])
 | abq {t:Bt} {li co:Int} {a b:bR}:bY t=true→dD m a=true→dD m b=true→iW m (.mk 5 t 0 li co [] [] [a,b])
 | abr {t:Bt} {li co:Int} {x:aZ} {a b:bR}:bY t=true→aH 16 x=true→dD m a=true→dD m b=true→iW m (.mk 5 t 0 li co [x] [] [a,b])
 | fn1 {t:Bt} {li co:Int} {x:aZ} {a:bR}:bY t=true→aH 16 x=true→dD m a=true→iW m (.mk 6 t 0 li co [x] [] [a])
 | fn2 {t:Bt} {li co:Int} {x y:aZ} {a:bR}:bY t=true→aH 16 x=true→aH 16 y=true→dD m a=true→iW m (.mk 6 t 0 li co [x,y] [] [a])
 | call {li co:Int} {a b:bR}:dD m a=true→dD m b=true→iW m (.mk 7 [] 0 li co [] [] [a,b])
 | zP {li co:Int} {ns:List Bt} {ks:List bR}:ns.all bY=true→(∀x∈ks,dD m x=true)→ns.length=ks.length→iW m (.mk 8 [] 0 li co [] ns ks)
 | sel {t:Bt} {li co:Int} {a:bR}:bY t=true→dD m a=true→iW m (.mk 9 t 0 li co [] [] [a])
 | with_ {t:Bt} {li co:Int} {a b:bR}:bY t=true→dD m a=true→dD m b=true→iW m (.mk 10 t 0 li co [] [] [a,b])
 | if_ {li co:Int} {a b c:bR}:dD m a=true→dD m b=true→dD m c=true→iW m (.mk 11 [] 0 li co [] [] [a,b,c])
 | is_ {n li co:Int} {a:bR}:0≤n→n≤5→dD m a=true→iW m (.mk 12 [] n li co [] [] [a])
 | as_ {li co:Int} {x:aZ} {a:bR}:aH 16 x=true→dD m a=true→iW m (.mk 13 [] 0 li co [x] [] [a])
 | op_ {t:Bt} {li co:Int} {a b:bR}:t∈opsL→dD m a=true→dD m b=true→iW m (.mk 14 t 0 li co [] [] [a,b])
 | not_ {li co:Int} {a:bR}:dD m a=true→iW m (.mk 15 [] 0 li co [] [] [a])
 | abt {li co:Int} {a:bR}:dD m a=true→iW m (.mk 16 [] 0 li co [] [] [a])
 | YB {li co:Int} {a:bR}:dD m a=true→iW m (.mk 17 [] 0 li co [] [] [a])
 | Zo {li co:Int}:iW m (.mk 18 [] 0 li co [] [] [])
 | inst {t:Bt} {li co:Int} {x:aZ} {ts:List aZ}:bY t=true→(∀y∈x :: ts,aH 16 y=true)→iW m (.mk 19 t 0 li co (x :: ts) [] [])
end Go.Proofs.YtfgjkmipfikooaaGreatDoor
