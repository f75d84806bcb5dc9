/- What this law needs beside. -/
import Derived.Test.YtmbppnbekkbibaaGreatDoorLB01
import Derived.Test.YtmbppnbekkbibaaGreatDoorLB02
import Derived.Test.YtmbppnbekkbibaaGreatDoorLB03
import Derived.Test.YtmbppnbekkbibaaGreatDoorLB04
import Derived.Test.YtmbppnbekkbibaaGreatDoorLB05
import Derived.Test.YtmbppnbekkbibaaGreatDoorLB06
import Derived.Test.YtmbppnbekkbibaaGreatDoorLB07
import Derived.Test.YtmbppnbekkbibaaGreatDoorLB08
import Derived.Test.YtmbppnbekkbibaaGreatDoorLB09
import Derived.Test.YtmbppnbekkbibaaGreatDoorLB10
import Derived.Test.YtmbppnbekkbibaaGreatDoorLB11
import Derived.Test.YtmbppnbekkbibaaGreatDoorLB12
import Derived.Test.YtmbppnbekkbibaaGreatDoorLB13
import Derived.Test.YtmbppnbekkbibaaGreatDoorLB14
import Derived.Test.YtmbppnbekkbibaaGreatDoorLB15
import Derived.Test.YtmbppnbekkbibaaGreatDoorLB16
import Derived.Test.YtmbppnbekkbibaaGreatDoorLB17
import Derived.Test.YtmbppnbekkbibaaGreatDoorLB18
import Derived.Test.YtmbppnbekkbibaaGreatDoorLB19
import Derived.Test.YtmbppnbekkbibaaGreatDoorProg
import Derived.Test.YtmbppnbekkbibaaGreatDoorRows
import Derived.Test.YtmbppnbekkbibaaGreatDoorCards
import Derived.Test.YtmbppnbekkbibaaGreatDoorTie
set_option linter.unusedSimpArgs false
set_option linter.unusedVariables false
set_option maxRecDepth 100000
set_option maxHeartbeats 8000000
namespace Go.Proofs.YtmbppnbekkbibaaGreatDoor
open Go.RowKit
section
variable {P:Program} {md:Region.Mode} {ops:Array Oper} {Q:Exit→Act→World→Prop} {S:World→Prop}
end
section
variable {w:World} {a0 a1 a2 a3 a4 a5 a6 a7:Addr} {v0 v1 v2 v3 v4 v5 v6 v7:Value}
theorem oo (d0:w.cell? a0=some v0):∀w',Below w.heap.size w w'→w'.cell? a0=some v0:=fun _ h=>kb h d0
end
theorem p8 {m:eH} {s:Bt} {k:Nat} (h:kL m s=some k):∃d,m.decls[k]? =some d∧d.name=s:=by
 obtain⟨hk,h1, _⟩:=List.findIdx?_eq_some_iff_getElem.1 h;exact⟨m.decls[k],List.getElem?_eq_getElem hk,by simpa using h1⟩
theorem p9 {mods:List eH} {f k:Nat} {d:jJ} (h:(mods.getD f iI).decls[k]? =some d):mods[f]? =some (mods.getD f iI):=by
 rw [List.getD_eq_getElem?_getD]at h ⊢;cases hm:mods[f]? with
 | none=>rw [hm]at h;simp [iI]at h
 | some m=>rfl
theorem oz {mods:List eH} {i f:Nat} {x:kG} {st:wI} (n:Bt) (h:F7 mods i st.1):F7 mods i (name1 mods i f x st n).1:=by
 unfold name1;cases hd:kL (mods.getD f iI) n with
 | none=>exact h
 | some k=>
  obtain⟨d,h1,h2⟩:=p8 hd;simp only [h1,Option.map_some,Option.getD_some];cases hx:d.exp with
  | false=>exact h
  | true=>
   simp only [Bool.true_eq_false,if_false];cases hf:lH n st.1 with
   | true=>exact h
   | false=>
    simp only [Bool.false_eq_true,if_false];exact h.snoc ⟨_,d,p9 h1,h1,h2, .inr hx⟩ hf
theorem bq {mods:List eH} {i:Nat} {α:Type} {f:wI→α→wI} (hf:∀st x,F7 mods i st.1→F7 mods i (f st x).1):∀(l:List α) (st:wI),F7 mods i st.1→F7 mods i (l.foldl f st).1
 | [],st,h=>h
 | x :: l,st,h=>bq hf l (f st x) (hf st x h)
theorem nE {names:List Bt} {mods:List eH} {i:Nat} {st:wI} (x:kG) (h:F7 mods i st.1):F7 mods i (fP names mods i st x).1:=by
 unfold fP;split
 ·exact h
 ·exact bq (fun st n h=>oz n h) _ _ h
theorem kE {mods:List eH} {i:Nat} {m:eH} (hm:mods[i]? =some m):∀(l:List jJ) (k:Nat) (st:wI),(∀j,l[j]? =m.decls[k+j]?)→F7 mods i st.1→F7 mods i (jC i k st l).1
 | [],k,st, _,h=>h
 | d :: l,k,st,hd,h=>by
  unfold jC;refine kE hm l (k+1) _ (fun j=> ?_) ?_
  ·have:=hd (j+1);rw [List.getElem?_cons_succ]at this;rw [this];congr 1;omega
  ·have h0:=hd 0;rw [List.getElem?_cons_zero,Nat.add_zero]at h0;unfold decl1;cases hf:lH d.name st.1 with
   | true=>exact h
   | false=>
    simp only [Bool.false_eq_true,if_false];exact h.snoc ⟨m,d,hm,h0.symm,rfl, .inl rfl⟩ hf
theorem oq {names:List Bt} {mods:List eH} {i:Nat} {m:eH} (hm:mods[i]? =some m) (bad:List kT):F7 mods i (yD names mods i m bad).1:=by
 unfold yD;exact kE hm _ 0 _ (fun j=>by rw [Nat.zero_add]) (bq (fun st x h=>nE x h) _ _ ⟨by simp,by simp⟩)
theorem d9 {names:List Bt} {mods:List eH}:∀(l:List eH) (i:Nat) (bad:List kT),(∀j,l[j]? =mods[i+j]?)→∀(j:Nat) (s:List jN),(dz names mods i bad l).1[j]? =some s→F7 mods (i+j) s
 | [],i,bad, _,j,s,h=>by simp [dz]at h
 | m :: l,i,bad,hl,j,s,h=>by
  unfold dz at h;have h0:=hl 0;rw [List.getElem?_cons_zero,Nat.add_zero]at h0;rcases j with _ | j
  ·rw [List.getElem?_cons_zero]at h;injection h with h;subst h;exact oq h0.symm bad
  ·rw [List.getElem?_cons_succ]at h
   have:=d9 l (i+1) _ (fun j=>by
    have:=hl (j+1);rw [List.getElem?_cons_succ]at this;rw [this];congr 1;omega) j s h
   rwa [show i+(j+1)=i+1+j by omega]
theorem q8 {names:List Bt} {mods:List eH} (h:(iV names mods).2=[]):names[(iV names mods).1.module]? =some iw:=by
 unfold iV at h ⊢;cases hf:names.findIdx? (· ==iw)with
 | none=>rw [hf]at h;simp at h
 | some i=>
  rw [hf]at h;simp only at h ⊢;cases hd:kL (mods.getD i iI) iw with
  | none=>rw [hd]at h;simp at h
  | some k=>
   obtain⟨hk,h1, _⟩:=List.findIdx?_eq_some_iff_getElem.1 hf;rw [List.getElem?_eq_getElem hk];congr 1;simpa using h1
theorem q9 {l:List jo} (h:(eP l).2=[]):gT l=[]∧(dz (l.map (·.name)) (l.map fun s=>aO s.text) 0 [] (l.map fun s=>aO s.text)).2=[]∧fC (l.map (·.name)) (l.map fun s=>aO s.text) 0 (l.map fun s=>aO s.text)=[]∧
  (iV (l.map (·.name)) (l.map fun s=>aO s.text)).2=[]∧(eP l).1=⟨l.map (·.name),l.map fun s=>aO s.text,(dz (l.map (·.name)) (l.map fun s=>aO s.text) 0 [] (l.map fun s=>aO s.text)).1,(iV (l.map (·.name)) (l.map fun s=>aO s.text)).1⟩:=by
 unfold eP at h ⊢;simp only at h ⊢;by_cases h1:gT l=[]
 ·rw [if_neg (by simp [h1])]at h ⊢;by_cases h2:(dz (l.map (·.name)) (l.map fun s=>aO s.text) 0 [] (l.map fun s=>aO s.text)).2=[]
  ·rw [if_neg (by simp [h2])]at h ⊢;by_cases h3:fC (l.map (·.name)) (l.map fun s=>aO s.text) 0 (l.map fun s=>aO s.text)=[]
   ·rw [if_neg (by simp [h3])]at h ⊢;by_cases h4:(iV (l.map (·.name)) (l.map fun s=>aO s.text)).2=[]
    ·rw [if_neg (by simp [h4])];exact⟨h1,h2,h3,h4,rfl⟩
    ·rw [if_pos h4]at h;exact absurd h h4
   ·rw [if_pos h3]at h;exact absurd h h3
  ·rw [if_pos h2]at h;exact absurd h h2
 ·rw [if_pos h1]at h;exact absurd h h1
theorem lN {l:List jo} (h:(eP l).2=[]):(∀(i:Nat) (s:List jN),(eP l).1.scopes[i]? =some s→F7 (eP l).1.mods i s)∧(eP l).1.names[(eP l).1.main.module]? =some iw:=by
 obtain⟨_,h2,h3,h4,h5⟩:=q9 h;rw [h5];exact⟨fun i s hs=>by have:=d9 _ 0 [] (fun j=>by rw [Nat.zero_add]) i s hs;rwa [Nat.zero_add]at this,q8 h4⟩
theorem kN {w:World} {B:Nat} {z:List Value} {r:SK} (h:MV w B z r):∃A1 c1 A2 c2 A3 c3 xm xs,z=[.slice A1 r.names.length c1, .slice A2 r.mods.length c2, .slice A3 r.scopes.length c3,sv r.main.name, .int .i64 r.main.module, .int .i64 r.main.decl]∧Sl w B 1 (.slice A1 r.names.length c1) (mZ r.names)∧Sl w B 2 (.slice A2 r.mods.length c2) xm∧bQ (Ea w B) 2 xm r.mods∧Sl w B 1 (.slice A3 r.scopes.length c3) xs∧bQ (NP w B) 1 xs r.scopes:=by
 obtain⟨vN,vM,vS,xm,xs,rfl,h1,h2,h3,h4,h5⟩:=h;obtain⟨A1,c1,rfl⟩:=bP h1 (by omega) (m:=r.names.length) (by simp [mZ]);obtain⟨A2,c2,rfl⟩:=bP h2 (by omega) (m:=r.mods.length) h3.len;obtain⟨A3,c3,rfl⟩:=bP h4 (by omega) (m:=r.scopes.length) h5.len;exact⟨A1,c1,A2,c2,A3,c3,xm,xs,rfl,h1,h2,h3,h4,h5⟩
theorem sN {w:World} {B:Nat} {A:Option Addr} {n c:Nat} {xm:List Value} {mods:List eH} (h:Sl w B 2 (.slice A n c) xm) (hr:bQ (Ea w B) 2 xm mods) {f:Nat} (hf:f<mods.length) (hn:n=mods.length):
  ∃b o A1 c1 A2 c2 xd,A=some ⟨b,o,none⟩∧b<B∧w.cell? ⟨b,o+f*2,none⟩=some (.slice A1 mods[f].imps.length c1)∧w.cell? ⟨b,o+f*2+1,none⟩=some (.slice A2 mods[f].decls.length c2)∧Sl w B 15 (.slice A2 mods[f].decls.length c2) xd∧bQ (zV w B) 15 xd mods[f].decls:=by
 obtain⟨b,o,z,hA,hb,hz,hc⟩:=Ep h hr (by omega) hf hn;obtain⟨A1,c1,A2,c2,xi,xd,rfl,s1,r1,s2,r2⟩:=hz.parts;exact⟨b,o,A1,c1,A2,c2,xd,hA,hb,hc 0 _ rfl,hc 1 _ rfl,s2,r2⟩
theorem l5 (w:World) (v:Value) (l:List jo) (hv:Sl w w.heap.size 2 v (nX l)) (hX:jX w):Calls Tryz.prog 5 #[v] w fun e w'=>e= .returned (.bool true)∧Below w.heap.size w w':=by
 have HA:=hid (F6 w hX);have HV:=hid hv;have HX:=hid hX;clear hv hX;go_enter Tryz.func5,Tryz.ntmps5;go_wp2_with fail;refine(HA.out).mono ?_;rintro e w1 ⟨rfl,hb1⟩;have HF:=hid (NV w1 v l (Sl.more (Sl.below HV.out hb1) hb1.size));have HB1:=hid hb1;clear hb1;go_wp2_with fail;refine(HF.out).mono ?_;rintro e w2 ⟨rfl,hb2⟩;have HB2:=hid (HB1.out.trans (hb2.mono HB1.out.size));clear hb2;cases hfe:zi l with
 | false=>
  clear hfe;go_wp2_with fail;go_ret;exact⟨rfl,HB2.out⟩
 | true=>
  have hls:=Mh hfe;have HC:=hid (zh w2 v l (Sl.more (Sl.below HV.out HB2.out) HB2.out.size) hls (HX.out.below HB2.out));clear hfe hls;go_wp2_with fail;refine(HC.out).mono ?_;rintro e w3 ⟨hb3,z,vb,rfl,hz,hvb⟩;obtain⟨A9,c9,rfl⟩:=bP hvb (by omega) (gy xA _);obtain⟨bad,hbad⟩:∃n,(eP l).2=n:=⟨_,rfl⟩
  have HBAD:=hid hbad;rw [hbad]at hvb ⊢;have Z9:=(cB hvb).2;obtain⟨A1,c1,A2,c2,A3,c3,xm,xs,rfl,h1,h2,h3,h4,h5⟩:=kN hz;have HZ:=hid hz;have HB3:=hid (HB2.out.trans (hb3.mono HB2.out.size));clear hz hvb hb3 h1 h2 h3 h4 h5 hbad;by_cases hbd:bad=[]
  ·subst hbd;obtain⟨tF,hmain⟩:=lN HBAD.out;obtain⟨r,hr⟩:∃r,(eP l).1=r:=⟨_,rfl⟩
   rw [hr]at HZ tF hmain ⊢;have Av:=hid tF;have A8:=hid hmain;clear tF hmain hr;obtain⟨W4,Bw⟩:∃W4,w3.alloc (.cells #[.slice A1 r.names.length c1, .slice A2 r.mods.length c2, .slice A3 r.scopes.length c3,sv r.main.name, .int .i64 r.main.module, .int .i64 r.main.decl] 31)=W4:=⟨_,rfl⟩
   have hat:=oF w3 (.cells #[.slice A1 r.names.length c1, .slice A2 r.mods.length c2, .slice A3 r.scopes.length c3,sv r.main.name, .int .i64 r.main.module, .int .i64 r.main.decl] 31);rw [Bw]at hat;have HAT:=hid hat;have Tj:=hid Bw;clear hat Bw;have hl4:=block_lt HAT.out;go_wp2_with fail;rw [show(Value.string ⟨r.main.name.toArray⟩)=sv r.main.name from rfl,Tj.out];go_loopw [7] (fun v7 wr=>∃i:Nat,v7= .int .i64 i∧i≤r.scopes.length∧Below W4.heap.size W4 wr) (fun v7 _=>r.scopes.length - (intOf v7).toNat)
   case atStart=>exact⟨0,rfl,by omega,Below.refl _ _⟩
   case round=>
    obtain⟨i,rfl,hi,hb⟩:=hrel;obtain⟨p0,p1,p2,p3,p4,p5,pz⟩:=BO ((hb.block _ hl4).trans HAT.out);by_cases hil:i<r.scopes.length
    ·have ZM:(i:Int)<r.scopes.length:=by omega
     obtain⟨_, _, _, _, _, _,Cn,xs',ez, _, _, _,h4,h5⟩:=kN HZ.out;simp only [List.cons.injEq]at ez;obtain⟨e1,e2,e3,e4⟩:=ez;rw [←e3]at h4;clear e4;obtain⟨bs,os,A',c',rfl,hbs,hcs,hes⟩:=Vs h4 h5 hil;have hns:=(cB h4).2;have hne:=(cB hes).2;have Vv:Below w3.heap.size w3 W4:=by rw [←Tj.out];exact(Turn.alloc (fun _=>False) _ _).below (Nat.le_refl _) (fun _ _=>id)
     have N7:=hid Vv;have HB:=hid hb;have tY:=hid hes;have xu:=hid hcs;clear Vv h4 h5 e1 e2 e3 hes hcs hb;go_wp2_with fail;go_loopw [8] (fun v8 wq=>∃k:Nat,v8= .int .i64 k∧k≤r.scopes[i].length∧Below W4.heap.size W4 wq) (fun v8 _=>r.scopes[i].length - (intOf v8).toNat)
     case atStart=>exact⟨0,rfl,by omega,HB.out⟩
     case round=>
      obtain⟨wq,rfl⟩:∃wq,wq=wr:=⟨_,rfl⟩
      obtain⟨k,rfl,hk,hbq⟩:=hrel;obtain⟨p0,p1,p2,p3,p4,p5,pz⟩:=BO ((hbq.block _ hl4).trans HAT.out);have o7:=N7.out.trans (hbq.mono N7.out.size);have f1:=(o7.cell (p:=⟨bs,os+i,none⟩) hbs).trans xu.out;by_cases hkl:k<r.scopes[i].length
      ·have Tn:(k:Int)<r.scopes[i].length:=by omega
       obtain⟨hse,hnd⟩:=Av.out i _ (List.getElem?_eq_getElem hil);obtain⟨m,d,hm,hd,hdn,hex⟩:=hse _ (List.getElem_mem hkl);obtain⟨be,oe,rfl,hbe,k0,k1,k2⟩:=Vt tY.out hkl rfl;obtain⟨en,hen⟩:∃en,r.scopes[i][k]=en:=⟨_,rfl⟩
       rw [hen]at hm hd hdn hex k0 k1 k2;obtain⟨su,md,dc⟩:=en;simp only at hm hd hdn hex k0 k1 k2;obtain⟨hml,hme⟩:=List.getElem?_eq_some_iff.1 hm;obtain⟨hdl,hde⟩:=List.getElem?_eq_some_iff.1 hd;obtain⟨_, _, _, _, _, _,Cn,xs',ez, _,s2,r2, _, _⟩:=kN HZ.out;simp only [List.cons.injEq]at ez;obtain⟨e1,e2,e3,e4⟩:=ez;rw [←e2]at s2;clear e1 e3 e4;obtain⟨bm,om,B1,d1,B2,d2,xd,rfl,Ti,m0,m1,s3,r3⟩:=sN s2 r2 hml rfl;have hnm:=(cB s2).2;rw [hme]at m1 s3 r3;have Gd:=(cB s3).2;obtain⟨bd,od,G1,g1,G2,g2,kk,sd,n6,l6,cc,G3,n3,g3,G4,n4,g4,G5,n5,g5,rfl,j4,y0,y1,y2,y3,y4,y5,y6,y7,y8,y9,yt,zl,Ad,y13,uz⟩:=Gt s3 r3 hdl rfl;rw [hde]at y0 y1 y2 y3 y4 y13 uz;have x0:=(o7.cell (p:=⟨be,oe+k*3,none⟩) hbe).trans k0;have x1:=(o7.cell (p:=⟨be,oe+k*3+1,none⟩) hbe).trans k1;have x2:=(o7.cell (p:=⟨be,oe+k*3+2,none⟩) hbe).trans k2;obtain⟨W5,wT⟩:∃W5,wq.alloc (.cells #[sv su, .int .i64 md, .int .i64 dc] 29)=W5:=⟨_,rfl⟩
       have rz:=oF wq (.cells #[sv su, .int .i64 md, .int .i64 dc] 29);rw [wT]at rz;have hb5:Below wq.heap.size wq W5:=by rw [←wT];exact(Turn.alloc (fun _=>False) _ _).below (Nat.le_refl _) (fun _ _=>id)
       have RH:=o7.trans (hb5.mono o7.size);have qd:=hid ((cell_of_row _ _ 0 _ _ _ rz).trans rfl:W5.cell? ⟨wq.heap.size,0,none⟩=some (sv su));have tN:=hid ((cell_of_row _ _ 1 _ _ _ rz).trans rfl:W5.cell? ⟨wq.heap.size,1,none⟩=some (.int .i64 md));have HE2:=hid ((cell_of_row _ _ 2 _ _ _ rz).trans rfl:W5.cell? ⟨wq.heap.size,2,none⟩=some (.int .i64 dc));have hlq:=(block_lt HAT.out)
       have Ph:=hid ((hb5.cell (p:=⟨w3.heap.size,1,none⟩) (by show w3.heap.size<wq.heap.size;have:=hbq.size;omega)).trans p1);have HL2:=hid ((hb5.cell (p:=⟨w3.heap.size,2,none⟩) (by show w3.heap.size<wq.heap.size;have:=hbq.size;omega)).trans p2);have MK:=hid ((RH.cell (p:=⟨bm,om+md*2+1,none⟩) Ti).trans m1);have G6:=hid ((RH.cell (p:=⟨bs,os+i,none⟩) hbs).trans xu.out);have G7:=hid ((RH.cell (p:=⟨bd,od+dc*15,none⟩) j4).trans y0);have Ua:=hid ((RH.cell (p:=⟨bd,od+dc*15+1,none⟩) j4).trans y1);have Ub:=hid ((RH.cell (p:=⟨bd,od+dc*15+2,none⟩) j4).trans y2);have G8:=hid ((RH.cell (p:=⟨bd,od+dc*15+3,none⟩) j4).trans y3);have G9:=hid ((RH.cell (p:=⟨bd,od+dc*15+4,none⟩) j4).trans y4);have Xo:=hid ((RH.cell (p:=⟨bd,od+dc*15+5,none⟩) j4).trans y5);have HY:=hid ((RH.cell (p:=⟨bd,od+dc*15+6,none⟩) j4).trans y6);have PD:=hid ((RH.cell (p:=⟨bd,od+dc*15+7,none⟩) j4).trans y7);have PK:=hid ((RH.cell (p:=⟨bd,od+dc*15+8,none⟩) j4).trans y8);have PL:=hid ((RH.cell (p:=⟨bd,od+dc*15+9,none⟩) j4).trans y9);have Yj:=hid ((RH.cell (p:=⟨bd,od+dc*15+10,none⟩) j4).trans yt);have Vl:=hid ((RH.cell (p:=⟨bd,od+dc*15+11,none⟩) j4).trans zl);have vk:=hid ((RH.cell (p:=⟨bd,od+dc*15+12,none⟩) j4).trans Ad);have vv:=hid ((RH.cell (p:=⟨bd,od+dc*15+13,none⟩) j4).trans y13);have vB:=hid ((RH.cell (p:=⟨bd,od+dc*15+14,none⟩) j4).trans uz);have PN:(md:Int)<r.mods.length:=by omega
       have PO:(dc:Int)<m.decls.length:=by omega
       have u6:=hid (bF W5 1:Below W5.heap.size W5 (W5.drewN 1));have Aw:=hid (bF W5 2:Below W5.heap.size W5 (W5.drewN 2));have sM:=hid RH;have Qw:=hid (hbq.trans (hb5.mono hbq.size));have PS:=hid hdn;have zA:=hid hex;have Ai:=hid hnd;have Ak:=hid hen;have Lu:=hid wT;clear hbq o7 p0 p1 p3 p4 p5 pz m0 m1 s2 r2 s3 r3 k0 k1 k2 y0 y1 y2 y3 y4 y5 y6 y7 y8 y9 yt zl Ad y13 uz hse hnd hdn hex hm hd hme hde hen hb5 RH rz wT e2;go_wp2_with fail;rw [show(Value.string ⟨su.toArray⟩)=sv su from rfl,Lu.out];refine wp_region_held_drew (S:=fun w'=>Below W5.heap.size W5 w') (by kernel_rfl) u6.out (fun _=> ?_)
       try simp only [Act.put,List.getElem_toArray,List.getElem_cons_zero,List.getElem_cons_succ,List.setIfInBounds_toArray,List.set_cons_zero,List.set_cons_succ]
       refine tk 0 (.pointer (some ⟨wq.heap.size,1,none⟩)) u6.out ?_;refine sZ 1 (.int .i64 md) (oo tN.out) u6.out ?_;refine tk 2 (.bool false) u6.out ?_;refine tk 3 (.bool false) u6.out ?_;refine tk 4 (.pointer (some ⟨wq.heap.size,1,none⟩)) u6.out ?_;refine sZ 5 (.int .i64 md) (oo tN.out) u6.out ?_;refine tk 6 (.pointer (some ⟨w3.heap.size,1,none⟩)) u6.out ?_;refine sZ 7 (.slice (some ⟨bm,om,none⟩) r.mods.length c2) (oo Ph.out) u6.out ?_;refine tk 8 (.int .i64 r.mods.length) u6.out ?_;refine tk 9 (.bool false) u6.out ?_;refine tk 10 (.bool false) u6.out ?_;refine tk 11 (.bool false) u6.out ?_;refine tk 12 (.pointer (some ⟨wq.heap.size,2,none⟩)) u6.out ?_;refine sZ 13 (.int .i64 dc) (oo HE2.out) u6.out ?_;refine tk 14 (.bool false) u6.out ?_;refine tk 15 (.bool false) u6.out ?_;refine tk 16 (.bool false) u6.out ?_;refine tk 17 (.pointer (some ⟨wq.heap.size,2,none⟩)) u6.out ?_;refine sZ 18 (.int .i64 dc) (oo HE2.out) u6.out ?_;refine tk 19 (.pointer (some ⟨w3.heap.size,1,none⟩)) u6.out ?_;refine sZ 20 (.slice (some ⟨bm,om,none⟩) r.mods.length c2) (oo Ph.out) u6.out ?_;refine tk 21 (.pointer (some ⟨wq.heap.size,1,none⟩)) u6.out ?_;refine sZ 22 (.int .i64 md) (oo tN.out) u6.out ?_;refine tk 23 (.pointer (some ⟨bm,om+md*2,none⟩)) u6.out ?_;refine tk 24 (.pointer (some ⟨bm,om+md*2+1,none⟩)) u6.out ?_;refine sZ 25 (.slice (some ⟨bd,od,none⟩) m.decls.length d2) (oo MK.out) u6.out ?_;refine tk 26 (.int .i64 m.decls.length) u6.out ?_;refine tk 27 (.bool false) u6.out ?_;refine tk 28 (.bool false) u6.out ?_;refine wpAnyH_done (by kernel_rfl) ?_ _;go_wp2_with fail;refine bH (S:=fun w'=>Below W5.heap.size W5 w') (x:=12) (by kernel_rfl) ?_
       try simp only [Act.put,List.getElem_toArray,List.getElem_cons_zero,List.getElem_cons_succ,List.setIfInBounds_toArray,List.set_cons_zero,List.set_cons_succ]
       refine tx 0 (.pointer (some ⟨w3.heap.size,1,none⟩)) Aw.out ?_;refine jO 1 (.slice (some ⟨bm,om,none⟩) r.mods.length c2) (oo Ph.out) Aw.out ?_;refine tx 2 (.pointer (some ⟨wq.heap.size,1,none⟩)) Aw.out ?_;refine jO 3 (.int .i64 md) (oo tN.out) Aw.out ?_;refine tx 4 (.pointer (some ⟨bm,om+md*2,none⟩)) Aw.out ?_;refine tx 5 (.pointer (some ⟨bm,om+md*2+1,none⟩)) Aw.out ?_;refine jO 6 (.slice (some ⟨bd,od,none⟩) m.decls.length d2) (oo MK.out) Aw.out ?_;refine tx 7 (.pointer (some ⟨wq.heap.size,2,none⟩)) Aw.out ?_;refine jO 8 (.int .i64 dc) (oo HE2.out) Aw.out ?_;refine tx 9 (.pointer (some ⟨bd,od+dc*15,none⟩)) Aw.out ?_
       refine jO 10 (.agg #[sv d.name, .bool d.exp, .slice G1 d.vars.length g1,sv d.param, .slice G2 d.types.length g2, .int .i64 kk, .string sd, .int .i64 n6, .int .i64 l6, .int .i64 cc, .slice G3 n3 g3, .slice G4 n4 g4, .slice G5 n5 g5, .int .i64 d.line, .int .i64 d.col]) (fun w' h=>(⟨kb h G7.out,kb h Ua.out,kb h Ub.out,kb h G8.out,kb h G9.out,kb h Xo.out,kb h HY.out,kb h PD.out,kb h PK.out,kb h PL.out,kb h Yj.out,kb h Vl.out,kb h vk.out,kb h vv.out,kb h vB.out⟩:w'.cell? ⟨bd,od+dc*15,none⟩=some (sv d.name)∧w'.cell? ⟨bd,od+dc*15+1,none⟩=some (.bool d.exp)∧w'.cell? ⟨bd,od+dc*15+2,none⟩=some (.slice G1 d.vars.length g1)∧w'.cell? ⟨bd,od+dc*15+3,none⟩=some (sv d.param)∧w'.cell? ⟨bd,od+dc*15+4,none⟩=some (.slice G2 d.types.length g2)∧w'.cell? ⟨bd,od+dc*15+5,none⟩=some (.int .i64 kk)∧w'.cell? ⟨bd,od+dc*15+6,none⟩=some (.string sd)∧w'.cell? ⟨bd,od+dc*15+7,none⟩=some (.int .i64 n6)∧w'.cell? ⟨bd,od+dc*15+8,none⟩=some (.int .i64 l6)∧w'.cell? ⟨bd,od+dc*15+9,none⟩=some (.int .i64 cc)∧w'.cell? ⟨bd,od+dc*15+10,none⟩=some (.slice G3 n3 g3)∧w'.cell? ⟨bd,od+dc*15+11,none⟩=some (.slice G4 n4 g4)∧w'.cell? ⟨bd,od+dc*15+12,none⟩=some (.slice G5 n5 g5)∧w'.cell? ⟨bd,od+dc*15+13,none⟩=some (.int .i64 d.line)∧w'.cell? ⟨bd,od+dc*15+14,none⟩=some (.int .i64 d.col))) Aw.out (hy:=by intro w' hSw;obtain⟨z0,z1,z2,z3,z4,z5,z6,z7,z8,z9,z10,z11,z12,z13,z14⟩:=hSw;go_simp) ?_;refine av (rs:=[11]) (by kernel_rfl) (by simp) ?_;refine au.cons rfl (fun K hK=> ?_) au.nil;go_simp;refine hK.out _ _ (Aw.out.trans ((Turn.alloc (fun _=>False) _ _).below Aw.out.size (fun _ _=>id))) ?_;clear hK K
       try simp only [Act.put,List.getElem_toArray,List.getElem_cons_zero,List.getElem_cons_succ,List.setIfInBounds_toArray,List.set_cons_zero,List.set_cons_succ]
       refine av (rs:=[12]) (by kernel_rfl) (by simp) ?_;refine au.past rfl (by kernel_rfl) (fun K hK=> ?_) au.nil;go_simp;refine hK.out _ _ ?_;clear hK K
       try simp only [Act.put,List.getElem_toArray,List.getElem_cons_zero,List.getElem_cons_succ,List.setIfInBounds_toArray,List.set_cons_zero,List.set_cons_succ]
       refine aN (by kernel_rfl) ?_ _;obtain⟨W6,BD⟩:∃W6,((W5.alloc (.cells #[sv d.name, .bool d.exp, .slice G1 d.vars.length g1,sv d.param, .slice G2 d.types.length g2, .int .i64 kk, .string sd, .int .i64 n6, .int .i64 l6, .int .i64 cc, .slice G3 n3 g3, .slice G4 n4 g4, .slice G5 n5 g5, .int .i64 d.line, .int .i64 d.col] 51)).drew).drew=W6:=⟨_,rfl⟩
       have VA:Below W5.heap.size W5 W6:=by
        rw [←BD];have h:=(Turn.alloc (fun _=>False) W5 (.cells #[sv d.name, .bool d.exp, .slice G1 d.vars.length g1,sv d.param, .slice G2 d.types.length g2, .int .i64 kk, .string sd, .int .i64 n6, .int .i64 l6, .int .i64 cc, .slice G3 n3 g3, .slice G4 n4 g4, .slice G5 n5 g5, .int .i64 d.line, .int .i64 d.col] 51)).below (B:=W5.heap.size) (Nat.le_refl _) (fun _ _=>id);exact h.trans ((bF _ 2).mono h.size)
       have tX:W6.heap[W5.heap.size]? =some (.cells #[sv d.name, .bool d.exp, .slice G1 d.vars.length g1,sv d.param, .slice G2 d.types.length g2, .int .i64 kk, .string sd, .int .i64 n6, .int .i64 l6, .int .i64 cc, .slice G3 n3 g3, .slice G4 n4 g4, .slice G5 n5 g5, .int .i64 d.line, .int .i64 d.col] 51):=by rw [←BD];exact oF W5 _
       have d0:W6.cell? ⟨W5.heap.size,0,none⟩=some (sv d.name):=(cell_of_row _ _ 0 _ _ _ tX).trans rfl;have d1:W6.cell? ⟨W5.heap.size,1,none⟩=some (.bool d.exp):=(cell_of_row _ _ 1 _ _ _ tX).trans rfl;have e0:=kb VA qd.out;have e1:=kb VA tN.out;have Al:=hid (kb VA HL2.out);have Am:=hid (kb VA G6.out);have he5:W5.heap.size<W6.heap.size:=block_lt tX;have S9:wq.heap.size<W6.heap.size:=by have:=World.block_lt_of_cell? _ _ e0;exact this
       have hx:(d.name==su)=true:=by rw [beq_iff_eq];exact PS.out
       have Ao:=hid e0;have o9:=hid VA;rw [BD];clear BD VA tX;by_cases vE:md=i
       ·have hm1:(md:Int)=(i:Int):=by omega
        clear vE;go_wp2_with fail;go_loopw [11] (fun v11 wz=>∃n:Nat,v11= .int .i64 n∧n≤k∧Below W6.heap.size W6 wz) (fun v11 _=>k - (intOf v11).toNat)
        case atStart=>exact⟨0,rfl,by omega,Below.refl _ _⟩
        case round=>
         obtain⟨n,rfl,hn,hbz⟩:=hrel;clear hm1;by_cases hnk:n<k
         ·have wm:(n:Int)<k:=by omega
          have hnl:n<r.scopes[i].length:=by omega
          have w9:(n:Int)<r.scopes[i].length:=by omega
          have r9:=sM.out.trans ((o9.out.trans (hbz.mono o9.out.size)).mono sM.out.size);obtain⟨PX,PZ,qb, _,n0, _, _⟩:=Vt tY.out hnl rfl;injection qb with qb;injection qb with hb1 hb2 _;subst hb1 hb2;obtain⟨tV,qz⟩:∃x,r.scopes[i][n].name=x:=⟨_,rfl⟩
          rw [qz]at n0;have T9:(tV==su)=false:=by
           rw [beq_eq_false_iff_ne];intro e;have h1:=Ai.out
           have h2:=(List.getElem_inj (i:=n) (j:=k) (h₀:=by simpa using hnl) (h₁:=by simpa using hkl) h1).1 (by
            rw [List.getElem_map,List.getElem_map,qz,Ak.out];exact e)
           omega
          have Xa:=hid ((r9.cell (p:=⟨be,oe+n*3,none⟩) hbe).trans n0);have HZ2:=hid (kb hbz Al.out);have HZ1:=hid (kb hbz Am.out);have xg:=hid (kb hbz Ao.out);have ZY:=hid (bF wr 1:Below wr.heap.size wr (wr.drewN 1));have xk:=hid (hbz.trans ((bF wr 1).mono hbz.size));clear hbz r9 n0 qz;go_wp2_with fail;refine wp_region_held_drew (S:=fun w'=>Below wr.heap.size wr w') (by kernel_rfl) ZY.out (fun _=> ?_)
          try simp only [Act.put,List.getElem_toArray,List.getElem_cons_zero,List.getElem_cons_succ,List.setIfInBounds_toArray,List.set_cons_zero,List.set_cons_succ]
          refine tk 0 (.pointer (some ⟨w3.heap.size,2,none⟩)) ZY.out ?_;refine sZ 1 (.slice (some ⟨bs,os,none⟩) r.scopes.length c3) (oo HZ2.out) ZY.out ?_;refine tk 2 (.int .i64 i) ZY.out ?_;refine tk 3 (.pointer (some ⟨bs,os+i,none⟩)) ZY.out ?_;refine sZ 4 (.slice (some ⟨be,oe,none⟩) r.scopes[i].length c') (oo HZ1.out) ZY.out ?_;refine tk 5 (.int .i64 n) ZY.out ?_;refine tk 6 (.pointer (some ⟨be,oe+n*3,none⟩)) ZY.out ?_;refine tk 7 (.pointer (some ⟨be,oe+n*3,none⟩)) ZY.out ?_;refine sZ 8 (sv tV) (oo Xa.out) ZY.out ?_;refine tk 9 (.pointer (some ⟨wq.heap.size,0,none⟩)) ZY.out ?_;refine sZ 10 (sv su) (oo xg.out) ZY.out ?_;refine tk 11 (.bool false) ZY.out ?_;refine wpAnyH_done (by kernel_rfl) ?_ _;go_wp2_with fail;exact⟨⟨n+1,by simp,by omega,xk.out⟩,by simp [intOf];omega⟩
         ·have wm:¬(n:Int)<k:=by omega
          have SF:=hid (Qw.out.trans ((o9.out.trans (hbz.mono o9.out.size)).mono Qw.out.size));clear hbz;go_wp2_with fail;exact⟨⟨k+1,by simp,by omega,SF.out⟩,by simp [intOf];omega⟩
       ·have hm1:¬(md:Int)=(i:Int):=by omega
        have hxp:=zA.out.resolve_left vE;rw [hxp]at d1;clear vE hxp;go_wp2_with fail;go_loopw [11] (fun v11 wz=>∃n:Nat,v11= .int .i64 n∧n≤k∧Below W6.heap.size W6 wz) (fun v11 _=>k - (intOf v11).toNat)
        case atStart=>exact⟨0,rfl,by omega,Below.refl _ _⟩
        case round=>
         obtain⟨n,rfl,hn,hbz⟩:=hrel;clear hm1;by_cases hnk:n<k
         ·have wm:(n:Int)<k:=by omega
          have hnl:n<r.scopes[i].length:=by omega
          have w9:(n:Int)<r.scopes[i].length:=by omega
          have r9:=sM.out.trans ((o9.out.trans (hbz.mono o9.out.size)).mono sM.out.size);obtain⟨PX,PZ,qb, _,n0, _, _⟩:=Vt tY.out hnl rfl;injection qb with qb;injection qb with hb1 hb2 _;subst hb1 hb2;obtain⟨tV,qz⟩:∃x,r.scopes[i][n].name=x:=⟨_,rfl⟩
          rw [qz]at n0;have T9:(tV==su)=false:=by
           rw [beq_eq_false_iff_ne];intro e;have h1:=Ai.out
           have h2:=(List.getElem_inj (i:=n) (j:=k) (h₀:=by simpa using hnl) (h₁:=by simpa using hkl) h1).1 (by
            rw [List.getElem_map,List.getElem_map,qz,Ak.out];exact e)
           omega
          have Xa:=hid ((r9.cell (p:=⟨be,oe+n*3,none⟩) hbe).trans n0);have HZ2:=hid (kb hbz Al.out);have HZ1:=hid (kb hbz Am.out);have xg:=hid (kb hbz Ao.out);have ZY:=hid (bF wr 1:Below wr.heap.size wr (wr.drewN 1));have xk:=hid (hbz.trans ((bF wr 1).mono hbz.size));clear hbz r9 n0 qz;go_wp2_with fail;refine wp_region_held_drew (S:=fun w'=>Below wr.heap.size wr w') (by kernel_rfl) ZY.out (fun _=> ?_)
          try simp only [Act.put,List.getElem_toArray,List.getElem_cons_zero,List.getElem_cons_succ,List.setIfInBounds_toArray,List.set_cons_zero,List.set_cons_succ]
          refine tk 0 (.pointer (some ⟨w3.heap.size,2,none⟩)) ZY.out ?_;refine sZ 1 (.slice (some ⟨bs,os,none⟩) r.scopes.length c3) (oo HZ2.out) ZY.out ?_;refine tk 2 (.int .i64 i) ZY.out ?_;refine tk 3 (.pointer (some ⟨bs,os+i,none⟩)) ZY.out ?_;refine sZ 4 (.slice (some ⟨be,oe,none⟩) r.scopes[i].length c') (oo HZ1.out) ZY.out ?_;refine tk 5 (.int .i64 n) ZY.out ?_;refine tk 6 (.pointer (some ⟨be,oe+n*3,none⟩)) ZY.out ?_;refine tk 7 (.pointer (some ⟨be,oe+n*3,none⟩)) ZY.out ?_;refine sZ 8 (sv tV) (oo Xa.out) ZY.out ?_;refine tk 9 (.pointer (some ⟨wq.heap.size,0,none⟩)) ZY.out ?_;refine sZ 10 (sv su) (oo xg.out) ZY.out ?_;refine tk 11 (.bool false) ZY.out ?_;refine wpAnyH_done (by kernel_rfl) ?_ _;go_wp2_with fail;exact⟨⟨n+1,by simp,by omega,xk.out⟩,by simp [intOf];omega⟩
         ·have wm:¬(n:Int)<k:=by omega
          have SF:=hid (Qw.out.trans ((o9.out.trans (hbz.mono o9.out.size)).mono Qw.out.size));clear hbz;go_wp2_with fail;exact⟨⟨k+1,by simp,by omega,SF.out⟩,by simp [intOf];omega⟩
      ·have Tn:¬(k:Int)<r.scopes[i].length:=by omega
       have W9:=hid hbq;clear hbq o7;go_wp2_with fail;exact⟨⟨i+1,by simp,by omega,W9.out⟩,by simp [intOf];omega⟩
    ·have ZM:¬(i:Int)<r.scopes.length:=by omega
     have hmn:=A8.out;obtain⟨hml,hme⟩:=List.getElem?_eq_some_iff.1 hmn;have h1:Sl w3 w3.heap.size 1 (.slice A1 r.names.length c1) (mZ r.names):=by
      obtain⟨_, _, _, _, _, _, _, _,ez,h1, _⟩:=kN HZ.out;injection ez with e1 _;rw [e1];exact h1
     obtain⟨bn,on,rfl,hbn,hcn⟩:=sK h1 (i:=r.main.module) hml (by omega);have hnc:=(cB h1).2;have hc0:=hcn 0 (sv iw) (by unfold mZ;rw [List.getElem?_map,Nat.mul_one,Nat.add_zero,hmn];rfl);rw [Nat.mul_one,Nat.add_zero]at hc0;have Vv:Below w3.heap.size w3 W4:=by rw [←Tj.out];exact(Turn.alloc (fun _=>False) _ _).below (Nat.le_refl _) (fun _ _=>id)
     have hc1:=((Vv.trans (hb.mono Vv.size)).cell (p:=⟨bn,on+r.main.module,none⟩) hbn).trans hc0;have Z5:(r.main.module:Int)<r.names.length:=by omega
     have O6:=hid (HB3.out.trans ((Vv.trans (hb.mono Vv.size)).mono HB3.out.size));clear Vv hcn hc0 h1 hmn hme;go_wp2_with fail;go_ret;exact⟨rfl,O6.out⟩
  ·have hbI:(0:Int)<bad.length:=by have:=List.length_pos_iff.2 hbd;omega
   clear hbd;go_wp2_with fail;go_ret;exact⟨rfl,HB3.out.trans ((Turn.alloc (fun _=>False) _ _).below HB3.out.size (fun _ _=>id))⟩
theorem mo (v:Value) (l:List jo) (w:World) (hv:Sl w w.heap.size 2 v (nX l)) (hX:jX w):Calls Tryz.prog 5 #[v] w fun e w'=>e= .returned (.bool true)∧Below w.heap.size w w':=l5 w v l hv hX
end Go.Proofs.YtmbppnbekkbibaaGreatDoor
