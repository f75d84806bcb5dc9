/- What this law needs beside. -/
import Derived.Test.YtmbppnbekkbibaaGreatDoorLB01
import Derived.Test.YtmbppnbekkbibaaGreatDoorLB02
import Derived.Test.YtmbppnbekkbibaaGreatDoorLB03
import Derived.Test.YtmbppnbekkbibaaGreatDoorLB04
import Derived.Test.YtmbppnbekkbibaaGreatDoorLB05
import Derived.Test.YtmbppnbekkbibaaGreatDoorLB06
import Derived.Test.YtmbppnbekkbibaaGreatDoorLB07
import Derived.Test.YtmbppnbekkbibaaGreatDoorLB08
import Derived.Test.YtmbppnbekkbibaaGreatDoorLB09
import Derived.Test.YtmbppnbekkbibaaGreatDoorLB10
import Derived.Test.YtmbppnbekkbibaaGreatDoorLB11
import Derived.Test.YtmbppnbekkbibaaGreatDoorLB12
import Derived.Test.YtmbppnbekkbibaaGreatDoorLB13
import Derived.Test.YtmbppnbekkbibaaGreatDoorLB14
import Derived.Test.YtmbppnbekkbibaaGreatDoorLB15
import Derived.Test.YtmbppnbekkbibaaGreatDoorLB16
import Derived.Test.YtmbppnbekkbibaaGreatDoorLB17
import Derived.Test.YtmbppnbekkbibaaGreatDoorLB18
import Derived.Test.YtmbppnbekkbibaaGreatDoorLB19
import Derived.Test.YtmbppnbekkbibaaGreatDoorProg
import Derived.Test.YtmbppnbekkbibaaGreatDoorRows
import Derived.Test.YtmbppnbekkbibaaGreatDoorCards
import Derived.Test.YtmbppnbekkbibaaGreatDoorTie
set_option linter.unusedSimpArgs false
set_option linter.unusedVariables false
set_option maxRecDepth 100000
set_option maxHeartbeats 8000000
namespace Go.Proofs.YtmbppnbekkbibaaGreatDoor
open Go.RowKit
section
variable {l:List UInt8} {k u x:Nat}
end
section
variable {w w':World} {B B' k:Nat} {v:Value} {xs:List Value}
end
section
variable {P:Program}
end
theorem below_app {B:Nat} {a w w':World} {base:Nat} {e:TypeId} {size:Nat} {v:Value} {n:Nat} {xs:List Value} (h:Below B a w) (hown:w.ownsRow base e size v n xs) (hg:w.grownBy w' v.ownBlock) (hB:B≤base) (hs:B≤w.heap.size):Below B a w':=
 h.grown hg hs fun k hk=>Nat.le_trans hB (hown.lt k hk).1
section
variable {w w':World} {base:Nat} {e:TypeId} {v:Value} {l:List UInt8}
end
section
variable {P:Program} {md:Region.Mode} {ops:Array Oper} {Q:Exit→Act→World→Prop} {S:World→Prop}
end
section
variable {w:World} {a0 a1 a2 a3 a4 a5 a6 a7:Addr} {v0 v1 v2 v3 v4 v5 v6 v7:Value}
theorem zl (d0:w.cell? a0=some v0):∀w',Below w.heap.size w w'→w'.cell? a0=some v0:=fun _ h=>kb h d0
end
theorem tF {l:List jo} (h:(eP l).2=[]):gT l=[]∧(dz (l.map (·.name)) (l.map fun s=>aO s.text) 0 [] (l.map fun s=>aO s.text)).2=[]∧fC (l.map (·.name)) (l.map fun s=>aO s.text) 0 (l.map fun s=>aO s.text)=[]∧
  (iV (l.map (·.name)) (l.map fun s=>aO s.text)).2=[]∧(eP l).1=⟨l.map (·.name),l.map fun s=>aO s.text,(dz (l.map (·.name)) (l.map fun s=>aO s.text) 0 [] (l.map fun s=>aO s.text)).1,(iV (l.map (·.name)) (l.map fun s=>aO s.text)).1⟩:=by
 unfold eP at h ⊢;simp only at h ⊢;by_cases h1:gT l=[]
 ·rw [if_neg (by simp [h1])]at h ⊢;by_cases h2:(dz (l.map (·.name)) (l.map fun s=>aO s.text) 0 [] (l.map fun s=>aO s.text)).2=[]
  ·rw [if_neg (by simp [h2])]at h ⊢;by_cases h3:fC (l.map (·.name)) (l.map fun s=>aO s.text) 0 (l.map fun s=>aO s.text)=[]
   ·rw [if_neg (by simp [h3])]at h ⊢;by_cases h4:(iV (l.map (·.name)) (l.map fun s=>aO s.text)).2=[]
    ·rw [if_neg (by simp [h4])];exact⟨h1,h2,h3,h4,rfl⟩
    ·rw [if_pos h4]at h;exact absurd h h4
   ·rw [if_pos h3]at h;exact absurd h h3
  ·rw [if_pos h2]at h;exact absurd h h2
 ·rw [if_pos h1]at h;exact absurd h h1
def q8:Bt:=[122,122,95,109,111,114,101]
def vv:Bt:=[101,120,112,111,114,116,32,102,110,32,102,40,120,41,32,61,32,120,59]
def lN:jo:=⟨q8,vv⟩
def tX:eH:=⟨[],[⟨[102],true,[],[120],[l7,l7], .mk 4 [120] 0 1 18 [] [] [],1,8⟩]⟩
theorem sM {mods:List eH} {i f:Nat} {x:kG} {st:wI} (n:Bt) (h:(name1 mods i f x st n).2=[]):st.2=[]:=by
 unfold name1 at h;split at h
 ·simp at h
 ·split at h
  ·simp at h
  ·split at h
   ·simp at h
   ·exact h
theorem oq {α:Type} {f:wI→α→wI} (hf:∀st x,(f st x).2=[]→st.2=[]):∀(l:List α) (st:wI),(l.foldl f st).2=[]→st.2=[]
 | [],st,h=>h
 | x :: l,st,h=>hf st x (oq hf l _ h)
theorem o9 {names:List Bt} {mods:List eH} {i:Nat} {st:wI} (x:kG) (h:(fP names mods i st x).2=[]):st.2=[]∧∃f,names.findIdx? (· ==x.from_)=some f:=by
 unfold fP at h;split at h
 ·simp at h
 ·rename_i f hf
  exact⟨oq (fun st n h=>sM n h) _ _ h,f,hf⟩
theorem l5 {i:Nat}:∀(l:List jJ) (k:Nat) (st:wI),(jC i k st l).2=[]→st.2=[]
 | [],k,st,h=>h
 | d :: l,k,st,h=>by
  unfold jC at h;have:=l5 l (k+1) _ h;unfold decl1 at this;split at this
  ·simp at this
  ·exact this
theorem kN {names:List Bt} {mods:List eH} {i:Nat}:∀(l:List kG) (st:wI),(l.foldl (fP names mods i) st).2=[]→st.2=[]∧∀x∈l,∃f,names.findIdx? (· ==x.from_)=some f
 | [],st,h=>⟨h,by simp⟩
 | x :: l,st,h=>by
  obtain⟨h1,h2⟩:=kN l _ h;obtain⟨h3,h4⟩:=o9 x h1
  exact⟨h3,fun y hy=>by
   rcases List.mem_cons.1 hy with rfl | hy
   ·exact h4
   ·exact h2 y hy⟩
theorem q9 {names:List Bt} {mods:List eH} {i:Nat} {m:eH} {bad:List kT} (h:(yD names mods i m bad).2=[]):bad=[]∧∀x∈m.imps,∃f,names.findIdx? (· ==x.from_)=some f:=by
 unfold yD at h;exact kN _ _ (l5 _ _ _ h)
theorem lM {names:List Bt} {mods:List eH}:∀(l:List eH) (i:Nat) (bad:List kT),(dz names mods i bad l).2=[]→bad=[]∧∀m∈l,∀x∈m.imps,∃f,names.findIdx? (· ==x.from_)=some f
 | [],i,bad,h=>⟨h,by simp⟩
 | m :: l,i,bad,h=>by
  unfold dz at h;obtain⟨h1,h2⟩:=lM l (i+1) _ h;obtain⟨h3,h4⟩:=q9 h1
  exact⟨h3,fun y hy=>by
   rcases List.mem_cons.1 hy with rfl | hy
   ·exact h4
   ·exact h2 y hy⟩
section
variable {names:List Bt} {mods:List eH} {z:Bt} {zm:eH} (hlen:names.length=mods.length)
theorem bq {s:Bt} {f:Nat} (h:names.findIdx? (· ==s)=some f):(names++[z]).findIdx? (· ==s)=some f:=by
 rw [List.findIdx?_append,h];rfl
include hlen
theorem oz {s:Bt} {f:Nat} (h:names.findIdx? (· ==s)=some f):(mods++[zm]).getD f iI=mods.getD f iI:=by
 have hf:=(List.findIdx?_eq_some_iff_getElem.1 h).1;rw [List.getD_eq_getElem?_getD,List.getD_eq_getElem?_getD,List.getElem?_append_left (by omega)]
theorem o7 {i:Nat} {st:wI} {x:kG} (h:∃f,names.findIdx? (· ==x.from_)=some f):fP (names++[z]) (mods++[zm]) i st x=fP names mods i st x:=by
 obtain⟨f,hf⟩:=h;unfold fP;rw [bq hf,hf];simp only;congr 1;funext st n;unfold name1;rw [oz hlen hf]
theorem mo {i:Nat}:∀(l:List kG) (st:wI),(∀x∈l,∃f,names.findIdx? (· ==x.from_)=some f)→l.foldl (fP (names++[z]) (mods++[zm]) i) st=l.foldl (fP names mods i) st
 | [],st, _=>rfl
 | x :: l,st,h=>by
  rw [List.foldl_cons,List.foldl_cons,o7 hlen (h x (by simp)),mo l _ (fun y hy=>h y (by simp [hy]))]
theorem p8 {i:Nat} {m:eH} {bad:List kT} (h:∀x∈m.imps,∃f,names.findIdx? (· ==x.from_)=some f):yD (names++[z]) (mods++[zm]) i m bad=yD names mods i m bad:=by
 unfold yD;rw [mo hlen _ _ h]
theorem d9:∀(l:List eH) (i:Nat) (bad:List kT) (r:List eH),(∀m∈l,∀x∈m.imps,∃f,names.findIdx? (· ==x.from_)=some f)→
  dz (names++[z]) (mods++[zm]) i bad (l++r)=((dz names mods i bad l).1++(dz (names++[z]) (mods++[zm]) (i+l.length) (dz names mods i bad l).2 r).1,(dz (names++[z]) (mods++[zm]) (i+l.length) (dz names mods i bad l).2 r).2)
 | [],i,bad,r, _=>rfl
 | m :: l,i,bad,r,h=>by
  rw [List.cons_append,dz,dz,p8 hlen (h m (by simp)),d9 l (i+1) _ r (fun y hy=>h y (by simp [hy]))];simp only [List.cons_append,List.length_cons];rw [show i+1+l.length=i+(l.length+1) by omega]
theorem nE (hz:zm.imps=[]) (h:∀m∈mods,∀x∈m.imps,∃f,names.findIdx? (· ==x.from_)=some f) (j:Nat):pO (names++[z]) (mods++[zm]) j=pO names mods j:=by
 have _:=hlen;unfold pO;rw [List.getD_eq_getElem?_getD,List.getD_eq_getElem?_getD];rcases Nat.lt_trichotomy j mods.length with hj | hj | hj
 ·rw [List.getElem?_append_left hj,List.getElem?_eq_getElem hj];simp only [Option.getD_some];apply List.map_congr_left;intro x hx;obtain⟨f,hf⟩:=h _ (List.getElem_mem hj) x hx;rw [bq hf,hf]
 ·subst hj;rw [List.getElem?_append_right (Nat.le_refl _),Nat.sub_self,List.getElem?_eq_none_iff.2 (Nat.le_refl _)];simp [hz,iI]
 ·rw [List.getElem?_eq_none_iff.2 (by simp;omega),List.getElem?_eq_none_iff.2 (by omega)];rfl
theorem p9 (hz:zm.imps=[]) (h:∀m∈mods,∀x∈m.imps,∃f,names.findIdx? (· ==x.from_)=some f) (i j:Nat):oJ (names++[z]) (mods++[zm]) i j↔oJ names mods i j:=by
 constructor
 ·intro w;induction w with
  | refl=>exact .refl i
  | step _ hk ih=>rw [nE hlen hz h]at hk;exact .step ih hk
 ·intro w;induction w with
  | refl=>exact .refl i
  | step _ hk ih=>rw [←nE (z:=z) hlen hz h]at hk;exact .step ih hk
theorem j4 (hz:zm.imps=[]) (h:∀m∈mods,∀x∈m.imps,∃f,names.findIdx? (· ==x.from_)=some f):∀(l:List eH) (i:Nat),(∀m∈l,m∈mods)→fC (names++[z]) (mods++[zm]) i (l++[zm])=fC names mods i l
 | [],i, _=>by
  rw [List.nil_append];unfold fC;rw [hz];rfl
 | m :: l,i,hl=>by
  rw [List.cons_append,fC,fC,j4 hz h l (i+1) (fun y hy=>hl y (by simp [hy]))];congr 1;have key:∀x∈m.imps,iR (names++[z]) (mods++[zm]) i x=iR names mods i x:=by
   intro x hx;obtain⟨f,hf⟩:=h m (hl m (by simp)) x hx;unfold iR;rw [bq hf,hf];simp only [Option.getD_some];by_cases hw:oJ names mods f i
   ·rw [if_pos hw,if_pos ((p9 hlen hz h f i).2 hw)]
   ·rw [if_neg hw,if_neg (fun k=>hw ((p9 hlen hz h f i).1 k))]
  have:∀k:List kG,(∀x∈k,iR (names++[z]) (mods++[zm]) i x=iR names mods i x)→k.flatMap (iR (names++[z]) (mods++[zm]) i)=k.flatMap (iR names mods i):=by
   intro k hk;induction k with
   | nil=>rfl
   | cons x k ih=>rw [List.flatMap_cons,List.flatMap_cons,hk x (by simp),ih (fun y hy=>hk y (by simp [hy]))]
  exact this _ key
theorem rz (h:(iV names mods).2=[]):iV (names++[z]) (mods++[zm])=iV names mods:=by
 unfold iV at h ⊢;cases hf:names.findIdx? (· ==iw)with
 | none=>rw [hf]at h;simp at h
 | some f=>
  rw [bq hf];simp only;rw [oz hlen hf]
end
theorem bn:∀(l m:List jo) (i:Nat) (had:List Bt),iq i had (l++m)=iq i had l++iq (i+l.length) (had++l.map (·.name)) m
 | [],m,i,had=>by simp [iq]
 | s :: l,m,i,had=>by
  rw [List.cons_append,iq,iq,bn l m,List.append_assoc,List.length_cons,List.map_cons,List.append_assoc,List.singleton_append,show i+1+l.length=i+(l.length+1) by omega]
theorem tN:cK bC vv=(some tX,(0,0,0)):=by
 have hl:dS vv=([⟨2,[101,120,112,111,114,116],1,1⟩,⟨2,[102,110],1,8⟩,⟨1,[102],1,11⟩,⟨5,[40],1,12⟩,⟨1,[120],1,13⟩,⟨5,[41],1,14⟩,⟨5,[61],1,16⟩,⟨1,[120],1,18⟩,⟨5,[59],1,19⟩,⟨0,[],1,20⟩],(0,0,0)):=by rfl
 unfold cK;rw [hl];rfl
theorem oo (hz:cK bC vv=(some tX,(0,0,0))) {l:List jo} (hl:l.length≤15) (h:(eP l).2=[]):
  (q8∈l.map (·.name)→(eP (l++[lN])).2≠[])∧
  (q8 ∉ l.map (·.name)→(eP (l++[lN])).2=[]∧(∃s,(eP (l++[lN])).1.scopes=(eP l).1.scopes++[s])∧(eP (l++[lN])).1.main=(eP l).1.main):=by
 obtain⟨h1,h2,h3,h4,h5⟩:=tF h;have hf1:iq 0 [] l=[]:=by unfold gT at h1;rwa [if_neg (by omega)]at h1
 have hpf:(mV lN.text).2.2=0:=by unfold mV;rw [show lN.text=vv from rfl,hz]
 have HZ:aO lN.text=tX:=by unfold aO;rw [show lN.text=vv from rfl,hz];rfl
 have ht:gT (l++[lN])=iQ l.length (l.map (·.name)) lN:=by
  unfold gT;rw [if_neg (by simp;omega),bn,hf1,List.nil_append,List.nil_append,Nat.zero_add,iq,iq,List.append_nil]
 have hnl:sI lN.name=true:=by decide
 constructor
 ·intro hm;have:gT (l++[lN])≠[]:=by
   rw [ht];unfold iQ;rw [if_neg (by rw [hnl];decide),if_pos (show lN.name∈l.map (·.name)from hm)];simp
  unfold eP;simp only;rw [if_pos this];exact this
 ·intro hm;have t1:gT (l++[lN])=[]:=by
   rw [ht];unfold iQ;rw [if_neg (by rw [hnl];decide),if_neg (show lN.name ∉ l.map (·.name)from hm),if_neg (by rw [hpf];decide)]
  obtain⟨_,hall⟩:=lM _ _ _ h2;have hlen:(l.map (·.name)).length=(l.map fun s=>aO s.text).length:=by simp
  have en:(l++[lN]).map (·.name)=l.map (·.name)++[q8]:=by simp [lN]
  have em:((l++[lN]).map fun s=>aO s.text)=(l.map fun s=>aO s.text)++[tX]:=by simp [HZ]
  have es:=d9 (z:=q8) (zm:=tX) hlen (l.map fun s=>aO s.text) 0 [] [tX] hall;rw [h2]at es;have el:dz (l.map (·.name)++[q8]) ((l.map fun s=>aO s.text)++[tX]) (0+(l.map fun s=>aO s.text).length) [] [tX]=([[⟨[102],0+(l.map fun s=>aO s.text).length,0⟩]],[]):=rfl;rw [el]at es;have ec:=j4 (z:=q8) (zm:=tX) hlen rfl hall (l.map fun s=>aO s.text) 0 (fun _ h=>h);have PD:=rz (z:=q8) (zm:=tX) hlen h4;rw [h5];unfold eP;simp only [t1,en,em,es,ec,PD,h3,h4,ne_eq,not_true_eq_false,if_false];exact⟨trivial,⟨_,rfl⟩,trivial⟩
theorem qb (w:World) (v1 v2:Value) (l:List jN) (h1:Sl w w.heap.size 3 v1 (zI l)) (h2:Sl w w.heap.size 3 v2 (zI l)):Calls Tryz.prog 19 #[v1,v2] w fun e w'=>e= .returned (.bool true)∧Below w.heap.size w w':=by
 obtain⟨A1,c1,rfl⟩:=bP h1 (by omega) (m:=l.length) (gy tC l);obtain⟨A2,c2,rfl⟩:=bP h2 (by omega) (m:=l.length) (gy tC l);have hq1:=(cB h1).2;have hq2:=(cB h2).2;have H1:=hid h1;have H2:=hid h2;clear h1 h2;go_enter Tryz.func19,Tryz.ntmps19;go_wp2_with fail;go_loopw [5] (fun v5 wr=>∃i:Nat,v5= .int .i64 i∧i≤l.length∧Below w.heap.size w wr) (fun v5 _=>l.length - (intOf v5).toNat)
 case atStart=>exact⟨0,rfl,by omega,Below.refl _ _⟩
 case round=>
  obtain⟨i,rfl,hi,hb⟩:=hrel;by_cases hil:i<l.length
  ·have ZM:(i:Int)<l.length:=by omega
   obtain⟨b1,o1,rfl,hb1,k0,k1,k2⟩:=Vt (Sl.below H1.out hb) hil rfl;obtain⟨b2,o2,rfl,hb2,m0,m1,m2⟩:=Vt (Sl.below H2.out hb) hil rfl;obtain⟨en,hen⟩:∃en,l[i]=en:=⟨_,rfl⟩
   rw [hen]at k0 k1 k2 m0 m1 m2;have HS:=hid (bF wr 1:Below wr.heap.size wr (wr.drewN 1));have O6:=hid (hb.trans ((bF wr 1).mono hb.size));have K0:=hid k0;have K1:=hid k1;have K2:=hid k2;have M0:=hid m0;have M1:=hid m1;have M2:=hid m2;clear k0 k1 k2 m0 m1 m2 hen hb;go_wp2_with fail;refine wp_region_held_drew (S:=fun w'=>Below wr.heap.size wr w') (by kernel_rfl) HS.out (fun _=> ?_)
   try simp only [Act.put,List.getElem_toArray,List.getElem_cons_zero,List.getElem_cons_succ,List.setIfInBounds_toArray,List.set_cons_zero,List.set_cons_succ]
   refine tk 0 (.slice (some ⟨b1,o1,none⟩) l.length c1) HS.out ?_;refine tk 1 (.int .i64 i) HS.out ?_;refine tk 2 (.pointer (some ⟨b1,o1+i*3,none⟩)) HS.out ?_;refine sZ 3 (.agg #[sv en.name, .int .i64 en.module, .int .i64 en.decl]) (fun w' h=>(⟨kb h K0.out,kb h K1.out,kb h K2.out⟩:w'.cell? ⟨b1,o1+i*3,none⟩=some (sv en.name)∧w'.cell? ⟨b1,o1+i*3+1,none⟩=some (.int .i64 en.module)∧w'.cell? ⟨b1,o1+i*3+2,none⟩=some (.int .i64 en.decl))) HS.out (hy:=by intro w' hSw;obtain⟨z0,z1,z2⟩:=hSw;go_simp) ?_;refine tk 4 (.slice (some ⟨b2,o2,none⟩) l.length c2) HS.out ?_;refine tk 5 (.int .i64 i) HS.out ?_;refine tk 6 (.pointer (some ⟨b2,o2+i*3,none⟩)) HS.out ?_;refine sZ 7 (.agg #[sv en.name, .int .i64 en.module, .int .i64 en.decl]) (fun w' h=>(⟨kb h M0.out,kb h M1.out,kb h M2.out⟩:w'.cell? ⟨b2,o2+i*3,none⟩=some (sv en.name)∧w'.cell? ⟨b2,o2+i*3+1,none⟩=some (.int .i64 en.module)∧w'.cell? ⟨b2,o2+i*3+2,none⟩=some (.int .i64 en.decl))) HS.out (hy:=by intro w' hSw;obtain⟨z0,z1,z2⟩:=hSw;go_simp) ?_;refine tk 8 (.bool false) HS.out ?_;refine wpAnyH_done (by kernel_rfl) ?_ _;go_wp2_with fail;exact⟨⟨i+1,by simp,by omega,O6.out⟩,by simp [intOf];omega⟩
  ·have ZM:¬(i:Int)<l.length:=by omega
   have HB:=hid hb;clear hb;go_wp2_with fail;go_ret;exact⟨rfl,HB.out⟩
theorem sN (l:List jo) (s:jo):nX l++[sv s.name,sv s.text]=nX (l++[s]):=by
 unfold nX;rw [List.flatMap_append];rfl
theorem om (v:Value) (l:List jo) (w:World) (hv:Sl w w.heap.size 2 v (nX l)) (hX:jX w):Calls Tryz.prog 4 #[v] w fun e w'=>e= .returned (.bool true)∧Below w.heap.size w w':=by
 have HA:=hid (F6 w hX);obtain⟨A0,c0,rfl⟩:=bP hv (by omega) (m:=l.length) (gy jS l);have hq0:=(cB hv).2;have HV:=hid hv;have HX:=hid hX;clear hv hX;go_enter Tryz.func4,Tryz.ntmps4;go_wp2_with fail;refine(HA.out).mono ?_;rintro e w1 ⟨rfl,hb1⟩;have HF:=hid (NV w1 _ l (Sl.more (Sl.below HV.out hb1) hb1.size));have HB1:=hid hb1;clear hb1;go_wp2_with fail;refine(HF.out).mono ?_;rintro e w2 ⟨rfl,hb2⟩;have HB2:=hid (HB1.out.trans (hb2.mono HB1.out.size));clear hb2;cases hfe:zi l with
 | false=>
  clear hfe;go_wp2_with fail;go_ret;exact⟨rfl,HB2.out⟩
 | true=>
  have U1:=hid (Mh hfe);clear hfe;by_cases Gd:15<l.length
  ·have Ai:(15:Int)<l.length:=by omega
   go_wp2_with fail;go_ret;exact⟨rfl,HB2.out⟩
  ·have Ai:¬(15:Int)<l.length:=by omega
   have HC:=hid (zh w2 _ l (Sl.more (Sl.below HV.out HB2.out) HB2.out.size) U1.out (HX.out.below HB2.out));have vN:=hid Gd;clear Gd;go_wp2_with fail;refine(HC.out).mono ?_;rintro e w3 ⟨hb3,z,vb,rfl,hz,hvb⟩;obtain⟨A9,c9,rfl⟩:=bP hvb (by omega) (gy xA _);obtain⟨bad,hbad⟩:∃n,(eP l).2=n:=⟨_,rfl⟩
   have HBAD:=hid hbad;rw [hbad]at hvb ⊢;have Z8:=(cB hvb).2;obtain⟨A1,n1,c1,A2,n2,c2,A3,c3,xs,rfl,h4,h5⟩:=uK hz;have H4:=hid h4;have H5:=hid h5;have HB3:=hid (HB2.out.trans (hb3.mono HB2.out.size));have hq3:=(cB h4).2;clear hz hvb hb3 hbad h4 h5;by_cases hbd:bad=[]
   ·subst hbd;have Uq:=hid (oo tN (by have:=vN.out;omega) HBAD.out);obtain⟨r,hr⟩:∃r,(eP l).1=r:=⟨_,rfl⟩
    rw [hr]at H4 H5 Uq hq3 ⊢;have RG:=oF w3 (.cells #[.slice A1 n1 c1, .slice A2 n2 c2, .slice A3 r.scopes.length c3,sv r.main.name, .int .i64 r.main.module, .int .i64 r.main.decl] 31);obtain⟨W4,Bw⟩:∃W4,w3.alloc (.cells #[.slice A1 n1 c1, .slice A2 n2 c2, .slice A3 r.scopes.length c3,sv r.main.name, .int .i64 r.main.module, .int .i64 r.main.decl] 31)=W4:=⟨_,rfl⟩
    have Vv:Below w3.heap.size w3 W4:=by rw [←Bw];exact(Turn.alloc (fun _=>False) _ _).below (Nat.le_refl _) (fun _ _=>id)
    rw [Bw]at RG;have HAT:=hid RG;have xC:=hid (HB3.out.trans (Vv.mono HB3.out.size));have HSL:=hid (show Sl W4 w.heap.size 2 _ (nX l)from Sl.below HV.out xC.out);have hlen:(nX l).length=l.length*2:=gy jS l;have HLEN:=hid hlen;have PK:=hid (show 0*2+(nX l).length≤maxLen by have:=vN.out;unfold maxLen;omega);have PL:=hid (show(0*2+(nX l).length)*32≤140737488355328 by have:=vN.out;omega);have Ak:=hid (show l.length*2+2≤maxLen by have:=vN.out;unfold maxLen;omega);have Al:=hid (show(l.length*2+2)*32≤140737488355328 by have:=vN.out;omega);have N7:=hid Vv;have Tj:=hid Bw;clear hlen RG Vv Bw;go_wp2_with (at_builtin;go_must (first | (refine iG rfl (.const (.slice none 0 0)) (.tmp 36) _ rfl W4.heap.size RI _ _ rfl rfl (World.ownsRow_nil _ _ _ _) (by rw [Tj.out];exact HSL.out) (Mr l) PK.out PL.out (by rw [Tj.out];exact Nat.le_refl _) (fun v5 w5 n5 hown5 hg5 vS=> ?_);rw [Tj.out]at hg5 vS;have Ad:=hid hown5;have G5:=hid hg5;obtain⟨A5,c5,rfl,Z9,hm5⟩:=eu hown5;clear hown5 hg5 vS) | (refine iG rfl (.tmp 37) (.tmp 39) _ rfl W4.heap.size RI _ _ rfl rfl (Ad.out.alloc _) (fT _ _ _ 2 1 rfl (by decide)) (fun u hu=>by simp at hu;rcases hu with rfl | rfl <;> rfl) (by have h1:=Ad.out.1;have h2:=Ak.out;have h3:=HLEN.out;rw [List.nil_append]at h1;show n5*2+2≤maxLen;omega) (by have h1:=Ad.out.1;have h2:=Al.out;have h3:=HLEN.out;rw [List.nil_append]at h1;show(n5*2+2)*32≤140737488355328;omega) (by have h1:=G5.out.size;simp;omega) (fun v6 w6 n6 hown6 Y4 Vg=> ?_);have PN:=hid hown6;have Y5:=hid Y4;obtain⟨A6,c6,rfl,MO,Y2⟩:=eu hown6;clear hown6 Y4 Vg)));have hg5:W4.grownBy w5 none:=G5.out;have hb5:=xL hg5;have vB:Below W4.heap.size W4 (w5.alloc (.cells #[sv q8,sv vv] 44)):=hb5.alloc hb5.size _;have hb6:Below W4.heap.size W4 w6:=below_app vB (Ad.out.alloc _) Y5.out (Nat.le_refl _) vB.size
    have hso:Sl w6 w6.heap.size 2 (.slice A6 n6 c6) (nX (l++[lN])):=by
     have h:=Sl.qX PN.out;rw [List.nil_append]at h;rw [←sN];exact h
    have Nu:=hid (xC.out.trans (hb6.mono xC.out.size));have hms:∀s∈l++[lN],s.name.length≤1000∧s.text.length≤70000:=by
     intro s hs;rcases List.mem_append.1 hs with hs | hs
     ·have:=U1.out s hs;omega
     ·obtain rfl:s=lN:=by simpa using hs
      exact⟨by decide,by decide⟩
    have Pv:=hid (zh w6 _ (l++[lN]) hso hms (HX.out.below Nu.out));have hl4:=block_lt HAT.out;have vE:=hid hb6;clear hg5 hb5 vB hb6 hso hms HC;refine(Pv.out).mono ?_;rintro e w7 ⟨fI,z,vb,rfl,hz,hvb⟩;obtain⟨A8,c8,rfl⟩:=bP hvb (by omega) (gy xA _);obtain⟨B1,k1,d1,B2,k2,d2,B3,d3,xs2,rfl,h6,h7⟩:=uK hz;obtain⟨wm,vk⟩:∃x,(eP (l++[lN])).2=x:=⟨_,rfl⟩
    obtain⟨r2,hr2⟩:∃x,(eP (l++[lN])).1=x:=⟨_,rfl⟩
    rw [vk]at hvb Uq ⊢;rw [hr2]at h6 h7 Uq ⊢;have hq8:=(cB hvb).2;have ZF:=(cB h6).2;have tY:=oF w7 (.cells #[.slice B1 k1 d1, .slice B2 k2 d2, .slice B3 r2.scopes.length d3,sv r2.main.name, .int .i64 r2.main.module, .int .i64 r2.main.decl] 31);obtain⟨W8,qg⟩:∃W8,w7.alloc (.cells #[.slice B1 k1 d1, .slice B2 k2 d2, .slice B3 r2.scopes.length d3,sv r2.main.name, .int .i64 r2.main.module, .int .i64 r2.main.decl] 31)=W8:=⟨_,rfl⟩
    have vM:Below w7.heap.size w7 W8:=by rw [←qg];exact(Turn.alloc (fun _=>False) _ _).below (Nat.le_refl _) (fun _ _=>id)
    rw [qg]at tY;have WV:=block_lt tY;have hb48:Below W4.heap.size W4 W8:=(vE.out.trans (fI.mono vE.out.size)).trans (vM.mono (Nat.le_trans vE.out.size fI.size));have tV:=hid hb48;have ZT:=hid (xC.out.trans (hb48.mono xC.out.size));have Am:=hid tY;have EY:=hid qg;have H6:=hid h6;have H7:=hid h7;have xg:=hid vM;clear hz hvb h6 h7 vM qg tY hb48 vk hr2 Pv fI;go_wp2_with fail;rw [EY.out];go_loopw [10] (fun v10 wr=>∃i:Nat,v10= .int .i64 i∧i≤l.length∧Hid (q8 ∉ (l.take i).map (·.name))∧Below W8.heap.size W8 wr) (fun v10 _=>l.length - (intOf v10).toNat)
    case atStart=>exact⟨0,rfl,by omega,hid (by simp),Below.refl _ _⟩
    case round=>
     obtain⟨i,rfl,hi,G6,hb⟩:=hrel;have PO:=hid hb;have Ug:=hid (ZT.out.trans (hb.mono ZT.out.size));by_cases hil:i<l.length
     ·have ZM:(i:Int)<l.length:=by omega
      obtain⟨bs,os,rfl,hbs,c0',c1'⟩:=L9 (Sl.below HV.out Ug.out) hil rfl;obtain⟨Ao,hnx⟩:∃x,l[i].name=x:=⟨_,rfl⟩
      rw [hnx]at c0';have rY:=hid hnx;clear hnx hb;by_cases hz:Ao=q8
      ·have hx:(Ao==[122,122,95,109,111,114,101])=true:=by rw [hz];rfl
       have hmem:q8∈l.map (·.name):=List.mem_map.2 ⟨l[i],List.getElem_mem hil,rY.out.trans hz⟩;have G7:0<wm.length:=List.length_pos_iff.2 (Uq.out.1 hmem);have hpos:(0:Int)<wm.length:=by omega
       clear hz hmem;go_wp2_with fail;go_ret;exact⟨rfl,Ug.out⟩
      ·have hx:(Ao==[122,122,95,109,111,114,101])=false:=by rw [beq_eq_false_iff_ne];exact hz
       have Ap:Hid (q8 ∉ (l.take (i+1)).map (·.name)):=hid (by
        rw [List.take_succ_eq_append_getElem hil,List.map_append];intro hm;rcases List.mem_append.1 hm with hm | hm
        ·exact G6.out hm
        ·obtain e:q8=l[i].name:=by simpa using hm
         exact hz (rY.out.symm.trans e.symm))
       clear hz;go_wp2_with fail;exact⟨⟨i+1,by simp,by omega,Ap,PO.out⟩,by simp [intOf];omega⟩
     ·have ZM:¬(i:Int)<l.length:=by omega
      have hnot:q8 ∉ l.map (·.name):=by have:=G6.out;rwa [List.take_of_length_le (by omega)]at this
      obtain⟨e1,⟨s2,e2⟩,e3⟩:=Uq.out.2 hnot;subst e1;have hl2:r2.scopes.length=r.scopes.length+1:=by rw [e2];simp
      have HE2:=hid e2;have Av:w3.heap.size<wr.heap.size:=by have h1:=tV.out.size;have h2:=hb.size;omega
      have Cn:w7.heap.size<wr.heap.size:=by have h2:=hb.size;omega
      obtain⟨p0,p1,p2,p3,p4,p5,pz⟩:=BO (((tV.out.trans (hb.mono tV.out.size)).block _ hl4).trans HAT.out);obtain⟨q0,q1,q2,q3,q4,q5,qz⟩:=BO ((hb.block _ WV).trans Am.out);rw [e3]at q3 q4 q5;rw [hl2]at q2 ZF;have lg:=hid q2;have MG:=hid p2;have xk:=hid hb;have uz:=hid (tV.out.trans (hb.mono tV.out.size));have PS:(r.scopes.length:Int)+1=(r.scopes.length:Int)+1:=rfl;clear hnot e2 e3 hb hl2;go_wp2_with fail;go_loopw [11] (fun v11 wq=>∃k:Nat,v11= .int .i64 k∧k≤r.scopes.length∧Below wr.heap.size wr wq) (fun v11 _=>r.scopes.length - (intOf v11).toNat)
      case atStart=>exact⟨0,rfl,by omega,Below.refl _ _⟩
      case round=>
       obtain⟨k,rfl,hk,hbq⟩:=hrel;by_cases hkl:k<r.scopes.length
       ·have Tn:(k:Int)<r.scopes.length:=by omega
        have PX:(k:Int)<(r.scopes.length:Int)+1:=by omega
        have hk2:k<r2.scopes.length:=by rw [HE2.out,List.length_append];omega
        obtain⟨b1,o1,JI,c1',rfl,hb1,g1,hs1⟩:=Vs H4.out H5.out hkl;obtain⟨b2,o2,OM,c2',rfl,hb2,g2,hs2⟩:=Vs H6.out H7.out hk2;have he:r2.scopes[k]=r.scopes[k]:=by have h1:=HE2.out;simp only [h1];exact List.getElem_append_left hkl
        rw [he]at g2 hs2;have xu:=xk.out.trans (hbq.mono xk.out.size);have yt:=uz.out.trans (hbq.mono uz.out.size);have r9:Below w3.heap.size w3 wr:=N7.out.trans (yt.mono N7.out.size);have su:Below w7.heap.size w7 wr:=xg.out.trans (xu.mono xg.out.size);have PZ:=hid ((r9.cell (p:=⟨b1,o1+k,none⟩) hb1).trans g1);have T9:=hid ((su.cell (p:=⟨b2,o2+k,none⟩) hb2).trans g2);have G8:=hid ((hbq.cell (p:=⟨w3.heap.size,2,none⟩) Av).trans MG.out);have HG2:=hid ((hbq.cell (p:=⟨w7.heap.size,2,none⟩) Cn).trans lg.out);have y5:=Sl.more (hs1.below r9) r9.size;have y7:=Sl.more (hs2.below su) su.size;have hz1:=(cB hs1).2;have hz2:=(cB hs2).2;have W9:=hid (qb wr.drew _ _ _ y5 y7);have HS:=hid (bF wr 1:Below wr.heap.size wr (wr.drewN 1));have G9:=hid hbq;have hf2:=G8.out;clear xu yt r9 su g1 g2 hs1 hs2 y5 y7 he hk2 hbq;go_wp2_with fail;refine wp_region_held_drew (S:=fun w'=>Below wr.heap.size wr w') (by kernel_rfl) HS.out (fun _=> ?_)
        try simp only [Act.put,List.getElem_toArray,List.getElem_cons_zero,List.getElem_cons_succ,List.setIfInBounds_toArray,List.set_cons_zero,List.set_cons_succ]
        refine tk 0 (.pointer (some ⟨w3.heap.size,2,none⟩)) HS.out ?_;refine sZ 1 (.slice (some ⟨b1,o1,none⟩) r.scopes.length c3) (zl G8.out) HS.out ?_;refine tk 2 (.int .i64 k) HS.out ?_;refine tk 3 (.pointer (some ⟨b1,o1+k,none⟩)) HS.out ?_;refine sZ 4 (.slice JI r.scopes[k].length c1') (zl PZ.out) HS.out ?_;refine tk 5 (.pointer (some ⟨w7.heap.size,2,none⟩)) HS.out ?_;refine sZ 6 (.slice (some ⟨b2,o2,none⟩) (r.scopes.length+1) d3) (zl HG2.out) HS.out ?_;refine tk 7 (.int .i64 k) HS.out ?_;refine tk 8 (.pointer (some ⟨b2,o2+k,none⟩)) HS.out ?_;refine sZ 9 (.slice OM r.scopes[k].length c2') (zl T9.out) HS.out ?_;refine wpAnyH_ready (rs:=[10]) (by kernel_rfl) (by simp) ?_;refine AllReadyH.cons rfl (fun K hK=> ?_) AllReadyH.nil;go_simp;refine(W9.out).mono ?_;rintro e w9 ⟨rfl,Qu⟩;have wB:=hid (HS.out.trans Qu);have VW:=hid (G9.out.trans (wB.out.mono G9.out.size));refine hK.out _ _ wB.out (fun _=> ?_);clear hK K Qu
        try simp only [Act.put,List.getElem_toArray,List.getElem_cons_zero,List.getElem_cons_succ,List.setIfInBounds_toArray,List.set_cons_zero,List.set_cons_succ]
        refine tk 11 (.bool true) wB.out ?_;refine wpAnyH_done (by kernel_rfl) ?_ _;go_wp2_with fail;exact⟨⟨k+1,by simp,by omega,VW.out⟩,by simp [intOf];omega⟩
       ·have Tn:¬(k:Int)<r.scopes.length:=by omega
        obtain⟨p0,p1,p2,p3,p4,p5,pz⟩:=BO (((uz.out.trans (hbq.mono uz.out.size)).block _ hl4).trans HAT.out);have O6:=hid (Ug.out.trans (hbq.mono Ug.out.size));clear hbq;go_wp2_with fail;go_ret;exact⟨rfl,O6.out⟩
   ·have hbI:(0:Int)<bad.length:=by have:=List.length_pos_iff.2 hbd;omega
    clear hbd;go_wp2_with fail;go_ret;exact⟨rfl,HB3.out.trans ((Turn.alloc (fun _=>False) _ _).below HB3.out.size (fun _ _=>id))⟩
end Go.Proofs.YtmbppnbekkbibaaGreatDoor
