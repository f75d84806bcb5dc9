/- HR, XW -/
import Derived.Test.YtmbppnbekkbibaaGreatDoorPB18
import Derived.Test.YtmbppnbekkbibaaGreatDoorPB19
import Derived.Test.YtmbppnbekkbibaaGreatDoorPB03
import Derived.Test.YtmbppnbekkbibaaGreatDoorCards
import Derived.Test.YtmbppnbekkbibaaGreatDoorTie
import Derived.ProofKit
import Derived.OpenShut
import Derived.LaidMore
import Derived.LaidSub
import Derived.Stop.Joined
import Derived.Stop.LaidErr
import Derived.Lib.LaidTab
import Derived.Deep.DeepHandedRow
import Derived.Deep.DeepWitnessRowRef
set_option linter.unusedSimpArgs false
set_option linter.unusedVariables false
section
set_option linter.unusedVariables false
namespace Go.Proofs.YtmbppnbekkbibaaGreatDoor
open Go.RowKit
def wB (x:bD):tO:=⟨[],[⟨[],false,[],[],[],x,0,0⟩]⟩
theorem LQ {x y:bD} (h:oH x=oH y):uQ (wB x)=uQ (wB y):=by
 unfold wB uQ FT
 simp [h]
theorem Br (w:World) (B k:Nat):Sl w B k (.slice none 0 0) []:=⟨none,0,0,rfl,by simp,Nat.le_refl _,Nat.zero_le _,fun h=>absurd h (by simp)⟩
theorem GH (w:World) (x:bD) (v0 v1 v2 v3 v4 v5 v6 v7:Value) (hz:qH w w.heap.size [v0,v1,v2,v3,v4,v5,v6,v7] x):
  Bu (w.alloc (.cells #[.string ⟨#[]⟩, .bool false, .slice none 0 0, .string ⟨#[]⟩, .slice none 0 0,v0,v1,v2,v3,v4,v5,v6,v7, .int .i64 0, .int .i64 0] 51)) (w.alloc (.cells #[.string ⟨#[]⟩, .bool false, .slice none 0 0, .string ⟨#[]⟩, .slice none 0 0,v0,v1,v2,v3,v4,v5,v6,v7, .int .i64 0, .int .i64 0] 51)).heap.size
   [.slice none 0 0, .slice (some ⟨w.heap.size,0,none⟩) 1 1] (wB x):=by
 have hs:(w.alloc (.cells #[.string ⟨#[]⟩, .bool false, .slice none 0 0, .string ⟨#[]⟩, .slice none 0 0,v0,v1,v2,v3,v4,v5,v6,v7, .int .i64 0, .int .i64 0] 51)).heap.size=w.heap.size+1:=by simp
 have hsl:=fD w #[.string ⟨#[]⟩, .bool false, .slice none 0 0, .string ⟨#[]⟩, .slice none 0 0,v0,v1,v2,v3,v4,v5,v6,v7, .int .i64 0, .int .i64 0] 51 15 1 rfl (by decide)
 refine⟨_,[], _, _,rfl,Br _ _ _, .nil,by rw [hs];exact hsl, ?_⟩
 refine uV (by rfl) ⟨.slice none 0 0,[], .slice none 0 0,[],[v0,v1,v2,v3,v4,v5,v6,v7],rfl,Br _ _ _, .nil,Br _ _ _, .nil, ?_⟩
 exact hz.far (Nat.le_refl _) (new1 _ _)
theorem LU {s:Bt} {D:vQ} {X:bD} (h:(aZ (bg 100).expr s).2=D) (hx:pq (bg 100).expr s pE=X) (h0:D.2.2=0):(aZ (bg 100).expr s).1=some X:=by
 unfold pq at hx
 rcases hq:aZ (bg 100).expr s with⟨_ | a,d⟩
 ·rw [hq]at h
  rcases Fw (Sf.xA 100).2.1 hq with⟨h1,rfl⟩ | ⟨_, _,h1⟩
  ·exfalso
   apply h1
   have h:(dQ s).2=D:=h
   rw [h];exact h0
  ·have h:d=D:=h
   rw [h]at h1
   omega
 ·rw [hq]at hx
  have hx:a=X:=hx
  rw [hx]
set_option maxRecDepth 100000 in
set_option maxHeartbeats 8000000 in
theorem rF (a:ByteArray) (w:World) (ha:a.size≤281474976710656) (hX:jH w):Calls Tryz.prog 11 #[.string a] w fun e w'=>e= .returned (.bool true)∧Below w.heap.size w w':=by
 obtain⟨s,hs0,hsl⟩:∃s:Bt,Value.string a=sv s∧s.length≤281474976710656:=⟨a.data.toList,by show Value.string a=Value.string ⟨a.data.toList.toArray⟩;simp,by
  have e:a.data.toList.length=a.size:=Array.length_toList
  omega⟩
 rw [hs0]
 clear hs0 ha
 have hsz:=cu s
 have HX:=hid hX
 clear hX
 go_enter Tryz.func11,Tryz.ntmps11
 go_wp2_with fail
 refine(FH w HX.out).mono ?_
 rintro e w1 ⟨rfl,hb1⟩
 by_cases h2:(2000:Int)<s.length
 ·go_wp2_with fail
  go_ret
  exact⟨rfl,hb1⟩
 have hX1:=HX.out.below hb1
 have Yd:s.length≤2000:=by omega
 have HP:=hid (yB w1 s hX1)
 obtain⟨D,hD⟩:∃D,(aZ (bg 100).expr s).2=D:=⟨_,rfl⟩
 obtain⟨X,Ye⟩:∃X,pq (bg 100).expr s pE=X:=⟨_,rfl⟩
 rw [hD,Ye]at HP
 have HD:=hid hD
 have HXX:=hid Ye
 clear hD Ye
 go_wp2_with fail
 refine(HP.out).mono ?_
 rintro e w2 ⟨hb2,z,rfl,hz⟩
 obtain⟨kz,tz,nz,lz,cz,QN,QO,QS⟩:=X
 obtain⟨B1,n1,B2,n2,B3,n3, _, _,rfl, _⟩:=hz.all.parts
 obtain⟨m1,hm1⟩:∃m,QN.length=m:=⟨_,rfl⟩
 obtain⟨m2,hm2⟩:∃m,QO.length=m:=⟨_,rfl⟩
 obtain⟨m3,UE⟩:∃m,QS.length=m:=⟨_,rfl⟩
 rw [hm1,hm2,UE]at hz
 rw [hm1,hm2,UE]
 have hdv:tC D= .agg #[.int .i64 0, .int .i64 (D.1:Nat), .int .i64 (D.2.1:Nat), .int .i64 D.2.2]:=rfl
 rw [hdv]
 clear hm1 hm2 UE hdv
 obtain⟨W2,hW2⟩:∃W2,(w2.alloc (.cells #[.int .i64 kz,sv tz, .int .i64 nz, .int .i64 lz, .int .i64 cz, .slice B1 m1 n1, .slice B2 m2 n2, .slice B3 m3 n3] 49)).alloc (.cells #[.int .i64 0, .int .i64 (D.1:Nat), .int .i64 (D.2.1:Nat), .int .i64 D.2.2] 55)=W2:=⟨_,rfl⟩
 have hbw2:Below w2.heap.size w2 W2:=by rw [←hW2];exact new2 _ _ _
 obtain⟨_, _,hx2,hd2⟩:=fZ (G:=fun _=>False) (Turn.refl _ ((w2.alloc (.cells #[.int .i64 kz,sv tz, .int .i64 nz, .int .i64 lz, .int .i64 cz, .slice B1 m1 n1, .slice B2 m2 n2, .slice B3 m3 n3] 49)).alloc (.cells #[.int .i64 0, .int .i64 (D.1:Nat), .int .i64 (D.2.1:Nat), .int .i64 D.2.2] 55)))
 rw [hW2]at hx2 hd2
 have XU:W2.heap.size=w2.heap.size+2:=by rw [←hW2];simp
 have hs2:=hb2.size
 have hs1:=hb1.size
 have HB2:=hid (hb1.trans ((hb2.trans (hbw2.mono hs2)).mono hs1))
 have HN:=hid (hz.all.far (Nat.le_refl _) hbw2)
 have Me:=hid ((hX1.below hb2).below hbw2)
 have HXB:=hid (hx2 id)
 have hd2:=hd2 id
 have HW2:=hid hW2
 obtain⟨d0,d1,d2,d3,dz⟩:=bK hd2
 clear hX1 hb1 hb2 hbw2 hz hx2 hW2 h2
 by_cases h0:¬D.2.2=0
 ·have hd0:(D.2.2 != 0)=true:=by simp [h0]
  clear h0
  go_wp2_with fail
  go_ret
  exact⟨rfl,by rw [HW2.out];exact HB2.out⟩
 have h0:D.2.2=0:=by omega
 have hd0:(D.2.2 != 0)=false:=by simp [h0]
 have hso:=LU HD.out HXX.out h0
 have Yf:=hid (Bc Yd hso)
 have HSM:=hid (vN (by omega) hso)
 clear h0 hso
 obtain⟨s1,Ni⟩:∃s1,([40,10]:Bt)++s=s1:=⟨_,rfl⟩
 obtain⟨s2,Nj⟩:∃s2,s1++([10,41]:Bt)=s2:=⟨_,rfl⟩
 have l1:s1.length=2+s.length:=by rw [←Ni];simp;omega
 have l2:s2.length=s1.length+2:=by rw [←Nj];simp
 have HS2:Hid (40 :: 10 :: (s++[10,41])=s2):=hid (by rw [←Nj, ←Ni];rfl)
 have Cu:=hid (yB W2 s2 Me.out)
 obtain⟨E,hE⟩:∃E,(aZ (bg 100).expr s2).2=E:=⟨_,rfl⟩
 obtain⟨Y,hY⟩:∃Y,pq (bg 100).expr s2 pE=Y:=⟨_,rfl⟩
 rw [hE,hY]at Cu
 have HE:=hid hE
 have HY:=hid hY
 have H1:=hid Ni
 have H2:=hid Nj
 have hg1:(ByteArray.mk s1.toArray).size=s1.length:=cu s1
 clear hE hY Ni Nj
 go_wp2_with fail
 rw [HW2.out]
 rw [show(⟨#[40,10]⟩:ByteArray)=⟨([40,10]:Bt).toArray⟩from rfl,show(⟨#[10,41]⟩:ByteArray)=⟨([10,41]:Bt).toArray⟩from rfl]
 rw [iF [40,10] s,H1.out,iF s1 [10,41],H2.out]
 refine(Cu.out).mono ?_
 rintro e w3 ⟨hb3,z,rfl,hz⟩
 obtain⟨ky,ty,ny,ly,cy,Y9,Za,Zb⟩:=Y
 obtain⟨C1,p1,C2,p2,C3,p3, _, _,rfl, _⟩:=hz.all.parts
 obtain⟨q1,hq1⟩:∃m,Y9.length=m:=⟨_,rfl⟩
 obtain⟨q2,hq2⟩:∃m,Za.length=m:=⟨_,rfl⟩
 obtain⟨q3,hq3⟩:∃m,Zb.length=m:=⟨_,rfl⟩
 rw [hq1,hq2,hq3]at hz
 rw [hq1,hq2,hq3]
 have hdv:tC E= .agg #[.int .i64 0, .int .i64 (E.1:Nat), .int .i64 (E.2.1:Nat), .int .i64 E.2.2]:=rfl
 rw [hdv]
 clear hq1 hq2 hq3 hdv
 obtain⟨W3,hW3⟩:∃W3,(w3.alloc (.cells #[.int .i64 ky,sv ty, .int .i64 ny, .int .i64 ly, .int .i64 cy, .slice C1 q1 p1, .slice C2 q2 p2, .slice C3 q3 p3] 49)).alloc (.cells #[.int .i64 0, .int .i64 (E.1:Nat), .int .i64 (E.2.1:Nat), .int .i64 E.2.2] 55)=W3:=⟨_,rfl⟩
 have nU:Below w3.heap.size w3 W3:=by rw [←hW3];exact new2 _ _ _
 obtain⟨_, _,hx3,hd3⟩:=fZ (G:=fun _=>False) (Turn.refl _ ((w3.alloc (.cells #[.int .i64 ky,sv ty, .int .i64 ny, .int .i64 ly, .int .i64 cy, .slice C1 q1 p1, .slice C2 q2 p2, .slice C3 q3 p3] 49)).alloc (.cells #[.int .i64 0, .int .i64 (E.1:Nat), .int .i64 (E.2.1:Nat), .int .i64 E.2.2] 55)))
 rw [hW3]at hx3 hd3
 have XV:W3.heap.size=w3.heap.size+2:=by rw [←hW3];simp
 have hs3:=hb3.size
 have Bp:=hb3.trans (nU.mono hs3)
 have HB3:=hid (HB2.out.trans (Bp.mono (by have:=HB2.out.size;omega)))
 have AQ:=hid (HN.out.far (Nat.le_refl _) Bp)
 have Vx:=hid (hz.all.far (Nat.le_refl _) nU)
 have Yg:=hid ((Bp.block w2.heap.size (by omega)).trans HXB.out)
 have Yh:=hid ((hb3.block w2.heap.size (by omega)).trans HXB.out)
 have Uo:=hid (hx3 id)
 have HD3:=hid (hd3 id)
 have HW3:=hid hW3
 obtain⟨y0,y1,y2,y3,yz⟩:=bK (hd3 id)
 clear hb3 nU hz hx3 hd3 hW3 Bp d0 d1 d2 d3 dz hd2
 have Uq:=Yf.out
 rw [HS2.out]at Uq
 rcases Uq with⟨l,c,hq⟩ | hq
 ·have he:=HE.out
  rw [hq]at he
  have h6:(E.2.2==6)=true:=by rw [←he];rfl
  clear hq he
  go_wp2_with fail
  go_ret
  exact⟨rfl,by rw [HW3.out];exact HB3.out⟩
 ·have he:=HE.out
  have hy:=HY.out
  unfold pq at hy
  rw [hq]at he hy
  have hy:yV 1 (.mk kz tz nz lz cz QN QO QS)= .mk ky ty ny ly cy Y9 Za Zb:=hy
  obtain⟨Ur,Us,Ut⟩:=HSM.out
  have Rh:=hid (LQ (Gq 1 (.mk kz tz nz lz cz QN QO QS)))
  rw [hy]at Rh
  have hcy:=(vN (s:=s2) (by omega) (by rw [hq,hy])).1
  rw [yV]at hy
  injection hy with e1 e2 e3 e4 e5 e6 e7 e8
  have h6:(E.2.2==6)=false:=by rw [←he];rfl
  have h19:(E.2.2==19)=false:=by rw [←he];rfl
  have h00:(E.2.2==0)=true:=by rw [←he];rfl
  have hlz:0≤lz∧lz≤2001:=⟨Us,by have h:lz≤(s.length:Int)+1:=Ut;omega⟩
  have U7:ly=lz+1:=e4.symm
  have Uu:cy=cz:=e5.symm
  have HC1:=hid Ur
  have OQ:=hid hcy
  have HLZ:=hid hlz
  have HLY:=hid U7
  have HCY:=hid Uu
  have FM:=GH W3 _ _ _ _ _ _ _ _ _ AQ.out
  obtain⟨W4,DW⟩:∃W4,W3.alloc (.cells #[.string ⟨#[]⟩, .bool false, .slice none 0 0, .string ⟨#[]⟩, .slice none 0 0, .int .i64 kz,sv tz, .int .i64 nz, .int .i64 lz, .int .i64 cz, .slice B1 m1 n1, .slice B2 m2 n2, .slice B3 m3 n3, .int .i64 0, .int .i64 0] 51)=W4:=⟨_,rfl⟩
  have hb4:Below W3.heap.size W3 W4:=by rw [←DW];exact new1 _ _
  rw [DW,show W3.heap.size=w3.heap.size+1+1 by omega]at FM
  have hs4:W4.heap.size=W3.heap.size+1:=by rw [←DW];simp
  have HR1:=hid (yQ _ W4 _ FM (by simp [wB]) (by simp [wB]) (fun d hd=>by
   obtain rfl:d= _:=List.mem_singleton.1 hd
   exact Nat.le_trans HC1.out (by omega)))
  have o9:=hid hb4
  have Rn:=hid DW
  obtain⟨x0,x1,x2,x3,x4,x5,x6,x7,xz⟩:=aN Yh.out
  have hxl:w2.heap.size<w3.heap.size:=by omega
  clear FM hb4 DW hq he e1 e2 e3 e4 e5 e6 e7 e8 Ur Us Ut hcy hlz U7 Uu
  go_wp2_with fail
  rw [HW3.out,Rn.out]
  refine(HR1.out).mono ?_
  rintro e w4 ⟨z1,rfl,hm1,hb4⟩
  obtain⟨P1,i1,P2,i2, _, _,rfl, _⟩:=hm1.parts
  obtain⟨u1,hu1⟩:∃m,(uQ (wB (.mk kz tz nz lz cz QN QO QS))).imps.length=m:=⟨_,rfl⟩
  obtain⟨u2,hu2⟩:∃m,(uQ (wB (.mk kz tz nz lz cz QN QO QS))).decls.length=m:=⟨_,rfl⟩
  rw [hu1,hu2]at hm1
  rw [hu1,hu2]
  clear hu1 hu2
  have hs5:=hb4.size
  obtain⟨W5,Uv⟩:∃W5,w4.alloc (.cells #[.slice P1 u1 i1, .slice P2 u2 i2] 40)=W5:=⟨_,rfl⟩
  have hb5:Below w4.heap.size w4 W5:=by rw [←Uv];exact new1 _ _
  have QT:=yT w4 (.cells #[.slice P1 u1 i1, .slice P2 u2 i2] 40)
  rw [Uv]at QT
  have abM:W5.heap.size=w4.heap.size+1:=by rw [←Uv];simp
  have QU:=(o9.out.trans ((hb4.trans (hb5.mono hs5)).mono o9.out.size))
  have nk:=hid QU
  have HM5:=hid (Vx.out.far (Nat.le_refl _) QU)
  have Yi:=hid (hm1.far (Nat.le_refl _) hb5)
  have Yj:=hid QT
  have HW5:=hid Uv
  have FM:=GH W5 _ _ _ _ _ _ _ _ _ HM5.out
  obtain⟨W6,Gg⟩:∃W6,W5.alloc (.cells #[.string ⟨#[]⟩, .bool false, .slice none 0 0, .string ⟨#[]⟩, .slice none 0 0, .int .i64 ky,sv ty, .int .i64 ny, .int .i64 ly, .int .i64 cy, .slice C1 q1 p1, .slice C2 q2 p2, .slice C3 q3 p3, .int .i64 0, .int .i64 0] 51)=W6:=⟨_,rfl⟩
  have hb6:Below W5.heap.size W5 W6:=by rw [←Gg];exact new1 _ _
  rw [Gg,show W5.heap.size=w4.heap.size+1 by omega]at FM
  have hs6:W6.heap.size=W5.heap.size+1:=by rw [←Gg];simp
  have HR2:=hid (yQ _ W6 _ FM (by simp [wB]) (by simp [wB]) (fun d hd=>by
   obtain rfl:d= _:=List.mem_singleton.1 hd
   exact Nat.le_trans OQ.out (by omega)))
  have Rf:=hid hb6
  have Sy:=hid Gg
  obtain⟨g0,g1,g2,g3,g4,g5,g6,g7,gz⟩:=aN (((o9.out.trans (hb4.mono o9.out.size)).block w3.heap.size (by omega)).trans Uo.out)
  have abP:w3.heap.size<w4.heap.size:=by omega
  clear FM hb4 hb5 hb6 Uv Gg QT hm1 QU x0 x1 x2 x3 x4 x5 x6 x7 xz
  go_wp2_with fail
  rw [HW5.out,Sy.out]
  refine(HR2.out).mono ?_
  rintro e w6 ⟨z2,rfl,hm2,hb6⟩
  rw [Rh.out]at hm2
  obtain⟨Q1,j1,Q2,j2, _, _,rfl, _⟩:=hm2.parts
  obtain⟨v1,hv1⟩:∃m,(uQ (wB (.mk kz tz nz lz cz QN QO QS))).imps.length=m:=⟨_,rfl⟩
  obtain⟨v2,hv2⟩:∃m,(uQ (wB (.mk kz tz nz lz cz QN QO QS))).decls.length=m:=⟨_,rfl⟩
  rw [hv1,hv2]at hm2
  rw [hv1,hv2]
  clear hv1 hv2
  have hs7:=hb6.size
  obtain⟨W7,U8⟩:∃W7,w6.alloc (.cells #[.slice Q1 v1 j1, .slice Q2 v2 j2] 40)=W7:=⟨_,rfl⟩
  have gI:Below w6.heap.size w6 W7:=by rw [←U8];exact new1 _ _
  have abQ:W7.heap.size=w6.heap.size+1:=by rw [←U8];simp
  have QV:=Rf.out.trans (hb6.mono Rf.out.size)
  have QW:=QV.trans (gI.mono (by omega))
  have Zc:=DL _ W7 _ _ (Yi.out.far (Nat.le_refl _) QW) (hm2.far (Nat.le_refl _) gI)
  have HS:=hid Zc
  have tK:=hid (nk.out.trans (QW.mono nk.out.size))
  have HW7:=hid U8
  obtain⟨c10,c11⟩:=jf ((QV.block w4.heap.size (by omega)).trans Yj.out)
  have abS:w4.heap.size<w6.heap.size:=by omega
  clear Zc hb6 gI QV QW U8 hm2 g0 g1 g2 g3 g4 g5 g6 g7 gz y0 y1 y2 y3 yz
  go_wp2_with fail
  rw [HW7.out]
  refine(HS.out).mono ?_
  rintro e w7 ⟨rfl,gI⟩
  have hbe:=tK.out.trans (gI.mono tK.out.size)
  have HBE:=hid (HB3.out.trans (hbe.mono HB3.out.size))
  obtain⟨x0,x1,x2,x3,x4,x5,x6,x7,xz⟩:=aN ((hbe.block w2.heap.size (by omega)).trans Yg.out)
  obtain⟨g0,g1,g2,g3,g4,g5,g6,g7,gz⟩:=aN ((hbe.block w3.heap.size (by omega)).trans Uo.out)
  obtain⟨y0,y1,y2,y3,yz⟩:=bK ((hbe.block (w3.heap.size+1) (by omega)).trans HD3.out)
  have hwr:wrap64 (lz+1)=lz+1:=by have:=HLZ.out;unfold wrap64;omega
  have U7:=HLY.out
  have hcy:=HCY.out
  subst U7 hcy
  clear c10 c11 gI hbe
  go_wp2_with fail
  go_ret
  exact⟨rfl,HBE.out⟩
end Go.Proofs.YtmbppnbekkbibaaGreatDoor
end
section
set_option linter.unusedVariables false
namespace Go.Proofs.YtmbppnbekkbibaaGreatDoor
open Go.ChangeShapes Go.WideShapes Go.ChangeAt Go.RowKit
theorem own:ownKnob Tryz.prog.godebug=none:=by kernel_rfl
theorem GI: "*" ++ "errors.errorString" = "*errors.errorString" :=by decide
theorem LV (u:TypeId) (h:Tryz.prog.typeName? 3 u=some "*errors.errorString"):u=298:=
 typeName_ptr_named (nm:= "errors.errorString") (by rw [GI];kernel_rfl) (by kernel_rfl) (by decide) u (by rw [GI];exact h)
theorem Jm {l:List (String ×DataW Unit)} {W:World} (hp:(l.all fun x=>x.2.handleName?.isNone)=true)
  (h1:(l.filter fun x=>x.1== "internal/strconv.uint64pow10")=[("internal/strconv.uint64pow10",Lib.tabData .u64 Lib.pow10Tab)])
  (h2:(l.filter fun x=>x.1== "strconv.ErrSyntax")=[("strconv.ErrSyntax",Rows.laid_strconv_ErrSyntax)])
  (h3:(l.filter fun x=>x.1== "strconv.ErrRange")=[("strconv.ErrRange",Rows.laid_strconv_ErrRange)])
  (h:laidMetH Tryz.prog l W):lY W:=by
 have g1:=laidMetH.filter (fun x=>x.1== "internal/strconv.uint64pow10") h
 have g2:=laidMetH.filter (fun x=>x.1== "strconv.ErrSyntax") h
 have g3:=laidMetH.filter (fun x=>x.1== "strconv.ErrRange") h
 rw [h1]at g1
 rw [h2]at g2
 rw [h3]at g3
 rw [MakeChecks.laidMetH_plain _ _ _ (by kernel_rfl)]at g1
 rw [MakeChecks.laidMetH_plain _ _ _ (by kernel_rfl)]at g2
 rw [MakeChecks.laidMetH_plain _ _ _ (by kernel_rfl)]at g3
 obtain⟨a2, _,e2, _⟩:=laid_sentinel g2 (g:=3) (by kernel_rfl) (by kernel_rfl) Tryz.underlying205 LV Tryz.underlying298 Tryz.underlying300 rfl rfl Tryz.underlying9 (by kernel_rfl) (by kernel_rfl)
 obtain⟨a3, _,e3, _⟩:=laid_sentinel g3 (g:=4) (by kernel_rfl) (by kernel_rfl) Tryz.underlying205 LV Tryz.underlying298 Tryz.underlying300 rfl rfl Tryz.underlying9 (by kernel_rfl) (by kernel_rfl)
 refine⟨?_,⟨_, _,e2⟩,⟨_, _,e3⟩⟩
 exact Lib.tabIs_of_head (g:=5) (by kernel_rfl) (by kernel_rfl) Tryz.underlying303 Tryz.underlying219 (by kernel_rfl) (by kernel_rfl) g1
theorem Jo {l:List (String ×DataW Unit)} {W:World}
  (h1:(l.filter fun x=>x.1== "strings.asciiSpace")=[("strings.asciiSpace",Lib.tabData .u8 Lib.asciiSpaceTab)])
  (h:laidMetH Tryz.prog l W):Lib.TabIs Tryz.prog W "strings.asciiSpace" .u8 Lib.asciiSpaceTab:=by
 have g1:=laidMetH.filter (fun x=>x.1== "strings.asciiSpace") h
 rw [h1]at g1
 rw [MakeChecks.laidMetH_plain _ _ _ (by kernel_rfl)]at g1
 exact Lib.tabIs_of_head (g:=0) (by kernel_rfl) (by kernel_rfl) Tryz.underlying217 Tryz.underlying5 (by kernel_rfl) (by kernel_rfl) g1
end Go.Proofs.YtmbppnbekkbibaaGreatDoor
end
