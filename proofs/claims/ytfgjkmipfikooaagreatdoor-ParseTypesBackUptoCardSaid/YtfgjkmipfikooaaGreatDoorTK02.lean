/- GD, YA, RA, RB, YB, ZF -/
import Derived.Test.YtfgjkmipfikooaaGreatDoorTK01
import Derived.Test.YtfgjkmipfikooaaGreatDoorProg
import Derived.Deep.Slices
import Derived.Lib.SmallJoins
set_option linter.unusedSimpArgs false
set_option linter.unusedVariables false
namespace Go.Proofs.YtfgjkmipfikooaaGreatDoor
open Go.RowKit
section
inductive aZ where
 | mk (kind:Int) (name:Bt) (names:List Bt) (kids:List aZ):aZ
inductive bR where
 | mk (kind:Int) (text:Bt) (n line col:Int) (types:List aZ) (names:List Bt) (kids:List bR):bR
def aZ.kind:aZ→Int | .mk k _ _ _=>k
def aZ.name:aZ→Bt | .mk _ n _ _=>n
def aZ.names:aZ→List Bt | .mk _ _ n _=>n
def aZ.kids:aZ→List aZ | .mk _ _ _ k=>k
def dI (k:Int) (nm:Bt) (ns ks:Nat):Bool:=
 if k=8 then ns+ks==0 && bY nm
 else if nm≠[]∨k<0∨7<k then false
 else if k=5 then ns==ks
 else if k=6 then ns==0 && ks==2
 else if k=7 then ns==0 && decide (2≤ks)
 else ns+ks==0
def aH:Nat→aZ→Bool
 | 0, _=>false
 | m+1, .mk k nm ns ks=>ns.all bY && ks.all (aH m) && dI k nm ns.length ks.length
def jd (sep:Bt):List Bt→Bt
 | []=>[]
 | [x]=>x
 | x :: y :: l=>x++(sep++jd sep (y :: l))
def gK (kinds:List Int) (k:Int) (s:Bt):Bt:=if kinds.contains k then [40]++(s++[41])else s
def gu (n s:Bt):Bt:=n++([58,32]++s)
mutual
def bV:aZ→Bt
 | .mk k nm ns ks=>
  if k=0 then [97,110,121]
  else if k=1 then [110,117,108,108]
  else if k=2 then [98,111,111,108]
  else if k=3 then [105,110,116]
  else if k=4 then [115,116,114]
  else if k=5 then [123]++(jd [44,32] (List.zipWith gu ns (dB ks))++[125])
  else if k=6 then gK [6] ((ks.map aZ.kind).getD 0 0) ((dB ks).getD 0 [])++([32,45,62,32]++(dB ks).getD 1 [])
  else if k=7 then jd [32,124,32] (List.zipWith (gK [6,7]) (ks.map aZ.kind) (dB ks))
  else nm
def dB:List aZ→List Bt
 | []=>[]
 | t :: l=>bV t :: dB l
end
theorem lM:∀l:List aZ,dB l=l.map bV
 | []=>by simp [dB]
 | t :: l=>by simp [dB,lM l]
def lN (t:aZ):Bt:=if aH 16 t then bV t else []
def vJ (l:List aZ) (i:Nat):Bt:=match l[i]? with | some t=>[58,32]++bV t | none=>[]
structure NG where
 name:Bool
 low:Nat
 types:Nat
 kids:Int
 most:Int
def dH (k:Int):NG:=
 if k=0 then⟨false,0,0,0,9223372036854775807⟩
 else if k=2 then⟨false,0,0,0,1⟩
 else if k=4 then⟨true,0,0,0,0⟩
 else if k=5 then⟨true,0,1,2,0⟩
 else if k=6 then⟨true,1,2,1,0⟩
 else if k=7 then⟨false,0,0,2,0⟩
 else if k=8 then⟨false,0,0, -1,0⟩
 else if k=9 then⟨true,0,0,1,0⟩
 else if k=10 then⟨true,0,0,2,0⟩
 else if k=11 then⟨false,0,0,3,0⟩
 else if k=12 then⟨false,0,0,1,5⟩
 else if k=13 then⟨false,1,1,1,0⟩
 else if k=14 then⟨false,0,0,2,0⟩
 else if k=15∨k=16∨k=17 then⟨false,0,0,1,0⟩
 else if k=19 then⟨true,1,1048576,0,0⟩
 else⟨false,0,0,0,0⟩
def opsL:List Bt:=[[111,114],[97,110,100],[60],[60,61],[61,61],[43,43],[43],[45],[94],[42],[47],[37],[38],[60,60],[62,62]]
def zO (s:Bt):Bool:=decide (s.length≤256) && s.all (fun c=> !(decide (c<32) && c != 9 && c != 10))
def nA (k:Int) (s:Bt) (named:Bool):Bool:=
 if named then bY s else if k=1 then zO s else if k=14 then opsL.contains s else s==[]
def Bu (k:Int) (text:Bt) (n:Int) (types names kids:Nat):Bool:=
 decide (0≤n∧n≤(dH k).most) && nA k text (dH k).name && decide ((dH k).low≤types∧types≤(dH k).types) &&
  (if(dH k).kids<0 then kids==names else names==0 && (kids:Int)==(dH k).kids)
def dD:Nat→bR→Bool
 | 0, _=>false
 | m+1, .mk k text n _ _ types names kids=>
  decide (0≤k∧k<20) && Bu k text n types.length names.length kids.length && names.all bY && types.all (aH 16) && kids.all (dD m)
def qN:List Bt:=[[110,117,108,108],[98,111,111,108],[105,110,116],[115,116,114],[114,101,99,111,114,100],[102,117,110,99,116,105,111,110]]
def cat (l:List Bt):Bt:=l.flatMap id
def sM (k:Int) (text:Bt) (n:Int) (types:List aZ):Bt:=
 if k=0 then Lib.itoa n
 else if k=1 then Br text
 else if k=2 then(if n=0 then [102,97,108,115,101]else [116,114,117,101])
 else if k=3 then [110,117,108,108]
 else if k=18 then [114,101,97,100,40,41]
 else if k=19 then cat [text,[91],jd [44,32] (types.map bV),[93]]
 else text
def Aj (k:Int) (text:Bt) (n:Int) (types:List aZ) (names:List Bt) (s:List Bt):Bt:=
 if k=7 then cat [s.getD 0 [],[40],s.getD 1 [],[41]]
 else if k=9 then cat [s.getD 0 [],[46],text]
 else if k=10 then cat [[123],s.getD 0 [],[32,119,105,116,104,32],text,[58,32],s.getD 1 [],[125]]
 else if k=8 then cat [[123],jd [44,32] (List.zipWith gu names s),[125]]
 else if k=17 then cat [[112,114,105,110,116,40],s.getD 0 [],[41]]
 else if k=5 then cat [[40],[108,101,116,32],text,vJ types 0,[32,61,32],s.getD 0 [],[59,32],s.getD 1 [],[41]]
 else if k=6 then cat [[40],[102,110,32,40],text,vJ types 0,[41],vJ types 1,[32,61,62,32],s.getD 0 [],[41]]
 else if k=11 then cat [[40],[105,102,32],s.getD 0 [],[32,116,104,101,110,32],s.getD 1 [],[32,101,108,115,101,32],s.getD 2 [],[41]]
 else if k=12 then cat [[40],s.getD 0 [],[32,105,115,32],qN.getD n.toNat [],[41]]
 else if k=13 then cat [[40],s.getD 0 [],[32,97,115,32],(types.map bV).getD 0 [],[41]]
 else if k=14 then cat [[40],s.getD 0 [],[32],text,[32],s.getD 1 [],[41]]
 else if k=15 then cat [[40],[110,111,116,32],s.getD 0 [],[41]]
 else if k=16 then cat [[40],[45],s.getD 0 [],[41]]
 else sM k text n types
mutual
def nC:bR→Bt
 | .mk k text n _ _ types names kids=>Aj k text n types names (kM kids)
def kM:List bR→List Bt
 | []=>[]
 | x :: l=>nC x :: kM l
end
theorem nW:∀l:List bR,kM l=l.map nC
 | []=>by simp [kM]
 | t :: l=>by simp [kM,nW l]
def Aq (x:bR):Bt:=if dD 25 x then nC x else []
theorem fM {w:World} {B k:Nat} {v:Value} {xs:List Value} (h:Sl w B k v xs):∃A n c,v= .slice A n c:=by
 obtain⟨A,n,c,hv, _⟩:=h;exact⟨A,n,c,hv⟩
theorem cu {w:World} {B k:Nat} {A:Option Addr} {n c:Nat} {xs:List Value} (h:Sl w B k (.slice A n c) xs):xs.length=n*k∧n≤c∧c≤2 ^ 63 - 1:=by
 obtain⟨A',n',c',hv,hl,hn,hc, _⟩:=h;injection hv with e1 e2 e3;subst e1 e2 e3;unfold maxLen at hc;exact⟨hl,hn,hc⟩
theorem dS {w:World} {B k m:Nat} {v:Value} {xs:List Value} (h:Sl w B k v xs) (hk:0<k) (hm:xs.length=m*k):∃A c,v= .slice A m c:=by
 obtain⟨A,n,c,rfl⟩:=fM h;have:=(cu h).1;rw [hm]at this;obtain rfl:m=n:=Nat.eq_of_mul_eq_mul_right hk this;exact⟨A,c,rfl⟩
theorem wT {w:World} {B k:Nat} {xs:List Value} {A:Option Addr} {n c:Nat} (h:Sl w B k (.slice A n c) xs) {i:Nat} (hi:i<n) (hk:0<k):
  ∃b off,A=some ⟨b,off,none⟩∧b<B∧∀(j:Nat) u,xs[i*k+j]? =some u→w.cell? ⟨b,off+(i*k+j),none⟩=some u:=by
 obtain⟨A',n',c',hv',hl,hn,hc,hx⟩:=h;injection hv' with e1 e2 e3;subst e1 e2 e3;obtain⟨b,off,hA,hbb,hcell⟩:=hx (by omega);exact⟨b,off,hA,hbb,fun j u hu=>hcell _ u hu⟩
mutual
inductive nX (w:World) (B:Nat):List Value→aZ→Prop
 | mk {k:Int} {nm:Bt} {vn vk:Value} {ns:List Bt} {ks:List aZ} {xk:List Value}:Ss w B vn ns→Sl w B 4 vk xk→iJ w B xk ks→nX w B [.int .i64 k,sv nm,vn,vk] (.mk k nm ns ks)
inductive iJ (w:World) (B:Nat):List Value→List aZ→Prop
 | nil:iJ w B [] []
 | cons {x y:List Value} {c:aZ} {l:List aZ}:nX w B x c→iJ w B y l→iJ w B (x++y) (c :: l)
end
mutual
inductive rA (w:World) (B:Nat):List Value→bR→Prop
 | mk {k n line col:Int} {text:Bt} {vt vn vk:Value} {ts:List aZ} {xt:List Value} {ns:List Bt} {ks:List bR} {xk:List Value}:Sl w B 4 vt xt→iJ w B xt ts→Ss w B vn ns→Sl w B 8 vk xk→kV w B xk ks→
   rA w B [.int .i64 k,sv text, .int .i64 n, .int .i64 line, .int .i64 col,vt,vn,vk] (.mk k text n line col ts ns ks)
inductive kV (w:World) (B:Nat):List Value→List bR→Prop
 | nil:kV w B [] []
 | cons {x y:List Value} {c:bR} {l:List bR}:rA w B x c→kV w B y l→kV w B (x++y) (c :: l)
end
mutual
theorem nX.keep {w w':World} {B:Nat} {x:List Value} {c:aZ} (h:nX w B x c) (hb:Below B w w'):nX w' B x c:=
 match h with
 | .mk h1 h2 h3=> .mk (Sl.below h1 hb) (h2.below hb) (h3.keep hb)
theorem iJ.keep {w w':World} {B:Nat} {x:List Value} {l:List aZ} (h:iJ w B x l) (hb:Below B w w'):iJ w' B x l:=
 match h with
 | .nil=> .nil
 | .cons h1 h2=> .cons (h1.keep hb) (h2.keep hb)
end
mutual
theorem nX.more {w:World} {B B':Nat} {x:List Value} {c:aZ} (h:nX w B x c) (hb:B≤B'):nX w B' x c:=
 match h with
 | .mk h1 h2 h3=> .mk (Sl.more h1 hb) (h2.more hb) (h3.more hb)
theorem iJ.more {w:World} {B B':Nat} {x:List Value} {l:List aZ} (h:iJ w B x l) (hb:B≤B'):iJ w B' x l:=
 match h with
 | .nil=> .nil
 | .cons h1 h2=> .cons (h1.more hb) (h2.more hb)
end
theorem nX.far {W w':World} {B:Nat} {x:List Value} {c:aZ} (h:nX W B x c) (hB:B≤W.heap.size) (hb:Below W.heap.size W w'):nX w' w'.heap.size x c:=
 (h.keep (hb.mono hB)).more (Nat.le_trans hB hb.size)
theorem iJ.far {W w':World} {B:Nat} {x:List Value} {c:List aZ} (h:iJ W B x c) (hB:B≤W.heap.size) (hb:Below W.heap.size W w'):iJ w' w'.heap.size x c:=
 (h.keep (hb.mono hB)).more (Nat.le_trans hB hb.size)
theorem nX.len {w:World} {B:Nat} {x:List Value} {c:aZ} (h:nX w B x c):x.length=4:=by
 cases h;rfl
theorem iJ.length {w:World} {B:Nat}:∀ {x:List Value} {l:List aZ},iJ w B x l→x.length=l.length*4
 | _, _, .nil=>rfl
 | _, _, .cons h1 h2=>by
  have:=h1.len;have:=iJ.length h2;rw [List.length_append,List.length_cons];omega
theorem iJ.at {w:World} {B:Nat}:∀ {x:List Value} {l:List aZ},iJ w B x l→∀(i:Nat) (hi:i<l.length),nX w B ((x.drop (i*4)).take 4) l[i]
 | _, _, .nil,i,hi=>by simp at hi
 | _, _, .cons (x:=x) (y:=y) h1 h2,i,hi=>by
  have h5:=h1.len;rcases i with _ | i
  ·rw [Nat.zero_mul,List.drop_zero, ←h5,List.take_left];exact h1
  ·have:(x++y).drop ((i+1)*4)=y.drop (i*4):=by
    rw [show(i+1)*4=x.length+i*4 by omega, ←List.drop_drop,List.drop_left]
   rw [this];exact iJ.at h2 i (by simpa using hi)
mutual
theorem rA.keep {w w':World} {B:Nat} {x:List Value} {c:bR} (h:rA w B x c) (hb:Below B w w'):rA w' B x c:=
 match h with
 | .mk h1 h2 h3 h4 h5=> .mk (h1.below hb) (h2.keep hb) (Sl.below h3 hb) (h4.below hb) (h5.keep hb)
theorem kV.keep {w w':World} {B:Nat} {x:List Value} {l:List bR} (h:kV w B x l) (hb:Below B w w'):kV w' B x l:=
 match h with
 | .nil=> .nil
 | .cons h1 h2=> .cons (h1.keep hb) (h2.keep hb)
end
mutual
theorem rA.more {w:World} {B B':Nat} {x:List Value} {c:bR} (h:rA w B x c) (hb:B≤B'):rA w B' x c:=
 match h with
 | .mk h1 h2 h3 h4 h5=> .mk (h1.more hb) (h2.more hb) (Sl.more h3 hb) (h4.more hb) (h5.more hb)
theorem kV.more {w:World} {B B':Nat} {x:List Value} {l:List bR} (h:kV w B x l) (hb:B≤B'):kV w B' x l:=
 match h with
 | .nil=> .nil
 | .cons h1 h2=> .cons (h1.more hb) (h2.more hb)
end
theorem rA.far {W w':World} {B:Nat} {x:List Value} {c:bR} (h:rA W B x c) (hB:B≤W.heap.size) (hb:Below W.heap.size W w'):rA w' w'.heap.size x c:=
 (h.keep (hb.mono hB)).more (Nat.le_trans hB hb.size)
theorem kV.far {W w':World} {B:Nat} {x:List Value} {c:List bR} (h:kV W B x c) (hB:B≤W.heap.size) (hb:Below W.heap.size W w'):kV w' w'.heap.size x c:=
 (h.keep (hb.mono hB)).more (Nat.le_trans hB hb.size)
theorem rA.len {w:World} {B:Nat} {x:List Value} {c:bR} (h:rA w B x c):x.length=8:=by
 cases h;rfl
theorem kV.length {w:World} {B:Nat}:∀ {x:List Value} {l:List bR},kV w B x l→x.length=l.length*8
 | _, _, .nil=>rfl
 | _, _, .cons h1 h2=>by
  have:=h1.len;have:=kV.length h2;rw [List.length_append,List.length_cons];omega
theorem kV.at {w:World} {B:Nat}:∀ {x:List Value} {l:List bR},kV w B x l→∀(i:Nat) (hi:i<l.length),rA w B ((x.drop (i*8)).take 8) l[i]
 | _, _, .nil,i,hi=>by simp at hi
 | _, _, .cons (x:=x) (y:=y) h1 h2,i,hi=>by
  have h5:=h1.len;rcases i with _ | i
  ·rw [Nat.zero_mul,List.drop_zero, ←h5,List.take_left];exact h1
  ·have:(x++y).drop ((i+1)*8)=y.drop (i*8):=by
    rw [show(i+1)*8=x.length+i*8 by omega, ←List.drop_drop,List.drop_left]
   rw [this];exact kV.at h2 i (by simpa using hi)
theorem nX.parts {w:World} {B:Nat} {x:List Value} {k:Int} {nm:Bt} {ns:List Bt} {ks:List aZ} (h:nX w B x (.mk k nm ns ks)):
  ∃A1 c1 A2 c2 xk,x=[.int .i64 k,sv nm, .slice A1 ns.length c1, .slice A2 ks.length c2]∧Ss w B (.slice A1 ns.length c1) ns∧Sl w B 4 (.slice A2 ks.length c2) xk∧iJ w B xk ks:=by
 cases h with
 | mk h1 h2 h3=>
  obtain⟨A1,c1,rfl⟩:=dS h1 (by omega) (m:=ns.length) (by rw [dR];omega);obtain⟨A2,c2,rfl⟩:=dS h2 (by omega) (m:=ks.length) h3.length;exact⟨A1,c1,A2,c2, _,rfl,h1,h2,h3⟩
theorem rA.parts {w:World} {B:Nat} {x:List Value} {k n line col:Int} {text:Bt} {ts:List aZ} {ns:List Bt} {ks:List bR} (h:rA w B x (.mk k text n line col ts ns ks)):
  ∃A1 c1 A2 c2 A3 c3 xt xk,x=[.int .i64 k,sv text, .int .i64 n, .int .i64 line, .int .i64 col, .slice A1 ts.length c1, .slice A2 ns.length c2, .slice A3 ks.length c3]∧Sl w B 4 (.slice A1 ts.length c1) xt∧iJ w B xt ts∧Ss w B (.slice A2 ns.length c2) ns∧Sl w B 8 (.slice A3 ks.length c3) xk∧kV w B xk ks:=by
 cases h with
 | mk h1 YJ h2 h3 YK=>
  obtain⟨A1,c1,rfl⟩:=dS h1 (by omega) (m:=ts.length) YJ.length;obtain⟨A2,c2,rfl⟩:=dS h2 (by omega) (m:=ns.length) (by rw [dR];omega);obtain⟨A3,c3,rfl⟩:=dS h3 (by omega) (m:=ks.length) YK.length;exact⟨A1,c1,A2,c2,A3,c3, _, _,rfl,h1,YJ,h2,h3,YK⟩
theorem nX.shape {w:World} {B:Nat} {x:List Value} {c:aZ} (h:nX w B x c):∃k s A1 n1 c1 A2 n2 c2,x=[.int .i64 k, .string s, .slice A1 n1 c1, .slice A2 n2 c2]:=by
 cases h with
 | mk h1 h2 _=>
  obtain⟨A1,n1,c1,rfl⟩:=fM h1;obtain⟨A2,n2,c2,rfl⟩:=fM h2;exact⟨_, _, _, _, _, _, _, _,rfl⟩
theorem rA.shape {w:World} {B:Nat} {x:List Value} {c:bR} (h:rA w B x c):∃k s n l o A1 n1 c1 A2 n2 c2 A3 n3 c3,x=[.int .i64 k, .string s, .int .i64 n, .int .i64 l, .int .i64 o, .slice A1 n1 c1, .slice A2 n2 c2, .slice A3 n3 c3]:=by
 cases h with
 | mk h1 _ h2 h3 _=>
  obtain⟨A1,n1,c1,rfl⟩:=fM h1;obtain⟨A2,n2,c2,rfl⟩:=fM h2;obtain⟨A3,n3,c3,rfl⟩:=fM h3;exact⟨_, _, _, _, _, _, _, _, _, _, _, _, _, _,rfl⟩
theorem iX {xs ys:List Value} {n m:Nat} (h:(xs.drop n).take m=ys) {j:Nat} (hj:j<m):xs[n+j]? =ys[j]? :=by
 rw [←h,List.getElem?_take,if_pos hj,List.getElem?_drop]
theorem rC {W w':World} {b i:Nat} {v:Value} (h:Below W.heap.size W w') (d:W.cell? ⟨b,i,none⟩=some v) (hb:b<W.heap.size):w'.cell? ⟨b,i,none⟩=some v:=
 (h.cell (p:=⟨b,i,none⟩) hb).trans d
open Go.ChangeShapes Go.WideShapes Go.ChangeAt Go.RowKit
inductive dh {α:Type} (R:List Value→α→Prop) (k:Nat):List Value→List α→Prop
 | nil:dh R k [] []
 | cons {x y:List Value} {c:α} {l:List α}:x.length=k→R x c→dh R k y l→dh R k (x++y) (c :: l)
theorem dh.snoc {α:Type} {R:List Value→α→Prop} {k:Nat} {z:List Value} {c:α} (hz:z.length=k) (hc:R z c):∀ {xs:List Value} {ys:List α},dh R k xs ys→dh R k (xs++z) (ys++[c])
 | _, _, .nil=>by have:=dh.cons (R:=R) hz hc .nil;simpa using this
 | _, _, .cons h1 h2 h3=>by rw [List.append_assoc,List.cons_append];exact .cons h1 h2 (dh.snoc hz hc h3)
theorem dh.len {α:Type} {R:List Value→α→Prop} {k:Nat}:∀ {xs:List Value} {ys:List α},dh R k xs ys→xs.length=ys.length*k
 | _, _, .nil=>by simp
 | _, _, .cons h1 h2 h3=>by rw [List.length_append,List.length_cons,h1,dh.len h3,Nat.add_mul,Nat.one_mul,Nat.add_comm]
theorem dh.all {α:Type} {R:List Value→α→Prop} {k:Nat} {S:α→Prop} (hS:∀z c,R z c→S c):∀ {xs:List Value} {ys:List α},dh R k xs ys→∀y∈ys,S y
 | _, _, .nil,y,hy=>by cases hy
 | _, _, .cons h1 h2 h3,y,hy=>by
  rcases List.mem_cons.1 hy with rfl | hy
  ·exact hS _ _ h2
  ·exact dh.all hS h3 y hy
section
variable {H:Type} {enc:TypeId ×Value→H} {P:Program} {W:World}
theorem open_row {α:Type} {t e:TypeId} {k:Nat} (ht:P.underlying t=some (.slice e)) (hc:P.cellsOf e=k) (hk:0<k) {fuel:Nat} {v:Value} {x:DataW H ×List MemPlace} (h:DataW.trod enc P W 0 (fun _=>true) true fuel t [v]=some x)
  (R:List Value→α→Prop) (hel:∀n cs' x',n<fuel→DataW.trod enc P W 0 (fun _=>true) true n e cs'=some x'→cs'.length=k→∃y,R cs' y):
  ∃(xs:List Value) (ys:List α),Sl W W.heap.size k v xs∧dh R k xs ys:=by
 rcases DataW.trod_slice ht h with⟨hcs,hx⟩ | ⟨a,len,cap,elems,rest,n,hf,hcs,hx,hb,hl,hm,hlen,hcell, _, _⟩
 ·obtain rfl:v= .slice none 0 0:=by simpa using hcs
  exact⟨[],[],Sl.nil _ _ _, .nil⟩
 ·obtain rfl:v= .slice (some a) len cap:=by simpa using hcs
  have hone:∀i,i<len→∃cs' y,W.cells? 0 (a.add (i*k)) k=some cs'∧R cs' y∧cs'.length=k:=by
   intro i hi;have h1:=hcell i hi;rw [hc,List.getElem?_eq_getElem (by omega)]at h1;obtain⟨cs',h2,h3⟩:=Option.bind_eq_some_iff.1 h1;have hcl:=(World.cells?_some h2).2.1;obtain⟨y,hy1⟩:=hel n cs' _ (by omega) h3 hcl;exact⟨cs',y,h2,hy1,hcl⟩
  have hall:∀m,m≤len→∃(xs:List Value) (ys:List α),dh R k xs ys∧ys.length=m∧(∀j u,xs[j]? =some u→W.cell? (a.add j)=some u):=by
   intro m;induction m with
   | zero=>exact fun _=>⟨[],[], .nil,rfl,fun j u hu=>by simp at hu⟩
   | succ m ih=>
    intro hm1;obtain⟨xs,ys,h1,h2,h3⟩:=ih (by omega);obtain⟨cs',y,h5,h6,h7⟩:=hone m (by omega);have hxl:xs.length=m*k:=by rw [h1.len,h2]
    refine⟨xs++cs',ys++[y],h1.snoc h7 h6,by rw [List.length_append,h2];rfl,fun j u hu=> ?_⟩;rcases Nat.lt_or_ge j xs.length with hj | hj
    ·rw [List.getElem?_append_left hj]at hu;exact h3 j u hu
    ·rw [List.getElem?_append_right hj]at hu;have hjk:j - xs.length<k:=by
      rcases Nat.lt_or_ge (j - xs.length) k with hlt | hge
      ·exact hlt
      ·rw [List.getElem?_eq_none (by omega)]at hu;cases hu
     have h9:=(World.cells?_some h5).2.2 (j - xs.length) hjk;rw [hu]at h9;have hadd:(a.add (m*k)).add (j - xs.length)=a.add j:=by
      rw [Deep.add_add, ←hxl];congr 1;omega
     rw [hadd]at h9;exact h9
  obtain⟨xs,ys,h1,h2,h3⟩:=hall len (Nat.le_refl _);have hxl:xs.length=len*k:=by rw [h1.len,h2]
  refine⟨xs,ys,⟨some a,len,cap,rfl,hxl,hl,hm,fun h0=> ?_⟩,h1⟩;have hp:0<xs.length:=by rw [hxl];exact Nat.mul_pos h0 hk
  have h5:=h3 0 xs[0] (by simp [hp]);obtain⟨b,off,spot⟩:=a;have hspot:spot=none:=by simpa [Addr.add]using World.cell?_spot h5
  subst hspot;refine⟨b,off,rfl, ?_,fun j u hu=> ?_⟩
  ·rw [jw]at h5;exact World.block_lt_of_cell? W _ h5
  ·have:=h3 j u hu;rw [jw]at this;exact this
end
mutual
def CF:aZ→Prop
 | .mk k nm ns ks=>In64 k∧nm.length≤maxLen∧(∀x∈ns,x.length≤maxLen)∧IQ ks
def IQ:List aZ→Prop
 | []=>True
 | t :: l=>CF t∧IQ l
end
theorem xX:∀ {l:List aZ},IQ l↔∀x∈l,CF x
 | []=>by simp [IQ]
 | c :: l=>by
  rw [IQ,xX (l:=l)];simp
mutual
def NH:bR→Prop
 | .mk k text n line col ts ns ks=>In64 k∧text.length≤maxLen∧In64 n∧In64 line∧In64 col∧(∀x∈ts,CF x)∧(∀x∈ns,x.length≤maxLen)∧IU ks
def IU:List bR→Prop
 | []=>True
 | t :: l=>NH t∧IU l
end
theorem sN:∀ {l:List bR},IU l↔∀x∈l,NH x
 | []=>by simp [IU]
 | c :: l=>by
  rw [IU,sN (l:=l)];simp
section
variable {H:Type} {enc:TypeId ×Value→H} {W:World}
theorem Kw {xs:List Value} {ys:List Bt} (h:dh (fun cs y=>cs=[sv y]∧y.length≤maxLen) 1 xs ys):xs=mD ys∧∀y∈ys,y.length≤maxLen:=by
 refine⟨?_,h.all (S:=fun y=>y.length≤maxLen) fun _ _ h=>h.2⟩;induction h with
 | nil=>rfl
 | cons h1 h2 h3 ih=>rw [ih,h2.1];rfl
theorem NI {xs:List Value} {ys:List aZ} (h:dh (fun cs y=>nX W W.heap.size cs y∧CF y) 4 xs ys):iJ W W.heap.size xs ys∧∀y∈ys,CF y:=by
 refine⟨?_,h.all (S:=CF) fun _ _ h=>h.2⟩;induction h with
 | nil=>exact .nil
 | cons h1 h2 h3 ih=>exact .cons h2.1 ih
theorem Vy {fuel:Nat} {u:Value} {x:DataW H ×List MemPlace} (h:DataW.trod enc Tryz.prog W 0 (fun _=>true) true fuel 3 [u]=some x):∃y,u= .int .i64 y∧In64 y:=by
 obtain⟨n,hn,rfl,hw⟩:=DataW.trod_int Tryz.underlying3 h;exact⟨n,by simpa using hn,ND hw⟩
theorem SH {fuel:Nat} {u:Value} {x:DataW H ×List MemPlace} (h:DataW.trod enc Tryz.prog W 0 (fun _=>true) true fuel 9 [u]=some x):∃y:Bt,u=sv y∧y.length≤maxLen:=by
 obtain⟨s,hs,rfl,hm⟩:=DataW.trod_string Tryz.underlying9 h;have e:s.data.toList.length=s.size:=Array.length_toList;have hu:u= .string s:=by simpa using hs
 exact⟨s.data.toList,by rw [hu,SG],by rw [e];exact hm⟩
theorem NJ {fuel:Nat} {v:Value} {x:DataW H ×List MemPlace} (h:DataW.trod enc Tryz.prog W 0 (fun _=>true) true fuel 25 [v]=some x):∃y,Ss W W.heap.size v y∧∀z∈y,z.length≤maxLen:=by
 obtain⟨xs,ys,h1,h2⟩:=open_row Tryz.underlying25 (k:=1) (by kernel_rfl) (by omega) h (fun cs y=>cs=[sv y]∧y.length≤maxLen) (fun n cs' x' _ ht hl=>by
  match cs',hl with
  | [u], _=>
   obtain⟨y,rfl,hy⟩:=SH ht;exact⟨y,rfl,hy⟩)
 obtain⟨rfl,h4⟩:=Kw h2;exact⟨ys,h1,h4⟩
theorem IV {t:TypeId} {v:Value} {d:DataW H} {p:List MemPlace} {k:Nat} (hk:1<k) (hu:∃fs,Tryz.prog.underlying t=some (.struct fs)) (hc:Tryz.prog.cellsOf t=k) (hd:DataW.Trod enc Tryz.prog W 0 (fun _=>true) true t v d p):∃z:List Value,v=Value.agg z.toArray∧v.cells.toList=z:=by
 obtain⟨fuel,h⟩:=hd;obtain⟨fs,hu⟩:=hu;obtain⟨xs,n, _, _,hl, _⟩:=DataW.trod_struct hu h;rw [hc]at hl;cases v with
 | agg z=>exact⟨z.toList,by simp,rfl⟩
 | _=>simp [Value.cells]at hl;omega
end
end
structure rD where
 from_:Bt
 names:List Bt
 line:Int
 col:Int
structure xY where
 name:Bt
 bound:aZ
structure oV where
 name:Bt
 exp:Bool
 vars:List xY
 param:Bt
 types:List aZ
 body:bR
 line:Int
 col:Int
structure zJ where
 imps:List rD
 decls:List oV
abbrev zK:=Nat ×Nat ×Int
inductive Pr (α:Type) where
 | bad (d:zK):Pr α
 | good (a:α) (r:List aF):Pr α
abbrev Ps (α:Type):=List aF→Pr α
def aG {α:Type} (a:α):Ps α:=fun ts=> .good a ts
def au {α β:Type} (p:Ps α) (f:α→Ps β):Ps β:=fun ts=>match p ts with
 | .bad d=> .bad d
 | .good a r=>f a r
theorem aj {α β:Type} {p:Ps α} {f:α→Ps β} {ts r:List aF} {a:α} (h:p ts= .good a r):au p f ts=f a r:=by unfold au;rw [h]
theorem aB {α β:Type} {p:Ps α} {f:α→Ps β} {ts:List aF} {d:zK} (h:p ts= .bad d):au p f ts= .bad d:=by unfold au;rw [h]
def aS (ts:List aF):aF:=ts.headD ⟨0,[],0,0⟩
def jL {α:Type} (e:Int):Ps α:=fun ts=> .bad ((aS ts).line,(aS ts).col,e)
def kP (t:aF) (s:Bt):Bool:=(t.kind==2 || t.kind==5) && t.text==s
def bW (l:List Bt):Ps (Option Nat):=fun ts=>match l.findIdx? (kP (aS ts))with
 | none=> .good none ts
 | some i=> .good (some i) (ts.drop 1)
def dO (s:Bt):Ps Bool:=fun ts=>if kP (aS ts) s then .good true (ts.drop 1)else .good false ts
theorem qw {t:aF} {s:Bt} (h:kP t s=true) (r:List aF):dO s (t :: r)= .good true r:=by
 unfold dO;rw [if_pos (show kP (aS (t :: r)) s=true from h)];rfl
theorem uF {t:aF} {s:Bt} (h:kP t s=false) (r:List aF):dO s (t :: r)= .good false (t :: r):=by
 unfold dO;rw [if_neg (show ¬kP (aS (t :: r)) s=true from fun e=>by rw [show kP (aS (t :: r)) s=kP t s from rfl,h]at e;cases e)]
theorem xZ {t:aF} {l:List Bt} {i:Nat} (h:l.findIdx? (kP t)=some i) (r:List aF):bW l (t :: r)= .good (some i) r:=by
 unfold bW;rw [show l.findIdx? (kP (aS (t :: r)))=some i from h];rfl
theorem wU {t:aF} {l:List Bt} (h:l.findIdx? (kP t)=none) (r:List aF):bW l (t :: r)= .good none (t :: r):=by
 unfold bW;rw [show l.findIdx? (kP (aS (t :: r)))=none from h]
def aI (s:Bt):Ps Unit:=au (dO s) fun b=>if b then aG ()else jL 7
def jo:List Bt→Ps Unit
 | []=>aG ()
 | s :: l=>au (aI s) fun _=>jo l
def dY (k:Int):Ps Bt:=fun ts=>if(aS ts).kind=k then .good (aS ts).text (if k=0 then ts else ts.drop 1)else .bad ((aS ts).line,(aS ts).col,7)
def nameP:Ps Bt:=dY 1
def qI {α:Type} (one:Ps α):Nat→List α→Ps (List α)
 | 0,l=>aG l
 | f+1,l=>au (dO [44]) fun b=>if b then au one fun a=>qI one f (l++[a])else aG l
def iK {α:Type} (one:Ps α):Ps (List α):=au one fun a ts=>qI one ts.length [a] ts
section
variable (typ:Ps aZ)
def Fu:List Bt:=[[97,110,121],[110,117,108,108],[98,111,111,108],[105,110,116],[115,116,114]]
def jO:Ps (Bt ×aZ):=au nameP fun s=>au (aI [58]) fun _=>au typ fun t=>aG (s,t)
def ig:Ps aZ:=au (bW Fu) fun b=>match b with
 | some k=>aG (.mk k [] [] [])
 | none=>au (bW [[40],[123]]) fun c=>match c with
  | none=>au nameP fun s=>aG (.mk 8 s [] [])
  | some 0=>au typ fun t=>au (aI [41]) fun _=>aG t
  | some _=>au (dO [125]) fun e=>if e then aG (.mk 5 [] [] [])else
    au (iK (jO typ)) fun l=>au (aI [125]) fun _=>aG (.mk 5 [] (l.map (·.1)) (l.map (·.2)))
def mY:Nat→List aZ→Ps (List aZ)
 | 0,l=>aG l
 | f+1,l=>au (dO [124]) fun b=>if b then au (ig typ) fun a=>mY f (l++[a])else aG l
def gy:List aZ→aZ
 | [t]=>t
 | l=> .mk 7 [] [] l
def Bv:Ps aZ:=au (ig typ) fun a=>au (fun ts=>mY typ ts.length [a] ts) fun l=>au (dO [45,62]) fun b=>
 if b then au typ fun r=>aG (.mk 6 [] [] [gy l,r])else aG (gy l)
def nY:aZ:= .mk 0 [] [] []
def iE (l none_:List aZ):Ps (List aZ):=au (dO [58]) fun b=>if b then au typ fun t=>aG (l++[t])else aG (l++none_)
def kR (none_:List aZ):Ps (Bt ×List aZ):=au (aI [40]) fun _=>au nameP fun s=>au (iE typ [] [nY]) fun l=>au (aI [41]) fun _=>au (iE typ l none_) fun m=>aG (s,m)
variable (expr unary:Ps bR)
def aK (k:Int) (text:Bt) (n:Int) (at_:aF) (types:List aZ) (names:List Bt) (kids:List bR):bR:= .mk k text n at_.line at_.col types names kids
def bN:List Bt→List bR→Ps (List bR)
 | [],l=>aG l
 | s :: r,l=>au (if s=[]then aG ()else aI s) fun _=>au expr fun x=>bN r (l++[x])
def kS:Ps aF:=fun ts=> .good (aS ts) ts
def kT (f:aF→List aF→Bool):Ps Bool:=fun ts=> .good (f (aS ts) ts) ts
def lQ (ops:List Bt) (sub:Ps bR):Nat→bR→Ps bR
 | 0,a=>aG a
 | f+1,a=>au kS fun h=>au (bW ops) fun i=>match i with
  | none=>aG a
  | some i=>au sub fun b=>lQ ops sub f (aK 14 (ops.getD i []) 0 h [] [] [a,b])
def Ar (ops:List Bt) (sub:Ps bR):Ps bR:=au sub fun a ts=>lQ ops sub ts.length a ts
def pF:List Bt:=[[60],[60,61],[61,61],[105,115],[97,115]]
def IW (sub:Ps bR):Ps bR:=au sub fun a=>au kS fun h=>au (bW pF) fun i=>match i with
 | none=>aG a
 | some i=>
  if i=3 then au (bW qN) fun t=>match t with
   | some t=>aG (aK 12 [] t h [] [] [a])
   | none=>jL 7
  else if i=4 then au typ fun t=>aG (aK 13 [] 0 h [t] [] [a])
  else au sub fun b=>aG (aK 14 (pF.getD i []) 0 h [] [] [a,b])
def Bw:List (List Bt):=[[[111,114]],[[97,110,100]],[],[[43,43]],[[43],[45],[94]],[[42],[47],[37],[38],[60,60],[62,62]]]
def jI:Nat→Ps bR
 | 0=>unary
 | f+1=>if f=3 then IW typ (jI f)else Ar (Bw.getD (5 - f) []) (jI f)
def Au:Ps bR:=au kS fun h=>au (bW [[108,101,116],[105,102],[102,110]]) fun i=>match i with
 | none=>jI typ unary 6
 | some 0=>au nameP fun s=>au (iE typ [] []) fun t=>au (bN expr [[61],[59]] []) fun k=>aG (aK 5 s 0 h t [] k)
 | some 1=>au (bN expr [[],[116,104,101,110],[101,108,115,101]] []) fun k=>aG (aK 11 [] 0 h [] [] k)
 | some _=>au (kR typ []) fun s=>au (bN expr [[61,62]] []) fun k=>aG (aK 6 s.1 0 h s.2 [] k)
def jh:Ps (Bt ×bR):=au nameP fun s=>au (aI [58]) fun _=>au expr fun x=>aG (s,x)
def uG (h:aF):Ps bR:=au (kT fun t _=>kP t [125]) fun e=>if e then aG (aK 8 [] 0 h [] [] [])else
 au (kT fun t ts=>t.kind==1 && kP (aS (ts.drop 1)) [58]) fun c=>
  if c then au (iK (jh expr)) fun l=>aG (aK 8 [] 0 h [] (l.map (·.1)) (l.map (·.2)))
  else au (bN expr [[]] []) fun k=>au (aI [119,105,116,104]) fun _=>au nameP fun s=>au (bN expr [[58]] k) fun m=>aG (aK 10 s 0 h [] [] m)
def lS (h:aF):Ps bR:=au nameP fun s=>au (dO [91]) fun b=>if b then au (iK typ) fun l=>au (aI [93]) fun _=>aG (aK 19 s 0 h l [] [])else aG (aK 4 s 0 h [] [] [])
def rE:List Bt:=[[102,97,108,115,101],[116,114,117,101],[110,117,108,108],[114,101,97,100],[112,114,105,110,116],[40],[123]]
def sO:Ps bR:=au kS fun h=>
 if h.kind=3 then au (dY 3) fun s=>aG (aK 0 [] (fu s).1 h [] [] [])
 else if h.kind=4 then au (dY 4) fun s=>aG (aK 1 s 0 h [] [] [])
 else au (bW rE) fun i=>match i with
  | none=>lS typ h
  | some 0=>aG (aK 2 [] 0 h [] [] [])
  | some 1=>aG (aK 2 [] 1 h [] [] [])
  | some 2=>aG (aK 3 [] 0 h [] [] [])
  | some 3=>au (jo [[40],[41]]) fun _=>aG (aK 18 [] 0 h [] [] [])
  | some 4=>au (bN expr [[40]] []) fun k=>au (aI [41]) fun _=>aG (aK 17 [] 0 h [] [] k)
  | some 5=>au expr fun x=>au (aI [41]) fun _=>aG x
  | some _=>au (uG expr h) fun x=>au (aI [125]) fun _=>aG x
def jB:Nat→bR→Ps bR
 | 0,a=>aG a
 | f+1,a=>au kS fun h=>au (bW [[40],[46]]) fun i=>match i with
  | none=>aG a
  | some 0=>au (bN expr [[]] [a]) fun k=>au (aI [41]) fun _=>jB f (aK 7 [] 0 h [] [] k)
  | some _=>au nameP fun s=>jB f (aK 9 s 0 h [] [] [a])
def qO:Ps bR:=au (sO typ expr) fun a ts=>jB expr ts.length a ts
def uH:Ps bR:=au kS fun h=>au (bW [[45],[110,111,116]]) fun i=>match i with
 | none=>qO typ expr
 | some 0=>au unary fun x=>aG (aK 16 [] 0 h [] [] [x])
 | some _=>au unary fun x=>aG (aK 15 [] 0 h [] [] [x])
end
structure Vz where
 typ:Ps aZ
 expr:Ps bR
 unary:Ps bR
def bJ:Nat→Vz
 | 0=>⟨jL 6,jL 6,jL 6⟩
 | n+1=>⟨Bv (bJ n).typ,Au (bJ n).typ (bJ n).expr (bJ n).unary,uH (bJ n).typ (bJ n).expr (bJ n).unary⟩
def x9:Ps xY:=au nameP fun s=>au (dO [60,58]) fun b=>if b then au (bJ 100).typ fun t=>aG ⟨s,t⟩else aG ⟨s,nY⟩
def pG:Ps (List xY):=au (dO [91]) fun b=>if b then au (iK x9) fun l=>au (aI [93]) fun _=>aG l else aG []
def kW (h:aF):Ps rD:=au nameP fun s=>au (aI [58]) fun _=>au (iK nameP) fun l=>au (aI [59]) fun _=>aG ⟨s,l,h.line,h.col⟩
def oL:Ps oV:=au (dO [101,120,112,111,114,116]) fun e=>au kS fun h=>au (aI [102,110]) fun _=>au nameP fun s=>au pG fun v=>
 au (kR (bJ 100).typ [nY]) fun p=>au (aI [61]) fun _=>au (bJ 100).expr fun b=>au (aI [59]) fun _=>aG ⟨s,e,v,p.1,p.2,b,h.line,h.col⟩
def mM:Nat→List rD→Ps (List rD)
 | 0,l=>aG l
 | f+1,l=>au kS fun h=>au (dO [105,109,112,111,114,116]) fun b=>if b then au (kW h) fun i=>mM f (l++[i])else aG l
def fO:Nat→List oV→Ps (List oV)
 | 0,l=>aG l
 | f+1,l=>au (kT fun t _=>t.kind==0) fun b=>if b then aG l else au oL fun d=>fO f (l++[d])
def GZ:Ps (List rD):=fun ts=>mM ts.length [] ts
def Fv:Ps (List oV):=fun ts=>fO ts.length [] ts
def dJ:Ps zJ:=au GZ fun i=>au Fv fun d=>aG ⟨i,d⟩
def bH {α:Type} (p:Ps α) (s:Bt):Option α ×zK:=
 if(fZ s).2.2.2=0 then(match au p (fun x=>au (dY 0) fun _=>aG x) (fZ s).1 with
  | .bad d=>(none,d)
  | .good x _=>(some x,(0,0,0)))
 else(none,(fZ s).2)
def Wf (ts:List aF):Prop:=∃a e,ts=a++[e]∧e.kind=0∧∀t∈a,t.kind≠0∧(t.kind=2→t.text≠[58])
theorem Wf.one {e:aF} (h:e.kind=0):Wf [e]:=⟨[],e,rfl,h,by simp⟩
theorem Wf.pos {ts:List aF} (h:Wf ts):1≤ts.length:=by obtain⟨a,e,rfl, _⟩:=h;simp
theorem Wf.cases {ts:List aF} (h:Wf ts):(∃e,ts=[e]∧e.kind=0)∨∃t r,ts=t :: r∧t.kind≠0∧(t.kind=2→t.text≠[58])∧Wf r:=by
 obtain⟨a,e,rfl,h0,h1⟩:=h;cases a with
 | nil=>exact .inl ⟨e,rfl,h0⟩
 | cons t a=>exact .inr ⟨t,a++[e],rfl,(h1 t (by simp)).1,(h1 t (by simp)).2,a,e,rfl,h0,fun x hx=>h1 x (by simp [hx])⟩
theorem Wf.yc {ts:List aF} (h:Wf ts):aS ts∈ts:=by
 rcases h.cases with⟨e,rfl, _⟩ | ⟨t,r,rfl, _⟩ <;> simp [aS]
theorem Wf.drop {ts:List aF} (h:Wf ts) (hk:(aS ts).kind≠0):Wf (ts.drop 1):=by
 rcases h.cases with⟨e,rfl,h0⟩ | ⟨t,r,rfl, _, _,hr⟩
 ·exact absurd h0 (by simpa [aS]using hk)
 ·simpa using hr
theorem CG {t:aF} {s:Bt} (h:kP t s=true):t.kind≠0:=by
 unfold kP at h;intro h0;rw [h0]at h;simp at h
def Sf {α:Type} (p:Ps α):Prop:=∀ts,Wf ts→match p ts with
 | .bad d=>(∃t∈ts,d.1=t.line∧d.2.1=t.col)∧(d.2.2=6∨d.2.2=7)
 | .good _ r=>Wf r∧r<:+ts
section
variable {α β:Type}
theorem Sf.bad {p:Ps α} (h:Sf p) {ts:List aF} (hw:Wf ts) {d:zK} (hp:p ts= .bad d):(∃t∈ts,d.1=t.line∧d.2.1=t.col)∧(d.2.2=6∨d.2.2=7):=by
 have:=h ts hw;rwa [hp]at this
theorem Sf.good {p:Ps α} (h:Sf p) {ts:List aF} (hw:Wf ts) {a:α} {r:List aF} (hp:p ts= .good a r):Wf r∧r<:+ts:=by
 have:=h ts hw;rwa [hp]at this
theorem Sf.ret (a:α):Sf (aG a):=fun ts hw=>⟨hw,List.suffix_refl _⟩
theorem Sf.then_ {p:Ps α} {f:α→Ps β} (h:Sf p) (hf:∀a,Sf (f a)):Sf (au p f):=by
 intro ts hw;unfold au;rcases hp:p ts with d | ⟨a,r⟩
 ·exact h.bad hw hp
 ·obtain⟨hr,hs⟩:=h.good hw hp;have h2:=hf a r hr;simp only;rcases hq:f a r with d | ⟨b,r2⟩
  ·rw [hq]at h2;obtain⟨⟨t,ht,e⟩,h3⟩:=h2;exact⟨⟨t,hs.subset ht,e⟩,h3⟩
  ·rw [hq]at h2;exact⟨h2.1,h2.2.trans hs⟩
theorem Sf.fail {e:Int} (he:e=6∨e=7):Sf (jL (α:=α) e):=fun ts hw=>⟨⟨_,hw.yc,rfl,rfl⟩,he⟩
theorem yg (ts:List aF):ts.drop 1<:+ts:=List.drop_suffix 1 ts
theorem Sf.iD (l:List Bt):Sf (bW l):=by
 intro ts hw;unfold bW;rcases h:l.findIdx? (kP (aS ts))with _ | i
 ·exact⟨hw,List.suffix_refl _⟩
 ·obtain⟨hi,h1, _⟩:=List.findIdx?_eq_some_iff_getElem.1 h;exact⟨hw.drop (CG h1),yg ts⟩
theorem Sf.has (s:Bt):Sf (dO s):=by
 intro ts hw;unfold dO;by_cases h:kP (aS ts) s=true
 ·rw [if_pos h];exact⟨hw.drop (CG h),yg ts⟩
 ·rw [if_neg h];exact⟨hw,List.suffix_refl _⟩
theorem Sf.want (s:Bt):Sf (aI s):=Sf.then_ (Sf.has s) fun b=>by
 cases b
 ·exact Sf.fail (.inr rfl)
 ·exact Sf.ret ()
theorem Sf.wants:∀l:List Bt,Sf (jo l)
 | []=>Sf.ret ()
 | s :: l=>Sf.then_ (Sf.want s) fun _=>Sf.wants l
theorem Sf.kind (k:Int):Sf (dY k):=by
 intro ts hw;unfold dY;by_cases h:(aS ts).kind=k
 ·rw [if_pos h];by_cases h0:k=0
  ·rw [if_pos h0];exact⟨hw,List.suffix_refl _⟩
  ·rw [if_neg h0];exact⟨hw.drop (by rw [h];exact h0),yg ts⟩
 ·rw [if_neg h];exact⟨⟨_,hw.yc,rfl,rfl⟩, .inr rfl⟩
theorem Sf.name:Sf nameP:=Sf.kind 1
theorem Sf.here:Sf kS:=fun ts hw=>⟨hw,List.suffix_refl _⟩
theorem Sf.seen (f:aF→List aF→Bool):Sf (kT f):=fun ts hw=>⟨hw,List.suffix_refl _⟩
theorem Sf.fuel {p:List aF→Ps α} (h:∀ts,Sf (p ts)):Sf (fun ts=>p ts ts):=fun ts hw=>h ts ts hw
theorem Sf.NK {one:Ps α} (h:Sf one):∀(f:Nat) (l:List α),Sf (qI one f l)
 | 0,l=>Sf.ret l
 | f+1,l=>Sf.then_ (Sf.has _) fun b=>by
  cases b
  ·exact Sf.ret l
  ·exact Sf.then_ h fun a=>Sf.NK h f _
theorem Sf.sep {one:Ps α} (h:Sf one):Sf (iK one):=Sf.then_ h fun a=>Sf.fuel (p:=fun ts=>qI one ts.length [a]) fun ts=>Sf.NK h _ _
end
section
variable {typ:Ps aZ} (ht:Sf typ) {expr unary:Ps bR} (he:Sf expr) (hu:Sf unary)
include ht
theorem Sf.Fw:Sf (ig typ):=by
 refine Sf.then_ (Sf.iD _) fun b=> ?_;rcases b with _ | k
 ·refine Sf.then_ (Sf.iD _) fun c=> ?_;rcases c with _ | _ | k
  ·exact Sf.then_ Sf.name fun s=>Sf.ret _
  ·exact Sf.then_ ht fun t=>Sf.then_ (Sf.want _) fun _=>Sf.ret _
  ·refine Sf.then_ (Sf.has _) fun e=> ?_;cases e
   ·exact Sf.then_ (Sf.sep (Sf.then_ Sf.name fun s=>Sf.then_ (Sf.want _) fun _=>Sf.then_ ht fun t=>Sf.ret _)) fun l=>Sf.then_ (Sf.want _) fun _=>Sf.ret _
   ·exact Sf.ret _
 ·exact Sf.ret _
theorem Sf.alt:∀(f:Nat) (l:List aZ),Sf (mY typ f l)
 | 0,l=>Sf.ret l
 | f+1,l=>Sf.then_ (Sf.has _) fun b=>by
  cases b
  ·exact Sf.ret l
  ·exact Sf.then_ (Sf.Fw ht) fun a=>Sf.alt f _
theorem Sf.Qs:Sf (Bv typ):=Sf.then_ (Sf.Fw ht) fun a=>Sf.then_ (Sf.fuel (p:=fun ts=>mY typ ts.length [a]) fun ts=>Sf.alt ht _ _) fun l=>Sf.then_ (Sf.has _) fun b=>by
 cases b
 ·exact Sf.ret _
 ·exact Sf.then_ ht fun r=>Sf.ret _
theorem Sf.note (l n:List aZ):Sf (iE typ l n):=Sf.then_ (Sf.has _) fun b=>by
 cases b
 ·exact Sf.ret _
 ·exact Sf.then_ ht fun r=>Sf.ret _
theorem Sf.head (n:List aZ):Sf (kR typ n):=Sf.then_ (Sf.want _) fun _=>Sf.then_ Sf.name fun s=>Sf.then_ (Sf.note ht _ _) fun l=>Sf.then_ (Sf.want _) fun _=>Sf.then_ (Sf.note ht _ _) fun m=>Sf.ret _
omit ht
include he
theorem Sf.kids:∀(a:List Bt) (l:List bR),Sf (bN expr a l)
 | [],l=>Sf.ret l
 | s :: r,l=>Sf.then_ (by split;exact Sf.ret ();exact Sf.want s) fun _=>Sf.then_ he fun x=>Sf.kids r _
omit he
theorem Sf.left {sub:Ps bR} (hs:Sf sub) (ops:List Bt):∀(f:Nat) (a:bR),Sf (lQ ops sub f a)
 | 0,a=>Sf.ret a
 | f+1,a=>Sf.then_ Sf.here fun h=>Sf.then_ (Sf.iD _) fun i=>by
  rcases i with _ | i
  ·exact Sf.ret a
  ·exact Sf.then_ hs fun b=>Sf.left hs ops f _
theorem Sf.Ky {sub:Ps bR} (hs:Sf sub) (ops:List Bt):Sf (Ar ops sub):=Sf.then_ hs fun a=>Sf.fuel (p:=fun ts=>lQ ops sub ts.length a) fun ts=>Sf.left hs _ _ _
include ht
theorem Sf.cmp {sub:Ps bR} (hs:Sf sub):Sf (IW typ sub):=Sf.then_ hs fun a=>Sf.then_ Sf.here fun h=>Sf.then_ (Sf.iD _) fun i=>by
 rcases i with _ | i
 ·exact Sf.ret a
 ·simp only;split
  ·refine Sf.then_ (Sf.iD _) fun t=> ?_;rcases t with _ | t
   ·exact Sf.fail (.inr rfl)
   ·exact Sf.ret _
  ·split
   ·exact Sf.then_ ht fun t=>Sf.ret _
   ·exact Sf.then_ hs fun b=>Sf.ret _
include hu
theorem Sf.rank:∀f:Nat,Sf (jI typ unary f)
 | 0=>hu
 | f+1=>by
  unfold jI;split
  ·exact Sf.cmp ht (Sf.rank f)
  ·exact Sf.Ky (Sf.rank f) _
include he
theorem Sf.Kz:Sf (Au typ expr unary):=Sf.then_ Sf.here fun h=>Sf.then_ (Sf.iD _) fun i=>by
 rcases i with _ | _ | _ | i
 ·exact Sf.rank ht hu 6
 ·exact Sf.then_ Sf.name fun s=>Sf.then_ (Sf.note ht _ _) fun t=>Sf.then_ (Sf.kids he _ _) fun k=>Sf.ret _
 ·exact Sf.then_ (Sf.kids he _ _) fun k=>Sf.ret _
 ·exact Sf.then_ (Sf.head ht _) fun s=>Sf.then_ (Sf.kids he _ _) fun k=>Sf.ret _
omit hu ht
theorem Sf.Bz:Sf (jh expr):=Sf.then_ Sf.name fun s=>Sf.then_ (Sf.want _) fun _=>Sf.then_ he fun x=>Sf.ret _
theorem Sf.zP (h:aF):Sf (uG expr h):=Sf.then_ (Sf.seen _) fun e=>by
 cases e
 ·rw [if_neg Bool.false_ne_true];refine Sf.then_ (Sf.seen _) fun c=> ?_;cases c
  ·exact Sf.then_ (Sf.kids he _ _) fun k=>Sf.then_ (Sf.want _) fun _=>Sf.then_ Sf.name fun s=>Sf.then_ (Sf.kids he _ _) fun m=>Sf.ret _
  ·exact Sf.then_ (Sf.sep (Sf.Bz he)) fun l=>Sf.ret _
 ·exact Sf.ret _
include ht
omit he
theorem Sf.named (h:aF):Sf (lS typ h):=Sf.then_ Sf.name fun s=>Sf.then_ (Sf.has _) fun b=>by
 cases b
 ·exact Sf.ret _
 ·exact Sf.then_ (Sf.sep ht) fun l=>Sf.then_ (Sf.want _) fun _=>Sf.ret _
include he
theorem Sf.atom:Sf (sO typ expr):=Sf.then_ Sf.here fun h=>by
 split
 ·exact Sf.then_ (Sf.kind 3) fun s=>Sf.ret _
 ·split
  ·exact Sf.then_ (Sf.kind 4) fun s=>Sf.ret _
  ·refine Sf.then_ (Sf.iD _) fun i=> ?_;rcases i with _ | _ | _ | _ | _ | _ | _ | i
   ·exact Sf.named ht h
   ·exact Sf.ret _
   ·exact Sf.ret _
   ·exact Sf.ret _
   ·exact Sf.then_ (Sf.wants _) fun _=>Sf.ret _
   ·exact Sf.then_ (Sf.kids he _ _) fun k=>Sf.then_ (Sf.want _) fun _=>Sf.ret _
   ·exact Sf.then_ he fun k=>Sf.then_ (Sf.want _) fun _=>Sf.ret _
   ·exact Sf.then_ (Sf.zP he h) fun k=>Sf.then_ (Sf.want _) fun _=>Sf.ret _
omit ht
theorem Sf.CJ:∀(f:Nat) (a:bR),Sf (jB expr f a)
 | 0,a=>Sf.ret a
 | f+1,a=>Sf.then_ Sf.here fun h=>Sf.then_ (Sf.iD _) fun i=>by
  rcases i with _ | _ | i
  ·exact Sf.ret a
  ·exact Sf.then_ (Sf.kids he _ _) fun k=>Sf.then_ (Sf.want _) fun _=>Sf.CJ f _
  ·exact Sf.then_ Sf.name fun k=>Sf.CJ f _
include ht
theorem Sf.post:Sf (qO typ expr):=Sf.then_ (Sf.atom ht he) fun a=>Sf.fuel (p:=fun ts=>jB expr ts.length a) fun ts=>Sf.CJ he _ _
include hu
theorem Sf.Fx:Sf (uH typ expr unary):=Sf.then_ Sf.here fun h=>Sf.then_ (Sf.iD _) fun i=>by
 rcases i with _ | _ | i
 ·exact Sf.post ht he
 ·exact Sf.then_ hu fun x=>Sf.ret _
 ·exact Sf.then_ hu fun x=>Sf.ret _
end
theorem Sf.Kc:∀n:Nat,Sf (bJ n).typ∧Sf (bJ n).expr∧Sf (bJ n).unary
 | 0=>⟨Sf.fail (.inl rfl),Sf.fail (.inl rfl),Sf.fail (.inl rfl)⟩
 | n+1=>by
  obtain⟨h1,h2,h3⟩:=Sf.Kc n;exact⟨Sf.Qs h1,Sf.Kz h1 h2 h3,Sf.Fx h1 h2 h3⟩
theorem Sf.var:Sf x9:=Sf.then_ Sf.name fun s=>Sf.then_ (Sf.has _) fun b=>by
 cases b
 ·exact Sf.ret _
 ·exact Sf.then_ (Sf.Kc 100).1 fun t=>Sf.ret _
theorem Sf.vars:Sf pG:=Sf.then_ (Sf.has _) fun b=>by
 cases b
 ·exact Sf.ret _
 ·exact Sf.then_ (Sf.sep Sf.var) fun l=>Sf.then_ (Sf.want _) fun _=>Sf.ret _
theorem Sf.import_ (h:aF):Sf (kW h):=Sf.then_ Sf.name fun s=>Sf.then_ (Sf.want _) fun _=>Sf.then_ (Sf.sep Sf.name) fun l=>Sf.then_ (Sf.want _) fun _=>Sf.ret _
theorem Sf.decl:Sf oL:=Sf.then_ (Sf.has _) fun e=>Sf.then_ Sf.here fun h=>Sf.then_ (Sf.want _) fun _=>Sf.then_ Sf.name fun s=>Sf.then_ Sf.vars fun v=>
 Sf.then_ (Sf.head (Sf.Kc 100).1 _) fun p=>Sf.then_ (Sf.want _) fun _=>Sf.then_ (Sf.Kc 100).2.1 fun b=>Sf.then_ (Sf.want _) fun _=>Sf.ret _
theorem Sf.imps:∀(f:Nat) (l:List rD),Sf (mM f l)
 | 0,l=>Sf.ret l
 | f+1,l=>Sf.then_ Sf.here fun h=>Sf.then_ (Sf.has _) fun b=>by
  cases b
  ·exact Sf.ret l
  ·exact Sf.then_ (Sf.import_ h) fun i=>Sf.imps f _
theorem Sf.decls:∀(f:Nat) (l:List oV),Sf (fO f l)
 | 0,l=>Sf.ret l
 | f+1,l=>Sf.then_ (Sf.seen _) fun b=>by
  cases b
  ·exact Sf.then_ Sf.decl fun d=>Sf.decls f _
  ·exact Sf.ret l
theorem Sf.module:Sf dJ:=Sf.then_ (Sf.fuel (p:=fun ts=>mM ts.length []) fun ts=>Sf.imps _ _) fun i=>Sf.then_ (Sf.fuel (p:=fun ts=>fO ts.length []) fun ts=>Sf.decls _ _) fun d=>Sf.ret _
theorem dh.imp {α:Type} {R S:List Value→α→Prop} {k:Nat} (hS:∀z c,R z c→S z c):∀ {xs:List Value} {ys:List α},dh R k xs ys→dh S k xs ys
 | _, _, .nil=> .nil
 | _, _, .cons h1 h2 h3=> .cons h1 (hS _ _ h2) (dh.imp hS h3)
theorem dh.at {α:Type} {R:List Value→α→Prop} {k:Nat}:∀ {xs:List Value} {ys:List α},dh R k xs ys→∀(i:Nat) (hi:i<ys.length),R ((xs.drop (i*k)).take k) ys[i]
 | _, _, .nil,i,hi=>by simp at hi
 | _, _, .cons (x:=x) (y:=y) h1 h2 h3,i,hi=>by
  rcases i with _ | i
  ·rw [Nat.zero_mul,List.drop_zero, ←h1,List.take_left];exact h2
  ·have:(x++y).drop ((i+1)*k)=y.drop (i*k):=by
    rw [show(i+1)*k=x.length+i*k by rw [h1,Nat.add_mul,Nat.one_mul,Nat.add_comm], ←List.drop_drop,List.drop_left]
   rw [this];exact dh.at h3 i (by simpa using hi)
theorem dh.and {α:Type} {R S:List Value→α→Prop} {k:Nat}:∀ {xs:List Value} {ys:List α},dh (fun z c=>R z c∧S z c) k xs ys→dh R k xs ys∧dh S k xs ys
 | _, _, .nil=>⟨.nil, .nil⟩
 | _, _, .cons h1 h2 h3=>⟨.cons h1 h2.1 (dh.and h3).1, .cons h1 h2.2 (dh.and h3).2⟩
theorem dh.app {α:Type} {R:List Value→α→Prop} {k:Nat} {xt:List Value} {yt:List α} (h:dh R k xt yt):∀ {xs:List Value} {ys:List α},dh R k xs ys→dh R k (xs++xt) (ys++yt)
 | _, _, .nil=>h
 | _, _, .cons h1 h2 h3=>by rw [List.append_assoc,List.cons_append];exact .cons h1 h2 (dh.app h h3)
def Nq (w:World) (B:Nat) (z:List Value) (i:rD):Prop:=∃vn,z=[sv i.from_,vn, .int .i64 i.line, .int .i64 i.col]∧Ss w B vn i.names
def Ke (w:World) (B:Nat) (z:List Value) (v:xY):Prop:=∃y,z=sv v.name :: y∧nX w B y v.bound
def Co (w:World) (B:Nat) (z:List Value) (d:oV):Prop:=
 ∃vv xv vt xt y,z=[sv d.name, .bool d.exp,vv,sv d.param,vt]++(y++[.int .i64 d.line, .int .i64 d.col])∧Sl w B 5 vv xv∧dh (Ke w B) 5 xv d.vars∧Sl w B 4 vt xt∧iJ w B xt d.types∧rA w B y d.body
def IX (w:World) (B:Nat) (z:List Value) (m:zJ):Prop:=
 ∃vi xi vd xd,z=[vi,vd]∧Sl w B 4 vi xi∧dh (Nq w B) 4 xi m.imps∧Sl w B 15 vd xd∧dh (Co w B) 15 xd m.decls
section
variable {w w':World} {B B':Nat} {z:List Value}
theorem Nq.keep {i:rD} (h:Nq w B z i) (hb:Below B w w'):Nq w' B z i:=by
 obtain⟨vn,e,h1⟩:=h;exact⟨vn,e,h1.below hb⟩
theorem Nq.more {i:rD} (h:Nq w B z i) (hb:B≤B'):Nq w B' z i:=by
 obtain⟨vn,e,h1⟩:=h;exact⟨vn,e,h1.more hb⟩
theorem Ke.keep {i:xY} (h:Ke w B z i) (hb:Below B w w'):Ke w' B z i:=by
 obtain⟨vn,e,h1⟩:=h;exact⟨vn,e,h1.keep hb⟩
theorem Ke.more {i:xY} (h:Ke w B z i) (hb:B≤B'):Ke w B' z i:=by
 obtain⟨vn,e,h1⟩:=h;exact⟨vn,e,h1.more hb⟩
theorem Co.keep {i:oV} (h:Co w B z i) (hb:Below B w w'):Co w' B z i:=by
 obtain⟨vv,xv,vt,xt,y,e,h1,h2,h3,h4,h5⟩:=h;exact⟨vv,xv,vt,xt,y,e,Sl.below h1 hb,h2.imp fun _ _ h=>h.keep hb,Sl.below h3 hb,h4.keep hb,h5.keep hb⟩
theorem Co.more {i:oV} (h:Co w B z i) (hb:B≤B'):Co w B' z i:=by
 obtain⟨vv,xv,vt,xt,y,e,h1,h2,h3,h4,h5⟩:=h;exact⟨vv,xv,vt,xt,y,e,Sl.more h1 hb,h2.imp fun _ _ h=>h.more hb,Sl.more h3 hb,h4.more hb,h5.more hb⟩
theorem IX.keep {i:zJ} (h:IX w B z i) (hb:Below B w w'):IX w' B z i:=by
 obtain⟨vi,xi,vd,xd,e,h1,h2,h3,h4⟩:=h;exact⟨vi,xi,vd,xd,e,Sl.below h1 hb,h2.imp fun _ _ h=>h.keep hb,Sl.below h3 hb,h4.imp fun _ _ h=>h.keep hb⟩
theorem IX.more {i:zJ} (h:IX w B z i) (hb:B≤B'):IX w B' z i:=by
 obtain⟨vi,xi,vd,xd,e,h1,h2,h3,h4⟩:=h;exact⟨vi,xi,vd,xd,e,Sl.more h1 hb,h2.imp fun _ _ h=>h.more hb,Sl.more h3 hb,h4.imp fun _ _ h=>h.more hb⟩
theorem IX.far {i:zJ} (h:IX w B z i) (hB:B≤w.heap.size) (hb:Below w.heap.size w w'):IX w' w'.heap.size z i:=
 (h.keep (hb.mono hB)).more (Nat.le_trans hB hb.size)
theorem Co.far {i:oV} (h:Co w B z i) (hB:B≤w.heap.size) (hb:Below w.heap.size w w'):Co w' w'.heap.size z i:=
 (h.keep (hb.mono hB)).more (Nat.le_trans hB hb.size)
theorem Co.len {d:oV} (h:Co w B z d):z.length=15:=by
 obtain⟨vv,xv,vt,xt,y,rfl, _, _, _, _,h5⟩:=h;have:=h5.len;simp only [List.length_append,List.length_cons,List.length_nil];omega
theorem Ke.len {d:xY} (h:Ke w B z d):z.length=5:=by
 obtain⟨y,rfl,h5⟩:=h;have:=h5.len;simp only [List.length_cons];omega
theorem Co.parts {d:oV} (h:Co w B z d):
  ∃A1 c1 A2 c2 k s n l c A3 n3 c3 A4 n4 c4 A5 n5 c5 xv xt,z=[sv d.name, .bool d.exp, .slice A1 d.vars.length c1,sv d.param, .slice A2 d.types.length c2, .int .i64 k, .string s, .int .i64 n, .int .i64 l, .int .i64 c, .slice A3 n3 c3, .slice A4 n4 c4, .slice A5 n5 c5, .int .i64 d.line, .int .i64 d.col]∧
   Sl w B 5 (.slice A1 d.vars.length c1) xv∧dh (Ke w B) 5 xv d.vars∧Sl w B 4 (.slice A2 d.types.length c2) xt∧iJ w B xt d.types∧rA w B [.int .i64 k, .string s, .int .i64 n, .int .i64 l, .int .i64 c, .slice A3 n3 c3, .slice A4 n4 c4, .slice A5 n5 c5] d.body:=by
 obtain⟨vv,xv,vt,xt,y,rfl,h1,h2,h3,h4,h5⟩:=h;obtain⟨A1,c1,rfl⟩:=dS h1 (by omega) (m:=d.vars.length) h2.len;obtain⟨A2,c2,rfl⟩:=dS h3 (by omega) (m:=d.types.length) h4.length;obtain⟨k,s,n,l,c,A3,n3,c3,A4,n4,c4,A5,n5,c5,rfl⟩:=h5.shape;exact⟨A1,c1,A2,c2,k,s,n,l,c,A3,n3,c3,A4,n4,c4,A5,n5,c5,xv,xt,rfl,h1,h2,h3,h4,h5⟩
theorem IX.parts {m:zJ} (h:IX w B z m):
  ∃A1 c1 A2 c2 xi xd,z=[.slice A1 m.imps.length c1, .slice A2 m.decls.length c2]∧Sl w B 4 (.slice A1 m.imps.length c1) xi∧dh (Nq w B) 4 xi m.imps∧Sl w B 15 (.slice A2 m.decls.length c2) xd∧dh (Co w B) 15 xd m.decls:=by
 obtain⟨vi,xi,vd,xd,rfl,h1,h2,h3,h4⟩:=h;obtain⟨A1,c1,rfl⟩:=dS h1 (by omega) (m:=m.imps.length) h2.len;obtain⟨A2,c2,rfl⟩:=dS h3 (by omega) (m:=m.decls.length) h4.len;exact⟨A1,c1,A2,c2,xi,xd,rfl,h1,h2,h3,h4⟩
end
def dw (w:World) (F:Nat→Prop) (k:Nat) (v:Value) (xs:List Value):Prop:=
 ∃(A:Option Addr) (n c:Nat),v= .slice A n c∧xs.length=n*k∧n≤c∧c≤maxLen∧
  (0<n→∃b off,A=some ⟨b,off,none⟩∧F b∧b<w.heap.size∧∀(j:Nat) u,xs[j]? =some u→w.cell? ⟨b,off+j,none⟩=some u)
section
variable {w w':World} {F G:Nat→Prop} {B k:Nat} {v:Value} {xs:List Value}
theorem dw.turn (h:dw w F k v xs) (t:Turn G w w') (hd:∀g,g<w.heap.size→F g→¬G g):dw w' F k v xs:=by
 obtain⟨A,n,c,hv,hl,hn,hc,hx⟩:=h;refine⟨A,n,c,hv,hl,hn,hc,fun h0=> ?_⟩;obtain⟨b,off,hA,hb,hs,hcell⟩:=hx h0;refine⟨b,off,hA,hb,t.lt hs,fun j u hu=> ?_⟩;rw [←hcell j u hu];have h1:=t.block hs (hd b hs hb);simp only [World.cell?,h1]
theorem dw.mono (h:dw w F k v xs) (hF:∀g,g<w.heap.size→F g→G g):dw w G k v xs:=by
 obtain⟨A,n,c,hv,hl,hn,hc,hx⟩:=h;refine⟨A,n,c,hv,hl,hn,hc,fun h0=> ?_⟩;obtain⟨b,off,hA,hb,hs,hcell⟩:=hx h0;exact⟨b,off,hA,hF b hs hb,hs,hcell⟩
theorem dw.of (h:Sl w B k v xs) (hB:B≤w.heap.size):dw w (· <B) k v xs:=by
 obtain⟨A,n,c,hv,hl,hn,hc,hx⟩:=h;refine⟨A,n,c,hv,hl,hn,hc,fun h0=> ?_⟩;obtain⟨b,off,hA,hb,hcell⟩:=hx h0;exact⟨b,off,hA,hb,Nat.lt_of_lt_of_le hb hB,hcell⟩
theorem dw.to (h:dw w F k v xs) (hF:∀g,g<w.heap.size→F g→g<B):Sl w B k v xs:=by
 obtain⟨A,n,c,hv,hl,hn,hc,hx⟩:=h;refine⟨A,n,c,hv,hl,hn,hc,fun h0=> ?_⟩;obtain⟨b,off,hA,hb,hs,hcell⟩:=hx h0;exact⟨b,off,hA,hF b hs hb,hcell⟩
theorem dw.all (h:dw w F k v xs):Sl w w.heap.size k v xs:=h.to fun _ hg _=>hg
theorem dw.nil (w:World) (F:Nat→Prop) (k:Nat):dw w F k (.slice none 0 0) []:=
 ⟨none,0,0,rfl,by simp,Nat.le_refl _,Nat.zero_le _,fun h=>absurd h (by omega)⟩
theorem dw.own {base:Nat} {e:TypeId} {n:Nat} (h:w.ownsRow base e k v n xs) (hF:∀g,v.ownBlock=some g→F g):dw w F k v xs:=by
 have h1:=Sl.xO h;obtain⟨A,n',c,hv,hl,hn,hc,hx⟩:=h1;refine⟨A,n',c,hv,hl,hn,hc,fun h0=> ?_⟩;obtain⟨b,off,hA,hb,hcell⟩:=hx h0;exact⟨b,off,hA,hF b (by subst hv hA;rfl),hb,hcell⟩
theorem dw.below (h:dw w F k v xs) (hb:Below w.heap.size w w'):dw w' F k v xs:=h.turn (Turn.of_below (F:=fun _=>False) hb) fun _ _ _ h=>h
end
mutual
inductive kX (w:World) (F:Nat→Prop):List Value→aZ→Prop
 | mk {k:Int} {nm:Bt} {vn vk:Value} {ns:List Bt} {ks:List aZ} {xk:List Value}:dw w F 1 vn (mD ns)→dw w F 4 vk xk→jE w F xk ks→kX w F [.int .i64 k,sv nm,vn,vk] (.mk k nm ns ks)
inductive jE (w:World) (F:Nat→Prop):List Value→List aZ→Prop
 | nil:jE w F [] []
 | cons {x y:List Value} {c:aZ} {l:List aZ}:kX w F x c→jE w F y l→jE w F (x++y) (c :: l)
end
mutual
inductive oO (w:World) (F:Nat→Prop):List Value→bR→Prop
 | mk {k n line col:Int} {text:Bt} {vt vn vk:Value} {ts:List aZ} {xt:List Value} {ns:List Bt} {ks:List bR} {xk:List Value}:dw w F 4 vt xt→jE w F xt ts→dw w F 1 vn (mD ns)→dw w F 8 vk xk→jF w F xk ks→
   oO w F [.int .i64 k,sv text, .int .i64 n, .int .i64 line, .int .i64 col,vt,vn,vk] (.mk k text n line col ts ns ks)
inductive jF (w:World) (F:Nat→Prop):List Value→List bR→Prop
 | nil:jF w F [] []
 | cons {x y:List Value} {c:bR} {l:List bR}:oO w F x c→jF w F y l→jF w F (x++y) (c :: l)
end
section
variable {w w':World} {F G:Nat→Prop} {B:Nat}
mutual
theorem kX.turn {x:List Value} {c:aZ} (h:kX w F x c) (t:Turn G w w') (hd:∀g,g<w.heap.size→F g→¬G g):kX w' F x c:=
 match h with
 | .mk h1 h2 h3=> .mk (h1.turn t hd) (h2.turn t hd) (h3.turn t hd)
theorem jE.turn {x:List Value} {l:List aZ} (h:jE w F x l) (t:Turn G w w') (hd:∀g,g<w.heap.size→F g→¬G g):jE w' F x l:=
 match h with
 | .nil=> .nil
 | .cons h1 h2=> .cons (h1.turn t hd) (h2.turn t hd)
end
mutual
theorem kX.mono {x:List Value} {c:aZ} (h:kX w F x c) (hF:∀g,g<w.heap.size→F g→G g):kX w G x c:=
 match h with
 | .mk h1 h2 h3=> .mk (h1.mono hF) (h2.mono hF) (h3.mono hF)
theorem jE.mono {x:List Value} {l:List aZ} (h:jE w F x l) (hF:∀g,g<w.heap.size→F g→G g):jE w G x l:=
 match h with
 | .nil=> .nil
 | .cons h1 h2=> .cons (h1.mono hF) (h2.mono hF)
end
mutual
theorem kX.of {x:List Value} {c:aZ} (h:nX w B x c) (hB:B≤w.heap.size):kX w (· <B) x c:=
 match h with
 | .mk h1 h2 h3=> .mk (dw.of h1 hB) (dw.of h2 hB) (jE.of h3 hB)
theorem jE.of {x:List Value} {l:List aZ} (h:iJ w B x l) (hB:B≤w.heap.size):jE w (· <B) x l:=
 match h with
 | .nil=> .nil
 | .cons h1 h2=> .cons (kX.of h1 hB) (jE.of h2 hB)
end
mutual
theorem kX.to {x:List Value} {c:aZ} (h:kX w F x c) (hF:∀g,g<w.heap.size→F g→g<B):nX w B x c:=
 match h with
 | .mk h1 h2 h3=> .mk (h1.to hF) (h2.to hF) (h3.to hF)
theorem jE.to {x:List Value} {l:List aZ} (h:jE w F x l) (hF:∀g,g<w.heap.size→F g→g<B):iJ w B x l:=
 match h with
 | .nil=> .nil
 | .cons h1 h2=> .cons (h1.to hF) (h2.to hF)
end
mutual
theorem oO.turn {x:List Value} {c:bR} (h:oO w F x c) (t:Turn G w w') (hd:∀g,g<w.heap.size→F g→¬G g):oO w' F x c:=
 match h with
 | .mk h1 h2 h3 h4 h5=> .mk (h1.turn t hd) (h2.turn t hd) (h3.turn t hd) (h4.turn t hd) (h5.turn t hd)
theorem jF.turn {x:List Value} {l:List bR} (h:jF w F x l) (t:Turn G w w') (hd:∀g,g<w.heap.size→F g→¬G g):jF w' F x l:=
 match h with
 | .nil=> .nil
 | .cons h1 h2=> .cons (h1.turn t hd) (h2.turn t hd)
end
mutual
theorem oO.mono {x:List Value} {c:bR} (h:oO w F x c) (hF:∀g,g<w.heap.size→F g→G g):oO w G x c:=
 match h with
 | .mk h1 h2 h3 h4 h5=> .mk (h1.mono hF) (h2.mono hF) (h3.mono hF) (h4.mono hF) (h5.mono hF)
theorem jF.mono {x:List Value} {l:List bR} (h:jF w F x l) (hF:∀g,g<w.heap.size→F g→G g):jF w G x l:=
 match h with
 | .nil=> .nil
 | .cons h1 h2=> .cons (h1.mono hF) (h2.mono hF)
end
mutual
theorem oO.of {x:List Value} {c:bR} (h:rA w B x c) (hB:B≤w.heap.size):oO w (· <B) x c:=
 match h with
 | .mk h1 h2 h3 h4 h5=> .mk (dw.of h1 hB) (jE.of h2 hB) (dw.of h3 hB) (dw.of h4 hB) (jF.of h5 hB)
theorem jF.of {x:List Value} {l:List bR} (h:kV w B x l) (hB:B≤w.heap.size):jF w (· <B) x l:=
 match h with
 | .nil=> .nil
 | .cons h1 h2=> .cons (oO.of h1 hB) (jF.of h2 hB)
end
mutual
theorem oO.to {x:List Value} {c:bR} (h:oO w F x c) (hF:∀g,g<w.heap.size→F g→g<B):rA w B x c:=
 match h with
 | .mk h1 h2 h3 h4 h5=> .mk (h1.to hF) (h2.to hF) (h3.to hF) (h4.to hF) (h5.to hF)
theorem jF.to {x:List Value} {l:List bR} (h:jF w F x l) (hF:∀g,g<w.heap.size→F g→g<B):kV w B x l:=
 match h with
 | .nil=> .nil
 | .cons h1 h2=> .cons (h1.to hF) (h2.to hF)
end
theorem kX.all {x:List Value} {c:aZ} (h:kX w F x c):nX w w.heap.size x c:=h.to fun _ hg _=>hg
theorem jE.all {x:List Value} {c:List aZ} (h:jE w F x c):iJ w w.heap.size x c:=h.to fun _ hg _=>hg
theorem oO.all {x:List Value} {c:bR} (h:oO w F x c):rA w w.heap.size x c:=h.to fun _ hg _=>hg
theorem jF.all {x:List Value} {c:List bR} (h:jF w F x c):kV w w.heap.size x c:=h.to fun _ hg _=>hg
theorem kX.R9 {x:List Value} {c:aZ} (h:kX w F x c) (hb:Below w.heap.size w w'):kX w' F x c:=h.turn (Turn.of_below (F:=fun _=>False) hb) fun _ _ _ h=>h
theorem jE.R9 {x:List Value} {c:List aZ} (h:jE w F x c) (hb:Below w.heap.size w w'):jE w' F x c:=h.turn (Turn.of_below (F:=fun _=>False) hb) fun _ _ _ h=>h
theorem oO.R9 {x:List Value} {c:bR} (h:oO w F x c) (hb:Below w.heap.size w w'):oO w' F x c:=h.turn (Turn.of_below (F:=fun _=>False) hb) fun _ _ _ h=>h
theorem jF.R9 {x:List Value} {c:List bR} (h:jF w F x c) (hb:Below w.heap.size w w'):jF w' F x c:=h.turn (Turn.of_below (F:=fun _=>False) hb) fun _ _ _ h=>h
theorem jE.snoc {y:List Value} {c:aZ} (hc:kX w F y c):∀ {x:List Value} {l:List aZ},jE w F x l→jE w F (x++y) (l++[c])
 | _, _, .nil=>by simpa using jE.cons hc .nil
 | _, _, .cons h1 h2=>by rw [List.append_assoc,List.cons_append];exact .cons h1 (jE.snoc hc h2)
theorem jF.snoc {y:List Value} {c:bR} (hc:oO w F y c):∀ {x:List Value} {l:List bR},jF w F x l→jF w F (x++y) (l++[c])
 | _, _, .nil=>by simpa using jF.cons hc .nil
 | _, _, .cons h1 h2=>by rw [List.append_assoc,List.cons_append];exact .cons h1 (jF.snoc hc h2)
theorem jF.at:∀ {x:List Value} {l:List bR},jF w F x l→∀(i:Nat) (hi:i<l.length),oO w F ((x.drop (i*8)).take 8) l[i]
 | _, _, .nil,i,hi=>by simp at hi
 | _, _, .cons (x:=x) (y:=y) h1 h2,i,hi=>by
  have h5:=h1.all.len;rcases i with _ | i
  ·rw [Nat.zero_mul,List.drop_zero, ←h5,List.take_left];exact h1
  ·have:(x++y).drop ((i+1)*8)=y.drop (i*8):=by
    rw [show(i+1)*8=x.length+i*8 by omega, ←List.drop_drop,List.drop_left]
   rw [this];exact jF.at h2 i (by simpa using hi)
end
end Go.Proofs.YtfgjkmipfikooaaGreatDoor
