/- GD, YA, YB, ZF, MC, YX, Shelf, WG -/
import Derived.Test.YtfgjkmipfikooaaGreatDoorEB01
import Derived.Test.YtfgjkmipfikooaaGreatDoorProg
import Derived.Lib.SmallJoins
import Derived.Shelf.Strings.OnBuilder
import Derived.Shelf.Small.Strs
import Derived.Shelf.Strings.BuilderK
import Derived.Shelf.Strconv.Itoa3
import Derived.Shelf.Strconv.ErrVarAll
import Derived.Shelf.Strings.Shaped
import Derived.Shelf.Strings.SplitShaped
import Derived.Shelf.Strings.FieldsAny
import Derived.Shelf.Unicode.ExclAny
import Derived.Shelf.Slices.Turned
set_option linter.unusedSimpArgs false
set_option linter.unusedVariables false
set_option maxHeartbeats 400000
section
namespace Go.Proofs.YtfgjkmipfikooaaGreatDoor
inductive bC where
 |mk (kind:Int) (name:Bt) (names:List Bt) (kids:List bC):bC
inductive bF where
 |mk (kind:Int) (text:Bt) (n line col:Int) (types:List bC) (names:List Bt) (kids:List bF):bF
def bC.kind:bC->Int |.mk k _ _ _=>k
def bC.name:bC->Bt |.mk _ n _ _=>n
def bC.names:bC->List Bt |.mk _ _ n _=>n
def bC.kids:bC->List bC |.mk _ _ _ k=>k
def eZ (k:Int)(nm:Bt)(ns ks:Nat):Bool:=
 if k=8 then ns+ks==0 && dM nm
 else if nm≠[]∨k<0∨7<k then false
 else if k=5 then ns==ks
 else if k=6 then ns==0 && ks==2
 else if k=7 then ns==0 && decide (2<=ks)
 else ns+ks==0
def aK:Nat->bC->Bool
 |0,_=>false
 |m+1,.mk k nm ns ks=>ns.all dM && ks.all (aK m) && eZ k nm ns.length ks.length
def jc (sep:Bt):List Bt->Bt
 | []=>[]
 | [x]=>x
 |x :: y :: l=>x++(sep++jc sep (y :: l))
def jy (kinds:List Int)(k:Int)(s:Bt):Bt:=if kinds.contains k then [40]++(s++[41])else s
def gI (n s:Bt):Bt:=n++([58,32]++s)
mutual
def cO:bC->Bt
 |.mk k nm ns ks=>
  if k=0 then [97,110,121]
  else if k=1 then [110,117,108,108]
  else if k=2 then [98,111,111,108]
  else if k=3 then [105,110,116]
  else if k=4 then [115,116,114]
  else if k=5 then [123]++(jc [44,32] (List.zipWith gI ns (eT ks))++[125])
  else if k=6 then jy [6] ((ks.map bC.kind).getD 0 0) ((eT ks).getD 0 [])++([32,45,62,32]++(eT ks).getD 1 [])
  else if k=7 then jc [32,124,32] (List.zipWith (jy [6,7]) (ks.map bC.kind) (eT ks))
  else nm
def eT:List bC->List Bt
 | []=>[]
 |t :: l=>cO t :: eT l
end
theorem mG:∀l:List bC,eT l=l.map cO
 | []=>by simp [eT]
 |t :: l=>by simp [eT,mG l]
def jR (l:List bC)(i:Nat):Bt:=match l[i]? with |some t=>[58,32]++cO t |none=>[]
structure Tz where
 name:Bool
 low:Nat
 types:Nat
 kids:Int
 most:Int
def dK (k:Int):Tz:=
 if k=0 then⟨false,0,0,0,9223372036854775807⟩
 else if k=2 then⟨false,0,0,0,1⟩
 else if k=4 then⟨true,0,0,0,0⟩
 else if k=5 then⟨true,0,1,2,0⟩
 else if k=6 then⟨true,1,2,1,0⟩
 else if k=7 then⟨false,0,0,2,0⟩
 else if k=8 then⟨false,0,0,-1,0⟩
 else if k=9 then⟨true,0,0,1,0⟩
 else if k=10 then⟨true,0,0,2,0⟩
 else if k=11 then⟨false,0,0,3,0⟩
 else if k=12 then⟨false,0,0,1,5⟩
 else if k=13 then⟨false,1,1,1,0⟩
 else if k=14 then⟨false,0,0,2,0⟩
 else if k=15∨k=16∨k=17 then⟨false,0,0,1,0⟩
 else if k=19 then⟨true,1,1048576,0,0⟩
 else⟨false,0,0,0,0⟩
def opsL:List Bt:=[[111,114],[97,110,100],[60],[60,61],[61,61],[43,43],[43],[45],[94],[42],[47],[37],[38],[60,60],[62,62]]
def yR (s:Bt):Bool:=decide (s.length<=256) && s.all (fun c=> !(decide (c<32) && c != 9 && c != 10))
def qx (k:Int)(s:Bt)(named:Bool):Bool:=
 if named then dM s else if k=1 then yR s else if k=14 then opsL.contains s else s==[]
def Ca (k:Int)(text:Bt)(n:Int)(types names kids:Nat):Bool:=
 decide (0<=n∧n<=(dK k).most) && qx k text (dK k).name && decide ((dK k).low<=types∧types<=(dK k).types) &&
  (if(dK k).kids<0 then kids==names else names==0 && (kids:Int)==(dK k).kids)
def dx:Nat->bF->Bool
 |0,_=>false
 |m+1,.mk k text n _ _ types names kids=>
  decide (0<=k∧k<20) && Ca k text n types.length names.length kids.length && names.all dM && types.all (aK 16) && kids.all (dx m)
def mg:List Bt:=[[110,117,108,108],[98,111,111,108],[105,110,116],[115,116,114],[114,101,99,111,114,100],[102,117,110,99,116,105,111,110]]
def cat (l:List Bt):Bt:=l.flatMap id
def iC (k:Int)(text:Bt)(n:Int)(types:List bC):Bt:=
 if k=0 then Lib.itoa n
 else if k=1 then mE text
 else if k=2 then(if n=0 then [102,97,108,115,101]else [116,114,117,101])
 else if k=3 then [110,117,108,108]
 else if k=18 then [114,101,97,100,40,41]
 else if k=19 then cat [text,[91],jc [44,32] (types.map cO),[93]]
 else text
def dY (k:Int)(text:Bt)(n:Int)(types:List bC)(names:List Bt)(s:List Bt):Bt:=
 if k=7 then cat [s.getD 0 [],[40],s.getD 1 [],[41]]
 else if k=9 then cat [s.getD 0 [],[46],text]
 else if k=10 then cat [[123],s.getD 0 [],[32,119,105,116,104,32],text,[58,32],s.getD 1 [],[125]]
 else if k=8 then cat [[123],jc [44,32] (List.zipWith gI names s),[125]]
 else if k=17 then cat [[112,114,105,110,116,40],s.getD 0 [],[41]]
 else if k=5 then cat [[40],[108,101,116,32],text,jR types 0,[32,61,32],s.getD 0 [],[59,32],s.getD 1 [],[41]]
 else if k=6 then cat [[40],[102,110,32,40],text,jR types 0,[41],jR types 1,[32,61,62,32],s.getD 0 [],[41]]
 else if k=11 then cat [[40],[105,102,32],s.getD 0 [],[32,116,104,101,110,32],s.getD 1 [],[32,101,108,115,101,32],s.getD 2 [],[41]]
 else if k=12 then cat [[40],s.getD 0 [],[32,105,115,32],mg.getD n.toNat [],[41]]
 else if k=13 then cat [[40],s.getD 0 [],[32,97,115,32],(types.map cO).getD 0 [],[41]]
 else if k=14 then cat [[40],s.getD 0 [],[32],text,[32],s.getD 1 [],[41]]
 else if k=15 then cat [[40],[110,111,116,32],s.getD 0 [],[41]]
 else if k=16 then cat [[40],[45],s.getD 0 [],[41]]
 else iC k text n types
mutual
def fT:bF->Bt
 |.mk k text n _ _ types names kids=>dY k text n types names (fU kids)
def fU:List bF->List Bt
 | []=>[]
 |x :: l=>fT x :: fU l
end
theorem rZ:∀l:List bF,fU l=l.map fT
 | []=>by simp [fU]
 |t :: l=>by simp [fU,rZ l]
def oP (x:bF):Bt:=if dx 25 x then fT x else []
end Go.Proofs.YtfgjkmipfikooaaGreatDoor
namespace Go.Proofs.YtfgjkmipfikooaaGreatDoor
open Go.RowKit
theorem iL {w:World}{B k:Nat}{v:Value}{xs:List Value}(h:Sl w B k v xs):∃A n c,v=.slice A n c:=by
 obtain⟨A,n,c,hv,_⟩:=h;exact⟨A,n,c,hv⟩
theorem bN {w:World}{B k:Nat}{A:Option Addr}{n c:Nat}{xs:List Value}(h:Sl w B k (.slice A n c) xs):xs.length=n*k∧n<=c∧c<=2 ^ 63 - 1:=by
 obtain⟨A',n',c',hv,hl,hn,hc,_⟩:=h;injection hv with e1 e2 e3;subst e1 e2 e3;unfold maxLen at hc;exact⟨hl,hn,hc⟩
theorem dO {w:World}{B k m:Nat}{v:Value}{xs:List Value}(h:Sl w B k v xs)(hk:0<k)(hm:xs.length=m*k):∃A c,v=.slice A m c:=by
 obtain⟨A,n,c,rfl⟩:=iL h;have:=(bN h).1;rw [hm]at this;obtain rfl:m=n:=Nat.eq_of_mul_eq_mul_right hk this;exact⟨A,c,rfl⟩
theorem uT {w:World}{B k:Nat}{xs:List Value}{A:Option Addr}{n c:Nat}(h:Sl w B k (.slice A n c) xs){i:Nat}(hi:i<n)(hk:0<k):
  ∃b off,A=some ⟨b,off,none⟩∧b<B∧∀(j:Nat) u,xs[i*k+j]? =some u->w.cell? ⟨b,off+(i*k+j),none⟩=some u:=by
 obtain⟨A',n',c',hv',hl,hn,hc,hx⟩:=h;injection hv' with e1 e2 e3;subst e1 e2 e3;obtain⟨b,off,hA,hbb,hcell⟩:=hx (by omega);exact⟨b,off,hA,hbb,fun j u hu=>hcell _ u hu⟩
mutual
inductive tQ (w:World) (B:Nat):List Value->bC->Prop
 |mk {k:Int}{nm:Bt}{vn vk:Value}{ns:List Bt}{ks:List bC}{xk:List Value}:Ss w B vn ns->Sl w B 4 vk xk->jo w B xk ks->tQ w B [.int .i64 k,sv nm,vn,vk] (.mk k nm ns ks)
inductive jo (w:World) (B:Nat):List Value->List bC->Prop
 |nil:jo w B [] []
 |cons {x y:List Value}{c:bC}{l:List bC}:tQ w B x c->jo w B y l->jo w B (x++y) (c :: l)
end
mutual
inductive tT (w:World) (B:Nat):List Value->bF->Prop
 |mk {k n line col:Int}{text:Bt}{vt vn vk:Value}{ts:List bC}{xt:List Value}{ns:List Bt}{ks:List bF}{xk:List Value}:Sl w B 4 vt xt->jo w B xt ts->Ss w B vn ns->Sl w B 8 vk xk->nP w B xk ks->
   tT w B [.int .i64 k,sv text,.int .i64 n,.int .i64 line,.int .i64 col,vt,vn,vk] (.mk k text n line col ts ns ks)
inductive nP (w:World) (B:Nat):List Value->List bF->Prop
 |nil:nP w B [] []
 |cons {x y:List Value}{c:bF}{l:List bF}:tT w B x c->nP w B y l->nP w B (x++y) (c :: l)
end
mutual
theorem tQ.keep {w w':World}{B:Nat}{x:List Value}{c:bC}(h:tQ w B x c)(hb:Below B w w'):tQ w' B x c:=
 match h with
 |.mk h1 h2 h3=>.mk (Sl.below h1 hb) (h2.below hb) (h3.keep hb)
theorem jo.keep {w w':World}{B:Nat}{x:List Value}{l:List bC}(h:jo w B x l)(hb:Below B w w'):jo w' B x l:=
 match h with
 |.nil=>.nil
 |.cons h1 h2=>.cons (h1.keep hb) (h2.keep hb)
end
mutual
theorem tQ.more {w:World}{B B':Nat}{x:List Value}{c:bC}(h:tQ w B x c)(hb:B<=B'):tQ w B' x c:=
 match h with
 |.mk h1 h2 h3=>.mk (Sl.more h1 hb) (h2.more hb) (h3.more hb)
theorem jo.more {w:World}{B B':Nat}{x:List Value}{l:List bC}(h:jo w B x l)(hb:B<=B'):jo w B' x l:=
 match h with
 |.nil=>.nil
 |.cons h1 h2=>.cons (h1.more hb) (h2.more hb)
end
theorem tQ.far {W w':World}{B:Nat}{x:List Value}{c:bC}(h:tQ W B x c)(hB:B<=W.heap.size)(hb:Below W.heap.size W w'):tQ w' w'.heap.size x c:=
 (h.keep (hb.mono hB)).more (Nat.le_trans hB hb.size)
theorem jo.far {W w':World}{B:Nat}{x:List Value}{c:List bC}(h:jo W B x c)(hB:B<=W.heap.size)(hb:Below W.heap.size W w'):jo w' w'.heap.size x c:=
 (h.keep (hb.mono hB)).more (Nat.le_trans hB hb.size)
theorem tQ.len {w:World}{B:Nat}{x:List Value}{c:bC}(h:tQ w B x c):x.length=4:=by
 cases h;rfl
theorem jo.length {w:World}{B:Nat}:∀{x:List Value}{l:List bC},jo w B x l->x.length=l.length*4
 |_,_,.nil=>rfl
 |_,_,.cons h1 h2=>by
  have:=h1.len;have:=jo.length h2;rw [List.length_append,List.length_cons];omega
theorem jo.at {w:World}{B:Nat}:∀{x:List Value}{l:List bC},jo w B x l->∀(i:Nat) (hi:i<l.length),tQ w B ((x.drop (i*4)).take 4) l[i]
 |_,_,.nil,i,hi=>by simp at hi
 |_,_,.cons (x:=x) (y:=y) h1 h2,i,hi=>by
  have h5:=h1.len;rcases i with _ |i
  ·rw [Nat.zero_mul,List.drop_zero,<-h5,List.take_left];exact h1
  ·have:(x++y).drop ((i+1)*4)=y.drop (i*4):=by
    rw [show(i+1)*4=x.length+i*4 by omega,<-List.drop_drop,List.drop_left]
   rw [this];exact jo.at h2 i (by simpa using hi)
mutual
theorem tT.keep {w w':World}{B:Nat}{x:List Value}{c:bF}(h:tT w B x c)(hb:Below B w w'):tT w' B x c:=
 match h with
 |.mk h1 h2 h3 h4 h5=>.mk (h1.below hb) (h2.keep hb) (Sl.below h3 hb) (h4.below hb) (h5.keep hb)
theorem nP.keep {w w':World}{B:Nat}{x:List Value}{l:List bF}(h:nP w B x l)(hb:Below B w w'):nP w' B x l:=
 match h with
 |.nil=>.nil
 |.cons h1 h2=>.cons (h1.keep hb) (h2.keep hb)
end
mutual
theorem tT.more {w:World}{B B':Nat}{x:List Value}{c:bF}(h:tT w B x c)(hb:B<=B'):tT w B' x c:=
 match h with
 |.mk h1 h2 h3 h4 h5=>.mk (h1.more hb) (h2.more hb) (Sl.more h3 hb) (h4.more hb) (h5.more hb)
theorem nP.more {w:World}{B B':Nat}{x:List Value}{l:List bF}(h:nP w B x l)(hb:B<=B'):nP w B' x l:=
 match h with
 |.nil=>.nil
 |.cons h1 h2=>.cons (h1.more hb) (h2.more hb)
end
theorem tT.far {W w':World}{B:Nat}{x:List Value}{c:bF}(h:tT W B x c)(hB:B<=W.heap.size)(hb:Below W.heap.size W w'):tT w' w'.heap.size x c:=
 (h.keep (hb.mono hB)).more (Nat.le_trans hB hb.size)
theorem nP.far {W w':World}{B:Nat}{x:List Value}{c:List bF}(h:nP W B x c)(hB:B<=W.heap.size)(hb:Below W.heap.size W w'):nP w' w'.heap.size x c:=
 (h.keep (hb.mono hB)).more (Nat.le_trans hB hb.size)
theorem tT.len {w:World}{B:Nat}{x:List Value}{c:bF}(h:tT w B x c):x.length=8:=by
 cases h;rfl
theorem nP.length {w:World}{B:Nat}:∀{x:List Value}{l:List bF},nP w B x l->x.length=l.length*8
 |_,_,.nil=>rfl
 |_,_,.cons h1 h2=>by
  have:=h1.len;have:=nP.length h2;rw [List.length_append,List.length_cons];omega
theorem nP.at {w:World}{B:Nat}:∀{x:List Value}{l:List bF},nP w B x l->∀(i:Nat) (hi:i<l.length),tT w B ((x.drop (i*8)).take 8) l[i]
 |_,_,.nil,i,hi=>by simp at hi
 |_,_,.cons (x:=x) (y:=y) h1 h2,i,hi=>by
  have h5:=h1.len;rcases i with _ |i
  ·rw [Nat.zero_mul,List.drop_zero,<-h5,List.take_left];exact h1
  ·have:(x++y).drop ((i+1)*8)=y.drop (i*8):=by
    rw [show(i+1)*8=x.length+i*8 by omega,<-List.drop_drop,List.drop_left]
   rw [this];exact nP.at h2 i (by simpa using hi)
theorem tQ.parts {w:World}{B:Nat}{x:List Value}{k:Int}{nm:Bt}{ns:List Bt}{ks:List bC}(h:tQ w B x (.mk k nm ns ks)):
  ∃A1 c1 A2 c2 xk,x=[.int .i64 k,sv nm,.slice A1 ns.length c1,.slice A2 ks.length c2]∧Ss w B (.slice A1 ns.length c1) ns∧Sl w B 4 (.slice A2 ks.length c2) xk∧jo w B xk ks:=by
 cases h with
 |mk h1 h2 h3=>
  obtain⟨A1,c1,rfl⟩:=dO h1 (by omega) (m:=ns.length) (by rw [dV];omega);obtain⟨A2,c2,rfl⟩:=dO h2 (by omega) (m:=ks.length) h3.length;exact⟨A1,c1,A2,c2,_,rfl,h1,h2,h3⟩
theorem tT.parts {w:World}{B:Nat}{x:List Value}{k n line col:Int}{text:Bt}{ts:List bC}{ns:List Bt}{ks:List bF}(h:tT w B x (.mk k text n line col ts ns ks)):
  ∃A1 c1 A2 c2 A3 c3 xt xk,x=[.int .i64 k,sv text,.int .i64 n,.int .i64 line,.int .i64 col,.slice A1 ts.length c1,.slice A2 ns.length c2,.slice A3 ks.length c3]∧Sl w B 4 (.slice A1 ts.length c1) xt∧jo w B xt ts∧Ss w B (.slice A2 ns.length c2) ns∧Sl w B 8 (.slice A3 ks.length c3) xk∧nP w B xk ks:=by
 cases h with
 |mk h1 YQ h2 h3 YR=>
  obtain⟨A1,c1,rfl⟩:=dO h1 (by omega) (m:=ts.length) YQ.length;obtain⟨A2,c2,rfl⟩:=dO h2 (by omega) (m:=ns.length) (by rw [dV];omega);obtain⟨A3,c3,rfl⟩:=dO h3 (by omega) (m:=ks.length) YR.length;exact⟨A1,c1,A2,c2,A3,c3,_,_,rfl,h1,YQ,h2,h3,YR⟩
theorem tQ.shape {w:World}{B:Nat}{x:List Value}{c:bC}(h:tQ w B x c):∃k s A1 n1 c1 A2 n2 c2,x=[.int .i64 k,.string s,.slice A1 n1 c1,.slice A2 n2 c2]:=by
 cases h with
 |mk h1 h2 _=>
  obtain⟨A1,n1,c1,rfl⟩:=iL h1;obtain⟨A2,n2,c2,rfl⟩:=iL h2;exact⟨_,_,_,_,_,_,_,_,rfl⟩
theorem tT.shape {w:World}{B:Nat}{x:List Value}{c:bF}(h:tT w B x c):∃k s n l o A1 n1 c1 A2 n2 c2 A3 n3 c3,x=[.int .i64 k,.string s,.int .i64 n,.int .i64 l,.int .i64 o,.slice A1 n1 c1,.slice A2 n2 c2,.slice A3 n3 c3]:=by
 cases h with
 |mk h1 _ h2 h3 _=>
  obtain⟨A1,n1,c1,rfl⟩:=iL h1;obtain⟨A2,n2,c2,rfl⟩:=iL h2;obtain⟨A3,n3,c3,rfl⟩:=iL h3;exact⟨_,_,_,_,_,_,_,_,_,_,_,_,_,_,rfl⟩
theorem iD {xs ys:List Value}{n m:Nat}(h:(xs.drop n).take m=ys){j:Nat}(hj:j<m):xs[n+j]? =ys[j]? :=by
 rw [<-h,List.getElem?_take,if_pos hj,List.getElem?_drop]
theorem wu {W w':World}{b i:Nat}{v:Value}(h:Below W.heap.size W w')(d:W.cell? ⟨b,i,none⟩=some v)(hb:b<W.heap.size):w'.cell? ⟨b,i,none⟩=some v:=
 (h.cell (p:=⟨b,i,none⟩) hb).trans d
end Go.Proofs.YtfgjkmipfikooaaGreatDoor
namespace Go.Proofs.YtfgjkmipfikooaaGreatDoor
open Go.ChangeShapes Go.WideShapes Go.ChangeAt Go.RowKit
inductive dH {α:Type}(R:List Value->α->Prop) (k:Nat):List Value->List α->Prop
 |nil:dH R k [] []
 |cons {x y:List Value}{c:α}{l:List α}:x.length=k->R x c->dH R k y l->dH R k (x++y) (c :: l)
theorem dH.snoc {α:Type}{R:List Value->α->Prop}{k:Nat}{z:List Value}{c:α}(hz:z.length=k)(hc:R z c):∀{xs:List Value}{ys:List α},dH R k xs ys->dH R k (xs++z) (ys++[c])
 |_,_,.nil=>by have:=dH.cons (R:=R) hz hc .nil;simpa using this
 |_,_,.cons h1 h2 h3=>by rw [List.append_assoc,List.cons_append];exact .cons h1 h2 (dH.snoc hz hc h3)
theorem dH.len {α:Type}{R:List Value->α->Prop}{k:Nat}:∀{xs:List Value}{ys:List α},dH R k xs ys->xs.length=ys.length*k
 |_,_,.nil=>by simp
 |_,_,.cons h1 h2 h3=>by rw [List.length_append,List.length_cons,h1,dH.len h3,Nat.add_mul,Nat.one_mul,Nat.add_comm]
theorem dH.all {α:Type}{R:List Value->α->Prop}{k:Nat}{S:α->Prop}(hS:∀z c,R z c->S c):∀{xs:List Value}{ys:List α},dH R k xs ys->∀y∈ys,S y
 |_,_,.nil,y,hy=>by cases hy
 |_,_,.cons h1 h2 h3,y,hy=>by
  rcases List.mem_cons.1 hy with rfl |hy
  ·exact hS _ _ h2
  ·exact dH.all hS h3 y hy
section
variable {H:Type}{enc:TypeId ×Value->H}{P:Program}{W:World}
theorem open_row {α:Type}{t e:TypeId}{k:Nat}(ht:P.underlying t=some (.slice e))(hc:P.cellsOf e=k)(hk:0<k){fuel:Nat}{v:Value}{x:DataW H ×List MemPlace}(h:DataW.trod enc P W 0 (fun _=>true) true fuel t [v]=some x)
  (R:List Value->α->Prop) (hel:∀n cs' x',n<fuel->DataW.trod enc P W 0 (fun _=>true) true n e cs'=some x'->cs'.length=k->∃y,R cs' y):
  ∃(xs:List Value) (ys:List α),Sl W W.heap.size k v xs∧dH R k xs ys:=by
 rcases DataW.trod_slice ht h with⟨hcs,hx⟩ |⟨a,len,cap,elems,rest,n,hf,hcs,hx,hb,hl,hm,hlen,hcell,_,_⟩
 ·obtain rfl:v=.slice none 0 0:=by simpa using hcs
  exact⟨[],[],Sl.nil _ _ _,.nil⟩
 ·obtain rfl:v=.slice (some a) len cap:=by simpa using hcs
  have hone:∀i,i<len->∃cs' y,W.cells? 0 (a.add (i*k)) k=some cs'∧R cs' y∧cs'.length=k:=by
   intro i hi;have h1:=hcell i hi;rw [hc,List.getElem?_eq_getElem (by omega)]at h1;obtain⟨cs',h2,h3⟩:=Option.bind_eq_some_iff.1 h1;have hcl:=(World.cells?_some h2).2.1;obtain⟨y,hy1⟩:=hel n cs' _ (by omega) h3 hcl;exact⟨cs',y,h2,hy1,hcl⟩
  have hall:∀m,m<=len->∃(xs:List Value) (ys:List α),dH R k xs ys∧ys.length=m∧(∀j u,xs[j]? =some u->W.cell? (a.add j)=some u):=by
   intro m;induction m with
   |zero=>exact fun _=>⟨[],[],.nil,rfl,fun j u hu=>by simp at hu⟩
   |succ m ih=>
    intro hm1;obtain⟨xs,ys,h1,h2,h3⟩:=ih (by omega);obtain⟨cs',y,h5,h6,h7⟩:=hone m (by omega);have hxl:xs.length=m*k:=by rw [h1.len,h2]
    refine⟨xs++cs',ys++[y],h1.snoc h7 h6,by rw [List.length_append,h2];rfl,fun j u hu=>?_⟩;rcases Nat.lt_or_ge j xs.length with hj |hj
    ·rw [List.getElem?_append_left hj]at hu;exact h3 j u hu
    ·rw [List.getElem?_append_right hj]at hu;have hjk:j - xs.length<k:=by
      rcases Nat.lt_or_ge (j - xs.length) k with hlt |hge
      ·exact hlt
      ·rw [List.getElem?_eq_none (by omega)]at hu;cases hu
     have h9:=(World.cells?_some h5).2.2 (j - xs.length) hjk;rw [hu]at h9;have hadd:(a.add (m*k)).add (j - xs.length)=a.add j:=by
      rw [Deep.add_add,<-hxl];congr 1;omega
     rw [hadd]at h9;exact h9
  obtain⟨xs,ys,h1,h2,h3⟩:=hall len (Nat.le_refl _);have hxl:xs.length=len*k:=by rw [h1.len,h2]
  refine⟨xs,ys,⟨some a,len,cap,rfl,hxl,hl,hm,fun h0=>?_⟩,h1⟩;have hp:0<xs.length:=by rw [hxl];exact Nat.mul_pos h0 hk
  have h5:=h3 0 xs[0] (by simp [hp]);obtain⟨b,off,spot⟩:=a;have hspot:spot=none:=by simpa [Addr.add]using World.cell?_spot h5
  subst hspot;refine⟨b,off,rfl,?_,fun j u hu=>?_⟩
  ·rw [jv]at h5;exact World.block_lt_of_cell? W _ h5
  ·have:=h3 j u hu;rw [jv]at this;exact this
end
mutual
def J6:bC->Prop
 |.mk k nm ns ks=>In64 k∧nm.length<=maxLen∧(∀x∈ns,x.length<=maxLen)∧Nh ks
def Nh:List bC->Prop
 | []=>True
 |t :: l=>J6 t∧Nh l
end
theorem Cb:∀{l:List bC},Nh l↔∀x∈l,J6 x
 | []=>by simp [Nh]
 |c :: l=>by
  rw [Nh,Cb (l:=l)];simp
mutual
def GN:bF->Prop
 |.mk k text n line col ts ns ks=>In64 k∧text.length<=maxLen∧In64 n∧In64 line∧In64 col∧(∀x∈ts,J6 x)∧(∀x∈ns,x.length<=maxLen)∧Ni ks
def Ni:List bF->Prop
 | []=>True
 |t :: l=>GN t∧Ni l
end
theorem uj:∀{l:List bF},Ni l↔∀x∈l,GN x
 | []=>by simp [Ni]
 |c :: l=>by
  rw [Ni,uj (l:=l)];simp
section
variable {H:Type}{enc:TypeId ×Value->H}{W:World}
theorem Pq {xs:List Value}{ys:List Bt}(h:dH (fun cs y=>cs=[sv y]∧y.length<=maxLen) 1 xs ys):xs=mW ys∧∀y∈ys,y.length<=maxLen:=by
 refine⟨?_,h.all (S:=fun y=>y.length<=maxLen) fun _ _ h=>h.2⟩;induction h with
 |nil=>rfl
 |cons h1 h2 h3 ih=>rw [ih,h2.1];rfl
theorem L9 {xs:List Value}{ys:List bC}(h:dH (fun cs y=>tQ W W.heap.size cs y∧J6 y) 4 xs ys):jo W W.heap.size xs ys∧∀y∈ys,J6 y:=by
 refine⟨?_,h.all (S:=J6) fun _ _ h=>h.2⟩;induction h with
 |nil=>exact .nil
 |cons h1 h2 h3 ih=>exact .cons h2.1 ih
theorem TA {xs:List Value}{ys:List bF}(h:dH (fun cs y=>tT W W.heap.size cs y∧GN y) 8 xs ys):nP W W.heap.size xs ys∧∀y∈ys,GN y:=by
 refine⟨?_,h.all (S:=GN) fun _ _ h=>h.2⟩;induction h with
 |nil=>exact .nil
 |cons h1 h2 h3 ih=>exact .cons h2.1 ih
theorem Pt {fuel:Nat}{u:Value}{x:DataW H ×List MemPlace}(h:DataW.trod enc Tryz.prog W 0 (fun _=>true) true fuel 3 [u]=some x):∃y,u=.int .i64 y∧In64 y:=by
 obtain⟨n,hn,rfl,hw⟩:=DataW.trod_int Tryz.underlying3 h;exact⟨n,by simpa using hn,Tx hw⟩
theorem V9 {fuel:Nat}{u:Value}{x:DataW H ×List MemPlace}(h:DataW.trod enc Tryz.prog W 0 (fun _=>true) true fuel 9 [u]=some x):∃y:Bt,u=sv y∧y.length<=maxLen:=by
 obtain⟨s,hs,rfl,hm⟩:=DataW.trod_string Tryz.underlying9 h;have e:s.data.toList.length=s.size:=Array.length_toList;have hu:u=.string s:=by simpa using hs
 exact⟨s.data.toList,by rw [hu,YP],by rw [e];exact hm⟩
theorem Ma {fuel:Nat}{v:Value}{x:DataW H ×List MemPlace}(h:DataW.trod enc Tryz.prog W 0 (fun _=>true) true fuel 25 [v]=some x):∃y,Ss W W.heap.size v y∧∀z∈y,z.length<=maxLen:=by
 obtain⟨xs,ys,h1,h2⟩:=open_row Tryz.underlying25 (k:=1) (by kernel_rfl) (by omega) h (fun cs y=>cs=[sv y]∧y.length<=maxLen) (fun n cs' x' _ ht hl=>by
  match cs',hl with
  | [u],_=>
   obtain⟨y,rfl,hy⟩:=V9 ht;exact⟨y,rfl,hy⟩)
 obtain⟨rfl,h4⟩:=Pq h2;exact⟨ys,h1,h4⟩
theorem Nj {t:TypeId}{v:Value}{d:DataW H}{p:List MemPlace}{k:Nat}(hk:1<k)(hu:∃fs,Tryz.prog.underlying t=some (.struct fs))(hc:Tryz.prog.cellsOf t=k)(hd:DataW.Trod enc Tryz.prog W 0 (fun _=>true) true t v d p):∃z:List Value,v=Value.agg z.toArray∧v.cells.toList=z:=by
 obtain⟨fuel,h⟩:=hd;obtain⟨fs,hu⟩:=hu;obtain⟨xs,n,_,_,hl,_⟩:=DataW.trod_struct hu h;rw [hc]at hl;cases v with
 |agg z=>exact⟨z.toList,by simp,rfl⟩
 |_=>simp [Value.cells]at hl;omega
end
end Go.Proofs.YtfgjkmipfikooaaGreatDoor
end
section
namespace Go.Proofs.YtfgjkmipfikooaaGreatDoor
structure uU where
 from_:Bt
 names:List Bt
 line:Int
 col:Int
structure Bv where
 name:Bt
 bound:bC
structure nV where
 name:Bt
 exp:Bool
 vars:List Bv
 param:Bt
 types:List bC
 body:bF
 line:Int
 col:Int
structure yS where
 imps:List uU
 decls:List nV
mutual
def fE:bF->bF
 |.mk k text n _ _ ts ns ks=>.mk k text n 0 0 ts ns (aP ks)
def aP:List bF->List bF
 | []=>[]
 |x :: l=>fE x :: aP l
end
theorem sj:∀l:List bF,aP l=l.map fE
 | []=>by simp [aP]
 |t :: l=>by simp [aP,sj l]
def Pv (i:uU):uU:={ i with line:=0,col:=0}
def Mc (d:nV):nV:={ d with line:=0,col:=0,body:=fE d.body}
def zP (m:yS):yS:=⟨m.imps.map Pv,m.decls.map Mc⟩
end Go.Proofs.YtfgjkmipfikooaaGreatDoor
end
section
namespace Go.Proofs.YtfgjkmipfikooaaGreatDoor
open Go.RowKit
theorem dH.imp {α:Type}{R S:List Value->α->Prop}{k:Nat}(hS:∀z c,R z c->S z c):∀{xs:List Value}{ys:List α},dH R k xs ys->dH S k xs ys
 |_,_,.nil=>.nil
 |_,_,.cons h1 h2 h3=>.cons h1 (hS _ _ h2) (dH.imp hS h3)
theorem dH.at {α:Type}{R:List Value->α->Prop}{k:Nat}:∀{xs:List Value}{ys:List α},dH R k xs ys->∀(i:Nat) (hi:i<ys.length),R ((xs.drop (i*k)).take k) ys[i]
 |_,_,.nil,i,hi=>by simp at hi
 |_,_,.cons (x:=x) (y:=y) h1 h2 h3,i,hi=>by
  rcases i with _ |i
  ·rw [Nat.zero_mul,List.drop_zero,<-h1,List.take_left];exact h2
  ·have:(x++y).drop ((i+1)*k)=y.drop (i*k):=by
    rw [show(i+1)*k=x.length+i*k by rw [h1,Nat.add_mul,Nat.one_mul,Nat.add_comm],<-List.drop_drop,List.drop_left]
   rw [this];exact dH.at h3 i (by simpa using hi)
theorem dH.and {α:Type}{R S:List Value->α->Prop}{k:Nat}:∀{xs:List Value}{ys:List α},dH (fun z c=>R z c∧S z c) k xs ys->dH R k xs ys∧dH S k xs ys
 |_,_,.nil=>⟨.nil,.nil⟩
 |_,_,.cons h1 h2 h3=>⟨.cons h1 h2.1 (dH.and h3).1,.cons h1 h2.2 (dH.and h3).2⟩
theorem dH.app {α:Type}{R:List Value->α->Prop}{k:Nat}{xt:List Value}{yt:List α}(h:dH R k xt yt):∀{xs:List Value}{ys:List α},dH R k xs ys->dH R k (xs++xt) (ys++yt)
 |_,_,.nil=>h
 |_,_,.cons h1 h2 h3=>by rw [List.append_assoc,List.cons_append];exact .cons h1 h2 (dH.app h h3)
def Nk (w:World)(B:Nat)(z:List Value)(i:uU):Prop:=∃vn,z=[sv i.from_,vn,.int .i64 i.line,.int .i64 i.col]∧Ss w B vn i.names
def JO (w:World)(B:Nat)(z:List Value)(v:Bv):Prop:=∃y,z=sv v.name :: y∧tQ w B y v.bound
def Bw (w:World)(B:Nat)(z:List Value)(d:nV):Prop:=
 ∃vv xv vt xt y,z=[sv d.name,.bool d.exp,vv,sv d.param,vt]++(y++[.int .i64 d.line,.int .i64 d.col])∧Sl w B 5 vv xv∧dH (JO w B) 5 xv d.vars∧Sl w B 4 vt xt∧jo w B xt d.types∧tT w B y d.body
def Gr (w:World)(B:Nat)(z:List Value)(m:yS):Prop:=
 ∃vi xi vd xd,z=[vi,vd]∧Sl w B 4 vi xi∧dH (Nk w B) 4 xi m.imps∧Sl w B 15 vd xd∧dH (Bw w B) 15 xd m.decls
section
variable {w w':World}{B B':Nat}{z:List Value}
theorem Nk.keep {i:uU}(h:Nk w B z i)(hb:Below B w w'):Nk w' B z i:=by
 obtain⟨vn,e,h1⟩:=h;exact⟨vn,e,h1.below hb⟩
theorem Nk.more {i:uU}(h:Nk w B z i)(hb:B<=B'):Nk w B' z i:=by
 obtain⟨vn,e,h1⟩:=h;exact⟨vn,e,h1.more hb⟩
theorem JO.keep {i:Bv}(h:JO w B z i)(hb:Below B w w'):JO w' B z i:=by
 obtain⟨vn,e,h1⟩:=h;exact⟨vn,e,h1.keep hb⟩
theorem JO.more {i:Bv}(h:JO w B z i)(hb:B<=B'):JO w B' z i:=by
 obtain⟨vn,e,h1⟩:=h;exact⟨vn,e,h1.more hb⟩
theorem Bw.keep {i:nV}(h:Bw w B z i)(hb:Below B w w'):Bw w' B z i:=by
 obtain⟨vv,xv,vt,xt,y,e,h1,h2,h3,h4,h5⟩:=h;exact⟨vv,xv,vt,xt,y,e,Sl.below h1 hb,h2.imp fun _ _ h=>h.keep hb,Sl.below h3 hb,h4.keep hb,h5.keep hb⟩
theorem Bw.more {i:nV}(h:Bw w B z i)(hb:B<=B'):Bw w B' z i:=by
 obtain⟨vv,xv,vt,xt,y,e,h1,h2,h3,h4,h5⟩:=h;exact⟨vv,xv,vt,xt,y,e,Sl.more h1 hb,h2.imp fun _ _ h=>h.more hb,Sl.more h3 hb,h4.more hb,h5.more hb⟩
theorem Gr.keep {i:yS}(h:Gr w B z i)(hb:Below B w w'):Gr w' B z i:=by
 obtain⟨vi,xi,vd,xd,e,h1,h2,h3,h4⟩:=h;exact⟨vi,xi,vd,xd,e,Sl.below h1 hb,h2.imp fun _ _ h=>h.keep hb,Sl.below h3 hb,h4.imp fun _ _ h=>h.keep hb⟩
theorem Gr.more {i:yS}(h:Gr w B z i)(hb:B<=B'):Gr w B' z i:=by
 obtain⟨vi,xi,vd,xd,e,h1,h2,h3,h4⟩:=h;exact⟨vi,xi,vd,xd,e,Sl.more h1 hb,h2.imp fun _ _ h=>h.more hb,Sl.more h3 hb,h4.imp fun _ _ h=>h.more hb⟩
theorem Gr.far {i:yS}(h:Gr w B z i)(hB:B<=w.heap.size)(hb:Below w.heap.size w w'):Gr w' w'.heap.size z i:=
 (h.keep (hb.mono hB)).more (Nat.le_trans hB hb.size)
theorem Bw.far {i:nV}(h:Bw w B z i)(hB:B<=w.heap.size)(hb:Below w.heap.size w w'):Bw w' w'.heap.size z i:=
 (h.keep (hb.mono hB)).more (Nat.le_trans hB hb.size)
theorem Bw.len {d:nV}(h:Bw w B z d):z.length=15:=by
 obtain⟨vv,xv,vt,xt,y,rfl,_,_,_,_,h5⟩:=h;have:=h5.len;simp only [List.length_append,List.length_cons,List.length_nil];omega
theorem JO.len {d:Bv}(h:JO w B z d):z.length=5:=by
 obtain⟨y,rfl,h5⟩:=h;have:=h5.len;simp only [List.length_cons];omega
theorem Bw.parts {d:nV}(h:Bw w B z d):
  ∃A1 c1 A2 c2 k s n l c A3 n3 c3 A4 n4 c4 A5 n5 c5 xv xt,z=[sv d.name,.bool d.exp,.slice A1 d.vars.length c1,sv d.param,.slice A2 d.types.length c2,.int .i64 k,.string s,.int .i64 n,.int .i64 l,.int .i64 c,.slice A3 n3 c3,.slice A4 n4 c4,.slice A5 n5 c5,.int .i64 d.line,.int .i64 d.col]∧
   Sl w B 5 (.slice A1 d.vars.length c1) xv∧dH (JO w B) 5 xv d.vars∧Sl w B 4 (.slice A2 d.types.length c2) xt∧jo w B xt d.types∧tT w B [.int .i64 k,.string s,.int .i64 n,.int .i64 l,.int .i64 c,.slice A3 n3 c3,.slice A4 n4 c4,.slice A5 n5 c5] d.body:=by
 obtain⟨vv,xv,vt,xt,y,rfl,h1,h2,h3,h4,h5⟩:=h;obtain⟨A1,c1,rfl⟩:=dO h1 (by omega) (m:=d.vars.length) h2.len;obtain⟨A2,c2,rfl⟩:=dO h3 (by omega) (m:=d.types.length) h4.length;obtain⟨k,s,n,l,c,A3,n3,c3,A4,n4,c4,A5,n5,c5,rfl⟩:=h5.shape;exact⟨A1,c1,A2,c2,k,s,n,l,c,A3,n3,c3,A4,n4,c4,A5,n5,c5,xv,xt,rfl,h1,h2,h3,h4,h5⟩
theorem Gr.parts {m:yS}(h:Gr w B z m):
  ∃A1 c1 A2 c2 xi xd,z=[.slice A1 m.imps.length c1,.slice A2 m.decls.length c2]∧Sl w B 4 (.slice A1 m.imps.length c1) xi∧dH (Nk w B) 4 xi m.imps∧Sl w B 15 (.slice A2 m.decls.length c2) xd∧dH (Bw w B) 15 xd m.decls:=by
 obtain⟨vi,xi,vd,xd,rfl,h1,h2,h3,h4⟩:=h;obtain⟨A1,c1,rfl⟩:=dO h1 (by omega) (m:=m.imps.length) h2.len;obtain⟨A2,c2,rfl⟩:=dO h3 (by omega) (m:=m.decls.length) h4.len;exact⟨A1,c1,A2,c2,xi,xd,rfl,h1,h2,h3,h4⟩
end
theorem Pw {z xs:List Value}{i k j:Nat}{v:Value}(hz:(xs.drop (i*k)).take k=z)(hj:z[j]? =some v):xs[i*k+j]? =some v:=by
 subst hz;rw [List.getElem?_take]at hj;split at hj
 ·rw [List.getElem?_drop]at hj;exact hj
 ·cases hj
theorem Fy {α:Type}{R:List Value->α->Prop}{w:World}{B k:Nat}{A:Option Addr}{n c:Nat}{xs:List Value}{l:List α}(hs:Sl w B k (.slice A n c) xs)(hr:dH R k xs l)(hk:0<k){i:Nat}(hi:i<l.length)(hn:n=l.length):
  ∃b o z,A=some ⟨b,o,none⟩∧b<B∧R z l[i]∧∀(j:Nat) v,z[j]? =some v->w.cell? ⟨b,o+i*k+j,none⟩=some v:=by
 subst hn;obtain⟨b1,o1,rfl,hb1,hc1⟩:=uT hs hi hk;exact⟨b1,o1,_,rfl,hb1,hr.at i hi,fun j v hv=>by have:=hc1 j v (Pw rfl hv);rwa [<-Nat.add_assoc]at this⟩
end Go.Proofs.YtfgjkmipfikooaaGreatDoor
end
section
namespace Go.Proofs.YtfgjkmipfikooaaGreatDoor
open Go.RowKit
def eD (w:World)(F:Nat->Prop)(k:Nat)(v:Value)(xs:List Value):Prop:=
 ∃(A:Option Addr) (n c:Nat),v=.slice A n c∧xs.length=n*k∧n<=c∧c<=maxLen∧
  (0<n->∃b off,A=some ⟨b,off,none⟩∧F b∧b<w.heap.size∧∀(j:Nat) u,xs[j]? =some u->w.cell? ⟨b,off+j,none⟩=some u)
section
variable {w w':World}{F G:Nat->Prop}{B k:Nat}{v:Value}{xs:List Value}
theorem eD.turn (h:eD w F k v xs)(t:Turn G w w')(hd:∀g,g<w.heap.size->F g->¬G g):eD w' F k v xs:=by
 obtain⟨A,n,c,hv,hl,hn,hc,hx⟩:=h;refine⟨A,n,c,hv,hl,hn,hc,fun h0=>?_⟩;obtain⟨b,off,hA,hb,hs,hcell⟩:=hx h0;refine⟨b,off,hA,hb,t.lt hs,fun j u hu=>?_⟩;rw [<-hcell j u hu];have h1:=t.block hs (hd b hs hb);simp only [World.cell?,h1]
theorem eD.mono (h:eD w F k v xs)(hF:∀g,g<w.heap.size->F g->G g):eD w G k v xs:=by
 obtain⟨A,n,c,hv,hl,hn,hc,hx⟩:=h;refine⟨A,n,c,hv,hl,hn,hc,fun h0=>?_⟩;obtain⟨b,off,hA,hb,hs,hcell⟩:=hx h0;exact⟨b,off,hA,hF b hs hb,hs,hcell⟩
theorem eD.of (h:Sl w B k v xs)(hB:B<=w.heap.size):eD w (· <B) k v xs:=by
 obtain⟨A,n,c,hv,hl,hn,hc,hx⟩:=h;refine⟨A,n,c,hv,hl,hn,hc,fun h0=>?_⟩;obtain⟨b,off,hA,hb,hcell⟩:=hx h0;exact⟨b,off,hA,hb,Nat.lt_of_lt_of_le hb hB,hcell⟩
theorem eD.to (h:eD w F k v xs)(hF:∀g,g<w.heap.size->F g->g<B):Sl w B k v xs:=by
 obtain⟨A,n,c,hv,hl,hn,hc,hx⟩:=h;refine⟨A,n,c,hv,hl,hn,hc,fun h0=>?_⟩;obtain⟨b,off,hA,hb,hs,hcell⟩:=hx h0;exact⟨b,off,hA,hF b hs hb,hcell⟩
theorem eD.all (h:eD w F k v xs):Sl w w.heap.size k v xs:=h.to fun _ hg _=>hg
theorem eD.nil (w:World)(F:Nat->Prop)(k:Nat):eD w F k (.slice none 0 0) []:=
 ⟨none,0,0,rfl,by simp,Nat.le_refl _,Nat.zero_le _,fun h=>absurd h (by omega)⟩
theorem eD.own {base:Nat}{e:TypeId}{n:Nat}(h:w.ownsRow base e k v n xs)(hF:∀g,v.ownBlock=some g->F g):eD w F k v xs:=by
 have h1:=Sl.wh h;obtain⟨A,n',c,hv,hl,hn,hc,hx⟩:=h1;refine⟨A,n',c,hv,hl,hn,hc,fun h0=>?_⟩;obtain⟨b,off,hA,hb,hcell⟩:=hx h0;exact⟨b,off,hA,hF b (by subst hv hA;rfl),hb,hcell⟩
theorem eD.below (h:eD w F k v xs)(hb:Below w.heap.size w w'):eD w' F k v xs:=h.turn (Turn.of_below (F:=fun _=>False) hb) fun _ _ _ h=>h
end
mutual
inductive nY (w:World) (F:Nat->Prop):List Value->bC->Prop
 |mk {k:Int}{nm:Bt}{vn vk:Value}{ns:List Bt}{ks:List bC}{xk:List Value}:eD w F 1 vn (mW ns)->eD w F 4 vk xk->lI w F xk ks->nY w F [.int .i64 k,sv nm,vn,vk] (.mk k nm ns ks)
inductive lI (w:World) (F:Nat->Prop):List Value->List bC->Prop
 |nil:lI w F [] []
 |cons {x y:List Value}{c:bC}{l:List bC}:nY w F x c->lI w F y l->lI w F (x++y) (c :: l)
end
mutual
inductive mX (w:World) (F:Nat->Prop):List Value->bF->Prop
 |mk {k n line col:Int}{text:Bt}{vt vn vk:Value}{ts:List bC}{xt:List Value}{ns:List Bt}{ks:List bF}{xk:List Value}:eD w F 4 vt xt->lI w F xt ts->eD w F 1 vn (mW ns)->eD w F 8 vk xk->jL w F xk ks->
   mX w F [.int .i64 k,sv text,.int .i64 n,.int .i64 line,.int .i64 col,vt,vn,vk] (.mk k text n line col ts ns ks)
inductive jL (w:World) (F:Nat->Prop):List Value->List bF->Prop
 |nil:jL w F [] []
 |cons {x y:List Value}{c:bF}{l:List bF}:mX w F x c->jL w F y l->jL w F (x++y) (c :: l)
end
section
variable {w w':World}{F G:Nat->Prop}{B:Nat}
mutual
theorem nY.turn {x:List Value}{c:bC}(h:nY w F x c)(t:Turn G w w')(hd:∀g,g<w.heap.size->F g->¬G g):nY w' F x c:=
 match h with
 |.mk h1 h2 h3=>.mk (h1.turn t hd) (h2.turn t hd) (h3.turn t hd)
theorem lI.turn {x:List Value}{l:List bC}(h:lI w F x l)(t:Turn G w w')(hd:∀g,g<w.heap.size->F g->¬G g):lI w' F x l:=
 match h with
 |.nil=>.nil
 |.cons h1 h2=>.cons (h1.turn t hd) (h2.turn t hd)
end
mutual
theorem nY.mono {x:List Value}{c:bC}(h:nY w F x c)(hF:∀g,g<w.heap.size->F g->G g):nY w G x c:=
 match h with
 |.mk h1 h2 h3=>.mk (h1.mono hF) (h2.mono hF) (h3.mono hF)
theorem lI.mono {x:List Value}{l:List bC}(h:lI w F x l)(hF:∀g,g<w.heap.size->F g->G g):lI w G x l:=
 match h with
 |.nil=>.nil
 |.cons h1 h2=>.cons (h1.mono hF) (h2.mono hF)
end
mutual
theorem nY.of {x:List Value}{c:bC}(h:tQ w B x c)(hB:B<=w.heap.size):nY w (· <B) x c:=
 match h with
 |.mk h1 h2 h3=>.mk (eD.of h1 hB) (eD.of h2 hB) (lI.of h3 hB)
theorem lI.of {x:List Value}{l:List bC}(h:jo w B x l)(hB:B<=w.heap.size):lI w (· <B) x l:=
 match h with
 |.nil=>.nil
 |.cons h1 h2=>.cons (nY.of h1 hB) (lI.of h2 hB)
end
mutual
theorem nY.to {x:List Value}{c:bC}(h:nY w F x c)(hF:∀g,g<w.heap.size->F g->g<B):tQ w B x c:=
 match h with
 |.mk h1 h2 h3=>.mk (h1.to hF) (h2.to hF) (h3.to hF)
theorem lI.to {x:List Value}{l:List bC}(h:lI w F x l)(hF:∀g,g<w.heap.size->F g->g<B):jo w B x l:=
 match h with
 |.nil=>.nil
 |.cons h1 h2=>.cons (h1.to hF) (h2.to hF)
end
mutual
theorem mX.turn {x:List Value}{c:bF}(h:mX w F x c)(t:Turn G w w')(hd:∀g,g<w.heap.size->F g->¬G g):mX w' F x c:=
 match h with
 |.mk h1 h2 h3 h4 h5=>.mk (h1.turn t hd) (h2.turn t hd) (h3.turn t hd) (h4.turn t hd) (h5.turn t hd)
theorem jL.turn {x:List Value}{l:List bF}(h:jL w F x l)(t:Turn G w w')(hd:∀g,g<w.heap.size->F g->¬G g):jL w' F x l:=
 match h with
 |.nil=>.nil
 |.cons h1 h2=>.cons (h1.turn t hd) (h2.turn t hd)
end
mutual
theorem mX.mono {x:List Value}{c:bF}(h:mX w F x c)(hF:∀g,g<w.heap.size->F g->G g):mX w G x c:=
 match h with
 |.mk h1 h2 h3 h4 h5=>.mk (h1.mono hF) (h2.mono hF) (h3.mono hF) (h4.mono hF) (h5.mono hF)
theorem jL.mono {x:List Value}{l:List bF}(h:jL w F x l)(hF:∀g,g<w.heap.size->F g->G g):jL w G x l:=
 match h with
 |.nil=>.nil
 |.cons h1 h2=>.cons (h1.mono hF) (h2.mono hF)
end
mutual
theorem mX.of {x:List Value}{c:bF}(h:tT w B x c)(hB:B<=w.heap.size):mX w (· <B) x c:=
 match h with
 |.mk h1 h2 h3 h4 h5=>.mk (eD.of h1 hB) (lI.of h2 hB) (eD.of h3 hB) (eD.of h4 hB) (jL.of h5 hB)
theorem jL.of {x:List Value}{l:List bF}(h:nP w B x l)(hB:B<=w.heap.size):jL w (· <B) x l:=
 match h with
 |.nil=>.nil
 |.cons h1 h2=>.cons (mX.of h1 hB) (jL.of h2 hB)
end
mutual
theorem mX.to {x:List Value}{c:bF}(h:mX w F x c)(hF:∀g,g<w.heap.size->F g->g<B):tT w B x c:=
 match h with
 |.mk h1 h2 h3 h4 h5=>.mk (h1.to hF) (h2.to hF) (h3.to hF) (h4.to hF) (h5.to hF)
theorem jL.to {x:List Value}{l:List bF}(h:jL w F x l)(hF:∀g,g<w.heap.size->F g->g<B):nP w B x l:=
 match h with
 |.nil=>.nil
 |.cons h1 h2=>.cons (h1.to hF) (h2.to hF)
end
theorem nY.all {x:List Value}{c:bC}(h:nY w F x c):tQ w w.heap.size x c:=h.to fun _ hg _=>hg
theorem lI.all {x:List Value}{c:List bC}(h:lI w F x c):jo w w.heap.size x c:=h.to fun _ hg _=>hg
theorem mX.all {x:List Value}{c:bF}(h:mX w F x c):tT w w.heap.size x c:=h.to fun _ hg _=>hg
theorem jL.all {x:List Value}{c:List bF}(h:jL w F x c):nP w w.heap.size x c:=h.to fun _ hg _=>hg
theorem nY.Wd {x:List Value}{c:bC}(h:nY w F x c)(hb:Below w.heap.size w w'):nY w' F x c:=h.turn (Turn.of_below (F:=fun _=>False) hb) fun _ _ _ h=>h
theorem lI.Wd {x:List Value}{c:List bC}(h:lI w F x c)(hb:Below w.heap.size w w'):lI w' F x c:=h.turn (Turn.of_below (F:=fun _=>False) hb) fun _ _ _ h=>h
theorem mX.Wd {x:List Value}{c:bF}(h:mX w F x c)(hb:Below w.heap.size w w'):mX w' F x c:=h.turn (Turn.of_below (F:=fun _=>False) hb) fun _ _ _ h=>h
theorem jL.Wd {x:List Value}{c:List bF}(h:jL w F x c)(hb:Below w.heap.size w w'):jL w' F x c:=h.turn (Turn.of_below (F:=fun _=>False) hb) fun _ _ _ h=>h
theorem lI.snoc {y:List Value}{c:bC}(hc:nY w F y c):∀{x:List Value}{l:List bC},lI w F x l->lI w F (x++y) (l++[c])
 |_,_,.nil=>by simpa using lI.cons hc .nil
 |_,_,.cons h1 h2=>by rw [List.append_assoc,List.cons_append];exact .cons h1 (lI.snoc hc h2)
theorem jL.snoc {y:List Value}{c:bF}(hc:mX w F y c):∀{x:List Value}{l:List bF},jL w F x l->jL w F (x++y) (l++[c])
 |_,_,.nil=>by simpa using jL.cons hc .nil
 |_,_,.cons h1 h2=>by rw [List.append_assoc,List.cons_append];exact .cons h1 (jL.snoc hc h2)
theorem jL.at:∀{x:List Value}{l:List bF},jL w F x l->∀(i:Nat) (hi:i<l.length),mX w F ((x.drop (i*8)).take 8) l[i]
 |_,_,.nil,i,hi=>by simp at hi
 |_,_,.cons (x:=x) (y:=y) h1 h2,i,hi=>by
  have h5:=h1.all.len;rcases i with _ |i
  ·rw [Nat.zero_mul,List.drop_zero,<-h5,List.take_left];exact h1
  ·have:(x++y).drop ((i+1)*8)=y.drop (i*8):=by
    rw [show(i+1)*8=x.length+i*8 by omega,<-List.drop_drop,List.drop_left]
   rw [this];exact jL.at h2 i (by simpa using hi)
end
end Go.Proofs.YtfgjkmipfikooaaGreatDoor
end
section
namespace Go.Proofs.YtfgjkmipfikooaaGreatDoor
open Go.RowKit
theorem bD {P:Program}{fn:Func}{t:Tmp}{T:TypeId}{tmps:Array Value}{w:World}{b:Nat}{cs:Array Value}{S:TypeId}{d:TypeDesc}(h:fn.results= #[.cell t T])(ht:tmps.getD t undef=.pointer (some ⟨b,0,none⟩))(hb:w.heap[b]? =some (.cells cs S (0,0)))
  (hu:P.underlying T=some d) (hd:(match d with |.struct _ |.array _ _=>true |_=>false)=true) (hi:(P.info? T).map (·.size)=some cs.size):(results fn tmps).run P w=.ok (.agg cs) w:=by
 have h1:=run_loadVar_row (P:=P) w b S T cs (0,0) d hb hu hd hi;have e:tmps[t]?.getD undef=.pointer (some ⟨b,0,none⟩):=by simpa using ht
 have h2:(asAddr (.pointer (some ⟨b,0,none⟩))).run P w=.ok ⟨b,0,none⟩ w:=rfl;simp [results,h,e,h1,h2]
end Go.Proofs.YtfgjkmipfikooaaGreatDoor
end
section
namespace Go.Proofs.YtfgjkmipfikooaaGreatDoor
open Go.RowKit
theorem mH {w:World}{base:Nat}{e:TypeId}{k:Nat}{v:Value}{n:Nat}{xs:List Value}(h:w.ownsRow base e k v n xs):∃ao n' cap,v=.slice ao n' cap:=by
 rcases h.2 with⟨hv,_⟩ |⟨g,cap,cur,hv,_⟩
 ·exact⟨_,_,_,hv⟩
 ·exact⟨_,_,_,hv⟩
theorem TB:ku Tryz.prog 50 52 (.agg #[.int .i64 0,.string ByteArray.empty,.int .i64 0,.int .i64 0,.int .i64 0,.slice none 0 0,.slice none 0 0,.slice none 0 0]) 8 120:=⟨Tryz.underlying50,by kernel_rfl,rfl,by omega⟩
theorem TD:ku Tryz.prog 38 64 (.agg #[.string ByteArray.empty,.bool false,.slice none 0 0,.string ByteArray.empty,.slice none 0 0,.int .i64 0,.string ByteArray.empty,.int .i64 0,.int .i64 0,.int .i64 0,.slice none 0 0,.slice none 0 0,.slice none 0 0,.int .i64 0,.int .i64 0]) 15 224:=⟨Tryz.underlying38,by kernel_rfl,rfl,by omega⟩
theorem Nl:ku Tryz.prog 37 85 (.agg #[.string ByteArray.empty,.slice none 0 0,.int .i64 0,.int .i64 0]) 4 56:=⟨Tryz.underlying37,by kernel_rfl,rfl,by omega⟩
end Go.Proofs.YtfgjkmipfikooaaGreatDoor
end
section
namespace Go.Proofs
open Go.Shelf
def Tryz.lays156_ren:Go.Shelf.Ren:=⟨fun |156=>69 |165=>134 |166=>68 |169=>72 |240=>133 |241=>184 |276=>183 |277=>209 |n=>n,fun |31=>25 |9=>9 |3=>3 |4=>4 |0=>0 |20=>20 |72=>114 |76=>117 |70=>111 |37=>112 |75=>116 |127=>189 |164=>221 |5=>5 |80=>122 |n=>n,fun |n=>n⟩
theorem Tryz.lays156:Go.Proofs.Lays.n156 Tryz.prog Tryz.lays156_ren:={
 mixed:=by kernel_rfl
 f156:=Tryz.func69.trans (congrArg some (by kernel_rfl))
 f165:=Tryz.func134.trans (congrArg some (by kernel_rfl))
 f166:=Tryz.func68.trans (congrArg some (by kernel_rfl))
 f169:=Tryz.func72.trans (congrArg some (by kernel_rfl))
 f240:=Tryz.func133.trans (congrArg some (by kernel_rfl))
 f241:=Tryz.func184.trans (congrArg some (by kernel_rfl))
 f276:=Tryz.func183.trans (congrArg some (by kernel_rfl))
 f277:=Tryz.func209.trans (congrArg some (by kernel_rfl))
 t0:=Tryz.underlying0
 a0:=Tryz.isAgg0
 z0:=Tryz.sizeOf0
 v0:=Tryz.zeroValue0
 t3:=Tryz.underlying3
 a3:=Tryz.isAgg3
 z3:=Tryz.sizeOf3
 v3:=Tryz.zeroValue3
 t4:=Tryz.underlying4
 a4:=Tryz.isAgg4
 z4:=Tryz.sizeOf4
 v4:=Tryz.zeroValue4
 t9:=Tryz.underlying9
 a9:=Tryz.isAgg9
 z9:=Tryz.sizeOf9
 v9:=Tryz.zeroValue9
 t20:=Tryz.underlying20
 a20:=Tryz.isAgg20
 z20:=Tryz.sizeOf20
 v20:=Tryz.zeroValue20
 t31:=Tryz.underlying25
 a31:=Tryz.isAgg25
 z31:=Tryz.sizeOf25
 v31:=Tryz.zeroValue25
 t37:=Tryz.underlying112
 a37:=Tryz.isAgg112
 z37:=Tryz.sizeOf112
 v37:=Tryz.zeroValue112
 t70:=Tryz.underlying111
 a70:=Tryz.isAgg111
 z70:=Tryz.sizeOf111
 v70:=Tryz.zeroValue111
 t72:=Tryz.underlying114
 a72:=Tryz.isAgg114
 z72:=Tryz.sizeOf114
 v72:=Tryz.zeroValue114
 t75:=Tryz.underlying116
 a75:=Tryz.isAgg116
 z75:=Tryz.sizeOf116
 v75:=Tryz.zeroValue116
 t76:=Tryz.underlying117
 a76:=Tryz.isAgg117
 z76:=Tryz.sizeOf117
 v76:=Tryz.zeroValue117
 t127:=Tryz.underlying189
 a127:=Tryz.isAgg189
 z127:=Tryz.sizeOf189
 v127:=Tryz.zeroValue189
 t164:=Tryz.underlying221
 a164:=Tryz.isAgg221
 z164:=Tryz.sizeOf221
 v164:=Tryz.zeroValue221}
theorem Tryz.Builder_Extra_156:Builder.Extra Tryz.prog Tryz.lays156_ren:={
 sizeBuilder:=by kernel_rfl
 liesBuilder:=by kernel_rfl
 t5:=Tryz.underlying5
 a5:=Tryz.isAgg5
 z5:=Tryz.sizeOf5
 v5:=Tryz.zeroValue5
 infoByte:=by kernel_rfl
 cellsByte:=by kernel_rfl
 sizeByte:=by kernel_rfl
 neB5:=by decide}
open Go.RowKit in
theorem Tryz.strings_Join_none (a:Option Addr)(c:Nat)(sep:ByteArray)(w:World):
  Calls Tryz.prog 69 #[.slice a 0 c,.string sep] w fun e w'=>e=.returned (.string ⟨#[]⟩)∧w'=w:=Any.strings_Join_none Tryz.lays156 Tryz.Builder_Extra_156 a c sep w
open Go.RowKit in
theorem Tryz.strings_Join (bk o c:Nat)(xs:List ByteArray)(sep:ByteArray)(w:World)(hcells:∀(j:Nat) x,xs[j]? =some x->w.cell? ⟨bk,o+j,none⟩=some (.string x))(hbk:bk<w.heap.size)(hN:xs.length<=140737488355328)(hcap:xs.length<=c)(hlen:(Lib.join (xs.map (·.data.toList)) sep.data.toList).length<=140737488355328):
  Calls Tryz.prog 69 #[.slice (some ⟨bk,o,none⟩) xs.length c,.string sep] w fun e w'=>e=.returned (.string ⟨(Lib.join (xs.map (·.data.toList)) sep.data.toList).toArray⟩)∧Below w.heap.size w w':=Any.strings_Join Tryz.lays156 Tryz.Builder_Extra_156 bk o c xs sep w hcells hbk hN hcap hlen
def Tryz.lays137_ren:Go.Shelf.Ren:=⟨fun |137=>214 |217=>223 |266=>236 |n=>n,fun |9=>9 |5=>5 |3=>3 |n=>n,fun |n=>n⟩
theorem Tryz.lays137:Go.Proofs.Lays.n137 Tryz.prog Tryz.lays137_ren:={
 mixed:=by kernel_rfl
 f137:=Tryz.func214.trans (congrArg some (by kernel_rfl))
 f217:=Tryz.func223.trans (congrArg some (by kernel_rfl))
 f266:=Tryz.func236.trans (congrArg some (by kernel_rfl))
 t3:=Tryz.underlying3
 a3:=Tryz.isAgg3
 z3:=Tryz.sizeOf3
 v3:=Tryz.zeroValue3
 t5:=Tryz.underlying5
 a5:=Tryz.isAgg5
 z5:=Tryz.sizeOf5
 v5:=Tryz.zeroValue5
 t9:=Tryz.underlying9
 a9:=Tryz.isAgg9
 z9:=Tryz.sizeOf9
 v9:=Tryz.zeroValue9}
open Go.RowKit in
theorem Tryz.strings_IndexByte (s:ByteArray)(c:Int)(w:World):
  Calls Tryz.prog 214 #[.string s,.int .u8 c] w fun e w'=>e=.returned (.int .i64 (Lib.indexByte s.data.toList c.toNat.toUInt8))∧w'=w:=Any.strings_IndexByte Tryz.lays137 s c w
def Tryz.laysM171_ren:Go.Shelf.Ren:=⟨fun |171=>203 |243=>218 |246=>228 |283=>241 |284=>242 |285=>243 |286=>244 |129=>257 |317=>256 |318=>258 |319=>259 |320=>260 |337=>270 |338=>271 |n=>n,fun |3=>3 |9=>9 |2=>2 |4=>4 |171=>278 |0=>0 |53=>238 |37=>112 |5=>5 |173=>281 |212=>308 |51=>243 |20=>20 |213=>309 |46=>298 |232=>347 |233=>348 |n=>n,fun |17=>3 |18=>6 |19=>7 |n=>n⟩
theorem Tryz.laysM171:Go.Proofs.LaysM.n171 Tryz.prog Tryz.laysM171_ren:={
 mixed:=by kernel_rfl
 f129:=Tryz.func257.trans (congrArg some (by kernel_rfl))
 f171:=Tryz.func203.trans (congrArg some (by kernel_rfl))
 f243:=Tryz.func218.trans (congrArg some (by kernel_rfl))
 f246:=Tryz.func228.trans (congrArg some (by kernel_rfl))
 f283:=Tryz.func241.trans (congrArg some (by kernel_rfl))
 f284:=Tryz.func242.trans (congrArg some (by kernel_rfl))
 f285:=Tryz.func243.trans (congrArg some (by kernel_rfl))
 f286:=Tryz.func244.trans (congrArg some (by kernel_rfl))
 f317:=Tryz.func256.trans (congrArg some (by kernel_rfl))
 f318:=Tryz.func258.trans (congrArg some (by kernel_rfl))
 f319:=Tryz.func259.trans (congrArg some (by kernel_rfl))
 f320:=Tryz.func260.trans (congrArg some (by kernel_rfl))
 f337:=Tryz.func270.trans (congrArg some (by kernel_rfl))
 f338:=Tryz.func271.trans (congrArg some (by kernel_rfl))
 t0:=Tryz.underlying0
 a0:=Tryz.isAgg0
 z0:=Tryz.sizeOf0
 v0:=Tryz.zeroValue0
 t2:=Tryz.underlying2
 a2:=Tryz.isAgg2
 z2:=Tryz.sizeOf2
 v2:=Tryz.zeroValue2
 t3:=Tryz.underlying3
 a3:=Tryz.isAgg3
 z3:=Tryz.sizeOf3
 v3:=Tryz.zeroValue3
 t4:=Tryz.underlying4
 a4:=Tryz.isAgg4
 z4:=Tryz.sizeOf4
 v4:=Tryz.zeroValue4
 t5:=Tryz.underlying5
 a5:=Tryz.isAgg5
 z5:=Tryz.sizeOf5
 v5:=Tryz.zeroValue5
 t9:=Tryz.underlying9
 a9:=Tryz.isAgg9
 z9:=Tryz.sizeOf9
 v9:=Tryz.zeroValue9
 t20:=Tryz.underlying20
 a20:=Tryz.isAgg20
 z20:=Tryz.sizeOf20
 v20:=Tryz.zeroValue20
 t37:=Tryz.underlying112
 a37:=Tryz.isAgg112
 z37:=Tryz.sizeOf112
 v37:=Tryz.zeroValue112
 t46:=Tryz.underlying298
 a46:=Tryz.isAgg298
 z46:=Tryz.sizeOf298
 v46:=Tryz.zeroValue298
 t51:=Tryz.underlying243
 a51:=Tryz.isAgg243
 z51:=Tryz.sizeOf243
 v51:=Tryz.zeroValue243
 t53:=Tryz.underlying238
 a53:=Tryz.isAgg238
 z53:=Tryz.sizeOf238
 v53:=Tryz.zeroValue238
 t171:=Tryz.underlying278
 a171:=Tryz.isAgg278
 z171:=Tryz.sizeOf278
 v171:=Tryz.zeroValue278
 t173:=Tryz.underlying281
 a173:=Tryz.isAgg281
 z173:=Tryz.sizeOf281
 v173:=Tryz.zeroValue281
 t212:=Tryz.underlying308
 a212:=Tryz.isAgg308
 z212:=Tryz.sizeOf308
 v212:=Tryz.zeroValue308
 t213:=Tryz.underlying309
 a213:=Tryz.isAgg309
 z213:=Tryz.sizeOf309
 t232:=Tryz.underlying347
 a232:=Tryz.isAgg347
 z232:=Tryz.sizeOf347
 v232:=Tryz.zeroValue347
 t233:=Tryz.underlying348
 a233:=Tryz.isAgg348
 z233:=Tryz.sizeOf348
 v233:=Tryz.zeroValue348
 g17:=by kernel_rfl
 g18:=by kernel_rfl
 g19:=by kernel_rfl
 i0:=by kernel_rfl
 i2:=by kernel_rfl
 i3:=by kernel_rfl
 i4:=by kernel_rfl
 i5:=by kernel_rfl
 i9:=by kernel_rfl
 i20:=by kernel_rfl
 i37:=by kernel_rfl
 i46:=by kernel_rfl
 i51:=by kernel_rfl
 i53:=by kernel_rfl
 i171:=by kernel_rfl
 i173:=by kernel_rfl
 i212:=by kernel_rfl
 i232:=by kernel_rfl
 i233:=by kernel_rfl
 m17:=by kernel_rfl
 m18:=by kernel_rfl
 m19:=by kernel_rfl}
open Go.RowKit Go.Sort Go.Lib in
theorem Tryz.strconv_Itoa (n:Int) (h0: -9223372036854775808≤n) (h1:n≤9223372036854775807) (w:World) (htab:Lib.TabIs Tryz.prog w "internal/strconv.uint64pow10" .u64 Lib.pow10Tab):
  Calls Tryz.prog 203 #[.int .i64 n] w fun e w'=>e=.returned (.string ⟨(Lib.itoa n).toArray⟩)∧∃k os,w'=grow (w.drewN k) os:=Any.strconv_Itoa Tryz.laysM171 n h0 h1 w htab
def Tryz.laysC172_ren:Go.Shelf.Ren:=⟨fun |172=>222 |244=>234 |245=>235 |247=>251 |279=>252 |280=>253 |281=>254 |282=>255 |287=>267 |316=>268 |171=>203 |205=>269 |321=>282 |322=>283 |243=>218 |246=>228 |283=>241 |284=>242 |285=>243 |286=>244 |129=>257 |317=>256 |318=>258 |319=>259 |320=>260 |337=>270 |338=>271 |n=>n,fun |9=>9 |3=>3 |75=>116 |76=>117 |4=>4 |5=>5 |167=>300 |37=>112 |0=>0 |85=>301 |2=>2 |168=>303 |53=>238 |175=>326 |46=>298 |210=>329 |127=>189 |145=>346 |143=>344 |21=>21 |171=>278 |173=>281 |212=>308 |51=>243 |20=>20 |213=>309 |232=>347 |233=>348 |80=>122 |n=>n,fun |15=>4 |16=>5 |17=>3 |18=>6 |19=>7 |n=>n⟩
theorem Tryz.laysC172:Go.Proofs.LaysC.n172 Tryz.prog Tryz.laysC172_ren:={
 mixed:=by kernel_rfl
 f129:=Tryz.func257.trans (congrArg some (by kernel_rfl))
 f171:=Tryz.func203.trans (congrArg some (by kernel_rfl))
 f172:=Tryz.func222.trans (congrArg some (by kernel_rfl))
 f205:=Tryz.func269.trans (congrArg some (by kernel_rfl))
 f243:=Tryz.func218.trans (congrArg some (by kernel_rfl))
 f244:=Tryz.func234.trans (congrArg some (by kernel_rfl))
 f245:=Tryz.func235.trans (congrArg some (by kernel_rfl))
 f246:=Tryz.func228.trans (congrArg some (by kernel_rfl))
 f247:=Tryz.func251.trans (congrArg some (by kernel_rfl))
 f279:=Tryz.func252.trans (congrArg some (by kernel_rfl))
 f280:=Tryz.func253.trans (congrArg some (by kernel_rfl))
 f281:=Tryz.func254.trans (congrArg some (by kernel_rfl))
 f282:=Tryz.func255.trans (congrArg some (by kernel_rfl))
 f283:=Tryz.func241.trans (congrArg some (by kernel_rfl))
 f284:=Tryz.func242.trans (congrArg some (by kernel_rfl))
 f285:=Tryz.func243.trans (congrArg some (by kernel_rfl))
 f286:=Tryz.func244.trans (congrArg some (by kernel_rfl))
 f287:=Tryz.func267.trans (congrArg some (by kernel_rfl))
 f316:=Tryz.func268.trans (congrArg some (by kernel_rfl))
 f317:=Tryz.func256.trans (congrArg some (by kernel_rfl))
 f318:=Tryz.func258.trans (congrArg some (by kernel_rfl))
 f319:=Tryz.func259.trans (congrArg some (by kernel_rfl))
 f320:=Tryz.func260.trans (congrArg some (by kernel_rfl))
 f321:=Tryz.func282.trans (congrArg some (by kernel_rfl))
 f322:=Tryz.func283.trans (congrArg some (by kernel_rfl))
 f337:=Tryz.func270.trans (congrArg some (by kernel_rfl))
 f338:=Tryz.func271.trans (congrArg some (by kernel_rfl))
 t0:=Tryz.underlying0
 a0:=Tryz.isAgg0
 z0:=Tryz.sizeOf0
 v0:=Tryz.zeroValue0
 t2:=Tryz.underlying2
 a2:=Tryz.isAgg2
 z2:=Tryz.sizeOf2
 v2:=Tryz.zeroValue2
 t3:=Tryz.underlying3
 a3:=Tryz.isAgg3
 z3:=Tryz.sizeOf3
 v3:=Tryz.zeroValue3
 t4:=Tryz.underlying4
 a4:=Tryz.isAgg4
 z4:=Tryz.sizeOf4
 v4:=Tryz.zeroValue4
 t5:=Tryz.underlying5
 a5:=Tryz.isAgg5
 z5:=Tryz.sizeOf5
 v5:=Tryz.zeroValue5
 t9:=Tryz.underlying9
 a9:=Tryz.isAgg9
 z9:=Tryz.sizeOf9
 v9:=Tryz.zeroValue9
 t20:=Tryz.underlying20
 a20:=Tryz.isAgg20
 z20:=Tryz.sizeOf20
 v20:=Tryz.zeroValue20
 t21:=Tryz.underlying21
 a21:=Tryz.isAgg21
 z21:=Tryz.sizeOf21
 v21:=Tryz.zeroValue21
 t37:=Tryz.underlying112
 a37:=Tryz.isAgg112
 z37:=Tryz.sizeOf112
 v37:=Tryz.zeroValue112
 t46:=Tryz.underlying298
 a46:=Tryz.isAgg298
 z46:=Tryz.sizeOf298
 v46:=Tryz.zeroValue298
 t51:=Tryz.underlying243
 a51:=Tryz.isAgg243
 z51:=Tryz.sizeOf243
 v51:=Tryz.zeroValue243
 t53:=Tryz.underlying238
 a53:=Tryz.isAgg238
 z53:=Tryz.sizeOf238
 v53:=Tryz.zeroValue238
 t75:=Tryz.underlying116
 a75:=Tryz.isAgg116
 z75:=Tryz.sizeOf116
 v75:=Tryz.zeroValue116
 t76:=Tryz.underlying117
 a76:=Tryz.isAgg117
 z76:=Tryz.sizeOf117
 v76:=Tryz.zeroValue117
 t85:=Tryz.underlying301
 a85:=Tryz.isAgg301
 z85:=Tryz.sizeOf301
 v85:=Tryz.zeroValue301
 t127:=Tryz.underlying189
 a127:=Tryz.isAgg189
 z127:=Tryz.sizeOf189
 v127:=Tryz.zeroValue189
 t143:=Tryz.underlying344
 a143:=Tryz.isAgg344
 z143:=Tryz.sizeOf344
 v143:=Tryz.zeroValue344
 t145:=Tryz.underlying346
 a145:=Tryz.isAgg346
 z145:=Tryz.sizeOf346
 v145:=Tryz.zeroValue346
 t167:=Tryz.underlying300
 a167:=Tryz.isAgg300
 z167:=Tryz.sizeOf300
 v167:=Tryz.zeroValue300
 t168:=Tryz.underlying303
 a168:=Tryz.isAgg303
 z168:=Tryz.sizeOf303
 v168:=Tryz.zeroValue303
 t171:=Tryz.underlying278
 a171:=Tryz.isAgg278
 z171:=Tryz.sizeOf278
 v171:=Tryz.zeroValue278
 t173:=Tryz.underlying281
 a173:=Tryz.isAgg281
 z173:=Tryz.sizeOf281
 v173:=Tryz.zeroValue281
 t175:=Tryz.underlying326
 a175:=Tryz.isAgg326
 z175:=Tryz.sizeOf326
 v175:=Tryz.zeroValue326
 t210:=Tryz.underlying329
 a210:=Tryz.isAgg329
 z210:=Tryz.sizeOf329
 v210:=Tryz.zeroValue329
 t212:=Tryz.underlying308
 a212:=Tryz.isAgg308
 z212:=Tryz.sizeOf308
 v212:=Tryz.zeroValue308
 t213:=Tryz.underlying309
 a213:=Tryz.isAgg309
 z213:=Tryz.sizeOf309
 t232:=Tryz.underlying347
 a232:=Tryz.isAgg347
 z232:=Tryz.sizeOf347
 v232:=Tryz.zeroValue347
 t233:=Tryz.underlying348
 a233:=Tryz.isAgg348
 z233:=Tryz.sizeOf348
 v233:=Tryz.zeroValue348
 g15:=by kernel_rfl
 g16:=by kernel_rfl
 g17:=by kernel_rfl
 g18:=by kernel_rfl
 g19:=by kernel_rfl
 t80:=Tryz.underlying122
 a80:=Tryz.isAgg122
 z80:=Tryz.sizeOf122
 v80:=Tryz.zeroValue122
 i0:=by kernel_rfl
 i2:=by kernel_rfl
 i3:=by kernel_rfl
 i4:=by kernel_rfl
 i5:=by kernel_rfl
 i9:=by kernel_rfl
 i20:=by kernel_rfl
 i21:=by kernel_rfl
 i37:=by kernel_rfl
 i46:=by kernel_rfl
 i51:=by kernel_rfl
 i53:=by kernel_rfl
 i75:=by kernel_rfl
 i76:=by kernel_rfl
 i80:=by kernel_rfl
 i85:=by kernel_rfl
 i127:=by kernel_rfl
 i143:=by kernel_rfl
 i145:=by kernel_rfl
 i167:=by kernel_rfl
 i168:=by kernel_rfl
 i171:=by kernel_rfl
 i173:=by kernel_rfl
 i175:=by kernel_rfl
 i210:=by kernel_rfl
 i212:=by kernel_rfl
 i232:=by kernel_rfl
 i233:=by kernel_rfl
 m15:=by kernel_rfl
 m16:=by kernel_rfl
 m17:=by kernel_rfl
 m18:=by kernel_rfl
 m19:=by kernel_rfl
 c0:=by kernel_rfl
 c2:=by kernel_rfl
 c3:=by kernel_rfl
 c4:=by kernel_rfl
 c5:=by kernel_rfl
 c9:=by kernel_rfl
 c20:=by kernel_rfl
 c21:=by kernel_rfl
 c37:=by kernel_rfl
 c46:=by kernel_rfl
 c51:=by kernel_rfl
 c53:=by kernel_rfl
 c75:=by kernel_rfl
 c76:=by kernel_rfl
 c80:=by kernel_rfl
 c85:=by kernel_rfl
 c127:=by kernel_rfl
 c143:=by kernel_rfl
 c145:=by kernel_rfl
 c167:=by kernel_rfl
 c168:=by kernel_rfl
 c171:=by kernel_rfl
 c173:=by kernel_rfl
 c175:=by kernel_rfl
 c210:=by kernel_rfl
 c212:=by kernel_rfl
 c213:=by kernel_rfl
 c232:=by kernel_rfl
 c233:=by kernel_rfl}
open Go.RowKit in
theorem Tryz.strconv_Atoi_ok (s:ByteArray)(hmax:s.size<=9223372036854775806)(v:Int)(h:Lib.atoiAll s.data.toList=.ok v)(w:World):
  Calls Tryz.prog 222 #[.string s] w fun e w'=>e=.returned (.tuple #[.int .i64 v,.nilIface])∧(w'=w∨∃t,w'=Lib.bytesWorld w 5 t):=Any.strconv_Atoi_ok Tryz.laysC172 s hmax v h w
open Go.RowKit in
theorem Tryz.strconv_Atoi_syntax_var (s:ByteArray) (hlim:s.size≤281474976710656) (h:Lib.atoiAll s.data.toList=Lib.NumEnd.syntax) (tp:TypeId) (p:Value) (w:World) (hvar:w.var? Tryz.prog "strconv.ErrSyntax" =some #[.iface tp p]):
  Calls Tryz.prog 222 #[.string s] w fun e w'=>∃N,e=.returned (.tuple #[.int .i64 0,.iface 303 (.pointer (some ⟨N,0,none⟩))])∧w.heap.size<=N∧w'.heap[N]? =some (.cells #[.string ⟨#[65,116,111,105]⟩,.string s,.iface tp p] 329 (0,0))∧Below w.heap.size w w':=Any.strconv_Atoi_syntax_var Tryz.laysC172 s hlim h tp p w hvar
open Go.RowKit in
theorem Tryz.strconv_Atoi_range_var (s:ByteArray) (hlim:s.size≤281474976710656) (h:Lib.atoiAll s.data.toList= .range) (tp:TypeId) (p:Value) (w:World) (hvar:w.var? Tryz.prog "strconv.ErrRange" =some #[.iface tp p]):
  Calls Tryz.prog 222 #[.string s] w fun e w'=>∃N,e=.returned (.tuple #[.int .i64 (Lib.atoiSat s.data.toList),.iface 303 (.pointer (some ⟨N,0,none⟩))])∧w.heap.size<=N∧w'.heap[N]? =some (.cells #[.string ⟨#[65,116,111,105]⟩,.string s,.iface tp p] 329 (0,0))∧Below w.heap.size w w':=Any.strconv_Atoi_range_var Tryz.laysC172 s hlim h tp p w hvar
def Tryz.lays138_ren:Go.Shelf.Ren:=⟨fun |138=>319 |195=>320 |218=>321 |143=>322 |219=>323 |217=>223 |225=>324 |224=>325 |267=>326 |266=>236 |314=>327 |n=>n,fun |9=>9 |3=>3 |4=>4 |5=>5 |0=>0 |46=>298 |146=>378 |51=>243 |n=>n,fun |1=>1 |n=>n⟩
theorem Tryz.lays138:Go.Proofs.Lays.n138 Tryz.prog Tryz.lays138_ren:={
 mixed:=by kernel_rfl
 f138:=Tryz.func319.trans (congrArg some (by kernel_rfl))
 f143:=Tryz.func322.trans (congrArg some (by kernel_rfl))
 f195:=Tryz.func320.trans (congrArg some (by kernel_rfl))
 f217:=Tryz.func223.trans (congrArg some (by kernel_rfl))
 f218:=Tryz.func321.trans (congrArg some (by kernel_rfl))
 f219:=Tryz.func323.trans (congrArg some (by kernel_rfl))
 f224:=Tryz.func325.trans (congrArg some (by kernel_rfl))
 f225:=Tryz.func324.trans (congrArg some (by kernel_rfl))
 f266:=Tryz.func236.trans (congrArg some (by kernel_rfl))
 f267:=Tryz.func326.trans (congrArg some (by kernel_rfl))
 f314:=Tryz.func327.trans (congrArg some (by kernel_rfl))
 t0:=Tryz.underlying0
 a0:=Tryz.isAgg0
 z0:=Tryz.sizeOf0
 v0:=Tryz.zeroValue0
 t3:=Tryz.underlying3
 a3:=Tryz.isAgg3
 z3:=Tryz.sizeOf3
 v3:=Tryz.zeroValue3
 t4:=Tryz.underlying4
 a4:=Tryz.isAgg4
 z4:=Tryz.sizeOf4
 v4:=Tryz.zeroValue4
 t5:=Tryz.underlying5
 a5:=Tryz.isAgg5
 z5:=Tryz.sizeOf5
 v5:=Tryz.zeroValue5
 t9:=Tryz.underlying9
 a9:=Tryz.isAgg9
 z9:=Tryz.sizeOf9
 v9:=Tryz.zeroValue9
 t46:=Tryz.underlying298
 a46:=Tryz.isAgg298
 z46:=Tryz.sizeOf298
 v46:=Tryz.zeroValue298
 t51:=Tryz.underlying243
 a51:=Tryz.isAgg243
 z51:=Tryz.sizeOf243
 v51:=Tryz.zeroValue243
 t146:=Tryz.underlying378
 a146:=Tryz.isAgg378
 z146:=Tryz.sizeOf378
 v146:=Tryz.zeroValue378
 g1:=by kernel_rfl}
open Go.RowKit Go.Lib in
theorem Tryz.strings_Count_one (s:ByteArray)(c:UInt8)(w:World):
  Calls Tryz.prog 319 #[.string s,.string ⟨#[c]⟩] w fun e w'=>e=.returned (.int .i64 (Lib.countByte s.data.toList c))∧w'=w:=Any.strings_Count_one Tryz.lays138 s c w
def Tryz.lays157_ren:Go.Shelf.Ren:=⟨fun |157=>187 |229=>210 |199=>211 |261=>221 |311=>232 |312=>233 |n=>n,fun |9=>9 |31=>25 |3=>3 |5=>5 |4=>4 |119=>235 |0=>0 |40=>230 |152=>256 |21=>21 |154=>258 |51=>243 |141=>260 |196=>269 |193=>266 |198=>272 |49=>270 |194=>267 |201=>275 |226=>297 |46=>298 |227=>299 |n=>n,fun |0=>0 |6=>2 |n=>n⟩
theorem Tryz.lays157:Go.Proofs.Lays.n157 Tryz.prog Tryz.lays157_ren:={
 mixed:=by kernel_rfl
 f157:=Tryz.func187.trans (congrArg some (by kernel_rfl))
 f199:=Tryz.func211.trans (congrArg some (by kernel_rfl))
 f229:=Tryz.func210.trans (congrArg some (by kernel_rfl))
 f261:=Tryz.func221.trans (congrArg some (by kernel_rfl))
 f311:=Tryz.func232.trans (congrArg some (by kernel_rfl))
 f312:=Tryz.func233.trans (congrArg some (by kernel_rfl))
 t0:=Tryz.underlying0
 a0:=Tryz.isAgg0
 z0:=Tryz.sizeOf0
 v0:=Tryz.zeroValue0
 t3:=Tryz.underlying3
 a3:=Tryz.isAgg3
 z3:=Tryz.sizeOf3
 v3:=Tryz.zeroValue3
 t4:=Tryz.underlying4
 a4:=Tryz.isAgg4
 z4:=Tryz.sizeOf4
 v4:=Tryz.zeroValue4
 t5:=Tryz.underlying5
 a5:=Tryz.isAgg5
 z5:=Tryz.sizeOf5
 v5:=Tryz.zeroValue5
 t9:=Tryz.underlying9
 a9:=Tryz.isAgg9
 z9:=Tryz.sizeOf9
 v9:=Tryz.zeroValue9
 t21:=Tryz.underlying21
 a21:=Tryz.isAgg21
 z21:=Tryz.sizeOf21
 v21:=Tryz.zeroValue21
 t31:=Tryz.underlying25
 a31:=Tryz.isAgg25
 z31:=Tryz.sizeOf25
 v31:=Tryz.zeroValue25
 t40:=Tryz.underlying230
 a40:=Tryz.isAgg230
 z40:=Tryz.sizeOf230
 v40:=Tryz.zeroValue230
 t46:=Tryz.underlying298
 a46:=Tryz.isAgg298
 z46:=Tryz.sizeOf298
 v46:=Tryz.zeroValue298
 t49:=Tryz.underlying270
 a49:=Tryz.isAgg270
 z49:=Tryz.sizeOf270
 v49:=Tryz.zeroValue270
 t51:=Tryz.underlying243
 a51:=Tryz.isAgg243
 z51:=Tryz.sizeOf243
 v51:=Tryz.zeroValue243
 t119:=Tryz.underlying235
 a119:=Tryz.isAgg235
 z119:=Tryz.sizeOf235
 t141:=Tryz.underlying260
 a141:=Tryz.isAgg260
 z141:=Tryz.sizeOf260
 v141:=Tryz.zeroValue260
 t152:=Tryz.underlying256
 a152:=Tryz.isAgg256
 z152:=Tryz.sizeOf256
 v152:=Tryz.zeroValue256
 t154:=Tryz.underlying258
 a154:=Tryz.isAgg258
 z154:=Tryz.sizeOf258
 v154:=Tryz.zeroValue258
 t193:=Tryz.underlying266
 a193:=Tryz.isAgg266
 z193:=Tryz.sizeOf266
 v193:=Tryz.zeroValue266
 t194:=Tryz.underlying267
 a194:=Tryz.isAgg267
 z194:=Tryz.sizeOf267
 v194:=Tryz.zeroValue267
 t196:=Tryz.underlying269
 a196:=Tryz.isAgg269
 z196:=Tryz.sizeOf269
 v196:=Tryz.zeroValue269
 t198:=Tryz.underlying272
 a198:=Tryz.isAgg272
 z198:=Tryz.sizeOf272
 v198:=Tryz.zeroValue272
 t201:=Tryz.underlying275
 a201:=Tryz.isAgg275
 z201:=Tryz.sizeOf275
 v201:=Tryz.zeroValue275
 t226:=Tryz.underlying297
 a226:=Tryz.isAgg297
 z226:=Tryz.sizeOf297
 v226:=Tryz.zeroValue297
 t227:=Tryz.underlying299
 a227:=Tryz.isAgg299
 z227:=Tryz.sizeOf299
 v227:=Tryz.zeroValue299
 g0:=by kernel_rfl
 g6:=by kernel_rfl}
open Go.RowKit Go.Lib in
theorem Tryz.strings_Fields (s:ByteArray) (w:World) (hs:s.size<4294967281) (hascii:∀(j:Nat) b,s.data.toList[j]? =some b→b.toNat<128) (htab:Lib.TabIs Tryz.prog w "strings.asciiSpace" .u8 Lib.asciiSpaceTab):
  Calls Tryz.prog 187 #[.string s] w fun e w'=>
   e=.returned (.slice (some ⟨w.heap.size,0,none⟩) (Lib.fields s.data.toList).length (Lib.fields s.data.toList).length)∧w'=w.alloc (.cells ((Lib.fields s.data.toList).map fun l=>Value.string ⟨l.toArray⟩).toArray 9):=Any.strings_Fields Tryz.lays157 (by kernel_rfl) (by kernel_rfl) s w hs hascii htab
def Tryz.lays107_ren:Go.Shelf.Ren:=⟨fun |107=>177 |108=>207 |n=>n,fun |28=>218 |3=>3 |4=>4 |0=>0 |n=>n,fun |n=>n⟩
theorem Tryz.lays107:Go.Proofs.Lays.n107 Tryz.prog Tryz.lays107_ren:={
 mixed:=by kernel_rfl
 f107:=Tryz.func177.trans (congrArg some (by kernel_rfl))
 f108:=Tryz.func207.trans (congrArg some (by kernel_rfl))
 t0:=Tryz.underlying0
 a0:=Tryz.isAgg0
 z0:=Tryz.sizeOf0
 v0:=Tryz.zeroValue0
 t3:=Tryz.underlying3
 a3:=Tryz.isAgg3
 z3:=Tryz.sizeOf3
 v3:=Tryz.zeroValue3
 t4:=Tryz.underlying4
 a4:=Tryz.isAgg4
 z4:=Tryz.sizeOf4
 v4:=Tryz.zeroValue4
 t28:=Tryz.underlying218
 a28:=Tryz.isAgg218
 z28:=Tryz.sizeOf218
 v28:=Tryz.zeroValue218}
open Go.Lib in
theorem Tryz.slices_Contains_int (b off n c:Nat)(zs:List Int)(x:Int)(w:World)(hz:n<=zs.length)(hbig:n<=9223372036854775807)(hc:∀j,j<zs.length->w.cell? ⟨b,off+j,none⟩=some (.int .i64 (zs.getD j 0))):
  Calls Tryz.prog 177 #[.slice (some ⟨b,off,none⟩) n c,.int .i64 x] w fun e w'=>e=.returned (.bool ((zs.take n).contains x))∧w'=w:=Any.slices_Contains_int Tryz.lays107 b off n c zs x w hz hbig hc
end Go.Proofs
end
section
namespace Go.Proofs.YtfgjkmipfikooaaGreatDoor
open Go.RowKit
theorem below_grow (w:World)(k:Nat)(os:Array Obj):Below w.heap.size w (Sort.grow (w.drewN k) os):=
 ⟨rfl,rfl,rfl,by simp [Sort.grow],fun i hi=>by simp only [Sort.grow,World.heap_drewN];rw [Array.getElem?_append,if_pos hi]⟩
theorem U9 (s:ByteArray):s.toList=s.data.toList:=ByteArray.toList_eq s
structure qy (w:World):Prop where
 tab:Lib.TabIs Tryz.prog w "internal/strconv.uint64pow10" .u64 Lib.pow10Tab
 syn:∃tp p,w.var? Tryz.prog "strconv.ErrSyntax" =some #[.iface tp p]
 rng:∃tp p,w.var? Tryz.prog "strconv.ErrRange" =some #[.iface tp p]
theorem oF {w w':World}{name:String}{cs:Array Value}(h:w.var? Tryz.prog name=some cs)(hb:Below w.heap.size w w'):w'.var? Tryz.prog name=some cs:=by
 unfold World.var? at h ⊢;cases hg:Tryz.prog.globalNamed name with
 |none=>rw [hg]at h;cases h
 |some g=>
  rw [hg]at h;simp only [Option.bind_some]at h ⊢;by_cases hlt:g<w.heap.size
  ·rw [hb.block g hlt];exact h
  ·rw [Array.getElem?_eq_none (by omega)]at h;cases h
theorem qy.below {w w':World}(h:qy w)(hb:Below w.heap.size w w'):qy w':=by
 obtain⟨h1,⟨tp,p,h2⟩,⟨tp',p',h3⟩⟩:=h;exact⟨oF h1 hb,⟨tp,p,oF h2 hb⟩,⟨tp',p',oF h3 hb⟩⟩
theorem qy.drewN {w:World}(h:qy w)(n:Nat):qy (w.drewN n):=h.below ⟨rfl,rfl,rfl,Nat.le_refl _,fun _ _=>rfl⟩
theorem GQ (n:Int) (w:World) (hn:In64 n) (htab:Lib.TabIs Tryz.prog w "internal/strconv.uint64pow10" .u64 Lib.pow10Tab):
  Calls Tryz.prog 173 #[.int .i64 n] w fun e w'=>e=.returned (sv (Lib.itoa n))∧Below w.heap.size w w':=by
 go_enter Tryz.func173,Tryz.ntmps173;go_wp2_with (go_at_call 203;refine(Tryz.strconv_Itoa n hn.1 hn.2 _ htab).mono ?_;rintro e w' ⟨rfl,k,os,rfl⟩);go_ret;exact⟨rfl,below_grow _ _ _⟩
theorem Px (n:Int)(w:World)(hn:In64 n)(hL:qy w):
  Calls Tryz.prog 173 #[.int .i64 n] w fun e w'=>e=.returned (sv (Lib.itoa n))∧Below w.heap.size w w':=GQ n w hn hL.tab
theorem Py (s:ByteArray)(w:World)(hs:s.size<=281474976710656)(hL:qy w):
  Calls Tryz.prog 222 #[.string s] w fun e w'=>∃v x,e=.returned (.tuple #[.int .i64 v,x])∧Below w.heap.size w w'∧
   ((Lib.atoiAll s.data.toList=.ok v∧x=.nilIface)∨((∀u,Lib.atoiAll s.data.toList≠ .ok u)∧∃t y,x=.iface t y)):=by
 obtain⟨_,⟨tp,p,h2⟩,⟨tp',p',h3⟩⟩:=hL;rcases h:Lib.atoiAll s.data.toList with v |_ |_
 ·refine(Tryz.strconv_Atoi_ok s (by omega) v h w).mono ?_;rintro e w' ⟨rfl,hw⟩;refine⟨v,_,rfl,?_,.inl ⟨rfl,rfl⟩⟩;rcases hw with rfl |⟨t,rfl⟩
  ·exact Below.refl _ _
  ·exact Lib.bytesWorld_below w _ t
 ·refine(Tryz.strconv_Atoi_syntax_var s hs h tp p w h2).mono ?_;rintro e w' ⟨N,rfl,_,_,hb⟩;exact⟨_,_,rfl,hb,.inr ⟨fun u hu=>(by cases hu),_,_,rfl⟩⟩
 ·refine(Tryz.strconv_Atoi_range_var s hs h tp' p' w h3).mono ?_;rintro e w' ⟨N,rfl,_,_,hb⟩;exact⟨_,_,rfl,hb,.inr ⟨fun u hu=>(by cases hu),_,_,rfl⟩⟩
theorem Nn {l:List UInt8}(h:∀u,Lib.atoiAll l≠ .ok u):fP l=(0,false):=by
 rw [mM];cases ha:Lib.atoiAll l with
 |ok u=>exact absurd ha (h u)
 |_=>rfl
theorem Np {l:List UInt8}{v:Int}(h:Lib.atoiAll l=.ok v)(h0:v<0):fP l=(0,false):=by
 rw [mM,h];dsimp only;rw [if_pos (.inl h0)]
theorem J7 {l:List UInt8}{v:Int}(h:Lib.atoiAll l=.ok v)(h0:Lib.itoa v≠l):fP l=(0,false):=by
 rw [mM,h];dsimp only;rw [if_pos (.inr h0)]
theorem J8 {l:List UInt8}{v:Int}(h:Lib.atoiAll l=.ok v)(h0:0<=v)(h1:Lib.itoa v=l):fP l=(v,true):=by
 rw [mM,h];dsimp only;rw [if_neg];rintro(h |h)
 ·omega
 ·exact h h1
theorem Fz {a c:Int}{b d:Bool}(h:(a,b)=(c,d)):Ending.returned (.tuple #[.int .i64 a,.bool b])=.returned (.tuple #[.int .i64 c,.bool d]):=by
 cases h;rfl
theorem EA (s:ByteArray)(w:World)(hs:s.size<=281474976710656)(hL:qy w):
  Calls Tryz.prog 212 #[.string s] w fun e w'=>e=.returned (.tuple #[.int .i64 (fP s.data.toList).1,.bool (fP s.data.toList).2])∧Below w.heap.size w w':=by
 go_enter Tryz.func212,Tryz.ntmps212;go_wp2_with fail;refine(Py s _ hs hL).mono ?_;rintro e w1 ⟨v,x,rfl,hb1,hx⟩;have hL1:=hL.below hb1;rcases hx with⟨ha,rfl⟩ |⟨ha,t,y,rfl⟩
 ·by_cases h0:v<0
  ·have HV:=aZ (Np ha h0);clear ha;go_wp2_with fail
   go_ret2
   exact⟨Fz (by rw [HV.o]),hb1⟩
  ·have hv:In64 v:=by
    have:=LZ ha;unfold In64;omega
   have HA:=aZ ha;clear ha;go_wp2_with (go_at_call 173;refine(Px v _ hv hL1).mono ?_;rintro e w2 ⟨rfl,hb2⟩)
   ·rename_i h
    have hne:Lib.itoa v≠s.data.toList:=by
     rcases h with h |h
     ·omega
     ·simpa [U9]using h
    go_ret2
    exact⟨Fz (by rw [J7 HA.o hne]),hb1.trans (hb2.mono hb1.size)⟩
   ·rename_i h
    have he:Lib.itoa v=s.data.toList:=by simpa [U9]using h.2
    go_ret2
    exact⟨Fz (by rw [J8 HA.o h.1 he]),hb1.trans (hb2.mono hb1.size)⟩
 ·have HV:=aZ (Nn ha);clear ha;go_wp2_with fail
  go_ret2
  exact⟨Fz (by rw [HV.o]),hb1⟩
end Go.Proofs.YtfgjkmipfikooaaGreatDoor
end
