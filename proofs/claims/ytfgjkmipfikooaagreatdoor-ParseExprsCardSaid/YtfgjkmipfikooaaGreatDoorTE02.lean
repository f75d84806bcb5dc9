/- GD, YA, RA, RB, YB, ZF, FB -/
import Derived.Test.YtfgjkmipfikooaaGreatDoorTE01
import Derived.Test.YtfgjkmipfikooaaGreatDoorProg
import Derived.Deep.Slices
import Derived.Lib.SmallJoins
set_option linter.unusedSimpArgs false
set_option linter.unusedVariables false
namespace Go.Proofs.YtfgjkmipfikooaaGreatDoor
open Go.RowKit
section
inductive bS where
 |mk (kind:Int) (name:Bt) (names:List Bt) (kids:List bS):bS
inductive bI where
 |mk (kind:Int) (text:Bt) (n line col:Int) (types:List bS) (names:List Bt) (kids:List bI):bI
def bS.kind:bS->Int |.mk k _ _ _=>k
def bS.name:bS->Bt |.mk _ n _ _=>n
def bS.names:bS->List Bt |.mk _ _ n _=>n
def bS.kids:bS->List bS |.mk _ _ _ k=>k
def gH (k:Int)(nm:Bt)(ns ks:Nat):Bool:=
 if k=8 then ns+ks==0 && eG nm
 else if nm≠[]∨k<0∨7<k then false
 else if k=5 then ns==ks
 else if k=6 then ns==0 && ks==2
 else if k=7 then ns==0 && decide (2<=ks)
 else ns+ks==0
def bC:Nat->bS->Bool
 |0,_=>false
 |m+1,.mk k nm ns ks=>ns.all eG && ks.all (bC m) && gH k nm ns.length ks.length
def zN (sep:Bt):List Bt->Bt
 | []=>[]
 | [x]=>x
 |x :: y :: l=>x++(sep++zN sep (y :: l))
def yV (kinds:List Int)(k:Int)(s:Bt):Bt:=if kinds.contains k then [40]++(s++[41])else s
def uH (n s:Bt):Bt:=n++([58,32]++s)
mutual
def zO:bS->Bt
 |.mk k nm ns ks=>
  if k=0 then [97,110,121]
  else if k=1 then [110,117,108,108]
  else if k=2 then [98,111,111,108]
  else if k=3 then [105,110,116]
  else if k=4 then [115,116,114]
  else if k=5 then [123]++(zN [44,32] (List.zipWith uH ns (iH ks))++[125])
  else if k=6 then yV [6] ((ks.map bS.kind).getD 0 0) ((iH ks).getD 0 [])++([32,45,62,32]++(iH ks).getD 1 [])
  else if k=7 then zN [32,124,32] (List.zipWith (yV [6,7]) (ks.map bS.kind) (iH ks))
  else nm
def iH:List bS->List Bt
 | []=>[]
 |t :: l=>zO t :: iH l
end
theorem yX:∀l:List bS,iH l=l.map zO
 | []=>by simp [iH]
 |t :: l=>by simp [iH,yX l]
def CQ (l:List bS)(i:Nat):Bt:=match l[i]? with |some t=>[58,32]++zO t |none=>[]
structure abp where
 name:Bool
 low:Nat
 types:Nat
 kids:Int
 most:Int
def eD (k:Int):abp:=
 if k=0 then⟨false,0,0,0,9223372036854775807⟩
 else if k=2 then⟨false,0,0,0,1⟩
 else if k=4 then⟨true,0,0,0,0⟩
 else if k=5 then⟨true,0,1,2,0⟩
 else if k=6 then⟨true,1,2,1,0⟩
 else if k=7 then⟨false,0,0,2,0⟩
 else if k=8 then⟨false,0,0,-1,0⟩
 else if k=9 then⟨true,0,0,1,0⟩
 else if k=10 then⟨true,0,0,2,0⟩
 else if k=11 then⟨false,0,0,3,0⟩
 else if k=12 then⟨false,0,0,1,5⟩
 else if k=13 then⟨false,1,1,1,0⟩
 else if k=14 then⟨false,0,0,2,0⟩
 else if k=15∨k=16∨k=17 then⟨false,0,0,1,0⟩
 else if k=19 then⟨true,1,1048576,0,0⟩
 else⟨false,0,0,0,0⟩
def opsL:List Bt:=[[111,114],[97,110,100],[60],[60,61],[61,61],[43,43],[43],[45],[94],[42],[47],[37],[38],[60,60],[62,62]]
def H8 (s:Bt):Bool:=decide (s.length<=256) && s.all (fun c=> !(decide (c<32) && c != 9 && c != 10))
def sM (k:Int)(s:Bt)(named:Bool):Bool:=
 if named then eG s else if k=1 then H8 s else if k=14 then opsL.contains s else s==[]
def JM (k:Int)(text:Bt)(n:Int)(types names kids:Nat):Bool:=
 decide (0<=n∧n<=(eD k).most) && sM k text (eD k).name && decide ((eD k).low<=types∧types<=(eD k).types) &&
  (if(eD k).kids<0 then kids==names else names==0 && (kids:Int)==(eD k).kids)
def d9:Nat->bI->Bool
 |0,_=>false
 |m+1,.mk k text n _ _ types names kids=>
  decide (0<=k∧k<20) && JM k text n types.length names.length kids.length && names.all eG && types.all (bC 16) && kids.all (d9 m)
def lS:List Bt:=[[110,117,108,108],[98,111,111,108],[105,110,116],[115,116,114],[114,101,99,111,114,100],[102,117,110,99,116,105,111,110]]
def cat (l:List Bt):Bt:=l.flatMap id
def zP (k:Int)(text:Bt)(n:Int)(types:List bS):Bt:=
 if k=0 then Lib.itoa n
 else if k=1 then JL text
 else if k=2 then(if n=0 then [102,97,108,115,101]else [116,114,117,101])
 else if k=3 then [110,117,108,108]
 else if k=18 then [114,101,97,100,40,41]
 else if k=19 then cat [text,[91],zN [44,32] (types.map zO),[93]]
 else text
def IW (k:Int)(text:Bt)(n:Int)(types:List bS)(names:List Bt)(s:List Bt):Bt:=
 if k=7 then cat [s.getD 0 [],[40],s.getD 1 [],[41]]
 else if k=9 then cat [s.getD 0 [],[46],text]
 else if k=10 then cat [[123],s.getD 0 [],[32,119,105,116,104,32],text,[58,32],s.getD 1 [],[125]]
 else if k=8 then cat [[123],zN [44,32] (List.zipWith uH names s),[125]]
 else if k=17 then cat [[112,114,105,110,116,40],s.getD 0 [],[41]]
 else if k=5 then cat [[40],[108,101,116,32],text,CQ types 0,[32,61,32],s.getD 0 [],[59,32],s.getD 1 [],[41]]
 else if k=6 then cat [[40],[102,110,32,40],text,CQ types 0,[41],CQ types 1,[32,61,62,32],s.getD 0 [],[41]]
 else if k=11 then cat [[40],[105,102,32],s.getD 0 [],[32,116,104,101,110,32],s.getD 1 [],[32,101,108,115,101,32],s.getD 2 [],[41]]
 else if k=12 then cat [[40],s.getD 0 [],[32,105,115,32],lS.getD n.toNat [],[41]]
 else if k=13 then cat [[40],s.getD 0 [],[32,97,115,32],(types.map zO).getD 0 [],[41]]
 else if k=14 then cat [[40],s.getD 0 [],[32],text,[32],s.getD 1 [],[41]]
 else if k=15 then cat [[40],[110,111,116,32],s.getD 0 [],[41]]
 else if k=16 then cat [[40],[45],s.getD 0 [],[41]]
 else zP k text n types
mutual
def sN:bI->Bt
 |.mk k text n _ _ types names kids=>IW k text n types names (oG kids)
def oG:List bI->List Bt
 | []=>[]
 |x :: l=>sN x :: oG l
end
theorem uI:∀l:List bI,oG l=l.map sN
 | []=>by simp [oG]
 |t :: l=>by simp [oG,uI l]
def IX (x:bI):Bt:=if d9 25 x then sN x else []
theorem iT {w:World}{B k:Nat}{v:Value}{xs:List Value}(h:Sl w B k v xs):∃A n c,v=.slice A n c:=by
 obtain⟨A,n,c,hv,_⟩:=h;exact⟨A,n,c,hv⟩
theorem fE {w:World}{B k:Nat}{A:Option Addr}{n c:Nat}{xs:List Value}(h:Sl w B k (.slice A n c) xs):xs.length=n*k∧n<=c∧c<=2 ^ 63 - 1:=by
 obtain⟨A',n',c',hv,hl,hn,hc,_⟩:=h;injection hv with e1 e2 e3;subst e1 e2 e3;unfold maxLen at hc;exact⟨hl,hn,hc⟩
theorem fJ {w:World}{B k m:Nat}{v:Value}{xs:List Value}(h:Sl w B k v xs)(hk:0<k)(hm:xs.length=m*k):∃A c,v=.slice A m c:=by
 obtain⟨A,n,c,rfl⟩:=iT h;have:=(fE h).1;rw [hm]at this;obtain rfl:m=n:=Nat.eq_of_mul_eq_mul_right hk this;exact⟨A,c,rfl⟩
theorem Eh {w:World}{B k:Nat}{xs:List Value}{A:Option Addr}{n c:Nat}(h:Sl w B k (.slice A n c) xs){i:Nat}(hi:i<n)(hk:0<k):
  ∃b off,A=some ⟨b,off,none⟩∧b<B∧∀(j:Nat) u,xs[i*k+j]? =some u->w.cell? ⟨b,off+(i*k+j),none⟩=some u:=by
 obtain⟨A',n',c',hv',hl,hn,hc,hx⟩:=h;injection hv' with e1 e2 e3;subst e1 e2 e3;obtain⟨b,off,hA,hbb,hcell⟩:=hx (by omega);exact⟨b,off,hA,hbb,fun j u hu=>hcell _ u hu⟩
mutual
inductive BH (w:World) (B:Nat):List Value->bS->Prop
 |mk {k:Int}{nm:Bt}{vn vk:Value}{ns:List Bt}{ks:List bS}{xk:List Value}:Ss w B vn ns->Sl w B 4 vk xk->kg w B xk ks->BH w B [.int .i64 k,sv nm,vn,vk] (.mk k nm ns ks)
inductive kg (w:World) (B:Nat):List Value->List bS->Prop
 |nil:kg w B [] []
 |cons {x y:List Value}{c:bS}{l:List bS}:BH w B x c->kg w B y l->kg w B (x++y) (c :: l)
end
mutual
inductive zC (w:World) (B:Nat):List Value->bI->Prop
 |mk {k n line col:Int}{text:Bt}{vt vn vk:Value}{ts:List bS}{xt:List Value}{ns:List Bt}{ks:List bI}{xk:List Value}:Sl w B 4 vt xt->kg w B xt ts->Ss w B vn ns->Sl w B 8 vk xk->oZ w B xk ks->
   zC w B [.int .i64 k,sv text,.int .i64 n,.int .i64 line,.int .i64 col,vt,vn,vk] (.mk k text n line col ts ns ks)
inductive oZ (w:World) (B:Nat):List Value->List bI->Prop
 |nil:oZ w B [] []
 |cons {x y:List Value}{c:bI}{l:List bI}:zC w B x c->oZ w B y l->oZ w B (x++y) (c :: l)
end
mutual
theorem BH.keep {w w':World}{B:Nat}{x:List Value}{c:bS}(h:BH w B x c)(hb:Below B w w'):BH w' B x c:=
 match h with
 |.mk h1 h2 h3=>.mk (Sl.below h1 hb) (h2.below hb) (h3.keep hb)
theorem kg.keep {w w':World}{B:Nat}{x:List Value}{l:List bS}(h:kg w B x l)(hb:Below B w w'):kg w' B x l:=
 match h with
 |.nil=>.nil
 |.cons h1 h2=>.cons (h1.keep hb) (h2.keep hb)
end
mutual
theorem BH.more {w:World}{B B':Nat}{x:List Value}{c:bS}(h:BH w B x c)(hb:B<=B'):BH w B' x c:=
 match h with
 |.mk h1 h2 h3=>.mk (Sl.more h1 hb) (h2.more hb) (h3.more hb)
theorem kg.more {w:World}{B B':Nat}{x:List Value}{l:List bS}(h:kg w B x l)(hb:B<=B'):kg w B' x l:=
 match h with
 |.nil=>.nil
 |.cons h1 h2=>.cons (h1.more hb) (h2.more hb)
end
theorem BH.far {W w':World}{B:Nat}{x:List Value}{c:bS}(h:BH W B x c)(hB:B<=W.heap.size)(hb:Below W.heap.size W w'):BH w' w'.heap.size x c:=
 (h.keep (hb.mono hB)).more (Nat.le_trans hB hb.size)
theorem kg.far {W w':World}{B:Nat}{x:List Value}{c:List bS}(h:kg W B x c)(hB:B<=W.heap.size)(hb:Below W.heap.size W w'):kg w' w'.heap.size x c:=
 (h.keep (hb.mono hB)).more (Nat.le_trans hB hb.size)
theorem BH.len {w:World}{B:Nat}{x:List Value}{c:bS}(h:BH w B x c):x.length=4:=by
 cases h;rfl
theorem kg.length {w:World}{B:Nat}:∀{x:List Value}{l:List bS},kg w B x l->x.length=l.length*4
 |_,_,.nil=>rfl
 |_,_,.cons h1 h2=>by
  have:=h1.len;have:=kg.length h2;rw [List.length_append,List.length_cons];omega
theorem kg.at {w:World}{B:Nat}:∀{x:List Value}{l:List bS},kg w B x l->∀(i:Nat) (hi:i<l.length),BH w B ((x.drop (i*4)).take 4) l[i]
 |_,_,.nil,i,hi=>by simp at hi
 |_,_,.cons (x:=x) (y:=y) h1 h2,i,hi=>by
  have h5:=h1.len;rcases i with _ |i
  ·rw [Nat.zero_mul,List.drop_zero,<-h5,List.take_left];exact h1
  ·have:(x++y).drop ((i+1)*4)=y.drop (i*4):=by
    rw [show(i+1)*4=x.length+i*4 by omega,<-List.drop_drop,List.drop_left]
   rw [this];exact kg.at h2 i (by simpa using hi)
mutual
theorem zC.keep {w w':World}{B:Nat}{x:List Value}{c:bI}(h:zC w B x c)(hb:Below B w w'):zC w' B x c:=
 match h with
 |.mk h1 h2 h3 h4 h5=>.mk (h1.below hb) (h2.keep hb) (Sl.below h3 hb) (h4.below hb) (h5.keep hb)
theorem oZ.keep {w w':World}{B:Nat}{x:List Value}{l:List bI}(h:oZ w B x l)(hb:Below B w w'):oZ w' B x l:=
 match h with
 |.nil=>.nil
 |.cons h1 h2=>.cons (h1.keep hb) (h2.keep hb)
end
mutual
theorem zC.more {w:World}{B B':Nat}{x:List Value}{c:bI}(h:zC w B x c)(hb:B<=B'):zC w B' x c:=
 match h with
 |.mk h1 h2 h3 h4 h5=>.mk (h1.more hb) (h2.more hb) (Sl.more h3 hb) (h4.more hb) (h5.more hb)
theorem oZ.more {w:World}{B B':Nat}{x:List Value}{l:List bI}(h:oZ w B x l)(hb:B<=B'):oZ w B' x l:=
 match h with
 |.nil=>.nil
 |.cons h1 h2=>.cons (h1.more hb) (h2.more hb)
end
theorem zC.far {W w':World}{B:Nat}{x:List Value}{c:bI}(h:zC W B x c)(hB:B<=W.heap.size)(hb:Below W.heap.size W w'):zC w' w'.heap.size x c:=
 (h.keep (hb.mono hB)).more (Nat.le_trans hB hb.size)
theorem oZ.far {W w':World}{B:Nat}{x:List Value}{c:List bI}(h:oZ W B x c)(hB:B<=W.heap.size)(hb:Below W.heap.size W w'):oZ w' w'.heap.size x c:=
 (h.keep (hb.mono hB)).more (Nat.le_trans hB hb.size)
theorem zC.len {w:World}{B:Nat}{x:List Value}{c:bI}(h:zC w B x c):x.length=8:=by
 cases h;rfl
theorem oZ.length {w:World}{B:Nat}:∀{x:List Value}{l:List bI},oZ w B x l->x.length=l.length*8
 |_,_,.nil=>rfl
 |_,_,.cons h1 h2=>by
  have:=h1.len;have:=oZ.length h2;rw [List.length_append,List.length_cons];omega
theorem oZ.at {w:World}{B:Nat}:∀{x:List Value}{l:List bI},oZ w B x l->∀(i:Nat) (hi:i<l.length),zC w B ((x.drop (i*8)).take 8) l[i]
 |_,_,.nil,i,hi=>by simp at hi
 |_,_,.cons (x:=x) (y:=y) h1 h2,i,hi=>by
  have h5:=h1.len;rcases i with _ |i
  ·rw [Nat.zero_mul,List.drop_zero,<-h5,List.take_left];exact h1
  ·have:(x++y).drop ((i+1)*8)=y.drop (i*8):=by
    rw [show(i+1)*8=x.length+i*8 by omega,<-List.drop_drop,List.drop_left]
   rw [this];exact oZ.at h2 i (by simpa using hi)
theorem BH.parts {w:World}{B:Nat}{x:List Value}{k:Int}{nm:Bt}{ns:List Bt}{ks:List bS}(h:BH w B x (.mk k nm ns ks)):
  ∃A1 c1 A2 c2 xk,x=[.int .i64 k,sv nm,.slice A1 ns.length c1,.slice A2 ks.length c2]∧Ss w B (.slice A1 ns.length c1) ns∧Sl w B 4 (.slice A2 ks.length c2) xk∧kg w B xk ks:=by
 cases h with
 |mk h1 h2 h3=>
  obtain⟨A1,c1,rfl⟩:=fJ h1 (by omega) (m:=ns.length) (by rw [eX];omega);obtain⟨A2,c2,rfl⟩:=fJ h2 (by omega) (m:=ks.length) h3.length;exact⟨A1,c1,A2,c2,_,rfl,h1,h2,h3⟩
theorem zC.parts {w:World}{B:Nat}{x:List Value}{k n line col:Int}{text:Bt}{ts:List bS}{ns:List Bt}{ks:List bI}(h:zC w B x (.mk k text n line col ts ns ks)):
  ∃A1 c1 A2 c2 A3 c3 xt xk,x=[.int .i64 k,sv text,.int .i64 n,.int .i64 line,.int .i64 col,.slice A1 ts.length c1,.slice A2 ns.length c2,.slice A3 ks.length c3]∧Sl w B 4 (.slice A1 ts.length c1) xt∧kg w B xt ts∧Ss w B (.slice A2 ns.length c2) ns∧Sl w B 8 (.slice A3 ks.length c3) xk∧oZ w B xk ks:=by
 cases h with
 |mk h1 h1r h2 h3 h3r=>
  obtain⟨A1,c1,rfl⟩:=fJ h1 (by omega) (m:=ts.length) h1r.length;obtain⟨A2,c2,rfl⟩:=fJ h2 (by omega) (m:=ns.length) (by rw [eX];omega);obtain⟨A3,c3,rfl⟩:=fJ h3 (by omega) (m:=ks.length) h3r.length;exact⟨A1,c1,A2,c2,A3,c3,_,_,rfl,h1,h1r,h2,h3,h3r⟩
theorem BH.shape {w:World}{B:Nat}{x:List Value}{c:bS}(h:BH w B x c):∃k s A1 n1 c1 A2 n2 c2,x=[.int .i64 k,.string s,.slice A1 n1 c1,.slice A2 n2 c2]:=by
 cases h with
 |mk h1 h2 _=>
  obtain⟨A1,n1,c1,rfl⟩:=iT h1;obtain⟨A2,n2,c2,rfl⟩:=iT h2;exact⟨_,_,_,_,_,_,_,_,rfl⟩
theorem zC.shape {w:World}{B:Nat}{x:List Value}{c:bI}(h:zC w B x c):∃k s n l o A1 n1 c1 A2 n2 c2 A3 n3 c3,x=[.int .i64 k,.string s,.int .i64 n,.int .i64 l,.int .i64 o,.slice A1 n1 c1,.slice A2 n2 c2,.slice A3 n3 c3]:=by
 cases h with
 |mk h1 _ h2 h3 _=>
  obtain⟨A1,n1,c1,rfl⟩:=iT h1;obtain⟨A2,n2,c2,rfl⟩:=iT h2;obtain⟨A3,n3,c3,rfl⟩:=iT h3;exact⟨_,_,_,_,_,_,_,_,_,_,_,_,_,_,rfl⟩
theorem kK {xs ys:List Value}{n m:Nat}(h:(xs.drop n).take m=ys){j:Nat}(hj:j<m):xs[n+j]? =ys[j]? :=by
 rw [<-h,List.getElem?_take,if_pos hj,List.getElem?_drop]
theorem BI {W w':World}{b i:Nat}{v:Value}(h:Below W.heap.size W w')(d:W.cell? ⟨b,i,none⟩=some v)(hb:b<W.heap.size):w'.cell? ⟨b,i,none⟩=some v:=
 (h.cell (p:=⟨b,i,none⟩) hb).trans d
open Go.ChangeShapes Go.WideShapes Go.ChangeAt Go.RowKit
inductive fC {α:Type}(R:List Value->α->Prop) (k:Nat):List Value->List α->Prop
 |nil:fC R k [] []
 |cons {x y:List Value}{c:α}{l:List α}:x.length=k->R x c->fC R k y l->fC R k (x++y) (c :: l)
theorem fC.len {α:Type}{R:List Value->α->Prop}{k:Nat}:∀{xs:List Value}{ys:List α},fC R k xs ys->xs.length=ys.length*k
 |_,_,.nil=>by simp
 |_,_,.cons h1 h2 h3=>by rw [List.length_append,List.length_cons,h1,fC.len h3,Nat.add_mul,Nat.one_mul,Nat.add_comm]
theorem fC.all {α:Type}{R:List Value->α->Prop}{k:Nat}{S:α->Prop}(hS:∀z c,R z c->S c):∀{xs:List Value}{ys:List α},fC R k xs ys->∀y∈ys,S y
 |_,_,.nil,y,hy=>by cases hy
 |_,_,.cons h1 h2 h3,y,hy=>by
  rcases List.mem_cons.1 hy with rfl |hy
  ·exact hS _ _ h2
  ·exact fC.all hS h3 y hy
section
variable {H:Type}{enc:TypeId ×Value->H}{P:Program}{W:World}
end
mutual
def okT:bS->Prop
 |.mk k nm ns ks=>In64 k∧nm.length<=maxLen∧(∀x∈ns,x.length<=maxLen)∧TT ks
def TT:List bS->Prop
 | []=>True
 |t :: l=>okT t∧TT l
end
theorem K9:∀{l:List bS},TT l↔∀x∈l,okT x
 | []=>by simp [TT]
 |c :: l=>by
  rw [TT,K9 (l:=l)];simp
mutual
def okN:bI->Prop
 |.mk k text n line col ts ns ks=>In64 k∧text.length<=maxLen∧In64 n∧In64 line∧In64 col∧(∀x∈ts,okT x)∧(∀x∈ns,x.length<=maxLen)∧TU ks
def TU:List bI->Prop
 | []=>True
 |t :: l=>okN t∧TU l
end
theorem zQ:∀{l:List bI},TU l↔∀x∈l,okN x
 | []=>by simp [TU]
 |c :: l=>by
  rw [TU,zQ (l:=l)];simp
section
variable {H:Type}{enc:TypeId ×Value->H}{W:World}
end
end
structure yY where
 from_:Bt
 names:List Bt
 line:Int
 col:Int
structure EL where
 name:Bt
 bound:bS
structure vW where
 name:Bt
 exp:Bool
 vars:List EL
 param:Bt
 types:List bS
 body:bI
 line:Int
 col:Int
structure Hw where
 imps:List yY
 decls:List vW
abbrev CS:=Nat ×Nat ×Int
inductive Pr (α:Type) where
 |bad (d:CS):Pr α
 |good (a:α) (r:List aI):Pr α
abbrev Ps (α:Type):=List aI->Pr α
def aF {α:Type}(a:α):Ps α:=fun ts=>.good a ts
def aj {α β:Type}(p:Ps α)(f:α->Ps β):Ps β:=fun ts=>match p ts with
 |.bad d=>.bad d
 |.good a r=>f a r
theorem au {α β:Type}{p:Ps α}{f:α->Ps β}{ts r:List aI}{a:α}(h:p ts=.good a r):aj p f ts=f a r:=by unfold aj;rw [h]
theorem aC {α β:Type}{p:Ps α}{f:α->Ps β}{ts:List aI}{d:CS}(h:p ts=.bad d):aj p f ts=.bad d:=by unfold aj;rw [h]
def aS (ts:List aI):aI:=ts.headD ⟨0,[],0,0⟩
def jL {α:Type}(e:Int):Ps α:=fun ts=>.bad ((aS ts).line,(aS ts).col,e)
def jA (t:aI)(s:Bt):Bool:=(t.kind==2 || t.kind==5) && t.text==s
def dA (l:List Bt):Ps (Option Nat):=fun ts=>match l.findIdx? (jA (aS ts))with
 |none=>.good none ts
 |some i=>.good (some i) (ts.drop 1)
def bM (s:Bt):Ps Bool:=fun ts=>if jA (aS ts) s then .good true (ts.drop 1)else .good false ts
theorem qR {t:aI}{s:Bt}(h:jA t s=true)(r:List aI):bM s (t :: r)=.good true r:=by
 unfold bM;rw [if_pos (show jA (aS (t :: r)) s=true from h)];rfl
theorem yZ {t:aI}{s:Bt}(h:jA t s=false)(r:List aI):bM s (t :: r)=.good false (t :: r):=by
 unfold bM;rw [if_neg (show ¬jA (aS (t :: r)) s=true from fun e=>by rw [show jA (aS (t :: r)) s=jA t s from rfl,h]at e;cases e)]
theorem EM {t:aI}{l:List Bt}{i:Nat}(h:l.findIdx? (jA t)=some i)(r:List aI):dA l (t :: r)=.good (some i) r:=by
 unfold dA;rw [show l.findIdx? (jA (aS (t :: r)))=some i from h];rfl
theorem Ei {t:aI}{l:List Bt}(h:l.findIdx? (jA t)=none)(r:List aI):dA l (t :: r)=.good none (t :: r):=by
 unfold dA;rw [show l.findIdx? (jA (aS (t :: r)))=none from h]
def aH (s:Bt):Ps Unit:=aj (bM s) fun b=>if b then aF ()else jL 7
def jo:List Bt->Ps Unit
 | []=>aF ()
 |s :: l=>aj (aH s) fun _=>jo l
def dB (k:Int):Ps Bt:=fun ts=>if(aS ts).kind=k then .good (aS ts).text (if k=0 then ts else ts.drop 1)else .bad ((aS ts).line,(aS ts).col,7)
def nameP:Ps Bt:=dB 1
def qJ {α:Type}(one:Ps α):Nat->List α->Ps (List α)
 |0,l=>aF l
 |f+1,l=>aj (bM [44]) fun b=>if b then aj one fun a=>qJ one f (l++[a])else aF l
def iw {α:Type}(one:Ps α):Ps (List α):=aj one fun a ts=>qJ one ts.length [a] ts
section
variable (typ:Ps bS)
def qc:List Bt:=[[97,110,121],[110,117,108,108],[98,111,111,108],[105,110,116],[115,116,114]]
def kM:Ps (Bt ×bS):=aj nameP fun s=>aj (aH [58]) fun _=>aj typ fun t=>aF (s,t)
def kE:Ps bS:=aj (dA qc) fun b=>match b with
 |some k=>aF (.mk k [] [] [])
 |none=>aj (dA [[40],[123]]) fun c=>match c with
  |none=>aj nameP fun s=>aF (.mk 8 s [] [])
  |some 0=>aj typ fun t=>aj (aH [41]) fun _=>aF t
  |some _=>aj (bM [125]) fun e=>if e then aF (.mk 5 [] [] [])else
    aj (iw (kM typ)) fun l=>aj (aH [125]) fun _=>aF (.mk 5 [] (l.map (·.1)) (l.map (·.2)))
def oH:Nat->List bS->Ps (List bS)
 |0,l=>aF l
 |f+1,l=>aj (bM [124]) fun b=>if b then aj (kE typ) fun a=>oH f (l++[a])else aF l
def iy:List bS->bS
 | [t]=>t
 |l=>.mk 7 [] [] l
def Ia:Ps bS:=aj (kE typ) fun a=>aj (fun ts=>oH typ ts.length [a] ts) fun l=>aj (bM [45,62]) fun b=>
 if b then aj typ fun r=>aF (.mk 6 [] [] [iy l,r])else aF (iy l)
def oI:bS:= .mk 0 [] [] []
def fO (l none_:List bS):Ps (List bS):=aj (bM [58]) fun b=>if b then aj typ fun t=>aF (l++[t])else aF (l++none_)
def jY (none_:List bS):Ps (Bt ×List bS):=aj (aH [40]) fun _=>aj nameP fun s=>aj (fO typ [] [oI]) fun l=>aj (aH [41]) fun _=>aj (fO typ l none_) fun m=>aF (s,m)
variable (expr unary:Ps bI)
def aK (k:Int)(text:Bt)(n:Int)(at_:aI)(types:List bS)(names:List Bt)(kids:List bI):bI:= .mk k text n at_.line at_.col types names kids
def bH:List Bt->List bI->Ps (List bI)
 | [],l=>aF l
 |s :: r,l=>aj (if s=[]then aF ()else aH s) fun _=>aj expr fun x=>bH r (l++[x])
def jM:Ps aI:=fun ts=>.good (aS ts) ts
def nN (f:aI->List aI->Bool):Ps Bool:=fun ts=>.good (f (aS ts) ts) ts
def jN (ops:List Bt)(sub:Ps bI):Nat->bI->Ps bI
 |0,a=>aF a
 |f+1,a=>aj jM fun h=>aj (dA ops) fun i=>match i with
  |none=>aF a
  |some i=>aj sub fun b=>jN ops sub f (aK 14 (ops.getD i []) 0 h [] [] [a,b])
def CU (ops:List Bt)(sub:Ps bI):Ps bI:=aj sub fun a ts=>jN ops sub ts.length a ts
def jZ:List Bt:=[[60],[60,61],[61,61],[105,115],[97,115]]
def La (sub:Ps bI):Ps bI:=aj sub fun a=>aj jM fun h=>aj (dA jZ) fun i=>match i with
 |none=>aF a
 |some i=>
  if i=3 then aj (dA lS) fun t=>match t with
   |some t=>aF (aK 12 [] t h [] [] [a])
   |none=>jL 7
  else if i=4 then aj typ fun t=>aF (aK 13 [] 0 h [t] [] [a])
  else aj sub fun b=>aF (aK 14 (jZ.getD i []) 0 h [] [] [a,b])
def kP:List (List Bt):=[[[111,114]],[[97,110,100]],[],[[43,43]],[[43],[45],[94]],[[42],[47],[37],[38],[60,60],[62,62]]]
def iF:Nat->Ps bI
 |0=>unary
 |f+1=>if f=3 then La typ (iF f)else CU (kP.getD (5 - f) []) (iF f)
def CV:Ps bI:=aj jM fun h=>aj (dA [[108,101,116],[105,102],[102,110]]) fun i=>match i with
 |none=>iF typ unary 6
 |some 0=>aj nameP fun s=>aj (fO typ [] []) fun t=>aj (bH expr [[61],[59]] []) fun k=>aF (aK 5 s 0 h t [] k)
 |some 1=>aj (bH expr [[],[116,104,101,110],[101,108,115,101]] []) fun k=>aF (aK 11 [] 0 h [] [] k)
 |some _=>aj (jY typ []) fun s=>aj (bH expr [[61,62]] []) fun k=>aF (aK 6 s.1 0 h s.2 [] k)
def gI:Ps (Bt ×bI):=aj nameP fun s=>aj (aH [58]) fun _=>aj expr fun x=>aF (s,x)
def mI (h:aI):Ps bI:=aj (nN fun t _=>jA t [125]) fun e=>if e then aF (aK 8 [] 0 h [] [] [])else
 aj (nN fun t ts=>t.kind==1 && jA (aS (ts.drop 1)) [58]) fun c=>
  if c then aj (iw (gI expr)) fun l=>aF (aK 8 [] 0 h [] (l.map (·.1)) (l.map (·.2)))
  else aj (bH expr [[]] []) fun k=>aj (aH [119,105,116,104]) fun _=>aj nameP fun s=>aj (bH expr [[58]] k) fun m=>aF (aK 10 s 0 h [] [] m)
def oJ (h:aI):Ps bI:=aj nameP fun s=>aj (bM [91]) fun b=>if b then aj (iw typ) fun l=>aj (aH [93]) fun _=>aF (aK 19 s 0 h l [] [])else aF (aK 4 s 0 h [] [] [])
def jq:List Bt:=[[102,97,108,115,101],[116,114,117,101],[110,117,108,108],[114,101,97,100],[112,114,105,110,116],[40],[123]]
def qU:Ps bI:=aj jM fun h=>
 if h.kind=3 then aj (dB 3) fun s=>aF (aK 0 [] (dx s).1 h [] [] [])
 else if h.kind=4 then aj (dB 4) fun s=>aF (aK 1 s 0 h [] [] [])
 else aj (dA jq) fun i=>match i with
  |none=>oJ typ h
  |some 0=>aF (aK 2 [] 0 h [] [] [])
  |some 1=>aF (aK 2 [] 1 h [] [] [])
  |some 2=>aF (aK 3 [] 0 h [] [] [])
  |some 3=>aj (jo [[40],[41]]) fun _=>aF (aK 18 [] 0 h [] [] [])
  |some 4=>aj (bH expr [[40]] []) fun k=>aj (aH [41]) fun _=>aF (aK 17 [] 0 h [] [] k)
  |some 5=>aj expr fun x=>aj (aH [41]) fun _=>aF x
  |some _=>aj (mI expr h) fun x=>aj (aH [125]) fun _=>aF x
def gJ:Nat->bI->Ps bI
 |0,a=>aF a
 |f+1,a=>aj jM fun h=>aj (dA [[40],[46]]) fun i=>match i with
  |none=>aF a
  |some 0=>aj (bH expr [[]] [a]) fun k=>aj (aH [41]) fun _=>gJ f (aK 7 [] 0 h [] [] k)
  |some _=>aj nameP fun s=>gJ f (aK 9 s 0 h [] [] [a])
def oO:Ps bI:=aj (qU typ expr) fun a ts=>gJ expr ts.length a ts
def wz:Ps bI:=aj jM fun h=>aj (dA [[45],[110,111,116]]) fun i=>match i with
 |none=>oO typ expr
 |some 0=>aj unary fun x=>aF (aK 16 [] 0 h [] [] [x])
 |some _=>aj unary fun x=>aF (aK 15 [] 0 h [] [] [x])
end
structure apn where
 typ:Ps bS
 expr:Ps bI
 unary:Ps bI
def cB:Nat->apn
 |0=>⟨jL 6,jL 6,jL 6⟩
 |n+1=>⟨Ia (cB n).typ,CV (cB n).typ (cB n).expr (cB n).unary,wz (cB n).typ (cB n).expr (cB n).unary⟩
def EN:Ps EL:=aj nameP fun s=>aj (bM [60,58]) fun b=>if b then aj (cB 100).typ fun t=>aF ⟨s,t⟩else aF ⟨s,oI⟩
def wB:Ps (List EL):=aj (bM [91]) fun b=>if b then aj (iw EN) fun l=>aj (aH [93]) fun _=>aF l else aF []
def o8 (h:aI):Ps yY:=aj nameP fun s=>aj (aH [58]) fun _=>aj (iw nameP) fun l=>aj (aH [59]) fun _=>aF ⟨s,l,h.line,h.col⟩
def vo:Ps vW:=aj (bM [101,120,112,111,114,116]) fun e=>aj jM fun h=>aj (aH [102,110]) fun _=>aj nameP fun s=>aj wB fun v=>
 aj (jY (cB 100).typ [oI]) fun p=>aj (aH [61]) fun _=>aj (cB 100).expr fun b=>aj (aH [59]) fun _=>aF ⟨s,e,v,p.1,p.2,b,h.line,h.col⟩
def qV:Nat->List yY->Ps (List yY)
 |0,l=>aF l
 |f+1,l=>aj jM fun h=>aj (bM [105,109,112,111,114,116]) fun b=>if b then aj (o8 h) fun i=>qV f (l++[i])else aF l
def iA:Nat->List vW->Ps (List vW)
 |0,l=>aF l
 |f+1,l=>aj (nN fun t _=>t.kind==0) fun b=>if b then aF l else aj vo fun d=>iA f (l++[d])
def Q9:Ps (List yY):=fun ts=>qV ts.length [] ts
def OY:Ps (List vW):=fun ts=>iA ts.length [] ts
def eH:Ps Hw:=aj Q9 fun i=>aj OY fun d=>aF ⟨i,d⟩
def dn {α:Type}(p:Ps α)(s:Bt):Option α ×CS:=
 if(fQ s).2.2.2=0 then(match aj p (fun x=>aj (dB 0) fun _=>aF x) (fQ s).1 with
  |.bad d=>(none,d)
  |.good x _=>(some x,(0,0,0)))
 else(none,(fQ s).2)
def Wf (ts:List aI):Prop:=∃a e,ts=a++[e]∧e.kind=0∧∀t∈a,t.kind≠0∧(t.kind=2->t.text≠[58])
theorem Wf.one {e:aI}(h:e.kind=0):Wf [e]:=⟨[],e,rfl,h,by simp⟩
theorem Wf.pos {ts:List aI}(h:Wf ts):1<=ts.length:=by obtain⟨a,e,rfl,_⟩:=h;simp
theorem Wf.cases {ts:List aI}(h:Wf ts):(∃e,ts=[e]∧e.kind=0)∨∃t r,ts=t :: r∧t.kind≠0∧(t.kind=2->t.text≠[58])∧Wf r:=by
 obtain⟨a,e,rfl,h0,h1⟩:=h;cases a with
 |nil=>exact .inl ⟨e,rfl,h0⟩
 |cons t a=>exact .inr ⟨t,a++[e],rfl,(h1 t (by simp)).1,(h1 t (by simp)).2,a,e,rfl,h0,fun x hx=>h1 x (by simp [hx])⟩
theorem Wf.EO {ts:List aI}(h:Wf ts):aS ts∈ts:=by
 rcases h.cases with⟨e,rfl,_⟩ |⟨t,r,rfl,_⟩ <;> simp [aS]
theorem Wf.drop {ts:List aI}(h:Wf ts)(hk:(aS ts).kind≠0):Wf (ts.drop 1):=by
 rcases h.cases with⟨e,rfl,h0⟩ |⟨t,r,rfl,_,_,hr⟩
 ·exact absurd h0 (by simpa [aS]using hk)
 ·simpa using hr
theorem ER {t:aI}{s:Bt}(h:jA t s=true):t.kind≠0:=by
 unfold jA at h;intro h0;rw [h0]at h;simp at h
def Sf {α:Type}(p:Ps α):Prop:=∀ts,Wf ts->match p ts with
 |.bad d=>(∃t∈ts,d.1=t.line∧d.2.1=t.col)∧(d.2.2=6∨d.2.2=7)
 |.good _ r=>Wf r∧r<:+ts
section
variable {α β:Type}
theorem Sf.bad {p:Ps α}(h:Sf p){ts:List aI}(hw:Wf ts){d:CS}(hp:p ts=.bad d):(∃t∈ts,d.1=t.line∧d.2.1=t.col)∧(d.2.2=6∨d.2.2=7):=by
 have:=h ts hw;rwa [hp]at this
theorem Sf.good {p:Ps α}(h:Sf p){ts:List aI}(hw:Wf ts){a:α}{r:List aI}(hp:p ts=.good a r):Wf r∧r<:+ts:=by
 have:=h ts hw;rwa [hp]at this
theorem Sf.ret (a:α):Sf (aF a):=fun ts hw=>⟨hw,List.suffix_refl _⟩
theorem Sf.then_ {p:Ps α}{f:α->Ps β}(h:Sf p)(hf:∀a,Sf (f a)):Sf (aj p f):=by
 intro ts hw;unfold aj;rcases hp:p ts with d |⟨a,r⟩
 ·exact h.bad hw hp
 ·obtain⟨hr,hs⟩:=h.good hw hp;have h2:=hf a r hr;simp only;rcases hq:f a r with d |⟨b,r2⟩
  ·rw [hq]at h2;obtain⟨⟨t,ht,e⟩,h3⟩:=h2;exact⟨⟨t,hs.subset ht,e⟩,h3⟩
  ·rw [hq]at h2;exact⟨h2.1,h2.2.trans hs⟩
theorem Sf.fail {e:Int}(he:e=6∨e=7):Sf (jL (α:=α) e):=fun ts hw=>⟨⟨_,hw.EO,rfl,rfl⟩,he⟩
theorem ES (ts:List aI):ts.drop 1<:+ts:=List.drop_suffix 1 ts
theorem Sf.jK (l:List Bt):Sf (dA l):=by
 intro ts hw;unfold dA;rcases h:l.findIdx? (jA (aS ts))with _ |i
 ·exact⟨hw,List.suffix_refl _⟩
 ·obtain⟨hi,h1,_⟩:=List.findIdx?_eq_some_iff_getElem.1 h;exact⟨hw.drop (ER h1),ES ts⟩
theorem Sf.has (s:Bt):Sf (bM s):=by
 intro ts hw;unfold bM;by_cases h:jA (aS ts) s=true
 ·rw [if_pos h];exact⟨hw.drop (ER h),ES ts⟩
 ·rw [if_neg h];exact⟨hw,List.suffix_refl _⟩
theorem Sf.want (s:Bt):Sf (aH s):=Sf.then_ (Sf.has s) fun b=>by
 cases b
 ·exact Sf.fail (.inr rfl)
 ·exact Sf.ret ()
theorem Sf.wants:∀l:List Bt,Sf (jo l)
 | []=>Sf.ret ()
 |s :: l=>Sf.then_ (Sf.want s) fun _=>Sf.wants l
theorem Sf.kind (k:Int):Sf (dB k):=by
 intro ts hw;unfold dB;by_cases h:(aS ts).kind=k
 ·rw [if_pos h];by_cases h0:k=0
  ·rw [if_pos h0];exact⟨hw,List.suffix_refl _⟩
  ·rw [if_neg h0];exact⟨hw.drop (by rw [h];exact h0),ES ts⟩
 ·rw [if_neg h];exact⟨⟨_,hw.EO,rfl,rfl⟩,.inr rfl⟩
theorem Sf.name:Sf nameP:=Sf.kind 1
theorem Sf.here:Sf jM:=fun ts hw=>⟨hw,List.suffix_refl _⟩
theorem Sf.seen (f:aI->List aI->Bool):Sf (nN f):=fun ts hw=>⟨hw,List.suffix_refl _⟩
theorem Sf.fuel {p:List aI->Ps α}(h:∀ts,Sf (p ts)):Sf (fun ts=>p ts ts):=fun ts hw=>h ts ts hw
theorem Sf.abr {one:Ps α}(h:Sf one):∀(f:Nat) (l:List α),Sf (qJ one f l)
 |0,l=>Sf.ret l
 |f+1,l=>Sf.then_ (Sf.has _) fun b=>by
  cases b
  ·exact Sf.ret l
  ·exact Sf.then_ h fun a=>Sf.abr h f _
theorem Sf.sep {one:Ps α}(h:Sf one):Sf (iw one):=Sf.then_ h fun a=>Sf.fuel (p:=fun ts=>qJ one ts.length [a]) fun ts=>Sf.abr h _ _
end
section
variable {typ:Ps bS}(ht:Sf typ) {expr unary:Ps bI}(he:Sf expr) (hu:Sf unary)
include ht
theorem Sf.Lb:Sf (kE typ):=by
 refine Sf.then_ (Sf.jK _) fun b=>?_;rcases b with _ |k
 ·refine Sf.then_ (Sf.jK _) fun c=>?_;rcases c with _ |_ |k
  ·exact Sf.then_ Sf.name fun s=>Sf.ret _
  ·exact Sf.then_ ht fun t=>Sf.then_ (Sf.want _) fun _=>Sf.ret _
  ·refine Sf.then_ (Sf.has _) fun e=>?_;cases e
   ·exact Sf.then_ (Sf.sep (Sf.then_ Sf.name fun s=>Sf.then_ (Sf.want _) fun _=>Sf.then_ ht fun t=>Sf.ret _)) fun l=>Sf.then_ (Sf.want _) fun _=>Sf.ret _
   ·exact Sf.ret _
 ·exact Sf.ret _
theorem Sf.alt:∀(f:Nat) (l:List bS),Sf (oH typ f l)
 |0,l=>Sf.ret l
 |f+1,l=>Sf.then_ (Sf.has _) fun b=>by
  cases b
  ·exact Sf.ret l
  ·exact Sf.then_ (Sf.Lb ht) fun a=>Sf.alt f _
theorem Sf.ags:Sf (Ia typ):=Sf.then_ (Sf.Lb ht) fun a=>Sf.then_ (Sf.fuel (p:=fun ts=>oH typ ts.length [a]) fun ts=>Sf.alt ht _ _) fun l=>Sf.then_ (Sf.has _) fun b=>by
 cases b
 ·exact Sf.ret _
 ·exact Sf.then_ ht fun r=>Sf.ret _
theorem Sf.note (l n:List bS):Sf (fO typ l n):=Sf.then_ (Sf.has _) fun b=>by
 cases b
 ·exact Sf.ret _
 ·exact Sf.then_ ht fun r=>Sf.ret _
theorem Sf.head (n:List bS):Sf (jY typ n):=Sf.then_ (Sf.want _) fun _=>Sf.then_ Sf.name fun s=>Sf.then_ (Sf.note ht _ _) fun l=>Sf.then_ (Sf.want _) fun _=>Sf.then_ (Sf.note ht _ _) fun m=>Sf.ret _
omit ht
include he
theorem Sf.kids:∀(a:List Bt) (l:List bI),Sf (bH expr a l)
 | [],l=>Sf.ret l
 |s :: r,l=>Sf.then_ (by split;exact Sf.ret ();exact Sf.want s) fun _=>Sf.then_ he fun x=>Sf.kids r _
omit he
theorem Sf.left {sub:Ps bI}(hs:Sf sub)(ops:List Bt):∀(f:Nat) (a:bI),Sf (jN ops sub f a)
 |0,a=>Sf.ret a
 |f+1,a=>Sf.then_ Sf.here fun h=>Sf.then_ (Sf.jK _) fun i=>by
  rcases i with _ |i
  ·exact Sf.ret a
  ·exact Sf.then_ hs fun b=>Sf.left hs ops f _
theorem Sf.Wj {sub:Ps bI}(hs:Sf sub)(ops:List Bt):Sf (CU ops sub):=Sf.then_ hs fun a=>Sf.fuel (p:=fun ts=>jN ops sub ts.length a) fun ts=>Sf.left hs _ _ _
include ht
theorem Sf.cmp {sub:Ps bI}(hs:Sf sub):Sf (La typ sub):=Sf.then_ hs fun a=>Sf.then_ Sf.here fun h=>Sf.then_ (Sf.jK _) fun i=>by
 rcases i with _ |i
 ·exact Sf.ret a
 ·simp only;split
  ·refine Sf.then_ (Sf.jK _) fun t=>?_;rcases t with _ |t
   ·exact Sf.fail (.inr rfl)
   ·exact Sf.ret _
  ·split
   ·exact Sf.then_ ht fun t=>Sf.ret _
   ·exact Sf.then_ hs fun b=>Sf.ret _
include hu
theorem Sf.rank:∀f:Nat,Sf (iF typ unary f)
 |0=>hu
 |f+1=>by
  unfold iF;split
  ·exact Sf.cmp ht (Sf.rank f)
  ·exact Sf.Wj (Sf.rank f) _
include he
theorem Sf.Wm:Sf (CV typ expr unary):=Sf.then_ Sf.here fun h=>Sf.then_ (Sf.jK _) fun i=>by
 rcases i with _ |_ |_ |i
 ·exact Sf.rank ht hu 6
 ·exact Sf.then_ Sf.name fun s=>Sf.then_ (Sf.note ht _ _) fun t=>Sf.then_ (Sf.kids he _ _) fun k=>Sf.ret _
 ·exact Sf.then_ (Sf.kids he _ _) fun k=>Sf.ret _
 ·exact Sf.then_ (Sf.head ht _) fun s=>Sf.then_ (Sf.kids he _ _) fun k=>Sf.ret _
omit hu ht
theorem Sf.BJ:Sf (gI expr):=Sf.then_ Sf.name fun s=>Sf.then_ (Sf.want _) fun _=>Sf.then_ he fun x=>Sf.ret _
theorem Sf.Wn (h:aI):Sf (mI expr h):=Sf.then_ (Sf.seen _) fun e=>by
 cases e
 ·rw [if_neg Bool.false_ne_true];refine Sf.then_ (Sf.seen _) fun c=>?_;cases c
  ·exact Sf.then_ (Sf.kids he _ _) fun k=>Sf.then_ (Sf.want _) fun _=>Sf.then_ Sf.name fun s=>Sf.then_ (Sf.kids he _ _) fun m=>Sf.ret _
  ·exact Sf.then_ (Sf.sep (Sf.BJ he)) fun l=>Sf.ret _
 ·exact Sf.ret _
include ht
omit he
theorem Sf.named (h:aI):Sf (oJ typ h):=Sf.then_ Sf.name fun s=>Sf.then_ (Sf.has _) fun b=>by
 cases b
 ·exact Sf.ret _
 ·exact Sf.then_ (Sf.sep ht) fun l=>Sf.then_ (Sf.want _) fun _=>Sf.ret _
include he
theorem Sf.atom:Sf (qU typ expr):=Sf.then_ Sf.here fun h=>by
 split
 ·exact Sf.then_ (Sf.kind 3) fun s=>Sf.ret _
 ·split
  ·exact Sf.then_ (Sf.kind 4) fun s=>Sf.ret _
  ·refine Sf.then_ (Sf.jK _) fun i=>?_;rcases i with _ |_ |_ |_ |_ |_ |_ |i
   ·exact Sf.named ht h
   ·exact Sf.ret _
   ·exact Sf.ret _
   ·exact Sf.ret _
   ·exact Sf.then_ (Sf.wants _) fun _=>Sf.ret _
   ·exact Sf.then_ (Sf.kids he _ _) fun k=>Sf.then_ (Sf.want _) fun _=>Sf.ret _
   ·exact Sf.then_ he fun k=>Sf.then_ (Sf.want _) fun _=>Sf.ret _
   ·exact Sf.then_ (Sf.Wn he h) fun k=>Sf.then_ (Sf.want _) fun _=>Sf.ret _
omit ht
theorem Sf.Lc:∀(f:Nat) (a:bI),Sf (gJ expr f a)
 |0,a=>Sf.ret a
 |f+1,a=>Sf.then_ Sf.here fun h=>Sf.then_ (Sf.jK _) fun i=>by
  rcases i with _ |_ |i
  ·exact Sf.ret a
  ·exact Sf.then_ (Sf.kids he _ _) fun k=>Sf.then_ (Sf.want _) fun _=>Sf.Lc f _
  ·exact Sf.then_ Sf.name fun k=>Sf.Lc f _
include ht
theorem Sf.post:Sf (oO typ expr):=Sf.then_ (Sf.atom ht he) fun a=>Sf.fuel (p:=fun ts=>gJ expr ts.length a) fun ts=>Sf.Lc he _ _
include hu
theorem Sf.OZ:Sf (wz typ expr unary):=Sf.then_ Sf.here fun h=>Sf.then_ (Sf.jK _) fun i=>by
 rcases i with _ |_ |i
 ·exact Sf.post ht he
 ·exact Sf.then_ hu fun x=>Sf.ret _
 ·exact Sf.then_ hu fun x=>Sf.ret _
end
theorem Sf.O1:∀n:Nat,Sf (cB n).typ∧Sf (cB n).expr∧Sf (cB n).unary
 |0=>⟨Sf.fail (.inl rfl),Sf.fail (.inl rfl),Sf.fail (.inl rfl)⟩
 |n+1=>by
  obtain⟨h1,h2,h3⟩:=Sf.O1 n;exact⟨Sf.ags h1,Sf.Wm h1 h2 h3,Sf.OZ h1 h2 h3⟩
theorem Sf.var:Sf EN:=Sf.then_ Sf.name fun s=>Sf.then_ (Sf.has _) fun b=>by
 cases b
 ·exact Sf.ret _
 ·exact Sf.then_ (Sf.O1 100).1 fun t=>Sf.ret _
theorem Sf.vars:Sf wB:=Sf.then_ (Sf.has _) fun b=>by
 cases b
 ·exact Sf.ret _
 ·exact Sf.then_ (Sf.sep Sf.var) fun l=>Sf.then_ (Sf.want _) fun _=>Sf.ret _
theorem Sf.import_ (h:aI):Sf (o8 h):=Sf.then_ Sf.name fun s=>Sf.then_ (Sf.want _) fun _=>Sf.then_ (Sf.sep Sf.name) fun l=>Sf.then_ (Sf.want _) fun _=>Sf.ret _
theorem Sf.decl:Sf vo:=Sf.then_ (Sf.has _) fun e=>Sf.then_ Sf.here fun h=>Sf.then_ (Sf.want _) fun _=>Sf.then_ Sf.name fun s=>Sf.then_ Sf.vars fun v=>
 Sf.then_ (Sf.head (Sf.O1 100).1 _) fun p=>Sf.then_ (Sf.want _) fun _=>Sf.then_ (Sf.O1 100).2.1 fun b=>Sf.then_ (Sf.want _) fun _=>Sf.ret _
theorem Sf.imps:∀(f:Nat) (l:List yY),Sf (qV f l)
 |0,l=>Sf.ret l
 |f+1,l=>Sf.then_ Sf.here fun h=>Sf.then_ (Sf.has _) fun b=>by
  cases b
  ·exact Sf.ret l
  ·exact Sf.then_ (Sf.import_ h) fun i=>Sf.imps f _
theorem Sf.decls:∀(f:Nat) (l:List vW),Sf (iA f l)
 |0,l=>Sf.ret l
 |f+1,l=>Sf.then_ (Sf.seen _) fun b=>by
  cases b
  ·exact Sf.then_ Sf.decl fun d=>Sf.decls f _
  ·exact Sf.ret l
theorem Sf.module:Sf eH:=Sf.then_ (Sf.fuel (p:=fun ts=>qV ts.length []) fun ts=>Sf.imps _ _) fun i=>Sf.then_ (Sf.fuel (p:=fun ts=>iA ts.length []) fun ts=>Sf.decls _ _) fun d=>Sf.ret _
theorem fC.imp {α:Type}{R S:List Value->α->Prop}{k:Nat}(hS:∀z c,R z c->S z c):∀{xs:List Value}{ys:List α},fC R k xs ys->fC S k xs ys
 |_,_,.nil=>.nil
 |_,_,.cons h1 h2 h3=>.cons h1 (hS _ _ h2) (fC.imp hS h3)
theorem fC.at {α:Type}{R:List Value->α->Prop}{k:Nat}:∀{xs:List Value}{ys:List α},fC R k xs ys->∀(i:Nat) (hi:i<ys.length),R ((xs.drop (i*k)).take k) ys[i]
 |_,_,.nil,i,hi=>by simp at hi
 |_,_,.cons (x:=x) (y:=y) h1 h2 h3,i,hi=>by
  rcases i with _ |i
  ·rw [Nat.zero_mul,List.drop_zero,<-h1,List.take_left];exact h2
  ·have:(x++y).drop ((i+1)*k)=y.drop (i*k):=by
    rw [show(i+1)*k=x.length+i*k by rw [h1,Nat.add_mul,Nat.one_mul,Nat.add_comm],<-List.drop_drop,List.drop_left]
   rw [this];exact fC.at h3 i (by simpa using hi)
theorem fC.and {α:Type}{R S:List Value->α->Prop}{k:Nat}:∀{xs:List Value}{ys:List α},fC (fun z c=>R z c∧S z c) k xs ys->fC R k xs ys∧fC S k xs ys
 |_,_,.nil=>⟨.nil,.nil⟩
 |_,_,.cons h1 h2 h3=>⟨.cons h1 h2.1 (fC.and h3).1,.cons h1 h2.2 (fC.and h3).2⟩
theorem fC.app {α:Type}{R:List Value->α->Prop}{k:Nat}{xt:List Value}{yt:List α}(h:fC R k xt yt):∀{xs:List Value}{ys:List α},fC R k xs ys->fC R k (xs++xt) (ys++yt)
 |_,_,.nil=>h
 |_,_,.cons h1 h2 h3=>by rw [List.append_assoc,List.cons_append];exact .cons h1 h2 (fC.app h h3)
def ImR (w:World)(B:Nat)(z:List Value)(i:yY):Prop:=∃vn,z=[sv i.from_,vn,.int .i64 i.line,.int .i64 i.col]∧Ss w B vn i.names
def VR (w:World)(B:Nat)(z:List Value)(v:EL):Prop:=∃y,z=sv v.name :: y∧BH w B y v.bound
def KV (w:World)(B:Nat)(z:List Value)(d:vW):Prop:=
 ∃vv xv vt xt y,z=[sv d.name,.bool d.exp,vv,sv d.param,vt]++(y++[.int .i64 d.line,.int .i64 d.col])∧Sl w B 5 vv xv∧fC (VR w B) 5 xv d.vars∧Sl w B 4 vt xt∧kg w B xt d.types∧zC w B y d.body
def TV (w:World)(B:Nat)(z:List Value)(m:Hw):Prop:=
 ∃vi xi vd xd,z=[vi,vd]∧Sl w B 4 vi xi∧fC (ImR w B) 4 xi m.imps∧Sl w B 15 vd xd∧fC (KV w B) 15 xd m.decls
section
variable {w w':World}{B B':Nat}{z:List Value}
theorem ImR.keep {i:yY}(h:ImR w B z i)(hb:Below B w w'):ImR w' B z i:=by
 obtain⟨vn,e,h1⟩:=h;exact⟨vn,e,h1.below hb⟩
theorem ImR.more {i:yY}(h:ImR w B z i)(hb:B<=B'):ImR w B' z i:=by
 obtain⟨vn,e,h1⟩:=h;exact⟨vn,e,h1.more hb⟩
theorem VR.keep {i:EL}(h:VR w B z i)(hb:Below B w w'):VR w' B z i:=by
 obtain⟨vn,e,h1⟩:=h;exact⟨vn,e,h1.keep hb⟩
theorem VR.more {i:EL}(h:VR w B z i)(hb:B<=B'):VR w B' z i:=by
 obtain⟨vn,e,h1⟩:=h;exact⟨vn,e,h1.more hb⟩
theorem KV.keep {i:vW}(h:KV w B z i)(hb:Below B w w'):KV w' B z i:=by
 obtain⟨vv,xv,vt,xt,y,e,h1,h2,h3,h4,h5⟩:=h;exact⟨vv,xv,vt,xt,y,e,Sl.below h1 hb,h2.imp fun _ _ h=>h.keep hb,Sl.below h3 hb,h4.keep hb,h5.keep hb⟩
theorem KV.more {i:vW}(h:KV w B z i)(hb:B<=B'):KV w B' z i:=by
 obtain⟨vv,xv,vt,xt,y,e,h1,h2,h3,h4,h5⟩:=h;exact⟨vv,xv,vt,xt,y,e,Sl.more h1 hb,h2.imp fun _ _ h=>h.more hb,Sl.more h3 hb,h4.more hb,h5.more hb⟩
theorem TV.keep {i:Hw}(h:TV w B z i)(hb:Below B w w'):TV w' B z i:=by
 obtain⟨vi,xi,vd,xd,e,h1,h2,h3,h4⟩:=h;exact⟨vi,xi,vd,xd,e,Sl.below h1 hb,h2.imp fun _ _ h=>h.keep hb,Sl.below h3 hb,h4.imp fun _ _ h=>h.keep hb⟩
theorem TV.more {i:Hw}(h:TV w B z i)(hb:B<=B'):TV w B' z i:=by
 obtain⟨vi,xi,vd,xd,e,h1,h2,h3,h4⟩:=h;exact⟨vi,xi,vd,xd,e,Sl.more h1 hb,h2.imp fun _ _ h=>h.more hb,Sl.more h3 hb,h4.imp fun _ _ h=>h.more hb⟩
theorem TV.far {i:Hw}(h:TV w B z i)(hB:B<=w.heap.size)(hb:Below w.heap.size w w'):TV w' w'.heap.size z i:=
 (h.keep (hb.mono hB)).more (Nat.le_trans hB hb.size)
theorem KV.far {i:vW}(h:KV w B z i)(hB:B<=w.heap.size)(hb:Below w.heap.size w w'):KV w' w'.heap.size z i:=
 (h.keep (hb.mono hB)).more (Nat.le_trans hB hb.size)
theorem KV.len {d:vW}(h:KV w B z d):z.length=15:=by
 obtain⟨vv,xv,vt,xt,y,rfl,_,_,_,_,h5⟩:=h;have:=h5.len;simp only [List.length_append,List.length_cons,List.length_nil];omega
theorem VR.len {d:EL}(h:VR w B z d):z.length=5:=by
 obtain⟨y,rfl,h5⟩:=h;have:=h5.len;simp only [List.length_cons];omega
theorem KV.parts {d:vW}(h:KV w B z d):
  ∃A1 c1 A2 c2 k s n l c A3 n3 c3 A4 n4 c4 A5 n5 c5 xv xt,z=[sv d.name,.bool d.exp,.slice A1 d.vars.length c1,sv d.param,.slice A2 d.types.length c2,.int .i64 k,.string s,.int .i64 n,.int .i64 l,.int .i64 c,.slice A3 n3 c3,.slice A4 n4 c4,.slice A5 n5 c5,.int .i64 d.line,.int .i64 d.col]∧
   Sl w B 5 (.slice A1 d.vars.length c1) xv∧fC (VR w B) 5 xv d.vars∧Sl w B 4 (.slice A2 d.types.length c2) xt∧kg w B xt d.types∧zC w B [.int .i64 k,.string s,.int .i64 n,.int .i64 l,.int .i64 c,.slice A3 n3 c3,.slice A4 n4 c4,.slice A5 n5 c5] d.body:=by
 obtain⟨vv,xv,vt,xt,y,rfl,h1,h2,h3,h4,h5⟩:=h;obtain⟨A1,c1,rfl⟩:=fJ h1 (by omega) (m:=d.vars.length) h2.len;obtain⟨A2,c2,rfl⟩:=fJ h3 (by omega) (m:=d.types.length) h4.length;obtain⟨k,s,n,l,c,A3,n3,c3,A4,n4,c4,A5,n5,c5,rfl⟩:=h5.shape;exact⟨A1,c1,A2,c2,k,s,n,l,c,A3,n3,c3,A4,n4,c4,A5,n5,c5,xv,xt,rfl,h1,h2,h3,h4,h5⟩
theorem TV.parts {m:Hw}(h:TV w B z m):
  ∃A1 c1 A2 c2 xi xd,z=[.slice A1 m.imps.length c1,.slice A2 m.decls.length c2]∧Sl w B 4 (.slice A1 m.imps.length c1) xi∧fC (ImR w B) 4 xi m.imps∧Sl w B 15 (.slice A2 m.decls.length c2) xd∧fC (KV w B) 15 xd m.decls:=by
 obtain⟨vi,xi,vd,xd,rfl,h1,h2,h3,h4⟩:=h;obtain⟨A1,c1,rfl⟩:=fJ h1 (by omega) (m:=m.imps.length) h2.len;obtain⟨A2,c2,rfl⟩:=fJ h3 (by omega) (m:=m.decls.length) h4.len;exact⟨A1,c1,A2,c2,xi,xd,rfl,h1,h2,h3,h4⟩
end
def cO (w:World)(F:Nat->Prop)(k:Nat)(v:Value)(xs:List Value):Prop:=
 ∃(A:Option Addr) (n c:Nat),v=.slice A n c∧xs.length=n*k∧n<=c∧c<=maxLen∧
  (0<n->∃b off,A=some ⟨b,off,none⟩∧F b∧b<w.heap.size∧∀(j:Nat) u,xs[j]? =some u->w.cell? ⟨b,off+j,none⟩=some u)
section
variable {w w':World}{F G:Nat->Prop}{B k:Nat}{v:Value}{xs:List Value}
theorem cO.turn (h:cO w F k v xs)(t:Turn G w w')(hd:∀g,g<w.heap.size->F g->¬G g):cO w' F k v xs:=by
 obtain⟨A,n,c,hv,hl,hn,hc,hx⟩:=h;refine⟨A,n,c,hv,hl,hn,hc,fun h0=>?_⟩;obtain⟨b,off,hA,hb,hs,hcell⟩:=hx h0;refine⟨b,off,hA,hb,t.lt hs,fun j u hu=>?_⟩;rw [<-hcell j u hu];have h1:=t.block hs (hd b hs hb);simp only [World.cell?,h1]
theorem cO.mono (h:cO w F k v xs)(hF:∀g,g<w.heap.size->F g->G g):cO w G k v xs:=by
 obtain⟨A,n,c,hv,hl,hn,hc,hx⟩:=h;refine⟨A,n,c,hv,hl,hn,hc,fun h0=>?_⟩;obtain⟨b,off,hA,hb,hs,hcell⟩:=hx h0;exact⟨b,off,hA,hF b hs hb,hs,hcell⟩
theorem cO.of (h:Sl w B k v xs)(hB:B<=w.heap.size):cO w (· <B) k v xs:=by
 obtain⟨A,n,c,hv,hl,hn,hc,hx⟩:=h;refine⟨A,n,c,hv,hl,hn,hc,fun h0=>?_⟩;obtain⟨b,off,hA,hb,hcell⟩:=hx h0;exact⟨b,off,hA,hb,Nat.lt_of_lt_of_le hb hB,hcell⟩
theorem cO.to (h:cO w F k v xs)(hF:∀g,g<w.heap.size->F g->g<B):Sl w B k v xs:=by
 obtain⟨A,n,c,hv,hl,hn,hc,hx⟩:=h;refine⟨A,n,c,hv,hl,hn,hc,fun h0=>?_⟩;obtain⟨b,off,hA,hb,hs,hcell⟩:=hx h0;exact⟨b,off,hA,hF b hs hb,hcell⟩
theorem cO.all (h:cO w F k v xs):Sl w w.heap.size k v xs:=h.to fun _ hg _=>hg
theorem cO.nil (w:World)(F:Nat->Prop)(k:Nat):cO w F k (.slice none 0 0) []:=
 ⟨none,0,0,rfl,by simp,Nat.le_refl _,Nat.zero_le _,fun h=>absurd h (by omega)⟩
theorem cO.own {base:Nat}{e:TypeId}{n:Nat}(h:w.ownsRow base e k v n xs)(hF:∀g,v.ownBlock=some g->F g):cO w F k v xs:=by
 have h1:=Sl.yQ h;obtain⟨A,n',c,hv,hl,hn,hc,hx⟩:=h1;refine⟨A,n',c,hv,hl,hn,hc,fun h0=>?_⟩;obtain⟨b,off,hA,hb,hcell⟩:=hx h0;exact⟨b,off,hA,hF b (by subst hv hA;rfl),hb,hcell⟩
theorem cO.below (h:cO w F k v xs)(hb:Below w.heap.size w w'):cO w' F k v xs:=h.turn (Turn.of_below (F:=fun _=>False) hb) fun _ _ _ h=>h
end
mutual
inductive mJ (w:World) (F:Nat->Prop):List Value->bS->Prop
 |mk {k:Int}{nm:Bt}{vn vk:Value}{ns:List Bt}{ks:List bS}{xk:List Value}:cO w F 1 vn (pU ns)->cO w F 4 vk xk->oK w F xk ks->mJ w F [.int .i64 k,sv nm,vn,vk] (.mk k nm ns ks)
inductive oK (w:World) (F:Nat->Prop):List Value->List bS->Prop
 |nil:oK w F [] []
 |cons {x y:List Value}{c:bS}{l:List bS}:mJ w F x c->oK w F y l->oK w F (x++y) (c :: l)
end
mutual
inductive qd (w:World) (F:Nat->Prop):List Value->bI->Prop
 |mk {k n line col:Int}{text:Bt}{vt vn vk:Value}{ts:List bS}{xt:List Value}{ns:List Bt}{ks:List bI}{xk:List Value}:cO w F 4 vt xt->oK w F xt ts->cO w F 1 vn (pU ns)->cO w F 8 vk xk->oM w F xk ks->
   qd w F [.int .i64 k,sv text,.int .i64 n,.int .i64 line,.int .i64 col,vt,vn,vk] (.mk k text n line col ts ns ks)
inductive oM (w:World) (F:Nat->Prop):List Value->List bI->Prop
 |nil:oM w F [] []
 |cons {x y:List Value}{c:bI}{l:List bI}:qd w F x c->oM w F y l->oM w F (x++y) (c :: l)
end
section
variable {w w':World}{F G:Nat->Prop}{B:Nat}
mutual
theorem mJ.turn {x:List Value}{c:bS}(h:mJ w F x c)(t:Turn G w w')(hd:∀g,g<w.heap.size->F g->¬G g):mJ w' F x c:=
 match h with
 |.mk h1 h2 h3=>.mk (h1.turn t hd) (h2.turn t hd) (h3.turn t hd)
theorem oK.turn {x:List Value}{l:List bS}(h:oK w F x l)(t:Turn G w w')(hd:∀g,g<w.heap.size->F g->¬G g):oK w' F x l:=
 match h with
 |.nil=>.nil
 |.cons h1 h2=>.cons (h1.turn t hd) (h2.turn t hd)
end
mutual
theorem mJ.mono {x:List Value}{c:bS}(h:mJ w F x c)(hF:∀g,g<w.heap.size->F g->G g):mJ w G x c:=
 match h with
 |.mk h1 h2 h3=>.mk (h1.mono hF) (h2.mono hF) (h3.mono hF)
theorem oK.mono {x:List Value}{l:List bS}(h:oK w F x l)(hF:∀g,g<w.heap.size->F g->G g):oK w G x l:=
 match h with
 |.nil=>.nil
 |.cons h1 h2=>.cons (h1.mono hF) (h2.mono hF)
end
mutual
theorem mJ.of {x:List Value}{c:bS}(h:BH w B x c)(hB:B<=w.heap.size):mJ w (· <B) x c:=
 match h with
 |.mk h1 h2 h3=>.mk (cO.of h1 hB) (cO.of h2 hB) (oK.of h3 hB)
theorem oK.of {x:List Value}{l:List bS}(h:kg w B x l)(hB:B<=w.heap.size):oK w (· <B) x l:=
 match h with
 |.nil=>.nil
 |.cons h1 h2=>.cons (mJ.of h1 hB) (oK.of h2 hB)
end
mutual
theorem mJ.to {x:List Value}{c:bS}(h:mJ w F x c)(hF:∀g,g<w.heap.size->F g->g<B):BH w B x c:=
 match h with
 |.mk h1 h2 h3=>.mk (h1.to hF) (h2.to hF) (h3.to hF)
theorem oK.to {x:List Value}{l:List bS}(h:oK w F x l)(hF:∀g,g<w.heap.size->F g->g<B):kg w B x l:=
 match h with
 |.nil=>.nil
 |.cons h1 h2=>.cons (h1.to hF) (h2.to hF)
end
mutual
theorem qd.turn {x:List Value}{c:bI}(h:qd w F x c)(t:Turn G w w')(hd:∀g,g<w.heap.size->F g->¬G g):qd w' F x c:=
 match h with
 |.mk h1 h2 h3 h4 h5=>.mk (h1.turn t hd) (h2.turn t hd) (h3.turn t hd) (h4.turn t hd) (h5.turn t hd)
theorem oM.turn {x:List Value}{l:List bI}(h:oM w F x l)(t:Turn G w w')(hd:∀g,g<w.heap.size->F g->¬G g):oM w' F x l:=
 match h with
 |.nil=>.nil
 |.cons h1 h2=>.cons (h1.turn t hd) (h2.turn t hd)
end
mutual
theorem qd.mono {x:List Value}{c:bI}(h:qd w F x c)(hF:∀g,g<w.heap.size->F g->G g):qd w G x c:=
 match h with
 |.mk h1 h2 h3 h4 h5=>.mk (h1.mono hF) (h2.mono hF) (h3.mono hF) (h4.mono hF) (h5.mono hF)
theorem oM.mono {x:List Value}{l:List bI}(h:oM w F x l)(hF:∀g,g<w.heap.size->F g->G g):oM w G x l:=
 match h with
 |.nil=>.nil
 |.cons h1 h2=>.cons (h1.mono hF) (h2.mono hF)
end
mutual
theorem qd.of {x:List Value}{c:bI}(h:zC w B x c)(hB:B<=w.heap.size):qd w (· <B) x c:=
 match h with
 |.mk h1 h2 h3 h4 h5=>.mk (cO.of h1 hB) (oK.of h2 hB) (cO.of h3 hB) (cO.of h4 hB) (oM.of h5 hB)
theorem oM.of {x:List Value}{l:List bI}(h:oZ w B x l)(hB:B<=w.heap.size):oM w (· <B) x l:=
 match h with
 |.nil=>.nil
 |.cons h1 h2=>.cons (qd.of h1 hB) (oM.of h2 hB)
end
mutual
theorem qd.to {x:List Value}{c:bI}(h:qd w F x c)(hF:∀g,g<w.heap.size->F g->g<B):zC w B x c:=
 match h with
 |.mk h1 h2 h3 h4 h5=>.mk (h1.to hF) (h2.to hF) (h3.to hF) (h4.to hF) (h5.to hF)
theorem oM.to {x:List Value}{l:List bI}(h:oM w F x l)(hF:∀g,g<w.heap.size->F g->g<B):oZ w B x l:=
 match h with
 |.nil=>.nil
 |.cons h1 h2=>.cons (h1.to hF) (h2.to hF)
end
theorem mJ.all {x:List Value}{c:bS}(h:mJ w F x c):BH w w.heap.size x c:=h.to fun _ hg _=>hg
theorem oK.all {x:List Value}{c:List bS}(h:oK w F x c):kg w w.heap.size x c:=h.to fun _ hg _=>hg
theorem qd.all {x:List Value}{c:bI}(h:qd w F x c):zC w w.heap.size x c:=h.to fun _ hg _=>hg
theorem oM.all {x:List Value}{c:List bI}(h:oM w F x c):oZ w w.heap.size x c:=h.to fun _ hg _=>hg
theorem mJ.bel {x:List Value}{c:bS}(h:mJ w F x c)(hb:Below w.heap.size w w'):mJ w' F x c:=h.turn (Turn.of_below (F:=fun _=>False) hb) fun _ _ _ h=>h
theorem oK.bel {x:List Value}{c:List bS}(h:oK w F x c)(hb:Below w.heap.size w w'):oK w' F x c:=h.turn (Turn.of_below (F:=fun _=>False) hb) fun _ _ _ h=>h
theorem qd.bel {x:List Value}{c:bI}(h:qd w F x c)(hb:Below w.heap.size w w'):qd w' F x c:=h.turn (Turn.of_below (F:=fun _=>False) hb) fun _ _ _ h=>h
theorem oM.bel {x:List Value}{c:List bI}(h:oM w F x c)(hb:Below w.heap.size w w'):oM w' F x c:=h.turn (Turn.of_below (F:=fun _=>False) hb) fun _ _ _ h=>h
theorem oM.at:∀{x:List Value}{l:List bI},oM w F x l->∀(i:Nat) (hi:i<l.length),qd w F ((x.drop (i*8)).take 8) l[i]
 |_,_,.nil,i,hi=>by simp at hi
 |_,_,.cons (x:=x) (y:=y) h1 h2,i,hi=>by
  have h5:=h1.all.len;rcases i with _ |i
  ·rw [Nat.zero_mul,List.drop_zero,<-h5,List.take_left];exact h1
  ·have:(x++y).drop ((i+1)*8)=y.drop (i*8):=by
    rw [show(i+1)*8=x.length+i*8 by omega,<-List.drop_drop,List.drop_left]
   rw [this];exact oM.at h2 i (by simpa using hi)
end
theorem CW {α:Type}{R:List Value->α->Prop}{k:Nat}{z:List Value}{c:α}(hz:z.length=k)(h:R z c):fC R k z [c]:=by
 have:=fC.cons (R:=R) hz h .nil;rwa [List.append_nil]at this
def qK (F:Nat->Prop)(v:Value):Nat->Prop:=fun j=>v.ownBlock≠some j∧F j
structure qW {α:Type}(R:World->(Nat->Prop)->List Value->α->Prop) (k:Nat):Prop where
 turn:∀{w w':World}{F G:Nat->Prop}{z:List Value}{x:α},R w F z x->Turn G w w'->(∀g,g<w.heap.size->F g->¬G g)->R w' F z x
 mono:∀{w:World}{F G:Nat->Prop}{z:List Value}{x:α},R w F z x->(∀g,g<w.heap.size->F g->G g)->R w G z x
 len:∀{w:World}{F:Nat->Prop}{z:List Value}{x:α},R w F z x->z.length=k
 one:∀{w:World}{F:Nat->Prop}{z:List Value}{x:α},R w F z x->∀u∈z,u.oneCell'=true
section
variable {α:Type}{R:World->(Nat->Prop)->List Value->α->Prop}{k:Nat}(hR:qW R k)
def fH (R:World->(Nat->Prop)->List Value->α->Prop)(k:Nat)(e:TypeId)(w:World)(base:Nat)(F:Nat->Prop)(v:Value)(l:List α):Prop:=
 ∃ys,w.ownsRow base e k v l.length ys∧fC (R w (qK F v)) k ys l
theorem fH.nil (R:World->(Nat->Prop)->List Value->α->Prop)(k:Nat)(e:TypeId)(w:World)(base:Nat)(F:Nat->Prop):fH R k e w base F (.slice none 0 0) []:=⟨[],World.ownsRow_nil _ _ _ _,.nil⟩
theorem fH.lt {e:TypeId}{w:World}{base:Nat}{F:Nat->Prop}{v:Value}{l:List α}(h:fH R k e w base F v l):∀g,v.ownBlock=some g->base<=g∧g<w.heap.size:=by
 obtain⟨ys,h1,_⟩:=h;exact h1.lt
theorem fH.shape {e:TypeId}{w:World}{base:Nat}{F:Nat->Prop}{v:Value}{l:List α}(h:fH R k e w base F v l):∃A c,v=.slice A l.length c∧l.length<=c∧c<=maxLen:=by
 obtain⟨ys,h1,_⟩:=h;rcases h1.2 with⟨rfl,h0⟩ |⟨g,cap,cur,rfl,hb,hg,hc,hm,_⟩
 ·exact⟨none,0,by rw [h0],by omega,Nat.zero_le _⟩
 ·exact⟨_,_,rfl,hc,hm⟩
include hR
theorem bq {w w':World}{F G:Nat->Prop}(t:Turn G w w')(hd:∀g,g<w.heap.size->F g->¬G g){ys:List Value}{l:List α}(h:fC (R w F) k ys l):fC (R w' F) k ys l:=h.imp fun _ _ h=>hR.turn h t hd
theorem cK {w:World}{F G:Nat->Prop}(hd:∀g,g<w.heap.size->F g->G g){ys:List Value}{l:List α}(h:fC (R w F) k ys l):fC (R w G) k ys l:=h.imp fun _ _ h=>hR.mono h hd
theorem fH.turn {e:TypeId}{w w':World}{base:Nat}{F:Nat->Prop}{v:Value}{l:List α}{G:Nat->Prop}(h:fH R k e w base F v l)(t:Turn G w w')(ho:∀g,v.ownBlock=some g->¬G g)(hd:∀g,g<w.heap.size->F g->¬G g):fH R k e w' base F v l:=by
 obtain⟨ys,h1,h2⟩:=h;exact⟨ys,dN h1 t ho,bq hR t (fun g hg h=>hd g hg h.2) h2⟩
theorem fH.mono {e:TypeId}{w:World}{base:Nat}{F G:Nat->Prop}{v:Value}{l:List α}(h:fH R k e w base F v l)(hd:∀g,g<w.heap.size->F g->G g):fH R k e w base G v l:=by
 obtain⟨ys,h1,h2⟩:=h;exact⟨ys,h1,cK hR (fun g hg h=>⟨h.1,hd g hg h.2⟩) h2⟩
theorem fH.EG {e:TypeId}{w:World}{base base':Nat}{F:Nat->Prop}{v:Value}{l:List α}(h:fH R k e w base F v l)(hb:base'<=base):fH R k e w base' F v l:=by
 have:=hR;obtain⟨ys,h1,h2⟩:=h;exact⟨ys,zJ h1 hb,h2⟩
theorem fH.push {e:TypeId}{w w6 w7:World}{base bp:Nat}{F:Nat->Prop}{v v7:Value}{l:List α}{x:α}{z ys:List Value}{n7:Nat}(h1:w.ownsRow base e k v l.length ys)(h2:fC (R w (qK F v)) k ys l)
  (t:Turn (fun j=>j=bp) w w6) (hx:R w6 (fun j=>w.heap.size<=j) z x) {G:Nat->Prop}(t7:Turn G w6 w7) (hG:∀j,j<w6.heap.size->G j->v.ownBlock=some j∨(¬F j∧j<w.heap.size)) (hbk:v7.ownBlock=v.ownBlock∨∃m,w6.heap.size<=m∧v7.ownBlock=some m) (h7:w7.ownsRow base e k v7 n7 (ys++z)) (hk:0<k)
  (hbp:¬F bp) (hF:∀j,w.heap.size<=j->F j):fH R k e w7 base F v7 (l++[x]):=by
 have hlt:=h1.lt;have hs6:=t.size;have hn:n7=(l++[x]).length:=by
  have e1:=h7.1;have e2:=h1.1;have e3:=hR.len hx;rw [List.length_append,e2,e3]at e1;rw [List.length_append,List.length_singleton];have:n7*k=(l.length+1)*k:=by rw [<-e1,Nat.add_mul,Nat.one_mul]
  exact Nat.eq_of_mul_eq_mul_right hk this
 subst hn;have hnew:∀j,j<w6.heap.size->v7.ownBlock=some j->v.ownBlock=some j:=fun j hj e=>by
  rcases hbk with hb |⟨m,hm,hb⟩
  ·rw [hb]at e;exact e
  ·rw [hb]at e;injection e with e;omega
 refine⟨_,h7,fC.app (CW (hR.len hx) ?_) (h2.imp fun _ _ h=>?_)⟩
 ·have h3:R w6 (fun j=>j<w6.heap.size∧w.heap.size<=j) z x:=hR.mono hx fun j hj h=>⟨hj,h⟩
  refine hR.mono (hR.turn h3 t7 (fun j _ h e=>by rcases hG j h.1 e with e |e;(have:=(hlt j e).2;omega);(have:=e.2;omega))) fun j _ h=>⟨fun e=>?_,hF j h.2⟩
  have:=(hlt j (hnew j h.1 e)).2;omega
 ·have h3:R w (fun j=>j<w.heap.size∧qK F v j) _ _:=hR.mono h fun j hj h=>⟨hj,h⟩
  refine hR.mono (hR.turn (hR.turn h3 t (fun j _ h e=>by subst e;exact hbp h.2.2)) t7 (fun j _ h e=>by rcases hG j (by have:=h.1;omega) e with e |e;exact h.2.1 e;exact e.1 h.2.2)) fun j _ h=>⟨fun e=>h.2.1 (hnew j (by have:=h.1;omega) e),h.2.2⟩
theorem fH.sl {e:TypeId}{w:World}{base:Nat}{F:Nat->Prop}{v:Value}{l:List α}(h:fH R k e w base F v l):∃xs,cO w (fun j=>base<=j∨F j) k v xs∧fC (R w (fun j=>base<=j∨F j)) k xs l:=by
 obtain⟨ys,h1,h2⟩:=h;exact⟨ys,cO.own h1 (fun g hg=>.inl (h1.lt g hg).1),cK hR (fun g _ h=>.inr h.2) h2⟩
end
theorem abt {w:World}{base g i:Nat}{e:TypeId}{k:Nat}{v u:Value}{n:Nat}{xs:List Value}(h:w.ownsRow base e k v n xs)(hg:v.ownBlock=some g):(w.setCell ⟨g,i,none⟩ u).ownsRow base e k v n (xs.set i u):=by
 obtain⟨h0,h⟩:=h;refine⟨by rw [List.length_set];exact h0,?_⟩;rcases h with⟨rfl,_⟩ |⟨g',cap,cur,rfl,hb,hh,hn,hc,hs,ht⟩
 ·cases hg
 ·have:g'=g:=by injection hg
  subst this;refine .inr ⟨g',cap,cur.setIfInBounds i u,rfl,hb,heap_setCell_same _ _ i _ _ u hh,hn,hc,by simpa using hs,?_⟩;rw [Array.toList_setIfInBounds,List.take_set,ht]
theorem aW {w:World}{base g:Nat}{e:TypeId}{k:Nat}{v u:Value}{n:Nat}{xs:List Value}(h:w.ownsRow base e k v n xs)(hg:v.ownBlock=some g){i:Nat}(hi:xs[i]? =some u):w.cell? ⟨g,i,none⟩=some u∧w.frozen? ⟨g,i,none⟩=false:=by
 refine⟨by have:=h.cells hg i u hi;rwa [xC,Nat.zero_add]at this,?_⟩;rcases h.2 with⟨rfl,_⟩ |⟨g',cap,cur,rfl,hb,hh,_⟩
 ·cases hg
 ·have:g'=g:=by injection hg
  subst this;exact frozen_of_row _ _ _ _ _ hh
theorem lq {w:World}{F:Nat->Prop}:∀{xs:List Value}{l:List bS},fC (mJ w F) 4 xs l->oK w F xs l
 |_,_,.nil=>.nil
 |_,_,.cons _ h2 h3=>.cons h2 (lq h3)
theorem mD {w:World}{F:Nat->Prop}:∀{xs:List Value}{l:List bI},fC (qd w F) 8 xs l->oM w F xs l
 |_,_,.nil=>.nil
 |_,_,.cons _ h2 h3=>.cons h2 (mD h3)
theorem aJ:qW mJ 4 where
 turn h t hd:=h.turn t hd
 mono h hF:=h.mono hF
 len h:=h.all.len
 one h:=by
  obtain⟨k,s,A1,n1,c1,A2,n2,c2,rfl⟩:=h.all.shape;intro u hu;simp only [List.mem_cons,List.not_mem_nil,or_false]at hu;rcases hu with rfl |rfl |rfl |rfl <;> rfl
theorem aU:qW qd 8 where
 turn h t hd:=h.turn t hd
 mono h hF:=h.mono hF
 len h:=h.all.len
 one h:=by
  obtain⟨k,s,a,b,c,A1,n1,c1,A2,n2,c2,A3,n3,c3,rfl⟩:=h.all.shape;intro u hu;simp only [List.mem_cons,List.not_mem_nil,or_false]at hu;rcases hu with rfl |rfl |rfl |rfl |rfl |rfl |rfl |rfl <;> rfl
end Go.Proofs.YtfgjkmipfikooaaGreatDoor
