/- GD, YA, RA, RB, YB, ZF, FB, HD -/
import Derived.Test.YtncnnedlgofccaaGreatDoorPT02
import Derived.Test.YtncnnedlgofccaaGreatDoorProg
import Derived.Lib.SmallJoins
set_option linter.unusedSimpArgs false
set_option linter.unusedVariables false
namespace Go.Proofs.YtncnnedlgofccaaGreatDoor
open Go.RowKit
section
inductive bZ where
 |mk (kind:Int) (name:Bt) (names:List Bt) (kids:List bZ):bZ
inductive bW where
 |mk (kind:Int) (text:Bt) (n line col:Int) (types:List bZ) (names:List Bt) (kids:List bW):bW
def bZ.kind:bZ->Int |.mk k _ _ _=>k
def bZ.name:bZ->Bt |.mk _ n _ _=>n
def bZ.names:bZ->List Bt |.mk _ _ n _=>n
def bZ.kids:bZ->List bZ |.mk _ _ _ k=>k
def iB (k:Int)(nm:Bt)(ns ks:Nat):Bool:=
 if k=8 then ns+ks==0 && gT nm
 else if nm≠[]∨k<0∨7<k then false
 else if k=5 then ns==ks
 else if k=6 then ns==0 && ks==2
 else if k=7 then ns==0 && decide (2<=ks)
 else ns+ks==0
def dx:Nat->bZ->Bool
 |0,_=>false
 |m+1,.mk k nm ns ks=>ns.all gT && ks.all (dx m) && iB k nm ns.length ks.length
def BK (sep:Bt):List Bt->Bt
 | []=>[]
 | [x]=>x
 |x :: y :: l=>x++(sep++BK sep (y :: l))
def AB (kinds:List Int)(k:Int)(s:Bt):Bt:=if kinds.contains k then [40]++(s++[41])else s
def wK (n s:Bt):Bt:=n++([58,32]++s)
mutual
def BL:bZ->Bt
 |.mk k nm ns ks=>
  if k=0 then [97,110,121]
  else if k=1 then [110,117,108,108]
  else if k=2 then [98,111,111,108]
  else if k=3 then [105,110,116]
  else if k=4 then [115,116,114]
  else if k=5 then [123]++(BK [44,32] (List.zipWith wK ns (ji ks))++[125])
  else if k=6 then AB [6] ((ks.map bZ.kind).getD 0 0) ((ji ks).getD 0 [])++([32,45,62,32]++(ji ks).getD 1 [])
  else if k=7 then BK [32,124,32] (List.zipWith (AB [6,7]) (ks.map bZ.kind) (ji ks))
  else nm
def ji:List bZ->List Bt
 | []=>[]
 |t :: l=>BL t :: ji l
end
theorem AJ:∀l:List bZ,ji l=l.map BL
 | []=>by simp [ji]
 |t :: l=>by simp [ji,AJ l]
def EC (l:List bZ)(i:Nat):Bt:=match l[i]? with |some t=>[58,32]++BL t |none=>[]
structure ad7 where
 name:Bool
 low:Nat
 types:Nat
 kids:Int
 most:Int
def fH (k:Int):ad7:=
 if k=0 then⟨false,0,0,0,9223372036854775807⟩
 else if k=2 then⟨false,0,0,0,1⟩
 else if k=4 then⟨true,0,0,0,0⟩
 else if k=5 then⟨true,0,1,2,0⟩
 else if k=6 then⟨true,1,2,1,0⟩
 else if k=7 then⟨false,0,0,2,0⟩
 else if k=8 then⟨false,0,0,-1,0⟩
 else if k=9 then⟨true,0,0,1,0⟩
 else if k=10 then⟨true,0,0,2,0⟩
 else if k=11 then⟨false,0,0,3,0⟩
 else if k=12 then⟨false,0,0,1,5⟩
 else if k=13 then⟨false,1,1,1,0⟩
 else if k=14 then⟨false,0,0,2,0⟩
 else if k=15∨k=16∨k=17 then⟨false,0,0,1,0⟩
 else if k=19 then⟨true,1,1048576,0,0⟩
 else⟨false,0,0,0,0⟩
def opsL:List Bt:=[[111,114],[97,110,100],[60],[60,61],[61,61],[43,43],[43],[45],[94],[42],[47],[37],[38],[60,60],[62,62]]
def Lp (s:Bt):Bool:=decide (s.length<=256) && s.all (fun c=> !(decide (c<32) && c != 9 && c != 10))
def vo (k:Int)(s:Bt)(named:Bool):Bool:=
 if named then gT s else if k=1 then Lp s else if k=14 then opsL.contains s else s==[]
def Lr (k:Int)(text:Bt)(n:Int)(types names kids:Nat):Bool:=
 decide (0<=n∧n<=(fH k).most) && vo k text (fH k).name && decide ((fH k).low<=types∧types<=(fH k).types) &&
  (if(fH k).kids<0 then kids==names else names==0 && (kids:Int)==(fH k).kids)
def ko:Nat->bW->Bool
 |0,_=>false
 |m+1,.mk k text n _ _ types names kids=>
  decide (0<=k∧k<20) && Lr k text n types.length names.length kids.length && names.all gT && types.all (dx 16) && kids.all (ko m)
def mV:List Bt:=[[110,117,108,108],[98,111,111,108],[105,110,116],[115,116,114],[114,101,99,111,114,100],[102,117,110,99,116,105,111,110]]
def cat (l:List Bt):Bt:=l.flatMap id
def BM (k:Int)(text:Bt)(n:Int)(types:List bZ):Bt:=
 if k=0 then Lib.itoa n
 else if k=1 then QY text
 else if k=2 then(if n=0 then [102,97,108,115,101]else [116,114,117,101])
 else if k=3 then [110,117,108,108]
 else if k=18 then [114,101,97,100,40,41]
 else if k=19 then cat [text,[91],BK [44,32] (types.map BL),[93]]
 else text
def Ko (k:Int)(text:Bt)(n:Int)(types:List bZ)(names:List Bt)(s:List Bt):Bt:=
 if k=7 then cat [s.getD 0 [],[40],s.getD 1 [],[41]]
 else if k=9 then cat [s.getD 0 [],[46],text]
 else if k=10 then cat [[123],s.getD 0 [],[32,119,105,116,104,32],text,[58,32],s.getD 1 [],[125]]
 else if k=8 then cat [[123],BK [44,32] (List.zipWith wK names s),[125]]
 else if k=17 then cat [[112,114,105,110,116,40],s.getD 0 [],[41]]
 else if k=5 then cat [[40],[108,101,116,32],text,EC types 0,[32,61,32],s.getD 0 [],[59,32],s.getD 1 [],[41]]
 else if k=6 then cat [[40],[102,110,32,40],text,EC types 0,[41],EC types 1,[32,61,62,32],s.getD 0 [],[41]]
 else if k=11 then cat [[40],[105,102,32],s.getD 0 [],[32,116,104,101,110,32],s.getD 1 [],[32,101,108,115,101,32],s.getD 2 [],[41]]
 else if k=12 then cat [[40],s.getD 0 [],[32,105,115,32],mV.getD n.toNat [],[41]]
 else if k=13 then cat [[40],s.getD 0 [],[32,97,115,32],(types.map BL).getD 0 [],[41]]
 else if k=14 then cat [[40],s.getD 0 [],[32],text,[32],s.getD 1 [],[41]]
 else if k=15 then cat [[40],[110,111,116,32],s.getD 0 [],[41]]
 else if k=16 then cat [[40],[45],s.getD 0 [],[41]]
 else BM k text n types
mutual
def vw:bW->Bt
 |.mk k text n _ _ types names kids=>Ko k text n types names (qF kids)
def qF:List bW->List Bt
 | []=>[]
 |x :: l=>vw x :: qF l
end
theorem wL:∀l:List bW,qF l=l.map vw
 | []=>by simp [qF]
 |t :: l=>by simp [qF,wL l]
def Kq (x:bW):Bt:=if ko 25 x then vw x else []
theorem jy {w:World}{B k:Nat}{v:Value}{xs:List Value}(h:Sl w B k v xs):∃A n c,v=.slice A n c:=by
 obtain⟨A,n,c,hv,_⟩:=h;exact⟨A,n,c,hv⟩
theorem dU {w:World}{B k:Nat}{A:Option Addr}{n c:Nat}{xs:List Value}(h:Sl w B k (.slice A n c) xs):xs.length=n*k∧n<=c∧c<=2 ^ 63 - 1:=by
 obtain⟨A',n',c',hv,hl,hn,hc,_⟩:=h;injection hv with e1 e2 e3;subst e1 e2 e3;unfold maxLen at hc;exact⟨hl,hn,hc⟩
theorem fM {w:World}{B k m:Nat}{v:Value}{xs:List Value}(h:Sl w B k v xs)(hk:0<k)(hm:xs.length=m*k):∃A c,v=.slice A m c:=by
 obtain⟨A,n,c,rfl⟩:=jy h;have:=(dU h).1;rw [hm]at this;obtain rfl:m=n:=Nat.eq_of_mul_eq_mul_right hk this;exact⟨A,c,rfl⟩
theorem BN {w:World}{B k:Nat}{xs:List Value}{A:Option Addr}{n c:Nat}(h:Sl w B k (.slice A n c) xs){i:Nat}(hi:i<n)(hk:0<k:=by omega):
  ∃b off,A=some ⟨b,off,none⟩∧b<B∧∀(j:Nat) u,xs[i*k+j]? =some u->w.cell? ⟨b,off+(i*k+j),none⟩=some u:=by
 obtain⟨A',n',c',hv',hl,hn,hc,hx⟩:=h;injection hv' with e1 e2 e3;subst e1 e2 e3;obtain⟨b,off,hA,hbb,hcell⟩:=hx (by omega);exact⟨b,off,hA,hbb,fun j u hu=>hcell _ u hu⟩
mutual
inductive BO (w:World) (B:Nat):List Value->bZ->Prop
 |mk {k:Int}{nm:Bt}{vn vk:Value}{ns:List Bt}{ks:List bZ}{xk:List Value}:Ss w B vn ns->Sl w B 4 vk xk->lC w B xk ks->BO w B [I k,sv nm,vn,vk] (.mk k nm ns ks)
inductive lC (w:World) (B:Nat):List Value->List bZ->Prop
 |nil:lC w B [] []
 |cons {x y:List Value}{c:bZ}{l:List bZ}:BO w B x c->lC w B y l->lC w B (x++y) (c :: l)
end
mutual
inductive Bv (w:World) (B:Nat):List Value->bW->Prop
 |mk {k n line col:Int}{text:Bt}{vt vn vk:Value}{ts:List bZ}{xt:List Value}{ns:List Bt}{ks:List bW}{xk:List Value}:Sl w B 4 vt xt->lC w B xt ts->Ss w B vn ns->Sl w B 8 vk xk->qX w B xk ks->
   Bv w B [I k,sv text,I n,I line,I col,vt,vn,vk] (.mk k text n line col ts ns ks)
inductive qX (w:World) (B:Nat):List Value->List bW->Prop
 |nil:qX w B [] []
 |cons {x y:List Value}{c:bW}{l:List bW}:Bv w B x c->qX w B y l->qX w B (x++y) (c :: l)
end
mutual
theorem BO.keep {w w':World}{B:Nat}{x:List Value}{c:bZ}(h:BO w B x c)(hb:Below B w w'):BO w' B x c:=
 match h with
 |.mk h1 h2 h3=>.mk (Sl.below h1 hb) (h2.below hb) (h3.keep hb)
theorem lC.keep {w w':World}{B:Nat}{x:List Value}{l:List bZ}(h:lC w B x l)(hb:Below B w w'):lC w' B x l:=
 match h with
 |.nil=>.nil
 |.cons h1 h2=>.cons (h1.keep hb) (h2.keep hb)
end
mutual
theorem BO.more {w:World}{B B':Nat}{x:List Value}{c:bZ}(h:BO w B x c)(hb:B<=B'):BO w B' x c:=
 match h with
 |.mk h1 h2 h3=>.mk (Sl.more h1 hb) (h2.more hb) (h3.more hb)
theorem lC.more {w:World}{B B':Nat}{x:List Value}{l:List bZ}(h:lC w B x l)(hb:B<=B'):lC w B' x l:=
 match h with
 |.nil=>.nil
 |.cons h1 h2=>.cons (h1.more hb) (h2.more hb)
end
theorem BO.far {W w':World}{B:Nat}{x:List Value}{c:bZ}(h:BO W B x c)(hB:B<=W.heap.size)(hb:Below W.heap.size W w'):BO w' w'.heap.size x c:=
 (h.keep (hb.mono hB)).more (Nat.le_trans hB hb.size)
theorem lC.far {W w':World}{B:Nat}{x:List Value}{c:List bZ}(h:lC W B x c)(hB:B<=W.heap.size)(hb:Below W.heap.size W w'):lC w' w'.heap.size x c:=
 (h.keep (hb.mono hB)).more (Nat.le_trans hB hb.size)
theorem BO.len {w:World}{B:Nat}{x:List Value}{c:bZ}(h:BO w B x c):x.length=4:=by
 cases h;rfl
theorem lC.length {w:World}{B:Nat}:∀{x:List Value}{l:List bZ},lC w B x l->x.length=l.length*4
 |_,_,.nil=>rfl
 |_,_,.cons h1 h2=>by
  have:=h1.len;have:=lC.length h2;rw [List.length_append,List.length_cons];omega
theorem lC.at {w:World}{B:Nat}:∀{x:List Value}{l:List bZ},lC w B x l->∀(i:Nat) (hi:i<l.length),BO w B ((x.drop (i*4)).take 4) l[i]
 |_,_,.nil,i,hi=>by simp at hi
 |_,_,.cons (x:=x) (y:=y) h1 h2,i,hi=>by
  have h5:=h1.len;rcases i with _ |i
  ·rw [Nat.zero_mul,List.drop_zero,<-h5,List.take_left];exact h1
  ·have:(x++y).drop ((i+1)*4)=y.drop (i*4):=by
    rw [show(i+1)*4=x.length+i*4 by omega,<-List.drop_drop,List.drop_left]
   rw [this];exact lC.at h2 i (by simpa using hi)
mutual
theorem Bv.keep {w w':World}{B:Nat}{x:List Value}{c:bW}(h:Bv w B x c)(hb:Below B w w'):Bv w' B x c:=
 match h with
 |.mk h1 h2 h3 h4 h5=>.mk (h1.below hb) (h2.keep hb) (Sl.below h3 hb) (h4.below hb) (h5.keep hb)
theorem qX.keep {w w':World}{B:Nat}{x:List Value}{l:List bW}(h:qX w B x l)(hb:Below B w w'):qX w' B x l:=
 match h with
 |.nil=>.nil
 |.cons h1 h2=>.cons (h1.keep hb) (h2.keep hb)
end
mutual
theorem Bv.more {w:World}{B B':Nat}{x:List Value}{c:bW}(h:Bv w B x c)(hb:B<=B'):Bv w B' x c:=
 match h with
 |.mk h1 h2 h3 h4 h5=>.mk (h1.more hb) (h2.more hb) (Sl.more h3 hb) (h4.more hb) (h5.more hb)
theorem qX.more {w:World}{B B':Nat}{x:List Value}{l:List bW}(h:qX w B x l)(hb:B<=B'):qX w B' x l:=
 match h with
 |.nil=>.nil
 |.cons h1 h2=>.cons (h1.more hb) (h2.more hb)
end
theorem Bv.far {W w':World}{B:Nat}{x:List Value}{c:bW}(h:Bv W B x c)(hB:B<=W.heap.size)(hb:Below W.heap.size W w'):Bv w' w'.heap.size x c:=
 (h.keep (hb.mono hB)).more (Nat.le_trans hB hb.size)
theorem qX.far {W w':World}{B:Nat}{x:List Value}{c:List bW}(h:qX W B x c)(hB:B<=W.heap.size)(hb:Below W.heap.size W w'):qX w' w'.heap.size x c:=
 (h.keep (hb.mono hB)).more (Nat.le_trans hB hb.size)
theorem Bv.len {w:World}{B:Nat}{x:List Value}{c:bW}(h:Bv w B x c):x.length=8:=by
 cases h;rfl
theorem qX.length {w:World}{B:Nat}:∀{x:List Value}{l:List bW},qX w B x l->x.length=l.length*8
 |_,_,.nil=>rfl
 |_,_,.cons h1 h2=>by
  have:=h1.len;have:=qX.length h2;rw [List.length_append,List.length_cons];omega
theorem qX.at {w:World}{B:Nat}:∀{x:List Value}{l:List bW},qX w B x l->∀(i:Nat) (hi:i<l.length),Bv w B ((x.drop (i*8)).take 8) l[i]
 |_,_,.nil,i,hi=>by simp at hi
 |_,_,.cons (x:=x) (y:=y) h1 h2,i,hi=>by
  have h5:=h1.len;rcases i with _ |i
  ·rw [Nat.zero_mul,List.drop_zero,<-h5,List.take_left];exact h1
  ·have:(x++y).drop ((i+1)*8)=y.drop (i*8):=by
    rw [show(i+1)*8=x.length+i*8 by omega,<-List.drop_drop,List.drop_left]
   rw [this];exact qX.at h2 i (by simpa using hi)
theorem BO.parts {w:World}{B:Nat}{x:List Value}{k:Int}{nm:Bt}{ns:List Bt}{ks:List bZ}(h:BO w B x (.mk k nm ns ks)):
  ∃A1 c1 A2 c2 xk,x=[I k,sv nm,.slice A1 ns.length c1,.slice A2 ks.length c2]∧Ss w B (.slice A1 ns.length c1) ns∧Sl w B 4 (.slice A2 ks.length c2) xk∧lC w B xk ks:=by
 cases h with
 |mk h1 h2 h3=>
  obtain⟨A1,c1,rfl⟩:=fM h1 (by omega) (m:=ns.length) (by rw [fE];omega);obtain⟨A2,c2,rfl⟩:=fM h2 (by omega) (m:=ks.length) h3.length;exact⟨A1,c1,A2,c2,_,rfl,h1,h2,h3⟩
theorem Bv.parts {w:World}{B:Nat}{x:List Value}{k n line col:Int}{text:Bt}{ts:List bZ}{ns:List Bt}{ks:List bW}(h:Bv w B x (.mk k text n line col ts ns ks)):
  ∃A1 c1 A2 c2 A3 c3 xt xk,x=[I k,sv text,I n,I line,I col,.slice A1 ts.length c1,.slice A2 ns.length c2,.slice A3 ks.length c3]∧Sl w B 4 (.slice A1 ts.length c1) xt∧lC w B xt ts∧Ss w B (.slice A2 ns.length c2) ns∧Sl w B 8 (.slice A3 ks.length c3) xk∧qX w B xk ks:=by
 cases h with
 |mk h1 h1r h2 h3 h3r=>
  obtain⟨A1,c1,rfl⟩:=fM h1 (by omega) (m:=ts.length) h1r.length;obtain⟨A2,c2,rfl⟩:=fM h2 (by omega) (m:=ns.length) (by rw [fE];omega);obtain⟨A3,c3,rfl⟩:=fM h3 (by omega) (m:=ks.length) h3r.length;exact⟨A1,c1,A2,c2,A3,c3,_,_,rfl,h1,h1r,h2,h3,h3r⟩
theorem BO.shape {w:World}{B:Nat}{x:List Value}{c:bZ}(h:BO w B x c):∃k s A1 n1 c1 A2 n2 c2,x=[I k,.string s,.slice A1 n1 c1,.slice A2 n2 c2]:=by
 cases h with
 |mk h1 h2 _=>
  obtain⟨A1,n1,c1,rfl⟩:=jy h1;obtain⟨A2,n2,c2,rfl⟩:=jy h2;exact⟨_,_,_,_,_,_,_,_,rfl⟩
theorem Bv.shape {w:World}{B:Nat}{x:List Value}{c:bW}(h:Bv w B x c):∃k s n l o A1 n1 c1 A2 n2 c2 A3 n3 c3,x=[I k,.string s,I n,I l,I o,.slice A1 n1 c1,.slice A2 n2 c2,.slice A3 n3 c3]:=by
 cases h with
 |mk h1 _ h2 h3 _=>
  obtain⟨A1,n1,c1,rfl⟩:=jy h1;obtain⟨A2,n2,c2,rfl⟩:=jy h2;obtain⟨A3,n3,c3,rfl⟩:=jy h3;exact⟨_,_,_,_,_,_,_,_,_,_,_,_,_,_,rfl⟩
theorem lV {xs ys:List Value}{n m:Nat}(h:(xs.drop n).take m=ys){j:Nat}(hj:j<m):xs[n+j]? =ys[j]? :=by
 rw [<-h,List.getElem?_take,if_pos hj,List.getElem?_drop]
theorem Dt {W w':World}{b i:Nat}{v:Value}(h:Below W.heap.size W w')(d:W.cell? ⟨b,i,none⟩=some v)(hb:b<W.heap.size):w'.cell? ⟨b,i,none⟩=some v:=
 (h.cell (p:=⟨b,i,none⟩) hb).trans d
open Go.ChangeShapes Go.WideShapes Go.ChangeAt Go.RowKit
inductive fA {α:Type}(R:List Value->α->Prop) (k:Nat):List Value->List α->Prop
 |nil:fA R k [] []
 |cons {x y:List Value}{c:α}{l:List α}:x.length=k->R x c->fA R k y l->fA R k (x++y) (c :: l)
theorem fA.len {α:Type}{R:List Value->α->Prop}{k:Nat}:∀{xs:List Value}{ys:List α},fA R k xs ys->xs.length=ys.length*k
 |_,_,.nil=>by simp
 |_,_,.cons h1 h2 h3=>by rw [List.length_append,List.length_cons,h1,fA.len h3,Nat.add_mul,Nat.one_mul,Nat.add_comm]
theorem fA.all {α:Type}{R:List Value->α->Prop}{k:Nat}{S:α->Prop}(hS:∀z c,R z c->S c):∀{xs:List Value}{ys:List α},fA R k xs ys->∀y∈ys,S y
 |_,_,.nil,y,hy=>by cases hy
 |_,_,.cons h1 h2 h3,y,hy=>by
  rcases List.mem_cons.1 hy with rfl |hy
  ·exact hS _ _ h2
  ·exact fA.all hS h3 y hy
section
variable {H:Type}{enc:TypeId ×Value->H}{P:Program}{W:World}
end
mutual
def okT:bZ->Prop
 |.mk k nm ns ks=>In64 k∧nm.length<=maxLen∧(∀x∈ns,x.length<=maxLen)∧VH ks
def VH:List bZ->Prop
 | []=>True
 |t :: l=>okT t∧VH l
end
theorem Nf:∀{l:List bZ},VH l↔∀x∈l,okT x
 | []=>by simp [VH]
 |c :: l=>by
  rw [VH,Nf (l:=l)];simp
mutual
def okN:bW->Prop
 |.mk k text n line col ts ns ks=>In64 k∧text.length<=maxLen∧In64 n∧In64 line∧In64 col∧(∀x∈ts,okT x)∧(∀x∈ns,x.length<=maxLen)∧VI ks
def VI:List bW->Prop
 | []=>True
 |t :: l=>okN t∧VI l
end
theorem BP:∀{l:List bW},VI l↔∀x∈l,okN x
 | []=>by simp [VI]
 |c :: l=>by
  rw [VI,BP (l:=l)];simp
section
variable {H:Type}{enc:TypeId ×Value->H}{W:World}
end
end
structure vB where
 from_:Bt
 names:List Bt
 line:Int
 col:Int
structure vC where
 name:Bt
 bound:bZ
structure qY where
 name:Bt
 exp:Bool
 vars:List vC
 param:Bt
 types:List bZ
 body:bW
 line:Int
 col:Int
structure Bw where
 imps:List vB
 decls:List qY
abbrev Du:=Nat ×Nat ×Int
inductive Pr (α:Type) where
 |bad (d:Du):Pr α
 |good (a:α) (r:List aH):Pr α
abbrev Ps (α:Type):=List aH->Pr α
def aB {α:Type}(a:α):Ps α:=fun ts=>.good a ts
def aj {α β:Type}(p:Ps α)(f:α->Ps β):Ps β:=fun ts=>match p ts with
 |.bad d=>.bad d
 |.good a r=>f a r
theorem au {α β:Type}{p:Ps α}{f:α->Ps β}{ts r:List aH}{a:α}(h:p ts=.good a r):aj p f ts=f a r:=by unfold aj;rw [h]
theorem aA {α β:Type}{p:Ps α}{f:α->Ps β}{ts:List aH}{d:Du}(h:p ts=.bad d):aj p f ts=.bad d:=by unfold aj;rw [h]
def aR (ts:List aH):aH:=ts.headD ⟨0,[],0,0⟩
def kI {α:Type}(e:Int):Ps α:=fun ts=>.bad ((aR ts).line,(aR ts).col,e)
def kU (t:aH)(s:Bt):Bool:=(t.kind==2 || t.kind==5) && t.text==s
def dK (l:List Bt):Ps (Option Nat):=fun ts=>match l.findIdx? (kU (aR ts))with
 |none=>.good none ts
 |some i=>.good (some i) (ts.drop 1)
def bD (s:Bt):Ps Bool:=fun ts=>if kU (aR ts) s then .good true (ts.drop 1)else .good false ts
theorem uj {t:aH}{s:Bt}(h:kU t s=true)(r:List aH):bD s (t :: r)=.good true r:=by
 unfold bD;rw [if_pos (show kU (aR (t :: r)) s=true from h)];rfl
theorem AL {t:aH}{s:Bt}(h:kU t s=false)(r:List aH):bD s (t :: r)=.good false (t :: r):=by
 unfold bD;rw [if_neg (show ¬kU (aR (t :: r)) s=true from fun e=>by rw [show kU (aR (t :: r)) s=kU t s from rfl,h]at e;cases e)]
theorem Gw {t:aH}{l:List Bt}{i:Nat}(h:l.findIdx? (kU t)=some i)(r:List aH):dK l (t :: r)=.good (some i) r:=by
 unfold dK;rw [show l.findIdx? (kU (aR (t :: r)))=some i from h];rfl
theorem FZ {t:aH}{l:List Bt}(h:l.findIdx? (kU t)=none)(r:List aH):dK l (t :: r)=.good none (t :: r):=by
 unfold dK;rw [show l.findIdx? (kU (aR (t :: r)))=none from h]
def aC (s:Bt):Ps Unit:=aj (bD s) fun b=>if b then aB ()else kI 7
def jX:List Bt->Ps Unit
 | []=>aB ()
 |s :: l=>aj (aC s) fun _=>jX l
def dL (k:Int):Ps Bt:=fun ts=>if(aR ts).kind=k then .good (aR ts).text (if k=0 then ts else ts.drop 1)else .bad ((aR ts).line,(aR ts).col,7)
def nameP:Ps Bt:=dL 1
def pF {α:Type}(one:Ps α):Nat->List α->Ps (List α)
 |0,l=>aB l
 |f+1,l=>aj (bD [44]) fun b=>if b then aj one fun a=>pF one f (l++[a])else aB l
def gU {α:Type}(one:Ps α):Ps (List α):=aj one fun a ts=>pF one ts.length [a] ts
section
variable (typ:Ps bZ)
def rV:List Bt:=[[97,110,121],[110,117,108,108],[98,111,111,108],[105,110,116],[115,116,114]]
def lW:Ps (Bt ×bZ):=aj nameP fun s=>aj (aC [58]) fun _=>aj typ fun t=>aB (s,t)
def lK:Ps bZ:=aj (dK rV) fun b=>match b with
 |some k=>aB (.mk k [] [] [])
 |none=>aj (dK [[40],[123]]) fun c=>match c with
  |none=>aj nameP fun s=>aB (.mk 8 s [] [])
  |some 0=>aj typ fun t=>aj (aC [41]) fun _=>aB t
  |some _=>aj (bD [125]) fun e=>if e then aB (.mk 5 [] [] [])else
    aj (gU (lW typ)) fun l=>aj (aC [125]) fun _=>aB (.mk 5 [] (l.map (·.1)) (l.map (·.2)))
def qG:Nat->List bZ->Ps (List bZ)
 |0,l=>aB l
 |f+1,l=>aj (bD [124]) fun b=>if b then aj (lK typ) fun a=>qG f (l++[a])else aB l
def iT:List bZ->bZ
 | [t]=>t
 |l=>.mk 7 [] [] l
def JD:Ps bZ:=aj (lK typ) fun a=>aj (fun ts=>qG typ ts.length [a] ts) fun l=>aj (bD [45,62]) fun b=>
 if b then aj typ fun r=>aB (.mk 6 [] [] [iT l,r])else aB (iT l)
def jG:bZ:= .mk 0 [] [] []
def fZ (l none_:List bZ):Ps (List bZ):=aj (bD [58]) fun b=>if b then aj typ fun t=>aB (l++[t])else aB (l++none_)
def jB (none_:List bZ):Ps (Bt ×List bZ):=aj (aC [40]) fun _=>aj nameP fun s=>aj (fZ typ [] [jG]) fun l=>aj (aC [41]) fun _=>aj (fZ typ l none_) fun m=>aB (s,m)
variable (expr unary:Ps bW)
def aI (k:Int)(text:Bt)(n:Int)(at_:aH)(types:List bZ)(names:List Bt)(kids:List bW):bW:= .mk k text n at_.line at_.col types names kids
def bJ:List Bt->List bW->Ps (List bW)
 | [],l=>aB l
 |s :: r,l=>aj (if s=[]then aB ()else aC s) fun _=>aj expr fun x=>bJ r (l++[x])
def kr:Ps aH:=fun ts=>.good (aR ts) ts
def pG (f:aH->List aH->Bool):Ps Bool:=fun ts=>.good (f (aR ts) ts) ts
def kJ (ops:List Bt)(sub:Ps bW):Nat->bW->Ps bW
 |0,a=>aB a
 |f+1,a=>aj kr fun h=>aj (dK ops) fun i=>match i with
  |none=>aB a
  |some i=>aj sub fun b=>kJ ops sub f (aI 14 (ops.getD i []) 0 h [] [] [a,b])
def ED (ops:List Bt)(sub:Ps bW):Ps bW:=aj sub fun a ts=>kJ ops sub ts.length a ts
def kY:List Bt:=[[60],[60,61],[61,61],[105,115],[97,115]]
def Ng (sub:Ps bW):Ps bW:=aj sub fun a=>aj kr fun h=>aj (dK kY) fun i=>match i with
 |none=>aB a
 |some i=>
  if i=3 then aj (dK mV) fun t=>match t with
   |some t=>aB (aI 12 [] t h [] [] [a])
   |none=>kI 7
  else if i=4 then aj typ fun t=>aB (aI 13 [] 0 h [t] [] [a])
  else aj sub fun b=>aB (aI 14 (kY.getD i []) 0 h [] [] [a,b])
def lX:List (List Bt):=[[[111,114]],[[97,110,100]],[],[[43,43]],[[43],[45],[94]],[[42],[47],[37],[38],[60,60],[62,62]]]
def je:Nat->Ps bW
 |0=>unary
 |f+1=>if f=3 then Ng typ (je f)else ED (lX.getD (5 - f) []) (je f)
def EF:Ps bW:=aj kr fun h=>aj (dK [[108,101,116],[105,102],[102,110]]) fun i=>match i with
 |none=>je typ unary 6
 |some 0=>aj nameP fun s=>aj (fZ typ [] []) fun t=>aj (bJ expr [[61],[59]] []) fun k=>aB (aI 5 s 0 h t [] k)
 |some 1=>aj (bJ expr [[],[116,104,101,110],[101,108,115,101]] []) fun k=>aB (aI 11 [] 0 h [] [] k)
 |some _=>aj (jB typ []) fun s=>aj (bJ expr [[61,62]] []) fun k=>aB (aI 6 s.1 0 h s.2 [] k)
def iC:Ps (Bt ×bW):=aj nameP fun s=>aj (aC [58]) fun _=>aj expr fun x=>aB (s,x)
def nX (h:aH):Ps bW:=aj (pG fun t _=>kU t [125]) fun e=>if e then aB (aI 8 [] 0 h [] [] [])else
 aj (pG fun t ts=>t.kind==1 && kU (aR (ts.drop 1)) [58]) fun c=>
  if c then aj (gU (iC expr)) fun l=>aB (aI 8 [] 0 h [] (l.map (·.1)) (l.map (·.2)))
  else aj (bJ expr [[]] []) fun k=>aj (aC [119,105,116,104]) fun _=>aj nameP fun s=>aj (bJ expr [[58]] k) fun m=>aB (aI 10 s 0 h [] [] m)
def qH (h:aH):Ps bW:=aj nameP fun s=>aj (bD [91]) fun b=>if b then aj (gU typ) fun l=>aj (aC [93]) fun _=>aB (aI 19 s 0 h l [] [])else aB (aI 4 s 0 h [] [] [])
def jY:List Bt:=[[102,97,108,115,101],[116,114,117,101],[110,117,108,108],[114,101,97,100],[112,114,105,110,116],[40],[123]]
def um:Ps bW:=aj kr fun h=>
 if h.kind=3 then aj (dL 3) fun s=>aB (aI 0 [] (dH s).1 h [] [] [])
 else if h.kind=4 then aj (dL 4) fun s=>aB (aI 1 s 0 h [] [] [])
 else aj (dK jY) fun i=>match i with
  |none=>qH typ h
  |some 0=>aB (aI 2 [] 0 h [] [] [])
  |some 1=>aB (aI 2 [] 1 h [] [] [])
  |some 2=>aB (aI 3 [] 0 h [] [] [])
  |some 3=>aj (jX [[40],[41]]) fun _=>aB (aI 18 [] 0 h [] [] [])
  |some 4=>aj (bJ expr [[40]] []) fun k=>aj (aC [41]) fun _=>aB (aI 17 [] 0 h [] [] k)
  |some 5=>aj expr fun x=>aj (aC [41]) fun _=>aB x
  |some _=>aj (nX expr h) fun x=>aj (aC [125]) fun _=>aB x
def iD:Nat->bW->Ps bW
 |0,a=>aB a
 |f+1,a=>aj kr fun h=>aj (dK [[40],[46]]) fun i=>match i with
  |none=>aB a
  |some 0=>aj (bJ expr [[]] [a]) fun k=>aj (aC [41]) fun _=>iD f (aI 7 [] 0 h [] [] k)
  |some _=>aj nameP fun s=>iD f (aI 9 s 0 h [] [] [a])
def qQ:Ps bW:=aj (um typ expr) fun a ts=>iD expr ts.length a ts
def yu:Ps bW:=aj kr fun h=>aj (dK [[45],[110,111,116]]) fun i=>match i with
 |none=>qQ typ expr
 |some 0=>aj unary fun x=>aB (aI 16 [] 0 h [] [] [x])
 |some _=>aj unary fun x=>aB (aI 15 [] 0 h [] [] [x])
end
structure atL where
 typ:Ps bZ
 expr:Ps bW
 unary:Ps bW
def dw:Nat->atL
 |0=>⟨kI 6,kI 6,kI 6⟩
 |n+1=>⟨JD (dw n).typ,EF (dw n).typ (dw n).expr (dw n).unary,yu (dw n).typ (dw n).expr (dw n).unary⟩
def tK:Ps vC:=aj nameP fun s=>aj (bD [60,58]) fun b=>if b then aj (dw 100).typ fun t=>aB ⟨s,t⟩else aB ⟨s,jG⟩
def rW:Ps (List vC):=aj (bD [91]) fun b=>if b then aj (gU tK) fun l=>aj (aC [93]) fun _=>aB l else aB []
def lD (h:aH):Ps vB:=aj nameP fun s=>aj (aC [58]) fun _=>aj (gU nameP) fun l=>aj (aC [59]) fun _=>aB ⟨s,l,h.line,h.col⟩
def l9:Ps qY:=aj (bD [101,120,112,111,114,116]) fun e=>aj kr fun h=>aj (aC [102,110]) fun _=>aj nameP fun s=>aj rW fun v=>
 aj (jB (dw 100).typ [jG]) fun p=>aj (aC [61]) fun _=>aj (dw 100).expr fun b=>aj (aC [59]) fun _=>aB ⟨s,e,v,p.1,p.2,b,h.line,h.col⟩
def kZ:Nat->List vB->Ps (List vB)
 |0,l=>aB l
 |f+1,l=>aj kr fun h=>aj (bD [105,109,112,111,114,116]) fun b=>if b then aj (lD h) fun i=>kZ f (l++[i])else aB l
def fO:Nat->List qY->Ps (List qY)
 |0,l=>aB l
 |f+1,l=>aj (pG fun t _=>t.kind==0) fun b=>if b then aB l else aj l9 fun d=>fO f (l++[d])
def Tj:Ps (List vB):=fun ts=>kZ ts.length [] ts
def Ls:Ps (List qY):=fun ts=>fO ts.length [] ts
def cK:Ps Bw:=aj Tj fun i=>aj Ls fun d=>aB ⟨i,d⟩
def dB {α:Type}(p:Ps α)(s:Bt):Option α ×Du:=
 if(gH s).2.2.2=0 then(match aj p (fun x=>aj (dL 0) fun _=>aB x) (gH s).1 with
  |.bad d=>(none,d)
  |.good x _=>(some x,(0,0,0)))
 else(none,(gH s).2)
def Wf (ts:List aH):Prop:=∃a e,ts=a++[e]∧e.kind=0∧∀t∈a,t.kind≠0∧(t.kind=2->t.text≠[58])
theorem Wf.one {e:aH}(h:e.kind=0):Wf [e]:=⟨[],e,rfl,h,by simp⟩
theorem Wf.pos {ts:List aH}(h:Wf ts):1<=ts.length:=by obtain⟨a,e,rfl,_⟩:=h;simp
theorem Wf.cases {ts:List aH}(h:Wf ts):(∃e,ts=[e]∧e.kind=0)∨∃t r,ts=t :: r∧t.kind≠0∧(t.kind=2->t.text≠[58])∧Wf r:=by
 obtain⟨a,e,rfl,h0,h1⟩:=h;cases a with
 |nil=>exact .inl ⟨e,rfl,h0⟩
 |cons t a=>exact .inr ⟨t,a++[e],rfl,(h1 t (by simp)).1,(h1 t (by simp)).2,a,e,rfl,h0,fun x hx=>h1 x (by simp [hx])⟩
theorem Wf.Gx {ts:List aH}(h:Wf ts):aR ts∈ts:=by
 rcases h.cases with⟨e,rfl,_⟩ |⟨t,r,rfl,_⟩ <;> simp [aR]
theorem Wf.drop {ts:List aH}(h:Wf ts)(hk:(aR ts).kind≠0):Wf (ts.drop 1):=by
 rcases h.cases with⟨e,rfl,h0⟩ |⟨t,r,rfl,_,_,hr⟩
 ·exact absurd h0 (by simpa [aR]using hk)
 ·simpa using hr
theorem Gy {t:aH}{s:Bt}(h:kU t s=true):t.kind≠0:=by
 unfold kU at h;intro h0;rw [h0]at h;simp at h
def Sf {α:Type}(p:Ps α):Prop:=∀ts,Wf ts->match p ts with
 |.bad d=>(∃t∈ts,d.1=t.line∧d.2.1=t.col)∧(d.2.2=6∨d.2.2=7)
 |.good _ r=>Wf r∧r<:+ts
section
variable {α β:Type}
theorem Sf.bad {p:Ps α}(h:Sf p){ts:List aH}(hw:Wf ts){d:Du}(hp:p ts=.bad d):(∃t∈ts,d.1=t.line∧d.2.1=t.col)∧(d.2.2=6∨d.2.2=7):=by
 have:=h ts hw;rwa [hp]at this
theorem Sf.good {p:Ps α}(h:Sf p){ts:List aH}(hw:Wf ts){a:α}{r:List aH}(hp:p ts=.good a r):Wf r∧r<:+ts:=by
 have:=h ts hw;rwa [hp]at this
theorem Sf.ret (a:α):Sf (aB a):=fun ts hw=>⟨hw,List.suffix_refl _⟩
theorem Sf.then_ {p:Ps α}{f:α->Ps β}(h:Sf p)(hf:∀a,Sf (f a)):Sf (aj p f):=by
 intro ts hw;unfold aj;rcases hp:p ts with d |⟨a,r⟩
 ·exact h.bad hw hp
 ·obtain⟨hr,hs⟩:=h.good hw hp;have h2:=hf a r hr;simp only;rcases hq:f a r with d |⟨b,r2⟩
  ·rw [hq]at h2;obtain⟨⟨t,ht,e⟩,h3⟩:=h2;exact⟨⟨t,hs.subset ht,e⟩,h3⟩
  ·rw [hq]at h2;exact⟨h2.1,h2.2.trans hs⟩
theorem Sf.fail {e:Int}(he:e=6∨e=7):Sf (kI (α:=α) e):=fun ts hw=>⟨⟨_,hw.Gx,rfl,rfl⟩,he⟩
theorem Gz (ts:List aH):ts.drop 1<:+ts:=List.drop_suffix 1 ts
theorem Sf.kH (l:List Bt):Sf (dK l):=by
 intro ts hw;unfold dK;rcases h:l.findIdx? (kU (aR ts))with _ |i
 ·exact⟨hw,List.suffix_refl _⟩
 ·obtain⟨hi,h1,_⟩:=List.findIdx?_eq_some_iff_getElem.1 h;exact⟨hw.drop (Gy h1),Gz ts⟩
theorem Sf.has (s:Bt):Sf (bD s):=by
 intro ts hw;unfold bD;by_cases h:kU (aR ts) s=true
 ·rw [if_pos h];exact⟨hw.drop (Gy h),Gz ts⟩
 ·rw [if_neg h];exact⟨hw,List.suffix_refl _⟩
theorem Sf.want (s:Bt):Sf (aC s):=Sf.then_ (Sf.has s) fun b=>by
 cases b
 ·exact Sf.fail (.inr rfl)
 ·exact Sf.ret ()
theorem Sf.wants:∀l:List Bt,Sf (jX l)
 | []=>Sf.ret ()
 |s :: l=>Sf.then_ (Sf.want s) fun _=>Sf.wants l
theorem Sf.kind (k:Int):Sf (dL k):=by
 intro ts hw;unfold dL;by_cases h:(aR ts).kind=k
 ·rw [if_pos h];by_cases h0:k=0
  ·rw [if_pos h0];exact⟨hw,List.suffix_refl _⟩
  ·rw [if_neg h0];exact⟨hw.drop (by rw [h];exact h0),Gz ts⟩
 ·rw [if_neg h];exact⟨⟨_,hw.Gx,rfl,rfl⟩,.inr rfl⟩
theorem Sf.name:Sf nameP:=Sf.kind 1
theorem Sf.here:Sf kr:=fun ts hw=>⟨hw,List.suffix_refl _⟩
theorem Sf.seen (f:aH->List aH->Bool):Sf (pG f):=fun ts hw=>⟨hw,List.suffix_refl _⟩
theorem Sf.fuel {p:List aH->Ps α}(h:∀ts,Sf (p ts)):Sf (fun ts=>p ts ts):=fun ts hw=>h ts ts hw
theorem Sf.ad9 {one:Ps α}(h:Sf one):∀(f:Nat) (l:List α),Sf (pF one f l)
 |0,l=>Sf.ret l
 |f+1,l=>Sf.then_ (Sf.has _) fun b=>by
  cases b
  ·exact Sf.ret l
  ·exact Sf.then_ h fun a=>Sf.ad9 h f _
theorem Sf.sep {one:Ps α}(h:Sf one):Sf (gU one):=Sf.then_ h fun a=>Sf.fuel (p:=fun ts=>pF one ts.length [a]) fun ts=>Sf.ad9 h _ _
end
section
variable {typ:Ps bZ}(ht:Sf typ) {expr unary:Ps bW}(he:Sf expr) (hu:Sf unary)
include ht
theorem Sf.Nh:Sf (lK typ):=by
 refine Sf.then_ (Sf.kH _) fun b=>?_;rcases b with _ |k
 ·refine Sf.then_ (Sf.kH _) fun c=>?_;rcases c with _ |_ |k
  ·exact Sf.then_ Sf.name fun s=>Sf.ret _
  ·exact Sf.then_ ht fun t=>Sf.then_ (Sf.want _) fun _=>Sf.ret _
  ·refine Sf.then_ (Sf.has _) fun e=>?_;cases e
   ·exact Sf.then_ (Sf.sep (Sf.then_ Sf.name fun s=>Sf.then_ (Sf.want _) fun _=>Sf.then_ ht fun t=>Sf.ret _)) fun l=>Sf.then_ (Sf.want _) fun _=>Sf.ret _
   ·exact Sf.ret _
 ·exact Sf.ret _
theorem Sf.alt:∀(f:Nat) (l:List bZ),Sf (qG typ f l)
 |0,l=>Sf.ret l
 |f+1,l=>Sf.then_ (Sf.has _) fun b=>by
  cases b
  ·exact Sf.ret l
  ·exact Sf.then_ (Sf.Nh ht) fun a=>Sf.alt f _
theorem Sf.aj8:Sf (JD typ):=Sf.then_ (Sf.Nh ht) fun a=>Sf.then_ (Sf.fuel (p:=fun ts=>qG typ ts.length [a]) fun ts=>Sf.alt ht _ _) fun l=>Sf.then_ (Sf.has _) fun b=>by
 cases b
 ·exact Sf.ret _
 ·exact Sf.then_ ht fun r=>Sf.ret _
theorem Sf.note (l n:List bZ):Sf (fZ typ l n):=Sf.then_ (Sf.has _) fun b=>by
 cases b
 ·exact Sf.ret _
 ·exact Sf.then_ ht fun r=>Sf.ret _
theorem Sf.head (n:List bZ):Sf (jB typ n):=Sf.then_ (Sf.want _) fun _=>Sf.then_ Sf.name fun s=>Sf.then_ (Sf.note ht _ _) fun l=>Sf.then_ (Sf.want _) fun _=>Sf.then_ (Sf.note ht _ _) fun m=>Sf.ret _
omit ht
include he
theorem Sf.kids:∀(a:List Bt) (l:List bW),Sf (bJ expr a l)
 | [],l=>Sf.ret l
 |s :: r,l=>Sf.then_ (by split;exact Sf.ret ();exact Sf.want s) fun _=>Sf.then_ he fun x=>Sf.kids r _
omit he
theorem Sf.left {sub:Ps bW}(hs:Sf sub)(ops:List Bt):∀(f:Nat) (a:bW),Sf (kJ ops sub f a)
 |0,a=>Sf.ret a
 |f+1,a=>Sf.then_ Sf.here fun h=>Sf.then_ (Sf.kH _) fun i=>by
  rcases i with _ |i
  ·exact Sf.ret a
  ·exact Sf.then_ hs fun b=>Sf.left hs ops f _
theorem Sf.Yq {sub:Ps bW}(hs:Sf sub)(ops:List Bt):Sf (ED ops sub):=Sf.then_ hs fun a=>Sf.fuel (p:=fun ts=>kJ ops sub ts.length a) fun ts=>Sf.left hs _ _ _
include ht
theorem Sf.cmp {sub:Ps bW}(hs:Sf sub):Sf (Ng typ sub):=Sf.then_ hs fun a=>Sf.then_ Sf.here fun h=>Sf.then_ (Sf.kH _) fun i=>by
 rcases i with _ |i
 ·exact Sf.ret a
 ·simp only;split
  ·refine Sf.then_ (Sf.kH _) fun t=>?_;rcases t with _ |t
   ·exact Sf.fail (.inr rfl)
   ·exact Sf.ret _
  ·split
   ·exact Sf.then_ ht fun t=>Sf.ret _
   ·exact Sf.then_ hs fun b=>Sf.ret _
include hu
theorem Sf.rank:∀f:Nat,Sf (je typ unary f)
 |0=>hu
 |f+1=>by
  unfold je;split
  ·exact Sf.cmp ht (Sf.rank f)
  ·exact Sf.Yq (Sf.rank f) _
include he
theorem Sf.Yr:Sf (EF typ expr unary):=Sf.then_ Sf.here fun h=>Sf.then_ (Sf.kH _) fun i=>by
 rcases i with _ |_ |_ |i
 ·exact Sf.rank ht hu 6
 ·exact Sf.then_ Sf.name fun s=>Sf.then_ (Sf.note ht _ _) fun t=>Sf.then_ (Sf.kids he _ _) fun k=>Sf.ret _
 ·exact Sf.then_ (Sf.kids he _ _) fun k=>Sf.ret _
 ·exact Sf.then_ (Sf.head ht _) fun s=>Sf.then_ (Sf.kids he _ _) fun k=>Sf.ret _
omit hu ht
theorem Sf.Dv:Sf (iC expr):=Sf.then_ Sf.name fun s=>Sf.then_ (Sf.want _) fun _=>Sf.then_ he fun x=>Sf.ret _
theorem Sf.aj9 (h:aH):Sf (nX expr h):=Sf.then_ (Sf.seen _) fun e=>by
 cases e
 ·rw [if_neg Bool.false_ne_true];refine Sf.then_ (Sf.seen _) fun c=>?_;cases c
  ·exact Sf.then_ (Sf.kids he _ _) fun k=>Sf.then_ (Sf.want _) fun _=>Sf.then_ Sf.name fun s=>Sf.then_ (Sf.kids he _ _) fun m=>Sf.ret _
  ·exact Sf.then_ (Sf.sep (Sf.Dv he)) fun l=>Sf.ret _
 ·exact Sf.ret _
include ht
omit he
theorem Sf.named (h:aH):Sf (qH typ h):=Sf.then_ Sf.name fun s=>Sf.then_ (Sf.has _) fun b=>by
 cases b
 ·exact Sf.ret _
 ·exact Sf.then_ (Sf.sep ht) fun l=>Sf.then_ (Sf.want _) fun _=>Sf.ret _
include he
theorem Sf.atom:Sf (um typ expr):=Sf.then_ Sf.here fun h=>by
 split
 ·exact Sf.then_ (Sf.kind 3) fun s=>Sf.ret _
 ·split
  ·exact Sf.then_ (Sf.kind 4) fun s=>Sf.ret _
  ·refine Sf.then_ (Sf.kH _) fun i=>?_;rcases i with _ |_ |_ |_ |_ |_ |_ |i
   ·exact Sf.named ht h
   ·exact Sf.ret _
   ·exact Sf.ret _
   ·exact Sf.ret _
   ·exact Sf.then_ (Sf.wants _) fun _=>Sf.ret _
   ·exact Sf.then_ (Sf.kids he _ _) fun k=>Sf.then_ (Sf.want _) fun _=>Sf.ret _
   ·exact Sf.then_ he fun k=>Sf.then_ (Sf.want _) fun _=>Sf.ret _
   ·exact Sf.then_ (Sf.aj9 he h) fun k=>Sf.then_ (Sf.want _) fun _=>Sf.ret _
omit ht
theorem Sf.Ni:∀(f:Nat) (a:bW),Sf (iD expr f a)
 |0,a=>Sf.ret a
 |f+1,a=>Sf.then_ Sf.here fun h=>Sf.then_ (Sf.kH _) fun i=>by
  rcases i with _ |_ |i
  ·exact Sf.ret a
  ·exact Sf.then_ (Sf.kids he _ _) fun k=>Sf.then_ (Sf.want _) fun _=>Sf.Ni f _
  ·exact Sf.then_ Sf.name fun k=>Sf.Ni f _
include ht
theorem Sf.post:Sf (qQ typ expr):=Sf.then_ (Sf.atom ht he) fun a=>Sf.fuel (p:=fun ts=>iD expr ts.length a) fun ts=>Sf.Ni he _ _
include hu
theorem Sf.Q0:Sf (yu typ expr unary):=Sf.then_ Sf.here fun h=>Sf.then_ (Sf.kH _) fun i=>by
 rcases i with _ |_ |i
 ·exact Sf.post ht he
 ·exact Sf.then_ hu fun x=>Sf.ret _
 ·exact Sf.then_ hu fun x=>Sf.ret _
end
theorem Sf.Q6:∀n:Nat,Sf (dw n).typ∧Sf (dw n).expr∧Sf (dw n).unary
 |0=>⟨Sf.fail (.inl rfl),Sf.fail (.inl rfl),Sf.fail (.inl rfl)⟩
 |n+1=>by
  obtain⟨h1,h2,h3⟩:=Sf.Q6 n;exact⟨Sf.aj8 h1,Sf.Yr h1 h2 h3,Sf.Q0 h1 h2 h3⟩
theorem Sf.var:Sf tK:=Sf.then_ Sf.name fun s=>Sf.then_ (Sf.has _) fun b=>by
 cases b
 ·exact Sf.ret _
 ·exact Sf.then_ (Sf.Q6 100).1 fun t=>Sf.ret _
theorem Sf.vars:Sf rW:=Sf.then_ (Sf.has _) fun b=>by
 cases b
 ·exact Sf.ret _
 ·exact Sf.then_ (Sf.sep Sf.var) fun l=>Sf.then_ (Sf.want _) fun _=>Sf.ret _
theorem Sf.import_ (h:aH):Sf (lD h):=Sf.then_ Sf.name fun s=>Sf.then_ (Sf.want _) fun _=>Sf.then_ (Sf.sep Sf.name) fun l=>Sf.then_ (Sf.want _) fun _=>Sf.ret _
theorem Sf.decl:Sf l9:=Sf.then_ (Sf.has _) fun e=>Sf.then_ Sf.here fun h=>Sf.then_ (Sf.want _) fun _=>Sf.then_ Sf.name fun s=>Sf.then_ Sf.vars fun v=>
 Sf.then_ (Sf.head (Sf.Q6 100).1 _) fun p=>Sf.then_ (Sf.want _) fun _=>Sf.then_ (Sf.Q6 100).2.1 fun b=>Sf.then_ (Sf.want _) fun _=>Sf.ret _
theorem Sf.imps:∀(f:Nat) (l:List vB),Sf (kZ f l)
 |0,l=>Sf.ret l
 |f+1,l=>Sf.then_ Sf.here fun h=>Sf.then_ (Sf.has _) fun b=>by
  cases b
  ·exact Sf.ret l
  ·exact Sf.then_ (Sf.import_ h) fun i=>Sf.imps f _
theorem Sf.decls:∀(f:Nat) (l:List qY),Sf (fO f l)
 |0,l=>Sf.ret l
 |f+1,l=>Sf.then_ (Sf.seen _) fun b=>by
  cases b
  ·exact Sf.then_ Sf.decl fun d=>Sf.decls f _
  ·exact Sf.ret l
theorem Sf.module:Sf cK:=Sf.then_ (Sf.fuel (p:=fun ts=>kZ ts.length []) fun ts=>Sf.imps _ _) fun i=>Sf.then_ (Sf.fuel (p:=fun ts=>fO ts.length []) fun ts=>Sf.decls _ _) fun d=>Sf.ret _
theorem fA.imp {α:Type}{R S:List Value->α->Prop}{k:Nat}(hS:∀z c,R z c->S z c):∀{xs:List Value}{ys:List α},fA R k xs ys->fA S k xs ys
 |_,_,.nil=>.nil
 |_,_,.cons h1 h2 h3=>.cons h1 (hS _ _ h2) (fA.imp hS h3)
theorem fA.at {α:Type}{R:List Value->α->Prop}{k:Nat}:∀{xs:List Value}{ys:List α},fA R k xs ys->∀(i:Nat) (hi:i<ys.length),R ((xs.drop (i*k)).take k) ys[i]
 |_,_,.nil,i,hi=>by simp at hi
 |_,_,.cons (x:=x) (y:=y) h1 h2 h3,i,hi=>by
  rcases i with _ |i
  ·rw [Nat.zero_mul,List.drop_zero,<-h1,List.take_left];exact h2
  ·have:(x++y).drop ((i+1)*k)=y.drop (i*k):=by
    rw [show(i+1)*k=x.length+i*k by rw [h1,Nat.add_mul,Nat.one_mul,Nat.add_comm],<-List.drop_drop,List.drop_left]
   rw [this];exact fA.at h3 i (by simpa using hi)
theorem fA.and {α:Type}{R S:List Value->α->Prop}{k:Nat}:∀{xs:List Value}{ys:List α},fA (fun z c=>R z c∧S z c) k xs ys->fA R k xs ys∧fA S k xs ys
 |_,_,.nil=>⟨.nil,.nil⟩
 |_,_,.cons h1 h2 h3=>⟨.cons h1 h2.1 (fA.and h3).1,.cons h1 h2.2 (fA.and h3).2⟩
theorem fA.app {α:Type}{R:List Value->α->Prop}{k:Nat}{xt:List Value}{yt:List α}(h:fA R k xt yt):∀{xs:List Value}{ys:List α},fA R k xs ys->fA R k (xs++xt) (ys++yt)
 |_,_,.nil=>h
 |_,_,.cons h1 h2 h3=>by rw [List.append_assoc,List.cons_append];exact .cons h1 h2 (fA.app h h3)
def Yt (w:World)(B:Nat)(z:List Value)(i:vB):Prop:=∃vn,z=[sv i.from_,vn,I i.line,I i.col]∧Ss w B vn i.names
def VJ (w:World)(B:Nat)(z:List Value)(v:vC):Prop:=∃y,z=sv v.name :: y∧BO w B y v.bound
def Ju (w:World)(B:Nat)(z:List Value)(d:qY):Prop:=
 ∃vv xv vt xt y,z=[sv d.name,.bool d.exp,vv,sv d.param,vt]++(y++[I d.line,I d.col])∧Sl w B 5 vv xv∧fA (VJ w B) 5 xv d.vars∧Sl w B 4 vt xt∧lC w B xt d.types∧Bv w B y d.body
def Q7 (w:World)(B:Nat)(z:List Value)(m:Bw):Prop:=
 ∃vi xi vd xd,z=[vi,vd]∧Sl w B 4 vi xi∧fA (Yt w B) 4 xi m.imps∧Sl w B 15 vd xd∧fA (Ju w B) 15 xd m.decls
section
variable {w w':World}{B B':Nat}{z:List Value}
theorem Yt.keep {i:vB}(h:Yt w B z i)(hb:Below B w w'):Yt w' B z i:=by
 obtain⟨vn,e,h1⟩:=h;exact⟨vn,e,h1.below hb⟩
theorem Yt.more {i:vB}(h:Yt w B z i)(hb:B<=B'):Yt w B' z i:=by
 obtain⟨vn,e,h1⟩:=h;exact⟨vn,e,h1.more hb⟩
theorem VJ.keep {i:vC}(h:VJ w B z i)(hb:Below B w w'):VJ w' B z i:=by
 obtain⟨vn,e,h1⟩:=h;exact⟨vn,e,h1.keep hb⟩
theorem VJ.more {i:vC}(h:VJ w B z i)(hb:B<=B'):VJ w B' z i:=by
 obtain⟨vn,e,h1⟩:=h;exact⟨vn,e,h1.more hb⟩
theorem Ju.keep {i:qY}(h:Ju w B z i)(hb:Below B w w'):Ju w' B z i:=by
 obtain⟨vv,xv,vt,xt,y,e,h1,h2,h3,h4,h5⟩:=h;exact⟨vv,xv,vt,xt,y,e,Sl.below h1 hb,h2.imp fun _ _ h=>h.keep hb,Sl.below h3 hb,h4.keep hb,h5.keep hb⟩
theorem Ju.more {i:qY}(h:Ju w B z i)(hb:B<=B'):Ju w B' z i:=by
 obtain⟨vv,xv,vt,xt,y,e,h1,h2,h3,h4,h5⟩:=h;exact⟨vv,xv,vt,xt,y,e,Sl.more h1 hb,h2.imp fun _ _ h=>h.more hb,Sl.more h3 hb,h4.more hb,h5.more hb⟩
theorem Q7.keep {i:Bw}(h:Q7 w B z i)(hb:Below B w w'):Q7 w' B z i:=by
 obtain⟨vi,xi,vd,xd,e,h1,h2,h3,h4⟩:=h;exact⟨vi,xi,vd,xd,e,Sl.below h1 hb,h2.imp fun _ _ h=>h.keep hb,Sl.below h3 hb,h4.imp fun _ _ h=>h.keep hb⟩
theorem Q7.more {i:Bw}(h:Q7 w B z i)(hb:B<=B'):Q7 w B' z i:=by
 obtain⟨vi,xi,vd,xd,e,h1,h2,h3,h4⟩:=h;exact⟨vi,xi,vd,xd,e,Sl.more h1 hb,h2.imp fun _ _ h=>h.more hb,Sl.more h3 hb,h4.imp fun _ _ h=>h.more hb⟩
theorem Q7.far {i:Bw}(h:Q7 w B z i)(hB:B<=w.heap.size)(hb:Below w.heap.size w w'):Q7 w' w'.heap.size z i:=
 (h.keep (hb.mono hB)).more (Nat.le_trans hB hb.size)
theorem Ju.far {i:qY}(h:Ju w B z i)(hB:B<=w.heap.size)(hb:Below w.heap.size w w'):Ju w' w'.heap.size z i:=
 (h.keep (hb.mono hB)).more (Nat.le_trans hB hb.size)
theorem Ju.len {d:qY}(h:Ju w B z d):z.length=15:=by
 obtain⟨vv,xv,vt,xt,y,rfl,_,_,_,_,h5⟩:=h;have:=h5.len;simp only [List.length_append,List.length_cons,List.length_nil];omega
theorem VJ.len {d:vC}(h:VJ w B z d):z.length=5:=by
 obtain⟨y,rfl,h5⟩:=h;have:=h5.len;simp only [List.length_cons];omega
theorem Ju.parts {d:qY}(h:Ju w B z d):
  ∃A1 c1 A2 c2 k s n l c A3 n3 c3 A4 n4 c4 A5 n5 c5 xv xt,z=[sv d.name,.bool d.exp,.slice A1 d.vars.length c1,sv d.param,.slice A2 d.types.length c2,I k,.string s,I n,I l,I c,.slice A3 n3 c3,.slice A4 n4 c4,.slice A5 n5 c5,I d.line,I d.col]∧
   Sl w B 5 (.slice A1 d.vars.length c1) xv∧fA (VJ w B) 5 xv d.vars∧Sl w B 4 (.slice A2 d.types.length c2) xt∧lC w B xt d.types∧Bv w B [I k,.string s,I n,I l,I c,.slice A3 n3 c3,.slice A4 n4 c4,.slice A5 n5 c5] d.body:=by
 obtain⟨vv,xv,vt,xt,y,rfl,h1,h2,h3,h4,h5⟩:=h;obtain⟨A1,c1,rfl⟩:=fM h1 (by omega) (m:=d.vars.length) h2.len;obtain⟨A2,c2,rfl⟩:=fM h3 (by omega) (m:=d.types.length) h4.length;obtain⟨k,s,n,l,c,A3,n3,c3,A4,n4,c4,A5,n5,c5,rfl⟩:=h5.shape;exact⟨A1,c1,A2,c2,k,s,n,l,c,A3,n3,c3,A4,n4,c4,A5,n5,c5,xv,xt,rfl,h1,h2,h3,h4,h5⟩
theorem Q7.parts {m:Bw}(h:Q7 w B z m):
  ∃A1 c1 A2 c2 xi xd,z=[.slice A1 m.imps.length c1,.slice A2 m.decls.length c2]∧Sl w B 4 (.slice A1 m.imps.length c1) xi∧fA (Yt w B) 4 xi m.imps∧Sl w B 15 (.slice A2 m.decls.length c2) xd∧fA (Ju w B) 15 xd m.decls:=by
 obtain⟨vi,xi,vd,xd,rfl,h1,h2,h3,h4⟩:=h;obtain⟨A1,c1,rfl⟩:=fM h1 (by omega) (m:=m.imps.length) h2.len;obtain⟨A2,c2,rfl⟩:=fM h3 (by omega) (m:=m.decls.length) h4.len;exact⟨A1,c1,A2,c2,xi,xd,rfl,h1,h2,h3,h4⟩
end
theorem Yu {z xs:List Value}{i k j:Nat}{v:Value}(hz:(xs.drop (i*k)).take k=z)(hj:z[j]? =some v):xs[i*k+j]? =some v:=by
 subst hz;rw [List.getElem?_take]at hj;split at hj
 ·rw [List.getElem?_drop]at hj;exact hj
 ·cases hj
theorem Q8 {α:Type}{R:List Value->α->Prop}{w:World}{B k:Nat}{A:Option Addr}{n c:Nat}{xs:List Value}{l:List α}(hs:Sl w B k (.slice A n c) xs)(hr:fA R k xs l)(hk:0<k){i:Nat}(hi:i<l.length)(hn:n=l.length):
  ∃b o z,A=some ⟨b,o,none⟩∧b<B∧R z l[i]∧∀(j:Nat) v,z[j]? =some v->w.cell? ⟨b,o+i*k+j,none⟩=some v:=by
 subst hn;obtain⟨b1,o1,rfl,hb1,hc1⟩:=BN hs hi hk;exact⟨b1,o1,_,rfl,hb1,hr.at i hi,fun j v hv=>by have:=hc1 j v (Yu rfl hv);rwa [<-Nat.add_assoc]at this⟩
def cZ (w:World)(F:Nat->Prop)(k:Nat)(v:Value)(xs:List Value):Prop:=
 ∃(A:Option Addr) (n c:Nat),v=.slice A n c∧xs.length=n*k∧n<=c∧c<=maxLen∧
  (0<n->∃b off,A=some ⟨b,off,none⟩∧F b∧b<w.heap.size∧∀(j:Nat) u,xs[j]? =some u->w.cell? ⟨b,off+j,none⟩=some u)
section
variable {w w':World}{F G:Nat->Prop}{B k:Nat}{v:Value}{xs:List Value}
theorem cZ.turn (h:cZ w F k v xs)(t:Turn G w w')(hd:∀g,g<w.heap.size->F g->¬G g):cZ w' F k v xs:=by
 obtain⟨A,n,c,hv,hl,hn,hc,hx⟩:=h;refine⟨A,n,c,hv,hl,hn,hc,fun h0=>?_⟩;obtain⟨b,off,hA,hb,hs,hcell⟩:=hx h0;refine⟨b,off,hA,hb,t.lt hs,fun j u hu=>?_⟩;rw [<-hcell j u hu];have h1:=t.block hs (hd b hs hb);simp only [World.cell?,h1]
theorem cZ.mono (h:cZ w F k v xs)(hF:∀g,g<w.heap.size->F g->G g):cZ w G k v xs:=by
 obtain⟨A,n,c,hv,hl,hn,hc,hx⟩:=h;refine⟨A,n,c,hv,hl,hn,hc,fun h0=>?_⟩;obtain⟨b,off,hA,hb,hs,hcell⟩:=hx h0;exact⟨b,off,hA,hF b hs hb,hs,hcell⟩
theorem cZ.of (h:Sl w B k v xs)(hB:B<=w.heap.size):cZ w (· <B) k v xs:=by
 obtain⟨A,n,c,hv,hl,hn,hc,hx⟩:=h;refine⟨A,n,c,hv,hl,hn,hc,fun h0=>?_⟩;obtain⟨b,off,hA,hb,hcell⟩:=hx h0;exact⟨b,off,hA,hb,Nat.lt_of_lt_of_le hb hB,hcell⟩
theorem cZ.to (h:cZ w F k v xs)(hF:∀g,g<w.heap.size->F g->g<B):Sl w B k v xs:=by
 obtain⟨A,n,c,hv,hl,hn,hc,hx⟩:=h;refine⟨A,n,c,hv,hl,hn,hc,fun h0=>?_⟩;obtain⟨b,off,hA,hb,hs,hcell⟩:=hx h0;exact⟨b,off,hA,hF b hs hb,hcell⟩
theorem cZ.all (h:cZ w F k v xs):Sl w w.heap.size k v xs:=h.to fun _ hg _=>hg
theorem cZ.nil (w:World)(F:Nat->Prop)(k:Nat):cZ w F k Z []:=
 ⟨none,0,0,rfl,by simp,Nat.le_refl _,Nat.zero_le _,fun h=>absurd h (by omega)⟩
theorem cZ.own {base:Nat}{e:TypeId}{n:Nat}(h:w.ownsRow base e k v n xs)(hF:∀g,v.ownBlock=some g->F g):cZ w F k v xs:=by
 have h1:=Sl.Aw h;obtain⟨A,n',c,hv,hl,hn,hc,hx⟩:=h1;refine⟨A,n',c,hv,hl,hn,hc,fun h0=>?_⟩;obtain⟨b,off,hA,hb,hcell⟩:=hx h0;exact⟨b,off,hA,hF b (by subst hv hA;rfl),hb,hcell⟩
theorem cZ.below (h:cZ w F k v xs)(hb:Below w.heap.size w w'):cZ w' F k v xs:=h.turn (Turn.of_below (F:=fun _=>False) hb) fun _ _ _ h=>h
end
mutual
inductive nT (w:World) (F:Nat->Prop):List Value->bZ->Prop
 |mk {k:Int}{nm:Bt}{vn vk:Value}{ns:List Bt}{ks:List bZ}{xk:List Value}:cZ w F 1 vn (qW ns)->cZ w F 4 vk xk->qI w F xk ks->nT w F [I k,sv nm,vn,vk] (.mk k nm ns ks)
inductive qI (w:World) (F:Nat->Prop):List Value->List bZ->Prop
 |nil:qI w F [] []
 |cons {x y:List Value}{c:bZ}{l:List bZ}:nT w F x c->qI w F y l->qI w F (x++y) (c :: l)
end
mutual
inductive sV (w:World) (F:Nat->Prop):List Value->bW->Prop
 |mk {k n line col:Int}{text:Bt}{vt vn vk:Value}{ts:List bZ}{xt:List Value}{ns:List Bt}{ks:List bW}{xk:List Value}:cZ w F 4 vt xt->qI w F xt ts->cZ w F 1 vn (qW ns)->cZ w F 8 vk xk->qJ w F xk ks->
   sV w F [I k,sv text,I n,I line,I col,vt,vn,vk] (.mk k text n line col ts ns ks)
inductive qJ (w:World) (F:Nat->Prop):List Value->List bW->Prop
 |nil:qJ w F [] []
 |cons {x y:List Value}{c:bW}{l:List bW}:sV w F x c->qJ w F y l->qJ w F (x++y) (c :: l)
end
section
variable {w w':World}{F G:Nat->Prop}{B:Nat}
mutual
theorem nT.turn {x:List Value}{c:bZ}(h:nT w F x c)(t:Turn G w w')(hd:∀g,g<w.heap.size->F g->¬G g):nT w' F x c:=
 match h with
 |.mk h1 h2 h3=>.mk (h1.turn t hd) (h2.turn t hd) (h3.turn t hd)
theorem qI.turn {x:List Value}{l:List bZ}(h:qI w F x l)(t:Turn G w w')(hd:∀g,g<w.heap.size->F g->¬G g):qI w' F x l:=
 match h with
 |.nil=>.nil
 |.cons h1 h2=>.cons (h1.turn t hd) (h2.turn t hd)
end
mutual
theorem nT.mono {x:List Value}{c:bZ}(h:nT w F x c)(hF:∀g,g<w.heap.size->F g->G g):nT w G x c:=
 match h with
 |.mk h1 h2 h3=>.mk (h1.mono hF) (h2.mono hF) (h3.mono hF)
theorem qI.mono {x:List Value}{l:List bZ}(h:qI w F x l)(hF:∀g,g<w.heap.size->F g->G g):qI w G x l:=
 match h with
 |.nil=>.nil
 |.cons h1 h2=>.cons (h1.mono hF) (h2.mono hF)
end
mutual
theorem nT.of {x:List Value}{c:bZ}(h:BO w B x c)(hB:B<=w.heap.size):nT w (· <B) x c:=
 match h with
 |.mk h1 h2 h3=>.mk (cZ.of h1 hB) (cZ.of h2 hB) (qI.of h3 hB)
theorem qI.of {x:List Value}{l:List bZ}(h:lC w B x l)(hB:B<=w.heap.size):qI w (· <B) x l:=
 match h with
 |.nil=>.nil
 |.cons h1 h2=>.cons (nT.of h1 hB) (qI.of h2 hB)
end
mutual
theorem nT.to {x:List Value}{c:bZ}(h:nT w F x c)(hF:∀g,g<w.heap.size->F g->g<B):BO w B x c:=
 match h with
 |.mk h1 h2 h3=>.mk (h1.to hF) (h2.to hF) (h3.to hF)
theorem qI.to {x:List Value}{l:List bZ}(h:qI w F x l)(hF:∀g,g<w.heap.size->F g->g<B):lC w B x l:=
 match h with
 |.nil=>.nil
 |.cons h1 h2=>.cons (h1.to hF) (h2.to hF)
end
mutual
theorem sV.turn {x:List Value}{c:bW}(h:sV w F x c)(t:Turn G w w')(hd:∀g,g<w.heap.size->F g->¬G g):sV w' F x c:=
 match h with
 |.mk h1 h2 h3 h4 h5=>.mk (h1.turn t hd) (h2.turn t hd) (h3.turn t hd) (h4.turn t hd) (h5.turn t hd)
theorem qJ.turn {x:List Value}{l:List bW}(h:qJ w F x l)(t:Turn G w w')(hd:∀g,g<w.heap.size->F g->¬G g):qJ w' F x l:=
 match h with
 |.nil=>.nil
 |.cons h1 h2=>.cons (h1.turn t hd) (h2.turn t hd)
end
mutual
theorem sV.mono {x:List Value}{c:bW}(h:sV w F x c)(hF:∀g,g<w.heap.size->F g->G g):sV w G x c:=
 match h with
 |.mk h1 h2 h3 h4 h5=>.mk (h1.mono hF) (h2.mono hF) (h3.mono hF) (h4.mono hF) (h5.mono hF)
theorem qJ.mono {x:List Value}{l:List bW}(h:qJ w F x l)(hF:∀g,g<w.heap.size->F g->G g):qJ w G x l:=
 match h with
 |.nil=>.nil
 |.cons h1 h2=>.cons (h1.mono hF) (h2.mono hF)
end
mutual
theorem sV.of {x:List Value}{c:bW}(h:Bv w B x c)(hB:B<=w.heap.size):sV w (· <B) x c:=
 match h with
 |.mk h1 h2 h3 h4 h5=>.mk (cZ.of h1 hB) (qI.of h2 hB) (cZ.of h3 hB) (cZ.of h4 hB) (qJ.of h5 hB)
theorem qJ.of {x:List Value}{l:List bW}(h:qX w B x l)(hB:B<=w.heap.size):qJ w (· <B) x l:=
 match h with
 |.nil=>.nil
 |.cons h1 h2=>.cons (sV.of h1 hB) (qJ.of h2 hB)
end
mutual
theorem sV.to {x:List Value}{c:bW}(h:sV w F x c)(hF:∀g,g<w.heap.size->F g->g<B):Bv w B x c:=
 match h with
 |.mk h1 h2 h3 h4 h5=>.mk (h1.to hF) (h2.to hF) (h3.to hF) (h4.to hF) (h5.to hF)
theorem qJ.to {x:List Value}{l:List bW}(h:qJ w F x l)(hF:∀g,g<w.heap.size->F g->g<B):qX w B x l:=
 match h with
 |.nil=>.nil
 |.cons h1 h2=>.cons (h1.to hF) (h2.to hF)
end
theorem nT.all {x:List Value}{c:bZ}(h:nT w F x c):BO w w.heap.size x c:=h.to fun _ hg _=>hg
theorem qI.all {x:List Value}{c:List bZ}(h:qI w F x c):lC w w.heap.size x c:=h.to fun _ hg _=>hg
theorem sV.all {x:List Value}{c:bW}(h:sV w F x c):Bv w w.heap.size x c:=h.to fun _ hg _=>hg
theorem qJ.all {x:List Value}{c:List bW}(h:qJ w F x c):qX w w.heap.size x c:=h.to fun _ hg _=>hg
theorem nT.bel {x:List Value}{c:bZ}(h:nT w F x c)(hb:Below w.heap.size w w'):nT w' F x c:=h.turn (Turn.of_below (F:=fun _=>False) hb) fun _ _ _ h=>h
theorem qI.bel {x:List Value}{c:List bZ}(h:qI w F x c)(hb:Below w.heap.size w w'):qI w' F x c:=h.turn (Turn.of_below (F:=fun _=>False) hb) fun _ _ _ h=>h
theorem sV.bel {x:List Value}{c:bW}(h:sV w F x c)(hb:Below w.heap.size w w'):sV w' F x c:=h.turn (Turn.of_below (F:=fun _=>False) hb) fun _ _ _ h=>h
theorem qJ.bel {x:List Value}{c:List bW}(h:qJ w F x c)(hb:Below w.heap.size w w'):qJ w' F x c:=h.turn (Turn.of_below (F:=fun _=>False) hb) fun _ _ _ h=>h
theorem qJ.at:∀{x:List Value}{l:List bW},qJ w F x l->∀(i:Nat) (hi:i<l.length),sV w F ((x.drop (i*8)).take 8) l[i]
 |_,_,.nil,i,hi=>by simp at hi
 |_,_,.cons (x:=x) (y:=y) h1 h2,i,hi=>by
  have h5:=h1.all.len;rcases i with _ |i
  ·rw [Nat.zero_mul,List.drop_zero,<-h5,List.take_left];exact h1
  ·have:(x++y).drop ((i+1)*8)=y.drop (i*8):=by
    rw [show(i+1)*8=x.length+i*8 by omega,<-List.drop_drop,List.drop_left]
   rw [this];exact qJ.at h2 i (by simpa using hi)
end
theorem EG {α:Type}{R:List Value->α->Prop}{k:Nat}{z:List Value}{c:α}(hz:z.length=k)(h:R z c):fA R k z [c]:=by
 have:=fA.cons (R:=R) hz h .nil;rwa [List.append_nil]at this
def tL (F:Nat->Prop)(v:Value):Nat->Prop:=fun j=>v.ownBlock≠some j∧F j
structure uo {α:Type}(R:World->(Nat->Prop)->List Value->α->Prop) (k:Nat):Prop where
 turn:∀{w w':World}{F G:Nat->Prop}{z:List Value}{x:α},R w F z x->Turn G w w'->(∀g,g<w.heap.size->F g->¬G g)->R w' F z x
 mono:∀{w:World}{F G:Nat->Prop}{z:List Value}{x:α},R w F z x->(∀g,g<w.heap.size->F g->G g)->R w G z x
 len:∀{w:World}{F:Nat->Prop}{z:List Value}{x:α},R w F z x->z.length=k
 one:∀{w:World}{F:Nat->Prop}{z:List Value}{x:α},R w F z x->∀u∈z,u.oneCell'=true
section
variable {α:Type}{R:World->(Nat->Prop)->List Value->α->Prop}{k:Nat}(hR:uo R k)
def eO (R:World->(Nat->Prop)->List Value->α->Prop)(k:Nat)(e:TypeId)(w:World)(base:Nat)(F:Nat->Prop)(v:Value)(l:List α):Prop:=
 ∃ys,w.ownsRow base e k v l.length ys∧fA (R w (tL F v)) k ys l
theorem eO.nil (R:World->(Nat->Prop)->List Value->α->Prop)(k:Nat)(e:TypeId)(w:World)(base:Nat)(F:Nat->Prop):eO R k e w base F Z []:=⟨[],World.ownsRow_nil _ _ _ _,.nil⟩
theorem eO.lt {e:TypeId}{w:World}{base:Nat}{F:Nat->Prop}{v:Value}{l:List α}(h:eO R k e w base F v l):∀g,v.ownBlock=some g->base<=g∧g<w.heap.size:=by
 obtain⟨ys,h1,_⟩:=h;exact h1.lt
theorem eO.shape {e:TypeId}{w:World}{base:Nat}{F:Nat->Prop}{v:Value}{l:List α}(h:eO R k e w base F v l):∃A c,v=.slice A l.length c∧l.length<=c∧c<=maxLen:=by
 obtain⟨ys,h1,_⟩:=h;rcases h1.2 with⟨rfl,h0⟩ |⟨g,cap,cur,rfl,hb,hg,hc,hm,_⟩
 ·exact⟨none,0,by rw [h0],by omega,Nat.zero_le _⟩
 ·exact⟨_,_,rfl,hc,hm⟩
include hR
theorem aM {w w':World}{F G:Nat->Prop}(t:Turn G w w')(hd:∀g,g<w.heap.size->F g->¬G g){ys:List Value}{l:List α}(h:fA (R w F) k ys l):fA (R w' F) k ys l:=h.imp fun _ _ h=>hR.turn h t hd
theorem bI {w:World}{F G:Nat->Prop}(hd:∀g,g<w.heap.size->F g->G g){ys:List Value}{l:List α}(h:fA (R w F) k ys l):fA (R w G) k ys l:=h.imp fun _ _ h=>hR.mono h hd
theorem eO.turn {e:TypeId}{w w':World}{base:Nat}{F:Nat->Prop}{v:Value}{l:List α}{G:Nat->Prop}(h:eO R k e w base F v l)(t:Turn G w w')(ho:∀g,v.ownBlock=some g->¬G g)(hd:∀g,g<w.heap.size->F g->¬G g):eO R k e w' base F v l:=by
 obtain⟨ys,h1,h2⟩:=h;exact⟨ys,dS h1 t ho,aM hR t (fun g hg h=>hd g hg h.2) h2⟩
theorem eO.mono {e:TypeId}{w:World}{base:Nat}{F G:Nat->Prop}{v:Value}{l:List α}(h:eO R k e w base F v l)(hd:∀g,g<w.heap.size->F g->G g):eO R k e w base G v l:=by
 obtain⟨ys,h1,h2⟩:=h;exact⟨ys,h1,bI hR (fun g hg h=>⟨h.1,hd g hg h.2⟩) h2⟩
theorem eO.Gm {e:TypeId}{w:World}{base base':Nat}{F:Nat->Prop}{v:Value}{l:List α}(h:eO R k e w base F v l)(hb:base'<=base):eO R k e w base' F v l:=by
 have:=hR;obtain⟨ys,h1,h2⟩:=h;exact⟨ys,BG h1 hb,h2⟩
theorem eO.push {e:TypeId}{w w6 w7:World}{base bp:Nat}{F:Nat->Prop}{v v7:Value}{l:List α}{x:α}{z ys:List Value}{n7:Nat}(h1:w.ownsRow base e k v l.length ys)(h2:fA (R w (tL F v)) k ys l)
  (t:Turn (fun j=>j=bp) w w6) (hx:R w6 (fun j=>w.heap.size<=j) z x) {G:Nat->Prop}(t7:Turn G w6 w7) (hG:∀j,j<w6.heap.size->G j->v.ownBlock=some j∨(¬F j∧j<w.heap.size)) (hbk:v7.ownBlock=v.ownBlock∨∃m,w6.heap.size<=m∧v7.ownBlock=some m) (h7:w7.ownsRow base e k v7 n7 (ys++z)) (hk:0<k)
  (hbp:¬F bp) (hF:∀j,w.heap.size<=j->F j):eO R k e w7 base F v7 (l++[x]):=by
 have hlt:=h1.lt;have hs6:=t.size;have hn:n7=(l++[x]).length:=by
  have e1:=h7.1;have e2:=h1.1;have e3:=hR.len hx;rw [List.length_append,e2,e3]at e1;rw [List.length_append,List.length_singleton];have:n7*k=(l.length+1)*k:=by rw [<-e1,Nat.add_mul,Nat.one_mul]
  exact Nat.eq_of_mul_eq_mul_right hk this
 subst hn;have hnew:∀j,j<w6.heap.size->v7.ownBlock=some j->v.ownBlock=some j:=fun j hj e=>by
  rcases hbk with hb |⟨m,hm,hb⟩
  ·rw [hb]at e;exact e
  ·rw [hb]at e;injection e with e;omega
 refine⟨_,h7,fA.app (EG (hR.len hx) ?_) (h2.imp fun _ _ h=>?_)⟩
 ·have h3:R w6 (fun j=>j<w6.heap.size∧w.heap.size<=j) z x:=hR.mono hx fun j hj h=>⟨hj,h⟩
  refine hR.mono (hR.turn h3 t7 (fun j _ h e=>by rcases hG j h.1 e with e |e;(have:=(hlt j e).2;omega);(have:=e.2;omega))) fun j _ h=>⟨fun e=>?_,hF j h.2⟩
  have:=(hlt j (hnew j h.1 e)).2;omega
 ·have h3:R w (fun j=>j<w.heap.size∧tL F v j) _ _:=hR.mono h fun j hj h=>⟨hj,h⟩
  refine hR.mono (hR.turn (hR.turn h3 t (fun j _ h e=>by subst e;exact hbp h.2.2)) t7 (fun j _ h e=>by rcases hG j (by have:=h.1;omega) e with e |e;exact h.2.1 e;exact e.1 h.2.2)) fun j _ h=>⟨fun e=>h.2.1 (hnew j (by have:=h.1;omega) e),h.2.2⟩
theorem eO.sl {e:TypeId}{w:World}{base:Nat}{F:Nat->Prop}{v:Value}{l:List α}(h:eO R k e w base F v l):∃xs,cZ w (fun j=>base<=j∨F j) k v xs∧fA (R w (fun j=>base<=j∨F j)) k xs l:=by
 obtain⟨ys,h1,h2⟩:=h;exact⟨ys,cZ.own h1 (fun g hg=>.inl (h1.lt g hg).1),bI hR (fun g _ h=>.inr h.2) h2⟩
end
theorem aea {w:World}{base g i:Nat}{e:TypeId}{k:Nat}{v u:Value}{n:Nat}{xs:List Value}(h:w.ownsRow base e k v n xs)(hg:v.ownBlock=some g):(w.setCell ⟨g,i,none⟩ u).ownsRow base e k v n (xs.set i u):=by
 obtain⟨h0,h⟩:=h;refine⟨by rw [List.length_set];exact h0,?_⟩;rcases h with⟨rfl,_⟩ |⟨g',cap,cur,rfl,hb,hh,hn,hc,hs,ht⟩
 ·cases hg
 ·have:g'=g:=by injection hg
  subst this;refine .inr ⟨g',cap,cur.setIfInBounds i u,rfl,hb,heap_setCell_same _ _ i _ _ u hh,hn,hc,by simpa using hs,?_⟩;rw [Array.toList_setIfInBounds,List.take_set,ht]
theorem aY {w:World}{base g:Nat}{e:TypeId}{k:Nat}{v u:Value}{n:Nat}{xs:List Value}(h:w.ownsRow base e k v n xs)(hg:v.ownBlock=some g){i:Nat}(hi:xs[i]? =some u):w.cell? ⟨g,i,none⟩=some u∧w.frozen? ⟨g,i,none⟩=false:=by
 refine⟨by have:=h.cells hg i u hi;rwa [zi,Nat.zero_add]at this,?_⟩;rcases h.2 with⟨rfl,_⟩ |⟨g',cap,cur,rfl,hb,hh,_⟩
 ·cases hg
 ·have:g'=g:=by injection hg
  subst this;exact frozen_of_row _ _ _ _ _ hh
theorem lF {w:World}{F:Nat->Prop}:∀{xs:List Value}{l:List bZ},fA (nT w F) 4 xs l->qI w F xs l
 |_,_,.nil=>.nil
 |_,_,.cons _ h2 h3=>.cons h2 (lF h3)
theorem nL {w:World}{F:Nat->Prop}:∀{xs:List Value}{l:List bW},fA (sV w F) 8 xs l->qJ w F xs l
 |_,_,.nil=>.nil
 |_,_,.cons _ h2 h3=>.cons h2 (nL h3)
theorem aG:uo nT 4 where
 turn h t hd:=h.turn t hd
 mono h hF:=h.mono hF
 len h:=h.all.len
 one h:=by
  obtain⟨k,s,A1,n1,c1,A2,n2,c2,rfl⟩:=h.all.shape;intro u hu;simp only [List.mem_cons,List.not_mem_nil,or_false]at hu;rcases hu with rfl |rfl |rfl |rfl <;> rfl
theorem aV:uo sV 8 where
 turn h t hd:=h.turn t hd
 mono h hF:=h.mono hF
 len h:=h.all.len
 one h:=by
  obtain⟨k,s,a,b,c,A1,n1,c1,A2,n2,c2,A3,n3,c3,rfl⟩:=h.all.shape;intro u hu;simp only [List.mem_cons,List.not_mem_nil,or_false]at hu;rcases hu with rfl |rfl |rfl |rfl |rfl |rfl |rfl |rfl <;> rfl
def Jv (w:World)(F:Nat->Prop)(z:List Value)(i:vB):Prop:=∃vn,z=[sv i.from_,vn,I i.line,I i.col]∧cZ w F 1 vn (qW i.names)
def Kr (w:World)(F:Nat->Prop)(z:List Value)(v:vC):Prop:=∃y,z=sv v.name :: y∧nT w F y v.bound
def Lu (w:World)(F:Nat->Prop)(z:List Value)(d:qY):Prop:=
 ∃vv xv vt xt y,z=[sv d.name,.bool d.exp,vv,sv d.param,vt]++(y++[I d.line,I d.col])∧cZ w F 5 vv xv∧fA (Kr w F) 5 xv d.vars∧cZ w F 4 vt xt∧qI w F xt d.types∧sV w F y d.body
def Nj (w:World)(F:Nat->Prop)(z:List Value)(m:Bw):Prop:=
 ∃vi xi vd xd,z=[vi,vd]∧cZ w F 4 vi xi∧fA (Jv w F) 4 xi m.imps∧cZ w F 15 vd xd∧fA (Lu w F) 15 xd m.decls
section
variable {w w':World}{F G:Nat->Prop}{z:List Value}{B:Nat}
theorem Jv.turn {i:vB}(h:Jv w F z i)(t:Turn G w w')(hd:∀g,g<w.heap.size->F g->¬G g):Jv w' F z i:=by
 obtain⟨vn,e,h1⟩:=h;exact⟨vn,e,h1.turn t hd⟩
theorem Jv.mono {i:vB}(h:Jv w F z i)(hF:∀g,g<w.heap.size->F g->G g):Jv w G z i:=by
 obtain⟨vn,e,h1⟩:=h;exact⟨vn,e,h1.mono hF⟩
theorem Jv.to {i:vB}(h:Jv w F z i)(hF:∀g,g<w.heap.size->F g->g<B):Yt w B z i:=by
 obtain⟨vn,e,h1⟩:=h;exact⟨vn,e,h1.to hF⟩
theorem Kr.turn {i:vC}(h:Kr w F z i)(t:Turn G w w')(hd:∀g,g<w.heap.size->F g->¬G g):Kr w' F z i:=by
 obtain⟨vn,e,h1⟩:=h;exact⟨vn,e,h1.turn t hd⟩
theorem Kr.mono {i:vC}(h:Kr w F z i)(hF:∀g,g<w.heap.size->F g->G g):Kr w G z i:=by
 obtain⟨vn,e,h1⟩:=h;exact⟨vn,e,h1.mono hF⟩
theorem Kr.to {i:vC}(h:Kr w F z i)(hF:∀g,g<w.heap.size->F g->g<B):VJ w B z i:=by
 obtain⟨vn,e,h1⟩:=h;exact⟨vn,e,h1.to hF⟩
theorem Lu.turn {i:qY}(h:Lu w F z i)(t:Turn G w w')(hd:∀g,g<w.heap.size->F g->¬G g):Lu w' F z i:=by
 obtain⟨vv,xv,vt,xt,y,e,h1,h2,h3,h4,h5⟩:=h;exact⟨vv,xv,vt,xt,y,e,h1.turn t hd,h2.imp fun _ _ h=>h.turn t hd,h3.turn t hd,h4.turn t hd,h5.turn t hd⟩
theorem Lu.mono {i:qY}(h:Lu w F z i)(hF:∀g,g<w.heap.size->F g->G g):Lu w G z i:=by
 obtain⟨vv,xv,vt,xt,y,e,h1,h2,h3,h4,h5⟩:=h;exact⟨vv,xv,vt,xt,y,e,h1.mono hF,h2.imp fun _ _ h=>h.mono hF,h3.mono hF,h4.mono hF,h5.mono hF⟩
theorem Lu.to {i:qY}(h:Lu w F z i)(hF:∀g,g<w.heap.size->F g->g<B):Ju w B z i:=by
 obtain⟨vv,xv,vt,xt,y,e,h1,h2,h3,h4,h5⟩:=h;exact⟨vv,xv,vt,xt,y,e,h1.to hF,h2.imp fun _ _ h=>h.to hF,h3.to hF,h4.to hF,h5.to hF⟩
theorem Nj.turn {i:Bw}(h:Nj w F z i)(t:Turn G w w')(hd:∀g,g<w.heap.size->F g->¬G g):Nj w' F z i:=by
 obtain⟨vi,xi,vd,xd,e,h1,h2,h3,h4⟩:=h;exact⟨vi,xi,vd,xd,e,h1.turn t hd,h2.imp fun _ _ h=>h.turn t hd,h3.turn t hd,h4.imp fun _ _ h=>h.turn t hd⟩
theorem Nj.mono {i:Bw}(h:Nj w F z i)(hF:∀g,g<w.heap.size->F g->G g):Nj w G z i:=by
 obtain⟨vi,xi,vd,xd,e,h1,h2,h3,h4⟩:=h;exact⟨vi,xi,vd,xd,e,h1.mono hF,h2.imp fun _ _ h=>h.mono hF,h3.mono hF,h4.imp fun _ _ h=>h.mono hF⟩
theorem Nj.to {i:Bw}(h:Nj w F z i)(hF:∀g,g<w.heap.size->F g->g<B):Q7 w B z i:=by
 obtain⟨vi,xi,vd,xd,e,h1,h2,h3,h4⟩:=h;exact⟨vi,xi,vd,xd,e,h1.to hF,h2.imp fun _ _ h=>h.to hF,h3.to hF,h4.imp fun _ _ h=>h.to hF⟩
theorem Jv.all {i:vB}(h:Jv w F z i):Yt w w.heap.size z i:=h.to fun _ hg _=>hg
theorem Kr.all {i:vC}(h:Kr w F z i):VJ w w.heap.size z i:=h.to fun _ hg _=>hg
theorem Lu.all {i:qY}(h:Lu w F z i):Ju w w.heap.size z i:=h.to fun _ hg _=>hg
theorem Nj.all {i:Bw}(h:Nj w F z i):Q7 w w.heap.size z i:=h.to fun _ hg _=>hg
theorem Jv.shape' {i:vB}(h:Jv w F z i):∃A n c,z=[sv i.from_,.slice A n c,I i.line,I i.col]:=by
 obtain⟨vn,rfl,A,n,c,rfl,_⟩:=h;exact⟨A,n,c,rfl⟩
theorem Kr.shape' {i:vC}(h:Kr w F z i):∃k s A1 n1 c1 A2 n2 c2,z=[sv i.name,I k,sv s,.slice A1 n1 c1,.slice A2 n2 c2]:=by
 obtain⟨y,rfl,h⟩:=h;generalize i.bound=b at h;cases h with
 |mk h1 h2 h3=>
  obtain⟨A1,n1,c1,rfl,_⟩:=h1;obtain⟨A2,n2,c2,rfl,_⟩:=h2;exact⟨_,_,_,_,_,_,_,_,rfl⟩
theorem Lu.shape' {i:qY}(h:Lu w F z i):∃A1 n1 c1 A2 n2 c2 k s a b c A3 n3 c3 A4 n4 c4 A5 n5 c5,z=[sv i.name,.bool i.exp,.slice A1 n1 c1,sv i.param,.slice A2 n2 c2,I k,sv s,I a,I b,I c,.slice A3 n3 c3,.slice A4 n4 c4,.slice A5 n5 c5,I i.line,I i.col]:=by
 obtain⟨vv,xv,vt,xt,y,rfl,⟨A1,n1,c1,rfl,_⟩,_,⟨A2,n2,c2,rfl,_⟩,_,h⟩:=h;generalize i.body=x at h;cases h with
 |mk h1 h2 h3 h4 h5=>
  obtain⟨A3,n3,c3,rfl,_⟩:=h1;obtain⟨A4,n4,c4,rfl,_⟩:=h3;obtain⟨A5,n5,c5,rfl,_⟩:=h4;exact⟨_,_,_,_,_,_,_,_,_,_,_,_,_,_,_,_,_,_,_,_,rfl⟩
end
theorem bK:uo Jv 4 where
 turn h t hd:=h.turn t hd
 mono h hF:=h.mono hF
 len h:=by obtain⟨A,n,c,rfl⟩:=h.shape';rfl
 one h:=by
  obtain⟨A,n,c,rfl⟩:=h.shape';intro u hu;simp only [List.mem_cons,List.not_mem_nil,or_false]at hu;rcases hu with rfl |rfl |rfl |rfl <;> rfl
theorem bO:uo Kr 5 where
 turn h t hd:=h.turn t hd
 mono h hF:=h.mono hF
 len h:=by obtain⟨k,s,A1,n1,c1,A2,n2,c2,rfl⟩:=h.shape';rfl
 one h:=by
  obtain⟨k,s,A1,n1,c1,A2,n2,c2,rfl⟩:=h.shape';intro u hu;simp only [List.mem_cons,List.not_mem_nil,or_false]at hu;rcases hu with rfl |rfl |rfl |rfl |rfl <;> rfl
theorem eu:uo Lu 15 where
 turn h t hd:=h.turn t hd
 mono h hF:=h.mono hF
 len h:=by obtain⟨A1,n1,c1,A2,n2,c2,k,s,a,b,c,A3,n3,c3,A4,n4,c4,A5,n5,c5,rfl⟩:=h.shape';rfl
 one h:=by
  obtain⟨A1,n1,c1,A2,n2,c2,k,s,a,b,c,A3,n3,c3,A4,n4,c4,A5,n5,c5,rfl⟩:=h.shape';intro u hu;simp only [List.mem_cons,List.not_mem_nil,or_false]at hu;rcases hu with rfl |rfl |rfl |rfl |rfl |rfl |rfl |rfl |rfl |rfl |rfl |rfl |rfl |rfl |rfl <;> rfl
end Go.Proofs.YtncnnedlgofccaaGreatDoor
