/- GD, YA, RA, RB, YB, ZF, FB, Shelf -/
import Derived.Test.YtfgjkmipfikooaaGreatDoorTT01
import Derived.Test.YtfgjkmipfikooaaGreatDoorProg
import Derived.Deep.Slices
import Derived.Lib.SmallJoins
import Derived.Shelf.Strings.Builder1
import Derived.Shelf.Strings.Builder2
import Derived.Shelf.Strings.OnBuilder
import Derived.Shelf.Small.Strs
import Derived.Shelf.Strings.BuilderF
import Derived.Shelf.Strings.BuilderK
import Derived.Shelf.Strconv.Atoi
import Derived.Shelf.Strconv.Itoa0
import Derived.Shelf.Strconv.Itoa1
import Derived.Shelf.LaysM
import Derived.Shelf.Strconv.Itoa2
import Derived.Shelf.Strconv.Itoa3
import Derived.Shelf.Strconv.AtoiErrFast
import Derived.Shelf.Strconv.ParseIntEmpty
import Derived.Shelf.Strconv.AtoiFail
import Derived.Shelf.Strconv.Clone
import Derived.Shelf.Strconv.SyntaxError
import Derived.Shelf.LaysC
import Derived.Shelf.Strconv.ToError
import Derived.Shelf.Strconv.Lower
import Derived.Shelf.Strconv.ParseUint10
import Derived.Shelf.Strconv.ParseUint10Empty
import Derived.Shelf.Strconv.ParseUint10Any
import Derived.Shelf.Strconv.ParseInt10
import Derived.Shelf.Strconv.AtoiLong
import Derived.Shelf.Strconv.AtoiInnerAll
import Derived.Shelf.Strconv.RangeError
import Derived.Shelf.Strconv.ToErrorRange
import Derived.Shelf.Strconv.AtoiAll
import Derived.Shelf.Strconv.ErrVarAll
import Derived.Shelf.Strings.Search1
import Derived.Shelf.Strings.Search2
import Derived.Shelf.Strings.Search3
import Derived.Shelf.Strings.Count
import Derived.Shelf.Strings.Shaped
import Derived.Shelf.GgClosure.StringsIndexFunc
import Derived.Shelf.Strings.Split
import Derived.Shelf.Strings.Fields
import Derived.Shelf.Strings.SplitShaped
import Derived.Shelf.Unicode.Latin
import Derived.Shelf.Unicode.Is16White
import Derived.Shelf.Unicode.IsSpaceAny
import Derived.Shelf.Unicode.Is16WhiteD
import Derived.Shelf.Unicode.IsSpaceAnyD
import Derived.Shelf.Strings.FieldsAny
import Derived.Shelf.Strings.FieldsFuncAny
import Derived.Shelf.Unicode.Is16Any
import Derived.Shelf.Unicode.Is32Any
import Derived.Shelf.Unicode.ExclAny
import Derived.Shelf.Slices.Turned
set_option linter.unusedSimpArgs false
set_option linter.unusedVariables false
section
namespace Go.Proofs.YtfgjkmipfikooaaGreatDoor
inductive bT where
 | mk (kind:Int) (name:Bt) (names:List Bt) (kids:List bT):bT
inductive bX where
 | mk (kind:Int) (text:Bt) (n line col:Int) (types:List bT) (names:List Bt) (kids:List bX):bX
def bT.kind:bT→Int | .mk k _ _ _=>k
def bT.name:bT→Bt | .mk _ n _ _=>n
def bT.names:bT→List Bt | .mk _ _ n _=>n
def bT.kids:bT→List bT | .mk _ _ _ k=>k
def fF (k:Int) (nm:Bt) (ns ks:Nat):Bool:=
 if k=8 then ns+ks==0 && dS nm
 else if nm≠[]∨k<0∨7<k then false
 else if k=5 then ns==ks
 else if k=6 then ns==0 && ks==2
 else if k=7 then ns==0 && decide (2≤ks)
 else ns+ks==0
def bf:Nat→bT→Bool
 | 0, _=>false
 | m+1, .mk k nm ns ks=>ns.all dS && ks.all (bf m) && fF k nm ns.length ks.length
def tH (sep:Bt):List Bt→Bt
 | []=>[]
 | [x]=>x
 | x :: y :: l=>x++(sep++tH sep (y :: l))
def rQ (kinds:List Int) (k:Int) (s:Bt):Bt:=if kinds.contains k then [40]++(s++[41])else s
def om (n s:Bt):Bt:=n++([58,32]++s)
mutual
def tJ:bT→Bt
 | .mk k nm ns ks=>
  if k=0 then [97,110,121]
  else if k=1 then [110,117,108,108]
  else if k=2 then [98,111,111,108]
  else if k=3 then [105,110,116]
  else if k=4 then [115,116,114]
  else if k=5 then [123]++(tH [44,32] (List.zipWith om ns (gF ks))++[125])
  else if k=6 then rQ [6] ((ks.map bT.kind).getD 0 0) ((gF ks).getD 0 [])++([32,45,62,32]++(gF ks).getD 1 [])
  else if k=7 then tH [32,124,32] (List.zipWith (rQ [6,7]) (ks.map bT.kind) (gF ks))
  else nm
def gF:List bT→List Bt
 | []=>[]
 | t :: l=>tJ t :: gF l
end
theorem rR:∀l:List bT,gF l=l.map tJ
 | []=>by simp [gF]
 | t :: l=>by simp [gF,rR l]
def vY (l:List bT) (i:Nat):Bt:=match l[i]? with | some t=>[58,32]++tJ t | none=>[]
structure OV where
 name:Bool
 low:Nat
 types:Nat
 kids:Int
 most:Int
def dR (k:Int):OV:=
 if k=0 then⟨false,0,0,0,9223372036854775807⟩
 else if k=2 then⟨false,0,0,0,1⟩
 else if k=4 then⟨true,0,0,0,0⟩
 else if k=5 then⟨true,0,1,2,0⟩
 else if k=6 then⟨true,1,2,1,0⟩
 else if k=7 then⟨false,0,0,2,0⟩
 else if k=8 then⟨false,0,0, -1,0⟩
 else if k=9 then⟨true,0,0,1,0⟩
 else if k=10 then⟨true,0,0,2,0⟩
 else if k=11 then⟨false,0,0,3,0⟩
 else if k=12 then⟨false,0,0,1,5⟩
 else if k=13 then⟨false,1,1,1,0⟩
 else if k=14 then⟨false,0,0,2,0⟩
 else if k=15∨k=16∨k=17 then⟨false,0,0,1,0⟩
 else if k=19 then⟨true,1,1048576,0,0⟩
 else⟨false,0,0,0,0⟩
def opsL:List Bt:=[[111,114],[97,110,100],[60],[60,61],[61,61],[43,43],[43],[45],[94],[42],[47],[37],[38],[60,60],[62,62]]
def zT (s:Bt):Bool:=decide (s.length≤256) && s.all (fun c=> !(decide (c<32) && c != 9 && c != 10))
def ny (k:Int) (s:Bt) (named:Bool):Bool:=
 if named then dS s else if k=1 then zT s else if k=14 then opsL.contains s else s==[]
def BL (k:Int) (text:Bt) (n:Int) (types names kids:Nat):Bool:=
 decide (0≤n∧n≤(dR k).most) && ny k text (dR k).name && decide ((dR k).low≤types∧types≤(dR k).types) &&
  (if(dR k).kids<0 then kids==names else names==0 && (kids:Int)==(dR k).kids)
def dP:Nat→bX→Bool
 | 0, _=>false
 | m+1, .mk k text n _ _ types names kids=>
  decide (0≤k∧k<20) && BL k text n types.length names.length kids.length && names.all dS && types.all (bf 16) && kids.all (dP m)
def qY:List Bt:=[[110,117,108,108],[98,111,111,108],[105,110,116],[115,116,114],[114,101,99,111,114,100],[102,117,110,99,116,105,111,110]]
def cat (l:List Bt):Bt:=l.flatMap id
def tK (k:Int) (text:Bt) (n:Int) (types:List bT):Bt:=
 if k=0 then Lib.itoa n
 else if k=1 then BK text
 else if k=2 then(if n=0 then [102,97,108,115,101]else [116,114,117,101])
 else if k=3 then [110,117,108,108]
 else if k=18 then [114,101,97,100,40,41]
 else if k=19 then cat [text,[91],tH [44,32] (types.map tJ),[93]]
 else text
def AO (k:Int) (text:Bt) (n:Int) (types:List bT) (names:List Bt) (s:List Bt):Bt:=
 if k=7 then cat [s.getD 0 [],[40],s.getD 1 [],[41]]
 else if k=9 then cat [s.getD 0 [],[46],text]
 else if k=10 then cat [[123],s.getD 0 [],[32,119,105,116,104,32],text,[58,32],s.getD 1 [],[125]]
 else if k=8 then cat [[123],tH [44,32] (List.zipWith om names s),[125]]
 else if k=17 then cat [[112,114,105,110,116,40],s.getD 0 [],[41]]
 else if k=5 then cat [[40],[108,101,116,32],text,vY types 0,[32,61,32],s.getD 0 [],[59,32],s.getD 1 [],[41]]
 else if k=6 then cat [[40],[102,110,32,40],text,vY types 0,[41],vY types 1,[32,61,62,32],s.getD 0 [],[41]]
 else if k=11 then cat [[40],[105,102,32],s.getD 0 [],[32,116,104,101,110,32],s.getD 1 [],[32,101,108,115,101,32],s.getD 2 [],[41]]
 else if k=12 then cat [[40],s.getD 0 [],[32,105,115,32],qY.getD n.toNat [],[41]]
 else if k=13 then cat [[40],s.getD 0 [],[32,97,115,32],(types.map tJ).getD 0 [],[41]]
 else if k=14 then cat [[40],s.getD 0 [],[32],text,[32],s.getD 1 [],[41]]
 else if k=15 then cat [[40],[110,111,116,32],s.getD 0 [],[41]]
 else if k=16 then cat [[40],[45],s.getD 0 [],[41]]
 else tK k text n types
mutual
def nC:bX→Bt
 | .mk k text n _ _ types names kids=>AO k text n types names (kI kids)
def kI:List bX→List Bt
 | []=>[]
 | x :: l=>nC x :: kI l
end
theorem oq:∀l:List bX,kI l=l.map nC
 | []=>by simp [kI]
 | t :: l=>by simp [kI,oq l]
def AP (x:bX):Bt:=if dP 25 x then nC x else []
end Go.Proofs.YtfgjkmipfikooaaGreatDoor
namespace Go.Proofs.YtfgjkmipfikooaaGreatDoor
open Go.RowKit
theorem gM {w:World} {B k:Nat} {v:Value} {xs:List Value} (h:Sl w B k v xs):∃A n c,v= .slice A n c:=by
 obtain⟨A,n,c,hv, _⟩:=h;exact⟨A,n,c,hv⟩
theorem eF {w:World} {B k:Nat} {A:Option Addr} {n c:Nat} {xs:List Value} (h:Sl w B k (.slice A n c) xs):xs.length=n*k∧n≤c∧c≤2 ^ 63 - 1:=by
 obtain⟨A',n',c',hv,hl,hn,hc, _⟩:=h;injection hv with e1 e2 e3;subst e1 e2 e3;unfold maxLen at hc;exact⟨hl,hn,hc⟩
theorem eO {w:World} {B k m:Nat} {v:Value} {xs:List Value} (h:Sl w B k v xs) (hk:0<k) (hm:xs.length=m*k):∃A c,v= .slice A m c:=by
 obtain⟨A,n,c,rfl⟩:=gM h;have:=(eF h).1;rw [hm]at this;obtain rfl:m=n:=Nat.eq_of_mul_eq_mul_right hk this;exact⟨A,c,rfl⟩
theorem xK {w:World} {B k:Nat} {xs:List Value} {A:Option Addr} {n c:Nat} (h:Sl w B k (.slice A n c) xs) {i:Nat} (hi:i<n) (hk:0<k):
  ∃b off,A=some ⟨b,off,none⟩∧b<B∧∀(j:Nat) u,xs[i*k+j]? =some u→w.cell? ⟨b,off+(i*k+j),none⟩=some u:=by
 obtain⟨A',n',c',hv',hl,hn,hc,hx⟩:=h;injection hv' with e1 e2 e3;subst e1 e2 e3;obtain⟨b,off,hA,hbb,hcell⟩:=hx (by omega);exact⟨b,off,hA,hbb,fun j u hu=>hcell _ u hu⟩
mutual
inductive sQ (w:World) (B:Nat):List Value→bT→Prop
 | mk {k:Int} {nm:Bt} {vn vk:Value} {ns:List Bt} {ks:List bT} {xk:List Value}:Ss w B vn ns→Sl w B 4 vk xk→iP w B xk ks→sQ w B [.int .i64 k,sv nm,vn,vk] (.mk k nm ns ks)
inductive iP (w:World) (B:Nat):List Value→List bT→Prop
 | nil:iP w B [] []
 | cons {x y:List Value} {c:bT} {l:List bT}:sQ w B x c→iP w B y l→iP w B (x++y) (c :: l)
end
mutual
inductive rT (w:World) (B:Nat):List Value→bX→Prop
 | mk {k n line col:Int} {text:Bt} {vt vn vk:Value} {ts:List bT} {xt:List Value} {ns:List Bt} {ks:List bX} {xk:List Value}:Sl w B 4 vt xt→iP w B xt ts→Ss w B vn ns→Sl w B 8 vk xk→kX w B xk ks→
   rT w B [.int .i64 k,sv text, .int .i64 n, .int .i64 line, .int .i64 col,vt,vn,vk] (.mk k text n line col ts ns ks)
inductive kX (w:World) (B:Nat):List Value→List bX→Prop
 | nil:kX w B [] []
 | cons {x y:List Value} {c:bX} {l:List bX}:rT w B x c→kX w B y l→kX w B (x++y) (c :: l)
end
mutual
theorem sQ.keep {w w':World} {B:Nat} {x:List Value} {c:bT} (h:sQ w B x c) (hb:Below B w w'):sQ w' B x c:=
 match h with
 | .mk h1 h2 h3=> .mk (Sl.below h1 hb) (h2.below hb) (h3.keep hb)
theorem iP.keep {w w':World} {B:Nat} {x:List Value} {l:List bT} (h:iP w B x l) (hb:Below B w w'):iP w' B x l:=
 match h with
 | .nil=> .nil
 | .cons h1 h2=> .cons (h1.keep hb) (h2.keep hb)
end
mutual
theorem sQ.more {w:World} {B B':Nat} {x:List Value} {c:bT} (h:sQ w B x c) (hb:B≤B'):sQ w B' x c:=
 match h with
 | .mk h1 h2 h3=> .mk (Sl.more h1 hb) (h2.more hb) (h3.more hb)
theorem iP.more {w:World} {B B':Nat} {x:List Value} {l:List bT} (h:iP w B x l) (hb:B≤B'):iP w B' x l:=
 match h with
 | .nil=> .nil
 | .cons h1 h2=> .cons (h1.more hb) (h2.more hb)
end
theorem sQ.far {W w':World} {B:Nat} {x:List Value} {c:bT} (h:sQ W B x c) (hB:B≤W.heap.size) (hb:Below W.heap.size W w'):sQ w' w'.heap.size x c:=
 (h.keep (hb.mono hB)).more (Nat.le_trans hB hb.size)
theorem iP.far {W w':World} {B:Nat} {x:List Value} {c:List bT} (h:iP W B x c) (hB:B≤W.heap.size) (hb:Below W.heap.size W w'):iP w' w'.heap.size x c:=
 (h.keep (hb.mono hB)).more (Nat.le_trans hB hb.size)
theorem sQ.len {w:World} {B:Nat} {x:List Value} {c:bT} (h:sQ w B x c):x.length=4:=by
 cases h;rfl
theorem iP.length {w:World} {B:Nat}:∀ {x:List Value} {l:List bT},iP w B x l→x.length=l.length*4
 | _, _, .nil=>rfl
 | _, _, .cons h1 h2=>by
  have:=h1.len;have:=iP.length h2;rw [List.length_append,List.length_cons];omega
theorem iP.at {w:World} {B:Nat}:∀ {x:List Value} {l:List bT},iP w B x l→∀(i:Nat) (hi:i<l.length),sQ w B ((x.drop (i*4)).take 4) l[i]
 | _, _, .nil,i,hi=>by simp at hi
 | _, _, .cons (x:=x) (y:=y) h1 h2,i,hi=>by
  have h5:=h1.len;rcases i with _ | i
  ·rw [Nat.zero_mul,List.drop_zero, ←h5,List.take_left];exact h1
  ·have:(x++y).drop ((i+1)*4)=y.drop (i*4):=by
    rw [show(i+1)*4=x.length+i*4 by omega, ←List.drop_drop,List.drop_left]
   rw [this];exact iP.at h2 i (by simpa using hi)
mutual
theorem rT.keep {w w':World} {B:Nat} {x:List Value} {c:bX} (h:rT w B x c) (hb:Below B w w'):rT w' B x c:=
 match h with
 | .mk h1 h2 h3 h4 h5=> .mk (h1.below hb) (h2.keep hb) (Sl.below h3 hb) (h4.below hb) (h5.keep hb)
theorem kX.keep {w w':World} {B:Nat} {x:List Value} {l:List bX} (h:kX w B x l) (hb:Below B w w'):kX w' B x l:=
 match h with
 | .nil=> .nil
 | .cons h1 h2=> .cons (h1.keep hb) (h2.keep hb)
end
mutual
theorem rT.more {w:World} {B B':Nat} {x:List Value} {c:bX} (h:rT w B x c) (hb:B≤B'):rT w B' x c:=
 match h with
 | .mk h1 h2 h3 h4 h5=> .mk (h1.more hb) (h2.more hb) (Sl.more h3 hb) (h4.more hb) (h5.more hb)
theorem kX.more {w:World} {B B':Nat} {x:List Value} {l:List bX} (h:kX w B x l) (hb:B≤B'):kX w B' x l:=
 match h with
 | .nil=> .nil
 | .cons h1 h2=> .cons (h1.more hb) (h2.more hb)
end
theorem rT.far {W w':World} {B:Nat} {x:List Value} {c:bX} (h:rT W B x c) (hB:B≤W.heap.size) (hb:Below W.heap.size W w'):rT w' w'.heap.size x c:=
 (h.keep (hb.mono hB)).more (Nat.le_trans hB hb.size)
theorem kX.far {W w':World} {B:Nat} {x:List Value} {c:List bX} (h:kX W B x c) (hB:B≤W.heap.size) (hb:Below W.heap.size W w'):kX w' w'.heap.size x c:=
 (h.keep (hb.mono hB)).more (Nat.le_trans hB hb.size)
theorem rT.len {w:World} {B:Nat} {x:List Value} {c:bX} (h:rT w B x c):x.length=8:=by
 cases h;rfl
theorem kX.length {w:World} {B:Nat}:∀ {x:List Value} {l:List bX},kX w B x l→x.length=l.length*8
 | _, _, .nil=>rfl
 | _, _, .cons h1 h2=>by
  have:=h1.len;have:=kX.length h2;rw [List.length_append,List.length_cons];omega
theorem kX.at {w:World} {B:Nat}:∀ {x:List Value} {l:List bX},kX w B x l→∀(i:Nat) (hi:i<l.length),rT w B ((x.drop (i*8)).take 8) l[i]
 | _, _, .nil,i,hi=>by simp at hi
 | _, _, .cons (x:=x) (y:=y) h1 h2,i,hi=>by
  have h5:=h1.len;rcases i with _ | i
  ·rw [Nat.zero_mul,List.drop_zero, ←h5,List.take_left];exact h1
  ·have:(x++y).drop ((i+1)*8)=y.drop (i*8):=by
    rw [show(i+1)*8=x.length+i*8 by omega, ←List.drop_drop,List.drop_left]
   rw [this];exact kX.at h2 i (by simpa using hi)
theorem sQ.parts {w:World} {B:Nat} {x:List Value} {k:Int} {nm:Bt} {ns:List Bt} {ks:List bT} (h:sQ w B x (.mk k nm ns ks)):
  ∃A1 c1 A2 c2 xk,x=[.int .i64 k,sv nm, .slice A1 ns.length c1, .slice A2 ks.length c2]∧Ss w B (.slice A1 ns.length c1) ns∧Sl w B 4 (.slice A2 ks.length c2) xk∧iP w B xk ks:=by
 cases h with
 | mk h1 h2 h3=>
  obtain⟨A1,c1,rfl⟩:=eO h1 (by omega) (m:=ns.length) (by rw [eH];omega);obtain⟨A2,c2,rfl⟩:=eO h2 (by omega) (m:=ks.length) h3.length;exact⟨A1,c1,A2,c2, _,rfl,h1,h2,h3⟩
theorem rT.parts {w:World} {B:Nat} {x:List Value} {k n line col:Int} {text:Bt} {ts:List bT} {ns:List Bt} {ks:List bX} (h:rT w B x (.mk k text n line col ts ns ks)):
  ∃A1 c1 A2 c2 A3 c3 xt xk,x=[.int .i64 k,sv text, .int .i64 n, .int .i64 line, .int .i64 col, .slice A1 ts.length c1, .slice A2 ns.length c2, .slice A3 ks.length c3]∧Sl w B 4 (.slice A1 ts.length c1) xt∧iP w B xt ts∧Ss w B (.slice A2 ns.length c2) ns∧Sl w B 8 (.slice A3 ks.length c3) xk∧kX w B xk ks:=by
 cases h with
 | mk h1 h1r h2 h3 h3r=>
  obtain⟨A1,c1,rfl⟩:=eO h1 (by omega) (m:=ts.length) h1r.length;obtain⟨A2,c2,rfl⟩:=eO h2 (by omega) (m:=ns.length) (by rw [eH];omega);obtain⟨A3,c3,rfl⟩:=eO h3 (by omega) (m:=ks.length) h3r.length;exact⟨A1,c1,A2,c2,A3,c3, _, _,rfl,h1,h1r,h2,h3,h3r⟩
theorem sQ.shape {w:World} {B:Nat} {x:List Value} {c:bT} (h:sQ w B x c):∃k s A1 n1 c1 A2 n2 c2,x=[.int .i64 k, .string s, .slice A1 n1 c1, .slice A2 n2 c2]:=by
 cases h with
 | mk h1 h2 _=>
  obtain⟨A1,n1,c1,rfl⟩:=gM h1;obtain⟨A2,n2,c2,rfl⟩:=gM h2;exact⟨_, _, _, _, _, _, _, _,rfl⟩
theorem rT.shape {w:World} {B:Nat} {x:List Value} {c:bX} (h:rT w B x c):∃k s n l o A1 n1 c1 A2 n2 c2 A3 n3 c3,x=[.int .i64 k, .string s, .int .i64 n, .int .i64 l, .int .i64 o, .slice A1 n1 c1, .slice A2 n2 c2, .slice A3 n3 c3]:=by
 cases h with
 | mk h1 _ h2 h3 _=>
  obtain⟨A1,n1,c1,rfl⟩:=gM h1;obtain⟨A2,n2,c2,rfl⟩:=gM h2;obtain⟨A3,n3,c3,rfl⟩:=gM h3;exact⟨_, _, _, _, _, _, _, _, _, _, _, _, _, _,rfl⟩
theorem iZ {xs ys:List Value} {n m:Nat} (h:(xs.drop n).take m=ys) {j:Nat} (hj:j<m):xs[n+j]? =ys[j]? :=by
 rw [←h,List.getElem?_take,if_pos hj,List.getElem?_drop]
theorem uY {W w':World} {b i:Nat} {v:Value} (h:Below W.heap.size W w') (d:W.cell? ⟨b,i,none⟩=some v) (hb:b<W.heap.size):w'.cell? ⟨b,i,none⟩=some v:=
 (h.cell (p:=⟨b,i,none⟩) hb).trans d
end Go.Proofs.YtfgjkmipfikooaaGreatDoor
namespace Go.Proofs.YtfgjkmipfikooaaGreatDoor
open Go.ChangeShapes Go.WideShapes Go.ChangeAt Go.RowKit
inductive eD {α:Type} (R:List Value→α→Prop) (k:Nat):List Value→List α→Prop
 | nil:eD R k [] []
 | cons {x y:List Value} {c:α} {l:List α}:x.length=k→R x c→eD R k y l→eD R k (x++y) (c :: l)
theorem eD.len {α:Type} {R:List Value→α→Prop} {k:Nat}:∀ {xs:List Value} {ys:List α},eD R k xs ys→xs.length=ys.length*k
 | _, _, .nil=>by simp
 | _, _, .cons h1 h2 h3=>by rw [List.length_append,List.length_cons,h1,eD.len h3,Nat.add_mul,Nat.one_mul,Nat.add_comm]
theorem eD.all {α:Type} {R:List Value→α→Prop} {k:Nat} {S:α→Prop} (hS:∀z c,R z c→S c):∀ {xs:List Value} {ys:List α},eD R k xs ys→∀y∈ys,S y
 | _, _, .nil,y,hy=>by cases hy
 | _, _, .cons h1 h2 h3,y,hy=>by
  rcases List.mem_cons.1 hy with rfl | hy
  ·exact hS _ _ h2
  ·exact eD.all hS h3 y hy
section
variable {H:Type} {enc:TypeId ×Value→H} {P:Program} {W:World}
end
mutual
def QY:bT→Prop
 | .mk k nm ns ks=>In64 k∧nm.length≤maxLen∧(∀x∈ns,x.length≤maxLen)∧Jz ks
def Jz:List bT→Prop
 | []=>True
 | t :: l=>QY t∧Jz l
end
theorem Dr:∀ {l:List bT},Jz l↔∀x∈l,QY x
 | []=>by simp [Jz]
 | c :: l=>by
  rw [Jz,Dr (l:=l)];simp
mutual
def OW:bX→Prop
 | .mk k text n line col ts ns ks=>In64 k∧text.length≤maxLen∧In64 n∧In64 line∧In64 col∧(∀x∈ts,QY x)∧(∀x∈ns,x.length≤maxLen)∧JA ks
def JA:List bX→Prop
 | []=>True
 | t :: l=>OW t∧JA l
end
theorem tL:∀ {l:List bX},JA l↔∀x∈l,OW x
 | []=>by simp [JA]
 | c :: l=>by
  rw [JA,tL (l:=l)];simp
section
variable {H:Type} {enc:TypeId ×Value→H} {W:World}
end
end Go.Proofs.YtfgjkmipfikooaaGreatDoor
end
section
namespace Go.Proofs.YtfgjkmipfikooaaGreatDoor
structure rU where
 from_:Bt
 names:List Bt
 line:Int
 col:Int
structure yE where
 name:Bt
 bound:bT
structure pI where
 name:Bt
 exp:Bool
 vars:List yE
 param:Bt
 types:List bT
 body:bX
 line:Int
 col:Int
structure zQ where
 imps:List rU
 decls:List pI
end Go.Proofs.YtfgjkmipfikooaaGreatDoor
end
section
namespace Go.Proofs.YtfgjkmipfikooaaGreatDoor
abbrev vZ:=Nat ×Nat ×Int
inductive Pr (α:Type) where
 | bad (d:vZ):Pr α
 | good (a:α) (r:List aD):Pr α
abbrev Ps (α:Type):=List aD→Pr α
def aG {α:Type} (a:α):Ps α:=fun ts=> .good a ts
def aj {α β:Type} (p:Ps α) (f:α→Ps β):Ps β:=fun ts=>match p ts with
 | .bad d=> .bad d
 | .good a r=>f a r
theorem au {α β:Type} {p:Ps α} {f:α→Ps β} {ts r:List aD} {a:α} (h:p ts= .good a r):aj p f ts=f a r:=by unfold aj;rw [h]
theorem aB {α β:Type} {p:Ps α} {f:α→Ps β} {ts:List aD} {d:vZ} (h:p ts= .bad d):aj p f ts= .bad d:=by unfold aj;rw [h]
def aQ (ts:List aD):aD:=ts.headD ⟨0,[],0,0⟩
def jh {α:Type} (e:Int):Ps α:=fun ts=> .bad ((aQ ts).line,(aQ ts).col,e)
def jc (t:aD) (s:Bt):Bool:=(t.kind==2 || t.kind==5) && t.text==s
def cK (l:List Bt):Ps (Option Nat):=fun ts=>match l.findIdx? (jc (aQ ts))with
 | none=> .good none ts
 | some i=> .good (some i) (ts.drop 1)
def bY (s:Bt):Ps Bool:=fun ts=>if jc (aQ ts) s then .good true (ts.drop 1)else .good false ts
theorem ou {t:aD} {s:Bt} (h:jc t s=true) (r:List aD):bY s (t :: r)= .good true r:=by
 unfold bY;rw [if_pos (show jc (aQ (t :: r)) s=true from h)];rfl
theorem rV {t:aD} {s:Bt} (h:jc t s=false) (r:List aD):bY s (t :: r)= .good false (t :: r):=by
 unfold bY;rw [if_neg (show ¬jc (aQ (t :: r)) s=true from fun e=>by rw [show jc (aQ (t :: r)) s=jc t s from rfl,h]at e;cases e)]
theorem yF {t:aD} {l:List Bt} {i:Nat} (h:l.findIdx? (jc t)=some i) (r:List aD):cK l (t :: r)= .good (some i) r:=by
 unfold cK;rw [show l.findIdx? (jc (aQ (t :: r)))=some i from h];rfl
theorem xL {t:aD} {l:List Bt} (h:l.findIdx? (jc t)=none) (r:List aD):cK l (t :: r)= .good none (t :: r):=by
 unfold cK;rw [show l.findIdx? (jc (aQ (t :: r)))=none from h]
def aI (s:Bt):Ps Unit:=aj (bY s) fun b=>if b then aG ()else jh 7
def jy:List Bt→Ps Unit
 | []=>aG ()
 | s :: l=>aj (aI s) fun _=>jy l
def dw (k:Int):Ps Bt:=fun ts=>if(aQ ts).kind=k then .good (aQ ts).text (if k=0 then ts else ts.drop 1)else .bad ((aQ ts).line,(aQ ts).col,7)
def nameP:Ps Bt:=dw 1
def mW {α:Type} (one:Ps α):Nat→List α→Ps (List α)
 | 0,l=>aG l
 | f+1,l=>aj (bY [44]) fun b=>if b then aj one fun a=>mW one f (l++[a])else aG l
def iB {α:Type} (one:Ps α):Ps (List α):=aj one fun a ts=>mW one ts.length [a] ts
section
variable (typ:Ps bT)
def lS:List Bt:=[[97,110,121],[110,117,108,108],[98,111,111,108],[105,110,116],[115,116,114]]
def jd:Ps (Bt ×bT):=aj nameP fun s=>aj (aI [58]) fun _=>aj typ fun t=>aG (s,t)
def iW:Ps bT:=aj (cK lS) fun b=>match b with
 | some k=>aG (.mk k [] [] [])
 | none=>aj (cK [[40],[123]]) fun c=>match c with
  | none=>aj nameP fun s=>aG (.mk 8 s [] [])
  | some 0=>aj typ fun t=>aj (aI [41]) fun _=>aG t
  | some _=>aj (bY [125]) fun e=>if e then aG (.mk 5 [] [] [])else
    aj (iB (jd typ)) fun l=>aj (aI [125]) fun _=>aG (.mk 5 [] (l.map (·.1)) (l.map (·.2)))
def kJ:Nat→List bT→Ps (List bT)
 | 0,l=>aG l
 | f+1,l=>aj (bY [124]) fun b=>if b then aj (iW typ) fun a=>kJ f (l++[a])else aG l
def gu:List bT→bT
 | [t]=>t
 | l=> .mk 7 [] [] l
def zU:Ps bT:=aj (iW typ) fun a=>aj (fun ts=>kJ typ ts.length [a] ts) fun l=>aj (bY [45,62]) fun b=>
 if b then aj typ fun r=>aG (.mk 6 [] [] [gu l,r])else aG (gu l)
def mX:bT:= .mk 0 [] [] []
def iG (l none_:List bT):Ps (List bT):=aj (bY [58]) fun b=>if b then aj typ fun t=>aG (l++[t])else aG (l++none_)
def kS (none_:List bT):Ps (Bt ×List bT):=aj (aI [40]) fun _=>aj nameP fun s=>aj (iG typ [] [mX]) fun l=>aj (aI [41]) fun _=>aj (iG typ l none_) fun m=>aG (s,m)
variable (expr unary:Ps bX)
def aK (k:Int) (text:Bt) (n:Int) (at_:aD) (types:List bT) (names:List Bt) (kids:List bX):bX:= .mk k text n at_.line at_.col types names kids
def bV:List Bt→List bX→Ps (List bX)
 | [],l=>aG l
 | s :: r,l=>aj (if s=[]then aG ()else aI s) fun _=>aj expr fun x=>bV r (l++[x])
def kT:Ps aD:=fun ts=> .good (aQ ts) ts
def kU (f:aD→List aD→Bool):Ps Bool:=fun ts=> .good (f (aQ ts) ts) ts
def lT (ops:List Bt) (sub:Ps bX):Nat→bX→Ps bX
 | 0,a=>aG a
 | f+1,a=>aj kT fun h=>aj (cK ops) fun i=>match i with
  | none=>aG a
  | some i=>aj sub fun b=>lT ops sub f (aK 14 (ops.getD i []) 0 h [] [] [a,b])
def AQ (ops:List Bt) (sub:Ps bX):Ps bX:=aj sub fun a ts=>lT ops sub ts.length a ts
def pY:List Bt:=[[60],[60,61],[61,61],[105,115],[97,115]]
def JB (sub:Ps bX):Ps bX:=aj sub fun a=>aj kT fun h=>aj (cK pY) fun i=>match i with
 | none=>aG a
 | some i=>
  if i=3 then aj (cK qY) fun t=>match t with
   | some t=>aG (aK 12 [] t h [] [] [a])
   | none=>jh 7
  else if i=4 then aj typ fun t=>aG (aK 13 [] 0 h [t] [] [a])
  else aj sub fun b=>aG (aK 14 (pY.getD i []) 0 h [] [] [a,b])
def BM:List (List Bt):=[[[111,114]],[[97,110,100]],[],[[43,43]],[[43],[45],[94]],[[42],[47],[37],[38],[60,60],[62,62]]]
def jK:Nat→Ps bX
 | 0=>unary
 | f+1=>if f=3 then JB typ (jK f)else AQ (BM.getD (5 - f) []) (jK f)
def AU:Ps bX:=aj kT fun h=>aj (cK [[108,101,116],[105,102],[102,110]]) fun i=>match i with
 | none=>jK typ unary 6
 | some 0=>aj nameP fun s=>aj (iG typ [] []) fun t=>aj (bV expr [[61],[59]] []) fun k=>aG (aK 5 s 0 h t [] k)
 | some 1=>aj (bV expr [[],[116,104,101,110],[101,108,115,101]] []) fun k=>aG (aK 11 [] 0 h [] [] k)
 | some _=>aj (kS typ []) fun s=>aj (bV expr [[61,62]] []) fun k=>aG (aK 6 s.1 0 h s.2 [] k)
def jl:Ps (Bt ×bX):=aj nameP fun s=>aj (aI [58]) fun _=>aj expr fun x=>aG (s,x)
def uZ (h:aD):Ps bX:=aj (kU fun t _=>jc t [125]) fun e=>if e then aG (aK 8 [] 0 h [] [] [])else
 aj (kU fun t ts=>t.kind==1 && jc (aQ (ts.drop 1)) [58]) fun c=>
  if c then aj (iB (jl expr)) fun l=>aG (aK 8 [] 0 h [] (l.map (·.1)) (l.map (·.2)))
  else aj (bV expr [[]] []) fun k=>aj (aI [119,105,116,104]) fun _=>aj nameP fun s=>aj (bV expr [[58]] k) fun m=>aG (aK 10 s 0 h [] [] m)
def lU (h:aD):Ps bX:=aj nameP fun s=>aj (bY [91]) fun b=>if b then aj (iB typ) fun l=>aj (aI [93]) fun _=>aG (aK 19 s 0 h l [] [])else aG (aK 4 s 0 h [] [] [])
def rW:List Bt:=[[102,97,108,115,101],[116,114,117,101],[110,117,108,108],[114,101,97,100],[112,114,105,110,116],[40],[123]]
def tN:Ps bX:=aj kT fun h=>
 if h.kind=3 then aj (dw 3) fun s=>aG (aK 0 [] (dA s).1 h [] [] [])
 else if h.kind=4 then aj (dw 4) fun s=>aG (aK 1 s 0 h [] [] [])
 else aj (cK rW) fun i=>match i with
  | none=>lU typ h
  | some 0=>aG (aK 2 [] 0 h [] [] [])
  | some 1=>aG (aK 2 [] 1 h [] [] [])
  | some 2=>aG (aK 3 [] 0 h [] [] [])
  | some 3=>aj (jy [[40],[41]]) fun _=>aG (aK 18 [] 0 h [] [] [])
  | some 4=>aj (bV expr [[40]] []) fun k=>aj (aI [41]) fun _=>aG (aK 17 [] 0 h [] [] k)
  | some 5=>aj expr fun x=>aj (aI [41]) fun _=>aG x
  | some _=>aj (uZ expr h) fun x=>aj (aI [125]) fun _=>aG x
def jC:Nat→bX→Ps bX
 | 0,a=>aG a
 | f+1,a=>aj kT fun h=>aj (cK [[40],[46]]) fun i=>match i with
  | none=>aG a
  | some 0=>aj (bV expr [[]] [a]) fun k=>aj (aI [41]) fun _=>jC f (aK 7 [] 0 h [] [] k)
  | some _=>aj nameP fun s=>jC f (aK 9 s 0 h [] [] [a])
def qZ:Ps bX:=aj (tN typ expr) fun a ts=>jC expr ts.length a ts
def vg:Ps bX:=aj kT fun h=>aj (cK [[45],[110,111,116]]) fun i=>match i with
 | none=>qZ typ expr
 | some 0=>aj unary fun x=>aG (aK 16 [] 0 h [] [] [x])
 | some _=>aj unary fun x=>aG (aK 15 [] 0 h [] [] [x])
end
structure aal where
 typ:Ps bT
 expr:Ps bX
 unary:Ps bX
def bR:Nat→aal
 | 0=>⟨jh 6,jh 6,jh 6⟩
 | n+1=>⟨zU (bR n).typ,AU (bR n).typ (bR n).expr (bR n).unary,vg (bR n).typ (bR n).expr (bR n).unary⟩
def yG:Ps yE:=aj nameP fun s=>aj (bY [60,58]) fun b=>if b then aj (bR 100).typ fun t=>aG ⟨s,t⟩else aG ⟨s,mX⟩
def qc:Ps (List yE):=aj (bY [91]) fun b=>if b then aj (iB yG) fun l=>aj (aI [93]) fun _=>aG l else aG []
def kY (h:aD):Ps rU:=aj nameP fun s=>aj (aI [58]) fun _=>aj (iB nameP) fun l=>aj (aI [59]) fun _=>aG ⟨s,l,h.line,h.col⟩
def oW:Ps pI:=aj (bY [101,120,112,111,114,116]) fun e=>aj kT fun h=>aj (aI [102,110]) fun _=>aj nameP fun s=>aj qc fun v=>
 aj (kS (bR 100).typ [mX]) fun p=>aj (aI [61]) fun _=>aj (bR 100).expr fun b=>aj (aI [59]) fun _=>aG ⟨s,e,v,p.1,p.2,b,h.line,h.col⟩
def mG:Nat→List rU→Ps (List rU)
 | 0,l=>aG l
 | f+1,l=>aj kT fun h=>aj (bY [105,109,112,111,114,116]) fun b=>if b then aj (kY h) fun i=>mG f (l++[i])else aG l
def gy:Nat→List pI→Ps (List pI)
 | 0,l=>aG l
 | f+1,l=>aj (kU fun t _=>t.kind==0) fun b=>if b then aG l else aj oW fun d=>gy f (l++[d])
def Ie:Ps (List rU):=fun ts=>mG ts.length [] ts
def FW:Ps (List pI):=fun ts=>gy ts.length [] ts
def dU:Ps zQ:=aj Ie fun i=>aj FW fun d=>aG ⟨i,d⟩
def bS {α:Type} (p:Ps α) (s:Bt):Option α ×vZ:=
 if(eZ s).2.2.2=0 then(match aj p (fun x=>aj (dw 0) fun _=>aG x) (eZ s).1 with
  | .bad d=>(none,d)
  | .good x _=>(some x,(0,0,0)))
 else(none,(eZ s).2)
end Go.Proofs.YtfgjkmipfikooaaGreatDoor
end
section
namespace Go.Proofs.YtfgjkmipfikooaaGreatDoor
def Wf (ts:List aD):Prop:=∃a e,ts=a++[e]∧e.kind=0∧∀t∈a,t.kind≠0∧(t.kind=2→t.text≠[58])
theorem Wf.one {e:aD} (h:e.kind=0):Wf [e]:=⟨[],e,rfl,h,by simp⟩
theorem Wf.pos {ts:List aD} (h:Wf ts):1≤ts.length:=by obtain⟨a,e,rfl, _⟩:=h;simp
theorem Wf.cases {ts:List aD} (h:Wf ts):(∃e,ts=[e]∧e.kind=0)∨∃t r,ts=t :: r∧t.kind≠0∧(t.kind=2→t.text≠[58])∧Wf r:=by
 obtain⟨a,e,rfl,h0,h1⟩:=h;cases a with
 | nil=>exact .inl ⟨e,rfl,h0⟩
 | cons t a=>exact .inr ⟨t,a++[e],rfl,(h1 t (by simp)).1,(h1 t (by simp)).2,a,e,rfl,h0,fun x hx=>h1 x (by simp [hx])⟩
theorem Wf.yH {ts:List aD} (h:Wf ts):aQ ts∈ts:=by
 rcases h.cases with⟨e,rfl, _⟩ | ⟨t,r,rfl, _⟩ <;> simp [aQ]
theorem Wf.drop {ts:List aD} (h:Wf ts) (hk:(aQ ts).kind≠0):Wf (ts.drop 1):=by
 rcases h.cases with⟨e,rfl,h0⟩ | ⟨t,r,rfl, _, _,hr⟩
 ·exact absurd h0 (by simpa [aQ]using hk)
 ·simpa using hr
theorem yI {t:aD} {s:Bt} (h:jc t s=true):t.kind≠0:=by
 unfold jc at h;intro h0;rw [h0]at h;simp at h
def Sf {α:Type} (p:Ps α):Prop:=∀ts,Wf ts→match p ts with
 | .bad d=>(∃t∈ts,d.1=t.line∧d.2.1=t.col)∧(d.2.2=6∨d.2.2=7)
 | .good _ r=>Wf r∧r<:+ts
section
variable {α β:Type}
theorem Sf.bad {p:Ps α} (h:Sf p) {ts:List aD} (hw:Wf ts) {d:vZ} (hp:p ts= .bad d):(∃t∈ts,d.1=t.line∧d.2.1=t.col)∧(d.2.2=6∨d.2.2=7):=by
 have:=h ts hw;rwa [hp]at this
theorem Sf.good {p:Ps α} (h:Sf p) {ts:List aD} (hw:Wf ts) {a:α} {r:List aD} (hp:p ts= .good a r):Wf r∧r<:+ts:=by
 have:=h ts hw;rwa [hp]at this
theorem Sf.ret (a:α):Sf (aG a):=fun ts hw=>⟨hw,List.suffix_refl _⟩
theorem Sf.then_ {p:Ps α} {f:α→Ps β} (h:Sf p) (hf:∀a,Sf (f a)):Sf (aj p f):=by
 intro ts hw;unfold aj;rcases hp:p ts with d | ⟨a,r⟩
 ·exact h.bad hw hp
 ·obtain⟨hr,hs⟩:=h.good hw hp;have h2:=hf a r hr;simp only;rcases hq:f a r with d | ⟨b,r2⟩
  ·rw [hq]at h2;obtain⟨⟨t,ht,e⟩,h3⟩:=h2;exact⟨⟨t,hs.subset ht,e⟩,h3⟩
  ·rw [hq]at h2;exact⟨h2.1,h2.2.trans hs⟩
theorem Sf.fail {e:Int} (he:e=6∨e=7):Sf (jh (α:=α) e):=fun ts hw=>⟨⟨_,hw.yH,rfl,rfl⟩,he⟩
theorem yJ (ts:List aD):ts.drop 1<:+ts:=List.drop_suffix 1 ts
theorem Sf.iF (l:List Bt):Sf (cK l):=by
 intro ts hw;unfold cK;rcases h:l.findIdx? (jc (aQ ts))with _ | i
 ·exact⟨hw,List.suffix_refl _⟩
 ·obtain⟨hi,h1, _⟩:=List.findIdx?_eq_some_iff_getElem.1 h;exact⟨hw.drop (yI h1),yJ ts⟩
theorem Sf.has (s:Bt):Sf (bY s):=by
 intro ts hw;unfold bY;by_cases h:jc (aQ ts) s=true
 ·rw [if_pos h];exact⟨hw.drop (yI h),yJ ts⟩
 ·rw [if_neg h];exact⟨hw,List.suffix_refl _⟩
theorem Sf.want (s:Bt):Sf (aI s):=Sf.then_ (Sf.has s) fun b=>by
 cases b
 ·exact Sf.fail (.inr rfl)
 ·exact Sf.ret ()
theorem Sf.wants:∀l:List Bt,Sf (jy l)
 | []=>Sf.ret ()
 | s :: l=>Sf.then_ (Sf.want s) fun _=>Sf.wants l
theorem Sf.kind (k:Int):Sf (dw k):=by
 intro ts hw;unfold dw;by_cases h:(aQ ts).kind=k
 ·rw [if_pos h];by_cases h0:k=0
  ·rw [if_pos h0];exact⟨hw,List.suffix_refl _⟩
  ·rw [if_neg h0];exact⟨hw.drop (by rw [h];exact h0),yJ ts⟩
 ·rw [if_neg h];exact⟨⟨_,hw.yH,rfl,rfl⟩, .inr rfl⟩
theorem Sf.name:Sf nameP:=Sf.kind 1
theorem Sf.here:Sf kT:=fun ts hw=>⟨hw,List.suffix_refl _⟩
theorem Sf.seen (f:aD→List aD→Bool):Sf (kU f):=fun ts hw=>⟨hw,List.suffix_refl _⟩
theorem Sf.fuel {p:List aD→Ps α} (h:∀ts,Sf (p ts)):Sf (fun ts=>p ts ts):=fun ts hw=>h ts ts hw
theorem Sf.OX {one:Ps α} (h:Sf one):∀(f:Nat) (l:List α),Sf (mW one f l)
 | 0,l=>Sf.ret l
 | f+1,l=>Sf.then_ (Sf.has _) fun b=>by
  cases b
  ·exact Sf.ret l
  ·exact Sf.then_ h fun a=>Sf.OX h f _
theorem Sf.sep {one:Ps α} (h:Sf one):Sf (iB one):=Sf.then_ h fun a=>Sf.fuel (p:=fun ts=>mW one ts.length [a]) fun ts=>Sf.OX h _ _
end
section
variable {typ:Ps bT} (ht:Sf typ) {expr unary:Ps bX} (he:Sf expr) (hu:Sf unary)
include ht
theorem Sf.Dt:Sf (iW typ):=by
 refine Sf.then_ (Sf.iF _) fun b=> ?_;rcases b with _ | k
 ·refine Sf.then_ (Sf.iF _) fun c=> ?_;rcases c with _ | _ | k
  ·exact Sf.then_ Sf.name fun s=>Sf.ret _
  ·exact Sf.then_ ht fun t=>Sf.then_ (Sf.want _) fun _=>Sf.ret _
  ·refine Sf.then_ (Sf.has _) fun e=> ?_;cases e
   ·exact Sf.then_ (Sf.sep (Sf.then_ Sf.name fun s=>Sf.then_ (Sf.want _) fun _=>Sf.then_ ht fun t=>Sf.ret _)) fun l=>Sf.then_ (Sf.want _) fun _=>Sf.ret _
   ·exact Sf.ret _
 ·exact Sf.ret _
theorem Sf.alt:∀(f:Nat) (l:List bT),Sf (kJ typ f l)
 | 0,l=>Sf.ret l
 | f+1,l=>Sf.then_ (Sf.has _) fun b=>by
  cases b
  ·exact Sf.ret l
  ·exact Sf.then_ (Sf.Dt ht) fun a=>Sf.alt f _
theorem Sf.S9:Sf (zU typ):=Sf.then_ (Sf.Dt ht) fun a=>Sf.then_ (Sf.fuel (p:=fun ts=>kJ typ ts.length [a]) fun ts=>Sf.alt ht _ _) fun l=>Sf.then_ (Sf.has _) fun b=>by
 cases b
 ·exact Sf.ret _
 ·exact Sf.then_ ht fun r=>Sf.ret _
theorem Sf.note (l n:List bT):Sf (iG typ l n):=Sf.then_ (Sf.has _) fun b=>by
 cases b
 ·exact Sf.ret _
 ·exact Sf.then_ ht fun r=>Sf.ret _
theorem Sf.head (n:List bT):Sf (kS typ n):=Sf.then_ (Sf.want _) fun _=>Sf.then_ Sf.name fun s=>Sf.then_ (Sf.note ht _ _) fun l=>Sf.then_ (Sf.want _) fun _=>Sf.then_ (Sf.note ht _ _) fun m=>Sf.ret _
omit ht
include he
theorem Sf.kids:∀(a:List Bt) (l:List bX),Sf (bV expr a l)
 | [],l=>Sf.ret l
 | s :: r,l=>Sf.then_ (by split;exact Sf.ret ();exact Sf.want s) fun _=>Sf.then_ he fun x=>Sf.kids r _
omit he
theorem Sf.left {sub:Ps bX} (hs:Sf sub) (ops:List Bt):∀(f:Nat) (a:bX),Sf (lT ops sub f a)
 | 0,a=>Sf.ret a
 | f+1,a=>Sf.then_ Sf.here fun h=>Sf.then_ (Sf.iF _) fun i=>by
  rcases i with _ | i
  ·exact Sf.ret a
  ·exact Sf.then_ hs fun b=>Sf.left hs ops f _
theorem Sf.Lh {sub:Ps bX} (hs:Sf sub) (ops:List Bt):Sf (AQ ops sub):=Sf.then_ hs fun a=>Sf.fuel (p:=fun ts=>lT ops sub ts.length a) fun ts=>Sf.left hs _ _ _
include ht
theorem Sf.cmp {sub:Ps bX} (hs:Sf sub):Sf (JB typ sub):=Sf.then_ hs fun a=>Sf.then_ Sf.here fun h=>Sf.then_ (Sf.iF _) fun i=>by
 rcases i with _ | i
 ·exact Sf.ret a
 ·simp only;split
  ·refine Sf.then_ (Sf.iF _) fun t=> ?_;rcases t with _ | t
   ·exact Sf.fail (.inr rfl)
   ·exact Sf.ret _
  ·split
   ·exact Sf.then_ ht fun t=>Sf.ret _
   ·exact Sf.then_ hs fun b=>Sf.ret _
include hu
theorem Sf.rank:∀f:Nat,Sf (jK typ unary f)
 | 0=>hu
 | f+1=>by
  unfold jK;split
  ·exact Sf.cmp ht (Sf.rank f)
  ·exact Sf.Lh (Sf.rank f) _
include he
theorem Sf.Li:Sf (AU typ expr unary):=Sf.then_ Sf.here fun h=>Sf.then_ (Sf.iF _) fun i=>by
 rcases i with _ | _ | _ | i
 ·exact Sf.rank ht hu 6
 ·exact Sf.then_ Sf.name fun s=>Sf.then_ (Sf.note ht _ _) fun t=>Sf.then_ (Sf.kids he _ _) fun k=>Sf.ret _
 ·exact Sf.then_ (Sf.kids he _ _) fun k=>Sf.ret _
 ·exact Sf.then_ (Sf.head ht _) fun s=>Sf.then_ (Sf.kids he _ _) fun k=>Sf.ret _
omit hu ht
theorem Sf.BN:Sf (jl expr):=Sf.then_ Sf.name fun s=>Sf.then_ (Sf.want _) fun _=>Sf.then_ he fun x=>Sf.ret _
theorem Sf.Lj (h:aD):Sf (uZ expr h):=Sf.then_ (Sf.seen _) fun e=>by
 cases e
 ·rw [if_neg Bool.false_ne_true];refine Sf.then_ (Sf.seen _) fun c=> ?_;cases c
  ·exact Sf.then_ (Sf.kids he _ _) fun k=>Sf.then_ (Sf.want _) fun _=>Sf.then_ Sf.name fun s=>Sf.then_ (Sf.kids he _ _) fun m=>Sf.ret _
  ·exact Sf.then_ (Sf.sep (Sf.BN he)) fun l=>Sf.ret _
 ·exact Sf.ret _
include ht
omit he
theorem Sf.named (h:aD):Sf (lU typ h):=Sf.then_ Sf.name fun s=>Sf.then_ (Sf.has _) fun b=>by
 cases b
 ·exact Sf.ret _
 ·exact Sf.then_ (Sf.sep ht) fun l=>Sf.then_ (Sf.want _) fun _=>Sf.ret _
include he
theorem Sf.atom:Sf (tN typ expr):=Sf.then_ Sf.here fun h=>by
 split
 ·exact Sf.then_ (Sf.kind 3) fun s=>Sf.ret _
 ·split
  ·exact Sf.then_ (Sf.kind 4) fun s=>Sf.ret _
  ·refine Sf.then_ (Sf.iF _) fun i=> ?_;rcases i with _ | _ | _ | _ | _ | _ | _ | i
   ·exact Sf.named ht h
   ·exact Sf.ret _
   ·exact Sf.ret _
   ·exact Sf.ret _
   ·exact Sf.then_ (Sf.wants _) fun _=>Sf.ret _
   ·exact Sf.then_ (Sf.kids he _ _) fun k=>Sf.then_ (Sf.want _) fun _=>Sf.ret _
   ·exact Sf.then_ he fun k=>Sf.then_ (Sf.want _) fun _=>Sf.ret _
   ·exact Sf.then_ (Sf.Lj he h) fun k=>Sf.then_ (Sf.want _) fun _=>Sf.ret _
omit ht
theorem Sf.Du:∀(f:Nat) (a:bX),Sf (jC expr f a)
 | 0,a=>Sf.ret a
 | f+1,a=>Sf.then_ Sf.here fun h=>Sf.then_ (Sf.iF _) fun i=>by
  rcases i with _ | _ | i
  ·exact Sf.ret a
  ·exact Sf.then_ (Sf.kids he _ _) fun k=>Sf.then_ (Sf.want _) fun _=>Sf.Du f _
  ·exact Sf.then_ Sf.name fun k=>Sf.Du f _
include ht
theorem Sf.post:Sf (qZ typ expr):=Sf.then_ (Sf.atom ht he) fun a=>Sf.fuel (p:=fun ts=>jC expr ts.length a) fun ts=>Sf.Du he _ _
include hu
theorem Sf.FX:Sf (vg typ expr unary):=Sf.then_ Sf.here fun h=>Sf.then_ (Sf.iF _) fun i=>by
 rcases i with _ | _ | i
 ·exact Sf.post ht he
 ·exact Sf.then_ hu fun x=>Sf.ret _
 ·exact Sf.then_ hu fun x=>Sf.ret _
end
theorem Sf.Ig:∀n:Nat,Sf (bR n).typ∧Sf (bR n).expr∧Sf (bR n).unary
 | 0=>⟨Sf.fail (.inl rfl),Sf.fail (.inl rfl),Sf.fail (.inl rfl)⟩
 | n+1=>by
  obtain⟨h1,h2,h3⟩:=Sf.Ig n;exact⟨Sf.S9 h1,Sf.Li h1 h2 h3,Sf.FX h1 h2 h3⟩
theorem Sf.var:Sf yG:=Sf.then_ Sf.name fun s=>Sf.then_ (Sf.has _) fun b=>by
 cases b
 ·exact Sf.ret _
 ·exact Sf.then_ (Sf.Ig 100).1 fun t=>Sf.ret _
theorem Sf.vars:Sf qc:=Sf.then_ (Sf.has _) fun b=>by
 cases b
 ·exact Sf.ret _
 ·exact Sf.then_ (Sf.sep Sf.var) fun l=>Sf.then_ (Sf.want _) fun _=>Sf.ret _
theorem Sf.import_ (h:aD):Sf (kY h):=Sf.then_ Sf.name fun s=>Sf.then_ (Sf.want _) fun _=>Sf.then_ (Sf.sep Sf.name) fun l=>Sf.then_ (Sf.want _) fun _=>Sf.ret _
theorem Sf.decl:Sf oW:=Sf.then_ (Sf.has _) fun e=>Sf.then_ Sf.here fun h=>Sf.then_ (Sf.want _) fun _=>Sf.then_ Sf.name fun s=>Sf.then_ Sf.vars fun v=>
 Sf.then_ (Sf.head (Sf.Ig 100).1 _) fun p=>Sf.then_ (Sf.want _) fun _=>Sf.then_ (Sf.Ig 100).2.1 fun b=>Sf.then_ (Sf.want _) fun _=>Sf.ret _
theorem Sf.imps:∀(f:Nat) (l:List rU),Sf (mG f l)
 | 0,l=>Sf.ret l
 | f+1,l=>Sf.then_ Sf.here fun h=>Sf.then_ (Sf.has _) fun b=>by
  cases b
  ·exact Sf.ret l
  ·exact Sf.then_ (Sf.import_ h) fun i=>Sf.imps f _
theorem Sf.decls:∀(f:Nat) (l:List pI),Sf (gy f l)
 | 0,l=>Sf.ret l
 | f+1,l=>Sf.then_ (Sf.seen _) fun b=>by
  cases b
  ·exact Sf.then_ Sf.decl fun d=>Sf.decls f _
  ·exact Sf.ret l
theorem Sf.module:Sf dU:=Sf.then_ (Sf.fuel (p:=fun ts=>mG ts.length []) fun ts=>Sf.imps _ _) fun i=>Sf.then_ (Sf.fuel (p:=fun ts=>gy ts.length []) fun ts=>Sf.decls _ _) fun d=>Sf.ret _
end Go.Proofs.YtfgjkmipfikooaaGreatDoor
end
section
namespace Go.Proofs.YtfgjkmipfikooaaGreatDoor
open Go.RowKit
theorem eD.imp {α:Type} {R S:List Value→α→Prop} {k:Nat} (hS:∀z c,R z c→S z c):∀ {xs:List Value} {ys:List α},eD R k xs ys→eD S k xs ys
 | _, _, .nil=> .nil
 | _, _, .cons h1 h2 h3=> .cons h1 (hS _ _ h2) (eD.imp hS h3)
theorem eD.at {α:Type} {R:List Value→α→Prop} {k:Nat}:∀ {xs:List Value} {ys:List α},eD R k xs ys→∀(i:Nat) (hi:i<ys.length),R ((xs.drop (i*k)).take k) ys[i]
 | _, _, .nil,i,hi=>by simp at hi
 | _, _, .cons (x:=x) (y:=y) h1 h2 h3,i,hi=>by
  rcases i with _ | i
  ·rw [Nat.zero_mul,List.drop_zero, ←h1,List.take_left];exact h2
  ·have:(x++y).drop ((i+1)*k)=y.drop (i*k):=by
    rw [show(i+1)*k=x.length+i*k by rw [h1,Nat.add_mul,Nat.one_mul,Nat.add_comm], ←List.drop_drop,List.drop_left]
   rw [this];exact eD.at h3 i (by simpa using hi)
theorem eD.and {α:Type} {R S:List Value→α→Prop} {k:Nat}:∀ {xs:List Value} {ys:List α},eD (fun z c=>R z c∧S z c) k xs ys→eD R k xs ys∧eD S k xs ys
 | _, _, .nil=>⟨.nil, .nil⟩
 | _, _, .cons h1 h2 h3=>⟨.cons h1 h2.1 (eD.and h3).1, .cons h1 h2.2 (eD.and h3).2⟩
theorem eD.app {α:Type} {R:List Value→α→Prop} {k:Nat} {xt:List Value} {yt:List α} (h:eD R k xt yt):∀ {xs:List Value} {ys:List α},eD R k xs ys→eD R k (xs++xt) (ys++yt)
 | _, _, .nil=>h
 | _, _, .cons h1 h2 h3=>by rw [List.append_assoc,List.cons_append];exact .cons h1 h2 (eD.app h h3)
def OC (w:World) (B:Nat) (z:List Value) (i:rU):Prop:=∃vn,z=[sv i.from_,vn, .int .i64 i.line, .int .i64 i.col]∧Ss w B vn i.names
def KX (w:World) (B:Nat) (z:List Value) (v:yE):Prop:=∃y,z=sv v.name :: y∧sQ w B y v.bound
def CV (w:World) (B:Nat) (z:List Value) (d:pI):Prop:=
 ∃vv xv vt xt y,z=[sv d.name, .bool d.exp,vv,sv d.param,vt]++(y++[.int .i64 d.line, .int .i64 d.col])∧Sl w B 5 vv xv∧eD (KX w B) 5 xv d.vars∧Sl w B 4 vt xt∧iP w B xt d.types∧rT w B y d.body
def JC (w:World) (B:Nat) (z:List Value) (m:zQ):Prop:=
 ∃vi xi vd xd,z=[vi,vd]∧Sl w B 4 vi xi∧eD (OC w B) 4 xi m.imps∧Sl w B 15 vd xd∧eD (CV w B) 15 xd m.decls
section
variable {w w':World} {B B':Nat} {z:List Value}
theorem OC.keep {i:rU} (h:OC w B z i) (hb:Below B w w'):OC w' B z i:=by
 obtain⟨vn,e,h1⟩:=h;exact⟨vn,e,h1.below hb⟩
theorem OC.more {i:rU} (h:OC w B z i) (hb:B≤B'):OC w B' z i:=by
 obtain⟨vn,e,h1⟩:=h;exact⟨vn,e,h1.more hb⟩
theorem KX.keep {i:yE} (h:KX w B z i) (hb:Below B w w'):KX w' B z i:=by
 obtain⟨vn,e,h1⟩:=h;exact⟨vn,e,h1.keep hb⟩
theorem KX.more {i:yE} (h:KX w B z i) (hb:B≤B'):KX w B' z i:=by
 obtain⟨vn,e,h1⟩:=h;exact⟨vn,e,h1.more hb⟩
theorem CV.keep {i:pI} (h:CV w B z i) (hb:Below B w w'):CV w' B z i:=by
 obtain⟨vv,xv,vt,xt,y,e,h1,h2,h3,h4,h5⟩:=h;exact⟨vv,xv,vt,xt,y,e,Sl.below h1 hb,h2.imp fun _ _ h=>h.keep hb,Sl.below h3 hb,h4.keep hb,h5.keep hb⟩
theorem CV.more {i:pI} (h:CV w B z i) (hb:B≤B'):CV w B' z i:=by
 obtain⟨vv,xv,vt,xt,y,e,h1,h2,h3,h4,h5⟩:=h;exact⟨vv,xv,vt,xt,y,e,Sl.more h1 hb,h2.imp fun _ _ h=>h.more hb,Sl.more h3 hb,h4.more hb,h5.more hb⟩
theorem JC.keep {i:zQ} (h:JC w B z i) (hb:Below B w w'):JC w' B z i:=by
 obtain⟨vi,xi,vd,xd,e,h1,h2,h3,h4⟩:=h;exact⟨vi,xi,vd,xd,e,Sl.below h1 hb,h2.imp fun _ _ h=>h.keep hb,Sl.below h3 hb,h4.imp fun _ _ h=>h.keep hb⟩
theorem JC.more {i:zQ} (h:JC w B z i) (hb:B≤B'):JC w B' z i:=by
 obtain⟨vi,xi,vd,xd,e,h1,h2,h3,h4⟩:=h;exact⟨vi,xi,vd,xd,e,Sl.more h1 hb,h2.imp fun _ _ h=>h.more hb,Sl.more h3 hb,h4.imp fun _ _ h=>h.more hb⟩
theorem JC.far {i:zQ} (h:JC w B z i) (hB:B≤w.heap.size) (hb:Below w.heap.size w w'):JC w' w'.heap.size z i:=
 (h.keep (hb.mono hB)).more (Nat.le_trans hB hb.size)
theorem CV.far {i:pI} (h:CV w B z i) (hB:B≤w.heap.size) (hb:Below w.heap.size w w'):CV w' w'.heap.size z i:=
 (h.keep (hb.mono hB)).more (Nat.le_trans hB hb.size)
theorem CV.len {d:pI} (h:CV w B z d):z.length=15:=by
 obtain⟨vv,xv,vt,xt,y,rfl, _, _, _, _,h5⟩:=h;have:=h5.len;simp only [List.length_append,List.length_cons,List.length_nil];omega
theorem KX.len {d:yE} (h:KX w B z d):z.length=5:=by
 obtain⟨y,rfl,h5⟩:=h;have:=h5.len;simp only [List.length_cons];omega
theorem CV.parts {d:pI} (h:CV w B z d):
  ∃A1 c1 A2 c2 k s n l c A3 n3 c3 A4 n4 c4 A5 n5 c5 xv xt,z=[sv d.name, .bool d.exp, .slice A1 d.vars.length c1,sv d.param, .slice A2 d.types.length c2, .int .i64 k, .string s, .int .i64 n, .int .i64 l, .int .i64 c, .slice A3 n3 c3, .slice A4 n4 c4, .slice A5 n5 c5, .int .i64 d.line, .int .i64 d.col]∧
   Sl w B 5 (.slice A1 d.vars.length c1) xv∧eD (KX w B) 5 xv d.vars∧Sl w B 4 (.slice A2 d.types.length c2) xt∧iP w B xt d.types∧rT w B [.int .i64 k, .string s, .int .i64 n, .int .i64 l, .int .i64 c, .slice A3 n3 c3, .slice A4 n4 c4, .slice A5 n5 c5] d.body:=by
 obtain⟨vv,xv,vt,xt,y,rfl,h1,h2,h3,h4,h5⟩:=h;obtain⟨A1,c1,rfl⟩:=eO h1 (by omega) (m:=d.vars.length) h2.len;obtain⟨A2,c2,rfl⟩:=eO h3 (by omega) (m:=d.types.length) h4.length;obtain⟨k,s,n,l,c,A3,n3,c3,A4,n4,c4,A5,n5,c5,rfl⟩:=h5.shape;exact⟨A1,c1,A2,c2,k,s,n,l,c,A3,n3,c3,A4,n4,c4,A5,n5,c5,xv,xt,rfl,h1,h2,h3,h4,h5⟩
theorem JC.parts {m:zQ} (h:JC w B z m):
  ∃A1 c1 A2 c2 xi xd,z=[.slice A1 m.imps.length c1, .slice A2 m.decls.length c2]∧Sl w B 4 (.slice A1 m.imps.length c1) xi∧eD (OC w B) 4 xi m.imps∧Sl w B 15 (.slice A2 m.decls.length c2) xd∧eD (CV w B) 15 xd m.decls:=by
 obtain⟨vi,xi,vd,xd,rfl,h1,h2,h3,h4⟩:=h;obtain⟨A1,c1,rfl⟩:=eO h1 (by omega) (m:=m.imps.length) h2.len;obtain⟨A2,c2,rfl⟩:=eO h3 (by omega) (m:=m.decls.length) h4.len;exact⟨A1,c1,A2,c2,xi,xd,rfl,h1,h2,h3,h4⟩
end
end Go.Proofs.YtfgjkmipfikooaaGreatDoor
end
section
namespace Go.Proofs.YtfgjkmipfikooaaGreatDoor
open Go.RowKit
def dB (w:World) (F:Nat→Prop) (k:Nat) (v:Value) (xs:List Value):Prop:=
 ∃(A:Option Addr) (n c:Nat),v= .slice A n c∧xs.length=n*k∧n≤c∧c≤maxLen∧
  (0<n→∃b off,A=some ⟨b,off,none⟩∧F b∧b<w.heap.size∧∀(j:Nat) u,xs[j]? =some u→w.cell? ⟨b,off+j,none⟩=some u)
section
variable {w w':World} {F G:Nat→Prop} {B k:Nat} {v:Value} {xs:List Value}
theorem dB.turn (h:dB w F k v xs) (t:Turn G w w') (hd:∀g,g<w.heap.size→F g→¬G g):dB w' F k v xs:=by
 obtain⟨A,n,c,hv,hl,hn,hc,hx⟩:=h;refine⟨A,n,c,hv,hl,hn,hc,fun h0=> ?_⟩;obtain⟨b,off,hA,hb,hs,hcell⟩:=hx h0;refine⟨b,off,hA,hb,t.lt hs,fun j u hu=> ?_⟩;rw [←hcell j u hu];have h1:=t.block hs (hd b hs hb);simp only [World.cell?,h1]
theorem dB.mono (h:dB w F k v xs) (hF:∀g,g<w.heap.size→F g→G g):dB w G k v xs:=by
 obtain⟨A,n,c,hv,hl,hn,hc,hx⟩:=h;refine⟨A,n,c,hv,hl,hn,hc,fun h0=> ?_⟩;obtain⟨b,off,hA,hb,hs,hcell⟩:=hx h0;exact⟨b,off,hA,hF b hs hb,hs,hcell⟩
theorem dB.of (h:Sl w B k v xs) (hB:B≤w.heap.size):dB w (· <B) k v xs:=by
 obtain⟨A,n,c,hv,hl,hn,hc,hx⟩:=h;refine⟨A,n,c,hv,hl,hn,hc,fun h0=> ?_⟩;obtain⟨b,off,hA,hb,hcell⟩:=hx h0;exact⟨b,off,hA,hb,Nat.lt_of_lt_of_le hb hB,hcell⟩
theorem dB.to (h:dB w F k v xs) (hF:∀g,g<w.heap.size→F g→g<B):Sl w B k v xs:=by
 obtain⟨A,n,c,hv,hl,hn,hc,hx⟩:=h;refine⟨A,n,c,hv,hl,hn,hc,fun h0=> ?_⟩;obtain⟨b,off,hA,hb,hs,hcell⟩:=hx h0;exact⟨b,off,hA,hF b hs hb,hcell⟩
theorem dB.all (h:dB w F k v xs):Sl w w.heap.size k v xs:=h.to fun _ hg _=>hg
theorem dB.nil (w:World) (F:Nat→Prop) (k:Nat):dB w F k (.slice none 0 0) []:=
 ⟨none,0,0,rfl,by simp,Nat.le_refl _,Nat.zero_le _,fun h=>absurd h (by omega)⟩
theorem dB.own {base:Nat} {e:TypeId} {n:Nat} (h:w.ownsRow base e k v n xs) (hF:∀g,v.ownBlock=some g→F g):dB w F k v xs:=by
 have h1:=Sl.yw h;obtain⟨A,n',c,hv,hl,hn,hc,hx⟩:=h1;refine⟨A,n',c,hv,hl,hn,hc,fun h0=> ?_⟩;obtain⟨b,off,hA,hb,hcell⟩:=hx h0;exact⟨b,off,hA,hF b (by subst hv hA;rfl),hb,hcell⟩
theorem dB.below (h:dB w F k v xs) (hb:Below w.heap.size w w'):dB w' F k v xs:=h.turn (Turn.of_below (F:=fun _=>False) hb) fun _ _ _ h=>h
end
mutual
inductive jR (w:World) (F:Nat→Prop):List Value→bT→Prop
 | mk {k:Int} {nm:Bt} {vn vk:Value} {ns:List Bt} {ks:List bT} {xk:List Value}:dB w F 1 vn (lG ns)→dB w F 4 vk xk→kK w F xk ks→jR w F [.int .i64 k,sv nm,vn,vk] (.mk k nm ns ks)
inductive kK (w:World) (F:Nat→Prop):List Value→List bT→Prop
 | nil:kK w F [] []
 | cons {x y:List Value} {c:bT} {l:List bT}:jR w F x c→kK w F y l→kK w F (x++y) (c :: l)
end
mutual
inductive ow (w:World) (F:Nat→Prop):List Value→bX→Prop
 | mk {k n line col:Int} {text:Bt} {vt vn vk:Value} {ts:List bT} {xt:List Value} {ns:List Bt} {ks:List bX} {xk:List Value}:dB w F 4 vt xt→kK w F xt ts→dB w F 1 vn (lG ns)→dB w F 8 vk xk→kM w F xk ks→
   ow w F [.int .i64 k,sv text, .int .i64 n, .int .i64 line, .int .i64 col,vt,vn,vk] (.mk k text n line col ts ns ks)
inductive kM (w:World) (F:Nat→Prop):List Value→List bX→Prop
 | nil:kM w F [] []
 | cons {x y:List Value} {c:bX} {l:List bX}:ow w F x c→kM w F y l→kM w F (x++y) (c :: l)
end
section
variable {w w':World} {F G:Nat→Prop} {B:Nat}
mutual
theorem jR.turn {x:List Value} {c:bT} (h:jR w F x c) (t:Turn G w w') (hd:∀g,g<w.heap.size→F g→¬G g):jR w' F x c:=
 match h with
 | .mk h1 h2 h3=> .mk (h1.turn t hd) (h2.turn t hd) (h3.turn t hd)
theorem kK.turn {x:List Value} {l:List bT} (h:kK w F x l) (t:Turn G w w') (hd:∀g,g<w.heap.size→F g→¬G g):kK w' F x l:=
 match h with
 | .nil=> .nil
 | .cons h1 h2=> .cons (h1.turn t hd) (h2.turn t hd)
end
mutual
theorem jR.mono {x:List Value} {c:bT} (h:jR w F x c) (hF:∀g,g<w.heap.size→F g→G g):jR w G x c:=
 match h with
 | .mk h1 h2 h3=> .mk (h1.mono hF) (h2.mono hF) (h3.mono hF)
theorem kK.mono {x:List Value} {l:List bT} (h:kK w F x l) (hF:∀g,g<w.heap.size→F g→G g):kK w G x l:=
 match h with
 | .nil=> .nil
 | .cons h1 h2=> .cons (h1.mono hF) (h2.mono hF)
end
mutual
theorem jR.of {x:List Value} {c:bT} (h:sQ w B x c) (hB:B≤w.heap.size):jR w (· <B) x c:=
 match h with
 | .mk h1 h2 h3=> .mk (dB.of h1 hB) (dB.of h2 hB) (kK.of h3 hB)
theorem kK.of {x:List Value} {l:List bT} (h:iP w B x l) (hB:B≤w.heap.size):kK w (· <B) x l:=
 match h with
 | .nil=> .nil
 | .cons h1 h2=> .cons (jR.of h1 hB) (kK.of h2 hB)
end
mutual
theorem jR.to {x:List Value} {c:bT} (h:jR w F x c) (hF:∀g,g<w.heap.size→F g→g<B):sQ w B x c:=
 match h with
 | .mk h1 h2 h3=> .mk (h1.to hF) (h2.to hF) (h3.to hF)
theorem kK.to {x:List Value} {l:List bT} (h:kK w F x l) (hF:∀g,g<w.heap.size→F g→g<B):iP w B x l:=
 match h with
 | .nil=> .nil
 | .cons h1 h2=> .cons (h1.to hF) (h2.to hF)
end
mutual
theorem ow.turn {x:List Value} {c:bX} (h:ow w F x c) (t:Turn G w w') (hd:∀g,g<w.heap.size→F g→¬G g):ow w' F x c:=
 match h with
 | .mk h1 h2 h3 h4 h5=> .mk (h1.turn t hd) (h2.turn t hd) (h3.turn t hd) (h4.turn t hd) (h5.turn t hd)
theorem kM.turn {x:List Value} {l:List bX} (h:kM w F x l) (t:Turn G w w') (hd:∀g,g<w.heap.size→F g→¬G g):kM w' F x l:=
 match h with
 | .nil=> .nil
 | .cons h1 h2=> .cons (h1.turn t hd) (h2.turn t hd)
end
mutual
theorem ow.mono {x:List Value} {c:bX} (h:ow w F x c) (hF:∀g,g<w.heap.size→F g→G g):ow w G x c:=
 match h with
 | .mk h1 h2 h3 h4 h5=> .mk (h1.mono hF) (h2.mono hF) (h3.mono hF) (h4.mono hF) (h5.mono hF)
theorem kM.mono {x:List Value} {l:List bX} (h:kM w F x l) (hF:∀g,g<w.heap.size→F g→G g):kM w G x l:=
 match h with
 | .nil=> .nil
 | .cons h1 h2=> .cons (h1.mono hF) (h2.mono hF)
end
mutual
theorem ow.of {x:List Value} {c:bX} (h:rT w B x c) (hB:B≤w.heap.size):ow w (· <B) x c:=
 match h with
 | .mk h1 h2 h3 h4 h5=> .mk (dB.of h1 hB) (kK.of h2 hB) (dB.of h3 hB) (dB.of h4 hB) (kM.of h5 hB)
theorem kM.of {x:List Value} {l:List bX} (h:kX w B x l) (hB:B≤w.heap.size):kM w (· <B) x l:=
 match h with
 | .nil=> .nil
 | .cons h1 h2=> .cons (ow.of h1 hB) (kM.of h2 hB)
end
mutual
theorem ow.to {x:List Value} {c:bX} (h:ow w F x c) (hF:∀g,g<w.heap.size→F g→g<B):rT w B x c:=
 match h with
 | .mk h1 h2 h3 h4 h5=> .mk (h1.to hF) (h2.to hF) (h3.to hF) (h4.to hF) (h5.to hF)
theorem kM.to {x:List Value} {l:List bX} (h:kM w F x l) (hF:∀g,g<w.heap.size→F g→g<B):kX w B x l:=
 match h with
 | .nil=> .nil
 | .cons h1 h2=> .cons (h1.to hF) (h2.to hF)
end
theorem jR.all {x:List Value} {c:bT} (h:jR w F x c):sQ w w.heap.size x c:=h.to fun _ hg _=>hg
theorem kK.all {x:List Value} {c:List bT} (h:kK w F x c):iP w w.heap.size x c:=h.to fun _ hg _=>hg
theorem ow.all {x:List Value} {c:bX} (h:ow w F x c):rT w w.heap.size x c:=h.to fun _ hg _=>hg
theorem kM.all {x:List Value} {c:List bX} (h:kM w F x c):kX w w.heap.size x c:=h.to fun _ hg _=>hg
theorem jR.Vw {x:List Value} {c:bT} (h:jR w F x c) (hb:Below w.heap.size w w'):jR w' F x c:=h.turn (Turn.of_below (F:=fun _=>False) hb) fun _ _ _ h=>h
theorem kK.Vw {x:List Value} {c:List bT} (h:kK w F x c) (hb:Below w.heap.size w w'):kK w' F x c:=h.turn (Turn.of_below (F:=fun _=>False) hb) fun _ _ _ h=>h
theorem ow.Vw {x:List Value} {c:bX} (h:ow w F x c) (hb:Below w.heap.size w w'):ow w' F x c:=h.turn (Turn.of_below (F:=fun _=>False) hb) fun _ _ _ h=>h
theorem kM.Vw {x:List Value} {c:List bX} (h:kM w F x c) (hb:Below w.heap.size w w'):kM w' F x c:=h.turn (Turn.of_below (F:=fun _=>False) hb) fun _ _ _ h=>h
theorem kM.at:∀ {x:List Value} {l:List bX},kM w F x l→∀(i:Nat) (hi:i<l.length),ow w F ((x.drop (i*8)).take 8) l[i]
 | _, _, .nil,i,hi=>by simp at hi
 | _, _, .cons (x:=x) (y:=y) h1 h2,i,hi=>by
  have h5:=h1.all.len;rcases i with _ | i
  ·rw [Nat.zero_mul,List.drop_zero, ←h5,List.take_left];exact h1
  ·have:(x++y).drop ((i+1)*8)=y.drop (i*8):=by
    rw [show(i+1)*8=x.length+i*8 by omega, ←List.drop_drop,List.drop_left]
   rw [this];exact kM.at h2 i (by simpa using hi)
end
end Go.Proofs.YtfgjkmipfikooaaGreatDoor
end
section
namespace Go.Proofs.YtfgjkmipfikooaaGreatDoor
open Go.RowKit
theorem wh {α:Type} {R:List Value→α→Prop} {k:Nat} {z:List Value} {c:α} (hz:z.length=k) (h:R z c):eD R k z [c]:=by
 have:=eD.cons (R:=R) hz h .nil;rwa [List.append_nil]at this
def nD (F:Nat→Prop) (v:Value):Nat→Prop:=fun j=>v.ownBlock≠some j∧F j
structure mH {α:Type} (R:World→(Nat→Prop)→List Value→α→Prop) (k:Nat):Prop where
 turn:∀ {w w':World} {F G:Nat→Prop} {z:List Value} {x:α},R w F z x→Turn G w w'→(∀g,g<w.heap.size→F g→¬G g)→R w' F z x
 mono:∀ {w:World} {F G:Nat→Prop} {z:List Value} {x:α},R w F z x→(∀g,g<w.heap.size→F g→G g)→R w G z x
 len:∀ {w:World} {F:Nat→Prop} {z:List Value} {x:α},R w F z x→z.length=k
 one:∀ {w:World} {F:Nat→Prop} {z:List Value} {x:α},R w F z x→∀u∈z,u.oneCell'=true
section
variable {α:Type} {R:World→(Nat→Prop)→List Value→α→Prop} {k:Nat} (hR:mH R k)
def fu (R:World→(Nat→Prop)→List Value→α→Prop) (k:Nat) (e:TypeId) (w:World) (base:Nat) (F:Nat→Prop) (v:Value) (l:List α):Prop:=
 ∃ys,w.ownsRow base e k v l.length ys∧eD (R w (nD F v)) k ys l
theorem fu.nil (R:World→(Nat→Prop)→List Value→α→Prop) (k:Nat) (e:TypeId) (w:World) (base:Nat) (F:Nat→Prop):fu R k e w base F (.slice none 0 0) []:=⟨[],World.ownsRow_nil _ _ _ _, .nil⟩
theorem fu.lt {e:TypeId} {w:World} {base:Nat} {F:Nat→Prop} {v:Value} {l:List α} (h:fu R k e w base F v l):∀g,v.ownBlock=some g→base≤g∧g<w.heap.size:=by
 obtain⟨ys,h1, _⟩:=h;exact h1.lt
theorem fu.shape {e:TypeId} {w:World} {base:Nat} {F:Nat→Prop} {v:Value} {l:List α} (h:fu R k e w base F v l):∃A c,v= .slice A l.length c∧l.length≤c∧c≤maxLen:=by
 obtain⟨ys,h1, _⟩:=h;rcases h1.2 with⟨rfl,h0⟩ | ⟨g,cap,cur,rfl,hb,hg,hc,hm, _⟩
 ·exact⟨none,0,by rw [h0],by omega,Nat.zero_le _⟩
 ·exact⟨_, _,rfl,hc,hm⟩
include hR
theorem bD {w w':World} {F G:Nat→Prop} (t:Turn G w w') (hd:∀g,g<w.heap.size→F g→¬G g) {ys:List Value} {l:List α} (h:eD (R w F) k ys l):eD (R w' F) k ys l:=h.imp fun _ _ h=>hR.turn h t hd
theorem dD {w:World} {F G:Nat→Prop} (hd:∀g,g<w.heap.size→F g→G g) {ys:List Value} {l:List α} (h:eD (R w F) k ys l):eD (R w G) k ys l:=h.imp fun _ _ h=>hR.mono h hd
theorem fu.turn {e:TypeId} {w w':World} {base:Nat} {F:Nat→Prop} {v:Value} {l:List α} {G:Nat→Prop} (h:fu R k e w base F v l) (t:Turn G w w') (ho:∀g,v.ownBlock=some g→¬G g) (hd:∀g,g<w.heap.size→F g→¬G g):fu R k e w' base F v l:=by
 obtain⟨ys,h1,h2⟩:=h;exact⟨ys,dK h1 t ho,bD hR t (fun g hg h=>hd g hg h.2) h2⟩
theorem fu.mono {e:TypeId} {w:World} {base:Nat} {F G:Nat→Prop} {v:Value} {l:List α} (h:fu R k e w base F v l) (hd:∀g,g<w.heap.size→F g→G g):fu R k e w base G v l:=by
 obtain⟨ys,h1,h2⟩:=h;exact⟨ys,h1,dD hR (fun g hg h=>⟨h.1,hd g hg h.2⟩) h2⟩
theorem fu.push {e:TypeId} {w w6 w7:World} {base bp:Nat} {F:Nat→Prop} {v v7:Value} {l:List α} {x:α} {z ys:List Value} {n7:Nat} (h1:w.ownsRow base e k v l.length ys) (h2:eD (R w (nD F v)) k ys l)
  (t:Turn (fun j=>j=bp) w w6) (hx:R w6 (fun j=>w.heap.size≤j) z x) {G:Nat→Prop} (t7:Turn G w6 w7) (hG:∀j,j<w6.heap.size→G j→v.ownBlock=some j∨(¬F j∧j<w.heap.size)) (hbk:v7.ownBlock=v.ownBlock∨∃m,w6.heap.size≤m∧v7.ownBlock=some m) (h7:w7.ownsRow base e k v7 n7 (ys++z)) (hk:0<k)
  (hbp:¬F bp) (hF:∀j,w.heap.size≤j→F j):fu R k e w7 base F v7 (l++[x]):=by
 have hlt:=h1.lt;have hs6:=t.size;have hn:n7=(l++[x]).length:=by
  have e1:=h7.1;have e2:=h1.1;have e3:=hR.len hx;rw [List.length_append,e2,e3]at e1;rw [List.length_append,List.length_singleton];have:n7*k=(l.length+1)*k:=by rw [←e1,Nat.add_mul,Nat.one_mul]
  exact Nat.eq_of_mul_eq_mul_right hk this
 subst hn;have hnew:∀j,j<w6.heap.size→v7.ownBlock=some j→v.ownBlock=some j:=fun j hj e=>by
  rcases hbk with hb | ⟨m,hm,hb⟩
  ·rw [hb]at e;exact e
  ·rw [hb]at e;injection e with e;omega
 refine⟨_,h7,eD.app (wh (hR.len hx) ?_) (h2.imp fun _ _ h=> ?_)⟩
 ·have h3:R w6 (fun j=>j<w6.heap.size∧w.heap.size≤j) z x:=hR.mono hx fun j hj h=>⟨hj,h⟩
  refine hR.mono (hR.turn h3 t7 (fun j _ h e=>by rcases hG j h.1 e with e | e;(have:=(hlt j e).2;omega);(have:=e.2;omega))) fun j _ h=>⟨fun e=> ?_,hF j h.2⟩
  have:=(hlt j (hnew j h.1 e)).2;omega
 ·have h3:R w (fun j=>j<w.heap.size∧nD F v j) _ _:=hR.mono h fun j hj h=>⟨hj,h⟩
  refine hR.mono (hR.turn (hR.turn h3 t (fun j _ h e=>by subst e;exact hbp h.2.2)) t7 (fun j _ h e=>by rcases hG j (by have:=h.1;omega) e with e | e;exact h.2.1 e;exact e.1 h.2.2)) fun j _ h=>⟨fun e=>h.2.1 (hnew j (by have:=h.1;omega) e),h.2.2⟩
theorem fu.sl {e:TypeId} {w:World} {base:Nat} {F:Nat→Prop} {v:Value} {l:List α} (h:fu R k e w base F v l):∃xs,dB w (fun j=>base≤j∨F j) k v xs∧eD (R w (fun j=>base≤j∨F j)) k xs l:=by
 obtain⟨ys,h1,h2⟩:=h;exact⟨ys,dB.own h1 (fun g hg=> .inl (h1.lt g hg).1),dD hR (fun g _ h=> .inr h.2) h2⟩
end
theorem OY {w:World} {base g i:Nat} {e:TypeId} {k:Nat} {v u:Value} {n:Nat} {xs:List Value} (h:w.ownsRow base e k v n xs) (hg:v.ownBlock=some g):(w.setCell ⟨g,i,none⟩ u).ownsRow base e k v n (xs.set i u):=by
 obtain⟨h0,h⟩:=h;refine⟨by rw [List.length_set];exact h0, ?_⟩;rcases h with⟨rfl, _⟩ | ⟨g',cap,cur,rfl,hb,hh,hn,hc,hs,ht⟩
 ·cases hg
 ·have:g'=g:=by injection hg
  subst this;refine .inr ⟨g',cap,cur.setIfInBounds i u,rfl,hb,heap_setCell_same _ _ i _ _ u hh,hn,hc,by simpa using hs, ?_⟩;rw [Array.toList_setIfInBounds,List.take_set,ht]
theorem aR {w:World} {base g:Nat} {e:TypeId} {k:Nat} {v u:Value} {n:Nat} {xs:List Value} (h:w.ownsRow base e k v n xs) (hg:v.ownBlock=some g) {i:Nat} (hi:xs[i]? =some u):w.cell? ⟨g,i,none⟩=some u∧w.frozen? ⟨g,i,none⟩=false:=by
 refine⟨by have:=h.cells hg i u hi;rwa [qF,Nat.zero_add]at this, ?_⟩;rcases h.2 with⟨rfl, _⟩ | ⟨g',cap,cur,rfl,hb,hh, _⟩
 ·cases hg
 ·have:g'=g:=by injection hg
  subst this;exact frozen_of_row _ _ _ _ _ hh
theorem kZ {w:World} {F:Nat→Prop}:∀ {xs:List Value} {l:List bT},eD (jR w F) 4 xs l→kK w F xs l
 | _, _, .nil=> .nil
 | _, _, .cons _ h2 h3=> .cons h2 (kZ h3)
theorem j4 {w:World} {F:Nat→Prop}:∀ {xs:List Value} {l:List bX},eD (ow w F) 8 xs l→kM w F xs l
 | _, _, .nil=> .nil
 | _, _, .cons _ h2 h3=> .cons h2 (j4 h3)
theorem aO:mH jR 4 where
 turn h t hd:=h.turn t hd
 mono h hF:=h.mono hF
 len h:=h.all.len
 one h:=by
  obtain⟨k,s,A1,n1,c1,A2,n2,c2,rfl⟩:=h.all.shape;intro u hu;simp only [List.mem_cons,List.not_mem_nil,or_false]at hu;rcases hu with rfl | rfl | rfl | rfl <;> rfl
theorem aZ:mH ow 8 where
 turn h t hd:=h.turn t hd
 mono h hF:=h.mono hF
 len h:=h.all.len
 one h:=by
  obtain⟨k,s,a,b,c,A1,n1,c1,A2,n2,c2,A3,n3,c3,rfl⟩:=h.all.shape;intro u hu;simp only [List.mem_cons,List.not_mem_nil,or_false]at hu;rcases hu with rfl | rfl | rfl | rfl | rfl | rfl | rfl | rfl <;> rfl
end Go.Proofs.YtfgjkmipfikooaaGreatDoor
end
section
namespace Go.Proofs
open Go.Shelf
def Tryz.lays137_ren:Go.Shelf.Ren:=⟨fun | 137=>214 | 217=>223 | 266=>236 | n=>n,fun | 9=>9 | 5=>5 | 3=>3 | n=>n,fun | n=>n⟩
theorem Tryz.lays137:Go.Proofs.Lays.n137 Tryz.prog Tryz.lays137_ren:={
 mixed:=by kernel_rfl
 f137:=Tryz.func214.trans (congrArg some (by kernel_rfl))
 f217:=Tryz.func223.trans (congrArg some (by kernel_rfl))
 f266:=Tryz.func236.trans (congrArg some (by kernel_rfl))
 t3:=Tryz.underlying3
 a3:=Tryz.isAgg3
 z3:=Tryz.sizeOf3
 v3:=Tryz.zeroValue3
 t5:=Tryz.underlying5
 a5:=Tryz.isAgg5
 z5:=Tryz.sizeOf5
 v5:=Tryz.zeroValue5
 t9:=Tryz.underlying9
 a9:=Tryz.isAgg9
 z9:=Tryz.sizeOf9
 v9:=Tryz.zeroValue9}
open Go.RowKit in
theorem Tryz.strings_IndexByte (s:ByteArray) (c:Int) (w:World):
  Calls Tryz.prog 214 #[.string s, .int .u8 c] w fun e w'=>e= .returned (.int .i64 (Lib.indexByte s.data.toList c.toNat.toUInt8))∧w'=w:=Any.strings_IndexByte Tryz.lays137 s c w
def Tryz.laysM171_ren:Go.Shelf.Ren:=⟨fun | 171=>203 | 243=>218 | 246=>228 | 283=>241 | 284=>242 | 285=>243 | 286=>244 | 129=>257 | 317=>256 | 318=>258 | 319=>259 | 320=>260 | 337=>270 | 338=>271 | n=>n,fun | 3=>3 | 9=>9 | 2=>2 | 4=>4 | 171=>278 | 0=>0 | 53=>238 | 37=>112 | 5=>5 | 173=>281 | 212=>308 | 51=>243 | 20=>20 | 213=>309 | 46=>298 | 232=>347 | 233=>348 | n=>n,fun | 17=>3 | 18=>6 | 19=>7 | n=>n⟩
theorem Tryz.laysM171:Go.Proofs.LaysM.n171 Tryz.prog Tryz.laysM171_ren:={
 mixed:=by kernel_rfl
 f129:=Tryz.func257.trans (congrArg some (by kernel_rfl))
 f171:=Tryz.func203.trans (congrArg some (by kernel_rfl))
 f243:=Tryz.func218.trans (congrArg some (by kernel_rfl))
 f246:=Tryz.func228.trans (congrArg some (by kernel_rfl))
 f283:=Tryz.func241.trans (congrArg some (by kernel_rfl))
 f284:=Tryz.func242.trans (congrArg some (by kernel_rfl))
 f285:=Tryz.func243.trans (congrArg some (by kernel_rfl))
 f286:=Tryz.func244.trans (congrArg some (by kernel_rfl))
 f317:=Tryz.func256.trans (congrArg some (by kernel_rfl))
 f318:=Tryz.func258.trans (congrArg some (by kernel_rfl))
 f319:=Tryz.func259.trans (congrArg some (by kernel_rfl))
 f320:=Tryz.func260.trans (congrArg some (by kernel_rfl))
 f337:=Tryz.func270.trans (congrArg some (by kernel_rfl))
 f338:=Tryz.func271.trans (congrArg some (by kernel_rfl))
 t0:=Tryz.underlying0
 a0:=Tryz.isAgg0
 z0:=Tryz.sizeOf0
 v0:=Tryz.zeroValue0
 t2:=Tryz.underlying2
 a2:=Tryz.isAgg2
 z2:=Tryz.sizeOf2
 v2:=Tryz.zeroValue2
 t3:=Tryz.underlying3
 a3:=Tryz.isAgg3
 z3:=Tryz.sizeOf3
 v3:=Tryz.zeroValue3
 t4:=Tryz.underlying4
 a4:=Tryz.isAgg4
 z4:=Tryz.sizeOf4
 v4:=Tryz.zeroValue4
 t5:=Tryz.underlying5
 a5:=Tryz.isAgg5
 z5:=Tryz.sizeOf5
 v5:=Tryz.zeroValue5
 t9:=Tryz.underlying9
 a9:=Tryz.isAgg9
 z9:=Tryz.sizeOf9
 v9:=Tryz.zeroValue9
 t20:=Tryz.underlying20
 a20:=Tryz.isAgg20
 z20:=Tryz.sizeOf20
 v20:=Tryz.zeroValue20
 t37:=Tryz.underlying112
 a37:=Tryz.isAgg112
 z37:=Tryz.sizeOf112
 v37:=Tryz.zeroValue112
 t46:=Tryz.underlying298
 a46:=Tryz.isAgg298
 z46:=Tryz.sizeOf298
 v46:=Tryz.zeroValue298
 t51:=Tryz.underlying243
 a51:=Tryz.isAgg243
 z51:=Tryz.sizeOf243
 v51:=Tryz.zeroValue243
 t53:=Tryz.underlying238
 a53:=Tryz.isAgg238
 z53:=Tryz.sizeOf238
 v53:=Tryz.zeroValue238
 t171:=Tryz.underlying278
 a171:=Tryz.isAgg278
 z171:=Tryz.sizeOf278
 v171:=Tryz.zeroValue278
 t173:=Tryz.underlying281
 a173:=Tryz.isAgg281
 z173:=Tryz.sizeOf281
 v173:=Tryz.zeroValue281
 t212:=Tryz.underlying308
 a212:=Tryz.isAgg308
 z212:=Tryz.sizeOf308
 v212:=Tryz.zeroValue308
 t213:=Tryz.underlying309
 a213:=Tryz.isAgg309
 z213:=Tryz.sizeOf309
 t232:=Tryz.underlying347
 a232:=Tryz.isAgg347
 z232:=Tryz.sizeOf347
 v232:=Tryz.zeroValue347
 t233:=Tryz.underlying348
 a233:=Tryz.isAgg348
 z233:=Tryz.sizeOf348
 v233:=Tryz.zeroValue348
 g17:=by kernel_rfl
 g18:=by kernel_rfl
 g19:=by kernel_rfl
 i0:=by kernel_rfl
 i2:=by kernel_rfl
 i3:=by kernel_rfl
 i4:=by kernel_rfl
 i5:=by kernel_rfl
 i9:=by kernel_rfl
 i20:=by kernel_rfl
 i37:=by kernel_rfl
 i46:=by kernel_rfl
 i51:=by kernel_rfl
 i53:=by kernel_rfl
 i171:=by kernel_rfl
 i173:=by kernel_rfl
 i212:=by kernel_rfl
 i232:=by kernel_rfl
 i233:=by kernel_rfl
 m17:=by kernel_rfl
 m18:=by kernel_rfl
 m19:=by kernel_rfl}
open Go.RowKit Go.Sort Go.Lib in
theorem Tryz.strconv_Itoa (n:Int) (h0: -9223372036854775808≤n) (h1:n≤9223372036854775807) (w:World) (htab:Lib.TabIs Tryz.prog w "internal/strconv.uint64pow10" .u64 Lib.pow10Tab):
  Calls Tryz.prog 203 #[.int .i64 n] w fun e w'=>e= .returned (.string ⟨(Lib.itoa n).toArray⟩)∧∃k os,w'=grow (w.drewN k) os:=Any.strconv_Itoa Tryz.laysM171 n h0 h1 w htab
def Tryz.laysC172_ren:Go.Shelf.Ren:=⟨fun | 172=>222 | 244=>234 | 245=>235 | 247=>251 | 279=>252 | 280=>253 | 281=>254 | 282=>255 | 287=>267 | 316=>268 | 171=>203 | 205=>269 | 321=>282 | 322=>283 | 243=>218 | 246=>228 | 283=>241 | 284=>242 | 285=>243 | 286=>244 | 129=>257 | 317=>256 | 318=>258 | 319=>259 | 320=>260 | 337=>270 | 338=>271 | n=>n,fun | 9=>9 | 3=>3 | 75=>116 | 76=>117 | 4=>4 | 5=>5 | 167=>300 | 37=>112 | 0=>0 | 85=>301 | 2=>2 | 168=>303 | 53=>238 | 175=>326 | 46=>298 | 210=>329 | 127=>189 | 145=>346 | 143=>344 | 21=>21 | 171=>278 | 173=>281 | 212=>308 | 51=>243 | 20=>20 | 213=>309 | 232=>347 | 233=>348 | 80=>122 | n=>n,fun | 15=>4 | 16=>5 | 17=>3 | 18=>6 | 19=>7 | n=>n⟩
theorem Tryz.laysC172:Go.Proofs.LaysC.n172 Tryz.prog Tryz.laysC172_ren:={
 mixed:=by kernel_rfl
 f129:=Tryz.func257.trans (congrArg some (by kernel_rfl))
 f171:=Tryz.func203.trans (congrArg some (by kernel_rfl))
 f172:=Tryz.func222.trans (congrArg some (by kernel_rfl))
 f205:=Tryz.func269.trans (congrArg some (by kernel_rfl))
 f243:=Tryz.func218.trans (congrArg some (by kernel_rfl))
 f244:=Tryz.func234.trans (congrArg some (by kernel_rfl))
 f245:=Tryz.func235.trans (congrArg some (by kernel_rfl))
 f246:=Tryz.func228.trans (congrArg some (by kernel_rfl))
 f247:=Tryz.func251.trans (congrArg some (by kernel_rfl))
 f279:=Tryz.func252.trans (congrArg some (by kernel_rfl))
 f280:=Tryz.func253.trans (congrArg some (by kernel_rfl))
 f281:=Tryz.func254.trans (congrArg some (by kernel_rfl))
 f282:=Tryz.func255.trans (congrArg some (by kernel_rfl))
 f283:=Tryz.func241.trans (congrArg some (by kernel_rfl))
 f284:=Tryz.func242.trans (congrArg some (by kernel_rfl))
 f285:=Tryz.func243.trans (congrArg some (by kernel_rfl))
 f286:=Tryz.func244.trans (congrArg some (by kernel_rfl))
 f287:=Tryz.func267.trans (congrArg some (by kernel_rfl))
 f316:=Tryz.func268.trans (congrArg some (by kernel_rfl))
 f317:=Tryz.func256.trans (congrArg some (by kernel_rfl))
 f318:=Tryz.func258.trans (congrArg some (by kernel_rfl))
 f319:=Tryz.func259.trans (congrArg some (by kernel_rfl))
 f320:=Tryz.func260.trans (congrArg some (by kernel_rfl))
 f321:=Tryz.func282.trans (congrArg some (by kernel_rfl))
 f322:=Tryz.func283.trans (congrArg some (by kernel_rfl))
 f337:=Tryz.func270.trans (congrArg some (by kernel_rfl))
 f338:=Tryz.func271.trans (congrArg some (by kernel_rfl))
 t0:=Tryz.underlying0
 a0:=Tryz.isAgg0
 z0:=Tryz.sizeOf0
 v0:=Tryz.zeroValue0
 t2:=Tryz.underlying2
 a2:=Tryz.isAgg2
 z2:=Tryz.sizeOf2
 v2:=Tryz.zeroValue2
 t3:=Tryz.underlying3
 a3:=Tryz.isAgg3
 z3:=Tryz.sizeOf3
 v3:=Tryz.zeroValue3
 t4:=Tryz.underlying4
 a4:=Tryz.isAgg4
 z4:=Tryz.sizeOf4
 v4:=Tryz.zeroValue4
 t5:=Tryz.underlying5
 a5:=Tryz.isAgg5
 z5:=Tryz.sizeOf5
 v5:=Tryz.zeroValue5
 t9:=Tryz.underlying9
 a9:=Tryz.isAgg9
 z9:=Tryz.sizeOf9
 v9:=Tryz.zeroValue9
 t20:=Tryz.underlying20
 a20:=Tryz.isAgg20
 z20:=Tryz.sizeOf20
 v20:=Tryz.zeroValue20
 t21:=Tryz.underlying21
 a21:=Tryz.isAgg21
 z21:=Tryz.sizeOf21
 v21:=Tryz.zeroValue21
 t37:=Tryz.underlying112
 a37:=Tryz.isAgg112
 z37:=Tryz.sizeOf112
 v37:=Tryz.zeroValue112
 t46:=Tryz.underlying298
 a46:=Tryz.isAgg298
 z46:=Tryz.sizeOf298
 v46:=Tryz.zeroValue298
 t51:=Tryz.underlying243
 a51:=Tryz.isAgg243
 z51:=Tryz.sizeOf243
 v51:=Tryz.zeroValue243
 t53:=Tryz.underlying238
 a53:=Tryz.isAgg238
 z53:=Tryz.sizeOf238
 v53:=Tryz.zeroValue238
 t75:=Tryz.underlying116
 a75:=Tryz.isAgg116
 z75:=Tryz.sizeOf116
 v75:=Tryz.zeroValue116
 t76:=Tryz.underlying117
 a76:=Tryz.isAgg117
 z76:=Tryz.sizeOf117
 v76:=Tryz.zeroValue117
 t85:=Tryz.underlying301
 a85:=Tryz.isAgg301
 z85:=Tryz.sizeOf301
 v85:=Tryz.zeroValue301
 t127:=Tryz.underlying189
 a127:=Tryz.isAgg189
 z127:=Tryz.sizeOf189
 v127:=Tryz.zeroValue189
 t143:=Tryz.underlying344
 a143:=Tryz.isAgg344
 z143:=Tryz.sizeOf344
 v143:=Tryz.zeroValue344
 t145:=Tryz.underlying346
 a145:=Tryz.isAgg346
 z145:=Tryz.sizeOf346
 v145:=Tryz.zeroValue346
 t167:=Tryz.underlying300
 a167:=Tryz.isAgg300
 z167:=Tryz.sizeOf300
 v167:=Tryz.zeroValue300
 t168:=Tryz.underlying303
 a168:=Tryz.isAgg303
 z168:=Tryz.sizeOf303
 v168:=Tryz.zeroValue303
 t171:=Tryz.underlying278
 a171:=Tryz.isAgg278
 z171:=Tryz.sizeOf278
 v171:=Tryz.zeroValue278
 t173:=Tryz.underlying281
 a173:=Tryz.isAgg281
 z173:=Tryz.sizeOf281
 v173:=Tryz.zeroValue281
 t175:=Tryz.underlying326
 a175:=Tryz.isAgg326
 z175:=Tryz.sizeOf326
 v175:=Tryz.zeroValue326
 t210:=Tryz.underlying329
 a210:=Tryz.isAgg329
 z210:=Tryz.sizeOf329
 v210:=Tryz.zeroValue329
 t212:=Tryz.underlying308
 a212:=Tryz.isAgg308
 z212:=Tryz.sizeOf308
 v212:=Tryz.zeroValue308
 t213:=Tryz.underlying309
 a213:=Tryz.isAgg309
 z213:=Tryz.sizeOf309
 t232:=Tryz.underlying347
 a232:=Tryz.isAgg347
 z232:=Tryz.sizeOf347
 v232:=Tryz.zeroValue347
 t233:=Tryz.underlying348
 a233:=Tryz.isAgg348
 z233:=Tryz.sizeOf348
 v233:=Tryz.zeroValue348
 g15:=by kernel_rfl
 g16:=by kernel_rfl
 g17:=by kernel_rfl
 g18:=by kernel_rfl
 g19:=by kernel_rfl
 t80:=Tryz.underlying122
 a80:=Tryz.isAgg122
 z80:=Tryz.sizeOf122
 v80:=Tryz.zeroValue122
 i0:=by kernel_rfl
 i2:=by kernel_rfl
 i3:=by kernel_rfl
 i4:=by kernel_rfl
 i5:=by kernel_rfl
 i9:=by kernel_rfl
 i20:=by kernel_rfl
 i21:=by kernel_rfl
 i37:=by kernel_rfl
 i46:=by kernel_rfl
 i51:=by kernel_rfl
 i53:=by kernel_rfl
 i75:=by kernel_rfl
 i76:=by kernel_rfl
 i80:=by kernel_rfl
 i85:=by kernel_rfl
 i127:=by kernel_rfl
 i143:=by kernel_rfl
 i145:=by kernel_rfl
 i167:=by kernel_rfl
 i168:=by kernel_rfl
 i171:=by kernel_rfl
 i173:=by kernel_rfl
 i175:=by kernel_rfl
 i210:=by kernel_rfl
 i212:=by kernel_rfl
 i232:=by kernel_rfl
 i233:=by kernel_rfl
 m15:=by kernel_rfl
 m16:=by kernel_rfl
 m17:=by kernel_rfl
 m18:=by kernel_rfl
 m19:=by kernel_rfl
 c0:=by kernel_rfl
 c2:=by kernel_rfl
 c3:=by kernel_rfl
 c4:=by kernel_rfl
 c5:=by kernel_rfl
 c9:=by kernel_rfl
 c20:=by kernel_rfl
 c21:=by kernel_rfl
 c37:=by kernel_rfl
 c46:=by kernel_rfl
 c51:=by kernel_rfl
 c53:=by kernel_rfl
 c75:=by kernel_rfl
 c76:=by kernel_rfl
 c80:=by kernel_rfl
 c85:=by kernel_rfl
 c127:=by kernel_rfl
 c143:=by kernel_rfl
 c145:=by kernel_rfl
 c167:=by kernel_rfl
 c168:=by kernel_rfl
 c171:=by kernel_rfl
 c173:=by kernel_rfl
 c175:=by kernel_rfl
 c210:=by kernel_rfl
 c212:=by kernel_rfl
 c213:=by kernel_rfl
 c232:=by kernel_rfl
 c233:=by kernel_rfl}
open Go.RowKit in
theorem Tryz.strconv_Atoi_ok (s:ByteArray) (hmax:s.size≤9223372036854775806) (v:Int) (h:Lib.atoiAll s.data.toList= .ok v) (w:World):
  Calls Tryz.prog 222 #[.string s] w fun e w'=>e= .returned (.tuple #[.int .i64 v, .nilIface])∧(w'=w∨∃t,w'=Lib.bytesWorld w 5 t):=Any.strconv_Atoi_ok Tryz.laysC172 s hmax v h w
open Go.RowKit in
theorem Tryz.strconv_Atoi_syntax_var (s:ByteArray) (hlim:s.size≤281474976710656) (h:Lib.atoiAll s.data.toList=Lib.NumEnd.syntax) (tp:TypeId) (p:Value) (w:World) (hvar:w.var? Tryz.prog "strconv.ErrSyntax" =some #[.iface tp p]):
  Calls Tryz.prog 222 #[.string s] w fun e w'=>∃N,e= .returned (.tuple #[.int .i64 0, .iface 303 (.pointer (some ⟨N,0,none⟩))])∧w.heap.size≤N∧w'.heap[N]? =some (.cells #[.string ⟨#[65,116,111,105]⟩, .string s, .iface tp p] 329 (0,0))∧Below w.heap.size w w':=Any.strconv_Atoi_syntax_var Tryz.laysC172 s hlim h tp p w hvar
open Go.RowKit in
theorem Tryz.strconv_Atoi_range_var (s:ByteArray) (hlim:s.size≤281474976710656) (h:Lib.atoiAll s.data.toList= .range) (tp:TypeId) (p:Value) (w:World) (hvar:w.var? Tryz.prog "strconv.ErrRange" =some #[.iface tp p]):
  Calls Tryz.prog 222 #[.string s] w fun e w'=>∃N,e= .returned (.tuple #[.int .i64 (Lib.atoiSat s.data.toList), .iface 303 (.pointer (some ⟨N,0,none⟩))])∧w.heap.size≤N∧w'.heap[N]? =some (.cells #[.string ⟨#[65,116,111,105]⟩, .string s, .iface tp p] 329 (0,0))∧Below w.heap.size w w':=Any.strconv_Atoi_range_var Tryz.laysC172 s hlim h tp p w hvar
def Tryz.lays157_ren:Go.Shelf.Ren:=⟨fun | 157=>187 | 229=>210 | 199=>211 | 261=>221 | 311=>232 | 312=>233 | n=>n,fun | 9=>9 | 31=>25 | 3=>3 | 5=>5 | 4=>4 | 119=>235 | 0=>0 | 40=>230 | 152=>256 | 21=>21 | 154=>258 | 51=>243 | 141=>260 | 196=>269 | 193=>266 | 198=>272 | 49=>270 | 194=>267 | 201=>275 | 226=>297 | 46=>298 | 227=>299 | n=>n,fun | 0=>0 | 6=>2 | n=>n⟩
theorem Tryz.lays157:Go.Proofs.Lays.n157 Tryz.prog Tryz.lays157_ren:={
 mixed:=by kernel_rfl
 f157:=Tryz.func187.trans (congrArg some (by kernel_rfl))
 f199:=Tryz.func211.trans (congrArg some (by kernel_rfl))
 f229:=Tryz.func210.trans (congrArg some (by kernel_rfl))
 f261:=Tryz.func221.trans (congrArg some (by kernel_rfl))
 f311:=Tryz.func232.trans (congrArg some (by kernel_rfl))
 f312:=Tryz.func233.trans (congrArg some (by kernel_rfl))
 t0:=Tryz.underlying0
 a0:=Tryz.isAgg0
 z0:=Tryz.sizeOf0
 v0:=Tryz.zeroValue0
 t3:=Tryz.underlying3
 a3:=Tryz.isAgg3
 z3:=Tryz.sizeOf3
 v3:=Tryz.zeroValue3
 t4:=Tryz.underlying4
 a4:=Tryz.isAgg4
 z4:=Tryz.sizeOf4
 v4:=Tryz.zeroValue4
 t5:=Tryz.underlying5
 a5:=Tryz.isAgg5
 z5:=Tryz.sizeOf5
 v5:=Tryz.zeroValue5
 t9:=Tryz.underlying9
 a9:=Tryz.isAgg9
 z9:=Tryz.sizeOf9
 v9:=Tryz.zeroValue9
 t21:=Tryz.underlying21
 a21:=Tryz.isAgg21
 z21:=Tryz.sizeOf21
 v21:=Tryz.zeroValue21
 t31:=Tryz.underlying25
 a31:=Tryz.isAgg25
 z31:=Tryz.sizeOf25
 v31:=Tryz.zeroValue25
 t40:=Tryz.underlying230
 a40:=Tryz.isAgg230
 z40:=Tryz.sizeOf230
 v40:=Tryz.zeroValue230
 t46:=Tryz.underlying298
 a46:=Tryz.isAgg298
 z46:=Tryz.sizeOf298
 v46:=Tryz.zeroValue298
 t49:=Tryz.underlying270
 a49:=Tryz.isAgg270
 z49:=Tryz.sizeOf270
 v49:=Tryz.zeroValue270
 t51:=Tryz.underlying243
 a51:=Tryz.isAgg243
 z51:=Tryz.sizeOf243
 v51:=Tryz.zeroValue243
 t119:=Tryz.underlying235
 a119:=Tryz.isAgg235
 z119:=Tryz.sizeOf235
 t141:=Tryz.underlying260
 a141:=Tryz.isAgg260
 z141:=Tryz.sizeOf260
 v141:=Tryz.zeroValue260
 t152:=Tryz.underlying256
 a152:=Tryz.isAgg256
 z152:=Tryz.sizeOf256
 v152:=Tryz.zeroValue256
 t154:=Tryz.underlying258
 a154:=Tryz.isAgg258
 z154:=Tryz.sizeOf258
 v154:=Tryz.zeroValue258
 t193:=Tryz.underlying266
 a193:=Tryz.isAgg266
 z193:=Tryz.sizeOf266
 v193:=Tryz.zeroValue266
 t194:=Tryz.underlying267
 a194:=Tryz.isAgg267
 z194:=Tryz.sizeOf267
 v194:=Tryz.zeroValue267
 t196:=Tryz.underlying269
 a196:=Tryz.isAgg269
 z196:=Tryz.sizeOf269
 v196:=Tryz.zeroValue269
 t198:=Tryz.underlying272
 a198:=Tryz.isAgg272
 z198:=Tryz.sizeOf272
 v198:=Tryz.zeroValue272
 t201:=Tryz.underlying275
 a201:=Tryz.isAgg275
 z201:=Tryz.sizeOf275
 v201:=Tryz.zeroValue275
 t226:=Tryz.underlying297
 a226:=Tryz.isAgg297
 z226:=Tryz.sizeOf297
 v226:=Tryz.zeroValue297
 t227:=Tryz.underlying299
 a227:=Tryz.isAgg299
 z227:=Tryz.sizeOf299
 v227:=Tryz.zeroValue299
 g0:=by kernel_rfl
 g6:=by kernel_rfl}
open Go.RowKit Go.Lib in
theorem Tryz.strings_Fields (s:ByteArray) (w:World) (hs:s.size<4294967281) (hascii:∀(j:Nat) b,s.data.toList[j]? =some b→b.toNat<128) (htab:Lib.TabIs Tryz.prog w "strings.asciiSpace" .u8 Lib.asciiSpaceTab):
  Calls Tryz.prog 187 #[.string s] w fun e w'=>
   e= .returned (.slice (some ⟨w.heap.size,0,none⟩) (Lib.fields s.data.toList).length (Lib.fields s.data.toList).length)∧w'=w.alloc (.cells ((Lib.fields s.data.toList).map fun l=>Value.string ⟨l.toArray⟩).toArray 9):=Any.strings_Fields Tryz.lays157 (by kernel_rfl) (by kernel_rfl) s w hs hascii htab
end Go.Proofs
end
