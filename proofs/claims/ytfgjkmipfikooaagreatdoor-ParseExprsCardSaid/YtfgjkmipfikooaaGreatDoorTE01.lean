/- GA, GB, GC -/
import Derived.WalkKit
import Derived.OpenShut
import Derived.WalkSpells
import Derived.WalkLawsBesides
import Derived.Maps.AppendAt
import Derived.Deep.AppendLies
import Derived.Deep.Draws
import Derived.Lib.ItoaNum
import Derived.Lib.ItoaMem
import Derived.Lib.AtoiAll
import Derived.Maps.OwnSet
import Derived.ProofKit
import Derived.SliceStrings
import Derived.SizedLaws
import Derived.Deep.RegionLaw
import Derived.Deep.RegionHeld
set_option linter.unusedSimpArgs false
set_option linter.unusedVariables false
namespace Go.Proofs.YtfgjkmipfikooaaGreatDoor
open Go.RowKit
def In64 (n:Int):Prop:= -9223372036854775808<=n∧n<=9223372036854775807
theorem K4 (n:Int):IntKind.u64.wrap n=n % 18446744073709551616:=by
 simp [IntKind.wrap,IntKind.bits,IntKind.signed]
theorem K5 (n:Int):IntKind.i64.wrap n=wrap64 n:=IntWalk.i64_left n
theorem II {n:Int}(h:In64 n):wrap64 n=n:=IntWalk.wrap64_in n h
def zz (n:Int):Nat:=if n<0 then(-2*n - 1).toNat else(2*n).toNat
def Fits (f u:Nat):Prop:=u<18446744073709551616∧u<128 ^ (f+1)
theorem Fits.pos {f u:Nat}(h:Fits f u)(hu:¬u<128):∃g,f=g+1:=by
 cases f with
 |zero=>exact absurd h.2 (by omega)
 |succ g=>exact⟨g,rfl⟩
theorem Fits.next {f u:Nat}(h:Fits (f+1) u):Fits f (u / 128):=by
 obtain⟨h1,h2⟩:=h;refine⟨by omega,?_⟩;rw [Nat.pow_succ]at h2;exact(Nat.div_lt_iff_lt_mul (by decide)).2 h2
def uz (u:Nat):Int:=if u % 2=0 then(u / 2:Nat)else -1 - (u / 2:Nat)
def Q0 (u x k:Nat):Prop:=u<128 ^ k∧x<128∧(k<=8∨k=9∧x<=1)
theorem Q0.lt {u x k:Nat}(h:Q0 u x k):u+x*128 ^ k<18446744073709551616∧u+x*128 ^ k<128 ^ (k+1):=by
 obtain⟨h1,h2,h3⟩:=h;have hk:u+x*128 ^ k<(x+1)*128 ^ k:=by rw [Nat.add_mul];omega
 refine⟨?_,?_⟩
 ·rcases h3 with h3 |⟨rfl,h3⟩
  ·have:(x+1)*128 ^ k<=128*128 ^ 8:=Nat.mul_le_mul (by omega) (Nat.pow_le_pow_right (by decide) h3);have e:128*128 ^ 8<18446744073709551616:=by decide
   omega
  ·have:(x+1)*128 ^ 9<=2*128 ^ 9:=Nat.mul_le_mul (by omega) (Nat.le_refl _);have e:2*128 ^ 9=18446744073709551616:=by decide
   omega
 ·rw [Nat.pow_succ];have:(x+1)*128 ^ k<=128*128 ^ k:=Nat.mul_le_mul (by omega) (Nat.le_refl _);omega
section
variable {l:List UInt8}{k u x:Nat}
end
def bN (p:Prop):Prop:=p
theorem bN.o {p:Prop}(h:bN p):p:=h
theorem aZ {p:Prop}(h:p):bN p:=h
theorem jy {w:World}{B:Nat}(h:B<=w.heap.size)(o:Obj):B<=(w.alloc o).heap.size:=by simp;omega
theorem xC (b off i:Nat):(⟨b,off,none⟩:Addr).add i=⟨b,off+i,none⟩:=by
 unfold Addr.add;split <;> simp_all
def Sl (w:World)(B k:Nat)(v:Value)(xs:List Value):Prop:=
 ∃(A:Option Addr) (n c:Nat),v=.slice A n c∧xs.length=n*k∧n<=c∧c<=maxLen∧
  (0<n->∃b off,A=some ⟨b,off,none⟩∧b<B∧∀(j:Nat) u,xs[j]? =some u->w.cell? ⟨b,off+j,none⟩=some u)
section
variable {w w':World}{B B' k:Nat}{v:Value}{xs:List Value}
theorem Sl.nil (w:World)(B k:Nat):Sl w B k (.slice none 0 0) []:=
 ⟨none,0,0,rfl,by simp,Nat.le_refl _,Nat.zero_le _,fun h=>absurd h (by omega)⟩
theorem Sl.keep (h:Sl w B k v xs)(hk:∀b o,b<B->w'.cell? ⟨b,o,none⟩=w.cell? ⟨b,o,none⟩):Sl w' B k v xs:=by
 obtain⟨A,n,c,hv,hl,hn,hc,hx⟩:=h;refine⟨A,n,c,hv,hl,hn,hc,fun h0=>?_⟩;obtain⟨b,off,hA,hb,hcell⟩:=hx h0;exact⟨b,off,hA,hb,fun j u hu=>(hk _ _ hb).trans (hcell j u hu)⟩
theorem Sl.more (h:Sl w B k v xs)(hB:B<=B'):Sl w B' k v xs:=by
 obtain⟨A,n,c,hv,hl,hn,hc,hx⟩:=h;refine⟨A,n,c,hv,hl,hn,hc,fun h0=>?_⟩;obtain⟨b,off,hA,hb,hcell⟩:=hx h0;exact⟨b,off,hA,by omega,hcell⟩
theorem Sl.below (h:Sl w B k v xs)(hb:Below B w w'):Sl w' B k v xs:=h.keep fun b o hp=>hb.cell (p:=⟨b,o,none⟩) hp
theorem Sl.drew (h:Sl w B k v xs):Sl w.drew B k v xs:=h
theorem Sl.drewN (h:Sl w B k v xs)(n:Nat):Sl (w.drewN n) B k v xs:=h
theorem Sl.alloc (h:Sl w B k v xs)(hB:B<=w.heap.size)(o:Obj):Sl (w.alloc o) B k v xs:=
 h.keep fun b o' hp=>World.cell?_alloc_past _ _ _ (by show b<w.heap.size;omega)
theorem Sl.yQ {base:Nat}{e:TypeId}{n:Nat}(h:w.ownsRow base e k v n xs):Sl w w.heap.size k v xs:=by
 rcases h.2 with⟨rfl,rfl⟩ |⟨g,cap,cur,rfl,hb,hg,hn,hm,hs,htake⟩
 ·exact⟨none,0,0,rfl,h.1,Nat.le_refl _,Nat.zero_le _,fun h=>absurd h (by omega)⟩
 ·refine⟨_,n,cap,rfl,h.1,hn,hm,fun _=>⟨g,0,rfl,(Array.getElem?_eq_some_iff.1 hg).1,fun j u hu=>?_⟩⟩;have:=h.cells (g:=g) rfl j u hu;rwa [xC]at this
theorem Sl.lt (h:Sl w w.heap.size k v xs):Sl w w.heap.size k v xs:=h
end
def ng (P:Program)(t e:TypeId)(z:Value)(size bytes:Nat):Prop:=
 P.underlying t=some (.slice e)∧(P.info? e).map (fun i=>(i.zero,i.size,i.bytes))=some (some z,size,bytes)∧z.cells.size=size∧0<size
theorem EF {w w':World}(h:Below w.heap.size w w')(row:Option Nat):w.grownBy w' row:=
 ⟨h.os,h.tape,h.output,h.size,fun k hk _=>h.block k hk⟩
theorem own_below {w w':World}{base:Nat}{e:TypeId}{size:Nat}{v:Value}{n:Nat}{xs:List Value}(h:w.ownsRow base e size v n xs)(hb:Below w.heap.size w w'):w'.ownsRow base e size v n xs:=
 h.kept (EF hb none) (by cases hv:v.ownBlock <;> simp)
theorem zJ {w:World}{base base':Nat}{e:TypeId}{size:Nat}{v:Value}{n:Nat}{xs:List Value}(h:w.ownsRow base e size v n xs)(hb:base'<=base):w.ownsRow base' e size v n xs:=by
 refine⟨h.1,?_⟩;rcases h.2 with h2 |⟨g,cap,cur,hv,hg,r⟩
 ·exact .inl h2
 ·exact .inr ⟨g,cap,cur,hv,by omega,r⟩
section
variable {P:Program}
theorem Q5 (w:World)(base:Nat){t e ty:TypeId}{z:Value}{size bytes:Nat}(hE:ng P t e z size bytes){v:Value}{n:Nat}{xs:List Value}(hown:w.ownsRow base e size v n xs)
  {B:Nat}{y:Value}{news:List Value}(hy:Sl w B size y news) (h1:∀u∈news,u.oneCell'=true)
  (h63:n*size+news.length<=maxLen) (hbytes:(n*size+news.length)*bytes<=140737488355328) (hbase:base<=w.heap.size):
  ∃v' w' n',(Builtin.append_ #[t,t] ty #[v,y]).run P w=.ok v' w'∧w'.ownsRow base e size v' n' (xs++news)∧w.grownBy w' v.ownBlock∧(v'.ownBlock=v.ownBlock∨v'.ownBlock=some w.heap.size):=by
 obtain⟨ht,hinfo,hzs,hsz⟩:=hE;obtain⟨i,hi,hz,hs,hb⟩:=info_parts hinfo;obtain⟨A,m,c,rfl,hl,hn,hc,hx⟩:=hy;have hnm:n+m<=n*size+news.length:=by
  rw [hl,<-Nat.add_mul];exact Nat.le_mul_of_pos_right _ hsz
 rcases A with _ |ad
 ·have hm:m=0:=by
   rcases Nat.eq_zero_or_pos m with h0 |h0
   ·exact h0
   ·obtain⟨b,off,hA,_⟩:=hx h0;cases hA
  subst hm;obtain rfl:news=[]:=List.eq_nil_of_length_eq_zero (by simpa using hl);refine⟨v,w,n,?_,by simpa using hown,World.grownBy.refl w _,.inl rfl⟩;rcases hown.2 with⟨rfl,rfl⟩ |⟨g,cap,cur,rfl,_,_,hnc,_⟩
  ·simp [Builtin.append_,run_underlying ht,sizeOf,typeInfo,hi,Builtin.lenOf,Builtin.firstCells]
  ·simp [Builtin.append_,run_underlying ht,sizeOf,typeInfo,hi,Builtin.lenOf,Builtin.firstCells,hnc,storeCells]
 ·have hcells:∀j u,news[j]? =some u->w.cell? (ad.add j)=some u:=by
   intro j u hu;have h0:0<m:=by
    rcases Nat.eq_zero_or_pos m with h0 |h0
    ·subst h0;obtain rfl:news=[]:=List.eq_nil_of_length_eq_zero (by simpa using hl);simp at hu
    ·exact h0
   obtain⟨b,off,hA,_,hcell⟩:=hx h0;injection hA with hA;subst hA;rw [xC];exact hcell j u hu
  have hb2:(n+m)*bytes<=140737488355328:=Nat.le_trans (Nat.mul_le_mul_right _ hnm) hbytes;obtain⟨v',w',hrun,h2,h3,_,h5⟩:=run_append_own_at (P:=P) w base t ty e i z size bytes ht hi hz hs hb hzs hsz v n xs hown ad m c news hl hcells h1 (by omega) hb2 hbase;exact⟨v',w',n+m,hrun,h2,h3,h5⟩
theorem eU {w:World}{ops:Array Oper}{rest:List Oper}{o:Oper}{a:Act}{Q:Exit->Act->World->Prop}(hgd:o.guard=none)(s x:Operand)(t:TypeId)
  (ho:o.op=.call { callee:= .builtin .append,args:= #[s,x],argTypes:= #[t,t]})
  (base:Nat) {e:TypeId}{z:Value}{size bytes:Nat}(hE:ng P t e z size bytes) (v y:Value) (hs:a.eval s=v) (hx:a.eval x=y)
  {n:Nat}{xs:List Value}(hown:w.ownsRow base e size v n xs) {B:Nat}{news:List Value}(hy:Sl w B size y news) (h1:∀u∈news,u.oneCell'=true)
  (h63:n*size+news.length<=maxLen) (hbytes:(n*size+news.length)*bytes<=140737488355328) (hbase:base<=w.heap.size)
  (h:∀v' w' n',w'.ownsRow base e size v' n' (xs++news)->w.grownBy w' v.ownBlock->(v'.ownBlock=v.ownBlock∨v'.ownBlock=some w.heap.size)->wpList P ops Q rest (a.put o.dst v') w'):
  wpList P ops Q (o :: rest) a w:=by
 refine wpList_plain hgd fun K hK=>?_;obtain⟨v',w',n',hrun,h2,h3,h4⟩:=Q5 (P:=P) (ty:=o.type) w base hE hown hy h1 h63 hbytes hbase;unfold Oper.wp execOp;simp only [ho,resolve,invoke,builtin,Sem.run_bind,Sem.run_pure,Result.andThen_ok,List.map_toArray,List.map_cons,List.map_nil,hs,hx,hrun];exact hK _ _ (h v' w' n' h2 h3 h4)
end
theorem below_app {B:Nat}{a w w':World}{base:Nat}{e:TypeId}{size:Nat}{v:Value}{n:Nat}{xs:List Value}(h:Below B a w)(hown:w.ownsRow base e size v n xs)(hg:w.grownBy w' v.ownBlock)(hB:B<=base)(hs:B<=w.heap.size):Below B a w':=
 h.grown hg hs fun k hk=>Nat.le_trans hB (hown.lt k hk).1
theorem aP {B:Nat}(w:World)(n:Nat):Below B w (w.drewN n):=⟨rfl,rfl,rfl,Nat.le_refl _,fun _ _=>rfl⟩
theorem V6 {a b c:World}(h:Below a.heap.size a b)(k:Below b.heap.size b c):Below a.heap.size a c:=h.trans (k.mono h.size)
theorem gX (w:World)(cs:Array Value)(t:TypeId)(k n:Nat)(hs:cs.size=n*k)(hn:n<=maxLen):
  Sl (w.alloc (.cells cs t)) (w.heap.size+1) k (.slice (some ⟨w.heap.size,0,none⟩) n n) cs.toList:=by
 refine⟨_,n,n,rfl,by simpa using hs,Nat.le_refl _,hn,fun _=>⟨w.heap.size,0,rfl,by omega,fun j u hu=>?_⟩⟩;rw [cell_of_row _ _ _ cs t (0,0) (heap_alloc_new w _)];simpa using hu
theorem lH (a b:List UInt8):(⟨a.toArray⟩:ByteArray)++⟨b.toArray⟩=⟨(a++b).toArray⟩:=by
 apply ByteArray.ext;rw [ByteArray.data_append];exact List.append_toArray _ _
abbrev sv (l:List UInt8):Value:= .string ⟨l.toArray⟩
theorem IJ (a b:List UInt8):Value.string ((⟨a.toArray⟩:ByteArray)++⟨b.toArray⟩)=sv (a++b):=by rw [lH]
def bv (l:List UInt8):List Value:=l.map fun b=>.int .u8 (b.toNat:Int)
theorem pR (l:List UInt8):(bv l).length=l.length:=by simp [bv]
theorem TK (a b:List UInt8):bv (a++b)=bv a++bv b:=by simp [bv]
theorem agm (l:List UInt8):∀u∈bv l,u.oneCell'=true:=by
 intro u hu;obtain⟨b,_,rfl⟩:=List.mem_map.1 hu;rfl
theorem agn (l:List UInt8)(i:Nat)(h:i<l.length):(bv l)[i]? =some (.int .u8 (l[i].toNat:Int)):=by simp [bv,h]
def Bs (w:World)(B:Nat)(v:Value)(l:List UInt8):Prop:=Sl w B 1 v (bv l)
theorem Bs.open_ {w:World}{B:Nat}{v:Value}{l:List UInt8}(h:Bs w B v l):
  ∃(A:Option Addr) (c:Nat),v=.slice A l.length c∧l.length<=c∧c<=maxLen∧
   (0<l.length->∃b off,A=some ⟨b,off,none⟩∧b<B∧∀(j:Nat) (hj:j<l.length),w.cell? ⟨b,off+j,none⟩=some (.int .u8 (l[j].toNat:Int))):=by
 obtain⟨A,n,c,rfl,hl,hn,hc,hx⟩:=h;obtain rfl:l.length=n:=by rw [<-pR l,hl];omega
 refine⟨A,c,rfl,hn,hc,fun h0=>?_⟩;obtain⟨b,off,hA,hb,hcell⟩:=hx h0;exact⟨b,off,hA,hb,fun j hj=>hcell j _ (agn l j hj)⟩
theorem Bs.jK {w:World}{B:Nat}{A:Option Addr}{n c:Nat}{l:List UInt8}(h:Bs w B (.slice A n c) l){k:Nat}(hk:k<=l.length):Bs w B (.slice A k c) (l.take k):=by
 obtain⟨A',n',c',hv,hl,hn,hc,hx⟩:=h;injection hv with h1 h2 h3;subst h1 h2 h3;rw [pR]at hl;refine⟨A,k,c,rfl,by rw [pR,List.length_take];omega,by omega,hc,fun h0=>?_⟩;obtain⟨b,off,hA,hb,hcell⟩:=hx (by omega);refine⟨b,off,hA,hb,fun j u hu=>hcell j u ?_⟩;unfold bv at hu ⊢;rw [List.map_take,List.getElem?_take]at hu;split at hu
 ·exact hu
 ·cases hu
theorem H7 {P:Program}{w:World}{B:Nat}{v:Value}{l:List UInt8}(h:Bs w B v l)(src e dst:TypeId)(hs:P.underlying src=some (.slice e))(he:P.underlying e=some (.int .u8))(hd:P.underlying dst=some .string):
  (convert src dst v).run P w=.ok (.string ⟨l.toArray⟩) w:=by
 obtain⟨A,c,rfl,hn,hc,hx⟩:=h.open_;by_cases h0:l.length=0
 ·obtain rfl:l=[]:=List.eq_nil_of_length_eq_zero h0;rw [run_convert_bytes_string w src dst e _ _ c hs he hd];cases A with
  |none=>simp [Conv.bytesToString,ByteArray.empty,ByteArray.emptyWithCapacity];rfl
  |some ad=>
   exact(run_bytesToString w ad 0 c [] (run_loadCells_list (P:=P) w ad [] (by simp))).trans rfl
 ·obtain⟨b,off,rfl,hb,hcell⟩:=hx (by omega);rw [run_convert_bytes_arg (P:=P) w src e hs he b off l.length c (l.map fun x=>(x.toNat:Int)) (by simp) (fun i hi=>by rw [hcell i hi];simp [hi]) dst hd];congr 2;simp [strOfNums,Function.comp_def]
def nL (w:World)(base:Nat)(e:TypeId)(v:Value)(l:List UInt8):Prop:=∃n,w.ownsRow base e 1 v n (bv l)
section
variable {w w':World}{base:Nat}{e:TypeId}{v:Value}{l:List UInt8}
theorem nL.nil (w:World)(base:Nat)(e:TypeId):nL w base e (.slice none 0 0) []:=⟨0,World.ownsRow_nil _ _ _ _⟩
theorem nL.bs (h:nL w base e v l):Bs w w.heap.size v l:=by obtain⟨n,h⟩:=h;exact Sl.yQ h
theorem nL.below (h:nL w base e v l)(hb:Below w.heap.size w w'):nL w' base e v l:=by obtain⟨n,h⟩:=h;exact⟨n,own_below h hb⟩
theorem nL.alloc (h:nL w base e v l)(o:Obj):nL (w.alloc o) base e v l:=by obtain⟨n,h⟩:=h;exact⟨n,h.alloc o⟩
theorem nL.drewN (h:nL w base e v l)(k:Nat):nL (w.drewN k) base e v l:=h
theorem nL.drew (h:nL w base e v l):nL w.drew base e v l:=h
theorem nL.EG {base':Nat}(h:nL w base e v l)(hb:base'<=base):nL w base' e v l:=by obtain⟨n,h⟩:=h;exact⟨n,zJ h hb⟩
theorem nL.lt (h:nL w base e v l):∀k,v.ownBlock=some k->base<=k∧k<w.heap.size:=by obtain⟨n,h⟩:=h;exact h.lt
end
theorem Bs.below {w w':World}{B:Nat}{v:Value}{l:List UInt8}(h:Bs w B v l)(hb:Below B w w'):Bs w' B v l:=Sl.below h hb
theorem Bs.alloc {w:World}{B:Nat}{v:Value}{l:List UInt8}(h:Bs w B v l)(hB:B<=w.heap.size)(o:Obj):Bs (w.alloc o) B v l:=Sl.alloc h hB o
theorem Bs.more {w:World}{B B':Nat}{v:Value}{l:List UInt8}(h:Bs w B v l)(hB:B<=B'):Bs w B' v l:=Sl.more h hB
theorem nM {P:Program}{w:World}{ops:Array Oper}{rest:List Oper}{o:Oper}{a:Act}{Q:Exit->Act->World->Prop}(hgd:o.guard=none)(s x:Operand)(t:TypeId)
  (ho:o.op=.call { callee:= .builtin .append,args:= #[s,x],argTypes:= #[t,t]})
  (base:Nat) {e:TypeId}{z:Value}(hE:ng P t e z 1 1) (v y:Value) (hs:a.eval s=v) (hx:a.eval x=y)
  {l:List UInt8}(hown:nL w base e v l) {B:Nat}{m:List UInt8}(hy:Bs w B y m)
  (hlen:l.length+m.length<=140737488355328) (hbase:base<=w.heap.size)
  (h:∀v' w',nL w' base e v' (l++m)->w.grownBy w' v.ownBlock->(v'.ownBlock=v.ownBlock∨v'.ownBlock=some w.heap.size)->wpList P ops Q rest (a.put o.dst v') w'):
  wpList P ops Q (o :: rest) a w:=by
 obtain⟨n,hown⟩:=hown;have hn:n=l.length:=by have:=hown.1;rw [pR]at this;omega
 subst hn
 exact eU hgd s x t ho base hE v y hs hx hown hy (agm _) (by simp only [pR,maxLen];omega) (by rw [pR];omega) hbase
  (fun v' w' n' h1 h2 h3=>h v' w' ⟨n',by rw [TK];exact h1⟩ h2 h3)
theorem pY {B:Nat}{a w w':World}{base:Nat}{e:TypeId}{v:Value}{l:List UInt8}(h:Below B a w)(hown:nL w base e v l)(hg:w.grownBy w' v.ownBlock)(hB:B<=base)(hs:B<=w.heap.size):Below B a w':=
 h.grown hg hs fun k hk=>Nat.le_trans hB (hown.lt k hk).1
theorem EH (w:World)(x:Int)(t:TypeId)(h:0<=x∧x<256):Bs (w.alloc (.cells #[.int .u8 x] t)) (w.heap.size+1) (.slice (some ⟨w.heap.size,0,none⟩) 1 1) [UInt8.ofNat x.toNat]:=by
 have h1:=gX w #[.int .u8 x] t 1 1 rfl (by decide);have e:bv [UInt8.ofNat x.toNat]=[.int .u8 x]:=by
  unfold bv;simp only [List.map_cons,List.map_nil,UInt8.toNat_ofNat'];congr 2;omega
 unfold Bs;rw [e];exact h1
def yB (c:UInt8):Bool:=decide (48<=c.toNat) && decide (c.toNat<=57)
theorem iY {c:UInt8}:yB c=true↔48<=c.toNat∧c.toNat<=57:=by simp [yB]
def Q6 (n:Nat)(c:UInt8):Nat:=10*n+(c.toNat - 48)
def dR (acc:Nat)(l:List UInt8):Nat:=l.foldl Q6 acc
theorem jd (acc:Nat):dR acc []=acc:=by unfold dR;rw [List.foldl_nil]
theorem jm (acc:Nat)(c:UInt8)(r:List UInt8):dR acc (c :: r)=dR (10*acc+(c.toNat - 48)) r:=by
 unfold dR;rw [List.foldl_cons];unfold Q6;exact Eq.refl _
theorem EI (a b:List UInt8)(acc:Nat):dR acc (a++b)=dR (dR acc a) b:=by unfold dR;rw [List.foldl_append]
theorem uF (a:List UInt8)(c:UInt8)(acc:Nat):dR acc (a++[c])=10*dR acc a+(c.toNat - 48):=by
 rw [EI,jm,jd]
theorem yR:∀(l:List UInt8) (acc:Nat),acc*10 ^ l.length<=dR acc l
 | [],acc=>by rw [jd,List.length_nil,Nat.pow_zero,Nat.mul_one];exact Nat.le_refl _
 |c :: r,acc=>by
  rw [jm];have h:=yR r (10*acc+(c.toNat - 48));refine Nat.le_trans ?_ h;have e:acc*10 ^ (c :: r).length=(10*acc)*10 ^ r.length:=by
   rw [List.length_cons,Nat.pow_succ,Nat.mul_comm (10 ^ r.length) 10,<-Nat.mul_assoc,Nat.mul_comm acc 10]
  rw [e];exact Nat.mul_le_mul_right _ (Nat.le_add_right _ _)
theorem EJ:∀(l:List UInt8) (acc:Nat),(∀c∈l,yB c=true)->dR acc l<(acc+1)*10 ^ l.length
 | [],acc,_=>by rw [jd,List.length_nil,Nat.pow_zero,Nat.mul_one];exact Nat.lt_succ_self _
 |c :: r,acc,h=>by
  rw [jm];have hc:=iY.1 (h c (List.mem_cons_self ..));have h1:=EJ r (10*acc+(c.toNat - 48)) (fun x hx=>h x (List.mem_cons_of_mem _ hx));refine Nat.lt_of_lt_of_le h1 ?_;have e:(acc+1)*10 ^ (c :: r).length=(10*(acc+1))*10 ^ r.length:=by
   rw [List.length_cons,Nat.pow_succ,Nat.mul_comm (10 ^ r.length) 10,<-Nat.mul_assoc,Nat.mul_comm (acc+1) 10]
  rw [e];exact Nat.mul_le_mul_right _ (by omega)
def Canon (l:List UInt8):Prop:=l≠[]∧(∀c∈l,yB c=true)∧(l.length=1∨l.head? ≠some 48)
instance (l:List UInt8):Decidable (Canon l):=by unfold Canon;infer_instance
def yS (l:List UInt8):Option Nat:=if Canon l∧dR 0 l<9223372036854775808 then some (dR 0 l)else none
def dx (l:List UInt8):Int ×Bool:=match yS l with |some n=>((n:Int),true) |none=>(0,false)
theorem IK {l:List UInt8}(h:Canon l)(hl:2<=l.length):10 ^ (l.length - 1)<=dR 0 l:=by
 obtain⟨h0,hd,hh⟩:=h;cases l with
 |nil=>exact absurd rfl h0
 |cons c r=>
  have hc:=iY.1 (hd c (List.mem_cons_self ..));have hne:c.toNat≠48:=by
   rcases hh with hh |hh
   ·simp at hh hl;subst hh;simp at hl
   ·intro e;apply hh;simp;exact UInt8.toNat_inj.1 e
  rw [jm];have:=yR r (10*0+(c.toNat - 48));simp only [List.length_cons,Nat.add_sub_cancel]
  calc 10 ^ r.length=1*10 ^ r.length:=by omega
   _<=(10*0+(c.toNat - 48))*10 ^ r.length:=Nat.mul_le_mul_right _ (by omega)
   _<= _:=this
theorem IL {c:UInt8}(h:yB c=true):UInt8.ofNat (48+(c.toNat - 48))=c:=by
 have:=iY.1 h;apply UInt8.toNat_inj.1;rw [UInt8.toNat_ofNat'];omega
theorem TL:∀(n:Nat) (l:List UInt8),l.length=n->Canon l->Lib.decDigits (dR 0 l)=l:=by
 intro n;induction n with
 |zero=>intro l hl h;exact absurd (List.eq_nil_of_length_eq_zero hl) h.1
 |succ n ih=>
  intro l hl h;rcases List.eq_nil_or_concat l with rfl |⟨a,c,rfl⟩
  ·exact absurd rfl h.1
  rw [List.concat_eq_append]at*
  have hc:=h.2.1 c (by simp);have hc2:=iY.1 hc;rw [uF];by_cases ha:a=[]
  ·subst ha;have e0:dR 0 []=0:=jd 0;rw [e0,Nat.mul_zero,Nat.zero_add,Lib.decDigits_one (by omega),IL hc,List.nil_append]
  ·have hal:0<a.length:=List.length_pos_iff.2 ha;have hhead:a.head? ≠some 48:=by
    rcases h.2.2 with h1 |h1
    ·simp at h1;exact absurd h1 ha
    ·intro e;apply h1;cases a with
     |nil=>exact absurd rfl ha
     |cons x r=>simpa using e
   have hca:Canon a:=⟨ha,fun x hx=>h.2.1 x (by simp [hx]),.inr hhead⟩
   have hpos:1<=dR 0 a:=by
    by_cases h2:2<=a.length
    ·have:=IK hca h2;have:0<10 ^ (a.length - 1):=Nat.pow_pos (by decide);omega
    ·cases a with
     |nil=>exact absurd rfl ha
     |cons x r=>
      have hr:r=[]:=List.eq_nil_of_length_eq_zero (by have:(x :: r).length=r.length+1:=rfl;omega);subst hr;have hx:=iY.1 (hca.2.1 x (by simp));have hne:x.toNat≠48:=fun e=>hhead (by simp;exact UInt8.toNat_inj.1 e);rw [jm,jd];omega
   rw [Lib.decDigits,dif_neg (by omega)];have e1:(10*dR 0 a+(c.toNat - 48)) / 10=dR 0 a:=by omega
   have e2:(10*dR 0 a+(c.toNat - 48)) % 10=c.toNat - 48:=by omega
   rw [e1,e2,ih a (by simp at hl;omega) hca,IL hc]
theorem V7 (u:Nat):Canon (Lib.decDigits u)∧dR 0 (Lib.decDigits u)=u∧(1<=u->(Lib.decDigits u).head? ≠some 48):=by
 induction u using Nat.strongRecOn with
 |ind u ih=>
  rw [Lib.decDigits];by_cases h:u<10
  ·rw [dif_pos h];have e:(UInt8.ofNat (48+u)).toNat=48+u:=by rw [UInt8.toNat_ofNat'];omega
   refine⟨⟨by simp,?_,.inl rfl⟩,?_,?_⟩
   ·intro c hc;obtain rfl:c=UInt8.ofNat (48+u):=by simpa using hc
    rw [iY,e];omega
   ·rw [jm,jd,e];omega
   ·intro h1 h2;have:UInt8.ofNat (48+u)=48:=by simpa using h2
    have:=congrArg UInt8.toNat this;rw [e]at this;have h48:(48:UInt8).toNat=48:=rfl;omega
  ·rw [dif_neg h];obtain⟨⟨h0,h1,h2⟩,h3,h4⟩:=ih (u / 10) (by omega);have e:(UInt8.ofNat (48+u % 10)).toNat=48+u % 10:=by rw [UInt8.toNat_ofNat'];omega
   have hh:=h4 (by omega);have hh2:(Lib.decDigits (u / 10)++[UInt8.ofNat (48+u % 10)]).head? ≠some 48:=by
    cases hd:Lib.decDigits (u / 10)with
    |nil=>exact absurd hd h0
    |cons x r=>rw [hd]at hh;simpa using hh
   refine⟨⟨by simp,?_,.inr hh2⟩,?_,fun _=>hh2⟩
   ·intro c hc;rcases List.mem_append.1 hc with hc |hc
    ·exact h1 c hc
    ·obtain rfl:c=UInt8.ofNat (48+u % 10):=by simpa using hc
     rw [iY,e];omega
   ·rw [uF,h3,e];omega
theorem EK {l:List UInt8}{n:Nat}:yS l=some n↔n<9223372036854775808∧l=Lib.decDigits n:=by
 unfold yS;constructor
 ·intro h;split at h
  ·rename_i hc
   injection h with h;subst h;exact⟨hc.2,(TL _ l rfl hc.1).symm⟩
  ·cases h
 ·rintro⟨h,rfl⟩;have:=V7 n;rw [if_pos ⟨this.1,by rw [this.2.1];exact h⟩,this.2.1]
theorem yC:∀(l:List UInt8) (acc:Nat),(∀c∈l,yB c=true)->dR acc l<18446744073709551616->Lib.parseUint10 acc l=.ok (dR acc l)
 | [],acc,_,_=>by rw [jd];rfl
 |c :: r,acc,h,hlt=>by
  have hc:=iY.1 (h c (List.mem_cons_self ..));have hv:dR acc (c :: r)=dR (10*acc+(c.toNat - 48)) r:=jm acc c r;rw [hv]at hlt;have h1:=yR r (10*acc+(c.toNat - 48));have hp:0<10 ^ r.length:=Nat.pow_pos (by decide);have h2:10*acc+(c.toNat - 48)<=(10*acc+(c.toNat - 48))*10 ^ r.length:=Nat.le_mul_of_pos_right _ hp;unfold Lib.parseUint10;rw [if_pos hc,if_neg (by omega),if_neg (by omega),Nat.mul_comm acc 10,hv];exact yC r _ (fun x hx=>h x (List.mem_cons_of_mem _ hx)) hlt
theorem V8 {n:Nat}(h:n<9223372036854775808):Lib.atoiAll (Lib.decDigits n)=.ok (n:Int):=by
 obtain⟨⟨h0,h1,h2⟩,h3,h4⟩:=V7 n;have hp:=yC (Lib.decDigits n) 0 h1 (by rw [h3];omega);rw [h3]at hp;unfold Lib.atoiAll;cases hd:Lib.decDigits n with
 |nil=>exact absurd hd h0
 |cons c r=>
  have hc:=iY.1 (h1 c (by rw [hd];exact List.mem_cons_self ..));rw [hd]at hp;dsimp only;rw [if_neg (show ¬(c.toNat=43∨c.toNat=45)from by omega)];unfold Lib.parseMag;rw [if_neg (by simp),hp];dsimp only;rw [if_neg (by omega),if_neg (by omega),if_neg (by omega)]
theorem Q7 {l:List UInt8}{v:Int}(h:Lib.atoiAll l=.ok v):v<9223372036854775808:=by
 unfold Lib.atoiAll at h;split at h
 ·cases h
 ·rename_i c r
  dsimp only at h;split at h
  ·cases h
  ·cases h
  ·rename_i u hu
   by_cases hn:c.toNat=45
   ·simp only [hn,not_true_eq_false,false_and,if_false,true_and,if_true]at h;split at h
    ·cases h
    ·injection h with h;omega
   ·simp only [hn,not_false_eq_true,true_and,false_and,if_false]at h;split at h
    ·cases h
    ·injection h with h;omega
theorem nJ (l:List UInt8):dx l=(match Lib.atoiAll l with |.ok v=>if v<0∨Lib.itoa v≠l then(0,false)else(v,true) |_=>(0,false)):=by
 unfold dx;cases hp:yS l with
 |some n=>
  obtain⟨hn,rfl⟩:=EK.1 hp;rw [V8 hn];dsimp only;rw [if_neg];rintro(h |h)
  ·omega
  ·exact h (Lib.itoa_nonneg n)
 |none=>
  cases ha:Lib.atoiAll l with
  |ok v=>
   dsimp only;rw [if_pos];by_cases h0:v<0
   ·exact .inl h0
   ·refine .inr fun he=>?_;have hv:=Q7 ha;obtain⟨n,rfl⟩:=Int.eq_ofNat_of_zero_le (show 0<=v by omega);have e:Lib.itoa (n:Int)=Lib.decDigits n:=Lib.itoa_nonneg n;have:=EK.2 ⟨show n<9223372036854775808 by omega,(e.symm.trans he).symm⟩;rw [hp]at this;cases this
  |_=>rfl
theorem uG {l:List UInt8}(h:¬Canon l):dx l=(0,false):=by
 unfold dx yS;rw [if_neg (fun e=>h e.1)]
theorem TM:dx []=(0,false):=uG fun h=>h.1 (Eq.refl _)
theorem OQ {l:List UInt8}(h:19<l.length):dx l=(0,false):=by
 by_cases hc:Canon l
 ·have h1:=IK hc (by omega);have h2:10 ^ 19<=10 ^ (l.length - 1):=Nat.pow_le_pow_right (by decide) (by omega);have e:(10:Nat) ^ 19=10000000000000000000:=by decide
  unfold dx yS;rw [if_neg];intro hh;omega
 ·exact uG hc
theorem OT {l:List UInt8}(h:l.head? =some 48∧1<l.length):dx l=(0,false):=by
 refine uG fun hc=>?_;rcases hc.2.2 with h1 |h1
 ·omega
 ·exact h1 h.1
theorem K6 {l:List UInt8}{k:Nat}(hk:k<l.length)(h:¬yB l[k]=true):dx l=(0,false):=
 uG fun hc=>h (hc.2.1 _ (List.getElem_mem hk))
theorem TN {l:List UInt8}(h0:0<l.length)(h2:¬(l.head? =some 48∧1<l.length))(hd:∀c∈l,yB c=true):
  dx l=if dR 0 l<9223372036854775808 then((dR 0 l:Int),true)else(0,false):=by
 have hc:Canon l:=by
  refine⟨by intro e;rw [e]at h0;exact absurd h0 (by decide),hd,?_⟩;by_cases h1:l.length=1
  ·exact .inl h1
  ·exact .inr fun e=>h2 ⟨e,by omega⟩
 unfold dx yS;by_cases hv:dR 0 l<9223372036854775808
 ·rw [if_pos ⟨hc,hv⟩,if_pos hv]
 ·rw [if_neg (fun e=>hv e.2),if_neg hv]
abbrev Bt:=List UInt8
def dS (c:UInt8):Bool:=(decide (97<=c.toNat) && decide (c.toNat<=122)) || (decide (65<=c.toNat) && decide (c.toNat<=90)) || decide (c.toNat=95)
def bK (c:UInt8):Bool:=decide (48<=c.toNat) && decide (c.toNat<=57)
def bf (c:UInt8):Bool:=dS c || bK c
def bV (c:UInt8):Bool:=decide (c.toNat=32) || decide (c.toNat=9) || decide (c.toNat=10) || decide (c.toNat=13)
def eY (c:UInt8):Bool:= !decide (c.toNat=10)
def dG (p:UInt8->Bool)(s:Bt):Nat:=(s.takeWhile p).length
theorem mq (p:UInt8->Bool)(s:Bt):dG p s<=s.length:=by
 unfold dG;exact(List.takeWhile_sublist p).length_le
theorem gF (p:UInt8->Bool)(c:UInt8)(s:Bt):dG p (c :: s)=if p c then dG p s+1 else 0:=by
 unfold dG;rw [List.takeWhile_cons];split <;> simp
theorem zK {p:UInt8->Bool}{s:Bt}{k:Nat}(hk:k<s.length)(h:∀j (hj:j<k),p (s[j]'(by omega))=true)(hn:p s[k]=false):dG p s=k:=by
 induction s generalizing k with
 |nil=>simp at hk
 |cons c s ih=>
  rw [gF];rcases k with _ |k
  ·rw [if_neg (by simpa using hn)]
  ·have h0:=h 0 (by omega);simp only [List.getElem_cons_zero]at h0;rw [if_pos h0,ih (by simpa using hk) (fun j hj=>by simpa using h (j+1) (by omega)) (by simpa using hn)]
theorem wh {p:UInt8->Bool}{s:Bt}(h:∀j (hj:j<s.length),p s[j]=true):dG p s=s.length:=by
 induction s with
 |nil=>rfl
 |cons c s ih=>
  have h0:=h 0 (by simp);simp only [List.getElem_cons_zero]at h0;rw [gF,if_pos h0,ih (fun j hj=>by have h1:=h (j+1) (by simpa using hj);rw [List.getElem_cons_succ]at h1;exact h1)];rfl
def dJ:Bool->Bt->Nat
 |_,[]=>0
 |false,c :: s=>if bV c then dJ false s+1 else if c.toNat=35 then dJ true s+1 else 0
 |true,c :: s=>if c.toNat=10 then dJ false s+1 else dJ true s+1
def bJ (s:Bt):Nat:=dJ false s
def gG (s:Bt):Nat:=
 dG bV s+(if((s.drop (dG bV s)).head?).map UInt8.toNat=some 35 then dG eY (s.drop (dG bV s))else 0)
theorem zL (q:Bool)(s:Bt):dJ q s<=s.length:=by
 induction s generalizing q with
 |nil=>cases q <;> simp [dJ]
 |cons c s ih=>
  cases q with
  |false=>
   rw [dJ];split
   ·have:=ih false;simp;exact this
   ·split
    ·have:=ih true;simp;exact this
    ·simp
  |true=>
   rw [dJ];split
   ·have:=ih false;simp;exact this
   ·have:=ih true;simp;exact this
theorem OU (s:Bt):dJ false s=dG bV s+dJ false (s.drop (dG bV s)):=by
 induction s with
 |nil=>rfl
 |cons c s ih=>
  rw [gF];by_cases h:bV c=true
  ·rw [if_pos h,dJ,if_pos h,ih,List.drop_succ_cons];omega
  ·rw [if_neg h];simp
theorem TP (s:Bt):dJ true s=dG eY s+dJ false (s.drop (dG eY s)):=by
 induction s with
 |nil=>rfl
 |cons c s ih=>
  rw [gF];by_cases h:c.toNat=10
  ·have hn:eY c=false:=by unfold eY;simp [h]
   have hb:bV c=true:=by unfold bV;simp [h]
   rw [if_neg (by simp [hn]),dJ,if_pos h];show dJ false s+1=0+dJ false (c :: s);rw [dJ,if_pos hb];omega
  ·have hn:eY c=true:=by unfold eY;simp [h]
   rw [if_pos hn,dJ,if_neg h,ih,List.drop_succ_cons];omega
theorem V9 (s:Bt):bJ s=gG s+bJ (s.drop (gG s)):=by
 unfold bJ gG;rw [OU];generalize hr:s.drop (dG bV s)=r;cases r with
 |nil=>simp [dJ,hr]
 |cons c t=>
  simp only [List.head?_cons,Option.map_some,Option.some.injEq];by_cases h:c.toNat=35
  ·rw [if_pos h];have hb:bV c=false:=by unfold bV;simp [h]
   have hn:eY c=true:=by unfold eY;simp [h]
   rw [<-List.drop_drop,hr,dJ,if_neg (by simp [hb]),if_pos h,TP,gF,if_pos hn,List.drop_succ_cons];omega
  ·rw [if_neg h,Nat.add_zero,hr]
theorem TQ {s:Bt}(h:gG s=0):bJ s=0:=by
 have h1:dG bV s=0:=by unfold gG at h;omega
 unfold gG at h;rw [h1]at h;cases s with
 |nil=>rfl
 |cons c t=>
  rw [gF]at h1;have hb:¬bV c=true:=by
   intro hb;rw [if_pos hb]at h1;omega
  unfold bJ;rw [dJ,if_neg hb];simp only [List.drop_zero,List.head?_cons,Option.map_some,Option.some.injEq]at h;by_cases Q8:c.toNat=35
  ·rw [if_pos Q8,gF,if_pos (by unfold eY;simp [Q8])]at h;omega
  ·rw [if_neg Q8]
def rU (p:Nat ×Nat)(c:UInt8):Nat ×Nat:=if c.toNat=10 then(p.1+1,1)else(p.1,p.2+1)
def fK (p:Nat ×Nat)(s:Bt):Nat ×Nat:=s.foldl rU p
theorem wm (p:Nat ×Nat)(a b:Bt):fK p (a++b)=fK (fK p a) b:=by unfold fK;rw [List.foldl_append]
theorem IQ {p:Nat ×Nat}{s:Bt}{k:Nat}(h:k<s.length):fK p (s.take (k+1))=rU (fK p (s.take k)) s[k]:=by
 rw [List.take_succ_eq_append_getElem h,wm];rfl
def wo (c:UInt8):Option UInt8:=if c.toNat=92 then some 92 else if c.toNat=34 then some 34 else if c.toNat=110 then some 10 else if c.toNat=116 then some 9 else none
def dL:Bool->Bt->Nat->Bt->Option (Bt ×Nat)
 |_,_,_,[]=>none
 |back,out,i,c :: s=>
  if c.toNat<32 then none else
  if back then(match wo c with |some e=>dL false (out++[e]) (i+1) s |none=>none)else
  if c.toNat=92 then dL true out (i+1) s else
  if c.toNat=34 then some (out,i+2)else dL false (out++[c]) (i+1) s
def lI (s:Bt):Option (Bt ×Nat):=dL false [] 0 (s.drop 1)
theorem sK {back:Bool}{out:Bt}{i:Nat}{s:Bt}{r:Bt ×Nat}(h:dL back out i s=some r):i+2<=r.2∧r.2<=i+s.length+1∧r.1.length<=out.length+s.length:=by
 induction s generalizing back out i with
 |nil=>cases back <;> simp [dL]at h
 |cons c s ih=>
  rw [dL]at h;split at h
  ·cases h
  ·split at h
   ·split at h
    ·obtain⟨a,b,d⟩:=ih h;simp only [List.length_append,List.length_cons,List.length_nil]at*;omega
    ·cases h
   ·split at h
    ·obtain⟨a,b,d⟩:=ih h;simp only [List.length_append,List.length_cons,List.length_nil]at*;omega
    ·split at h
     ·injection h with h;subst h;simp only [List.length_cons];omega
     ·obtain⟨a,b,d⟩:=ih h;simp only [List.length_append,List.length_cons,List.length_nil]at*;omega
def dY:List Bt:=[[97,110,100],
 [97,110,121],
 [97,115],
 [98,111,111,108],
 [101,108,115,101],
 [101,120,112,111,114,116],
 [102,97,108,115,101],
 [102,110],
 [102,117,110,99,116,105,111,110],
 [105,102],
 [105,109,112,111,114,116],
 [105,110],
 [105,110,116],
 [105,115],
 [108,101,116],
 [110,111,116],
 [110,117,108,108],
 [111,114],
 [112,114,105,110,116],
 [114,101,97,100],
 [114,101,99,111,114,100],
 [115,116,114],
 [116,104,101,110],
 [116,114,117,101],
 [119,105,116,104]]
def cu:List Bt:=[[45,62],[61,62],[60,58],[60,60],[60,61],[62,62],[61,61],[43,43]]
def dZ:Bt:=[40,41,123,125,91,93,44,58,59,61,43,45,42,47,37,38,94,60,124,46]
def eG (s:Bt):Bool:=match s with
 | []=>false
 |c :: r=>decide ((c :: r).length<=32) && dS c && decide (dG bf (c :: r)=(c :: r).length) && !decide ((c :: r)∈dY)
def dV (s:Bt):Int ⊕ (Int ×Bt ×Nat):=
 match s with
 | []=>.inl 5
 |c :: r=>
  if dS c then
   (if 32<dG bf (c :: r)then .inl 2 else if(c :: r).take (dG bf (c :: r))∈dY then .inr (2,(c :: r).take (dG bf (c :: r)),dG bf (c :: r))else .inr (1,(c :: r).take (dG bf (c :: r)),dG bf (c :: r)))
  else if bK c then
   (if(dx ((c :: r).take (dG bK (c :: r)))).2 then .inr (3,(c :: r).take (dG bK (c :: r)),dG bK (c :: r))else .inl 3)
  else if c.toNat=34 then
   (match lI (c :: r)with
    |none=>.inl 4
    |some (t,n)=>if 256<t.length then .inl 2 else .inr (4,t,n))
  else if(c :: r).take 2∈cu then .inr (5,(c :: r).take 2,2)
  else if c∈dZ then .inr (5,[c],1)else .inl 5
structure aI where
 kind:Int
 text:Bt
 line:Nat
 col:Nat
def oF:Nat->Bt->Nat ×Nat->List aI->List aI ×(Nat ×Nat ×Int)
 |0,_,_,_=>([],(0,0,0))
 |f+1,s,p,out=>
  if s.drop (bJ s)=[]then(out++[⟨0,[],(fK p (s.take (bJ s))).1,(fK p (s.take (bJ s))).2⟩],(0,0,0))else
  match dV (s.drop (bJ s))with
  |.inl e=>([],((fK p (s.take (bJ s))).1,(fK p (s.take (bJ s))).2,e))
  |.inr (kd,t,n)=>
   if out.length=8192 then([],((fK p (s.take (bJ s))).1,(fK p (s.take (bJ s))).2,19))else
   oF f ((s.drop (bJ s)).drop n) (fK (fK p (s.take (bJ s))) ((s.drop (bJ s)).take n)) (out++[⟨kd,t,(fK p (s.take (bJ s))).1,(fK p (s.take (bJ s))).2⟩])
def fQ (s:Bt):List aI ×(Nat ×Nat ×Int):=if 65536<s.length then([],(1,1,2))else oF (s.length+1) s (1,1) []
theorem wu {p:UInt8->Bool}{c:UInt8}{s:Bt}(h:p c=true):1<=dG p (c :: s):=by
 rw [gF,if_pos h];omega
theorem zM {s:Bt}{kd:Int}{t:Bt}{n:Nat}(h:dV s=.inr (kd,t,n)):1<=n∧n<=s.length:=by
 cases s with
 |nil=>simp [dV]at h
 |cons c r=>
  rw [dV]at h;split at h
  ·rename_i hl
   have hi:bf c=true:=by unfold bf;rw [hl];rfl
   have h1:=wu (s:=r) hi;have h2:=mq bf (c :: r);split at h
   ·cases h
   ·split at h
    ·injection h with h;simp only [Prod.mk.injEq]at h;omega
    ·injection h with h;simp only [Prod.mk.injEq]at h;omega
  ·split at h
   ·rename_i hd
    have h1:=wu (s:=r) hd;have h2:=mq bK (c :: r);split at h
    ·injection h with h;simp only [Prod.mk.injEq]at h;omega
    ·cases h
   ·split at h
    ·split at h
     ·cases h
     ·rename_i t' n' hq
      have:=sK hq;split at h
      ·cases h
      ·injection h with h;simp only [Prod.mk.injEq]at h;simp only [List.drop_succ_cons,List.drop_zero]at this;simp only [List.length_cons];omega
    ·split at h
     ·rename_i hp
      injection h with h;simp only [Prod.mk.injEq]at h;have h2:((c :: r).take 2).length=2:=by
       have hall:∀m∈cu,m.length=2:=by decide
       exact hall _ hp
      rw [List.length_take]at h2;simp only [List.length_cons]at h2 ⊢;omega
     ·split at h
      ·injection h with h;simp only [Prod.mk.injEq]at h;simp only [List.length_cons];omega
      ·cases h
theorem xD {s:Bt}{e:Int}(h:dV s=.inl e):e≠0:=by
 cases s with
 |nil=>simp [dV]at h;omega
 |cons c r=>
  rw [dV]at h
  repeat' split at h
  all_goals first |(injection h with h;omega) |cases h
theorem TR (p:UInt8->Bool)(s:Bt):dG p (s.take (dG p s))=dG p s:=by
 induction s with
 |nil=>rfl
 |cons c r ih=>
  rw [gF];by_cases h:p c=true
  ·rw [if_pos h,List.take_succ_cons,gF,if_pos h,ih]
  ·rw [if_neg h];rfl
def JK (kd:Int)(t:Bt):Prop:=
 1<=kd∧kd<=5∧(kd=2->t∈dY)∧(kd=1->eG t=true)∧(kd=3->∃c r,t=c :: r∧bK c=true)∧(kd=5->1<=t.length∧t.length<=2)
theorem OV {s:Bt}{kd:Int}{t:Bt}{n:Nat}(h:dV s=.inr (kd,t,n)):JK kd t:=by
 cases s with
 |nil=>simp [dV]at h
 |cons c r=>
  rw [dV]at h;have hle:=mq bf (c :: r);have htk:=TR bf (c :: r);by_cases hl:dS c=true
  ·rw [if_pos hl]at h;have hi:bf c=true:=by unfold bf;rw [hl];rfl
   have hpos:=wu (s:=r) hi;by_cases h32:32<dG bf (c :: r)
   ·rw [if_pos h32]at h;cases h
   ·rw [if_neg h32]at h;by_cases hw:(c :: r).take (dG bf (c :: r))∈dY
    ·rw [if_pos hw]at h;injection h with h;simp only [Prod.mk.injEq]at h;obtain⟨rfl,rfl,_⟩:=h;exact⟨by omega,by omega,fun _=>hw,fun h=>by omega,fun h=>by omega,fun h=>by omega⟩
    ·rw [if_neg hw]at h;injection h with h;simp only [Prod.mk.injEq]at h;obtain⟨rfl,rfl,_⟩:=h;refine⟨by omega,by omega,fun h=>by omega,fun _=>?_,fun h=>by omega,fun h=>by omega⟩;have hlen:((c :: r).take (dG bf (c :: r))).length=dG bf (c :: r):=by rw [List.length_take];omega
     generalize hn:dG bf (c :: r)=m at*
     obtain⟨m',rfl⟩:∃m',m=m'+1:=⟨m - 1,by omega⟩
     rw [List.take_succ_cons]at htk hw hlen ⊢;unfold eG;simp only [Bool.and_eq_true,decide_eq_true_eq,Bool.not_eq_true',decide_eq_false_iff_not];exact⟨⟨⟨by rw [hlen];omega,hl⟩,by rw [htk,hlen]⟩,hw⟩
  ·rw [if_neg hl]at h;by_cases hd:bK c=true
   ·rw [if_pos hd]at h;have hpos:=wu (s:=r) hd;split at h
    ·injection h with h;simp only [Prod.mk.injEq]at h;obtain⟨rfl,rfl,_⟩:=h;refine⟨by omega,by omega,fun h=>by omega,fun h=>by omega,fun _=>?_,fun h=>by omega⟩;obtain⟨m',hm⟩:∃m',dG bK (c :: r)=m'+1:=⟨dG bK (c :: r) - 1,by omega⟩
     rw [hm,List.take_succ_cons];exact⟨_,_,rfl,hd⟩
    ·cases h
   ·rw [if_neg hd]at h;split at h
    ·split at h
     ·cases h
     ·split at h
      ·cases h
      ·injection h with h;simp only [Prod.mk.injEq]at h;obtain⟨rfl,rfl,_⟩:=h;exact⟨by omega,by omega,fun h=>by omega,fun h=>by omega,fun h=>by omega,fun h=>by omega⟩
    ·split at h
     ·rename_i hp
      injection h with h;simp only [Prod.mk.injEq]at h;obtain⟨rfl,rfl,_⟩:=h;have hall:∀m∈cu,m.length=2:=by decide
      have:=hall _ hp;exact⟨by omega,by omega,fun h=>by omega,fun h=>by omega,fun h=>by omega,fun _=>by omega⟩
     ·split at h
      ·injection h with h;simp only [Prod.mk.injEq]at h;obtain⟨rfl,rfl,_⟩:=h;exact⟨by omega,by omega,fun h=>by omega,fun h=>by omega,fun h=>by omega,fun _=>⟨by simp,by simp⟩⟩
      ·cases h
def agp (text:Bt)(a:Nat):Nat ×Nat:=fK (1,1) (text.take a)
inductive Placed (text:Bt):Nat->List aI->Prop where
 |done (a:Nat):a<=text.length->Placed text a [⟨0,[],(agp text text.length).1,(agp text text.length).2⟩]
 |next (a b n:Nat) (t:aI) (l:List aI):a<=b->agp text b=(t.line,t.col)->(t.kind≠4->t.text=(text.drop b).take n)->t.kind≠0->1<=n->b+n<=text.length->Placed text (b+n) l->Placed text a (t :: l)
def before (p q:Nat ×Nat):Prop:=p.1<q.1∨(p.1=q.1∧p.2<q.2)
theorem IU {p:UInt8->Bool}{c:UInt8}(hp:p c=false)(s r:Bt):dG p (s++c :: r)=dG p s:=by
 induction s with
 |nil=>rw [List.nil_append,gF,if_neg (by simp [hp])];rfl
 |cons d s ih=>
  rw [List.cons_append,gF,gF];by_cases h:p d=true
  ·rw [if_pos h,if_pos h,ih]
  ·rw [if_neg h,if_neg h]
theorem CO {c:UInt8}(h:bV c=true):bf c=false∧bK c=false∧dS c=false:=by
 unfold bV at h;simp only [Bool.or_eq_true,decide_eq_true_eq]at h;unfold bf dS bK;simp only [Bool.or_eq_false_iff,Bool.and_eq_false_iff,decide_eq_false_iff_not];omega
theorem K7 {back:Bool}{out:Bt}{i:Nat}{s:Bt}{r:Bt ×Nat}(h:dL back out i s=some r)(x:Bt):dL back out i (s++x)=some r:=by
 induction s generalizing back out i with
 |nil=>cases back <;> simp [dL]at h
 |cons c s ih=>
  rw [dL]at h;rw [List.cons_append,dL];split at h
  ·cases h
  ·rename_i h32
   rw [if_neg h32];split at h
   ·rename_i hb
    rw [if_pos hb];split at h
    ·exact ih h
    ·cases h
   ·rename_i hb
    rw [if_neg hb];split at h
    ·rename_i h92
     rw [if_pos h92];exact ih h
    ·rename_i h92
     rw [if_neg h92];split at h
     ·rename_i CP
      rw [if_pos CP];exact h
     ·rename_i CP
      rw [if_neg CP];exact ih h
theorem BG:∀m∈cu,m.length=2:=by decide
theorem K8 (c d:UInt8)(hd:bV d=true):[c,d] ∉ cu:=by
 intro h;have hall:(cu.all fun m=> !bV (m.getD 1 0))=true:=by decide
 have:=List.all_eq_true.1 hall _ h;simp [hd]at this
theorem OW {s:Bt}{kd:Int}{t:Bt}{n:Nat}{d:UInt8}(x:Bt)(hd:bV d=true)(h:dV s=.inr (kd,t,n)):dV (s++d :: x)=.inr (kd,t,n):=by
 obtain⟨hi,hdg,_⟩:=CO hd;cases s with
 |nil=>simp [dV]at h
 |cons c r=>
  have vV:=mq bf (c :: r);have hrd:=mq bK (c :: r);rw [dV]at h;rw [List.cons_append,dV,<-List.cons_append,IU hi,IU hdg,List.take_append_of_le_length vV,List.take_append_of_le_length hrd];split at h
  ·rename_i hl
   rw [if_pos hl];exact h
  ·rename_i hl
   rw [if_neg hl];split at h
   ·rename_i hg
    rw [if_pos hg];exact h
   ·rename_i hg
    rw [if_neg hg];split at h
    ·rename_i CP
     rw [if_pos CP];split at h
     ·cases h
     ·rename_i t' n' hq
      have hq':lI (c :: r++d :: x)=some (t',n'):=by
       unfold lI at hq ⊢;simp only [List.cons_append,List.drop_succ_cons,List.drop_zero]at hq ⊢;exact K7 hq _
      rw [hq'];exact h
    ·rename_i CP
     rw [if_neg CP];cases r with
     |nil=>
      have h2:¬ [c]∈cu:=fun hm=>by have:=BG _ hm;simp at this
      rw [if_neg (by simpa using h2)]at h;rw [if_neg (show ¬(([c]++d :: x:Bt).take 2∈cu)from K8 c d hd)];exact h
     |cons e r=>exact h
theorem OX {q:Bool}{s:Bt}(h:dJ q s<s.length)(x:Bt):dJ q (s++x)=dJ q s:=by
 induction s generalizing q with
 |nil=>simp at h
 |cons c s ih=>
  rw [List.cons_append];cases q with
  |false=>
   rw [dJ]at h ⊢;rw [dJ];by_cases hb:bV c=true
   ·rw [if_pos hb]at h ⊢;rw [if_pos hb,ih (by simpa using h)]
   ·rw [if_neg hb]at h ⊢;rw [if_neg hb];by_cases Q8:c.toNat=35
    ·rw [if_pos Q8]at h ⊢;rw [if_pos Q8,ih (by simpa using h)]
    ·rw [if_neg Q8,if_neg Q8]
  |true=>
   rw [dJ]at h ⊢;rw [dJ];by_cases h10:c.toNat=10
   ·rw [if_pos h10]at h ⊢;rw [if_pos h10,ih (by simpa using h)]
   ·rw [if_neg h10]at h ⊢;rw [if_neg h10,ih (by simpa using h)]
theorem TS {q:Bool}{s:Bt}(h:s.length<=dJ q s)(d:UInt8)(hd:d.toNat=10)(x:Bt):dJ q (s++d :: x)=s.length+1+bJ x:=by
 have hb:bV d=true:=by unfold bV;simp [hd]
 induction s generalizing q with
 |nil=>
  rw [List.nil_append];unfold bJ;cases q with
  |false=>rw [dJ,if_pos hb];simp;omega
  |true=>rw [dJ,if_pos hd];simp;omega
 |cons c s ih=>
  rw [List.cons_append];cases q with
  |false=>
   rw [dJ]at h ⊢;by_cases hb:bV c=true
   ·rw [if_pos hb]at h ⊢;rw [ih (by simpa using h)];simp;omega
   ·rw [if_neg hb]at h ⊢;by_cases Q8:c.toNat=35
    ·rw [if_pos Q8]at h ⊢;rw [ih (by simpa using h)];simp;omega
    ·rw [if_neg Q8]at h;simp at h
  |true=>
   rw [dJ]at h ⊢;by_cases h10:c.toNat=10
   ·rw [if_pos h10]at h ⊢;rw [ih (by simpa using h)];simp;omega
   ·rw [if_neg h10]at h ⊢;rw [ih (by simpa using h)];simp;omega
theorem IV:∀(f:Nat) (s:Bt) (p:Nat ×Nat) (out:List aI),s.length<f->(oF f s p out).2.2.2=0->
  ∃m e,oF f s p out=(out++m++[e],(0,0,0))∧e.kind=0∧e.text=[]∧m.length<=s.length∧(∀t∈m,JK t.kind t.text)∧
   ∀(d:UInt8) (r:Bt) (F:Nat),d.toNat=10->s.length+1+r.length<F->∃F' q,r.length<F'∧oF F (s++d :: r) p out=oF F' r q (out++m)
 |0,s,p,out,hf,_=>by omega
 |f+1,s,p,out,hf,hok=>by
  have hsk:bJ s<=s.length:=zL false s;rw [oF]at hok ⊢;by_cases hnil:s.drop (bJ s)=[]
  ·rw [if_pos hnil]at hok ⊢;refine⟨[],_,by rw [List.append_nil],rfl,rfl,by simp,by simp,fun d r F hd hF=>⟨F,fK p (s++[d]),by omega,?_⟩⟩;have hall:s.length<=bJ s:=by simpa using hnil
   have e1:bJ (s++d :: r)=s.length+1+bJ r:=TS hall d hd r;obtain⟨F0,rfl⟩:∃F0,F=F0+1:=⟨F - 1,by omega⟩
   have e2:(s++d :: r).drop (s.length+1+bJ r)=r.drop (bJ r):=by
    rw [List.append_cons,<-List.drop_drop,show s.length+1=(s++[d]).length by simp,List.drop_left]
   have e3:(s++d :: r).take (s.length+1+bJ r)=(s++[d])++r.take (bJ r):=by
    rw [List.append_cons,List.take_add,show s.length+1=(s++[d]).length by simp,List.take_left,List.drop_left]
   rw [oF,oF,e1,e2,e3,wm,List.append_nil]
  ·rw [if_neg hnil]at hok ⊢;have hlt:bJ s<s.length:=by
    rcases Nat.lt_or_ge (bJ s) s.length with h |h
    ·exact h
    ·exact absurd (List.drop_eq_nil_of_le h) hnil
   cases hn:dV (s.drop (bJ s))with
   |inl e=>rw [hn]at hok;exact absurd hok (xD hn)
   |inr x=>
    obtain⟨kd,t,n⟩:=x;rw [hn]at hok;simp only at hok ⊢;by_cases h8:out.length=8192
    ·rw [if_pos h8]at hok;exact absurd (show(19:Int)=0 from hok) (by decide)
    ·rw [if_neg h8]at hok ⊢;obtain⟨n1,n2⟩:=zM hn;obtain⟨m,e,h1,h2,h3,h4,h4',h5⟩:=IV f _ _ _ (by simp only [List.length_drop]at n2 ⊢;omega) hok;rw [h1];refine⟨_ :: m,e,by rw [List.append_assoc,List.append_assoc,List.singleton_append,List.append_assoc,List.cons_append],h2,h3,?_,?_,fun d r F hd hF=>?_⟩
     ·simp only [List.length_drop,List.length_cons]at n2 h4 ⊢;omega
     ·intro x hx;rcases List.mem_cons.1 hx with rfl |hx
      ·exact OV hn
      ·exact h4' x hx
     ·obtain⟨F0,rfl⟩:∃F0,F=F0+1:=⟨F - 1,by omega⟩
      have hb:bV d=true:=by unfold bV;simp [hd]
      obtain⟨F',q,hF',h6⟩:=h5 d r F0 hd (by simp only [List.length_drop]at n2 ⊢;omega);refine⟨F',q,hF',?_⟩;have e1:bJ (s++d :: r)=bJ s:=OX hlt _;rw [oF,e1,List.drop_append_of_le_length hsk,List.take_append_of_le_length hsk,if_neg (by simp),OW r hb hn];simp only;rw [if_neg h8,List.drop_append_of_le_length n2,List.take_append_of_le_length n2,h6,List.append_assoc,List.singleton_append]
def agq (t:aI):Int ×Bt:=(t.kind,t.text)
theorem Wd (s:Bt)(h:s.length<=65536):fQ s=oF (s.length+1) s (1,1) []:=by unfold fQ;rw [if_neg (by omega)]
def Wh (c:UInt8):Bt:=if c.toNat=92 then [92,92]else if c.toNat=34 then [92,34]else if c.toNat=10 then [92,110]else if c.toNat=9 then [92,116]else [c]
def JL (t:Bt):Bt:=34 :: (t.flatMap Wh++[34])
def yT (x:Int ×Bt):Bt:=if x.1=4 then JL x.2 else x.2
def Good (x:Int ×Bt):Prop:=dV (yT x)=.inr (x.1,x.2,(yT x).length)
section
def Turn (F:Nat->Prop)(w w':World):Prop:=
 w'.os=w.os∧w'.tape=w.tape∧w'.output=w.output∧w.heap.size<=w'.heap.size∧∀k,k<w.heap.size->¬F k->w'.heap[k]? =w.heap[k]?
section
variable {F G:Nat->Prop}{a b c w w':World}
theorem Turn.refl (F:Nat->Prop)(w:World):Turn F w w:=⟨rfl,rfl,rfl,Nat.le_refl _,fun _ _ _=>rfl⟩
theorem Turn.size (h:Turn F w w'):w.heap.size<=w'.heap.size:=h.2.2.2.1
theorem Turn.block (h:Turn F w w'){k:Nat}(hk:k<w.heap.size)(hF:¬F k):w'.heap[k]? =w.heap[k]? :=h.2.2.2.2 k hk hF
theorem Turn.trans (h:Turn F a b)(k:Turn G b c)(hG:∀i,i<a.heap.size->G i->F i):Turn F a c:=
 ⟨k.1.trans h.1,k.2.1.trans h.2.1,k.2.2.1.trans h.2.2.1,Nat.le_trans h.size k.size,fun i hi hF=>
  (k.block (Nat.lt_of_lt_of_le hi h.size) (fun hg=>hF (hG i hi hg))).trans (h.block hi hF)⟩
theorem Turn.of_below (h:Below w.heap.size w w'):Turn F w w':=⟨h.os,h.tape,h.output,h.size,fun k hk _=>h.block k hk⟩
theorem Turn.bB {row:Option Nat}(h:w.grownBy w' row)(hr:∀k,row=some k->F k):Turn F w w':=
 ⟨h.os,h.tape,h.output,h.size,fun k hk hF=>h.block k hk (fun e=>hF (hr k e.symm))⟩
theorem Turn.below {B:Nat}(h:Turn F w w')(hB:B<=w.heap.size)(hF:∀k,k<B->¬F k):Below B w w':=
 ⟨h.1,h.2.1,h.2.2.1,h.size,fun k hk=>h.block (Nat.lt_of_lt_of_le hk hB) (hF k hk)⟩
theorem Turn.mono (h:Turn F w w')(hF:∀k,k<w.heap.size->F k->G k):Turn G w w':=
 ⟨h.1,h.2.1,h.2.2.1,h.size,fun k hk hG=>h.block hk (fun hf=>hG (hF k hk hf))⟩
theorem Turn.alloc (F:Nat->Prop)(w:World)(o:Obj):Turn F w (w.alloc o):=Turn.bB (World.grownBy_alloc w o none) (by simp)
theorem Turn.drewN (F:Nat->Prop)(w:World)(n:Nat):Turn F w (w.drewN n):=⟨rfl,rfl,rfl,Nat.le_refl _,fun _ _ _=>rfl⟩
theorem Turn.lt (h:Turn F w w'){k:Nat}(hk:k<w.heap.size):k<w'.heap.size:=Nat.lt_of_lt_of_le hk h.size
end
theorem Sl.ajz {w w':World}{B k:Nat}{v:Value}{xs:List Value}(h:Sl w B k v xs)(hk:∀g,v.ownBlock=some g->g<B->w'.heap[g]? =w.heap[g]?):Sl w' B k v xs:=by
 obtain⟨A,n,c,hv,hl,hn,hc,hx⟩:=h;refine⟨A,n,c,hv,hl,hn,hc,fun h0=>?_⟩;obtain⟨b,off,hA,hb,hcell⟩:=hx h0;refine⟨b,off,hA,hb,fun j u hu=>?_⟩;rw [<-hcell j u hu];have h1:=hk b (by subst hv hA;rfl) hb;simp only [World.cell?,h1]
def SlF (w:World)(F:Nat->Prop)(k:Nat)(v:Value)(xs:List Value):Prop:=Sl w w.heap.size k v xs∧∀g,v.ownBlock=some g->F g
section
variable {F G:Nat->Prop}{w w':World}{k:Nat}{v:Value}{xs:List Value}
theorem SlF.turn (h:SlF w F k v xs)(t:Turn G w w')(hd:∀g,F g->¬G g):SlF w' F k v xs:=
 ⟨(h.1.ajz fun g hg hl=>t.block hl (hd g (h.2 g hg))).more t.size,h.2⟩
theorem SlF.mono (h:SlF w F k v xs)(hF:∀g,F g->G g):SlF w G k v xs:=⟨h.1,fun g hg=>hF g (h.2 g hg)⟩
theorem SlF.yQ {base n:Nat}{e:TypeId}(h:w.ownsRow base e k v n xs)(hF:∀g,v.ownBlock=some g->F g):SlF w F k v xs:=⟨Sl.yQ h,hF⟩
end
theorem dN {G:Nat->Prop}{w w':World}{base:Nat}{e:TypeId}{k:Nat}{v:Value}{n:Nat}{xs:List Value}(h:w.ownsRow base e k v n xs)(t:Turn G w w')(hd:∀g,v.ownBlock=some g->¬G g):w'.ownsRow base e k v n xs:=by
 refine⟨h.1,?_⟩;rcases h.2 with h2 |⟨g,cap,cur,hv,hg,hb,r⟩
 ·exact .inl h2
 ·refine .inr ⟨g,cap,cur,hv,hg,?_,r⟩;rw [t.block (Array.getElem?_eq_some_iff.1 hb).1 (hd g (by subst hv;rfl))];exact hb
theorem Wi {H:Type}{P:Program}{k:TypeId}{R:Value->Option (DataW H ×List MemPlace)}{G:Nat->Prop}{w w':World}{b n:Nat}{D:DataW H}(h:w.ownsMap P k R b n D)(t:Turn G w w')(hd:¬G b):w'.ownsMap P k R b n D:=by
 have hlt:=h.lt;obtain⟨es,clock,hb,r⟩:=h;exact⟨es,clock,(t.block hlt hd).trans hb,r⟩
theorem ah {G:Nat->Prop}{w w':World}{b:Nat}{o:Obj}(h:w.heap[b]? =some o)(t:Turn G w w')(hd:¬G b):w'.heap[b]? =some o:=
 (t.block (Array.getElem?_eq_some_iff.1 h).1 hd).trans h
theorem block_lt {w:World}{b:Nat}{o:Obj}(h:w.heap[b]? =some o):b<w.heap.size:=(Array.getElem?_eq_some_iff.1 h).1
theorem iM {w:World}{base:Nat}{e:TypeId}{k:Nat}{v:Value}{n:Nat}{xs:List Value}(h:w.ownsRow base e k v n xs)(h0:0<n):
  ∃g c,v=.slice (some ⟨g,0,none⟩) n c∧base<=g∧g<w.heap.size∧n<=c∧c<=maxLen:=by
 rcases h.2 with⟨_,h0⟩ |⟨g,cap,cur,hv,hb,hg,hc,hm,_⟩
 ·omega
 ·exact⟨g,cap,hv,hb,block_lt hg,hc,hm⟩
def pU (l:List (List UInt8)):List Value:=l.map sv
theorem eX (l:List (List UInt8)):(pU l).length=l.length:=by simp [pU]
theorem ni (a b:List (List UInt8)):pU (a++b)=pU a++pU b:=by simp [pU]
theorem xE (l:List (List UInt8)):∀u∈pU l,u.oneCell'=true:=by
 intro u hu;obtain⟨b,_,rfl⟩:=List.mem_map.1 hu;rfl
theorem Ef (l:List (List UInt8))(i:Nat)(h:i<l.length):(pU l)[i]? =some (sv l[i]):=by simp [pU,h]
def Ss (w:World)(B:Nat)(v:Value)(l:List (List UInt8)):Prop:=Sl w B 1 v (pU l)
theorem Ss.open_ {w:World}{B:Nat}{v:Value}{l:List (List UInt8)}(h:Ss w B v l):
  ∃(A:Option Addr) (c:Nat),v=.slice A l.length c∧l.length<=c∧c<=maxLen∧
   (0<l.length->∃b off,A=some ⟨b,off,none⟩∧b<B∧∀(j:Nat) (hj:j<l.length),w.cell? ⟨b,off+j,none⟩=some (sv l[j])):=by
 obtain⟨A,n,c,rfl,hl,hn,hc,hx⟩:=h;obtain rfl:l.length=n:=by rw [<-eX l,hl];omega
 refine⟨A,c,rfl,hn,hc,fun h0=>?_⟩;obtain⟨b,off,hA,hb,hcell⟩:=hx h0;exact⟨b,off,hA,hb,fun j hj=>hcell j _ (Ef l j hj)⟩
theorem Ss.below {w w':World}{B:Nat}{v:Value}{l:List (List UInt8)}(h:Ss w B v l)(hb:Below B w w'):Ss w' B v l:=Sl.below h hb
theorem Ss.alloc {w:World}{B:Nat}{v:Value}{l:List (List UInt8)}(h:Ss w B v l)(hB:B<=w.heap.size)(o:Obj):Ss (w.alloc o) B v l:=Sl.alloc h hB o
theorem Ss.more {w:World}{B B':Nat}{v:Value}{l:List (List UInt8)}(h:Ss w B v l)(hB:B<=B'):Ss w B' v l:=Sl.more h hB
def gZ (w:World)(base:Nat)(e:TypeId)(v:Value)(l:List (List UInt8)):Prop:=∃n,w.ownsRow base e 1 v n (pU l)
section
variable {w w':World}{base:Nat}{e:TypeId}{v:Value}{l:List (List UInt8)}
theorem gZ.nil (w:World)(base:Nat)(e:TypeId):gZ w base e (.slice none 0 0) []:=⟨0,World.ownsRow_nil _ _ _ _⟩
theorem gZ.ss (h:gZ w base e v l):Ss w w.heap.size v l:=by obtain⟨n,h⟩:=h;exact Sl.yQ h
theorem gZ.below (h:gZ w base e v l)(hb:Below w.heap.size w w'):gZ w' base e v l:=by obtain⟨n,h⟩:=h;exact⟨n,own_below h hb⟩
theorem gZ.alloc (h:gZ w base e v l)(o:Obj):gZ (w.alloc o) base e v l:=by obtain⟨n,h⟩:=h;exact⟨n,h.alloc o⟩
theorem gZ.drewN (h:gZ w base e v l)(k:Nat):gZ (w.drewN k) base e v l:=h
theorem gZ.EG {base':Nat}(h:gZ w base e v l)(hb:base'<=base):gZ w base' e v l:=by obtain⟨n,h⟩:=h;exact⟨n,zJ h hb⟩
theorem gZ.lt (h:gZ w base e v l):∀k,v.ownBlock=some k->base<=k∧k<w.heap.size:=by obtain⟨n,h⟩:=h;exact h.lt
theorem gZ.turn {G:Nat->Prop}(h:gZ w base e v l)(t:Turn G w w')(hd:∀g,v.ownBlock=some g->¬G g):gZ w' base e v l:=by obtain⟨n,h⟩:=h;exact⟨n,dN h t hd⟩
theorem gZ.row (h:gZ w base e v l):w.ownsRow base e 1 v l.length (pU l):=by
 obtain⟨n,h⟩:=h;have hn:n=l.length:=by have:=h.1;rw [eX]at this;omega
 subst hn;exact h
end
theorem yU (w:World)(x:List UInt8)(t:TypeId):Ss (w.alloc (.cells #[sv x] t)) (w.heap.size+1) (.slice (some ⟨w.heap.size,0,none⟩) 1 1) [x]:=
 gX w #[sv x] t 1 1 rfl (by decide)
theorem ak (w:World)(b i:Nat)(v:Value):Turn (fun k=>k=b) w (w.setCell ⟨b,i,none⟩ v):=
 ⟨rfl,rfl,rfl,by simp,fun k _ hF=>heap_setCell_other w _ k v hF⟩
open Go.ChangeShapes Go.WideShapes Go.ChangeAt Go.RowKit
section
variable {H:Type}{enc:TypeId ×Value->H}{P:Program}{W:World}
end
open Go.ChangeShapes Go.WideShapes Go.ChangeAt Go.RowKit
section
variable {H:Type}{enc:TypeId ×Value->H}{P:Program}{W:World}
end
theorem fT {P:Program}{ops:Array Oper}{o:Oper}{a:Act}{w:World}{K:Act->World->Prop}{Q:Exit->Act->World->Prop}{E:Prop}(hgd:o.guard=none)(s x:Operand)(t:TypeId)
  (ho:o.op=.call { callee:= .builtin .append,args:= #[s,x],argTypes:= #[t,t]})
  (base:Nat) {e:TypeId}{z:Value}{size bytes:Nat}(hE:ng P t e z size bytes) (v y:Value) (hs:a.eval s=v) (hx:a.eval x=y)
  {n:Nat}{xs:List Value}(hown:w.ownsRow base e size v n xs) {B:Nat}{news:List Value}(hy:Sl w B size y news) (h1:∀u∈news,u.oneCell'=true)
  (h63:n*size+news.length<=maxLen) (hbytes:(n*size+news.length)*bytes<=140737488355328) (hbase:base<=w.heap.size)
  (h:∀v' w' n',w'.ownsRow base e size v' n' (xs++news)->w.grownBy w' v.ownBlock->(v'.ownBlock=v.ownBlock∨v'.ownBlock=some w.heap.size)->K (a.put o.dst v') w'):
  if Region.wanted o (yielded ops a.tmps)=true then Oper.wp P o a w K Q else E:=by
 have hw:Region.wanted o (yielded ops a.tmps)=true:=by simp [Region.wanted,hgd]
 rw [if_pos hw];obtain⟨v',w',n',hrun,h2,h3,h4⟩:=Q5 (P:=P) (ty:=o.type) w base hE hown hy h1 h63 hbytes hbase;unfold Oper.wp execOp;simp only [ho,resolve,invoke,builtin,Sem.run_bind,Sem.run_pure,Result.andThen_ok,List.map_toArray,List.map_cons,List.map_nil,hs,hx,hrun];exact h v' w' n' h2 h3 h4
end
end Go.Proofs.YtfgjkmipfikooaaGreatDoor
