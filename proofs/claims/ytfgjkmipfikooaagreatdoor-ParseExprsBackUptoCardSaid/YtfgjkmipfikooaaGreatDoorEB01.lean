/- GA, GB, GC -/
import Derived.OpenShut
import Derived.WalkSpells
import Derived.WalkLawsBesides
import Derived.Deep.AppendLies
import Derived.Lib.ItoaMem
import Derived.Lib.AtoiAll
import Derived.ProofKit
import Derived.Deep.RegionLaw
import Derived.Deep.RegionHeld
set_option linter.unusedSimpArgs false
set_option linter.unusedVariables false
namespace Go.Proofs.YtfgjkmipfikooaaGreatDoor
open Go.RowKit
def In64 (n:Int):Prop:= -9223372036854775808<=n∧n<=9223372036854775807
theorem Tx {n:Int}(h:(Lit.int .i64 n).wf=true):In64 n:=by
 exact bounds_i64 h
theorem GA (n:Int):IntKind.i64.wrap n=wrap64 n:=IntWalk.i64_left n
theorem Eu {n:Int}(h:In64 n):wrap64 n=n:=IntWalk.wrap64_in n h
def Fits (f u:Nat):Prop:=u<18446744073709551616∧u<128 ^ (f+1)
theorem Fits.pos {f u:Nat}(h:Fits f u)(hu:¬u<128):∃g,f=g+1:=by
 cases f with
 |zero=>exact absurd h.2 (by omega)
 |succ g=>exact⟨g,rfl⟩
theorem Fits.next {f u:Nat}(h:Fits (f+1) u):Fits f (u / 128):=by
 obtain⟨h1,h2⟩:=h;refine⟨by omega,?_⟩;rw [Nat.pow_succ]at h2;exact(Nat.div_lt_iff_lt_mul (by decide)).2 h2
def uz (u:Nat):Int:=if u % 2=0 then(u / 2:Nat)else -1 - (u / 2:Nat)
def LW (u x k:Nat):Prop:=u<128 ^ k∧x<128∧(k<=8∨k=9∧x<=1)
theorem LW.lt {u x k:Nat}(h:LW u x k):u+x*128 ^ k<18446744073709551616∧u+x*128 ^ k<128 ^ (k+1):=by
 obtain⟨h1,h2,h3⟩:=h;have hk:u+x*128 ^ k<(x+1)*128 ^ k:=by rw [Nat.add_mul];omega
 refine⟨?_,?_⟩
 ·rcases h3 with h3 |⟨rfl,h3⟩
  ·have:(x+1)*128 ^ k<=128*128 ^ 8:=Nat.mul_le_mul (by omega) (Nat.pow_le_pow_right (by decide) h3);have e:128*128 ^ 8<18446744073709551616:=by decide
   omega
  ·have:(x+1)*128 ^ 9<=2*128 ^ 9:=Nat.mul_le_mul (by omega) (Nat.le_refl _);have e:2*128 ^ 9=18446744073709551616:=by decide
   omega
 ·rw [Nat.pow_succ];have:(x+1)*128 ^ k<=128*128 ^ k:=Nat.mul_le_mul (by omega) (Nat.le_refl _);omega
section
variable {l:List UInt8}{k u x:Nat}
end
def bR (p:Prop):Prop:=p
theorem bR.o {p:Prop}(h:bR p):p:=h
theorem aZ {p:Prop}(h:p):bR p:=h
theorem iZ {w:World}{B:Nat}(h:B<=w.heap.size)(o:Obj):B<=(w.alloc o).heap.size:=by simp;omega
theorem jv (b off i:Nat):(⟨b,off,none⟩:Addr).add i=⟨b,off+i,none⟩:=by
 unfold Addr.add;split <;> simp_all
def Sl (w:World)(B k:Nat)(v:Value)(xs:List Value):Prop:=
 ∃(A:Option Addr) (n c:Nat),v=.slice A n c∧xs.length=n*k∧n<=c∧c<=maxLen∧
  (0<n->∃b off,A=some ⟨b,off,none⟩∧b<B∧∀(j:Nat) u,xs[j]? =some u->w.cell? ⟨b,off+j,none⟩=some u)
section
variable {w w':World}{B B' k:Nat}{v:Value}{xs:List Value}
theorem Sl.nil (w:World)(B k:Nat):Sl w B k (.slice none 0 0) []:=
 ⟨none,0,0,rfl,by simp,Nat.le_refl _,Nat.zero_le _,fun h=>absurd h (by omega)⟩
theorem Sl.keep (h:Sl w B k v xs)(hk:∀b o,b<B->w'.cell? ⟨b,o,none⟩=w.cell? ⟨b,o,none⟩):Sl w' B k v xs:=by
 obtain⟨A,n,c,hv,hl,hn,hc,hx⟩:=h;refine⟨A,n,c,hv,hl,hn,hc,fun h0=>?_⟩;obtain⟨b,off,hA,hb,hcell⟩:=hx h0;exact⟨b,off,hA,hb,fun j u hu=>(hk _ _ hb).trans (hcell j u hu)⟩
theorem Sl.more (h:Sl w B k v xs)(hB:B<=B'):Sl w B' k v xs:=by
 obtain⟨A,n,c,hv,hl,hn,hc,hx⟩:=h;refine⟨A,n,c,hv,hl,hn,hc,fun h0=>?_⟩;obtain⟨b,off,hA,hb,hcell⟩:=hx h0;exact⟨b,off,hA,by omega,hcell⟩
theorem Sl.below (h:Sl w B k v xs)(hb:Below B w w'):Sl w' B k v xs:=h.keep fun b o hp=>hb.cell (p:=⟨b,o,none⟩) hp
theorem Sl.drew (h:Sl w B k v xs):Sl w.drew B k v xs:=h
theorem Sl.drewN (h:Sl w B k v xs)(n:Nat):Sl (w.drewN n) B k v xs:=h
theorem Sl.alloc (h:Sl w B k v xs)(hB:B<=w.heap.size)(o:Obj):Sl (w.alloc o) B k v xs:=
 h.keep fun b o' hp=>World.cell?_alloc_past _ _ _ (by show b<w.heap.size;omega)
theorem Sl.wh {base:Nat}{e:TypeId}{n:Nat}(h:w.ownsRow base e k v n xs):Sl w w.heap.size k v xs:=by
 rcases h.2 with⟨rfl,rfl⟩ |⟨g,cap,cur,rfl,hb,hg,hn,hm,hs,htake⟩
 ·exact⟨none,0,0,rfl,h.1,Nat.le_refl _,Nat.zero_le _,fun h=>absurd h (by omega)⟩
 ·refine⟨_,n,cap,rfl,h.1,hn,hm,fun _=>⟨g,0,rfl,(Array.getElem?_eq_some_iff.1 hg).1,fun j u hu=>?_⟩⟩;have:=h.cells (g:=g) rfl j u hu;rwa [jv]at this
theorem Sl.lt (h:Sl w w.heap.size k v xs):Sl w w.heap.size k v xs:=h
end
def ku (P:Program)(t e:TypeId)(z:Value)(size bytes:Nat):Prop:=
 P.underlying t=some (.slice e)∧(P.info? e).map (fun i=>(i.zero,i.size,i.bytes))=some (some z,size,bytes)∧z.cells.size=size∧0<size
theorem BQ {w w':World}(h:w.grownBy w' none):Below w.heap.size w w':=
 ⟨h.os,h.tape,h.output,h.size,fun k hk=>h.block k hk (by simp)⟩
theorem BR {w w':World}(h:Below w.heap.size w w')(row:Option Nat):w.grownBy w' row:=
 ⟨h.os,h.tape,h.output,h.size,fun k hk _=>h.block k hk⟩
theorem own_below {w w':World}{base:Nat}{e:TypeId}{size:Nat}{v:Value}{n:Nat}{xs:List Value}(h:w.ownsRow base e size v n xs)(hb:Below w.heap.size w w'):w'.ownsRow base e size v n xs:=
 h.kept (BR hb none) (by cases hv:v.ownBlock <;> simp)
section
variable {P:Program}
theorem LX (w:World)(base:Nat){t e ty:TypeId}{z:Value}{size bytes:Nat}(hE:ku P t e z size bytes){v:Value}{n:Nat}{xs:List Value}(hown:w.ownsRow base e size v n xs)
  {B:Nat}{y:Value}{news:List Value}(hy:Sl w B size y news) (h1:∀u∈news,u.oneCell'=true)
  (h63:n*size+news.length<=maxLen) (hbytes:(n*size+news.length)*bytes<=140737488355328) (hbase:base<=w.heap.size):
  ∃v' w' n',(Builtin.append_ #[t,t] ty #[v,y]).run P w=.ok v' w'∧w'.ownsRow base e size v' n' (xs++news)∧w.grownBy w' v.ownBlock∧(v'.ownBlock=v.ownBlock∨v'.ownBlock=some w.heap.size):=by
 obtain⟨ht,hinfo,hzs,hsz⟩:=hE;obtain⟨i,hi,hz,hs,hb⟩:=info_parts hinfo;obtain⟨A,m,c,rfl,hl,hn,hc,hx⟩:=hy;have hnm:n+m<=n*size+news.length:=by
  rw [hl,<-Nat.add_mul];exact Nat.le_mul_of_pos_right _ hsz
 rcases A with _ |ad
 ·have hm:m=0:=by
   rcases Nat.eq_zero_or_pos m with h0 |h0
   ·exact h0
   ·obtain⟨b,off,hA,_⟩:=hx h0;cases hA
  subst hm;obtain rfl:news=[]:=List.eq_nil_of_length_eq_zero (by simpa using hl);refine⟨v,w,n,?_,by simpa using hown,World.grownBy.refl w _,.inl rfl⟩;rcases hown.2 with⟨rfl,rfl⟩ |⟨g,cap,cur,rfl,_,_,hnc,_⟩
  ·simp [Builtin.append_,run_underlying ht,sizeOf,typeInfo,hi,Builtin.lenOf,Builtin.firstCells]
  ·simp [Builtin.append_,run_underlying ht,sizeOf,typeInfo,hi,Builtin.lenOf,Builtin.firstCells,hnc,storeCells]
 ·have hcells:∀j u,news[j]? =some u->w.cell? (ad.add j)=some u:=by
   intro j u hu;have h0:0<m:=by
    rcases Nat.eq_zero_or_pos m with h0 |h0
    ·subst h0;obtain rfl:news=[]:=List.eq_nil_of_length_eq_zero (by simpa using hl);simp at hu
    ·exact h0
   obtain⟨b,off,hA,_,hcell⟩:=hx h0;injection hA with hA;subst hA;rw [jv];exact hcell j u hu
  have hb2:(n+m)*bytes<=140737488355328:=Nat.le_trans (Nat.mul_le_mul_right _ hnm) hbytes;obtain⟨v',w',hrun,h2,h3,_,h5⟩:=run_append_own_at (P:=P) w base t ty e i z size bytes ht hi hz hs hb hzs hsz v n xs hown ad m c news hl hcells h1 (by omega) hb2 hbase;exact⟨v',w',n+m,hrun,h2,h3,h5⟩
theorem jh {w:World}{ops:Array Oper}{rest:List Oper}{o:Oper}{a:Act}{Q:Exit->Act->World->Prop}(hgd:o.guard=none)(s x:Operand)(t:TypeId)
  (ho:o.op=.call { callee:= .builtin .append,args:= #[s,x],argTypes:= #[t,t]})
  (base:Nat) {e:TypeId}{z:Value}{size bytes:Nat}(hE:ku P t e z size bytes) (v y:Value) (hs:a.eval s=v) (hx:a.eval x=y)
  {n:Nat}{xs:List Value}(hown:w.ownsRow base e size v n xs) {B:Nat}{news:List Value}(hy:Sl w B size y news) (h1:∀u∈news,u.oneCell'=true)
  (h63:n*size+news.length<=maxLen) (hbytes:(n*size+news.length)*bytes<=140737488355328) (hbase:base<=w.heap.size)
  (h:∀v' w' n',w'.ownsRow base e size v' n' (xs++news)->w.grownBy w' v.ownBlock->(v'.ownBlock=v.ownBlock∨v'.ownBlock=some w.heap.size)->wpList P ops Q rest (a.put o.dst v') w'):
  wpList P ops Q (o :: rest) a w:=by
 refine wpList_plain hgd fun K hK=>?_;obtain⟨v',w',n',hrun,h2,h3,h4⟩:=LX (P:=P) (ty:=o.type) w base hE hown hy h1 h63 hbytes hbase;unfold Oper.wp execOp;simp only [ho,resolve,invoke,builtin,Sem.run_bind,Sem.run_pure,Result.andThen_ok,List.map_toArray,List.map_cons,List.map_nil,hs,hx,hrun];exact hK _ _ (h v' w' n' h2 h3 h4)
end
theorem below_app {B:Nat}{a w w':World}{base:Nat}{e:TypeId}{size:Nat}{v:Value}{n:Nat}{xs:List Value}(h:Below B a w)(hown:w.ownsRow base e size v n xs)(hg:w.grownBy w' v.ownBlock)(hB:B<=base)(hs:B<=w.heap.size):Below B a w':=
 h.grown hg hs fun k hk=>Nat.le_trans hB (hown.lt k hk).1
theorem aH {B:Nat}(w:World)(n:Nat):Below B w (w.drewN n):=⟨rfl,rfl,rfl,Nat.le_refl _,fun _ _=>rfl⟩
theorem U6 {a b c:World}(h:Below a.heap.size a b)(k:Below b.heap.size b c):Below a.heap.size a c:=h.trans (k.mono h.size)
theorem iB (w:World)(cs:Array Value)(t:TypeId)(k n:Nat)(hs:cs.size=n*k)(hn:n<=maxLen):
  Sl (w.alloc (.cells cs t)) (w.heap.size+1) k (.slice (some ⟨w.heap.size,0,none⟩) n n) cs.toList:=by
 refine⟨_,n,n,rfl,by simpa using hs,Nat.le_refl _,hn,fun _=>⟨w.heap.size,0,rfl,by omega,fun j u hu=>?_⟩⟩;rw [cell_of_row _ _ _ cs t (0,0) (heap_alloc_new w _)];simpa using hu
theorem aF (a b:List UInt8):(⟨a.toArray⟩:ByteArray)++⟨b.toArray⟩=⟨(a++b).toArray⟩:=by
 apply ByteArray.ext;rw [ByteArray.data_append];exact List.append_toArray _ _
abbrev sv (l:List UInt8):Value:= .string ⟨l.toArray⟩
def bv (l:List UInt8):List Value:=l.map fun b=>.int .u8 (b.toNat:Int)
theorem mD (l:List UInt8):(bv l).length=l.length:=by simp [bv]
theorem qV (a b:List UInt8):bv (a++b)=bv a++bv b:=by simp [bv]
theorem V4 (l:List UInt8):∀u∈bv l,u.oneCell'=true:=by
 intro u hu;obtain⟨b,_,rfl⟩:=List.mem_map.1 hu;rfl
theorem V5 (l:List UInt8)(i:Nat)(h:i<l.length):(bv l)[i]? =some (.int .u8 (l[i].toNat:Int)):=by simp [bv,h]
def Bs (w:World)(B:Nat)(v:Value)(l:List UInt8):Prop:=Sl w B 1 v (bv l)
theorem Bs.open_ {w:World}{B:Nat}{v:Value}{l:List UInt8}(h:Bs w B v l):
  ∃(A:Option Addr) (c:Nat),v=.slice A l.length c∧l.length<=c∧c<=maxLen∧
   (0<l.length->∃b off,A=some ⟨b,off,none⟩∧b<B∧∀(j:Nat) (hj:j<l.length),w.cell? ⟨b,off+j,none⟩=some (.int .u8 (l[j].toNat:Int))):=by
 obtain⟨A,n,c,rfl,hl,hn,hc,hx⟩:=h;obtain rfl:l.length=n:=by rw [<-mD l,hl];omega
 refine⟨A,c,rfl,hn,hc,fun h0=>?_⟩;obtain⟨b,off,hA,hb,hcell⟩:=hx h0;exact⟨b,off,hA,hb,fun j hj=>hcell j _ (V5 l j hj)⟩
theorem Bs.jZ {w:World}{B:Nat}{A:Option Addr}{n c:Nat}{l:List UInt8}(h:Bs w B (.slice A n c) l){k:Nat}(hk:k<=l.length):Bs w B (.slice A k c) (l.take k):=by
 obtain⟨A',n',c',hv,hl,hn,hc,hx⟩:=h;injection hv with h1 h2 h3;subst h1 h2 h3;rw [mD]at hl;refine⟨A,k,c,rfl,by rw [mD,List.length_take];omega,by omega,hc,fun h0=>?_⟩;obtain⟨b,off,hA,hb,hcell⟩:=hx (by omega);refine⟨b,off,hA,hb,fun j u hu=>hcell j u ?_⟩;unfold bv at hu ⊢;rw [List.map_take,List.getElem?_take]at hu;split at hu
 ·exact hu
 ·cases hu
theorem mK {P:Program}{w:World}{B:Nat}{v:Value}{l:List UInt8}(h:Bs w B v l)(src e dst:TypeId)(hs:P.underlying src=some (.slice e))(he:P.underlying e=some (.int .u8))(hd:P.underlying dst=some .string):
  (convert src dst v).run P w=.ok (.string ⟨l.toArray⟩) w:=by
 obtain⟨A,c,rfl,hn,hc,hx⟩:=h.open_;by_cases h0:l.length=0
 ·obtain rfl:l=[]:=List.eq_nil_of_length_eq_zero h0;rw [run_convert_bytes_string w src dst e _ _ c hs he hd];cases A with
  |none=>simp [Conv.bytesToString,ByteArray.empty,ByteArray.emptyWithCapacity];rfl
  |some ad=>
   exact(run_bytesToString w ad 0 c [] (run_loadCells_list (P:=P) w ad [] (by simp))).trans rfl
 ·obtain⟨b,off,rfl,hb,hcell⟩:=hx (by omega);rw [run_convert_bytes_arg (P:=P) w src e hs he b off l.length c (l.map fun x=>(x.toNat:Int)) (by simp) (fun i hi=>by rw [hcell i hi];simp [hi]) dst hd];congr 2;simp [strOfNums,Function.comp_def]
def oN (w:World)(base:Nat)(e:TypeId)(v:Value)(l:List UInt8):Prop:=∃n,w.ownsRow base e 1 v n (bv l)
section
variable {w w':World}{base:Nat}{e:TypeId}{v:Value}{l:List UInt8}
theorem oN.nil (w:World)(base:Nat)(e:TypeId):oN w base e (.slice none 0 0) []:=⟨0,World.ownsRow_nil _ _ _ _⟩
theorem oN.bs (h:oN w base e v l):Bs w w.heap.size v l:=by obtain⟨n,h⟩:=h;exact Sl.wh h
theorem oN.below (h:oN w base e v l)(hb:Below w.heap.size w w'):oN w' base e v l:=by obtain⟨n,h⟩:=h;exact⟨n,own_below h hb⟩
theorem oN.alloc (h:oN w base e v l)(o:Obj):oN (w.alloc o) base e v l:=by obtain⟨n,h⟩:=h;exact⟨n,h.alloc o⟩
theorem oN.drewN (h:oN w base e v l)(k:Nat):oN (w.drewN k) base e v l:=h
theorem oN.drew (h:oN w base e v l):oN w.drew base e v l:=h
theorem oN.lt (h:oN w base e v l):∀k,v.ownBlock=some k->base<=k∧k<w.heap.size:=by obtain⟨n,h⟩:=h;exact h.lt
end
theorem Bs.below {w w':World}{B:Nat}{v:Value}{l:List UInt8}(h:Bs w B v l)(hb:Below B w w'):Bs w' B v l:=Sl.below h hb
theorem Bs.alloc {w:World}{B:Nat}{v:Value}{l:List UInt8}(h:Bs w B v l)(hB:B<=w.heap.size)(o:Obj):Bs (w.alloc o) B v l:=Sl.alloc h hB o
theorem Bs.more {w:World}{B B':Nat}{v:Value}{l:List UInt8}(h:Bs w B v l)(hB:B<=B'):Bs w B' v l:=Sl.more h hB
theorem mV {P:Program}{w:World}{ops:Array Oper}{rest:List Oper}{o:Oper}{a:Act}{Q:Exit->Act->World->Prop}(hgd:o.guard=none)(s x:Operand)(t:TypeId)
  (ho:o.op=.call { callee:= .builtin .append,args:= #[s,x],argTypes:= #[t,t]})
  (base:Nat) {e:TypeId}{z:Value}(hE:ku P t e z 1 1) (v y:Value) (hs:a.eval s=v) (hx:a.eval x=y)
  {l:List UInt8}(hown:oN w base e v l) {B:Nat}{m:List UInt8}(hy:Bs w B y m)
  (hlen:l.length+m.length<=140737488355328) (hbase:base<=w.heap.size)
  (h:∀v' w',oN w' base e v' (l++m)->w.grownBy w' v.ownBlock->(v'.ownBlock=v.ownBlock∨v'.ownBlock=some w.heap.size)->wpList P ops Q rest (a.put o.dst v') w'):
  wpList P ops Q (o :: rest) a w:=by
 obtain⟨n,hown⟩:=hown;have hn:n=l.length:=by have:=hown.1;rw [mD]at this;omega
 subst hn
 exact jh hgd s x t ho base hE v y hs hx hown hy (V4 _) (by simp only [mD,maxLen];omega) (by rw [mD];omega) hbase
  (fun v' w' n' h1 h2 h3=>h v' w' ⟨n',by rw [qV];exact h1⟩ h2 h3)
theorem oO {B:Nat}{a w w':World}{base:Nat}{e:TypeId}{v:Value}{l:List UInt8}(h:Below B a w)(hown:oN w base e v l)(hg:w.grownBy w' v.ownBlock)(hB:B<=base)(hs:B<=w.heap.size):Below B a w':=
 h.grown hg hs fun k hk=>Nat.le_trans hB (hown.lt k hk).1
theorem yN (w:World)(x:Int)(t:TypeId)(h:0<=x∧x<256):Bs (w.alloc (.cells #[.int .u8 x] t)) (w.heap.size+1) (.slice (some ⟨w.heap.size,0,none⟩) 1 1) [UInt8.ofNat x.toNat]:=by
 have h1:=iB w #[.int .u8 x] t 1 1 rfl (by decide);have e:bv [UInt8.ofNat x.toNat]=[.int .u8 x]:=by
  unfold bv;simp only [List.map_cons,List.map_nil,UInt8.toNat_ofNat'];congr 2;omega
 unfold Bs;rw [e];exact h1
def GD (c:UInt8):Bool:=decide (48<=c.toNat) && decide (c.toNat<=57)
theorem lS {c:UInt8}:GD c=true↔48<=c.toNat∧c.toNat<=57:=by simp [GD]
def LY (n:Nat)(c:UInt8):Nat:=10*n+(c.toNat - 48)
def fB (acc:Nat)(l:List UInt8):Nat:=l.foldl LY acc
theorem lT (acc:Nat):fB acc []=acc:=by unfold fB;rw [List.foldl_nil]
theorem kH (acc:Nat)(c:UInt8)(r:List UInt8):fB acc (c :: r)=fB (10*acc+(c.toNat - 48)) r:=by
 unfold fB;rw [List.foldl_cons];unfold LY;exact Eq.refl _
theorem BS (a b:List UInt8)(acc:Nat):fB acc (a++b)=fB (fB acc a) b:=by unfold fB;rw [List.foldl_append]
theorem xD (a:List UInt8)(c:UInt8)(acc:Nat):fB acc (a++[c])=10*fB acc a+(c.toNat - 48):=by
 rw [BS,kH,lT]
theorem wm:∀(l:List UInt8) (acc:Nat),acc*10 ^ l.length<=fB acc l
 | [],acc=>by rw [lT,List.length_nil,Nat.pow_zero,Nat.mul_one];exact Nat.le_refl _
 |c :: r,acc=>by
  rw [kH];have h:=wm r (10*acc+(c.toNat - 48));refine Nat.le_trans ?_ h;have e:acc*10 ^ (c :: r).length=(10*acc)*10 ^ r.length:=by
   rw [List.length_cons,Nat.pow_succ,Nat.mul_comm (10 ^ r.length) 10,<-Nat.mul_assoc,Nat.mul_comm acc 10]
  rw [e];exact Nat.mul_le_mul_right _ (Nat.le_add_right _ _)
def Canon (l:List UInt8):Prop:=l≠[]∧(∀c∈l,GD c=true)∧(l.length=1∨l.head? ≠some 48)
instance (l:List UInt8):Decidable (Canon l):=by unfold Canon;infer_instance
def yO (l:List UInt8):Option Nat:=if Canon l∧fB 0 l<9223372036854775808 then some (fB 0 l)else none
def fP (l:List UInt8):Int ×Bool:=match yO l with |some n=>((n:Int),true) |none=>(0,false)
theorem M6 {l:List UInt8}(h:Canon l)(hl:2<=l.length):10 ^ (l.length - 1)<=fB 0 l:=by
 obtain⟨h0,hd,hh⟩:=h;cases l with
 |nil=>exact absurd rfl h0
 |cons c r=>
  have hc:=lS.1 (hd c (List.mem_cons_self ..));have hne:c.toNat≠48:=by
   rcases hh with hh |hh
   ·simp at hh hl;subst hh;simp at hl
   ·intro e;apply hh;simp;exact UInt8.toNat_inj.1 e
  rw [kH];have:=wm r (10*0+(c.toNat - 48));simp only [List.length_cons,Nat.add_sub_cancel]
  calc 10 ^ r.length=1*10 ^ r.length:=by omega
   _<=(10*0+(c.toNat - 48))*10 ^ r.length:=Nat.mul_le_mul_right _ (by omega)
   _<= _:=this
theorem Ev {c:UInt8}(h:GD c=true):UInt8.ofNat (48+(c.toNat - 48))=c:=by
 have:=lS.1 h;apply UInt8.toNat_inj.1;rw [UInt8.toNat_ofNat'];omega
theorem M7:∀(n:Nat) (l:List UInt8),l.length=n->Canon l->Lib.decDigits (fB 0 l)=l:=by
 intro n;induction n with
 |zero=>intro l hl h;exact absurd (List.eq_nil_of_length_eq_zero hl) h.1
 |succ n ih=>
  intro l hl h;rcases List.eq_nil_or_concat l with rfl |⟨a,c,rfl⟩
  ·exact absurd rfl h.1
  rw [List.concat_eq_append]at*
  have hc:=h.2.1 c (by simp);have hc2:=lS.1 hc;rw [xD];by_cases ha:a=[]
  ·subst ha;have e0:fB 0 []=0:=lT 0;rw [e0,Nat.mul_zero,Nat.zero_add,Lib.decDigits_one (by omega),Ev hc,List.nil_append]
  ·have hal:0<a.length:=List.length_pos_iff.2 ha;have hhead:a.head? ≠some 48:=by
    rcases h.2.2 with h1 |h1
    ·simp at h1;exact absurd h1 ha
    ·intro e;apply h1;cases a with
     |nil=>exact absurd rfl ha
     |cons x r=>simpa using e
   have hca:Canon a:=⟨ha,fun x hx=>h.2.1 x (by simp [hx]),.inr hhead⟩
   have hpos:1<=fB 0 a:=by
    by_cases h2:2<=a.length
    ·have:=M6 hca h2;have:0<10 ^ (a.length - 1):=Nat.pow_pos (by decide);omega
    ·cases a with
     |nil=>exact absurd rfl ha
     |cons x r=>
      have hr:r=[]:=List.eq_nil_of_length_eq_zero (by have:(x :: r).length=r.length+1:=rfl;omega);subst hr;have hx:=lS.1 (hca.2.1 x (by simp));have hne:x.toNat≠48:=fun e=>hhead (by simp;exact UInt8.toNat_inj.1 e);rw [kH,lT];omega
   rw [Lib.decDigits,dif_neg (by omega)];have e1:(10*fB 0 a+(c.toNat - 48)) / 10=fB 0 a:=by omega
   have e2:(10*fB 0 a+(c.toNat - 48)) % 10=c.toNat - 48:=by omega
   rw [e1,e2,ih a (by simp at hl;omega) hca,Ev hc]
theorem JY (u:Nat):Canon (Lib.decDigits u)∧fB 0 (Lib.decDigits u)=u∧(1<=u->(Lib.decDigits u).head? ≠some 48):=by
 induction u using Nat.strongRecOn with
 |ind u ih=>
  rw [Lib.decDigits];by_cases h:u<10
  ·rw [dif_pos h];have e:(UInt8.ofNat (48+u)).toNat=48+u:=by rw [UInt8.toNat_ofNat'];omega
   refine⟨⟨by simp,?_,.inl rfl⟩,?_,?_⟩
   ·intro c hc;obtain rfl:c=UInt8.ofNat (48+u):=by simpa using hc
    rw [lS,e];omega
   ·rw [kH,lT,e];omega
   ·intro h1 h2;have:UInt8.ofNat (48+u)=48:=by simpa using h2
    have:=congrArg UInt8.toNat this;rw [e]at this;have h48:(48:UInt8).toNat=48:=rfl;omega
  ·rw [dif_neg h];obtain⟨⟨h0,h1,h2⟩,h3,h4⟩:=ih (u / 10) (by omega);have e:(UInt8.ofNat (48+u % 10)).toNat=48+u % 10:=by rw [UInt8.toNat_ofNat'];omega
   have hh:=h4 (by omega);have hh2:(Lib.decDigits (u / 10)++[UInt8.ofNat (48+u % 10)]).head? ≠some 48:=by
    cases hd:Lib.decDigits (u / 10)with
    |nil=>exact absurd hd h0
    |cons x r=>rw [hd]at hh;simpa using hh
   refine⟨⟨by simp,?_,.inr hh2⟩,?_,fun _=>hh2⟩
   ·intro c hc;rcases List.mem_append.1 hc with hc |hc
    ·exact h1 c hc
    ·obtain rfl:c=UInt8.ofNat (48+u % 10):=by simpa using hc
     rw [lS,e];omega
   ·rw [xD,h3,e];omega
theorem rX {l:List UInt8}{n:Nat}:yO l=some n↔n<9223372036854775808∧l=Lib.decDigits n:=by
 unfold yO;constructor
 ·intro h;split at h
  ·rename_i hc
   injection h with h;subst h;exact⟨hc.2,(M7 _ l rfl hc.1).symm⟩
  ·cases h
 ·rintro⟨h,rfl⟩;have:=JY n;rw [if_pos ⟨this.1,by rw [this.2.1];exact h⟩,this.2.1]
theorem vS:∀(l:List UInt8) (acc:Nat),(∀c∈l,GD c=true)->fB acc l<18446744073709551616->Lib.parseUint10 acc l=.ok (fB acc l)
 | [],acc,_,_=>by rw [lT];rfl
 |c :: r,acc,h,hlt=>by
  have hc:=lS.1 (h c (List.mem_cons_self ..));have hv:fB acc (c :: r)=fB (10*acc+(c.toNat - 48)) r:=kH acc c r;rw [hv]at hlt;have h1:=wm r (10*acc+(c.toNat - 48));have hp:0<10 ^ r.length:=Nat.pow_pos (by decide);have h2:10*acc+(c.toNat - 48)<=(10*acc+(c.toNat - 48))*10 ^ r.length:=Nat.le_mul_of_pos_right _ hp;unfold Lib.parseUint10;rw [if_pos hc,if_neg (by omega),if_neg (by omega),Nat.mul_comm acc 10,hv];exact vS r _ (fun x hx=>h x (List.mem_cons_of_mem _ hx)) hlt
theorem Pj {n:Nat}(h:n<9223372036854775808):Lib.atoiAll (Lib.decDigits n)=.ok (n:Int):=by
 obtain⟨⟨h0,h1,h2⟩,h3,h4⟩:=JY n;have hp:=vS (Lib.decDigits n) 0 h1 (by rw [h3];omega);rw [h3]at hp;unfold Lib.atoiAll;cases hd:Lib.decDigits n with
 |nil=>exact absurd hd h0
 |cons c r=>
  have hc:=lS.1 (h1 c (by rw [hd];exact List.mem_cons_self ..));rw [hd]at hp;dsimp only;rw [if_neg (show ¬(c.toNat=43∨c.toNat=45)from by omega)];unfold Lib.parseMag;rw [if_neg (by simp),hp];dsimp only;rw [if_neg (by omega),if_neg (by omega),if_neg (by omega)]
theorem LZ {l:List UInt8}{v:Int}(h:Lib.atoiAll l=.ok v):v<9223372036854775808:=by
 unfold Lib.atoiAll at h;split at h
 ·cases h
 ·rename_i c r
  dsimp only at h;split at h
  ·cases h
  ·cases h
  ·rename_i u hu
   by_cases hn:c.toNat=45
   ·simp only [hn,not_true_eq_false,false_and,if_false,true_and,if_true]at h;split at h
    ·cases h
    ·injection h with h;omega
   ·simp only [hn,not_false_eq_true,true_and,false_and,if_false]at h;split at h
    ·cases h
    ·injection h with h;omega
theorem mM (l:List UInt8):fP l=(match Lib.atoiAll l with |.ok v=>if v<0∨Lib.itoa v≠l then(0,false)else(v,true) |_=>(0,false)):=by
 unfold fP;cases hp:yO l with
 |some n=>
  obtain⟨hn,rfl⟩:=rX.1 hp;rw [Pj hn];dsimp only;rw [if_neg];rintro(h |h)
  ·omega
  ·exact h (Lib.itoa_nonneg n)
 |none=>
  cases ha:Lib.atoiAll l with
  |ok v=>
   dsimp only;rw [if_pos];by_cases h0:v<0
   ·exact .inl h0
   ·refine .inr fun he=>?_;have hv:=LZ ha;obtain⟨n,rfl⟩:=Int.eq_ofNat_of_zero_le (show 0<=v by omega);have e:Lib.itoa (n:Int)=Lib.decDigits n:=Lib.itoa_nonneg n;have:=rX.2 ⟨show n<9223372036854775808 by omega,(e.symm.trans he).symm⟩;rw [hp]at this;cases this
  |_=>rfl
abbrev Bt:=List UInt8
def gD (c:UInt8):Bool:=(decide (97<=c.toNat) && decide (c.toNat<=122)) || (decide (65<=c.toNat) && decide (c.toNat<=90)) || decide (c.toNat=95)
def dD (c:UInt8):Bool:=decide (48<=c.toNat) && decide (c.toNat<=57)
def bE (c:UInt8):Bool:=gD c || dD c
def cB (c:UInt8):Bool:=decide (c.toNat=32) || decide (c.toNat=9) || decide (c.toNat=10) || decide (c.toNat=13)
def fC (c:UInt8):Bool:= !decide (c.toNat=10)
def dQ (p:UInt8->Bool)(s:Bt):Nat:=(s.takeWhile p).length
theorem kI (p:UInt8->Bool)(s:Bt):dQ p s<=s.length:=by
 unfold dQ;exact(List.takeWhile_sublist p).length_le
theorem iK (p:UInt8->Bool)(c:UInt8)(s:Bt):dQ p (c :: s)=if p c then dQ p s+1 else 0:=by
 unfold dQ;rw [List.takeWhile_cons];split <;> simp
theorem Br {p:UInt8->Bool}{s:Bt}{k:Nat}(hk:k<s.length)(h:∀j (hj:j<k),p (s[j]'(by omega))=true)(hn:p s[k]=false):dQ p s=k:=by
 induction s generalizing k with
 |nil=>simp at hk
 |cons c s ih=>
  rw [iK];rcases k with _ |k
  ·rw [if_neg (by simpa using hn)]
  ·have h0:=h 0 (by omega);simp only [List.getElem_cons_zero]at h0;rw [if_pos h0,ih (by simpa using hk) (fun j hj=>by simpa using h (j+1) (by omega)) (by simpa using hn)]
theorem tZ {p:UInt8->Bool}{s:Bt}(h:∀j (hj:j<s.length),p s[j]=true):dQ p s=s.length:=by
 induction s with
 |nil=>rfl
 |cons c s ih=>
  have h0:=h 0 (by simp);simp only [List.getElem_cons_zero]at h0;rw [iK,if_pos h0,ih (fun j hj=>by have h1:=h (j+1) (by simpa using hj);rw [List.getElem_cons_succ]at h1;exact h1)];rfl
def gy:Bool->Bt->Nat
 |_,[]=>0
 |false,c :: s=>if cB c then gy false s+1 else if c.toNat=35 then gy true s+1 else 0
 |true,c :: s=>if c.toNat=10 then gy false s+1 else gy true s+1
def bB (s:Bt):Nat:=gy false s
def gU (s:Bt):Nat:=
 dQ cB s+(if((s.drop (dQ cB s)).head?).map UInt8.toNat=some 35 then dQ fC (s.drop (dQ cB s))else 0)
theorem BU (q:Bool)(s:Bt):gy q s<=s.length:=by
 induction s generalizing q with
 |nil=>cases q <;> simp [gy]
 |cons c s ih=>
  cases q with
  |false=>
   rw [gy];split
   ·have:=ih false;simp;exact this
   ·split
    ·have:=ih true;simp;exact this
    ·simp
  |true=>
   rw [gy];split
   ·have:=ih false;simp;exact this
   ·have:=ih true;simp;exact this
theorem JZ (s:Bt):gy false s=dQ cB s+gy false (s.drop (dQ cB s)):=by
 induction s with
 |nil=>rfl
 |cons c s ih=>
  rw [iK];by_cases h:cB c=true
  ·rw [if_pos h,gy,if_pos h,ih,List.drop_succ_cons];omega
  ·rw [if_neg h];simp
theorem M8 (s:Bt):gy true s=dQ fC s+gy false (s.drop (dQ fC s)):=by
 induction s with
 |nil=>rfl
 |cons c s ih=>
  rw [iK];by_cases h:c.toNat=10
  ·have hn:fC c=false:=by unfold fC;simp [h]
   have hb:cB c=true:=by unfold cB;simp [h]
   rw [if_neg (by simp [hn]),gy,if_pos h];show gy false s+1=0+gy false (c :: s);rw [gy,if_pos hb];omega
  ·have hn:fC c=true:=by unfold fC;simp [h]
   rw [if_pos hn,gy,if_neg h,ih,List.drop_succ_cons];omega
theorem Pm (s:Bt):bB s=gU s+bB (s.drop (gU s)):=by
 unfold bB gU;rw [JZ];generalize hr:s.drop (dQ cB s)=r;cases r with
 |nil=>simp [gy,hr]
 |cons c t=>
  simp only [List.head?_cons,Option.map_some,Option.some.injEq];by_cases h:c.toNat=35
  ·rw [if_pos h];have hb:cB c=false:=by unfold cB;simp [h]
   have hn:fC c=true:=by unfold fC;simp [h]
   rw [<-List.drop_drop,hr,gy,if_neg (by simp [hb]),if_pos h,M8,iK,if_pos hn,List.drop_succ_cons];omega
  ·rw [if_neg h,Nat.add_zero,hr]
theorem M9 {s:Bt}(h:gU s=0):bB s=0:=by
 have h1:dQ cB s=0:=by unfold gU at h;omega
 unfold gU at h;rw [h1]at h;cases s with
 |nil=>rfl
 |cons c t=>
  rw [iK]at h1;have hb:¬cB c=true:=by
   intro hb;rw [if_pos hb]at h1;omega
  unfold bB;rw [gy,if_neg hb];simp only [List.drop_zero,List.head?_cons,Option.map_some,Option.some.injEq]at h;by_cases Po:c.toNat=35
  ·rw [if_pos Po,iK,if_pos (by unfold fC;simp [Po])]at h;omega
  ·rw [if_neg Po]
def tL (p:Nat ×Nat)(c:UInt8):Nat ×Nat:=if c.toNat=10 then(p.1+1,1)else(p.1,p.2+1)
def gF (p:Nat ×Nat)(s:Bt):Nat ×Nat:=s.foldl tL p
theorem uf (p:Nat ×Nat)(a b:Bt):gF p (a++b)=gF (gF p a) b:=by unfold gF;rw [List.foldl_append]
theorem Na {p:Nat ×Nat}{s:Bt}{k:Nat}(h:k<s.length):gF p (s.take (k+1))=tL (gF p (s.take k)) s[k]:=by
 rw [List.take_succ_eq_append_getElem h,uf];rfl
def GH (c:UInt8):Option UInt8:=if c.toNat=92 then some 92 else if c.toNat=34 then some 34 else if c.toNat=110 then some 10 else if c.toNat=116 then some 9 else none
def gH:Bool->Bt->Nat->Bt->Option (Bt ×Nat)
 |_,_,_,[]=>none
 |back,out,i,c :: s=>
  if c.toNat<32 then none else
  if back then(match GH c with |some e=>gH false (out++[e]) (i+1) s |none=>none)else
  if c.toNat=92 then gH true out (i+1) s else
  if c.toNat=34 then some (out,i+2)else gH false (out++[c]) (i+1) s
def nN (s:Bt):Option (Bt ×Nat):=gH false [] 0 (s.drop 1)
theorem Ew {back:Bool}{out:Bt}{i:Nat}{s:Bt}{r:Bt ×Nat}(h:gH back out i s=some r):i+2<=r.2∧r.2<=i+s.length+1∧r.1.length<=out.length+s.length:=by
 induction s generalizing back out i with
 |nil=>cases back <;> simp [gH]at h
 |cons c s ih=>
  rw [gH]at h;split at h
  ·cases h
  ·split at h
   ·split at h
    ·obtain⟨a,b,d⟩:=ih h;simp only [List.length_append,List.length_cons,List.length_nil]at*;omega
    ·cases h
   ·split at h
    ·obtain⟨a,b,d⟩:=ih h;simp only [List.length_append,List.length_cons,List.length_nil]at*;omega
    ·split at h
     ·injection h with h;subst h;simp only [List.length_cons];omega
     ·obtain⟨a,b,d⟩:=ih h;simp only [List.length_append,List.length_cons,List.length_nil]at*;omega
def fQ:List Bt:=[[97,110,100],
 [97,110,121],
 [97,115],
 [98,111,111,108],
 [101,108,115,101],
 [101,120,112,111,114,116],
 [102,97,108,115,101],
 [102,110],
 [102,117,110,99,116,105,111,110],
 [105,102],
 [105,109,112,111,114,116],
 [105,110],
 [105,110,116],
 [105,115],
 [108,101,116],
 [110,111,116],
 [110,117,108,108],
 [111,114],
 [112,114,105,110,116],
 [114,101,97,100],
 [114,101,99,111,114,100],
 [115,116,114],
 [116,104,101,110],
 [116,114,117,101],
 [119,105,116,104]]
def dw:List Bt:=[[45,62],[61,62],[60,58],[60,60],[60,61],[62,62],[61,61],[43,43]]
def fD:Bt:=[40,41,123,125,91,93,44,58,59,61,43,45,42,47,37,38,94,60,124,46]
def dM (s:Bt):Bool:=match s with
 | []=>false
 |c :: r=>decide ((c :: r).length<=32) && gD c && decide (dQ bE (c :: r)=(c :: r).length) && !decide ((c :: r)∈fQ)
def fu (s:Bt):Int ⊕ (Int ×Bt ×Nat):=
 match s with
 | []=>.inl 5
 |c :: r=>
  if gD c then
   (if 32<dQ bE (c :: r)then .inl 2 else if(c :: r).take (dQ bE (c :: r))∈fQ then .inr (2,(c :: r).take (dQ bE (c :: r)),dQ bE (c :: r))else .inr (1,(c :: r).take (dQ bE (c :: r)),dQ bE (c :: r)))
  else if dD c then
   (if(fP ((c :: r).take (dQ dD (c :: r)))).2 then .inr (3,(c :: r).take (dQ dD (c :: r)),dQ dD (c :: r))else .inl 3)
  else if c.toNat=34 then
   (match nN (c :: r)with
    |none=>.inl 4
    |some (t,n)=>if 256<t.length then .inl 2 else .inr (4,t,n))
  else if(c :: r).take 2∈dw then .inr (5,(c :: r).take 2,2)
  else if c∈fD then .inr (5,[c],1)else .inl 5
structure aD where
 kind:Int
 text:Bt
 line:Nat
 col:Nat
def nO:Nat->Bt->Nat ×Nat->List aD->List aD ×(Nat ×Nat ×Int)
 |0,_,_,_=>([],(0,0,0))
 |f+1,s,p,out=>
  if s.drop (bB s)=[]then(out++[⟨0,[],(gF p (s.take (bB s))).1,(gF p (s.take (bB s))).2⟩],(0,0,0))else
  match fu (s.drop (bB s))with
  |.inl e=>([],((gF p (s.take (bB s))).1,(gF p (s.take (bB s))).2,e))
  |.inr (kd,t,n)=>
   if out.length=8192 then([],((gF p (s.take (bB s))).1,(gF p (s.take (bB s))).2,19))else
   nO f ((s.drop (bB s)).drop n) (gF (gF p (s.take (bB s))) ((s.drop (bB s)).take n)) (out++[⟨kd,t,(gF p (s.take (bB s))).1,(gF p (s.take (bB s))).2⟩])
def iU (s:Bt):List aD ×(Nat ×Nat ×Int):=if 65536<s.length then([],(1,1,2))else nO (s.length+1) s (1,1) []
theorem ug {p:UInt8->Bool}{c:UInt8}{s:Bt}(h:p c=true):1<=dQ p (c :: s):=by
 rw [iK,if_pos h];omega
theorem BX {s:Bt}{kd:Int}{t:Bt}{n:Nat}(h:fu s=.inr (kd,t,n)):1<=n∧n<=s.length:=by
 cases s with
 |nil=>simp [fu]at h
 |cons c r=>
  rw [fu]at h;split at h
  ·rename_i hl
   have hi:bE c=true:=by unfold bE;rw [hl];rfl
   have h1:=ug (s:=r) hi;have h2:=kI bE (c :: r);split at h
   ·cases h
   ·split at h
    ·injection h with h;simp only [Prod.mk.injEq]at h;omega
    ·injection h with h;simp only [Prod.mk.injEq]at h;omega
  ·split at h
   ·rename_i hd
    have h1:=ug (s:=r) hd;have h2:=kI dD (c :: r);split at h
    ·injection h with h;simp only [Prod.mk.injEq]at h;omega
    ·cases h
   ·split at h
    ·split at h
     ·cases h
     ·rename_i t' n' hq
      have:=Ew hq;split at h
      ·cases h
      ·injection h with h;simp only [Prod.mk.injEq]at h;simp only [List.drop_succ_cons,List.drop_zero]at this;simp only [List.length_cons];omega
    ·split at h
     ·rename_i hp
      injection h with h;simp only [Prod.mk.injEq]at h;have h2:((c :: r).take 2).length=2:=by
       have hall:∀m∈dw,m.length=2:=by decide
       exact hall _ hp
      rw [List.length_take]at h2;simp only [List.length_cons]at h2 ⊢;omega
     ·split at h
      ·injection h with h;simp only [Prod.mk.injEq]at h;simp only [List.length_cons];omega
      ·cases h
theorem yP {s:Bt}{e:Int}(h:fu s=.inl e):e≠0:=by
 cases s with
 |nil=>simp [fu]at h;omega
 |cons c r=>
  rw [fu]at h
  repeat' split at h
  all_goals first |(injection h with h;omega) |cases h
theorem Nb (p:UInt8->Bool)(s:Bt):dQ p (s.take (dQ p s))=dQ p s:=by
 induction s with
 |nil=>rfl
 |cons c r ih=>
  rw [iK];by_cases h:p c=true
  ·rw [if_pos h,List.take_succ_cons,iK,if_pos h,ih]
  ·rw [if_neg h];rfl
def Fx (kd:Int)(t:Bt):Prop:=
 1<=kd∧kd<=5∧(kd=2->t∈fQ)∧(kd=1->dM t=true)∧(kd=3->∃c r,t=c :: r∧dD c=true)∧(kd=5->1<=t.length∧t.length<=2)
theorem J2 {s:Bt}{kd:Int}{t:Bt}{n:Nat}(h:fu s=.inr (kd,t,n)):Fx kd t:=by
 cases s with
 |nil=>simp [fu]at h
 |cons c r=>
  rw [fu]at h;have hle:=kI bE (c :: r);have htk:=Nb bE (c :: r);by_cases hl:gD c=true
  ·rw [if_pos hl]at h;have hi:bE c=true:=by unfold bE;rw [hl];rfl
   have hpos:=ug (s:=r) hi;by_cases h32:32<dQ bE (c :: r)
   ·rw [if_pos h32]at h;cases h
   ·rw [if_neg h32]at h;by_cases hw:(c :: r).take (dQ bE (c :: r))∈fQ
    ·rw [if_pos hw]at h;injection h with h;simp only [Prod.mk.injEq]at h;obtain⟨rfl,rfl,_⟩:=h;exact⟨by omega,by omega,fun _=>hw,fun h=>by omega,fun h=>by omega,fun h=>by omega⟩
    ·rw [if_neg hw]at h;injection h with h;simp only [Prod.mk.injEq]at h;obtain⟨rfl,rfl,_⟩:=h;refine⟨by omega,by omega,fun h=>by omega,fun _=>?_,fun h=>by omega,fun h=>by omega⟩;have hlen:((c :: r).take (dQ bE (c :: r))).length=dQ bE (c :: r):=by rw [List.length_take];omega
     generalize hn:dQ bE (c :: r)=m at*
     obtain⟨m',rfl⟩:∃m',m=m'+1:=⟨m - 1,by omega⟩
     rw [List.take_succ_cons]at htk hw hlen ⊢;unfold dM;simp only [Bool.and_eq_true,decide_eq_true_eq,Bool.not_eq_true',decide_eq_false_iff_not];exact⟨⟨⟨by rw [hlen];omega,hl⟩,by rw [htk,hlen]⟩,hw⟩
  ·rw [if_neg hl]at h;by_cases hd:dD c=true
   ·rw [if_pos hd]at h;have hpos:=ug (s:=r) hd;split at h
    ·injection h with h;simp only [Prod.mk.injEq]at h;obtain⟨rfl,rfl,_⟩:=h;refine⟨by omega,by omega,fun h=>by omega,fun h=>by omega,fun _=>?_,fun h=>by omega⟩;obtain⟨m',hm⟩:∃m',dQ dD (c :: r)=m'+1:=⟨dQ dD (c :: r) - 1,by omega⟩
     rw [hm,List.take_succ_cons];exact⟨_,_,rfl,hd⟩
    ·cases h
   ·rw [if_neg hd]at h;split at h
    ·split at h
     ·cases h
     ·split at h
      ·cases h
      ·injection h with h;simp only [Prod.mk.injEq]at h;obtain⟨rfl,rfl,_⟩:=h;exact⟨by omega,by omega,fun h=>by omega,fun h=>by omega,fun h=>by omega,fun h=>by omega⟩
    ·split at h
     ·rename_i hp
      injection h with h;simp only [Prod.mk.injEq]at h;obtain⟨rfl,rfl,_⟩:=h;have hall:∀m∈dw,m.length=2:=by decide
      have:=hall _ hp;exact⟨by omega,by omega,fun h=>by omega,fun h=>by omega,fun h=>by omega,fun _=>by omega⟩
     ·split at h
      ·injection h with h;simp only [Prod.mk.injEq]at h;obtain⟨rfl,rfl,_⟩:=h;exact⟨by omega,by omega,fun h=>by omega,fun h=>by omega,fun h=>by omega,fun _=>⟨by simp,by simp⟩⟩
      ·cases h
def V6 (text:Bt)(a:Nat):Nat ×Nat:=gF (1,1) (text.take a)
inductive Placed (text:Bt):Nat->List aD->Prop where
 |done (a:Nat):a<=text.length->Placed text a [⟨0,[],(V6 text text.length).1,(V6 text text.length).2⟩]
 |next (a b n:Nat) (t:aD) (l:List aD):a<=b->V6 text b=(t.line,t.col)->(t.kind≠4->t.text=(text.drop b).take n)->t.kind≠0->1<=n->b+n<=text.length->Placed text (b+n) l->Placed text a (t :: l)
def before (p q:Nat ×Nat):Prop:=p.1<q.1∨(p.1=q.1∧p.2<q.2)
theorem uS {p:UInt8->Bool}{c:UInt8}(hp:p c=false)(s r:Bt):dQ p (s++c :: r)=dQ p s:=by
 induction s with
 |nil=>rw [List.nil_append,iK,if_neg (by simp [hp])];rfl
 |cons d s ih=>
  rw [List.cons_append,iK,iK];by_cases h:p d=true
  ·rw [if_pos h,if_pos h,ih]
  ·rw [if_neg h,if_neg h]
theorem zN {c:UInt8}(h:cB c=true):bE c=false∧dD c=false∧gD c=false:=by
 unfold cB at h;simp only [Bool.or_eq_true,decide_eq_true_eq]at h;unfold bE gD dD;simp only [Bool.or_eq_false_iff,Bool.and_eq_false_iff,decide_eq_false_iff_not];omega
theorem zO {back:Bool}{out:Bt}{i:Nat}{s:Bt}{r:Bt ×Nat}(h:gH back out i s=some r)(x:Bt):gH back out i (s++x)=some r:=by
 induction s generalizing back out i with
 |nil=>cases back <;> simp [gH]at h
 |cons c s ih=>
  rw [gH]at h;rw [List.cons_append,gH];split at h
  ·cases h
  ·rename_i h32
   rw [if_neg h32];split at h
   ·rename_i hb
    rw [if_pos hb];split at h
    ·exact ih h
    ·cases h
   ·rename_i hb
    rw [if_neg hb];split at h
    ·rename_i L6
     rw [if_pos L6];exact ih h
    ·rename_i L6
     rw [if_neg L6];split at h
     ·rename_i AV
      rw [if_pos AV];exact h
     ·rename_i AV
      rw [if_neg AV];exact ih h
theorem Nc:∀m∈dw,m.length=2:=by decide
theorem GI (c d:UInt8)(hd:cB d=true):[c,d] ∉ dw:=by
 intro h;have hall:(dw.all fun m=> !cB (m.getD 1 0))=true:=by decide
 have:=List.all_eq_true.1 hall _ h;simp [hd]at this
theorem J3 {s:Bt}{kd:Int}{t:Bt}{n:Nat}{d:UInt8}(x:Bt)(hd:cB d=true)(h:fu s=.inr (kd,t,n)):fu (s++d :: x)=.inr (kd,t,n):=by
 obtain⟨hi,hdg,_⟩:=zN hd;cases s with
 |nil=>simp [fu]at h
 |cons c r=>
  have tq:=kI bE (c :: r);have hrd:=kI dD (c :: r);rw [fu]at h;rw [List.cons_append,fu,<-List.cons_append,uS hi,uS hdg,List.take_append_of_le_length tq,List.take_append_of_le_length hrd];split at h
  ·rename_i hl
   rw [if_pos hl];exact h
  ·rename_i hl
   rw [if_neg hl];split at h
   ·rename_i hg
    rw [if_pos hg];exact h
   ·rename_i hg
    rw [if_neg hg];split at h
    ·rename_i AV
     rw [if_pos AV];split at h
     ·cases h
     ·rename_i t' n' hq
      have hq':nN (c :: r++d :: x)=some (t',n'):=by
       unfold nN at hq ⊢;simp only [List.cons_append,List.drop_succ_cons,List.drop_zero]at hq ⊢;exact zO hq _
      rw [hq'];exact h
    ·rename_i AV
     rw [if_neg AV];cases r with
     |nil=>
      have h2:¬ [c]∈dw:=fun hm=>by have:=Nc _ hm;simp at this
      rw [if_neg (by simpa using h2)]at h;rw [if_neg (show ¬(([c]++d :: x:Bt).take 2∈dw)from GI c d hd)];exact h
     |cons e r=>exact h
theorem J4 {c:UInt8}{r:Bt}{kd:Int}{t:Bt}{n:Nat}(h:fu (c :: r)=.inr (kd,t,n)):cB c=false∧c.toNat≠35:=by
 have hall:((dw.all fun m=> !cB (m.headD 0) && decide ((m.headD 0).toNat≠35)) && fD.all fun c=> !cB c && decide (c.toNat≠35))=true:=by decide
 rw [Bool.and_eq_true,List.all_eq_true,List.all_eq_true]at hall;rw [fu]at h;have hle:(gD c=true∨dD c=true∨c.toNat=34)∨(c :: r).take 2∈dw∨c∈fD:=by
  by_cases hp:(c :: r).take 2∈dw
  ·exact .inr (.inl hp)
  ·by_cases hs:c∈fD
   ·exact .inr (.inr hs)
   ·by_cases h1:gD c=true
    ·exact .inl (.inl h1)
    ·by_cases h2:dD c=true
     ·exact .inl (.inr (.inl h2))
     ·by_cases h3:c.toNat=34
      ·exact .inl (.inr (.inr h3))
      ·rw [if_neg h1,if_neg h2,if_neg h3,if_neg hp,if_neg hs]at h;cases h
 rcases hle with h1 |h1 |h1
 ·unfold gD dD at h1;unfold cB;simp only [Bool.or_eq_true,Bool.and_eq_true,decide_eq_true_eq]at h1;simp only [Bool.or_eq_false_iff,decide_eq_false_iff_not];omega
 ·have:=hall.1 _ h1;rw [List.take_succ_cons]at this;simpa using this
 ·have:=hall.2 _ h1;simpa using this
theorem J5 {q:Bool}{s:Bt}(h:gy q s<s.length)(x:Bt):gy q (s++x)=gy q s:=by
 induction s generalizing q with
 |nil=>simp at h
 |cons c s ih=>
  rw [List.cons_append];cases q with
  |false=>
   rw [gy]at h ⊢;rw [gy];by_cases hb:cB c=true
   ·rw [if_pos hb]at h ⊢;rw [if_pos hb,ih (by simpa using h)]
   ·rw [if_neg hb]at h ⊢;rw [if_neg hb];by_cases Po:c.toNat=35
    ·rw [if_pos Po]at h ⊢;rw [if_pos Po,ih (by simpa using h)]
    ·rw [if_neg Po,if_neg Po]
  |true=>
   rw [gy]at h ⊢;rw [gy];by_cases h10:c.toNat=10
   ·rw [if_pos h10]at h ⊢;rw [if_pos h10,ih (by simpa using h)]
   ·rw [if_neg h10]at h ⊢;rw [if_neg h10,ih (by simpa using h)]
theorem Nf {q:Bool}{s:Bt}(h:s.length<=gy q s)(d:UInt8)(hd:d.toNat=10)(x:Bt):gy q (s++d :: x)=s.length+1+bB x:=by
 have hb:cB d=true:=by unfold cB;simp [hd]
 induction s generalizing q with
 |nil=>
  rw [List.nil_append];unfold bB;cases q with
  |false=>rw [gy,if_pos hb];simp;omega
  |true=>rw [gy,if_pos hd];simp;omega
 |cons c s ih=>
  rw [List.cons_append];cases q with
  |false=>
   rw [gy]at h ⊢;by_cases hb:cB c=true
   ·rw [if_pos hb]at h ⊢;rw [ih (by simpa using h)];simp;omega
   ·rw [if_neg hb]at h ⊢;by_cases Po:c.toNat=35
    ·rw [if_pos Po]at h ⊢;rw [ih (by simpa using h)];simp;omega
    ·rw [if_neg Po]at h;simp at h
  |true=>
   rw [gy]at h ⊢;by_cases h10:c.toNat=10
   ·rw [if_pos h10]at h ⊢;rw [ih (by simpa using h)];simp;omega
   ·rw [if_neg h10]at h ⊢;rw [ih (by simpa using h)];simp;omega
theorem Ey:∀(f:Nat) (s:Bt) (p:Nat ×Nat) (out:List aD),s.length<f->(nO f s p out).2.2.2=0->
  ∃m e,nO f s p out=(out++m++[e],(0,0,0))∧e.kind=0∧e.text=[]∧m.length<=s.length∧(∀t∈m,Fx t.kind t.text)∧
   ∀(d:UInt8) (r:Bt) (F:Nat),d.toNat=10->s.length+1+r.length<F->∃F' q,r.length<F'∧nO F (s++d :: r) p out=nO F' r q (out++m)
 |0,s,p,out,hf,_=>by omega
 |f+1,s,p,out,hf,hok=>by
  have hsk:bB s<=s.length:=BU false s;rw [nO]at hok ⊢;by_cases hnil:s.drop (bB s)=[]
  ·rw [if_pos hnil]at hok ⊢;refine⟨[],_,by rw [List.append_nil],rfl,rfl,by simp,by simp,fun d r F hd hF=>⟨F,gF p (s++[d]),by omega,?_⟩⟩;have hall:s.length<=bB s:=by simpa using hnil
   have e1:bB (s++d :: r)=s.length+1+bB r:=Nf hall d hd r;obtain⟨F0,rfl⟩:∃F0,F=F0+1:=⟨F - 1,by omega⟩
   have e2:(s++d :: r).drop (s.length+1+bB r)=r.drop (bB r):=by
    rw [List.append_cons,<-List.drop_drop,show s.length+1=(s++[d]).length by simp,List.drop_left]
   have e3:(s++d :: r).take (s.length+1+bB r)=(s++[d])++r.take (bB r):=by
    rw [List.append_cons,List.take_add,show s.length+1=(s++[d]).length by simp,List.take_left,List.drop_left]
   rw [nO,nO,e1,e2,e3,uf,List.append_nil]
  ·rw [if_neg hnil]at hok ⊢;have hlt:bB s<s.length:=by
    rcases Nat.lt_or_ge (bB s) s.length with h |h
    ·exact h
    ·exact absurd (List.drop_eq_nil_of_le h) hnil
   cases hn:fu (s.drop (bB s))with
   |inl e=>rw [hn]at hok;exact absurd hok (yP hn)
   |inr x=>
    obtain⟨kd,t,n⟩:=x;rw [hn]at hok;simp only at hok ⊢;by_cases h8:out.length=8192
    ·rw [if_pos h8]at hok;exact absurd (show(19:Int)=0 from hok) (by decide)
    ·rw [if_neg h8]at hok ⊢;obtain⟨n1,n2⟩:=BX hn;obtain⟨m,e,h1,h2,h3,h4,h4',h5⟩:=Ey f _ _ _ (by simp only [List.length_drop]at n2 ⊢;omega) hok;rw [h1];refine⟨_ :: m,e,by rw [List.append_assoc,List.append_assoc,List.singleton_append,List.append_assoc,List.cons_append],h2,h3,?_,?_,fun d r F hd hF=>?_⟩
     ·simp only [List.length_drop,List.length_cons]at n2 h4 ⊢;omega
     ·intro x hx;rcases List.mem_cons.1 hx with rfl |hx
      ·exact J2 hn
      ·exact h4' x hx
     ·obtain⟨F0,rfl⟩:∃F0,F=F0+1:=⟨F - 1,by omega⟩
      have hb:cB d=true:=by unfold cB;simp [hd]
      obtain⟨F',q,hF',h6⟩:=h5 d r F0 hd (by simp only [List.length_drop]at n2 ⊢;omega);refine⟨F',q,hF',?_⟩;have e1:bB (s++d :: r)=bB s:=J5 hlt _;rw [nO,e1,List.drop_append_of_le_length hsk,List.take_append_of_le_length hsk,if_neg (by simp),J3 r hb hn];simp only;rw [if_neg h8,List.drop_append_of_le_length n2,List.take_append_of_le_length n2,h6,List.append_assoc,List.singleton_append]
def yQ:Nat->Bt->Option (List (Int ×Bt))
 |0,_=>none
 |f+1,s=>
  if s.drop (bB s)=[]then some []else
  match fu (s.drop (bB s))with
  |.inl _=>none
  |.inr (kd,t,n)=>(yQ f ((s.drop (bB s)).drop n)).map ((kd,t) :: ·)
def jK (t:aD):Int ×Bt:=(t.kind,t.text)
theorem Ez (f:Nat)(x s:Bt)(h:bB (x++s)=x.length+bB s):yQ (f+1) (x++s)=yQ (f+1) s:=by
 have e:(x++s).drop (x.length+bB s)=s.drop (bB s):=by rw [<-List.drop_drop,List.drop_left]
 rw [yQ,yQ,h,e]
theorem BZ (s:Bt)(h:s.length<=65536):iU s=nO (s.length+1) s (1,1) []:=by unfold iU;rw [if_neg (by omega)]
def jm (c:UInt8):Bt:=if c.toNat=92 then [92,92]else if c.toNat=34 then [92,34]else if c.toNat=10 then [92,110]else if c.toNat=9 then [92,116]else [c]
def mE (t:Bt):Bt:=34 :: (t.flatMap jm++[34])
theorem L8 {c:UInt8}{n:Nat}(hn:n<256)(h:c.toNat=n):c=UInt8.ofNat n:=by
 apply UInt8.toNat_inj.1;rw [UInt8.toNat_ofNat',h];omega
def jw (x:Int ×Bt):Bt:=if x.1=4 then mE x.2 else x.2
def Good (x:Int ×Bt):Prop:=fu (jw x)=.inr (x.1,x.2,(jw x).length)
theorem GJ (s:Bt):∀(out:Bt) (i:Nat) (x:Bt),(∀c∈s,32<=c.toNat∨c.toNat=9∨c.toNat=10)->gH false out i (s.flatMap jm++34 :: x)=some (out++s,i+(s.flatMap jm).length+2):=by
 induction s with
 |nil=>intro out i x _;simp [gH]
 |cons c s ih=>
  intro out i x hc;have hs:∀c∈s,32<=c.toNat∨c.toNat=9∨c.toNat=10:=fun d hd=>hc d (by simp [hd]);have h0:=hc c (by simp);have two:∀(d e:UInt8),32<=d.toNat->GH d=some e->e=c->jm c=[92,d]->gH false out i (jm c++(s.flatMap jm++34 :: x))=some (out++c :: s,i+((jm c).length+(s.flatMap jm).length)+2):=by
   intro d e hd he hec hw;subst hec;rw [hw];show gH false out i (92 :: d :: (s.flatMap jm++34 :: x))= _;rw [gH,if_neg (by decide),if_neg (by simp),if_pos (by decide),gH,if_neg (by omega),if_pos rfl,he];simp only;rw [ih _ _ _ hs];simp;omega
  rw [List.flatMap_cons,List.append_assoc,List.length_append];by_cases L6:c.toNat=92
  ·exact two 92 92 (by decide) rfl (L8 (by omega) L6).symm (by unfold jm;rw [if_pos L6])
  ·by_cases AV:c.toNat=34
   ·exact two 34 34 (by decide) rfl (L8 (by omega) AV).symm (by unfold jm;rw [if_neg L6,if_pos AV])
   ·by_cases h10:c.toNat=10
    ·exact two 110 10 (by decide) rfl (L8 (by omega) h10).symm (by unfold jm;rw [if_neg L6,if_neg AV,if_pos h10])
    ·by_cases h9:c.toNat=9
     ·exact two 116 9 (by decide) rfl (L8 (by omega) h9).symm (by unfold jm;rw [if_neg L6,if_neg AV,if_neg h10,if_pos h9])
     ·have hw:jm c=[c]:=by unfold jm;rw [if_neg L6,if_neg AV,if_neg h10,if_neg h9]
      rw [hw];show gH false out i (c :: (s.flatMap jm++34 :: x))= _;rw [gH,if_neg (by omega),if_neg (by simp),if_neg L6,if_neg AV,ih _ _ _ hs];simp;omega
section
def Turn (F:Nat->Prop)(w w':World):Prop:=
 w'.os=w.os∧w'.tape=w.tape∧w'.output=w.output∧w.heap.size<=w'.heap.size∧∀k,k<w.heap.size->¬F k->w'.heap[k]? =w.heap[k]?
section
variable {F G:Nat->Prop}{a b c w w':World}
theorem Turn.refl (F:Nat->Prop)(w:World):Turn F w w:=⟨rfl,rfl,rfl,Nat.le_refl _,fun _ _ _=>rfl⟩
theorem Turn.size (h:Turn F w w'):w.heap.size<=w'.heap.size:=h.2.2.2.1
theorem Turn.block (h:Turn F w w'){k:Nat}(hk:k<w.heap.size)(hF:¬F k):w'.heap[k]? =w.heap[k]? :=h.2.2.2.2 k hk hF
theorem Turn.trans (h:Turn F a b)(k:Turn G b c)(hG:∀i,i<a.heap.size->G i->F i):Turn F a c:=
 ⟨k.1.trans h.1,k.2.1.trans h.2.1,k.2.2.1.trans h.2.2.1,Nat.le_trans h.size k.size,fun i hi hF=>
  (k.block (Nat.lt_of_lt_of_le hi h.size) (fun hg=>hF (hG i hi hg))).trans (h.block hi hF)⟩
theorem Turn.of_below (h:Below w.heap.size w w'):Turn F w w':=⟨h.os,h.tape,h.output,h.size,fun k hk _=>h.block k hk⟩
theorem Turn.bP {row:Option Nat}(h:w.grownBy w' row)(hr:∀k,row=some k->F k):Turn F w w':=
 ⟨h.os,h.tape,h.output,h.size,fun k hk hF=>h.block k hk (fun e=>hF (hr k e.symm))⟩
theorem Turn.below {B:Nat}(h:Turn F w w')(hB:B<=w.heap.size)(hF:∀k,k<B->¬F k):Below B w w':=
 ⟨h.1,h.2.1,h.2.2.1,h.size,fun k hk=>h.block (Nat.lt_of_lt_of_le hk hB) (hF k hk)⟩
theorem Turn.mono (h:Turn F w w')(hF:∀k,k<w.heap.size->F k->G k):Turn G w w':=
 ⟨h.1,h.2.1,h.2.2.1,h.size,fun k hk hG=>h.block hk (fun hf=>hG (hF k hk hf))⟩
theorem Turn.alloc (F:Nat->Prop)(w:World)(o:Obj):Turn F w (w.alloc o):=Turn.bP (World.grownBy_alloc w o none) (by simp)
theorem Turn.drewN (F:Nat->Prop)(w:World)(n:Nat):Turn F w (w.drewN n):=⟨rfl,rfl,rfl,Nat.le_refl _,fun _ _ _=>rfl⟩
theorem Turn.lt (h:Turn F w w'){k:Nat}(hk:k<w.heap.size):k<w'.heap.size:=Nat.lt_of_lt_of_le hk h.size
end
theorem Sl.U7 {w w':World}{B k:Nat}{v:Value}{xs:List Value}(h:Sl w B k v xs)(hk:∀g,v.ownBlock=some g->g<B->w'.heap[g]? =w.heap[g]?):Sl w' B k v xs:=by
 obtain⟨A,n,c,hv,hl,hn,hc,hx⟩:=h;refine⟨A,n,c,hv,hl,hn,hc,fun h0=>?_⟩;obtain⟨b,off,hA,hb,hcell⟩:=hx h0;refine⟨b,off,hA,hb,fun j u hu=>?_⟩;rw [<-hcell j u hu];have h1:=hk b (by subst hv hA;rfl) hb;simp only [World.cell?,h1]
def U8 (w:World)(F:Nat->Prop)(k:Nat)(v:Value)(xs:List Value):Prop:=Sl w w.heap.size k v xs∧∀g,v.ownBlock=some g->F g
section
variable {F G:Nat->Prop}{w w':World}{k:Nat}{v:Value}{xs:List Value}
theorem U8.turn (h:U8 w F k v xs)(t:Turn G w w')(hd:∀g,F g->¬G g):U8 w' F k v xs:=
 ⟨(h.1.U7 fun g hg hl=>t.block hl (hd g (h.2 g hg))).more t.size,h.2⟩
theorem U8.mono (h:U8 w F k v xs)(hF:∀g,F g->G g):U8 w G k v xs:=⟨h.1,fun g hg=>hF g (h.2 g hg)⟩
theorem U8.wh {base n:Nat}{e:TypeId}(h:w.ownsRow base e k v n xs)(hF:∀g,v.ownBlock=some g->F g):U8 w F k v xs:=⟨Sl.wh h,hF⟩
end
theorem dL {G:Nat->Prop}{w w':World}{base:Nat}{e:TypeId}{k:Nat}{v:Value}{n:Nat}{xs:List Value}(h:w.ownsRow base e k v n xs)(t:Turn G w w')(hd:∀g,v.ownBlock=some g->¬G g):w'.ownsRow base e k v n xs:=by
 refine⟨h.1,?_⟩;rcases h.2 with h2 |⟨g,cap,cur,hv,hg,hb,r⟩
 ·exact .inl h2
 ·refine .inr ⟨g,cap,cur,hv,hg,?_,r⟩;rw [t.block (Array.getElem?_eq_some_iff.1 hb).1 (hd g (by subst hv;rfl))];exact hb
theorem Pp {H:Type}{P:Program}{k:TypeId}{R:Value->Option (DataW H ×List MemPlace)}{G:Nat->Prop}{w w':World}{b n:Nat}{D:DataW H}(h:w.ownsMap P k R b n D)(t:Turn G w w')(hd:¬G b):w'.ownsMap P k R b n D:=by
 have hlt:=h.lt;obtain⟨es,clock,hb,r⟩:=h;exact⟨es,clock,(t.block hlt hd).trans hb,r⟩
theorem ah {G:Nat->Prop}{w w':World}{b:Nat}{o:Obj}(h:w.heap[b]? =some o)(t:Turn G w w')(hd:¬G b):w'.heap[b]? =some o:=
 (t.block (Array.getElem?_eq_some_iff.1 h).1 hd).trans h
theorem block_lt {w:World}{b:Nat}{o:Obj}(h:w.heap[b]? =some o):b<w.heap.size:=(Array.getElem?_eq_some_iff.1 h).1
theorem dR {w:World}{base:Nat}{e:TypeId}{k:Nat}{v:Value}{n:Nat}{xs:List Value}(h:w.ownsRow base e k v n xs)(h0:0<n):
  ∃g c,v=.slice (some ⟨g,0,none⟩) n c∧base<=g∧g<w.heap.size∧n<=c∧c<=maxLen:=by
 rcases h.2 with⟨_,h0⟩ |⟨g,cap,cur,hv,hb,hg,hc,hm,_⟩
 ·omega
 ·exact⟨g,cap,hv,hb,block_lt hg,hc,hm⟩
def mW (l:List (List UInt8)):List Value:=l.map sv
theorem dV (l:List (List UInt8)):(mW l).length=l.length:=by simp [mW]
theorem mF (a b:List (List UInt8)):mW (a++b)=mW a++mW b:=by simp [mW]
theorem xE (l:List (List UInt8)):∀u∈mW l,u.oneCell'=true:=by
 intro u hu;obtain⟨b,_,rfl⟩:=List.mem_map.1 hu;rfl
theorem Bu (l:List (List UInt8))(i:Nat)(h:i<l.length):(mW l)[i]? =some (sv l[i]):=by simp [mW,h]
def Ss (w:World)(B:Nat)(v:Value)(l:List (List UInt8)):Prop:=Sl w B 1 v (mW l)
theorem Ss.open_ {w:World}{B:Nat}{v:Value}{l:List (List UInt8)}(h:Ss w B v l):
  ∃(A:Option Addr) (c:Nat),v=.slice A l.length c∧l.length<=c∧c<=maxLen∧
   (0<l.length->∃b off,A=some ⟨b,off,none⟩∧b<B∧∀(j:Nat) (hj:j<l.length),w.cell? ⟨b,off+j,none⟩=some (sv l[j])):=by
 obtain⟨A,n,c,rfl,hl,hn,hc,hx⟩:=h;obtain rfl:l.length=n:=by rw [<-dV l,hl];omega
 refine⟨A,c,rfl,hn,hc,fun h0=>?_⟩;obtain⟨b,off,hA,hb,hcell⟩:=hx h0;exact⟨b,off,hA,hb,fun j hj=>hcell j _ (Bu l j hj)⟩
theorem Ss.below {w w':World}{B:Nat}{v:Value}{l:List (List UInt8)}(h:Ss w B v l)(hb:Below B w w'):Ss w' B v l:=Sl.below h hb
theorem Ss.alloc {w:World}{B:Nat}{v:Value}{l:List (List UInt8)}(h:Ss w B v l)(hB:B<=w.heap.size)(o:Obj):Ss (w.alloc o) B v l:=Sl.alloc h hB o
theorem Ss.more {w:World}{B B':Nat}{v:Value}{l:List (List UInt8)}(h:Ss w B v l)(hB:B<=B'):Ss w B' v l:=Sl.more h hB
def gX (w:World)(base:Nat)(e:TypeId)(v:Value)(l:List (List UInt8)):Prop:=∃n,w.ownsRow base e 1 v n (mW l)
section
variable {w w':World}{base:Nat}{e:TypeId}{v:Value}{l:List (List UInt8)}
theorem gX.nil (w:World)(base:Nat)(e:TypeId):gX w base e (.slice none 0 0) []:=⟨0,World.ownsRow_nil _ _ _ _⟩
theorem gX.ss (h:gX w base e v l):Ss w w.heap.size v l:=by obtain⟨n,h⟩:=h;exact Sl.wh h
theorem gX.below (h:gX w base e v l)(hb:Below w.heap.size w w'):gX w' base e v l:=by obtain⟨n,h⟩:=h;exact⟨n,own_below h hb⟩
theorem gX.alloc (h:gX w base e v l)(o:Obj):gX (w.alloc o) base e v l:=by obtain⟨n,h⟩:=h;exact⟨n,h.alloc o⟩
theorem gX.drewN (h:gX w base e v l)(k:Nat):gX (w.drewN k) base e v l:=h
theorem gX.lt (h:gX w base e v l):∀k,v.ownBlock=some k->base<=k∧k<w.heap.size:=by obtain⟨n,h⟩:=h;exact h.lt
theorem gX.turn {G:Nat->Prop}(h:gX w base e v l)(t:Turn G w w')(hd:∀g,v.ownBlock=some g->¬G g):gX w' base e v l:=by obtain⟨n,h⟩:=h;exact⟨n,dL h t hd⟩
theorem gX.row (h:gX w base e v l):w.ownsRow base e 1 v l.length (mW l):=by
 obtain⟨n,h⟩:=h;have hn:n=l.length:=by have:=h.1;rw [dV]at this;omega
 subst hn;exact h
end
theorem uh {P:Program}{w:World}{ops:Array Oper}{rest:List Oper}{o:Oper}{a:Act}{Q:Exit->Act->World->Prop}(hgd:o.guard=none)(s x:Operand)(t:TypeId)
  (ho:o.op=.call { callee:= .builtin .append,args:= #[s,x],argTypes:= #[t,t]})
  (base:Nat) {e:TypeId}{z:Value}(hE:ku P t e z 1 16) (v y:Value) (hs:a.eval s=v) (hx:a.eval x=y)
  {l:List (List UInt8)}(hown:gX w base e v l) {B:Nat}{m:List (List UInt8)}(hy:Ss w B y m)
  (hlen:l.length+m.length<=8796093022208) (hbase:base<=w.heap.size)
  (h:∀v' w',gX w' base e v' (l++m)->w.grownBy w' v.ownBlock->(v'.ownBlock=v.ownBlock∨v'.ownBlock=some w.heap.size)->wpList P ops Q rest (a.put o.dst v') w'):
  wpList P ops Q (o :: rest) a w:=
 jh hgd s x t ho base hE v y hs hx hown.row hy (xE _) (by simp only [dV,maxLen];omega) (by rw [dV];omega) hbase
  (fun v' w' n' h1 h2 h3=>h v' w' ⟨n',by rw [mF];exact h1⟩ h2 h3)
theorem wo {B:Nat}{a w w':World}{base:Nat}{e:TypeId}{v:Value}{l:List (List UInt8)}(h:Below B a w)(hown:gX w base e v l)(hg:w.grownBy w' v.ownBlock)(hB:B<=base)(hs:B<=w.heap.size):Below B a w':=
 h.grown hg hs fun k hk=>Nat.le_trans hB (hown.lt k hk).1
theorem rY (w:World)(x:List UInt8)(t:TypeId):Ss (w.alloc (.cells #[sv x] t)) (w.heap.size+1) (.slice (some ⟨w.heap.size,0,none⟩) 1 1) [x]:=
 iB w #[sv x] t 1 1 rfl (by decide)
theorem ak (w:World)(b i:Nat)(v:Value):Turn (fun k=>k=b) w (w.setCell ⟨b,i,none⟩ v):=
 ⟨rfl,rfl,rfl,by simp,fun k _ hF=>heap_setCell_other w _ k v hF⟩
open Go.ChangeShapes Go.WideShapes Go.ChangeAt Go.RowKit
section
variable {H:Type}{enc:TypeId ×Value->H}{P:Program}{W:World}
theorem YP (s:ByteArray):Value.string s=sv s.data.toList:=by
 show Value.string s=Value.string ⟨s.data.toList.toArray⟩;simp
end
open Go.ChangeShapes Go.WideShapes Go.ChangeAt Go.RowKit
section
variable {H:Type}{enc:TypeId ×Value->H}{P:Program}{W:World}
end
theorem gG {P:Program}{ops:Array Oper}{o:Oper}{a:Act}{w:World}{K:Act->World->Prop}{Q:Exit->Act->World->Prop}{E:Prop}(hgd:o.guard=none)(s x:Operand)(t:TypeId)
  (ho:o.op=.call { callee:= .builtin .append,args:= #[s,x],argTypes:= #[t,t]})
  (base:Nat) {e:TypeId}{z:Value}{size bytes:Nat}(hE:ku P t e z size bytes) (v y:Value) (hs:a.eval s=v) (hx:a.eval x=y)
  {n:Nat}{xs:List Value}(hown:w.ownsRow base e size v n xs) {B:Nat}{news:List Value}(hy:Sl w B size y news) (h1:∀u∈news,u.oneCell'=true)
  (h63:n*size+news.length<=maxLen) (hbytes:(n*size+news.length)*bytes<=140737488355328) (hbase:base<=w.heap.size)
  (h:∀v' w' n',w'.ownsRow base e size v' n' (xs++news)->w.grownBy w' v.ownBlock->(v'.ownBlock=v.ownBlock∨v'.ownBlock=some w.heap.size)->K (a.put o.dst v') w'):
  if Region.wanted o (yielded ops a.tmps)=true then Oper.wp P o a w K Q else E:=by
 have hw:Region.wanted o (yielded ops a.tmps)=true:=by simp [Region.wanted,hgd]
 rw [if_pos hw];obtain⟨v',w',n',hrun,h2,h3,h4⟩:=LX (P:=P) (ty:=o.type) w base hE hown hy h1 h63 hbytes hbase;unfold Oper.wp execOp;simp only [ho,resolve,invoke,builtin,Sem.run_bind,Sem.run_pure,Result.andThen_ok,List.map_toArray,List.map_cons,List.map_nil,hs,hx,hrun];exact h v' w' n' h2 h3 h4
end
end Go.Proofs.YtfgjkmipfikooaaGreatDoor
