/- GA, GB, MC, PT -/
import Derived.Test.YtncnnedlgofccaaGreatDoorPTQ
import Derived.OpenShut
import Derived.WalkSpells
import Derived.WalkLawsBesides
import Derived.Deep.AppendLies
import Derived.Lib.ItoaMem
import Derived.Lib.AtoiAll
set_option linter.unusedSimpArgs false
set_option linter.unusedVariables false
namespace Go.Proofs.YtncnnedlgofccaaGreatDoor
open Go.RowKit
def In64 (n:Int):Prop:= -9223372036854775808<=n∧n<=9223372036854775807
theorem M5 (n:Int):IntKind.u64.wrap n=n % 18446744073709551616:=by
 simp [IntKind.wrap,IntKind.bits,IntKind.signed]
theorem M6 (n:Int):IntKind.i64.wrap n=wrap64 n:=IntWalk.i64_left n
theorem Ke {n:Int}(h:In64 n):wrap64 n=n:=IntWalk.wrap64_in n h
def zz (n:Int):Nat:=if n<0 then(-2*n - 1).toNat else(2*n).toNat
def Fits (f u:Nat):Prop:=u<18446744073709551616∧u<128 ^ (f+1)
theorem Fits.pos {f u:Nat}(h:Fits f u)(hu:¬u<128):∃g,f=g+1:=by
 cases f with
 |zero=>exact absurd h.2 (by omega)
 |succ g=>exact⟨g,rfl⟩
theorem Fits.next {f u:Nat}(h:Fits (f+1) u):Fits f (u / 128):=by
 obtain⟨h1,h2⟩:=h;refine⟨by omega,?_⟩;rw [Nat.pow_succ]at h2;exact(Nat.div_lt_iff_lt_mul (by decide)).2 h2
def uz (u:Nat):Int:=if u % 2=0 then(u / 2:Nat)else -1 - (u / 2:Nat)
def Td (u x k:Nat):Prop:=u<128 ^ k∧x<128∧(k<=8∨k=9∧x<=1)
theorem Td.lt {u x k:Nat}(h:Td u x k):u+x*128 ^ k<18446744073709551616∧u+x*128 ^ k<128 ^ (k+1):=by
 obtain⟨h1,h2,h3⟩:=h;have hk:u+x*128 ^ k<(x+1)*128 ^ k:=by rw [Nat.add_mul];omega
 refine⟨?_,?_⟩
 ·rcases h3 with h3 |⟨rfl,h3⟩
  ·have:(x+1)*128 ^ k<=128*128 ^ 8:=Nat.mul_le_mul (by omega) (Nat.pow_le_pow_right (by decide) h3);have e:128*128 ^ 8<18446744073709551616:=by decide
   omega
  ·have:(x+1)*128 ^ 9<=2*128 ^ 9:=Nat.mul_le_mul (by omega) (Nat.le_refl _);have e:2*128 ^ 9=18446744073709551616:=by decide
   omega
 ·rw [Nat.pow_succ];have:(x+1)*128 ^ k<=128*128 ^ k:=Nat.mul_le_mul (by omega) (Nat.le_refl _);omega
section
variable {l:List UInt8}{k u x:Nat}
end
def bq (p:Prop):Prop:=p
theorem bq.o {p:Prop}(h:bq p):p:=h
theorem aO {p:Prop}(h:p:=by simp):bq p:=h
theorem kg {w:World}{B:Nat}(h:B<=w.heap.size)(o:Obj):B<=(w.alloc o).heap.size:=by simp;omega
theorem zi (b off i:Nat):(⟨b,off,none⟩:Addr).add i=⟨b,off+i,none⟩:=by
 unfold Addr.add;split <;> simp_all
def Sl (w:World)(B k:Nat)(v:Value)(xs:List Value):Prop:=
 ∃(A:Option Addr) (n c:Nat),v=.slice A n c∧xs.length=n*k∧n<=c∧c<=maxLen∧
  (0<n->∃b off,A=some ⟨b,off,none⟩∧b<B∧∀(j:Nat) u,xs[j]? =some u->w.cell? ⟨b,off+j,none⟩=some u)
section
variable {w w':World}{B B' k:Nat}{v:Value}{xs:List Value}
theorem Sl.nil (w:World)(B k:Nat):Sl w B k Z []:=
 ⟨none,0,0,rfl,by simp,Nat.le_refl _,Nat.zero_le _,fun h=>absurd h (by omega)⟩
theorem Sl.keep (h:Sl w B k v xs)(hk:∀b o,b<B->w'.cell? ⟨b,o,none⟩=w.cell? ⟨b,o,none⟩):Sl w' B k v xs:=by
 obtain⟨A,n,c,hv,hl,hn,hc,hx⟩:=h;refine⟨A,n,c,hv,hl,hn,hc,fun h0=>?_⟩;obtain⟨b,off,hA,hb,hcell⟩:=hx h0;exact⟨b,off,hA,hb,fun j u hu=>(hk _ _ hb).trans (hcell j u hu)⟩
theorem Sl.more (h:Sl w B k v xs)(hB:B<=B'):Sl w B' k v xs:=by
 obtain⟨A,n,c,hv,hl,hn,hc,hx⟩:=h;refine⟨A,n,c,hv,hl,hn,hc,fun h0=>?_⟩;obtain⟨b,off,hA,hb,hcell⟩:=hx h0;exact⟨b,off,hA,by omega,hcell⟩
theorem Sl.below (h:Sl w B k v xs)(hb:Below B w w'):Sl w' B k v xs:=h.keep fun b o hp=>hb.cell (p:=⟨b,o,none⟩) hp
theorem Sl.drew (h:Sl w B k v xs):Sl w.drew B k v xs:=h
theorem Sl.drewN (h:Sl w B k v xs)(n:Nat):Sl (w.drewN n) B k v xs:=h
theorem Sl.alloc (h:Sl w B k v xs)(hB:B<=w.heap.size)(o:Obj):Sl (w.alloc o) B k v xs:=
 h.keep fun b o' hp=>World.cell?_alloc_past _ _ _ (by show b<w.heap.size;omega)
theorem Sl.Aw {base:Nat}{e:TypeId}{n:Nat}(h:w.ownsRow base e k v n xs):Sl w w.heap.size k v xs:=by
 rcases h.2 with⟨rfl,rfl⟩ |⟨g,cap,cur,rfl,hb,hg,hn,hm,hs,htake⟩
 ·exact⟨none,0,0,rfl,h.1,Nat.le_refl _,Nat.zero_le _,fun h=>absurd h (by omega)⟩
 ·refine⟨_,n,cap,rfl,h.1,hn,hm,fun _=>⟨g,0,rfl,(Array.getElem?_eq_some_iff.1 hg).1,fun j u hu=>?_⟩⟩;have:=h.cells (g:=g) rfl j u hu;rwa [zi]at this
theorem Sl.lt (h:Sl w w.heap.size k v xs):Sl w w.heap.size k v xs:=h
end
def oI (P:Program)(t e:TypeId)(z:Value)(size bytes:Nat):Prop:=
 P.underlying t=some (.slice e)∧(P.info? e).map (fun i=>(i.zero,i.size,i.bytes))=some (some z,size,bytes)∧z.cells.size=size∧0<size
theorem Gl {w w':World}(h:Below w.heap.size w w')(row:Option Nat):w.grownBy w' row:=
 ⟨h.os,h.tape,h.output,h.size,fun k hk _=>h.block k hk⟩
theorem own_below {w w':World}{base:Nat}{e:TypeId}{size:Nat}{v:Value}{n:Nat}{xs:List Value}(h:w.ownsRow base e size v n xs)(hb:Below w.heap.size w w'):w'.ownsRow base e size v n xs:=
 h.kept (Gl hb none) (by cases hv:v.ownBlock <;> simp)
theorem BG {w:World}{base base':Nat}{e:TypeId}{size:Nat}{v:Value}{n:Nat}{xs:List Value}(h:w.ownsRow base e size v n xs)(hb:base'<=base):w.ownsRow base' e size v n xs:=by
 refine⟨h.1,?_⟩;rcases h.2 with h2 |⟨g,cap,cur,hv,hg,r⟩
 ·exact .inl h2
 ·exact .inr ⟨g,cap,cur,hv,by omega,r⟩
section
variable {P:Program}
theorem Te (w:World)(base:Nat){t e ty:TypeId}{z:Value}{size bytes:Nat}(hE:oI P t e z size bytes){v:Value}{n:Nat}{xs:List Value}(hown:w.ownsRow base e size v n xs)
  {B:Nat}{y:Value}{news:List Value}(hy:Sl w B size y news) (h1:∀u∈news,u.oneCell'=true)
  (h63:n*size+news.length<=maxLen) (hbytes:(n*size+news.length)*bytes<=140737488355328) (hbase:base<=w.heap.size):
  ∃v' w' n',(Builtin.append_ #[t,t] ty #[v,y]).run P w=.ok v' w'∧w'.ownsRow base e size v' n' (xs++news)∧w.grownBy w' v.ownBlock∧(v'.ownBlock=v.ownBlock∨v'.ownBlock=some w.heap.size):=by
 obtain⟨ht,hinfo,hzs,hsz⟩:=hE;obtain⟨i,hi,hz,hs,hb⟩:=info_parts hinfo;obtain⟨A,m,c,rfl,hl,hn,hc,hx⟩:=hy;have hnm:n+m<=n*size+news.length:=by
  rw [hl,<-Nat.add_mul];exact Nat.le_mul_of_pos_right _ hsz
 rcases A with _ |ad
 ·have hm:m=0:=by
   rcases Nat.eq_zero_or_pos m with h0 |h0
   ·exact h0
   ·obtain⟨b,off,hA,_⟩:=hx h0;cases hA
  subst hm;obtain rfl:news=[]:=List.eq_nil_of_length_eq_zero (by simpa using hl);refine⟨v,w,n,?_,by simpa using hown,World.grownBy.refl w _,.inl rfl⟩;rcases hown.2 with⟨rfl,rfl⟩ |⟨g,cap,cur,rfl,_,_,hnc,_⟩
  ·simp [Builtin.append_,run_underlying ht,sizeOf,typeInfo,hi,Builtin.lenOf,Builtin.firstCells]
  ·simp [Builtin.append_,run_underlying ht,sizeOf,typeInfo,hi,Builtin.lenOf,Builtin.firstCells,hnc,storeCells]
 ·have hcells:∀j u,news[j]? =some u->w.cell? (ad.add j)=some u:=by
   intro j u hu;have h0:0<m:=by
    rcases Nat.eq_zero_or_pos m with h0 |h0
    ·subst h0;obtain rfl:news=[]:=List.eq_nil_of_length_eq_zero (by simpa using hl);simp at hu
    ·exact h0
   obtain⟨b,off,hA,_,hcell⟩:=hx h0;injection hA with hA;subst hA;rw [zi];exact hcell j u hu
  have hb2:(n+m)*bytes<=140737488355328:=Nat.le_trans (Nat.mul_le_mul_right _ hnm) hbytes;obtain⟨v',w',hrun,h2,h3,_,h5⟩:=run_append_own_at (P:=P) w base t ty e i z size bytes ht hi hz hs hb hzs hsz v n xs hown ad m c news hl hcells h1 (by omega) hb2 hbase;exact⟨v',w',n+m,hrun,h2,h3,h5⟩
theorem dR {w:World}{ops:Array Oper}{rest:List Oper}{o:Oper}{a:Act}{Q:Exit->Act->World->Prop}(hgd:o.guard=none)(s x:Operand)(t:TypeId)
  (ho:o.op=.call { callee:= .builtin .append,args:= #[s,x],argTypes:= #[t,t]})
  (base:Nat) {e:TypeId}{z:Value}{size bytes:Nat}(hE:oI P t e z size bytes) (v y:Value) (hs:a.eval s=v) (hx:a.eval x=y)
  {n:Nat}{xs:List Value}(hown:w.ownsRow base e size v n xs) {B:Nat}{news:List Value}(hy:Sl w B size y news) (h1:∀u∈news,u.oneCell'=true)
  (h63:n*size+news.length<=maxLen) (hbytes:(n*size+news.length)*bytes<=140737488355328) (hbase:base<=w.heap.size)
  (h:∀v' w' n',w'.ownsRow base e size v' n' (xs++news)->w.grownBy w' v.ownBlock->(v'.ownBlock=v.ownBlock∨v'.ownBlock=some w.heap.size)->wpList P ops Q rest (a.put o.dst v') w'):
  wpList P ops Q (o :: rest) a w:=by
 refine wpList_plain hgd fun K hK=>?_;obtain⟨v',w',n',hrun,h2,h3,h4⟩:=Te (P:=P) (ty:=o.type) w base hE hown hy h1 h63 hbytes hbase;unfold Oper.wp execOp;simp only [ho,resolve,invoke,builtin,Sem.run_bind,Sem.run_pure,Result.andThen_ok,List.map_toArray,List.map_cons,List.map_nil,hs,hx,hrun];exact hK _ _ (h v' w' n' h2 h3 h4)
end
theorem below_app {B:Nat}{a w w':World}{base:Nat}{e:TypeId}{size:Nat}{v:Value}{n:Nat}{xs:List Value}(h:Below B a w)(hown:w.ownsRow base e size v n xs)(hg:w.grownBy w' v.ownBlock)(hB:B<=base)(hs:B<=w.heap.size):Below B a w':=
 h.grown hg hs fun k hk=>Nat.le_trans hB (hown.lt k hk).1
theorem aP {B:Nat}(w:World)(n:Nat):Below B w (w.drewN n):=⟨rfl,rfl,rfl,Nat.le_refl _,fun _ _=>rfl⟩
theorem Yi {a b c:World}(h:Below a.heap.size a b)(k:Below b.heap.size b c):Below a.heap.size a c:=h.trans (k.mono h.size)
theorem iN (w:World)(cs:Array Value)(t:TypeId)(k n:Nat)(hs:cs.size=n*k)(hn:n<=maxLen:=by decide):
  Sl (w.alloc (.cells cs t)) (w.heap.size+1) k (.slice (some ⟨w.heap.size,0,none⟩) n n) cs.toList:=by
 refine⟨_,n,n,rfl,by simpa using hs,Nat.le_refl _,hn,fun _=>⟨w.heap.size,0,rfl,by omega,fun j u hu=>?_⟩⟩;rw [cell_of_row _ _ _ cs t (0,0) (heap_alloc_new w _)];simpa using hu
theorem mM (a b:List UInt8):(⟨a.toArray⟩:ByteArray)++⟨b.toArray⟩=⟨(a++b).toArray⟩:=by
 apply ByteArray.ext;rw [ByteArray.data_append];exact List.append_toArray _ _
abbrev sv (l:List UInt8):Value:= .string ⟨l.toArray⟩
theorem Kg (a b:List UInt8):Value.string ((⟨a.toArray⟩:ByteArray)++⟨b.toArray⟩)=sv (a++b):=by rw [mM]
def bv (l:List UInt8):List Value:=l.map fun b=>.int .u8 (b.toNat:Int)
theorem rM (l:List UInt8):(bv l).length=l.length:=by simp [bv]
theorem Vy (a b:List UInt8):bv (a++b)=bv a++bv b:=by simp [bv]
theorem aj4 (l:List UInt8):∀u∈bv l,u.oneCell'=true:=by
 intro u hu;obtain⟨b,_,rfl⟩:=List.mem_map.1 hu;rfl
theorem aj5 (l:List UInt8)(i:Nat)(h:i<l.length):(bv l)[i]? =some (.int .u8 (l[i].toNat:Int)):=by simp [bv,h]
def Bs (w:World)(B:Nat)(v:Value)(l:List UInt8):Prop:=Sl w B 1 v (bv l)
theorem Bs.open_ {w:World}{B:Nat}{v:Value}{l:List UInt8}(h:Bs w B v l):
  ∃(A:Option Addr) (c:Nat),v=.slice A l.length c∧l.length<=c∧c<=maxLen∧
   (0<l.length->∃b off,A=some ⟨b,off,none⟩∧b<B∧∀(j:Nat) (hj:j<l.length),w.cell? ⟨b,off+j,none⟩=some (.int .u8 (l[j].toNat:Int))):=by
 obtain⟨A,n,c,rfl,hl,hn,hc,hx⟩:=h;obtain rfl:l.length=n:=by rw [<-rM l,hl];omega
 refine⟨A,c,rfl,hn,hc,fun h0=>?_⟩;obtain⟨b,off,hA,hb,hcell⟩:=hx h0;exact⟨b,off,hA,hb,fun j hj=>hcell j _ (aj5 l j hj)⟩
theorem Bs.kH {w:World}{B:Nat}{A:Option Addr}{n c:Nat}{l:List UInt8}(h:Bs w B (.slice A n c) l){k:Nat}(hk:k<=l.length):Bs w B (.slice A k c) (l.take k):=by
 obtain⟨A',n',c',hv,hl,hn,hc,hx⟩:=h;injection hv with h1 h2 h3;subst h1 h2 h3;rw [rM]at hl;refine⟨A,k,c,rfl,by rw [rM,List.length_take];omega,by omega,hc,fun h0=>?_⟩;obtain⟨b,off,hA,hb,hcell⟩:=hx (by omega);refine⟨b,off,hA,hb,fun j u hu=>hcell j u ?_⟩;unfold bv at hu ⊢;rw [List.map_take,List.getElem?_take]at hu;split at hu
 ·exact hu
 ·cases hu
theorem JA {P:Program}{w:World}{B:Nat}{v:Value}{l:List UInt8}(h:Bs w B v l)(src e dst:TypeId)(hs:P.underlying src=some (.slice e))(he:P.underlying e=some (.int .u8))(hd:P.underlying dst=some .string):
  (convert src dst v).run P w=.ok (.string ⟨l.toArray⟩) w:=by
 obtain⟨A,c,rfl,hn,hc,hx⟩:=h.open_;by_cases h0:l.length=0
 ·obtain rfl:l=[]:=List.eq_nil_of_length_eq_zero h0;rw [run_convert_bytes_string w src dst e _ _ c hs he hd];cases A with
  |none=>simp [Conv.bytesToString,ByteArray.empty,ByteArray.emptyWithCapacity];rfl
  |some ad=>
   exact(run_bytesToString w ad 0 c [] (run_loadCells_list (P:=P) w ad [] (by simp))).trans rfl
 ·obtain⟨b,off,rfl,hb,hcell⟩:=hx (by omega);rw [run_convert_bytes_arg (P:=P) w src e hs he b off l.length c (l.map fun x=>(x.toNat:Int)) (by simp) (fun i hi=>by rw [hcell i hi];simp [hi]) dst hd];congr 2;simp [strOfNums,Function.comp_def]
def pq (w:World)(base:Nat)(e:TypeId)(v:Value)(l:List UInt8):Prop:=∃n,w.ownsRow base e 1 v n (bv l)
section
variable {w w':World}{base:Nat}{e:TypeId}{v:Value}{l:List UInt8}
theorem pq.nil (w:World)(base:Nat)(e:TypeId):pq w base e Z []:=⟨0,World.ownsRow_nil _ _ _ _⟩
theorem pq.bs (h:pq w base e v l):Bs w w.heap.size v l:=by obtain⟨n,h⟩:=h;exact Sl.Aw h
theorem pq.below (h:pq w base e v l)(hb:Below w.heap.size w w'):pq w' base e v l:=by obtain⟨n,h⟩:=h;exact⟨n,own_below h hb⟩
theorem pq.alloc (h:pq w base e v l)(o:Obj):pq (w.alloc o) base e v l:=by obtain⟨n,h⟩:=h;exact⟨n,h.alloc o⟩
theorem pq.drewN (h:pq w base e v l)(k:Nat):pq (w.drewN k) base e v l:=h
theorem pq.drew (h:pq w base e v l):pq w.drew base e v l:=h
theorem pq.Gm {base':Nat}(h:pq w base e v l)(hb:base'<=base):pq w base' e v l:=by obtain⟨n,h⟩:=h;exact⟨n,BG h hb⟩
theorem pq.lt (h:pq w base e v l):∀k,v.ownBlock=some k->base<=k∧k<w.heap.size:=by obtain⟨n,h⟩:=h;exact h.lt
end
theorem Bs.below {w w':World}{B:Nat}{v:Value}{l:List UInt8}(h:Bs w B v l)(hb:Below B w w'):Bs w' B v l:=Sl.below h hb
theorem Bs.alloc {w:World}{B:Nat}{v:Value}{l:List UInt8}(h:Bs w B v l)(hB:B<=w.heap.size)(o:Obj):Bs (w.alloc o) B v l:=Sl.alloc h hB o
theorem Bs.more {w:World}{B B':Nat}{v:Value}{l:List UInt8}(h:Bs w B v l)(hB:B<=B'):Bs w B' v l:=Sl.more h hB
theorem pE {P:Program}{w:World}{ops:Array Oper}{rest:List Oper}{o:Oper}{a:Act}{Q:Exit->Act->World->Prop}(hgd:o.guard=none)(s x:Operand)(t:TypeId)
  (ho:o.op=.call { callee:= .builtin .append,args:= #[s,x],argTypes:= #[t,t]})
  (base:Nat) {e:TypeId}{z:Value}(hE:oI P t e z 1 1) (v y:Value) (hs:a.eval s=v) (hx:a.eval x=y)
  {l:List UInt8}(hown:pq w base e v l) {B:Nat}{m:List UInt8}(hy:Bs w B y m)
  (hlen:l.length+m.length<=140737488355328) (hbase:base<=w.heap.size)
  (h:∀v' w',pq w' base e v' (l++m)->w.grownBy w' v.ownBlock->(v'.ownBlock=v.ownBlock∨v'.ownBlock=some w.heap.size)->wpList P ops Q rest (a.put o.dst v') w'):
  wpList P ops Q (o :: rest) a w:=by
 obtain⟨n,hown⟩:=hown;have hn:n=l.length:=by have:=hown.1;rw [rM]at this;omega
 subst hn
 exact dR hgd s x t ho base hE v y hs hx hown hy (aj4 _) (by simp only [rM,maxLen];omega) (by rw [rM];omega) hbase
  (fun v' w' n' h1 h2 h3=>h v' w' ⟨n',by rw [Vy];exact h1⟩ h2 h3)
theorem rU {B:Nat}{a w w':World}{base:Nat}{e:TypeId}{v:Value}{l:List UInt8}(h:Below B a w)(hown:pq w base e v l)(hg:w.grownBy w' v.ownBlock)(hB:B<=base)(hs:B<=w.heap.size):Below B a w':=
 h.grown hg hs fun k hk=>Nat.le_trans hB (hown.lt k hk).1
theorem Gn (w:World)(x:Int)(t:TypeId)(h:0<=x∧x<256:=by decide):Bs (w.alloc (.cells #[.int .u8 x] t)) (w.heap.size+1) (.slice (some ⟨w.heap.size,0,none⟩) 1 1) [UInt8.ofNat x.toNat]:=by
 have h1:=iN w #[.int .u8 x] t 1 1 rfl (by decide);have e:bv [UInt8.ofNat x.toNat]=[.int .u8 x]:=by
  unfold bv;simp only [List.map_cons,List.map_nil,UInt8.toNat_ofNat'];congr 2;omega
 unfold Bs;rw [e];exact h1
def zX (c:UInt8):Bool:=decide (48<=c.toNat) && decide (c.toNat<=57)
theorem jF {c:UInt8}:zX c=true↔48<=c.toNat∧c.toNat<=57:=by simp [zX]
def Tf (n:Nat)(c:UInt8):Nat:=10*n+(c.toNat - 48)
def eH (acc:Nat)(l:List UInt8):Nat:=l.foldl Tf acc
theorem jN (acc:Nat):eH acc []=acc:=by unfold eH;rw [List.foldl_nil]
theorem jW (acc:Nat)(c:UInt8)(r:List UInt8):eH acc (c :: r)=eH (10*acc+(c.toNat - 48)) r:=by
 unfold eH;rw [List.foldl_cons];unfold Tf;exact Eq.refl _
theorem Gp (a b:List UInt8)(acc:Nat):eH acc (a++b)=eH (eH acc a) b:=by unfold eH;rw [List.foldl_append]
theorem wH (a:List UInt8)(c:UInt8)(acc:Nat):eH acc (a++[c])=10*eH acc a+(c.toNat - 48):=by
 rw [Gp,jW,jN]
theorem Ay:∀(l:List UInt8) (acc:Nat),acc*10 ^ l.length<=eH acc l
 | [],acc=>by rw [jN,List.length_nil,Nat.pow_zero,Nat.mul_one];exact Nat.le_refl _
 |c :: r,acc=>by
  rw [jW];have h:=Ay r (10*acc+(c.toNat - 48));refine Nat.le_trans ?_ h;have e:acc*10 ^ (c :: r).length=(10*acc)*10 ^ r.length:=by
   rw [List.length_cons,Nat.pow_succ,Nat.mul_comm (10 ^ r.length) 10,<-Nat.mul_assoc,Nat.mul_comm acc 10]
  rw [e];exact Nat.mul_le_mul_right _ (Nat.le_add_right _ _)
theorem Gq:∀(l:List UInt8) (acc:Nat),(∀c∈l,zX c=true)->eH acc l<(acc+1)*10 ^ l.length
 | [],acc,_=>by rw [jN,List.length_nil,Nat.pow_zero,Nat.mul_one];exact Nat.lt_succ_self _
 |c :: r,acc,h=>by
  rw [jW];have hc:=jF.1 (h c (List.mem_cons_self ..));have h1:=Gq r (10*acc+(c.toNat - 48)) (fun x hx=>h x (List.mem_cons_of_mem _ hx));refine Nat.lt_of_lt_of_le h1 ?_;have e:(acc+1)*10 ^ (c :: r).length=(10*(acc+1))*10 ^ r.length:=by
   rw [List.length_cons,Nat.pow_succ,Nat.mul_comm (10 ^ r.length) 10,<-Nat.mul_assoc,Nat.mul_comm (acc+1) 10]
  rw [e];exact Nat.mul_le_mul_right _ (by omega)
def Canon (l:List UInt8):Prop:=l≠[]∧(∀c∈l,zX c=true)∧(l.length=1∨l.head? ≠some 48)
instance (l:List UInt8):Decidable (Canon l):=by unfold Canon;infer_instance
def Az (l:List UInt8):Option Nat:=if Canon l∧eH 0 l<9223372036854775808 then some (eH 0 l)else none
def dH (l:List UInt8):Int ×Bool:=match Az l with |some n=>((n:Int),true) |none=>(0,false)
theorem Kh {l:List UInt8}(h:Canon l)(hl:2<=l.length):10 ^ (l.length - 1)<=eH 0 l:=by
 obtain⟨h0,hd,hh⟩:=h;cases l with
 |nil=>exact absurd rfl h0
 |cons c r=>
  have hc:=jF.1 (hd c (List.mem_cons_self ..));have hne:c.toNat≠48:=by
   rcases hh with hh |hh
   ·simp at hh hl;subst hh;simp at hl
   ·intro e;apply hh;simp;exact UInt8.toNat_inj.1 e
  rw [jW];have:=Ay r (10*0+(c.toNat - 48));simp only [List.length_cons,Nat.add_sub_cancel]
  calc 10 ^ r.length=1*10 ^ r.length:=by omega
   _<=(10*0+(c.toNat - 48))*10 ^ r.length:=Nat.mul_le_mul_right _ (by omega)
   _<= _:=this
theorem Ki {c:UInt8}(h:zX c=true):UInt8.ofNat (48+(c.toNat - 48))=c:=by
 have:=jF.1 h;apply UInt8.toNat_inj.1;rw [UInt8.toNat_ofNat'];omega
theorem Vz:∀(n:Nat) (l:List UInt8),l.length=n->Canon l->Lib.decDigits (eH 0 l)=l:=by
 intro n;induction n with
 |zero=>intro l hl h;exact absurd (List.eq_nil_of_length_eq_zero hl) h.1
 |succ n ih=>
  intro l hl h;rcases List.eq_nil_or_concat l with rfl |⟨a,c,rfl⟩
  ·exact absurd rfl h.1
  rw [List.concat_eq_append]at*
  have hc:=h.2.1 c (by simp);have hc2:=jF.1 hc;rw [wH];by_cases ha:a=[]
  ·subst ha;have e0:eH 0 []=0:=jN 0;rw [e0,Nat.mul_zero,Nat.zero_add,Lib.decDigits_one (by omega),Ki hc,List.nil_append]
  ·have hal:0<a.length:=List.length_pos_iff.2 ha;have hhead:a.head? ≠some 48:=by
    rcases h.2.2 with h1 |h1
    ·simp at h1;exact absurd h1 ha
    ·intro e;apply h1;cases a with
     |nil=>exact absurd rfl ha
     |cons x r=>simpa using e
   have hca:Canon a:=⟨ha,fun x hx=>h.2.1 x (by simp [hx]),.inr hhead⟩
   have hpos:1<=eH 0 a:=by
    by_cases h2:2<=a.length
    ·have:=Kh hca h2;have:0<10 ^ (a.length - 1):=Nat.pow_pos (by decide);omega
    ·cases a with
     |nil=>exact absurd rfl ha
     |cons x r=>
      have hr:r=[]:=List.eq_nil_of_length_eq_zero (by have:(x :: r).length=r.length+1:=rfl;omega);subst hr;have hx:=jF.1 (hca.2.1 x (by simp));have hne:x.toNat≠48:=fun e=>hhead (by simp;exact UInt8.toNat_inj.1 e);rw [jW,jN];omega
   rw [Lib.decDigits,dif_neg (by omega)];have e1:(10*eH 0 a+(c.toNat - 48)) / 10=eH 0 a:=by omega
   have e2:(10*eH 0 a+(c.toNat - 48)) % 10=c.toNat - 48:=by omega
   rw [e1,e2,ih a (by simp at hl;omega) hca,Ki hc]
theorem Yj (u:Nat):Canon (Lib.decDigits u)∧eH 0 (Lib.decDigits u)=u∧(1<=u->(Lib.decDigits u).head? ≠some 48):=by
 induction u using Nat.strongRecOn with
 |ind u ih=>
  rw [Lib.decDigits];by_cases h:u<10
  ·rw [dif_pos h];have e:(UInt8.ofNat (48+u)).toNat=48+u:=by rw [UInt8.toNat_ofNat'];omega
   refine⟨⟨by simp,?_,.inl rfl⟩,?_,?_⟩
   ·intro c hc;obtain rfl:c=UInt8.ofNat (48+u):=by simpa using hc
    rw [jF,e];omega
   ·rw [jW,jN,e];omega
   ·intro h1 h2;have:UInt8.ofNat (48+u)=48:=by simpa using h2
    have:=congrArg UInt8.toNat this;rw [e]at this;have h48:(48:UInt8).toNat=48:=rfl;omega
  ·rw [dif_neg h];obtain⟨⟨h0,h1,h2⟩,h3,h4⟩:=ih (u / 10) (by omega);have e:(UInt8.ofNat (48+u % 10)).toNat=48+u % 10:=by rw [UInt8.toNat_ofNat'];omega
   have hh:=h4 (by omega);have hh2:(Lib.decDigits (u / 10)++[UInt8.ofNat (48+u % 10)]).head? ≠some 48:=by
    cases hd:Lib.decDigits (u / 10)with
    |nil=>exact absurd hd h0
    |cons x r=>rw [hd]at hh;simpa using hh
   refine⟨⟨by simp,?_,.inr hh2⟩,?_,fun _=>hh2⟩
   ·intro c hc;rcases List.mem_append.1 hc with hc |hc
    ·exact h1 c hc
    ·obtain rfl:c=UInt8.ofNat (48+u % 10):=by simpa using hc
     rw [jF,e];omega
   ·rw [wH,h3,e];omega
theorem Gr {l:List UInt8}{n:Nat}:Az l=some n↔n<9223372036854775808∧l=Lib.decDigits n:=by
 unfold Az;constructor
 ·intro h;split at h
  ·rename_i hc
   injection h with h;subst h;exact⟨hc.2,(Vz _ l rfl hc.1).symm⟩
  ·cases h
 ·rintro⟨h,rfl⟩;have:=Yj n;rw [if_pos ⟨this.1,by rw [this.2.1];exact h⟩,this.2.1]
theorem zY:∀(l:List UInt8) (acc:Nat),(∀c∈l,zX c=true)->eH acc l<18446744073709551616->Lib.parseUint10 acc l=.ok (eH acc l)
 | [],acc,_,_=>by rw [jN];rfl
 |c :: r,acc,h,hlt=>by
  have hc:=jF.1 (h c (List.mem_cons_self ..));have hv:eH acc (c :: r)=eH (10*acc+(c.toNat - 48)) r:=jW acc c r;rw [hv]at hlt;have h1:=Ay r (10*acc+(c.toNat - 48));have hp:0<10 ^ r.length:=Nat.pow_pos (by decide);have h2:10*acc+(c.toNat - 48)<=(10*acc+(c.toNat - 48))*10 ^ r.length:=Nat.le_mul_of_pos_right _ hp;unfold Lib.parseUint10;rw [if_pos hc,if_neg (by omega),if_neg (by omega),Nat.mul_comm acc 10,hv];exact zY r _ (fun x hx=>h x (List.mem_cons_of_mem _ hx)) hlt
theorem Yk {n:Nat}(h:n<9223372036854775808):Lib.atoiAll (Lib.decDigits n)=.ok (n:Int):=by
 obtain⟨⟨h0,h1,h2⟩,h3,h4⟩:=Yj n;have hp:=zY (Lib.decDigits n) 0 h1 (by rw [h3];omega);rw [h3]at hp;unfold Lib.atoiAll;cases hd:Lib.decDigits n with
 |nil=>exact absurd hd h0
 |cons c r=>
  have hc:=jF.1 (h1 c (by rw [hd];exact List.mem_cons_self ..));rw [hd]at hp;dsimp only;rw [if_neg (show ¬(c.toNat=43∨c.toNat=45)from by omega)];unfold Lib.parseMag;rw [if_neg (by simp),hp];dsimp only;rw [if_neg (by omega),if_neg (by omega),if_neg (by omega)]
theorem Tg {l:List UInt8}{v:Int}(h:Lib.atoiAll l=.ok v):v<9223372036854775808:=by
 unfold Lib.atoiAll at h;split at h
 ·cases h
 ·rename_i c r
  dsimp only at h;split at h
  ·cases h
  ·cases h
  ·rename_i u hu
   by_cases hn:c.toNat=45
   ·simp only [hn,not_true_eq_false,false_and,if_false,true_and,if_true]at h;split at h
    ·cases h
    ·injection h with h;omega
   ·simp only [hn,not_false_eq_true,true_and,false_and,if_false]at h;split at h
    ·cases h
    ·injection h with h;omega
theorem oU (l:List UInt8):dH l=(match Lib.atoiAll l with |.ok v=>if v<0∨Lib.itoa v≠l then(0,false)else(v,true) |_=>(0,false)):=by
 unfold dH;cases hp:Az l with
 |some n=>
  obtain⟨hn,rfl⟩:=Gr.1 hp;rw [Yk hn];dsimp only;rw [if_neg];rintro(h |h)
  ·omega
  ·exact h (Lib.itoa_nonneg n)
 |none=>
  cases ha:Lib.atoiAll l with
  |ok v=>
   dsimp only;rw [if_pos];by_cases h0:v<0
   ·exact .inl h0
   ·refine .inr fun he=>?_;have hv:=Tg ha;obtain⟨n,rfl⟩:=Int.eq_ofNat_of_zero_le (show 0<=v by omega);have e:Lib.itoa (n:Int)=Lib.decDigits n:=Lib.itoa_nonneg n;have:=Gr.2 ⟨show n<9223372036854775808 by omega,(e.symm.trans he).symm⟩;rw [hp]at this;cases this
  |_=>rfl
theorem wI {l:List UInt8}(h:¬Canon l):dH l=(0,false):=by
 unfold dH Az;rw [if_neg (fun e=>h e.1)]
theorem VA:dH []=(0,false):=wI fun h=>h.1 (Eq.refl _)
theorem QS {l:List UInt8}(h:19<l.length):dH l=(0,false):=by
 by_cases hc:Canon l
 ·have h1:=Kh hc (by omega);have h2:10 ^ 19<=10 ^ (l.length - 1):=Nat.pow_le_pow_right (by decide) (by omega);have e:(10:Nat) ^ 19=10000000000000000000:=by decide
  unfold dH Az;rw [if_neg];intro hh;omega
 ·exact wI hc
theorem QT {l:List UInt8}(h:l.head? =some 48∧1<l.length):dH l=(0,false):=by
 refine wI fun hc=>?_;rcases hc.2.2 with h1 |h1
 ·omega
 ·exact h1 h.1
theorem M7 {l:List UInt8}{k:Nat}(hk:k<l.length)(h:¬zX l[k]=true):dH l=(0,false):=
 wI fun hc=>h (hc.2.1 _ (List.getElem_mem hk))
theorem VB {l:List UInt8}(h0:0<l.length)(h2:¬(l.head? =some 48∧1<l.length))(hd:∀c∈l,zX c=true):
  dH l=if eH 0 l<9223372036854775808 then((eH 0 l:Int),true)else(0,false):=by
 have hc:Canon l:=by
  refine⟨by intro e;rw [e]at h0;exact absurd h0 (by decide),hd,?_⟩;by_cases h1:l.length=1
  ·exact .inl h1
  ·exact .inr fun e=>h2 ⟨e,by omega⟩
 unfold dH Az;by_cases hv:eH 0 l<9223372036854775808
 ·rw [if_pos ⟨hc,hv⟩,if_pos hv]
 ·rw [if_neg (fun e=>hv e.2),if_neg hv]
abbrev Bt:=List UInt8
def fB (c:UInt8):Bool:=(decide (97<=c.toNat) && decide (c.toNat<=122)) || (decide (65<=c.toNat) && decide (c.toNat<=90)) || decide (c.toNat=95)
def bX (c:UInt8):Bool:=decide (48<=c.toNat) && decide (c.toNat<=57)
def bN (c:UInt8):Bool:=fB c || bX c
def dh (c:UInt8):Bool:=decide (c.toNat=32) || decide (c.toNat=9) || decide (c.toNat=10) || decide (c.toNat=13)
def fQ (c:UInt8):Bool:= !decide (c.toNat=10)
def dO (p:UInt8->Bool)(s:Bt):Nat:=(s.takeWhile p).length
theorem nK (p:UInt8->Bool)(s:Bt):dO p s<=s.length:=by
 unfold dO;exact(List.takeWhile_sublist p).length_le
theorem iy (p:UInt8->Bool)(c:UInt8)(s:Bt):dO p (c :: s)=if p c then dO p s+1 else 0:=by
 unfold dO;rw [List.takeWhile_cons];split <;> simp
theorem BH {p:UInt8->Bool}{s:Bt}{k:Nat}(hk:k<s.length)(h:∀j (hj:j<k),p (s[j]'(by omega))=true)(hn:p s[k]=false):dO p s=k:=by
 induction s generalizing k with
 |nil=>simp at hk
 |cons c s ih=>
  rw [iy];rcases k with _ |k
  ·rw [if_neg (by simpa using hn)]
  ·have h0:=h 0 (by omega);simp only [List.getElem_cons_zero]at h0;rw [if_pos h0,ih (by simpa using hk) (fun j hj=>by simpa using h (j+1) (by omega)) (by simpa using hn)]
theorem yc {p:UInt8->Bool}{s:Bt}(h:∀j (hj:j<s.length),p s[j]=true):dO p s=s.length:=by
 induction s with
 |nil=>rfl
 |cons c s ih=>
  have h0:=h 0 (by simp);simp only [List.getElem_cons_zero]at h0;rw [iy,if_pos h0,ih (fun j hj=>by have h1:=h (j+1) (by simpa using hj);rw [List.getElem_cons_succ]at h1;exact h1)];rfl
def dW:Bool->Bt->Nat
 |_,[]=>0
 |false,c :: s=>if dh c then dW false s+1 else if c.toNat=35 then dW true s+1 else 0
 |true,c :: s=>if c.toNat=10 then dW false s+1 else dW true s+1
def bP (s:Bt):Nat:=dW false s
def iA (s:Bt):Nat:=
 dO dh s+(if((s.drop (dO dh s)).head?).map UInt8.toNat=some 35 then dO fQ (s.drop (dO dh s))else 0)
theorem BI (q:Bool)(s:Bt):dW q s<=s.length:=by
 induction s generalizing q with
 |nil=>cases q <;> simp [dW]
 |cons c s ih=>
  cases q with
  |false=>
   rw [dW];split
   ·have:=ih false;simp;exact this
   ·split
    ·have:=ih true;simp;exact this
    ·simp
  |true=>
   rw [dW];split
   ·have:=ih false;simp;exact this
   ·have:=ih true;simp;exact this
theorem QU (s:Bt):dW false s=dO dh s+dW false (s.drop (dO dh s)):=by
 induction s with
 |nil=>rfl
 |cons c s ih=>
  rw [iy];by_cases h:dh c=true
  ·rw [if_pos h,dW,if_pos h,ih,List.drop_succ_cons];omega
  ·rw [if_neg h];simp
theorem VD (s:Bt):dW true s=dO fQ s+dW false (s.drop (dO fQ s)):=by
 induction s with
 |nil=>rfl
 |cons c s ih=>
  rw [iy];by_cases h:c.toNat=10
  ·have hn:fQ c=false:=by unfold fQ;simp [h]
   have hb:dh c=true:=by unfold dh;simp [h]
   rw [if_neg (by simp [hn]),dW,if_pos h];show dW false s+1=0+dW false (c :: s);rw [dW,if_pos hb];omega
  ·have hn:fQ c=true:=by unfold fQ;simp [h]
   rw [if_pos hn,dW,if_neg h,ih,List.drop_succ_cons];omega
theorem Yl (s:Bt):bP s=iA s+bP (s.drop (iA s)):=by
 unfold bP iA;rw [QU];generalize hr:s.drop (dO dh s)=r;cases r with
 |nil=>simp [dW,hr]
 |cons c t=>
  simp only [List.head?_cons,Option.map_some,Option.some.injEq];by_cases h:c.toNat=35
  ·rw [if_pos h];have hb:dh c=false:=by unfold dh;simp [h]
   have hn:fQ c=true:=by unfold fQ;simp [h]
   rw [<-List.drop_drop,hr,dW,if_neg (by simp [hb]),if_pos h,VD,iy,if_pos hn,List.drop_succ_cons];omega
  ·rw [if_neg h,Nat.add_zero,hr]
theorem VE {s:Bt}(h:iA s=0):bP s=0:=by
 have h1:dO dh s=0:=by unfold iA at h;omega
 unfold iA at h;rw [h1]at h;cases s with
 |nil=>rfl
 |cons c t=>
  rw [iy]at h1;have hb:¬dh c=true:=by
   intro hb;rw [if_pos hb]at h1;omega
  unfold bP;rw [dW,if_neg hb];simp only [List.drop_zero,List.head?_cons,Option.map_some,Option.some.injEq]at h;by_cases Ti:c.toNat=35
  ·rw [if_pos Ti,iy,if_pos (by unfold fQ;simp [Ti])]at h;omega
  ·rw [if_neg Ti]
def uO (p:Nat ×Nat)(c:UInt8):Nat ×Nat:=if c.toNat=10 then(p.1+1,1)else(p.1,p.2+1)
def gq (p:Nat ×Nat)(s:Bt):Nat ×Nat:=s.foldl uO p
theorem yg (p:Nat ×Nat)(a b:Bt):gq p (a++b)=gq (gq p a) b:=by unfold gq;rw [List.foldl_append]
theorem Kj {p:Nat ×Nat}{s:Bt}{k:Nat}(h:k<s.length):gq p (s.take (k+1))=uO (gq p (s.take k)) s[k]:=by
 rw [List.take_succ_eq_append_getElem h,yg];rfl
def yh (c:UInt8):Option UInt8:=if c.toNat=92 then some 92 else if c.toNat=34 then some 34 else if c.toNat=110 then some 10 else if c.toNat=116 then some 9 else none
def dZ:Bool->Bt->Nat->Bt->Option (Bt ×Nat)
 |_,_,_,[]=>none
 |back,out,i,c :: s=>
  if c.toNat<32 then none else
  if back then(match yh c with |some e=>dZ false (out++[e]) (i+1) s |none=>none)else
  if c.toNat=92 then dZ true out (i+1) s else
  if c.toNat=34 then some (out,i+2)else dZ false (out++[c]) (i+1) s
def mO (s:Bt):Option (Bt ×Nat):=dZ false [] 0 (s.drop 1)
theorem vg {back:Bool}{out:Bt}{i:Nat}{s:Bt}{r:Bt ×Nat}(h:dZ back out i s=some r):i+2<=r.2∧r.2<=i+s.length+1∧r.1.length<=out.length+s.length:=by
 induction s generalizing back out i with
 |nil=>cases back <;> simp [dZ]at h
 |cons c s ih=>
  rw [dZ]at h;split at h
  ·cases h
  ·split at h
   ·split at h
    ·obtain⟨a,b,d⟩:=ih h;simp only [List.length_append,List.length_cons,List.length_nil]at*;omega
    ·cases h
   ·split at h
    ·obtain⟨a,b,d⟩:=ih h;simp only [List.length_append,List.length_cons,List.length_nil]at*;omega
    ·split at h
     ·injection h with h;subst h;simp only [List.length_cons];omega
     ·obtain⟨a,b,d⟩:=ih h;simp only [List.length_append,List.length_cons,List.length_nil]at*;omega
def fC:List Bt:=[[97,110,100],
 [97,110,121],
 [97,115],
 [98,111,111,108],
 [101,108,115,101],
 [101,120,112,111,114,116],
 [102,97,108,115,101],
 [102,110],
 [102,117,110,99,116,105,111,110],
 [105,102],
 [105,109,112,111,114,116],
 [105,110],
 [105,110,116],
 [105,115],
 [108,101,116],
 [110,111,116],
 [110,117,108,108],
 [111,114],
 [112,114,105,110,116],
 [114,101,97,100],
 [114,101,99,111,114,100],
 [115,116,114],
 [116,104,101,110],
 [116,114,117,101],
 [119,105,116,104]]
def dG:List Bt:=[[45,62],[61,62],[60,58],[60,60],[60,61],[62,62],[61,61],[43,43]]
def fD:Bt:=[40,41,123,125,91,93,44,58,59,61,43,45,42,47,37,38,94,60,124,46]
def gT (s:Bt):Bool:=match s with
 | []=>false
 |c :: r=>decide ((c :: r).length<=32) && fB c && decide (dO bN (c :: r)=(c :: r).length) && !decide ((c :: r)∈fC)
def fq (s:Bt):Int ⊕ (Int ×Bt ×Nat):=
 match s with
 | []=>.inl 5
 |c :: r=>
  if fB c then
   (if 32<dO bN (c :: r)then .inl 2 else if(c :: r).take (dO bN (c :: r))∈fC then .inr (2,(c :: r).take (dO bN (c :: r)),dO bN (c :: r))else .inr (1,(c :: r).take (dO bN (c :: r)),dO bN (c :: r)))
  else if bX c then
   (if(dH ((c :: r).take (dO bX (c :: r)))).2 then .inr (3,(c :: r).take (dO bX (c :: r)),dO bX (c :: r))else .inl 3)
  else if c.toNat=34 then
   (match mO (c :: r)with
    |none=>.inl 4
    |some (t,n)=>if 256<t.length then .inl 2 else .inr (4,t,n))
  else if(c :: r).take 2∈dG then .inr (5,(c :: r).take 2,2)
  else if c∈fD then .inr (5,[c],1)else .inl 5
structure aH where
 kind:Int
 text:Bt
 line:Nat
 col:Nat
def qE:Nat->Bt->Nat ×Nat->List aH->List aH ×(Nat ×Nat ×Int)
 |0,_,_,_=>([],(0,0,0))
 |f+1,s,p,out=>
  if s.drop (bP s)=[]then(out++[⟨0,[],(gq p (s.take (bP s))).1,(gq p (s.take (bP s))).2⟩],(0,0,0))else
  match fq (s.drop (bP s))with
  |.inl e=>([],((gq p (s.take (bP s))).1,(gq p (s.take (bP s))).2,e))
  |.inr (kd,t,n)=>
   if out.length=8192 then([],((gq p (s.take (bP s))).1,(gq p (s.take (bP s))).2,19))else
   qE f ((s.drop (bP s)).drop n) (gq (gq p (s.take (bP s))) ((s.drop (bP s)).take n)) (out++[⟨kd,t,(gq p (s.take (bP s))).1,(gq p (s.take (bP s))).2⟩])
def gH (s:Bt):List aH ×(Nat ×Nat ×Int):=if 65536<s.length then([],(1,1,2))else qE (s.length+1) s (1,1) []
theorem yj {p:UInt8->Bool}{c:UInt8}{s:Bt}(h:p c=true):1<=dO p (c :: s):=by
 rw [iy,if_pos h];omega
theorem BJ {s:Bt}{kd:Int}{t:Bt}{n:Nat}(h:fq s=.inr (kd,t,n)):1<=n∧n<=s.length:=by
 cases s with
 |nil=>simp [fq]at h
 |cons c r=>
  rw [fq]at h;split at h
  ·rename_i hl
   have hi:bN c=true:=by unfold bN;rw [hl];rfl
   have h1:=yj (s:=r) hi;have h2:=nK bN (c :: r);split at h
   ·cases h
   ·split at h
    ·injection h with h;simp only [Prod.mk.injEq]at h;omega
    ·injection h with h;simp only [Prod.mk.injEq]at h;omega
  ·split at h
   ·rename_i hd
    have h1:=yj (s:=r) hd;have h2:=nK bX (c :: r);split at h
    ·injection h with h;simp only [Prod.mk.injEq]at h;omega
    ·cases h
   ·split at h
    ·split at h
     ·cases h
     ·rename_i t' n' hq
      have:=vg hq;split at h
      ·cases h
      ·injection h with h;simp only [Prod.mk.injEq]at h;simp only [List.drop_succ_cons,List.drop_zero]at this;simp only [List.length_cons];omega
    ·split at h
     ·rename_i hp
      injection h with h;simp only [Prod.mk.injEq]at h;have h2:((c :: r).take 2).length=2:=by
       have hall:∀m∈dG,m.length=2:=by decide
       exact hall _ hp
      rw [List.length_take]at h2;simp only [List.length_cons]at h2 ⊢;omega
     ·split at h
      ·injection h with h;simp only [Prod.mk.injEq]at h;simp only [List.length_cons];omega
      ·cases h
theorem zk {s:Bt}{e:Int}(h:fq s=.inl e):e≠0:=by
 cases s with
 |nil=>simp [fq]at h;omega
 |cons c r=>
  rw [fq]at h
  repeat' split at h
  all_goals first |(injection h with h;omega) |cases h
theorem VF (p:UInt8->Bool)(s:Bt):dO p (s.take (dO p s))=dO p s:=by
 induction s with
 |nil=>rfl
 |cons c r ih=>
  rw [iy];by_cases h:p c=true
  ·rw [if_pos h,List.take_succ_cons,iy,if_pos h,ih]
  ·rw [if_neg h];rfl
def Lj (kd:Int)(t:Bt):Prop:=
 1<=kd∧kd<=5∧(kd=2->t∈fC)∧(kd=1->gT t=true)∧(kd=3->∃c r,t=c :: r∧bX c=true)∧(kd=5->1<=t.length∧t.length<=2)
theorem QV {s:Bt}{kd:Int}{t:Bt}{n:Nat}(h:fq s=.inr (kd,t,n)):Lj kd t:=by
 cases s with
 |nil=>simp [fq]at h
 |cons c r=>
  rw [fq]at h;have hle:=nK bN (c :: r);have htk:=VF bN (c :: r);by_cases hl:fB c=true
  ·rw [if_pos hl]at h;have hi:bN c=true:=by unfold bN;rw [hl];rfl
   have hpos:=yj (s:=r) hi;by_cases h32:32<dO bN (c :: r)
   ·rw [if_pos h32]at h;cases h
   ·rw [if_neg h32]at h;by_cases hw:(c :: r).take (dO bN (c :: r))∈fC
    ·rw [if_pos hw]at h;injection h with h;simp only [Prod.mk.injEq]at h;obtain⟨rfl,rfl,_⟩:=h;exact⟨by omega,by omega,fun _=>hw,fun h=>by omega,fun h=>by omega,fun h=>by omega⟩
    ·rw [if_neg hw]at h;injection h with h;simp only [Prod.mk.injEq]at h;obtain⟨rfl,rfl,_⟩:=h;refine⟨by omega,by omega,fun h=>by omega,fun _=>?_,fun h=>by omega,fun h=>by omega⟩;have hlen:((c :: r).take (dO bN (c :: r))).length=dO bN (c :: r):=by rw [List.length_take];omega
     generalize hn:dO bN (c :: r)=m at*
     obtain⟨m',rfl⟩:∃m',m=m'+1:=⟨m - 1,by omega⟩
     rw [List.take_succ_cons]at htk hw hlen ⊢;unfold gT;simp only [Bool.and_eq_true,decide_eq_true_eq,Bool.not_eq_true',decide_eq_false_iff_not];exact⟨⟨⟨by rw [hlen];omega,hl⟩,by rw [htk,hlen]⟩,hw⟩
  ·rw [if_neg hl]at h;by_cases hd:bX c=true
   ·rw [if_pos hd]at h;have hpos:=yj (s:=r) hd;split at h
    ·injection h with h;simp only [Prod.mk.injEq]at h;obtain⟨rfl,rfl,_⟩:=h;refine⟨by omega,by omega,fun h=>by omega,fun h=>by omega,fun _=>?_,fun h=>by omega⟩;obtain⟨m',hm⟩:∃m',dO bX (c :: r)=m'+1:=⟨dO bX (c :: r) - 1,by omega⟩
     rw [hm,List.take_succ_cons];exact⟨_,_,rfl,hd⟩
    ·cases h
   ·rw [if_neg hd]at h;split at h
    ·split at h
     ·cases h
     ·split at h
      ·cases h
      ·injection h with h;simp only [Prod.mk.injEq]at h;obtain⟨rfl,rfl,_⟩:=h;exact⟨by omega,by omega,fun h=>by omega,fun h=>by omega,fun h=>by omega,fun h=>by omega⟩
    ·split at h
     ·rename_i hp
      injection h with h;simp only [Prod.mk.injEq]at h;obtain⟨rfl,rfl,_⟩:=h;have hall:∀m∈dG,m.length=2:=by decide
      have:=hall _ hp;exact⟨by omega,by omega,fun h=>by omega,fun h=>by omega,fun h=>by omega,fun _=>by omega⟩
     ·split at h
      ·injection h with h;simp only [Prod.mk.injEq]at h;obtain⟨rfl,rfl,_⟩:=h;exact⟨by omega,by omega,fun h=>by omega,fun h=>by omega,fun h=>by omega,fun _=>⟨by simp,by simp⟩⟩
      ·cases h
def aj6 (text:Bt)(a:Nat):Nat ×Nat:=gq (1,1) (text.take a)
inductive Placed (text:Bt):Nat->List aH->Prop where
 |done (a:Nat):a<=text.length->Placed text a [⟨0,[],(aj6 text text.length).1,(aj6 text text.length).2⟩]
 |next (a b n:Nat) (t:aH) (l:List aH):a<=b->aj6 text b=(t.line,t.col)->(t.kind≠4->t.text=(text.drop b).take n)->t.kind≠0->1<=n->b+n<=text.length->Placed text (b+n) l->Placed text a (t :: l)
def before (p q:Nat ×Nat):Prop:=p.1<q.1∨(p.1=q.1∧p.2<q.2)
theorem Kk {p:UInt8->Bool}{c:UInt8}(hp:p c=false)(s r:Bt):dO p (s++c :: r)=dO p s:=by
 induction s with
 |nil=>rw [List.nil_append,iy,if_neg (by simp [hp])];rfl
 |cons d s ih=>
  rw [List.cons_append,iy,iy];by_cases h:p d=true
  ·rw [if_pos h,if_pos h,ih]
  ·rw [if_neg h,if_neg h]
theorem M8 {c:UInt8}(h:dh c=true):bN c=false∧bX c=false∧fB c=false:=by
 unfold dh at h;simp only [Bool.or_eq_true,decide_eq_true_eq]at h;unfold bN fB bX;simp only [Bool.or_eq_false_iff,Bool.and_eq_false_iff,decide_eq_false_iff_not];omega
theorem M9 {back:Bool}{out:Bt}{i:Nat}{s:Bt}{r:Bt ×Nat}(h:dZ back out i s=some r)(x:Bt):dZ back out i (s++x)=some r:=by
 induction s generalizing back out i with
 |nil=>cases back <;> simp [dZ]at h
 |cons c s ih=>
  rw [dZ]at h;rw [List.cons_append,dZ];split at h
  ·cases h
  ·rename_i h32
   rw [if_neg h32];split at h
   ·rename_i hb
    rw [if_pos hb];split at h
    ·exact ih h
    ·cases h
   ·rename_i hb
    rw [if_neg hb];split at h
    ·rename_i h92
     rw [if_pos h92];exact ih h
    ·rename_i h92
     rw [if_neg h92];split at h
     ·rename_i Jt
      rw [if_pos Jt];exact h
     ·rename_i Jt
      rw [if_neg Jt];exact ih h
theorem Dr:∀m∈dG,m.length=2:=by decide
theorem Na (c d:UInt8)(hd:dh d=true):[c,d] ∉ dG:=by
 intro h;have hall:(dG.all fun m=> !dh (m.getD 1 0))=true:=by decide
 have:=List.all_eq_true.1 hall _ h;simp [hd]at this
theorem QW {s:Bt}{kd:Int}{t:Bt}{n:Nat}{d:UInt8}(x:Bt)(hd:dh d=true)(h:fq s=.inr (kd,t,n)):fq (s++d :: x)=.inr (kd,t,n):=by
 obtain⟨hi,hdg,_⟩:=M8 hd;cases s with
 |nil=>simp [fq]at h
 |cons c r=>
  have tJ:=nK bN (c :: r);have hrd:=nK bX (c :: r);rw [fq]at h;rw [List.cons_append,fq,<-List.cons_append,Kk hi,Kk hdg,List.take_append_of_le_length tJ,List.take_append_of_le_length hrd];split at h
  ·rename_i hl
   rw [if_pos hl];exact h
  ·rename_i hl
   rw [if_neg hl];split at h
   ·rename_i hg
    rw [if_pos hg];exact h
   ·rename_i hg
    rw [if_neg hg];split at h
    ·rename_i Jt
     rw [if_pos Jt];split at h
     ·cases h
     ·rename_i t' n' hq
      have hq':mO (c :: r++d :: x)=some (t',n'):=by
       unfold mO at hq ⊢;simp only [List.cons_append,List.drop_succ_cons,List.drop_zero]at hq ⊢;exact M9 hq _
      rw [hq'];exact h
    ·rename_i Jt
     rw [if_neg Jt];cases r with
     |nil=>
      have h2:¬ [c]∈dG:=fun hm=>by have:=Dr _ hm;simp at this
      rw [if_neg (by simpa using h2)]at h;rw [if_neg (show ¬(([c]++d :: x:Bt).take 2∈dG)from Na c d hd)];exact h
     |cons e r=>exact h
theorem QX {q:Bool}{s:Bt}(h:dW q s<s.length)(x:Bt):dW q (s++x)=dW q s:=by
 induction s generalizing q with
 |nil=>simp at h
 |cons c s ih=>
  rw [List.cons_append];cases q with
  |false=>
   rw [dW]at h ⊢;rw [dW];by_cases hb:dh c=true
   ·rw [if_pos hb]at h ⊢;rw [if_pos hb,ih (by simpa using h)]
   ·rw [if_neg hb]at h ⊢;rw [if_neg hb];by_cases Ti:c.toNat=35
    ·rw [if_pos Ti]at h ⊢;rw [if_pos Ti,ih (by simpa using h)]
    ·rw [if_neg Ti,if_neg Ti]
  |true=>
   rw [dW]at h ⊢;rw [dW];by_cases h10:c.toNat=10
   ·rw [if_pos h10]at h ⊢;rw [if_pos h10,ih (by simpa using h)]
   ·rw [if_neg h10]at h ⊢;rw [if_neg h10,ih (by simpa using h)]
theorem VG {q:Bool}{s:Bt}(h:s.length<=dW q s)(d:UInt8)(hd:d.toNat=10)(x:Bt):dW q (s++d :: x)=s.length+1+bP x:=by
 have hb:dh d=true:=by unfold dh;simp [hd]
 induction s generalizing q with
 |nil=>
  rw [List.nil_append];unfold bP;cases q with
  |false=>rw [dW,if_pos hb];simp;omega
  |true=>rw [dW,if_pos hd];simp;omega
 |cons c s ih=>
  rw [List.cons_append];cases q with
  |false=>
   rw [dW]at h ⊢;by_cases hb:dh c=true
   ·rw [if_pos hb]at h ⊢;rw [ih (by simpa using h)];simp;omega
   ·rw [if_neg hb]at h ⊢;by_cases Ti:c.toNat=35
    ·rw [if_pos Ti]at h ⊢;rw [ih (by simpa using h)];simp;omega
    ·rw [if_neg Ti]at h;simp at h
  |true=>
   rw [dW]at h ⊢;by_cases h10:c.toNat=10
   ·rw [if_pos h10]at h ⊢;rw [ih (by simpa using h)];simp;omega
   ·rw [if_neg h10]at h ⊢;rw [ih (by simpa using h)];simp;omega
theorem Kl:∀(f:Nat) (s:Bt) (p:Nat ×Nat) (out:List aH),s.length<f->(qE f s p out).2.2.2=0->
  ∃m e,qE f s p out=(out++m++[e],(0,0,0))∧e.kind=0∧e.text=[]∧m.length<=s.length∧(∀t∈m,Lj t.kind t.text)∧
   ∀(d:UInt8) (r:Bt) (F:Nat),d.toNat=10->s.length+1+r.length<F->∃F' q,r.length<F'∧qE F (s++d :: r) p out=qE F' r q (out++m)
 |0,s,p,out,hf,_=>by omega
 |f+1,s,p,out,hf,hok=>by
  have hsk:bP s<=s.length:=BI false s;rw [qE]at hok ⊢;by_cases hnil:s.drop (bP s)=[]
  ·rw [if_pos hnil]at hok ⊢;refine⟨[],_,by rw [List.append_nil],rfl,rfl,by simp,by simp,fun d r F hd hF=>⟨F,gq p (s++[d]),by omega,?_⟩⟩;have hall:s.length<=bP s:=by simpa using hnil
   have e1:bP (s++d :: r)=s.length+1+bP r:=VG hall d hd r;obtain⟨F0,rfl⟩:∃F0,F=F0+1:=⟨F - 1,by omega⟩
   have e2:(s++d :: r).drop (s.length+1+bP r)=r.drop (bP r):=by
    rw [List.append_cons,<-List.drop_drop,show s.length+1=(s++[d]).length by simp,List.drop_left]
   have e3:(s++d :: r).take (s.length+1+bP r)=(s++[d])++r.take (bP r):=by
    rw [List.append_cons,List.take_add,show s.length+1=(s++[d]).length by simp,List.take_left,List.drop_left]
   rw [qE,qE,e1,e2,e3,yg,List.append_nil]
  ·rw [if_neg hnil]at hok ⊢;have hlt:bP s<s.length:=by
    rcases Nat.lt_or_ge (bP s) s.length with h |h
    ·exact h
    ·exact absurd (List.drop_eq_nil_of_le h) hnil
   cases hn:fq (s.drop (bP s))with
   |inl e=>rw [hn]at hok;exact absurd hok (zk hn)
   |inr x=>
    obtain⟨kd,t,n⟩:=x;rw [hn]at hok;simp only at hok ⊢;by_cases h8:out.length=8192
    ·rw [if_pos h8]at hok;exact absurd (show(19:Int)=0 from hok) (by decide)
    ·rw [if_neg h8]at hok ⊢;obtain⟨n1,n2⟩:=BJ hn;obtain⟨m,e,h1,h2,h3,h4,h4',h5⟩:=Kl f _ _ _ (by simp only [List.length_drop]at n2 ⊢;omega) hok;rw [h1];refine⟨_ :: m,e,by rw [List.append_assoc,List.append_assoc,List.singleton_append,List.append_assoc,List.cons_append],h2,h3,?_,?_,fun d r F hd hF=>?_⟩
     ·simp only [List.length_drop,List.length_cons]at n2 h4 ⊢;omega
     ·intro x hx;rcases List.mem_cons.1 hx with rfl |hx
      ·exact QV hn
      ·exact h4' x hx
     ·obtain⟨F0,rfl⟩:∃F0,F=F0+1:=⟨F - 1,by omega⟩
      have hb:dh d=true:=by unfold dh;simp [hd]
      obtain⟨F',q,hF',h6⟩:=h5 d r F0 hd (by simp only [List.length_drop]at n2 ⊢;omega);refine⟨F',q,hF',?_⟩;have e1:bP (s++d :: r)=bP s:=QX hlt _;rw [qE,e1,List.drop_append_of_le_length hsk,List.take_append_of_le_length hsk,if_neg (by simp),QW r hb hn];simp only;rw [if_neg h8,List.drop_append_of_le_length n2,List.take_append_of_le_length n2,h6,List.append_assoc,List.singleton_append]
theorem Ym (s:Bt)(h:s.length<=65536):gH s=qE (s.length+1) s (1,1) []:=by unfold gH;rw [if_neg (by omega)]
def Yn (c:UInt8):Bt:=if c.toNat=92 then [92,92]else if c.toNat=34 then [92,34]else if c.toNat=10 then [92,110]else if c.toNat=9 then [92,116]else [c]
def QY (t:Bt):Bt:=34 :: (t.flatMap Yn++[34])
theorem aL {P:Program}{fn:Func}{t:Tmp}{T:TypeId}{tmps:Array Value}{w:World}{b:Nat}{cs:Array Value}{S:TypeId}{d:TypeDesc}(h:fn.results= #[.cell t T])(ht:tmps.getD t undef=pP b 0)(hb:w.heap[b]? =some (.cells cs S (0,0)))
  (hu:P.underlying T=some d) (hd:(match d with |.struct _ |.array _ _=>true |_=>false)=true) (hi:(P.info? T).map (·.size)=some cs.size:=by kernel_rfl):(results fn tmps).run P w=.ok (.agg cs) w:=by
 have h1:=run_loadVar_row (P:=P) w b S T cs (0,0) d hb hu hd hi;have e:tmps[t]?.getD undef=pP b 0:=by simpa using ht
 have h2:(asAddr (pP b 0)).run P w=.ok ⟨b,0,none⟩ w:=rfl;simp [results,h,e,h1,h2]
theorem Gs (q:Bool)(s:Bt):dW q (s.drop s.length)=0:=by
 rw [List.drop_length];cases q <;> rfl
theorem Km {s:Bt}{i:Nat}(h:i<s.length):
  (dh s[i]=true->dW false (s.drop i)=1+dW false (s.drop (i+1)))∧
  (s[i].toNat=35->dW false (s.drop i)=dW true (s.drop i))∧
  (s[i].toNat=10->dW true (s.drop i)=dW false (s.drop i))∧
  (s[i].toNat≠10->dW true (s.drop i)=1+dW true (s.drop (i+1)))∧
  (dh s[i]=false->s[i].toNat≠35->dW false (s.drop i)=0):=by
 rw [List.drop_eq_getElem_cons h];generalize s[i]=c;generalize s.drop (i+1)=r;refine⟨fun h=>?_,fun h=>?_,fun h=>?_,fun h=>?_,fun h1 h2=>?_⟩
 ·rw [dW,if_pos h];omega
 ·have hb:¬dh c=true:=by unfold dh;simp;omega
  rw [dW,dW,if_neg hb,if_pos h,if_neg (by omega)]
 ·have hb:dh c=true:=by unfold dh;simp;omega
  rw [dW,dW,if_pos hb,if_pos h]
 ·rw [dW,if_neg h];omega
 ·rw [dW,if_neg (by simp [h1]),if_neg h2]
theorem Gt {s:Bt}{i:Nat}(h:i<s.length)(out:Bt)(j:Nat):
  (s[i].toNat=34->dZ false out j (s.drop i)=some (out,j+2))∧
  (s[i].toNat<32->dZ false out j (s.drop i)=none)∧
  (32<=s[i].toNat->s[i].toNat≠34->s[i].toNat≠92->dZ false out j (s.drop i)=dZ false (out++[s[i]]) (j+1) (s.drop (i+1)))∧
  (s[i].toNat=92->dZ false out j (s.drop i)=dZ true out (j+1) (s.drop (i+1)))∧
  (∀e,yh s[i]=some e->dZ true out j (s.drop i)=dZ false (out++[e]) (j+1) (s.drop (i+1)))∧
  (yh s[i]=none->dZ true out j (s.drop i)=none):=by
 rw [List.drop_eq_getElem_cons h];generalize s[i]=c;generalize s.drop (i+1)=r;refine⟨fun h=>?_,fun h=>?_,fun h1 h2 h3=>?_,fun h=>?_,fun e he=>?_,fun he=>?_⟩
 ·rw [dZ,if_neg (by omega),if_neg (by simp),if_neg (by omega),if_pos h]
 ·rw [dZ,if_pos h]
 ·rw [dZ,if_neg (by omega),if_neg (by simp),if_neg h3,if_neg h2]
 ·rw [dZ,if_neg (by omega),if_neg (by simp),if_pos h]
 ·have h32:¬c.toNat<32:=by
   unfold yh at he;intro hl;rw [if_neg (by omega),if_neg (by omega),if_neg (by omega),if_neg (by omega)]at he;cases he
  rw [dZ,if_neg h32,if_pos rfl,he]
 ·rw [dZ,if_pos rfl,he];split <;> rfl
theorem Kn (q:Bool)(out:Bt)(j:Nat)(s:Bt):dZ q out j (s.drop s.length)=none:=by
 rw [List.drop_length];cases q <;> rfl
theorem QZ (c:UInt8):(c.toNat=92∧yh c=some 92)∨(c.toNat=34∧yh c=some 34)∨(c.toNat=110∧yh c=some 10)∨(c.toNat=116∧yh c=some 9)∨
  ((c.toNat≠92∧c.toNat≠34∧c.toNat≠110∧c.toNat≠116)∧yh c=none):=by
 unfold yh;by_cases h1:c.toNat=92
 ·exact .inl ⟨h1,by rw [if_pos h1]⟩
 ·by_cases h2:c.toNat=34
  ·exact .inr (.inl ⟨h2,by rw [if_neg h1,if_pos h2]⟩)
  ·by_cases h3:c.toNat=110
   ·exact .inr (.inr (.inl ⟨h3,by rw [if_neg h1,if_neg h2,if_pos h3]⟩))
   ·by_cases h4:c.toNat=116
    ·exact .inr (.inr (.inr (.inl ⟨h4,by rw [if_neg h1,if_neg h2,if_neg h3,if_pos h4]⟩)))
    ·exact .inr (.inr (.inr (.inr ⟨⟨h1,h2,h3,h4⟩,by rw [if_neg h1,if_neg h2,if_neg h3,if_neg h4]⟩)))
theorem FX (p:UInt8->Bool)(s:Bt)(k:Nat)(hk:k<=s.length)(h:∀j (hj:j<s.length),j<k->p s[j]=true)(hn:k=s.length∨∃hk:k<s.length,p s[k]=false):dO p s=k:=by
 rcases hn with rfl |⟨hk,hf⟩
 ·exact yc (fun j hj=>h j hj hj)
 ·exact BH hk (fun j hj=>h j (by omega) hj) hf
theorem zZ {α:Type}{l:List α}{x:α}{k:Nat}(hk:k<l.length)(h:x ∉ l.take k)(hx:x≠l[k]):x ∉ l.take (k+1):=by
 intro hm;rw [List.take_succ_eq_append_getElem hk,List.mem_append]at hm;rcases hm with hm |hm
 ·exact h hm
 ·exact hx (by simpa using hm)
def Gu (s:Bt):Prop:=∀c∈s,c.toNat≠10
theorem Gv {p:UInt8->Bool}(hp:∀c,p c=true->c.toNat≠10)(s:Bt):Gu (s.take (dO p s)):=by
 induction s with
 |nil=>intro c hc;simp at hc
 |cons a s ih=>
  rw [iy];by_cases h:p a=true
  ·rw [if_pos h,List.take_succ_cons];intro c hc;rcases List.mem_cons.1 hc with rfl |hc
   ·exact hp _ h
   ·exact ih c hc
  ·rw [if_neg h];intro c hc;simp at hc
theorem JB {back:Bool}{out:Bt}{i:Nat}{s t:Bt}{n:Nat}(h:dZ back out i s=some (t,n)):Gu (s.take (n - i - 1)):=by
 induction s generalizing back out i with
 |nil=>cases back <;> simp [dZ]at h
 |cons c s ih=>
  have hle:=vg h;simp only at hle;rw [dZ]at h;obtain⟨k,hk⟩:∃k,n - i - 1=k+1:=⟨n - i - 2,by omega⟩
  have hk':n - (i+1) - 1=k:=by omega
  rw [hk,List.take_succ_cons];split at h
  ·cases h
  ·rename_i h32
   have more:(∀o b,dZ b o (i+1) s=some (t,n)->Gu (c :: s.take k)):=by
    intro o b hq x hx;rcases List.mem_cons.1 hx with rfl |hx
    ·omega
    ·have:=ih hq;rw [hk']at this;exact this x hx
   cases back with
   |true=>
    rw [if_pos rfl]at h;split at h
    ·exact more _ _ h
    ·cases h
   |false=>
    rw [if_neg (by simp)]at h;split at h
    ·exact more _ _ h
    ·split at h
     ·injection h with h;simp only [Prod.mk.injEq]at h;obtain⟨_,rfl⟩:=h;obtain rfl:k=0:=by omega
      intro x hx;simp at hx;subst hx;omega
     ·exact more _ _ h
theorem JC (c:UInt8)(h:bN c=true):c.toNat≠10:=by
 unfold bN fB bX at h;simp only [Bool.or_eq_true,Bool.and_eq_true,decide_eq_true_eq]at h;omega
theorem Ll (c:UInt8)(h:bX c=true):c.toNat≠10:=by
 unfold bX at h;simp only [Bool.and_eq_true,decide_eq_true_eq]at h;omega
theorem Lm {s:Bt}{kd:Int}{t:Bt}{n:Nat}(h:fq s=.inr (kd,t,n)):Gu (s.take n):=by
 cases s with
 |nil=>simp [fq]at h
 |cons c r=>
  have hi:=Gv JC (c :: r);have hd:=Gv Ll (c :: r);rw [fq]at h;split at h
  ·repeat' split at h
   all_goals first |cases h;done |(injection h with h;simp only [Prod.mk.injEq]at h;rw [<-h.2.2];exact hi)
  ·split at h
   ·repeat' split at h
    all_goals first |cases h;done |(injection h with h;simp only [Prod.mk.injEq]at h;rw [<-h.2.2];exact hd)
   ·split at h
    ·rename_i Jt
     split at h
     ·cases h
     ·rename_i t' n' hq
      split at h
      ·cases h
      ·injection h with h;simp only [Prod.mk.injEq]at h;obtain⟨_,_,rfl⟩:=h;unfold mO at hq;rw [List.drop_succ_cons,List.drop_zero]at hq;have hle:=vg hq;simp only at hle;have hn:=JB hq;obtain⟨m,rfl⟩:∃m,n'=m+1:=⟨n' - 1,by omega⟩
       rw [List.take_succ_cons];intro x hx;rcases List.mem_cons.1 hx with rfl |hx
       ·omega
       ·exact hn x (by simpa using hx)
    ·split at h
     ·rename_i hp
      injection h with h;simp only [Prod.mk.injEq]at h;rw [<-h.2.2];have hall:(dG.all fun m=>m.all fun c=>decide (c.toNat≠10))=true:=by decide
      rw [List.all_eq_true]at hall;have:=hall _ hp;rw [List.all_eq_true]at this;intro x hx;exact of_decide_eq_true (this x hx)
     ·split at h
      ·rename_i hs
       injection h with h;simp only [Prod.mk.injEq]at h;rw [<-h.2.2];have hall:(fD.all fun c=>decide (c.toNat≠10))=true:=by decide
       rw [List.all_eq_true]at hall;intro x hx;simp at hx;subst hx;exact of_decide_eq_true (hall _ hs)
      ·cases h
theorem Nb (p:Nat ×Nat){s:Bt}(h:Gu s):gq p s=(p.1,p.2+s.length):=by
 induction s generalizing p with
 |nil=>rfl
 |cons c s ih=>
  have h0:gq p (c :: s)=gq (uO p c) s:=rfl;rw [h0,ih _ (fun x hx=>h x (by simp [hx]))];unfold uO;rw [if_neg (h c (by simp))];simp only [List.length_cons,Prod.mk.injEq,true_and];omega
theorem Nc:∀(f:Nat) (s:Bt) (p:Nat ×Nat) (out:List aH),out.length<=8192->(qE f s p out).1.length<=8193
 |0,s,p,out,h=>by simp [qE]
 |f+1,s,p,out,h=>by
  rw [qE];split
  ·simp;omega
  ·split
   ·simp
   ·split
    ·simp
    ·rename_i h8
     exact Nc f _ _ _ (by simp;omega)
theorem Yo (s:Bt):(gH s).1.length<=8193:=by
 unfold gH;split
 ·simp
 ·exact Nc _ _ _ _ (by simp)
end Go.Proofs.YtncnnedlgofccaaGreatDoor
