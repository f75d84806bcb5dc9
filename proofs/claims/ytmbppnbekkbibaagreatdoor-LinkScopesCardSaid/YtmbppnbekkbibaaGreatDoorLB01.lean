/- GA, GB, GC, GD, YA -/
import Derived.WalkKit
import Derived.OpenShut
import Derived.WalkSpells
import Derived.WalkLawsBesides
import Derived.Maps.AppendAt
import Derived.Deep.AppendLies
import Derived.Deep.Draws
import Derived.Lib.ItoaNum
import Derived.Lib.ItoaMem
import Derived.Lib.AtoiAll
import Derived.Maps.OwnSet
import Derived.ProofKit
import Derived.SliceStrings
import Derived.SizedLaws
import Derived.Deep.RegionLaw
import Derived.Deep.RegionHeld
import Derived.Test.YtmbppnbekkbibaaGreatDoorProg
import Derived.Deep.Slices
import Derived.Lib.SmallJoins
set_option linter.unusedSimpArgs false
set_option linter.unusedVariables false
namespace Go.Proofs.YtmbppnbekkbibaaGreatDoor
open Go.RowKit
def In64 (n:Int):Prop:= -9223372036854775808≤n∧n≤9223372036854775807
theorem F8 {n:Int} (h:In64 n):(Lit.int .i64 n).wf=true:=WalkArith.wf_i64 h
theorem MW {n:Int} (h:(Lit.int .i64 n).wf=true):In64 n:=by
 exact bounds_i64 h
def zz (n:Int):Nat:=if n<0 then(-2*n - 1).toNat else(2*n).toNat
def Fits (f u:Nat):Prop:=u<18446744073709551616∧u<128 ^ (f+1)
theorem Fits.pos {f u:Nat} (h:Fits f u) (hu:¬u<128):∃g,f=g+1:=by
 cases f with
 | zero=>exact absurd h.2 (by omega)
 | succ g=>exact⟨g,rfl⟩
theorem Fits.next {f u:Nat} (h:Fits (f+1) u):Fits f (u / 128):=by
 obtain⟨h1,h2⟩:=h;refine⟨by omega, ?_⟩;rw [Nat.pow_succ]at h2;exact(Nat.div_lt_iff_lt_mul (by decide)).2 h2
def uz (u:Nat):Int:=if u % 2=0 then(u / 2:Nat)else -1 - (u / 2:Nat)
def F9 (u x k:Nat):Prop:=u<128 ^ k∧x<128∧(k≤8∨k=9∧x≤1)
theorem F9.lt {u x k:Nat} (h:F9 u x k):u+x*128 ^ k<18446744073709551616∧u+x*128 ^ k<128 ^ (k+1):=by
 obtain⟨h1,h2,h3⟩:=h;have hk:u+x*128 ^ k<(x+1)*128 ^ k:=by rw [Nat.add_mul];omega
 refine⟨?_, ?_⟩
 ·rcases h3 with h3 | ⟨rfl,h3⟩
  ·have:(x+1)*128 ^ k≤128*128 ^ 8:=Nat.mul_le_mul (by omega) (Nat.pow_le_pow_right (by decide) h3);have e:128*128 ^ 8<18446744073709551616:=by decide
   omega
  ·have:(x+1)*128 ^ 9≤2*128 ^ 9:=Nat.mul_le_mul (by omega) (Nat.le_refl _);have e:2*128 ^ 9=18446744073709551616:=by decide
   omega
 ·rw [Nat.pow_succ];have:(x+1)*128 ^ k≤128*128 ^ k:=Nat.mul_le_mul (by omega) (Nat.le_refl _);omega
section
variable {l:List UInt8} {k u x:Nat}
end
theorem hid {p:Prop} (h:p):Hid p:=h
theorem iU {w:World} {B:Nat} (h:B≤w.heap.size) (o:Obj):B≤(w.alloc o).heap.size:=by simp;omega
theorem mY (b off i:Nat):(⟨b,off,none⟩:Addr).add i=⟨b,off+i,none⟩:=by
 unfold Addr.add;split <;> simp_all
def Sl (w:World) (B k:Nat) (v:Value) (xs:List Value):Prop:=
 ∃(A:Option Addr) (n c:Nat),v= .slice A n c∧xs.length=n*k∧n≤c∧c≤maxLen∧
  (0<n→∃b off,A=some ⟨b,off,none⟩∧b<B∧∀(j:Nat) u,xs[j]? =some u→w.cell? ⟨b,off+j,none⟩=some u)
section
variable {w w':World} {B B' k:Nat} {v:Value} {xs:List Value}
theorem Sl.nil (w:World) (B k:Nat):Sl w B k (.slice none 0 0) []:=
 ⟨none,0,0,rfl,by simp,Nat.le_refl _,Nat.zero_le _,fun h=>absurd h (by omega)⟩
theorem Sl.keep (h:Sl w B k v xs) (hk:∀b o,b<B→w'.cell? ⟨b,o,none⟩=w.cell? ⟨b,o,none⟩):Sl w' B k v xs:=by
 obtain⟨A,n,c,hv,hl,hn,hc,hx⟩:=h;refine⟨A,n,c,hv,hl,hn,hc,fun h0=> ?_⟩;obtain⟨b,off,hA,hb,hcell⟩:=hx h0;exact⟨b,off,hA,hb,fun j u hu=>(hk _ _ hb).trans (hcell j u hu)⟩
theorem Sl.more (h:Sl w B k v xs) (hB:B≤B'):Sl w B' k v xs:=by
 obtain⟨A,n,c,hv,hl,hn,hc,hx⟩:=h;refine⟨A,n,c,hv,hl,hn,hc,fun h0=> ?_⟩;obtain⟨b,off,hA,hb,hcell⟩:=hx h0;exact⟨b,off,hA,by omega,hcell⟩
theorem Sl.below (h:Sl w B k v xs) (hb:Below B w w'):Sl w' B k v xs:=h.keep fun b o hp=>hb.cell (p:=⟨b,o,none⟩) hp
theorem Sl.drew (h:Sl w B k v xs):Sl w.drew B k v xs:=h
theorem Sl.drewN (h:Sl w B k v xs) (n:Nat):Sl (w.drewN n) B k v xs:=h
theorem Sl.alloc (h:Sl w B k v xs) (hB:B≤w.heap.size) (o:Obj):Sl (w.alloc o) B k v xs:=
 h.keep fun b o' hp=>World.cell?_alloc_past _ _ _ (by show b<w.heap.size;omega)
theorem Sl.qX {base:Nat} {e:TypeId} {n:Nat} (h:w.ownsRow base e k v n xs):Sl w w.heap.size k v xs:=by
 rcases h.2 with⟨rfl,rfl⟩ | ⟨g,cap,cur,rfl,hb,hg,hn,hm,hs,htake⟩
 ·exact⟨none,0,0,rfl,h.1,Nat.le_refl _,Nat.zero_le _,fun h=>absurd h (by omega)⟩
 ·refine⟨_,n,cap,rfl,h.1,hn,hm,fun _=>⟨g,0,rfl,(Array.getElem?_eq_some_iff.1 hg).1,fun j u hu=> ?_⟩⟩;have:=h.cells (g:=g) rfl j u hu;rwa [mY]at this
theorem Sl.lt (h:Sl w w.heap.size k v xs):Sl w w.heap.size k v xs:=h
end
def iF (P:Program) (t e:TypeId) (z:Value) (size bytes:Nat):Prop:=
 P.underlying t=some (.slice e)∧(P.info? e).map (fun i=>(i.zero,i.size,i.bytes))=some (some z,size,bytes)∧z.cells.size=size∧0<size
theorem xL {w w':World} (h:w.grownBy w' none):Below w.heap.size w w':=
 ⟨h.os,h.tape,h.output,h.size,fun k hk=>h.block k hk (by simp)⟩
theorem xM {w w':World} (h:Below w.heap.size w w') (row:Option Nat):w.grownBy w' row:=
 ⟨h.os,h.tape,h.output,h.size,fun k hk _=>h.block k hk⟩
theorem own_below {w w':World} {base:Nat} {e:TypeId} {size:Nat} {v:Value} {n:Nat} {xs:List Value} (h:w.ownsRow base e size v n xs) (hb:Below w.heap.size w w'):w'.ownsRow base e size v n xs:=
 h.kept (xM hb none) (by cases hv:v.ownBlock <;> simp)
section
variable {P:Program}
theorem Ga (w:World) (base:Nat) {t e ty:TypeId} {z:Value} {size bytes:Nat} (hE:iF P t e z size bytes) {v:Value} {n:Nat} {xs:List Value} (hown:w.ownsRow base e size v n xs)
  {B:Nat} {y:Value} {news:List Value} (hy:Sl w B size y news) (h1:∀u∈news,u.oneCell'=true)
  (h63:n*size+news.length≤maxLen) (hbytes:(n*size+news.length)*bytes≤140737488355328) (hbase:base≤w.heap.size):
  ∃v' w' n',(Builtin.append_ #[t,t] ty #[v,y]).run P w= .ok v' w'∧w'.ownsRow base e size v' n' (xs++news)∧w.grownBy w' v.ownBlock∧(v'.ownBlock=v.ownBlock∨v'.ownBlock=some w.heap.size):=by
 obtain⟨ht,hinfo,hzs,hsz⟩:=hE;obtain⟨i,hi,hz,hs,hb⟩:=info_parts hinfo;obtain⟨A,m,c,rfl,hl,hn,hc,hx⟩:=hy;have hnm:n+m≤n*size+news.length:=by
  rw [hl, ←Nat.add_mul];exact Nat.le_mul_of_pos_right _ hsz
 rcases A with _ | ad
 ·have hm:m=0:=by
   rcases Nat.eq_zero_or_pos m with h0 | h0
   ·exact h0
   ·obtain⟨b,off,hA, _⟩:=hx h0;cases hA
  subst hm;obtain rfl:news=[]:=List.eq_nil_of_length_eq_zero (by simpa using hl);refine⟨v,w,n, ?_,by simpa using hown,World.grownBy.refl w _, .inl rfl⟩;rcases hown.2 with⟨rfl,rfl⟩ | ⟨g,cap,cur,rfl, _, _,hnc, _⟩
  ·simp [Builtin.append_,run_underlying ht,sizeOf,typeInfo,hi,Builtin.lenOf,Builtin.firstCells]
  ·simp [Builtin.append_,run_underlying ht,sizeOf,typeInfo,hi,Builtin.lenOf,Builtin.firstCells,hnc,storeCells]
 ·have hcells:∀j u,news[j]? =some u→w.cell? (ad.add j)=some u:=by
   intro j u hu;have h0:0<m:=by
    rcases Nat.eq_zero_or_pos m with h0 | h0
    ·subst h0;obtain rfl:news=[]:=List.eq_nil_of_length_eq_zero (by simpa using hl);simp at hu
    ·exact h0
   obtain⟨b,off,hA, _,hcell⟩:=hx h0;injection hA with hA;subst hA;rw [mY];exact hcell j u hu
  have hb2:(n+m)*bytes≤140737488355328:=Nat.le_trans (Nat.mul_le_mul_right _ hnm) hbytes;obtain⟨v',w',hrun,h2,h3, _,h5⟩:=run_append_own_at (P:=P) w base t ty e i z size bytes ht hi hz hs hb hzs hsz v n xs hown ad m c news hl hcells h1 (by omega) hb2 hbase;exact⟨v',w',n+m,hrun,h2,h3,h5⟩
theorem iG {w:World} {ops:Array Oper} {rest:List Oper} {o:Oper} {a:Act} {Q:Exit→Act→World→Prop} (hgd:o.guard=none) (s x:Operand) (t:TypeId)
  (ho:o.op= .call { callee:= .builtin .append,args:= #[s,x],argTypes:= #[t,t]})
  (base:Nat) {e:TypeId} {z:Value} {size bytes:Nat} (hE:iF P t e z size bytes) (v y:Value) (hs:a.eval s=v) (hx:a.eval x=y)
  {n:Nat} {xs:List Value} (hown:w.ownsRow base e size v n xs) {B:Nat} {news:List Value} (hy:Sl w B size y news) (h1:∀u∈news,u.oneCell'=true)
  (h63:n*size+news.length≤maxLen) (hbytes:(n*size+news.length)*bytes≤140737488355328) (hbase:base≤w.heap.size)
  (h:∀v' w' n',w'.ownsRow base e size v' n' (xs++news)→w.grownBy w' v.ownBlock→(v'.ownBlock=v.ownBlock∨v'.ownBlock=some w.heap.size)→wpList P ops Q rest (a.put o.dst v') w'):
  wpList P ops Q (o :: rest) a w:=by
 refine wpList_plain hgd fun K hK=> ?_;obtain⟨v',w',n',hrun,h2,h3,h4⟩:=Ga (P:=P) (ty:=o.type) w base hE hown hy h1 h63 hbytes hbase;unfold Oper.wp execOp;simp only [ho,resolve,invoke,builtin,Sem.run_bind,Sem.run_pure,Result.andThen_ok,List.map_toArray,List.map_cons,List.map_nil,hs,hx,hrun];exact hK _ _ (h v' w' n' h2 h3 h4)
end
theorem bF {B:Nat} (w:World) (n:Nat):Below B w (w.drewN n):=⟨rfl,rfl,rfl,Nat.le_refl _,fun _ _=>rfl⟩
theorem fT (w:World) (cs:Array Value) (t:TypeId) (k n:Nat) (hs:cs.size=n*k) (hn:n≤maxLen):
  Sl (w.alloc (.cells cs t)) (w.heap.size+1) k (.slice (some ⟨w.heap.size,0,none⟩) n n) cs.toList:=by
 refine⟨_,n,n,rfl,by simpa using hs,Nat.le_refl _,hn,fun _=>⟨w.heap.size,0,rfl,by omega,fun j u hu=> ?_⟩⟩;rw [cell_of_row _ _ _ cs t (0,0) (heap_alloc_new w _)];simpa using hu
theorem El (a b:List UInt8):(⟨a.toArray⟩:ByteArray)++⟨b.toArray⟩=⟨(a++b).toArray⟩:=by
 apply ByteArray.ext;rw [ByteArray.data_append];exact List.append_toArray _ _
abbrev sv (l:List UInt8):Value:= .string ⟨l.toArray⟩
theorem Hu (a b:List UInt8):Value.string ((⟨a.toArray⟩:ByteArray)++⟨b.toArray⟩)=sv (a++b):=by rw [El]
def bv (l:List UInt8):List Value:=l.map fun b=> .int .u8 (b.toNat:Int)
theorem kX (l:List UInt8):(bv l).length=l.length:=by simp [bv]
theorem Hw (a b:List UInt8):bv (a++b)=bv a++bv b:=by simp [bv]
theorem O8 (l:List UInt8):∀u∈bv l,u.oneCell'=true:=by
 intro u hu;obtain⟨b, _,rfl⟩:=List.mem_map.1 hu;rfl
theorem O9 (l:List UInt8) (i:Nat) (h:i<l.length):(bv l)[i]? =some (.int .u8 (l[i].toNat:Int)):=by simp [bv,h]
def Bs (w:World) (B:Nat) (v:Value) (l:List UInt8):Prop:=Sl w B 1 v (bv l)
theorem Bs.open_ {w:World} {B:Nat} {v:Value} {l:List UInt8} (h:Bs w B v l):
  ∃(A:Option Addr) (c:Nat),v= .slice A l.length c∧l.length≤c∧c≤maxLen∧
   (0<l.length→∃b off,A=some ⟨b,off,none⟩∧b<B∧∀(j:Nat) (hj:j<l.length),w.cell? ⟨b,off+j,none⟩=some (.int .u8 (l[j].toNat:Int))):=by
 obtain⟨A,n,c,rfl,hl,hn,hc,hx⟩:=h;obtain rfl:l.length=n:=by rw [←kX l,hl];omega
 refine⟨A,c,rfl,hn,hc,fun h0=> ?_⟩;obtain⟨b,off,hA,hb,hcell⟩:=hx h0;exact⟨b,off,hA,hb,fun j hj=>hcell j _ (O9 l j hj)⟩
theorem Bs.dJ {w:World} {B:Nat} {A:Option Addr} {n c:Nat} {l:List UInt8} (h:Bs w B (.slice A n c) l) {k:Nat} (hk:k≤l.length):Bs w B (.slice A k c) (l.take k):=by
 obtain⟨A',n',c',hv,hl,hn,hc,hx⟩:=h;injection hv with h1 h2 h3;subst h1 h2 h3;rw [kX]at hl;refine⟨A,k,c,rfl,by rw [kX,List.length_take];omega,by omega,hc,fun h0=> ?_⟩;obtain⟨b,off,hA,hb,hcell⟩:=hx (by omega);refine⟨b,off,hA,hb,fun j u hu=>hcell j u ?_⟩;unfold bv at hu ⊢;rw [List.map_take,List.getElem?_take]at hu;split at hu
 ·exact hu
 ·cases hu
theorem zC {P:Program} {w:World} {B:Nat} {v:Value} {l:List UInt8} (h:Bs w B v l) (src e dst:TypeId) (hs:P.underlying src=some (.slice e)) (he:P.underlying e=some (.int .u8)) (hd:P.underlying dst=some .string):
  (convert src dst v).run P w= .ok (.string ⟨l.toArray⟩) w:=by
 obtain⟨A,c,rfl,hn,hc,hx⟩:=h.open_;by_cases h0:l.length=0
 ·obtain rfl:l=[]:=List.eq_nil_of_length_eq_zero h0;rw [run_convert_bytes_string w src dst e _ _ c hs he hd];cases A with
  | none=>simp [Conv.bytesToString,ByteArray.empty,ByteArray.emptyWithCapacity];rfl
  | some ad=>
   exact(run_bytesToString w ad 0 c [] (run_loadCells_list (P:=P) w ad [] (by simp))).trans rfl
 ·obtain⟨b,off,rfl,hb,hcell⟩:=hx (by omega);rw [run_convert_bytes_arg (P:=P) w src e hs he b off l.length c (l.map fun x=>(x.toNat:Int)) (by simp) (fun i hi=>by rw [hcell i hi];simp [hi]) dst hd];congr 2;simp [strOfNums,Function.comp_def]
def lq (w:World) (base:Nat) (e:TypeId) (v:Value) (l:List UInt8):Prop:=∃n,w.ownsRow base e 1 v n (bv l)
section
variable {w w':World} {base:Nat} {e:TypeId} {v:Value} {l:List UInt8}
theorem lq.nil (w:World) (base:Nat) (e:TypeId):lq w base e (.slice none 0 0) []:=⟨0,World.ownsRow_nil _ _ _ _⟩
theorem lq.bs (h:lq w base e v l):Bs w w.heap.size v l:=by obtain⟨n,h⟩:=h;exact Sl.qX h
theorem lq.below (h:lq w base e v l) (hb:Below w.heap.size w w'):lq w' base e v l:=by obtain⟨n,h⟩:=h;exact⟨n,own_below h hb⟩
theorem lq.alloc (h:lq w base e v l) (o:Obj):lq (w.alloc o) base e v l:=by obtain⟨n,h⟩:=h;exact⟨n,h.alloc o⟩
theorem lq.drewN (h:lq w base e v l) (k:Nat):lq (w.drewN k) base e v l:=h
theorem lq.drew (h:lq w base e v l):lq w.drew base e v l:=h
theorem lq.lt (h:lq w base e v l):∀k,v.ownBlock=some k→base≤k∧k<w.heap.size:=by obtain⟨n,h⟩:=h;exact h.lt
end
theorem Bs.below {w w':World} {B:Nat} {v:Value} {l:List UInt8} (h:Bs w B v l) (hb:Below B w w'):Bs w' B v l:=Sl.below h hb
theorem Bs.alloc {w:World} {B:Nat} {v:Value} {l:List UInt8} (h:Bs w B v l) (hB:B≤w.heap.size) (o:Obj):Bs (w.alloc o) B v l:=Sl.alloc h hB o
theorem Bs.more {w:World} {B B':Nat} {v:Value} {l:List UInt8} (h:Bs w B v l) (hB:B≤B'):Bs w B' v l:=Sl.more h hB
theorem jT {P:Program} {w:World} {ops:Array Oper} {rest:List Oper} {o:Oper} {a:Act} {Q:Exit→Act→World→Prop} (hgd:o.guard=none) (s x:Operand) (t:TypeId)
  (ho:o.op= .call { callee:= .builtin .append,args:= #[s,x],argTypes:= #[t,t]})
  (base:Nat) {e:TypeId} {z:Value} (hE:iF P t e z 1 1) (v y:Value) (hs:a.eval s=v) (hx:a.eval x=y)
  {l:List UInt8} (hown:lq w base e v l) {B:Nat} {m:List UInt8} (hy:Bs w B y m)
  (hlen:l.length+m.length≤140737488355328) (hbase:base≤w.heap.size)
  (h:∀v' w',lq w' base e v' (l++m)→w.grownBy w' v.ownBlock→(v'.ownBlock=v.ownBlock∨v'.ownBlock=some w.heap.size)→wpList P ops Q rest (a.put o.dst v') w'):
  wpList P ops Q (o :: rest) a w:=by
 obtain⟨n,hown⟩:=hown;have hn:n=l.length:=by have:=hown.1;rw [kX]at this;omega
 subst hn
 exact iG hgd s x t ho base hE v y hs hx hown hy (O8 _) (by simp only [kX,maxLen];omega) (by rw [kX];omega) hbase
  (fun v' w' n' h1 h2 h3=>h v' w' ⟨n',by rw [Hw];exact h1⟩ h2 h3)
theorem lu {B:Nat} {a w w':World} {base:Nat} {e:TypeId} {v:Value} {l:List UInt8} (h:Below B a w) (hown:lq w base e v l) (hg:w.grownBy w' v.ownBlock) (hB:B≤base) (hs:B≤w.heap.size):Below B a w':=
 h.grown hg hs fun k hk=>Nat.le_trans hB (hown.lt k hk).1
theorem xO (w:World) (x:Int) (t:TypeId) (h:0≤x∧x<256):Bs (w.alloc (.cells #[.int .u8 x] t)) (w.heap.size+1) (.slice (some ⟨w.heap.size,0,none⟩) 1 1) [UInt8.ofNat x.toNat]:=by
 have h1:=fT w #[.int .u8 x] t 1 1 rfl (by decide);have e:bv [UInt8.ofNat x.toNat]=[.int .u8 x]:=by
  unfold bv;simp only [List.map_cons,List.map_nil,UInt8.toNat_ofNat'];congr 2;omega
 unfold Bs;rw [e];exact h1
def BX (c:UInt8):Bool:=decide (48≤c.toNat) && decide (c.toNat≤57)
theorem ji {c:UInt8}:BX c=true↔48≤c.toNat∧c.toNat≤57:=by simp [BX]
def Gb (n:Nat) (c:UInt8):Nat:=10*n+(c.toNat - 48)
def dD (acc:Nat) (l:List UInt8):Nat:=l.foldl Gb acc
theorem jk (acc:Nat):dD acc []=acc:=by unfold dD;rw [List.foldl_nil]
theorem iK (acc:Nat) (c:UInt8) (r:List UInt8):dD acc (c :: r)=dD (10*acc+(c.toNat - 48)) r:=by
 unfold dD;rw [List.foldl_cons];unfold Gb;exact Eq.refl _
theorem xP (a b:List UInt8) (acc:Nat):dD acc (a++b)=dD (dD acc a) b:=by unfold dD;rw [List.foldl_append]
theorem sF (a:List UInt8) (c:UInt8) (acc:Nat):dD acc (a++[c])=10*dD acc a+(c.toNat - 48):=by
 rw [xP,iK,jk]
theorem qY:∀(l:List UInt8) (acc:Nat),acc*10 ^ l.length≤dD acc l
 | [],acc=>by rw [jk,List.length_nil,Nat.pow_zero,Nat.mul_one];exact Nat.le_refl _
 | c :: r,acc=>by
  rw [iK];have h:=qY r (10*acc+(c.toNat - 48));refine Nat.le_trans ?_ h;have e:acc*10 ^ (c :: r).length=(10*acc)*10 ^ r.length:=by
   rw [List.length_cons,Nat.pow_succ,Nat.mul_comm (10 ^ r.length) 10, ←Nat.mul_assoc,Nat.mul_comm acc 10]
  rw [e];exact Nat.mul_le_mul_right _ (Nat.le_add_right _ _)
def Canon (l:List UInt8):Prop:=l≠[]∧(∀c∈l,BX c=true)∧(l.length=1∨l.head? ≠some 48)
instance (l:List UInt8):Decidable (Canon l):=by unfold Canon;infer_instance
def AV (l:List UInt8):Option Nat:=if Canon l∧dD 0 l<9223372036854775808 then some (dD 0 l)else none
def eU (l:List UInt8):Int ×Bool:=match AV l with | some n=>((n:Int),true) | none=>(0,false)
theorem Hy {l:List UInt8} (h:Canon l) (hl:2≤l.length):10 ^ (l.length - 1)≤dD 0 l:=by
 obtain⟨h0,hd,hh⟩:=h;cases l with
 | nil=>exact absurd rfl h0
 | cons c r=>
  have hc:=ji.1 (hd c (List.mem_cons_self ..));have hne:c.toNat≠48:=by
   rcases hh with hh | hh
   ·simp at hh hl;subst hh;simp at hl
   ·intro e;apply hh;simp;exact UInt8.toNat_inj.1 e
  rw [iK];have:=qY r (10*0+(c.toNat - 48));simp only [List.length_cons,Nat.add_sub_cancel]
  calc 10 ^ r.length=1*10 ^ r.length:=by omega
   _≤(10*0+(c.toNat - 48))*10 ^ r.length:=Nat.mul_le_mul_right _ (by omega)
   _≤ _:=this
theorem zR {c:UInt8} (h:BX c=true):UInt8.ofNat (48+(c.toNat - 48))=c:=by
 have:=ji.1 h;apply UInt8.toNat_inj.1;rw [UInt8.toNat_ofNat'];omega
theorem Hz:∀(n:Nat) (l:List UInt8),l.length=n→Canon l→Lib.decDigits (dD 0 l)=l:=by
 intro n;induction n with
 | zero=>intro l hl h;exact absurd (List.eq_nil_of_length_eq_zero hl) h.1
 | succ n ih=>
  intro l hl h;rcases List.eq_nil_or_concat l with rfl | ⟨a,c,rfl⟩
  ·exact absurd rfl h.1
  rw [List.concat_eq_append]at*
  have hc:=h.2.1 c (by simp);have hc2:=ji.1 hc;rw [sF];by_cases ha:a=[]
  ·subst ha;have e0:dD 0 []=0:=jk 0;rw [e0,Nat.mul_zero,Nat.zero_add,Lib.decDigits_one (by omega),zR hc,List.nil_append]
  ·have hal:0<a.length:=List.length_pos_iff.2 ha;have hhead:a.head? ≠some 48:=by
    rcases h.2.2 with h1 | h1
    ·simp at h1;exact absurd h1 ha
    ·intro e;apply h1;cases a with
     | nil=>exact absurd rfl ha
     | cons x r=>simpa using e
   have hca:Canon a:=⟨ha,fun x hx=>h.2.1 x (by simp [hx]), .inr hhead⟩
   have hpos:1≤dD 0 a:=by
    by_cases h2:2≤a.length
    ·have:=Hy hca h2;have:0<10 ^ (a.length - 1):=Nat.pow_pos (by decide);omega
    ·cases a with
     | nil=>exact absurd rfl ha
     | cons x r=>
      have hr:r=[]:=List.eq_nil_of_length_eq_zero (by have:(x :: r).length=r.length+1:=rfl;omega);subst hr;have hx:=ji.1 (hca.2.1 x (by simp));have hne:x.toNat≠48:=fun e=>hhead (by simp;exact UInt8.toNat_inj.1 e);rw [iK,jk];omega
   rw [Lib.decDigits,dif_neg (by omega)];have e1:(10*dD 0 a+(c.toNat - 48)) / 10=dD 0 a:=by omega
   have e2:(10*dD 0 a+(c.toNat - 48)) % 10=c.toNat - 48:=by omega
   rw [e1,e2,ih a (by simp at hl;omega) hca,zR hc]
theorem JM (u:Nat):Canon (Lib.decDigits u)∧dD 0 (Lib.decDigits u)=u∧(1≤u→(Lib.decDigits u).head? ≠some 48):=by
 induction u using Nat.strongRecOn with
 | ind u ih=>
  rw [Lib.decDigits];by_cases h:u<10
  ·rw [dif_pos h];have e:(UInt8.ofNat (48+u)).toNat=48+u:=by rw [UInt8.toNat_ofNat'];omega
   refine⟨⟨by simp, ?_, .inl rfl⟩, ?_, ?_⟩
   ·intro c hc;obtain rfl:c=UInt8.ofNat (48+u):=by simpa using hc
    rw [ji,e];omega
   ·rw [iK,jk,e];omega
   ·intro h1 h2;have:UInt8.ofNat (48+u)=48:=by simpa using h2
    have:=congrArg UInt8.toNat this;rw [e]at this;have h48:(48:UInt8).toNat=48:=rfl;omega
  ·rw [dif_neg h];obtain⟨⟨h0,h1,h2⟩,h3,h4⟩:=ih (u / 10) (by omega);have e:(UInt8.ofNat (48+u % 10)).toNat=48+u % 10:=by rw [UInt8.toNat_ofNat'];omega
   have hh:=h4 (by omega);have Zn:(Lib.decDigits (u / 10)++[UInt8.ofNat (48+u % 10)]).head? ≠some 48:=by
    cases hd:Lib.decDigits (u / 10)with
    | nil=>exact absurd hd h0
    | cons x r=>rw [hd]at hh;simpa using hh
   refine⟨⟨by simp, ?_, .inr Zn⟩, ?_,fun _=>Zn⟩
   ·intro c hc;rcases List.mem_append.1 hc with hc | hc
    ·exact h1 c hc
    ·obtain rfl:c=UInt8.ofNat (48+u % 10):=by simpa using hc
     rw [ji,e];omega
   ·rw [sF,h3,e];omega
theorem xQ {l:List UInt8} {n:Nat}:AV l=some n↔n<9223372036854775808∧l=Lib.decDigits n:=by
 unfold AV;constructor
 ·intro h;split at h
  ·rename_i hc
   injection h with h;subst h;exact⟨hc.2,(Hz _ l rfl hc.1).symm⟩
  ·cases h
 ·rintro⟨h,rfl⟩;have:=JM n;rw [if_pos ⟨this.1,by rw [this.2.1];exact h⟩,this.2.1]
theorem qK:∀(l:List UInt8) (acc:Nat),(∀c∈l,BX c=true)→dD acc l<18446744073709551616→Lib.parseUint10 acc l= .ok (dD acc l)
 | [],acc, _, _=>by rw [jk];rfl
 | c :: r,acc,h,hlt=>by
  have hc:=ji.1 (h c (List.mem_cons_self ..));have hv:dD acc (c :: r)=dD (10*acc+(c.toNat - 48)) r:=iK acc c r;rw [hv]at hlt;have h1:=qY r (10*acc+(c.toNat - 48));have hp:0<10 ^ r.length:=Nat.pow_pos (by decide);have h2:10*acc+(c.toNat - 48)≤(10*acc+(c.toNat - 48))*10 ^ r.length:=Nat.le_mul_of_pos_right _ hp;unfold Lib.parseUint10;rw [if_pos hc,if_neg (by omega),if_neg (by omega),Nat.mul_comm acc 10,hv];exact qK r _ (fun x hx=>h x (List.mem_cons_of_mem _ hx)) hlt
theorem JN {n:Nat} (h:n<9223372036854775808):Lib.atoiAll (Lib.decDigits n)= .ok (n:Int):=by
 obtain⟨⟨h0,h1,h2⟩,h3,h4⟩:=JM n;have hp:=qK (Lib.decDigits n) 0 h1 (by rw [h3];omega);rw [h3]at hp;unfold Lib.atoiAll;cases hd:Lib.decDigits n with
 | nil=>exact absurd hd h0
 | cons c r=>
  have hc:=ji.1 (h1 c (by rw [hd];exact List.mem_cons_self ..));rw [hd]at hp;dsimp only;rw [if_neg (show ¬(c.toNat=43∨c.toNat=45)from by omega)];unfold Lib.parseMag;rw [if_neg (by simp),hp];dsimp only;rw [if_neg (by omega),if_neg (by omega),if_neg (by omega)]
theorem Gc {l:List UInt8} {v:Int} (h:Lib.atoiAll l= .ok v):v<9223372036854775808:=by
 unfold Lib.atoiAll at h;split at h
 ·cases h
 ·rename_i c r
  dsimp only at h;split at h
  ·cases h
  ·cases h
  ·rename_i u hu
   by_cases hn:c.toNat=45
   ·simp only [hn,not_true_eq_false,false_and,if_false,true_and,if_true]at h;split at h
    ·cases h
    ·injection h with h;omega
   ·simp only [hn,not_false_eq_true,true_and,false_and,if_false]at h;split at h
    ·cases h
    ·injection h with h;omega
theorem jQ (l:List UInt8):eU l=(match Lib.atoiAll l with | .ok v=>if v<0∨Lib.itoa v≠l then(0,false)else(v,true) | _=>(0,false)):=by
 unfold eU;cases hp:AV l with
 | some n=>
  obtain⟨hn,rfl⟩:=xQ.1 hp;rw [JN hn];dsimp only;rw [if_neg];rintro(h | h)
  ·omega
  ·exact h (Lib.itoa_nonneg n)
 | none=>
  cases ha:Lib.atoiAll l with
  | ok v=>
   dsimp only;rw [if_pos];by_cases h0:v<0
   ·exact .inl h0
   ·refine .inr fun he=> ?_;have hv:=Gc ha;obtain⟨n,rfl⟩:=Int.eq_ofNat_of_zero_le (show 0≤v by omega);have e:Lib.itoa (n:Int)=Lib.decDigits n:=Lib.itoa_nonneg n;have:=xQ.2 ⟨show n<9223372036854775808 by omega,(e.symm.trans he).symm⟩;rw [hp]at this;cases this
  | _=>rfl
abbrev Bt:=List UInt8
def gX (c:UInt8):Bool:=(decide (97≤c.toNat) && decide (c.toNat≤122)) || (decide (65≤c.toNat) && decide (c.toNat≤90)) || decide (c.toNat=95)
def bY (c:UInt8):Bool:=decide (48≤c.toNat) && decide (c.toNat≤57)
def bE (c:UInt8):Bool:=gX c || bY c
def bL (c:UInt8):Bool:=decide (c.toNat=32) || decide (c.toNat=9) || decide (c.toNat=10) || decide (c.toNat=13)
def dF (c:UInt8):Bool:= !decide (c.toNat=10)
def bN (p:UInt8→Bool) (s:Bt):Nat:=(s.takeWhile p).length
theorem iL (p:UInt8→Bool) (s:Bt):bN p s≤s.length:=by
 unfold bN;exact(List.takeWhile_sublist p).length_le
theorem fH (p:UInt8→Bool) (c:UInt8) (s:Bt):bN p (c :: s)=if p c then bN p s+1 else 0:=by
 unfold bN;rw [List.takeWhile_cons];split <;> simp
theorem wU {p:UInt8→Bool} {s:Bt} {k:Nat} (hk:k<s.length) (h:∀j (hj:j<k),p (s[j]'(by omega))=true) (hn:p s[k]=false):bN p s=k:=by
 induction s generalizing k with
 | nil=>simp at hk
 | cons c s ih=>
  rw [fH];rcases k with _ | k
  ·rw [if_neg (by simpa using hn)]
  ·have h0:=h 0 (by omega);simp only [List.getElem_cons_zero]at h0;rw [if_pos h0,ih (by simpa using hk) (fun j hj=>by simpa using h (j+1) (by omega)) (by simpa using hn)]
theorem sG {p:UInt8→Bool} {s:Bt} (h:∀j (hj:j<s.length),p s[j]=true):bN p s=s.length:=by
 induction s with
 | nil=>rfl
 | cons c s ih=>
  have h0:=h 0 (by simp);simp only [List.getElem_cons_zero]at h0;rw [fH,if_pos h0,ih (fun j hj=>by have h1:=h (j+1) (by simpa using hj);rw [List.getElem_cons_succ]at h1;exact h1)];rfl
def dY:Bool→Bt→Nat
 | _,[]=>0
 | false,c :: s=>if bL c then dY false s+1 else if c.toNat=35 then dY true s+1 else 0
 | true,c :: s=>if c.toNat=10 then dY false s+1 else dY true s+1
def aW (s:Bt):Nat:=dY false s
def eG (s:Bt):Nat:=
 bN bL s+(if((s.drop (bN bL s)).head?).map UInt8.toNat=some 35 then bN dF (s.drop (bN bL s))else 0)
theorem sH (q:Bool) (s:Bt):dY q s≤s.length:=by
 induction s generalizing q with
 | nil=>cases q <;> simp [dY]
 | cons c s ih=>
  cases q with
  | false=>
   rw [dY];split
   ·have:=ih false;simp;exact this
   ·split
    ·have:=ih true;simp;exact this
    ·simp
  | true=>
   rw [dY];split
   ·have:=ih false;simp;exact this
   ·have:=ih true;simp;exact this
theorem Em (s:Bt):dY false s=bN bL s+dY false (s.drop (bN bL s)):=by
 induction s with
 | nil=>rfl
 | cons c s ih=>
  rw [fH];by_cases h:bL c=true
  ·rw [if_pos h,dY,if_pos h,ih,List.drop_succ_cons];omega
  ·rw [if_neg h];simp
theorem H6 (s:Bt):dY true s=bN dF s+dY false (s.drop (bN dF s)):=by
 induction s with
 | nil=>rfl
 | cons c s ih=>
  rw [fH];by_cases h:c.toNat=10
  ·have hn:dF c=false:=by unfold dF;simp [h]
   have hb:bL c=true:=by unfold bL;simp [h]
   rw [if_neg (by simp [hn]),dY,if_pos h];show dY false s+1=0+dY false (c :: s);rw [dY,if_pos hb];omega
  ·have hn:dF c=true:=by unfold dF;simp [h]
   rw [if_pos hn,dY,if_neg h,ih,List.drop_succ_cons];omega
theorem JO (s:Bt):aW s=eG s+aW (s.drop (eG s)):=by
 unfold aW eG;rw [Em];generalize hr:s.drop (bN bL s)=r;cases r with
 | nil=>simp [dY,hr]
 | cons c t=>
  simp only [List.head?_cons,Option.map_some,Option.some.injEq];by_cases h:c.toNat=35
  ·rw [if_pos h];have hb:bL c=false:=by unfold bL;simp [h]
   have hn:dF c=true:=by unfold dF;simp [h]
   rw [←List.drop_drop,hr,dY,if_neg (by simp [hb]),if_pos h,H6,fH,if_pos hn,List.drop_succ_cons];omega
  ·rw [if_neg h,Nat.add_zero,hr]
theorem H7 {s:Bt} (h:eG s=0):aW s=0:=by
 have h1:bN bL s=0:=by unfold eG at h;omega
 unfold eG at h;rw [h1]at h;cases s with
 | nil=>rfl
 | cons c t=>
  rw [fH]at h1;have hb:¬bL c=true:=by
   intro hb;rw [if_pos hb]at h1;omega
  unfold aW;rw [dY,if_neg hb];simp only [List.drop_zero,List.head?_cons,Option.map_some,Option.some.injEq]at h;by_cases JQ:c.toNat=35
  ·rw [if_pos JQ,fH,if_pos (by unfold dF;simp [JQ])]at h;omega
  ·rw [if_neg JQ]
def oI (p:Nat ×Nat) (c:UInt8):Nat ×Nat:=if c.toNat=10 then(p.1+1,1)else(p.1,p.2+1)
def fu (p:Nat ×Nat) (s:Bt):Nat ×Nat:=s.foldl oI p
theorem oO (p:Nat ×Nat) (a b:Bt):fu p (a++b)=fu (fu p a) b:=by unfold fu;rw [List.foldl_append]
theorem H8 {p:Nat ×Nat} {s:Bt} {k:Nat} (h:k<s.length):fu p (s.take (k+1))=oI (fu p (s.take k)) s[k]:=by
 rw [List.take_succ_eq_append_getElem h,oO];rfl
def En (c:UInt8):Option UInt8:=if c.toNat=92 then some 92 else if c.toNat=34 then some 34 else if c.toNat=110 then some 10 else if c.toNat=116 then some 9 else none
def dZ:Bool→Bt→Nat→Bt→Option (Bt ×Nat)
 | _, _, _,[]=>none
 | back,out,i,c :: s=>
  if c.toNat<32 then none else
  if back then(match En c with | some e=>dZ false (out++[e]) (i+1) s | none=>none)else
  if c.toNat=92 then dZ true out (i+1) s else
  if c.toNat=34 then some (out,i+2)else dZ false (out++[c]) (i+1) s
def mQ (s:Bt):Option (Bt ×Nat):=dZ false [] 0 (s.drop 1)
theorem zS {back:Bool} {out:Bt} {i:Nat} {s:Bt} {r:Bt ×Nat} (h:dZ back out i s=some r):i+2≤r.2∧r.2≤i+s.length+1∧r.1.length≤out.length+s.length:=by
 induction s generalizing back out i with
 | nil=>cases back <;> simp [dZ]at h
 | cons c s ih=>
  rw [dZ]at h;split at h
  ·cases h
  ·split at h
   ·split at h
    ·obtain⟨a,b,d⟩:=ih h;simp only [List.length_append,List.length_cons,List.length_nil]at*;omega
    ·cases h
   ·split at h
    ·obtain⟨a,b,d⟩:=ih h;simp only [List.length_append,List.length_cons,List.length_nil]at*;omega
    ·split at h
     ·injection h with h;subst h;simp only [List.length_cons];omega
     ·obtain⟨a,b,d⟩:=ih h;simp only [List.length_append,List.length_cons,List.length_nil]at*;omega
def fB:List Bt:=[[97,110,100],
 [97,110,121],
 [97,115],
 [98,111,111,108],
 [101,108,115,101],
 [101,120,112,111,114,116],
 [102,97,108,115,101],
 [102,110],
 [102,117,110,99,116,105,111,110],
 [105,102],
 [105,109,112,111,114,116],
 [105,110],
 [105,110,116],
 [105,115],
 [108,101,116],
 [110,111,116],
 [110,117,108,108],
 [111,114],
 [112,114,105,110,116],
 [114,101,97,100],
 [114,101,99,111,114,100],
 [115,116,114],
 [116,104,101,110],
 [116,114,117,101],
 [119,105,116,104]]
def bU:List Bt:=[[45,62],[61,62],[60,58],[60,60],[60,61],[62,62],[61,61],[43,43]]
def fV:Bt:=[40,41,123,125,91,93,44,58,59,61,43,45,42,47,37,38,94,60,124,46]
def sI (s:Bt):Bool:=match s with
 | []=>false
 | c :: r=>decide ((c :: r).length≤32) && gX c && decide (bN bE (c :: r)=(c :: r).length) && !decide ((c :: r)∈fB)
def fZ (s:Bt):Int ⊕ (Int ×Bt ×Nat):=
 match s with
 | []=> .inl 5
 | c :: r=>
  if gX c then
   (if 32<bN bE (c :: r)then .inl 2 else if(c :: r).take (bN bE (c :: r))∈fB then .inr (2,(c :: r).take (bN bE (c :: r)),bN bE (c :: r))else .inr (1,(c :: r).take (bN bE (c :: r)),bN bE (c :: r)))
  else if bY c then
   (if(eU ((c :: r).take (bN bY (c :: r)))).2 then .inr (3,(c :: r).take (bN bY (c :: r)),bN bY (c :: r))else .inl 3)
  else if c.toNat=34 then
   (match mQ (c :: r)with
    | none=> .inl 4
    | some (t,n)=>if 256<t.length then .inl 2 else .inr (4,t,n))
  else if(c :: r).take 2∈bU then .inr (5,(c :: r).take 2,2)
  else if c∈fV then .inr (5,[c],1)else .inl 5
structure aF where
 kind:Int
 text:Bt
 line:Nat
 col:Nat
def kI:Nat→Bt→Nat ×Nat→List aF→List aF ×(Nat ×Nat ×Int)
 | 0, _, _, _=>([],(0,0,0))
 | f+1,s,p,out=>
  if s.drop (aW s)=[]then(out++[⟨0,[],(fu p (s.take (aW s))).1,(fu p (s.take (aW s))).2⟩],(0,0,0))else
  match fZ (s.drop (aW s))with
  | .inl e=>([],((fu p (s.take (aW s))).1,(fu p (s.take (aW s))).2,e))
  | .inr (kd,t,n)=>
   if out.length=8192 then([],((fu p (s.take (aW s))).1,(fu p (s.take (aW s))).2,19))else
   kI f ((s.drop (aW s)).drop n) (fu (fu p (s.take (aW s))) ((s.drop (aW s)).take n)) (out++[⟨kd,t,(fu p (s.take (aW s))).1,(fu p (s.take (aW s))).2⟩])
def dS (s:Bt):List aF ×(Nat ×Nat ×Int):=if 65536<s.length then([],(1,1,2))else kI (s.length+1) s (1,1) []
theorem oP {p:UInt8→Bool} {c:UInt8} {s:Bt} (h:p c=true):1≤bN p (c :: s):=by
 rw [fH,if_pos h];omega
theorem sJ {s:Bt} {kd:Int} {t:Bt} {n:Nat} (h:fZ s= .inr (kd,t,n)):1≤n∧n≤s.length:=by
 cases s with
 | nil=>simp [fZ]at h
 | cons c r=>
  rw [fZ]at h;split at h
  ·rename_i hl
   have hi:bE c=true:=by unfold bE;rw [hl];rfl
   have h1:=oP (s:=r) hi;have h2:=iL bE (c :: r);split at h
   ·cases h
   ·split at h
    ·injection h with h;simp only [Prod.mk.injEq]at h;omega
    ·injection h with h;simp only [Prod.mk.injEq]at h;omega
  ·split at h
   ·rename_i hd
    have h1:=oP (s:=r) hd;have h2:=iL bY (c :: r);split at h
    ·injection h with h;simp only [Prod.mk.injEq]at h;omega
    ·cases h
   ·split at h
    ·split at h
     ·cases h
     ·rename_i t' n' hq
      have:=zS hq;split at h
      ·cases h
      ·injection h with h;simp only [Prod.mk.injEq]at h;simp only [List.drop_succ_cons,List.drop_zero]at this;simp only [List.length_cons];omega
    ·split at h
     ·rename_i hp
      injection h with h;simp only [Prod.mk.injEq]at h;have h2:((c :: r).take 2).length=2:=by
       have hall:∀m∈bU,m.length=2:=by decide
       exact hall _ hp
      rw [List.length_take]at h2;simp only [List.length_cons]at h2 ⊢;omega
     ·split at h
      ·injection h with h;simp only [Prod.mk.injEq]at h;simp only [List.length_cons];omega
      ·cases h
theorem qw {s:Bt} {e:Int} (h:fZ s= .inl e):e≠0:=by
 cases s with
 | nil=>simp [fZ]at h;omega
 | cons c r=>
  rw [fZ]at h
  repeat' split at h
  all_goals first | (injection h with h;omega) | cases h
theorem H9 (p:UInt8→Bool) (s:Bt):bN p (s.take (bN p s))=bN p s:=by
 induction s with
 | nil=>rfl
 | cons c r ih=>
  rw [fH];by_cases h:p c=true
  ·rw [if_pos h,List.take_succ_cons,fH,if_pos h,ih]
  ·rw [if_neg h];rfl
def xR (kd:Int) (t:Bt):Prop:=
 1≤kd∧kd≤5∧(kd=2→t∈fB)∧(kd=1→sI t=true)∧(kd=3→∃c r,t=c :: r∧bY c=true)∧(kd=5→1≤t.length∧t.length≤2)
theorem Eo {s:Bt} {kd:Int} {t:Bt} {n:Nat} (h:fZ s= .inr (kd,t,n)):xR kd t:=by
 cases s with
 | nil=>simp [fZ]at h
 | cons c r=>
  rw [fZ]at h;have hle:=iL bE (c :: r);have htk:=H9 bE (c :: r);by_cases hl:gX c=true
  ·rw [if_pos hl]at h;have hi:bE c=true:=by unfold bE;rw [hl];rfl
   have hpos:=oP (s:=r) hi;by_cases h32:32<bN bE (c :: r)
   ·rw [if_pos h32]at h;cases h
   ·rw [if_neg h32]at h;by_cases hw:(c :: r).take (bN bE (c :: r))∈fB
    ·rw [if_pos hw]at h;injection h with h;simp only [Prod.mk.injEq]at h;obtain⟨rfl,rfl, _⟩:=h;exact⟨by omega,by omega,fun _=>hw,fun h=>by omega,fun h=>by omega,fun h=>by omega⟩
    ·rw [if_neg hw]at h;injection h with h;simp only [Prod.mk.injEq]at h;obtain⟨rfl,rfl, _⟩:=h;refine⟨by omega,by omega,fun h=>by omega,fun _=> ?_,fun h=>by omega,fun h=>by omega⟩;have hlen:((c :: r).take (bN bE (c :: r))).length=bN bE (c :: r):=by rw [List.length_take];omega
     generalize hn:bN bE (c :: r)=m at*
     obtain⟨m',rfl⟩:∃m',m=m'+1:=⟨m - 1,by omega⟩
     rw [List.take_succ_cons]at htk hw hlen ⊢;unfold sI;simp only [Bool.and_eq_true,decide_eq_true_eq,Bool.not_eq_true',decide_eq_false_iff_not];exact⟨⟨⟨by rw [hlen];omega,hl⟩,by rw [htk,hlen]⟩,hw⟩
  ·rw [if_neg hl]at h;by_cases hd:bY c=true
   ·rw [if_pos hd]at h;have hpos:=oP (s:=r) hd;split at h
    ·injection h with h;simp only [Prod.mk.injEq]at h;obtain⟨rfl,rfl, _⟩:=h;refine⟨by omega,by omega,fun h=>by omega,fun h=>by omega,fun _=> ?_,fun h=>by omega⟩;obtain⟨m',hm⟩:∃m',bN bY (c :: r)=m'+1:=⟨bN bY (c :: r) - 1,by omega⟩
     rw [hm,List.take_succ_cons];exact⟨_, _,rfl,hd⟩
    ·cases h
   ·rw [if_neg hd]at h;split at h
    ·split at h
     ·cases h
     ·split at h
      ·cases h
      ·injection h with h;simp only [Prod.mk.injEq]at h;obtain⟨rfl,rfl, _⟩:=h;exact⟨by omega,by omega,fun h=>by omega,fun h=>by omega,fun h=>by omega,fun h=>by omega⟩
    ·split at h
     ·rename_i hp
      injection h with h;simp only [Prod.mk.injEq]at h;obtain⟨rfl,rfl, _⟩:=h;have hall:∀m∈bU,m.length=2:=by decide
      have:=hall _ hp;exact⟨by omega,by omega,fun h=>by omega,fun h=>by omega,fun h=>by omega,fun _=>by omega⟩
     ·split at h
      ·injection h with h;simp only [Prod.mk.injEq]at h;obtain⟨rfl,rfl, _⟩:=h;exact⟨by omega,by omega,fun h=>by omega,fun h=>by omega,fun h=>by omega,fun _=>⟨by simp,by simp⟩⟩
      ·cases h
def Pb (text:Bt) (a:Nat):Nat ×Nat:=fu (1,1) (text.take a)
inductive Placed (text:Bt):Nat→List aF→Prop where
 | done (a:Nat):a≤text.length→Placed text a [⟨0,[],(Pb text text.length).1,(Pb text text.length).2⟩]
 | next (a b n:Nat) (t:aF) (l:List aF):a≤b→Pb text b=(t.line,t.col)→(t.kind≠4→t.text=(text.drop b).take n)→t.kind≠0→1≤n→b+n≤text.length→Placed text (b+n) l→Placed text a (t :: l)
def before (p q:Nat ×Nat):Prop:=p.1<q.1∨(p.1=q.1∧p.2<q.2)
theorem qx {p:UInt8→Bool} {c:UInt8} (hp:p c=false) (s r:Bt):bN p (s++c :: r)=bN p s:=by
 induction s with
 | nil=>rw [List.nil_append,fH,if_neg (by simp [hp])];rfl
 | cons d s ih=>
  rw [List.cons_append,fH,fH];by_cases h:p d=true
  ·rw [if_pos h,if_pos h,ih]
  ·rw [if_neg h,if_neg h]
theorem BZ {c:UInt8} (h:bL c=true):bE c=false∧bY c=false∧gX c=false:=by
 unfold bL at h;simp only [Bool.or_eq_true,decide_eq_true_eq]at h;unfold bE gX bY;simp only [Bool.or_eq_false_iff,Bool.and_eq_false_iff,decide_eq_false_iff_not];omega
theorem vL {back:Bool} {out:Bt} {i:Nat} {s:Bt} {r:Bt ×Nat} (h:dZ back out i s=some r) (x:Bt):dZ back out i (s++x)=some r:=by
 induction s generalizing back out i with
 | nil=>cases back <;> simp [dZ]at h
 | cons c s ih=>
  rw [dZ]at h;rw [List.cons_append,dZ];split at h
  ·cases h
  ·rename_i h32
   rw [if_neg h32];split at h
   ·rename_i hb
    rw [if_pos hb];split at h
    ·exact ih h
    ·cases h
   ·rename_i hb
    rw [if_neg hb];split at h
    ·rename_i RN
     rw [if_pos RN];exact ih h
    ·rename_i RN
     rw [if_neg RN];split at h
     ·rename_i Mv
      rw [if_pos Mv];exact h
     ·rename_i Mv
      rw [if_neg Mv];exact ih h
theorem zT:∀m∈bU,m.length=2:=by decide
theorem vO (c d:UInt8) (hd:bL d=true):[c,d] ∉ bU:=by
 intro h;have hall:(bU.all fun m=> !bL (m.getD 1 0))=true:=by decide
 have:=List.all_eq_true.1 hall _ h;simp [hd]at this
theorem xS {s:Bt} {kd:Int} {t:Bt} {n:Nat} {d:UInt8} (x:Bt) (hd:bL d=true) (h:fZ s= .inr (kd,t,n)):fZ (s++d :: x)= .inr (kd,t,n):=by
 obtain⟨hi,hdg, _⟩:=BZ hd;cases s with
 | nil=>simp [fZ]at h
 | cons c r=>
  have oM:=iL bE (c :: r);have hrd:=iL bY (c :: r);rw [fZ]at h;rw [List.cons_append,fZ, ←List.cons_append,qx hi,qx hdg,List.take_append_of_le_length oM,List.take_append_of_le_length hrd];split at h
  ·rename_i hl
   rw [if_pos hl];exact h
  ·rename_i hl
   rw [if_neg hl];split at h
   ·rename_i hg
    rw [if_pos hg];exact h
   ·rename_i hg
    rw [if_neg hg];split at h
    ·rename_i Mv
     rw [if_pos Mv];split at h
     ·cases h
     ·rename_i t' n' hq
      have hq':mQ (c :: r++d :: x)=some (t',n'):=by
       unfold mQ at hq ⊢;simp only [List.cons_append,List.drop_succ_cons,List.drop_zero]at hq ⊢;exact vL hq _
      rw [hq'];exact h
    ·rename_i Mv
     rw [if_neg Mv];cases r with
     | nil=>
      have h2:¬ [c]∈bU:=fun hm=>by have:=zT _ hm;simp at this
      rw [if_neg (by simpa using h2)]at h;rw [if_neg (show ¬(([c]++d :: x:Bt).take 2∈bU)from vO c d hd)];exact h
     | cons e r=>exact h
theorem xU {q:Bool} {s:Bt} (h:dY q s<s.length) (x:Bt):dY q (s++x)=dY q s:=by
 induction s generalizing q with
 | nil=>simp at h
 | cons c s ih=>
  rw [List.cons_append];cases q with
  | false=>
   rw [dY]at h ⊢;rw [dY];by_cases hb:bL c=true
   ·rw [if_pos hb]at h ⊢;rw [if_pos hb,ih (by simpa using h)]
   ·rw [if_neg hb]at h ⊢;rw [if_neg hb];by_cases JQ:c.toNat=35
    ·rw [if_pos JQ]at h ⊢;rw [if_pos JQ,ih (by simpa using h)]
    ·rw [if_neg JQ,if_neg JQ]
  | true=>
   rw [dY]at h ⊢;rw [dY];by_cases h10:c.toNat=10
   ·rw [if_pos h10]at h ⊢;rw [if_pos h10,ih (by simpa using h)]
   ·rw [if_neg h10]at h ⊢;rw [if_neg h10,ih (by simpa using h)]
theorem Ia {q:Bool} {s:Bt} (h:s.length≤dY q s) (d:UInt8) (hd:d.toNat=10) (x:Bt):dY q (s++d :: x)=s.length+1+aW x:=by
 have hb:bL d=true:=by unfold bL;simp [hd]
 induction s generalizing q with
 | nil=>
  rw [List.nil_append];unfold aW;cases q with
  | false=>rw [dY,if_pos hb];simp;omega
  | true=>rw [dY,if_pos hd];simp;omega
 | cons c s ih=>
  rw [List.cons_append];cases q with
  | false=>
   rw [dY]at h ⊢;by_cases hb:bL c=true
   ·rw [if_pos hb]at h ⊢;rw [ih (by simpa using h)];simp;omega
   ·rw [if_neg hb]at h ⊢;by_cases JQ:c.toNat=35
    ·rw [if_pos JQ]at h ⊢;rw [ih (by simpa using h)];simp;omega
    ·rw [if_neg JQ]at h;simp at h
  | true=>
   rw [dY]at h ⊢;by_cases h10:c.toNat=10
   ·rw [if_pos h10]at h ⊢;rw [ih (by simpa using h)];simp;omega
   ·rw [if_neg h10]at h ⊢;rw [ih (by simpa using h)];simp;omega
theorem uM:∀(f:Nat) (s:Bt) (p:Nat ×Nat) (out:List aF),s.length<f→(kI f s p out).2.2.2=0→
  ∃m e,kI f s p out=(out++m++[e],(0,0,0))∧e.kind=0∧e.text=[]∧m.length≤s.length∧(∀t∈m,xR t.kind t.text)∧
   ∀(d:UInt8) (r:Bt) (F:Nat),d.toNat=10→s.length+1+r.length<F→∃F' q,r.length<F'∧kI F (s++d :: r) p out=kI F' r q (out++m)
 | 0,s,p,out,hf, _=>by omega
 | f+1,s,p,out,hf,hok=>by
  have hsk:aW s≤s.length:=sH false s;rw [kI]at hok ⊢;by_cases hnil:s.drop (aW s)=[]
  ·rw [if_pos hnil]at hok ⊢;refine⟨[], _,by rw [List.append_nil],rfl,rfl,by simp,by simp,fun d r F hd hF=>⟨F,fu p (s++[d]),by omega, ?_⟩⟩;have hall:s.length≤aW s:=by simpa using hnil
   have e1:aW (s++d :: r)=s.length+1+aW r:=Ia hall d hd r;obtain⟨F0,rfl⟩:∃F0,F=F0+1:=⟨F - 1,by omega⟩
   have e2:(s++d :: r).drop (s.length+1+aW r)=r.drop (aW r):=by
    rw [List.append_cons, ←List.drop_drop,show s.length+1=(s++[d]).length by simp,List.drop_left]
   have e3:(s++d :: r).take (s.length+1+aW r)=(s++[d])++r.take (aW r):=by
    rw [List.append_cons,List.take_add,show s.length+1=(s++[d]).length by simp,List.take_left,List.drop_left]
   rw [kI,kI,e1,e2,e3,oO,List.append_nil]
  ·rw [if_neg hnil]at hok ⊢;have hlt:aW s<s.length:=by
    rcases Nat.lt_or_ge (aW s) s.length with h | h
    ·exact h
    ·exact absurd (List.drop_eq_nil_of_le h) hnil
   cases hn:fZ (s.drop (aW s))with
   | inl e=>rw [hn]at hok;exact absurd hok (qw hn)
   | inr x=>
    obtain⟨kd,t,n⟩:=x;rw [hn]at hok;simp only at hok ⊢;by_cases h8:out.length=8192
    ·rw [if_pos h8]at hok;exact absurd (show(19:Int)=0 from hok) (by decide)
    ·rw [if_neg h8]at hok ⊢;obtain⟨n1,n2⟩:=sJ hn;obtain⟨m,e,h1,h2,h3,h4,h4',h5⟩:=uM f _ _ _ (by simp only [List.length_drop]at n2 ⊢;omega) hok;rw [h1];refine⟨_ :: m,e,by rw [List.append_assoc,List.append_assoc,List.singleton_append,List.append_assoc,List.cons_append],h2,h3, ?_, ?_,fun d r F hd hF=> ?_⟩
     ·simp only [List.length_drop,List.length_cons]at n2 h4 ⊢;omega
     ·intro x hx;rcases List.mem_cons.1 hx with rfl | hx
      ·exact Eo hn
      ·exact h4' x hx
     ·obtain⟨F0,rfl⟩:∃F0,F=F0+1:=⟨F - 1,by omega⟩
      have hb:bL d=true:=by unfold bL;simp [hd]
      obtain⟨F',q,hF',h6⟩:=h5 d r F0 hd (by simp only [List.length_drop]at n2 ⊢;omega);refine⟨F',q,hF', ?_⟩;have e1:aW (s++d :: r)=aW s:=xU hlt _;rw [kI,e1,List.drop_append_of_le_length hsk,List.take_append_of_le_length hsk,if_neg (by simp),xS r hb hn];simp only;rw [if_neg h8,List.drop_append_of_le_length n2,List.take_append_of_le_length n2,h6,List.append_assoc,List.singleton_append]
theorem uN (s:Bt) (h:s.length≤65536):dS s=kI (s.length+1) s (1,1) []:=by unfold dS;rw [if_neg (by omega)]
section
def Turn (F:Nat→Prop) (w w':World):Prop:=
 w'.os=w.os∧w'.tape=w.tape∧w'.output=w.output∧w.heap.size≤w'.heap.size∧∀k,k<w.heap.size→¬F k→w'.heap[k]? =w.heap[k]?
section
variable {F G:Nat→Prop} {a b c w w':World}
theorem Turn.refl (F:Nat→Prop) (w:World):Turn F w w:=⟨rfl,rfl,rfl,Nat.le_refl _,fun _ _ _=>rfl⟩
theorem Turn.size (h:Turn F w w'):w.heap.size≤w'.heap.size:=h.2.2.2.1
theorem Turn.block (h:Turn F w w') {k:Nat} (hk:k<w.heap.size) (hF:¬F k):w'.heap[k]? =w.heap[k]? :=h.2.2.2.2 k hk hF
theorem Turn.trans (h:Turn F a b) (k:Turn G b c) (hG:∀i,i<a.heap.size→G i→F i):Turn F a c:=
 ⟨k.1.trans h.1,k.2.1.trans h.2.1,k.2.2.1.trans h.2.2.1,Nat.le_trans h.size k.size,fun i hi hF=>
  (k.block (Nat.lt_of_lt_of_le hi h.size) (fun hg=>hF (hG i hi hg))).trans (h.block hi hF)⟩
theorem Turn.of_below (h:Below w.heap.size w w'):Turn F w w':=⟨h.os,h.tape,h.output,h.size,fun k hk _=>h.block k hk⟩
theorem Turn.aP {row:Option Nat} (h:w.grownBy w' row) (hr:∀k,row=some k→F k):Turn F w w':=
 ⟨h.os,h.tape,h.output,h.size,fun k hk hF=>h.block k hk (fun e=>hF (hr k e.symm))⟩
theorem Turn.below {B:Nat} (h:Turn F w w') (hB:B≤w.heap.size) (hF:∀k,k<B→¬F k):Below B w w':=
 ⟨h.1,h.2.1,h.2.2.1,h.size,fun k hk=>h.block (Nat.lt_of_lt_of_le hk hB) (hF k hk)⟩
theorem Turn.mono (h:Turn F w w') (hF:∀k,k<w.heap.size→F k→G k):Turn G w w':=
 ⟨h.1,h.2.1,h.2.2.1,h.size,fun k hk hG=>h.block hk (fun hf=>hG (hF k hk hf))⟩
theorem Turn.alloc (F:Nat→Prop) (w:World) (o:Obj):Turn F w (w.alloc o):=Turn.aP (World.grownBy_alloc w o none) (by simp)
theorem Turn.drewN (F:Nat→Prop) (w:World) (n:Nat):Turn F w (w.drewN n):=⟨rfl,rfl,rfl,Nat.le_refl _,fun _ _ _=>rfl⟩
theorem Turn.lt (h:Turn F w w') {k:Nat} (hk:k<w.heap.size):k<w'.heap.size:=Nat.lt_of_lt_of_le hk h.size
end
theorem Sl.Sq {w w':World} {B k:Nat} {v:Value} {xs:List Value} (h:Sl w B k v xs) (hk:∀g,v.ownBlock=some g→g<B→w'.heap[g]? =w.heap[g]?):Sl w' B k v xs:=by
 obtain⟨A,n,c,hv,hl,hn,hc,hx⟩:=h;refine⟨A,n,c,hv,hl,hn,hc,fun h0=> ?_⟩;obtain⟨b,off,hA,hb,hcell⟩:=hx h0;refine⟨b,off,hA,hb,fun j u hu=> ?_⟩;rw [←hcell j u hu];have h1:=hk b (by subst hv hA;rfl) hb;simp only [World.cell?,h1]
def N8 (w:World) (F:Nat→Prop) (k:Nat) (v:Value) (xs:List Value):Prop:=Sl w w.heap.size k v xs∧∀g,v.ownBlock=some g→F g
section
variable {F G:Nat→Prop} {w w':World} {k:Nat} {v:Value} {xs:List Value}
theorem N8.turn (h:N8 w F k v xs) (t:Turn G w w') (hd:∀g,F g→¬G g):N8 w' F k v xs:=
 ⟨(h.1.Sq fun g hg hl=>t.block hl (hd g (h.2 g hg))).more t.size,h.2⟩
theorem N8.mono (h:N8 w F k v xs) (hF:∀g,F g→G g):N8 w G k v xs:=⟨h.1,fun g hg=>hF g (h.2 g hg)⟩
theorem N8.qX {base n:Nat} {e:TypeId} (h:w.ownsRow base e k v n xs) (hF:∀g,v.ownBlock=some g→F g):N8 w F k v xs:=⟨Sl.qX h,hF⟩
end
theorem bK {G:Nat→Prop} {w w':World} {base:Nat} {e:TypeId} {k:Nat} {v:Value} {n:Nat} {xs:List Value} (h:w.ownsRow base e k v n xs) (t:Turn G w w') (hd:∀g,v.ownBlock=some g→¬G g):w'.ownsRow base e k v n xs:=by
 refine⟨h.1, ?_⟩;rcases h.2 with h2 | ⟨g,cap,cur,hv,hg,hb,r⟩
 ·exact .inl h2
 ·refine .inr ⟨g,cap,cur,hv,hg, ?_,r⟩;rw [t.block (Array.getElem?_eq_some_iff.1 hb).1 (hd g (by subst hv;rfl))];exact hb
theorem Ca {H:Type} {P:Program} {k:TypeId} {R:Value→Option (DataW H ×List MemPlace)} {G:Nat→Prop} {w w':World} {b n:Nat} {D:DataW H} (h:w.ownsMap P k R b n D) (t:Turn G w w') (hd:¬G b):w'.ownsMap P k R b n D:=by
 have hlt:=h.lt;obtain⟨es,clock,hb,r⟩:=h;exact⟨es,clock,(t.block hlt hd).trans hb,r⟩
theorem ah {G:Nat→Prop} {w w':World} {b:Nat} {o:Obj} (h:w.heap[b]? =some o) (t:Turn G w w') (hd:¬G b):w'.heap[b]? =some o:=
 (t.block (Array.getElem?_eq_some_iff.1 h).1 hd).trans h
theorem block_lt {w:World} {b:Nat} {o:Obj} (h:w.heap[b]? =some o):b<w.heap.size:=(Array.getElem?_eq_some_iff.1 h).1
theorem gN {w:World} {base:Nat} {e:TypeId} {k:Nat} {v:Value} {n:Nat} {xs:List Value} (h:w.ownsRow base e k v n xs) (h0:0<n):
  ∃g c,v= .slice (some ⟨g,0,none⟩) n c∧base≤g∧g<w.heap.size∧n≤c∧c≤maxLen:=by
 rcases h.2 with⟨_,h0⟩ | ⟨g,cap,cur,hv,hb,hg,hc,hm, _⟩
 ·omega
 ·exact⟨g,cap,hv,hb,block_lt hg,hc,hm⟩
def mZ (l:List (List UInt8)):List Value:=l.map sv
theorem jd (l:List (List UInt8)):(mZ l).length=l.length:=by simp [mZ]
theorem nQ (a b:List (List UInt8)):mZ (a++b)=mZ a++mZ b:=by simp [mZ]
theorem AX (l:List (List UInt8)):∀u∈mZ l,u.oneCell'=true:=by
 intro u hu;obtain⟨b, _,rfl⟩:=List.mem_map.1 hu;rfl
theorem AY (l:List (List UInt8)) (i:Nat) (h:i<l.length):(mZ l)[i]? =some (sv l[i]):=by simp [mZ,h]
def Ss (w:World) (B:Nat) (v:Value) (l:List (List UInt8)):Prop:=Sl w B 1 v (mZ l)
theorem Ss.open_ {w:World} {B:Nat} {v:Value} {l:List (List UInt8)} (h:Ss w B v l):
  ∃(A:Option Addr) (c:Nat),v= .slice A l.length c∧l.length≤c∧c≤maxLen∧
   (0<l.length→∃b off,A=some ⟨b,off,none⟩∧b<B∧∀(j:Nat) (hj:j<l.length),w.cell? ⟨b,off+j,none⟩=some (sv l[j])):=by
 obtain⟨A,n,c,rfl,hl,hn,hc,hx⟩:=h;obtain rfl:l.length=n:=by rw [←jd l,hl];omega
 refine⟨A,c,rfl,hn,hc,fun h0=> ?_⟩;obtain⟨b,off,hA,hb,hcell⟩:=hx h0;exact⟨b,off,hA,hb,fun j hj=>hcell j _ (AY l j hj)⟩
theorem Ss.below {w w':World} {B:Nat} {v:Value} {l:List (List UInt8)} (h:Ss w B v l) (hb:Below B w w'):Ss w' B v l:=Sl.below h hb
theorem Ss.alloc {w:World} {B:Nat} {v:Value} {l:List (List UInt8)} (h:Ss w B v l) (hB:B≤w.heap.size) (o:Obj):Ss (w.alloc o) B v l:=Sl.alloc h hB o
theorem Ss.more {w:World} {B B':Nat} {v:Value} {l:List (List UInt8)} (h:Ss w B v l) (hB:B≤B'):Ss w B' v l:=Sl.more h hB
def iC (w:World) (base:Nat) (e:TypeId) (v:Value) (l:List (List UInt8)):Prop:=∃n,w.ownsRow base e 1 v n (mZ l)
section
variable {w w':World} {base:Nat} {e:TypeId} {v:Value} {l:List (List UInt8)}
theorem iC.nil (w:World) (base:Nat) (e:TypeId):iC w base e (.slice none 0 0) []:=⟨0,World.ownsRow_nil _ _ _ _⟩
theorem iC.ss (h:iC w base e v l):Ss w w.heap.size v l:=by obtain⟨n,h⟩:=h;exact Sl.qX h
theorem iC.below (h:iC w base e v l) (hb:Below w.heap.size w w'):iC w' base e v l:=by obtain⟨n,h⟩:=h;exact⟨n,own_below h hb⟩
theorem iC.alloc (h:iC w base e v l) (o:Obj):iC (w.alloc o) base e v l:=by obtain⟨n,h⟩:=h;exact⟨n,h.alloc o⟩
theorem iC.drewN (h:iC w base e v l) (k:Nat):iC (w.drewN k) base e v l:=h
theorem iC.lt (h:iC w base e v l):∀k,v.ownBlock=some k→base≤k∧k<w.heap.size:=by obtain⟨n,h⟩:=h;exact h.lt
theorem iC.turn {G:Nat→Prop} (h:iC w base e v l) (t:Turn G w w') (hd:∀g,v.ownBlock=some g→¬G g):iC w' base e v l:=by obtain⟨n,h⟩:=h;exact⟨n,bK h t hd⟩
theorem iC.row (h:iC w base e v l):w.ownsRow base e 1 v l.length (mZ l):=by
 obtain⟨n,h⟩:=h;have hn:n=l.length:=by have:=h.1;rw [jd]at this;omega
 subst hn;exact h
end
theorem AZ (w:World) (x:List UInt8) (t:TypeId):Ss (w.alloc (.cells #[sv x] t)) (w.heap.size+1) (.slice (some ⟨w.heap.size,0,none⟩) 1 1) [x]:=
 fT w #[sv x] t 1 1 rfl (by decide)
theorem ay (w:World) (b i:Nat) (v:Value):Turn (fun k=>k=b) w (w.setCell ⟨b,i,none⟩ v):=
 ⟨rfl,rfl,rfl,by simp,fun k _ hF=>heap_setCell_other w _ k v hF⟩
open Go.ChangeShapes Go.WideShapes Go.ChangeAt Go.RowKit
section
variable {H:Type} {enc:TypeId ×Value→H} {P:Program} {W:World}
theorem Sr (s:ByteArray):Value.string s=sv s.data.toList:=by
 show Value.string s=Value.string ⟨s.data.toList.toArray⟩;simp
end
open Go.ChangeShapes Go.WideShapes Go.ChangeAt Go.RowKit
section
variable {H:Type} {enc:TypeId ×Value→H} {P:Program} {W:World}
end
theorem cu {P:Program} {ops:Array Oper} {o:Oper} {a:Act} {w:World} {K:Act→World→Prop} {Q:Exit→Act→World→Prop} {E:Prop} (hgd:o.guard=none) (s x:Operand) (t:TypeId)
  (ho:o.op= .call { callee:= .builtin .append,args:= #[s,x],argTypes:= #[t,t]})
  (base:Nat) {e:TypeId} {z:Value} {size bytes:Nat} (hE:iF P t e z size bytes) (v y:Value) (hs:a.eval s=v) (hx:a.eval x=y)
  {n:Nat} {xs:List Value} (hown:w.ownsRow base e size v n xs) {B:Nat} {news:List Value} (hy:Sl w B size y news) (h1:∀u∈news,u.oneCell'=true)
  (h63:n*size+news.length≤maxLen) (hbytes:(n*size+news.length)*bytes≤140737488355328) (hbase:base≤w.heap.size)
  (h:∀v' w' n',w'.ownsRow base e size v' n' (xs++news)→w.grownBy w' v.ownBlock→(v'.ownBlock=v.ownBlock∨v'.ownBlock=some w.heap.size)→K (a.put o.dst v') w'):
  if Region.wanted o (yielded ops a.tmps)=true then Oper.wp P o a w K Q else E:=by
 have hw:Region.wanted o (yielded ops a.tmps)=true:=by simp [Region.wanted,hgd]
 rw [if_pos hw];obtain⟨v',w',n',hrun,h2,h3,h4⟩:=Ga (P:=P) (ty:=o.type) w base hE hown hy h1 h63 hbytes hbase;unfold Oper.wp execOp;simp only [ho,resolve,invoke,builtin,Sem.run_bind,Sem.run_pure,Result.andThen_ok,List.map_toArray,List.map_cons,List.map_nil,hs,hx,hrun];exact h v' w' n' h2 h3 h4
end
section
inductive cZ where
 | mk (kind:Int) (name:Bt) (names:List Bt) (kids:List cZ):cZ
inductive bT where
 | mk (kind:Int) (text:Bt) (n line col:Int) (types:List cZ) (names:List Bt) (kids:List bT):bT
def cZ.kind:cZ→Int | .mk k _ _ _=>k
def cZ.name:cZ→Bt | .mk _ n _ _=>n
def cZ.names:cZ→List Bt | .mk _ _ n _=>n
def cZ.kids:cZ→List cZ | .mk _ _ _ k=>k
structure aaO where
 name:Bool
 low:Nat
 types:Nat
 kids:Int
 most:Int
def zU:List Bt:=[[110,117,108,108],[98,111,111,108],[105,110,116],[115,116,114],[114,101,99,111,114,100],[102,117,110,99,116,105,111,110]]
theorem eX {w:World} {B k:Nat} {v:Value} {xs:List Value} (h:Sl w B k v xs):∃A n c,v= .slice A n c:=by
 obtain⟨A,n,c,hv, _⟩:=h;exact⟨A,n,c,hv⟩
theorem cB {w:World} {B k:Nat} {A:Option Addr} {n c:Nat} {xs:List Value} (h:Sl w B k (.slice A n c) xs):xs.length=n*k∧n≤c∧c≤2 ^ 63 - 1:=by
 obtain⟨A',n',c',hv,hl,hn,hc, _⟩:=h;injection hv with e1 e2 e3;subst e1 e2 e3;unfold maxLen at hc;exact⟨hl,hn,hc⟩
theorem bP {w:World} {B k m:Nat} {v:Value} {xs:List Value} (h:Sl w B k v xs) (hk:0<k) (hm:xs.length=m*k):∃A c,v= .slice A m c:=by
 obtain⟨A,n,c,rfl⟩:=eX h;have:=(cB h).1;rw [hm]at this;obtain rfl:m=n:=Nat.eq_of_mul_eq_mul_right hk this;exact⟨A,c,rfl⟩
theorem sK {w:World} {B k:Nat} {xs:List Value} {A:Option Addr} {n c:Nat} (h:Sl w B k (.slice A n c) xs) {i:Nat} (hi:i<n) (hk:0<k):
  ∃b off,A=some ⟨b,off,none⟩∧b<B∧∀(j:Nat) u,xs[i*k+j]? =some u→w.cell? ⟨b,off+(i*k+j),none⟩=some u:=by
 obtain⟨A',n',c',hv',hl,hn,hc,hx⟩:=h;injection hv' with e1 e2 e3;subst e1 e2 e3;obtain⟨b,off,hA,hbb,hcell⟩:=hx (by omega);exact⟨b,off,hA,hbb,fun j u hu=>hcell _ u hu⟩
mutual
inductive zw (w:World) (B:Nat):List Value→cZ→Prop
 | mk {k:Int} {nm:Bt} {vn vk:Value} {ns:List Bt} {ks:List cZ} {xk:List Value}:Ss w B vn ns→Sl w B 4 vk xk→jL w B xk ks→zw w B [.int .i64 k,sv nm,vn,vk] (.mk k nm ns ks)
inductive jL (w:World) (B:Nat):List Value→List cZ→Prop
 | nil:jL w B [] []
 | cons {x y:List Value} {c:cZ} {l:List cZ}:zw w B x c→jL w B y l→jL w B (x++y) (c :: l)
end
mutual
inductive xV (w:World) (B:Nat):List Value→bT→Prop
 | mk {k n line col:Int} {text:Bt} {vt vn vk:Value} {ts:List cZ} {xt:List Value} {ns:List Bt} {ks:List bT} {xk:List Value}:Sl w B 4 vt xt→jL w B xt ts→Ss w B vn ns→Sl w B 8 vk xk→lC w B xk ks→
   xV w B [.int .i64 k,sv text, .int .i64 n, .int .i64 line, .int .i64 col,vt,vn,vk] (.mk k text n line col ts ns ks)
inductive lC (w:World) (B:Nat):List Value→List bT→Prop
 | nil:lC w B [] []
 | cons {x y:List Value} {c:bT} {l:List bT}:xV w B x c→lC w B y l→lC w B (x++y) (c :: l)
end
mutual
theorem zw.keep {w w':World} {B:Nat} {x:List Value} {c:cZ} (h:zw w B x c) (hb:Below B w w'):zw w' B x c:=
 match h with
 | .mk h1 h2 h3=> .mk (Sl.below h1 hb) (h2.below hb) (h3.keep hb)
theorem jL.keep {w w':World} {B:Nat} {x:List Value} {l:List cZ} (h:jL w B x l) (hb:Below B w w'):jL w' B x l:=
 match h with
 | .nil=> .nil
 | .cons h1 h2=> .cons (h1.keep hb) (h2.keep hb)
end
mutual
theorem zw.more {w:World} {B B':Nat} {x:List Value} {c:cZ} (h:zw w B x c) (hb:B≤B'):zw w B' x c:=
 match h with
 | .mk h1 h2 h3=> .mk (Sl.more h1 hb) (h2.more hb) (h3.more hb)
theorem jL.more {w:World} {B B':Nat} {x:List Value} {l:List cZ} (h:jL w B x l) (hb:B≤B'):jL w B' x l:=
 match h with
 | .nil=> .nil
 | .cons h1 h2=> .cons (h1.more hb) (h2.more hb)
end
theorem zw.far {W w':World} {B:Nat} {x:List Value} {c:cZ} (h:zw W B x c) (hB:B≤W.heap.size) (hb:Below W.heap.size W w'):zw w' w'.heap.size x c:=
 (h.keep (hb.mono hB)).more (Nat.le_trans hB hb.size)
theorem jL.far {W w':World} {B:Nat} {x:List Value} {c:List cZ} (h:jL W B x c) (hB:B≤W.heap.size) (hb:Below W.heap.size W w'):jL w' w'.heap.size x c:=
 (h.keep (hb.mono hB)).more (Nat.le_trans hB hb.size)
theorem zw.len {w:World} {B:Nat} {x:List Value} {c:cZ} (h:zw w B x c):x.length=4:=by
 cases h;rfl
theorem jL.length {w:World} {B:Nat}:∀ {x:List Value} {l:List cZ},jL w B x l→x.length=l.length*4
 | _, _, .nil=>rfl
 | _, _, .cons h1 h2=>by
  have:=h1.len;have:=jL.length h2;rw [List.length_append,List.length_cons];omega
theorem jL.at {w:World} {B:Nat}:∀ {x:List Value} {l:List cZ},jL w B x l→∀(i:Nat) (hi:i<l.length),zw w B ((x.drop (i*4)).take 4) l[i]
 | _, _, .nil,i,hi=>by simp at hi
 | _, _, .cons (x:=x) (y:=y) h1 h2,i,hi=>by
  have h5:=h1.len;rcases i with _ | i
  ·rw [Nat.zero_mul,List.drop_zero, ←h5,List.take_left];exact h1
  ·have:(x++y).drop ((i+1)*4)=y.drop (i*4):=by
    rw [show(i+1)*4=x.length+i*4 by omega, ←List.drop_drop,List.drop_left]
   rw [this];exact jL.at h2 i (by simpa using hi)
mutual
theorem xV.keep {w w':World} {B:Nat} {x:List Value} {c:bT} (h:xV w B x c) (hb:Below B w w'):xV w' B x c:=
 match h with
 | .mk h1 h2 h3 h4 h5=> .mk (h1.below hb) (h2.keep hb) (Sl.below h3 hb) (h4.below hb) (h5.keep hb)
theorem lC.keep {w w':World} {B:Nat} {x:List Value} {l:List bT} (h:lC w B x l) (hb:Below B w w'):lC w' B x l:=
 match h with
 | .nil=> .nil
 | .cons h1 h2=> .cons (h1.keep hb) (h2.keep hb)
end
mutual
theorem xV.more {w:World} {B B':Nat} {x:List Value} {c:bT} (h:xV w B x c) (hb:B≤B'):xV w B' x c:=
 match h with
 | .mk h1 h2 h3 h4 h5=> .mk (h1.more hb) (h2.more hb) (Sl.more h3 hb) (h4.more hb) (h5.more hb)
theorem lC.more {w:World} {B B':Nat} {x:List Value} {l:List bT} (h:lC w B x l) (hb:B≤B'):lC w B' x l:=
 match h with
 | .nil=> .nil
 | .cons h1 h2=> .cons (h1.more hb) (h2.more hb)
end
theorem xV.far {W w':World} {B:Nat} {x:List Value} {c:bT} (h:xV W B x c) (hB:B≤W.heap.size) (hb:Below W.heap.size W w'):xV w' w'.heap.size x c:=
 (h.keep (hb.mono hB)).more (Nat.le_trans hB hb.size)
theorem lC.far {W w':World} {B:Nat} {x:List Value} {c:List bT} (h:lC W B x c) (hB:B≤W.heap.size) (hb:Below W.heap.size W w'):lC w' w'.heap.size x c:=
 (h.keep (hb.mono hB)).more (Nat.le_trans hB hb.size)
theorem xV.len {w:World} {B:Nat} {x:List Value} {c:bT} (h:xV w B x c):x.length=8:=by
 cases h;rfl
theorem lC.length {w:World} {B:Nat}:∀ {x:List Value} {l:List bT},lC w B x l→x.length=l.length*8
 | _, _, .nil=>rfl
 | _, _, .cons h1 h2=>by
  have:=h1.len;have:=lC.length h2;rw [List.length_append,List.length_cons];omega
theorem lC.at {w:World} {B:Nat}:∀ {x:List Value} {l:List bT},lC w B x l→∀(i:Nat) (hi:i<l.length),xV w B ((x.drop (i*8)).take 8) l[i]
 | _, _, .nil,i,hi=>by simp at hi
 | _, _, .cons (x:=x) (y:=y) h1 h2,i,hi=>by
  have h5:=h1.len;rcases i with _ | i
  ·rw [Nat.zero_mul,List.drop_zero, ←h5,List.take_left];exact h1
  ·have:(x++y).drop ((i+1)*8)=y.drop (i*8):=by
    rw [show(i+1)*8=x.length+i*8 by omega, ←List.drop_drop,List.drop_left]
   rw [this];exact lC.at h2 i (by simpa using hi)
theorem zw.parts {w:World} {B:Nat} {x:List Value} {k:Int} {nm:Bt} {ns:List Bt} {ks:List cZ} (h:zw w B x (.mk k nm ns ks)):
  ∃A1 c1 A2 c2 xk,x=[.int .i64 k,sv nm, .slice A1 ns.length c1, .slice A2 ks.length c2]∧Ss w B (.slice A1 ns.length c1) ns∧Sl w B 4 (.slice A2 ks.length c2) xk∧jL w B xk ks:=by
 cases h with
 | mk h1 h2 h3=>
  obtain⟨A1,c1,rfl⟩:=bP h1 (by omega) (m:=ns.length) (by rw [jd];omega);obtain⟨A2,c2,rfl⟩:=bP h2 (by omega) (m:=ks.length) h3.length;exact⟨A1,c1,A2,c2, _,rfl,h1,h2,h3⟩
theorem xV.parts {w:World} {B:Nat} {x:List Value} {k n line col:Int} {text:Bt} {ts:List cZ} {ns:List Bt} {ks:List bT} (h:xV w B x (.mk k text n line col ts ns ks)):
  ∃A1 c1 A2 c2 A3 c3 xt xk,x=[.int .i64 k,sv text, .int .i64 n, .int .i64 line, .int .i64 col, .slice A1 ts.length c1, .slice A2 ns.length c2, .slice A3 ks.length c3]∧Sl w B 4 (.slice A1 ts.length c1) xt∧jL w B xt ts∧Ss w B (.slice A2 ns.length c2) ns∧Sl w B 8 (.slice A3 ks.length c3) xk∧lC w B xk ks:=by
 cases h with
 | mk h1 Zo h2 h3 Zp=>
  obtain⟨A1,c1,rfl⟩:=bP h1 (by omega) (m:=ts.length) Zo.length;obtain⟨A2,c2,rfl⟩:=bP h2 (by omega) (m:=ns.length) (by rw [jd];omega);obtain⟨A3,c3,rfl⟩:=bP h3 (by omega) (m:=ks.length) Zp.length;exact⟨A1,c1,A2,c2,A3,c3, _, _,rfl,h1,Zo,h2,h3,Zp⟩
theorem zw.shape {w:World} {B:Nat} {x:List Value} {c:cZ} (h:zw w B x c):∃k s A1 n1 c1 A2 n2 c2,x=[.int .i64 k, .string s, .slice A1 n1 c1, .slice A2 n2 c2]:=by
 cases h with
 | mk h1 h2 _=>
  obtain⟨A1,n1,c1,rfl⟩:=eX h1;obtain⟨A2,n2,c2,rfl⟩:=eX h2;exact⟨_, _, _, _, _, _, _, _,rfl⟩
theorem xV.shape {w:World} {B:Nat} {x:List Value} {c:bT} (h:xV w B x c):∃k s n l o A1 n1 c1 A2 n2 c2 A3 n3 c3,x=[.int .i64 k, .string s, .int .i64 n, .int .i64 l, .int .i64 o, .slice A1 n1 c1, .slice A2 n2 c2, .slice A3 n3 c3]:=by
 cases h with
 | mk h1 _ h2 h3 _=>
  obtain⟨A1,n1,c1,rfl⟩:=eX h1;obtain⟨A2,n2,c2,rfl⟩:=eX h2;obtain⟨A3,n3,c3,rfl⟩:=eX h3;exact⟨_, _, _, _, _, _, _, _, _, _, _, _, _, _,rfl⟩
theorem Pf {W w':World} {b i:Nat} {v:Value} (h:Below W.heap.size W w') (d:W.cell? ⟨b,i,none⟩=some v) (hb:b<W.heap.size):w'.cell? ⟨b,i,none⟩=some v:=
 (h.cell (p:=⟨b,i,none⟩) hb).trans d
open Go.ChangeShapes Go.WideShapes Go.ChangeAt Go.RowKit
inductive bQ {α:Type} (R:List Value→α→Prop) (k:Nat):List Value→List α→Prop
 | nil:bQ R k [] []
 | cons {x y:List Value} {c:α} {l:List α}:x.length=k→R x c→bQ R k y l→bQ R k (x++y) (c :: l)
theorem bQ.snoc {α:Type} {R:List Value→α→Prop} {k:Nat} {z:List Value} {c:α} (hz:z.length=k) (hc:R z c):∀ {xs:List Value} {ys:List α},bQ R k xs ys→bQ R k (xs++z) (ys++[c])
 | _, _, .nil=>by have:=bQ.cons (R:=R) hz hc .nil;simpa using this
 | _, _, .cons h1 h2 h3=>by rw [List.append_assoc,List.cons_append];exact .cons h1 h2 (bQ.snoc hz hc h3)
theorem bQ.len {α:Type} {R:List Value→α→Prop} {k:Nat}:∀ {xs:List Value} {ys:List α},bQ R k xs ys→xs.length=ys.length*k
 | _, _, .nil=>by simp
 | _, _, .cons h1 h2 h3=>by rw [List.length_append,List.length_cons,h1,bQ.len h3,Nat.add_mul,Nat.one_mul,Nat.add_comm]
theorem bQ.all {α:Type} {R:List Value→α→Prop} {k:Nat} {S:α→Prop} (hS:∀z c,R z c→S c):∀ {xs:List Value} {ys:List α},bQ R k xs ys→∀y∈ys,S y
 | _, _, .nil,y,hy=>by cases hy
 | _, _, .cons h1 h2 h3,y,hy=>by
  rcases List.mem_cons.1 hy with rfl | hy
  ·exact hS _ _ h2
  ·exact bQ.all hS h3 y hy
section
variable {H:Type} {enc:TypeId ×Value→H} {P:Program} {W:World}
theorem open_row {α:Type} {t e:TypeId} {k:Nat} (ht:P.underlying t=some (.slice e)) (hc:P.cellsOf e=k) (hk:0<k) {fuel:Nat} {v:Value} {x:DataW H ×List MemPlace} (h:DataW.trod enc P W 0 (fun _=>true) true fuel t [v]=some x)
  (R:List Value→α→Prop) (hel:∀n cs' x',n<fuel→DataW.trod enc P W 0 (fun _=>true) true n e cs'=some x'→cs'.length=k→∃y,R cs' y):
  ∃(xs:List Value) (ys:List α),Sl W W.heap.size k v xs∧bQ R k xs ys:=by
 rcases DataW.trod_slice ht h with⟨hcs,hx⟩ | ⟨a,len,cap,elems,rest,n,hf,hcs,hx,hb,hl,hm,hlen,hcell, _, _⟩
 ·obtain rfl:v= .slice none 0 0:=by simpa using hcs
  exact⟨[],[],Sl.nil _ _ _, .nil⟩
 ·obtain rfl:v= .slice (some a) len cap:=by simpa using hcs
  have hone:∀i,i<len→∃cs' y,W.cells? 0 (a.add (i*k)) k=some cs'∧R cs' y∧cs'.length=k:=by
   intro i hi;have h1:=hcell i hi;rw [hc,List.getElem?_eq_getElem (by omega)]at h1;obtain⟨cs',h2,h3⟩:=Option.bind_eq_some_iff.1 h1;have hcl:=(World.cells?_some h2).2.1;obtain⟨y,hy1⟩:=hel n cs' _ (by omega) h3 hcl;exact⟨cs',y,h2,hy1,hcl⟩
  have hall:∀m,m≤len→∃(xs:List Value) (ys:List α),bQ R k xs ys∧ys.length=m∧(∀j u,xs[j]? =some u→W.cell? (a.add j)=some u):=by
   intro m;induction m with
   | zero=>exact fun _=>⟨[],[], .nil,rfl,fun j u hu=>by simp at hu⟩
   | succ m ih=>
    intro hm1;obtain⟨xs,ys,h1,h2,h3⟩:=ih (by omega);obtain⟨cs',y,h5,h6,h7⟩:=hone m (by omega);have hxl:xs.length=m*k:=by rw [h1.len,h2]
    refine⟨xs++cs',ys++[y],h1.snoc h7 h6,by rw [List.length_append,h2];rfl,fun j u hu=> ?_⟩;rcases Nat.lt_or_ge j xs.length with hj | hj
    ·rw [List.getElem?_append_left hj]at hu;exact h3 j u hu
    ·rw [List.getElem?_append_right hj]at hu;have hjk:j - xs.length<k:=by
      rcases Nat.lt_or_ge (j - xs.length) k with hlt | hge
      ·exact hlt
      ·rw [List.getElem?_eq_none (by omega)]at hu;cases hu
     have h9:=(World.cells?_some h5).2.2 (j - xs.length) hjk;rw [hu]at h9;have hadd:(a.add (m*k)).add (j - xs.length)=a.add j:=by
      rw [Deep.add_add, ←hxl];congr 1;omega
     rw [hadd]at h9;exact h9
  obtain⟨xs,ys,h1,h2,h3⟩:=hall len (Nat.le_refl _);have hxl:xs.length=len*k:=by rw [h1.len,h2]
  refine⟨xs,ys,⟨some a,len,cap,rfl,hxl,hl,hm,fun h0=> ?_⟩,h1⟩;have hp:0<xs.length:=by rw [hxl];exact Nat.mul_pos h0 hk
  have h5:=h3 0 xs[0] (by simp [hp]);obtain⟨b,off,spot⟩:=a;have hspot:spot=none:=by simpa [Addr.add]using World.cell?_spot h5
  subst hspot;refine⟨b,off,rfl, ?_,fun j u hu=> ?_⟩
  ·rw [mY]at h5;exact World.block_lt_of_cell? W _ h5
  ·have:=h3 j u hu;rw [mY]at this;exact this
end
section
variable {H:Type} {enc:TypeId ×Value→H} {W:World}
theorem Sv {fuel:Nat} {u:Value} {x:DataW H ×List MemPlace} (h:DataW.trod enc Tryz.prog W 0 (fun _=>true) true fuel 9 [u]=some x):∃y:Bt,u=sv y∧y.length≤maxLen:=by
 obtain⟨s,hs,rfl,hm⟩:=DataW.trod_string Tryz.underlying9 h;have e:s.data.toList.length=s.size:=Array.length_toList;have hu:u= .string s:=by simpa using hs
 exact⟨s.data.toList,by rw [hu,Sr],by rw [e];exact hm⟩
end
end
structure kG where
 from_:Bt
 names:List Bt
 line:Int
 col:Int
structure xW where
 name:Bt
 bound:cZ
structure jJ where
 name:Bt
 exp:Bool
 vars:List xW
 param:Bt
 types:List cZ
 body:bT
 line:Int
 col:Int
structure eH where
 imps:List kG
 decls:List jJ
end Go.Proofs.YtmbppnbekkbibaaGreatDoor
