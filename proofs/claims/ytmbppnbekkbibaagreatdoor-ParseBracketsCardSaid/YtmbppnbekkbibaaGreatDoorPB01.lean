/- GA, GB, GC, GD -/
import Derived.WalkKit
import Derived.OpenShut
import Derived.WalkSpells
import Derived.WalkLawsBesides
import Derived.Maps.AppendAt
import Derived.Deep.AppendLies
import Derived.Deep.Draws
import Derived.Lib.ItoaNum
import Derived.Lib.ItoaMem
import Derived.Lib.AtoiAll
import Derived.Maps.OwnSet
import Derived.ProofKit
import Derived.SliceStrings
import Derived.SizedLaws
import Derived.Deep.RegionLaw
import Derived.Deep.RegionHeld
import Derived.Test.YtmbppnbekkbibaaGreatDoorProg
import Derived.Deep.Slices
import Derived.Lib.SmallJoins
set_option linter.unusedSimpArgs false
set_option linter.unusedVariables false
section
set_option linter.unusedVariables false
namespace Go.Proofs.YtmbppnbekkbibaaGreatDoor
open Go.RowKit
def In64 (n:Int):Prop:= -9223372036854775808≤n∧n≤9223372036854775807
def Fits (f u:Nat):Prop:=u<18446744073709551616∧u<128 ^ (f+1)
theorem Fits.pos {f u:Nat} (h:Fits f u) (hu:¬u<128):∃g,f=g+1:=by
 cases f with
 | zero=>exact absurd h.2 (by omega)
 | succ g=>exact⟨g,rfl⟩
theorem Fits.next {f u:Nat} (h:Fits (f+1) u):Fits f (u / 128):=by
 obtain⟨h1,h2⟩:=h
 refine⟨by omega, ?_⟩
 rw [Nat.pow_succ]at h2
 exact(Nat.div_lt_iff_lt_mul (by decide)).2 h2
def uz (u:Nat):Int:=if u % 2=0 then(u / 2:Nat)else -1 - (u / 2:Nat)
def FN (u x k:Nat):Prop:=u<128 ^ k∧x<128∧(k≤8∨k=9∧x≤1)
theorem FN.lt {u x k:Nat} (h:FN u x k):u+x*128 ^ k<18446744073709551616∧u+x*128 ^ k<128 ^ (k+1):=by
 obtain⟨h1,h2,h3⟩:=h
 have hk:u+x*128 ^ k<(x+1)*128 ^ k:=by rw [Nat.add_mul];omega
 refine⟨?_, ?_⟩
 ·rcases h3 with h3 | ⟨rfl,h3⟩
  ·have:(x+1)*128 ^ k≤128*128 ^ 8:=Nat.mul_le_mul (by omega) (Nat.pow_le_pow_right (by decide) h3)
   have e:128*128 ^ 8<18446744073709551616:=by decide
   omega
  ·have:(x+1)*128 ^ 9≤2*128 ^ 9:=Nat.mul_le_mul (by omega) (Nat.le_refl _)
   have e:2*128 ^ 9=18446744073709551616:=by decide
   omega
 ·rw [Nat.pow_succ]
  have:(x+1)*128 ^ k≤128*128 ^ k:=Nat.mul_le_mul (by omega) (Nat.le_refl _)
  omega
section
variable {l:List UInt8} {k u x:Nat}
end
end Go.Proofs.YtmbppnbekkbibaaGreatDoor
set_option linter.unusedVariables false
namespace Go.Proofs.YtmbppnbekkbibaaGreatDoor
open Go.RowKit
theorem hid {p:Prop} (h:p):Hid p:=h
theorem gW {w:World} {B:Nat} (h:B≤w.heap.size) (o:Obj):B≤(w.alloc o).heap.size:=by simp;omega
theorem pI (b off i:Nat):(⟨b,off,none⟩:Addr).add i=⟨b,off+i,none⟩:=by
 unfold Addr.add;split <;> simp_all
def Sl (w:World) (B k:Nat) (v:Value) (xs:List Value):Prop:=
 ∃(A:Option Addr) (n c:Nat),v= .slice A n c∧xs.length=n*k∧n≤c∧c≤maxLen∧
  (0<n→∃b off,A=some ⟨b,off,none⟩∧b<B∧∀(j:Nat) u,xs[j]? =some u→w.cell? ⟨b,off+j,none⟩=some u)
section
variable {w w':World} {B B' k:Nat} {v:Value} {xs:List Value}
theorem Sl.nil (w:World) (B k:Nat):Sl w B k (.slice none 0 0) []:=
 ⟨none,0,0,rfl,by simp,Nat.le_refl _,Nat.zero_le _,fun h=>absurd h (by omega)⟩
theorem Sl.keep (h:Sl w B k v xs) (hk:∀b o,b<B→w'.cell? ⟨b,o,none⟩=w.cell? ⟨b,o,none⟩):Sl w' B k v xs:=by
 obtain⟨A,n,c,hv,hl,hn,hc,hx⟩:=h
 refine⟨A,n,c,hv,hl,hn,hc,fun h0=> ?_⟩
 obtain⟨b,off,hA,hb,hcell⟩:=hx h0
 exact⟨b,off,hA,hb,fun j u hu=>(hk _ _ hb).trans (hcell j u hu)⟩
theorem Sl.more (h:Sl w B k v xs) (hB:B≤B'):Sl w B' k v xs:=by
 obtain⟨A,n,c,hv,hl,hn,hc,hx⟩:=h
 refine⟨A,n,c,hv,hl,hn,hc,fun h0=> ?_⟩
 obtain⟨b,off,hA,hb,hcell⟩:=hx h0
 exact⟨b,off,hA,by omega,hcell⟩
theorem Sl.below (h:Sl w B k v xs) (hb:Below B w w'):Sl w' B k v xs:=h.keep fun b o hp=>hb.cell (p:=⟨b,o,none⟩) hp
theorem Sl.drew (h:Sl w B k v xs):Sl w.drew B k v xs:=h
theorem Sl.drewN (h:Sl w B k v xs) (n:Nat):Sl (w.drewN n) B k v xs:=h
theorem Sl.alloc (h:Sl w B k v xs) (hB:B≤w.heap.size) (o:Obj):Sl (w.alloc o) B k v xs:=
 h.keep fun b o' hp=>World.cell?_alloc_past _ _ _ (by show b<w.heap.size;omega)
theorem Sl.qB {base:Nat} {e:TypeId} {n:Nat} (h:w.ownsRow base e k v n xs):Sl w w.heap.size k v xs:=by
 rcases h.2 with⟨rfl,rfl⟩ | ⟨g,cap,cur,rfl,hb,hg,hn,hm,hs,htake⟩
 ·exact⟨none,0,0,rfl,h.1,Nat.le_refl _,Nat.zero_le _,fun h=>absurd h (by omega)⟩
 ·refine⟨_,n,cap,rfl,h.1,hn,hm,fun _=>⟨g,0,rfl,(Array.getElem?_eq_some_iff.1 hg).1,fun j u hu=> ?_⟩⟩
  have:=h.cells (g:=g) rfl j u hu
  rwa [pI]at this
theorem Sl.lt (h:Sl w w.heap.size k v xs):Sl w w.heap.size k v xs:=h
end
def iP (P:Program) (t e:TypeId) (z:Value) (size bytes:Nat):Prop:=
 P.underlying t=some (.slice e)∧(P.info? e).map (fun i=>(i.zero,i.size,i.bytes))=some (some z,size,bytes)∧z.cells.size=size∧0<size
theorem wT {w w':World} (h:Below w.heap.size w w') (row:Option Nat):w.grownBy w' row:=
 ⟨h.os,h.tape,h.output,h.size,fun k hk _=>h.block k hk⟩
theorem own_below {w w':World} {base:Nat} {e:TypeId} {size:Nat} {v:Value} {n:Nat} {xs:List Value} (h:w.ownsRow base e size v n xs) (hb:Below w.heap.size w w'):w'.ownsRow base e size v n xs:=
 h.kept (wT hb none) (by cases hv:v.ownBlock <;> simp)
section
variable {P:Program}
theorem FP (w:World) (base:Nat) {t e ty:TypeId} {z:Value} {size bytes:Nat} (hE:iP P t e z size bytes) {v:Value} {n:Nat} {xs:List Value} (hown:w.ownsRow base e size v n xs)
  {B:Nat} {y:Value} {news:List Value} (hy:Sl w B size y news) (h1:∀u∈news,u.oneCell'=true)
  (h63:n*size+news.length≤maxLen) (hbytes:(n*size+news.length)*bytes≤140737488355328) (hbase:base≤w.heap.size):
  ∃v' w' n',(Builtin.append_ #[t,t] ty #[v,y]).run P w= .ok v' w'∧w'.ownsRow base e size v' n' (xs++news)∧w.grownBy w' v.ownBlock∧(v'.ownBlock=v.ownBlock∨v'.ownBlock=some w.heap.size):=by
 obtain⟨ht,hinfo,hzs,hsz⟩:=hE
 obtain⟨i,hi,hz,hs,hb⟩:=info_parts hinfo
 obtain⟨A,m,c,rfl,hl,hn,hc,hx⟩:=hy
 have hnm:n+m≤n*size+news.length:=by
  rw [hl, ←Nat.add_mul];exact Nat.le_mul_of_pos_right _ hsz
 rcases A with _ | ad
 ·have hm:m=0:=by
   rcases Nat.eq_zero_or_pos m with h0 | h0
   ·exact h0
   ·obtain⟨b,off,hA, _⟩:=hx h0;cases hA
  subst hm
  obtain rfl:news=[]:=List.eq_nil_of_length_eq_zero (by simpa using hl)
  refine⟨v,w,n, ?_,by simpa using hown,World.grownBy.refl w _, .inl rfl⟩
  rcases hown.2 with⟨rfl,rfl⟩ | ⟨g,cap,cur,rfl, _, _,hnc, _⟩
  ·simp [Builtin.append_,run_underlying ht,sizeOf,typeInfo,hi,Builtin.lenOf,Builtin.firstCells]
  ·simp [Builtin.append_,run_underlying ht,sizeOf,typeInfo,hi,Builtin.lenOf,Builtin.firstCells,hnc,storeCells]
 ·have hcells:∀j u,news[j]? =some u→w.cell? (ad.add j)=some u:=by
   intro j u hu
   have h0:0<m:=by
    rcases Nat.eq_zero_or_pos m with h0 | h0
    ·subst h0
     obtain rfl:news=[]:=List.eq_nil_of_length_eq_zero (by simpa using hl)
     simp at hu
    ·exact h0
   obtain⟨b,off,hA, _,hcell⟩:=hx h0
   injection hA with hA
   subst hA
   rw [pI];exact hcell j u hu
  have hb2:(n+m)*bytes≤140737488355328:=Nat.le_trans (Nat.mul_le_mul_right _ hnm) hbytes
  obtain⟨v',w',hrun,h2,h3, _,h5⟩:=run_append_own_at (P:=P) w base t ty e i z size bytes ht hi hz hs hb hzs hsz v n xs hown ad m c news hl hcells h1 (by omega) hb2 hbase
  exact⟨v',w',n+m,hrun,h2,h3,h5⟩
theorem gN {w:World} {ops:Array Oper} {rest:List Oper} {o:Oper} {a:Act} {Q:Exit→Act→World→Prop} (hgd:o.guard=none) (s x:Operand) (t:TypeId)
  (ho:o.op= .call { callee:= .builtin .append,args:= #[s,x],argTypes:= #[t,t]})
  (base:Nat) {e:TypeId} {z:Value} {size bytes:Nat} (hE:iP P t e z size bytes) (v y:Value) (hs:a.eval s=v) (hx:a.eval x=y)
  {n:Nat} {xs:List Value} (hown:w.ownsRow base e size v n xs) {B:Nat} {news:List Value} (hy:Sl w B size y news) (h1:∀u∈news,u.oneCell'=true)
  (h63:n*size+news.length≤maxLen) (hbytes:(n*size+news.length)*bytes≤140737488355328) (hbase:base≤w.heap.size)
  (h:∀v' w' n',w'.ownsRow base e size v' n' (xs++news)→w.grownBy w' v.ownBlock→(v'.ownBlock=v.ownBlock∨v'.ownBlock=some w.heap.size)→wpList P ops Q rest (a.put o.dst v') w'):
  wpList P ops Q (o :: rest) a w:=by
 refine wpList_plain hgd fun K hK=> ?_
 obtain⟨v',w',n',hrun,h2,h3,h4⟩:=FP (P:=P) (ty:=o.type) w base hE hown hy h1 h63 hbytes hbase
 unfold Oper.wp execOp
 simp only [ho,resolve,invoke,builtin,Sem.run_bind,Sem.run_pure,Result.andThen_ok,List.map_toArray,List.map_cons,List.map_nil,hs,hx,hrun]
 exact hK _ _ (h v' w' n' h2 h3 h4)
end
theorem below_app {B:Nat} {a w w':World} {base:Nat} {e:TypeId} {size:Nat} {v:Value} {n:Nat} {xs:List Value} (h:Below B a w) (hown:w.ownsRow base e size v n xs) (hg:w.grownBy w' v.ownBlock) (hB:B≤base) (hs:B≤w.heap.size):Below B a w':=
 h.grown hg hs fun k hk=>Nat.le_trans hB (hown.lt k hk).1
theorem aM {B:Nat} (w:World) (n:Nat):Below B w (w.drewN n):=⟨rfl,rfl,rfl,Nat.le_refl _,fun _ _=>rfl⟩
theorem fD (w:World) (cs:Array Value) (t:TypeId) (k n:Nat) (hs:cs.size=n*k) (hn:n≤maxLen):
  Sl (w.alloc (.cells cs t)) (w.heap.size+1) k (.slice (some ⟨w.heap.size,0,none⟩) n n) cs.toList:=by
 refine⟨_,n,n,rfl,by simpa using hs,Nat.le_refl _,hn,fun _=>⟨w.heap.size,0,rfl,by omega,fun j u hu=> ?_⟩⟩
 rw [cell_of_row _ _ _ cs t (0,0) (heap_alloc_new w _)]
 simpa using hu
theorem iF (a b:List UInt8):(⟨a.toArray⟩:ByteArray)++⟨b.toArray⟩=⟨(a++b).toArray⟩:=by
 apply ByteArray.ext
 rw [ByteArray.data_append]
 exact List.append_toArray _ _
abbrev sv (l:List UInt8):Value:= .string ⟨l.toArray⟩
def bv (l:List UInt8):List Value:=l.map fun b=> .int .u8 (b.toNat:Int)
theorem kJ (l:List UInt8):(bv l).length=l.length:=by simp [bv]
theorem GJ (a b:List UInt8):bv (a++b)=bv a++bv b:=by simp [bv]
theorem Oy (l:List UInt8):∀u∈bv l,u.oneCell'=true:=by
 intro u hu
 obtain⟨b, _,rfl⟩:=List.mem_map.1 hu
 rfl
theorem Oz (l:List UInt8) (i:Nat) (h:i<l.length):(bv l)[i]? =some (.int .u8 (l[i].toNat:Int)):=by simp [bv,h]
def Bs (w:World) (B:Nat) (v:Value) (l:List UInt8):Prop:=Sl w B 1 v (bv l)
theorem Bs.open_ {w:World} {B:Nat} {v:Value} {l:List UInt8} (h:Bs w B v l):
  ∃(A:Option Addr) (c:Nat),v= .slice A l.length c∧l.length≤c∧c≤maxLen∧
   (0<l.length→∃b off,A=some ⟨b,off,none⟩∧b<B∧∀(j:Nat) (hj:j<l.length),w.cell? ⟨b,off+j,none⟩=some (.int .u8 (l[j].toNat:Int))):=by
 obtain⟨A,n,c,rfl,hl,hn,hc,hx⟩:=h
 obtain rfl:l.length=n:=by rw [←kJ l,hl];omega
 refine⟨A,c,rfl,hn,hc,fun h0=> ?_⟩
 obtain⟨b,off,hA,hb,hcell⟩:=hx h0
 exact⟨b,off,hA,hb,fun j hj=>hcell j _ (Oz l j hj)⟩
theorem Bs.dO {w:World} {B:Nat} {A:Option Addr} {n c:Nat} {l:List UInt8} (h:Bs w B (.slice A n c) l) {k:Nat} (hk:k≤l.length):Bs w B (.slice A k c) (l.take k):=by
 obtain⟨A',n',c',hv,hl,hn,hc,hx⟩:=h
 injection hv with h1 h2 h3
 subst h1 h2 h3
 rw [kJ]at hl
 refine⟨A,k,c,rfl,by rw [kJ,List.length_take];omega,by omega,hc,fun h0=> ?_⟩
 obtain⟨b,off,hA,hb,hcell⟩:=hx (by omega)
 refine⟨b,off,hA,hb,fun j u hu=>hcell j u ?_⟩
 unfold bv at hu ⊢
 rw [List.map_take,List.getElem?_take]at hu
 split at hu
 ·exact hu
 ·cases hu
theorem yX {P:Program} {w:World} {B:Nat} {v:Value} {l:List UInt8} (h:Bs w B v l) (src e dst:TypeId) (hs:P.underlying src=some (.slice e)) (he:P.underlying e=some (.int .u8)) (hd:P.underlying dst=some .string):
  (convert src dst v).run P w= .ok (.string ⟨l.toArray⟩) w:=by
 obtain⟨A,c,rfl,hn,hc,hx⟩:=h.open_
 by_cases h0:l.length=0
 ·obtain rfl:l=[]:=List.eq_nil_of_length_eq_zero h0
  rw [run_convert_bytes_string w src dst e _ _ c hs he hd]
  cases A with
  | none=>simp [Conv.bytesToString,ByteArray.empty,ByteArray.emptyWithCapacity];rfl
  | some ad=>
   exact(run_bytesToString w ad 0 c [] (run_loadCells_list (P:=P) w ad [] (by simp))).trans rfl
 ·obtain⟨b,off,rfl,hb,hcell⟩:=hx (by omega)
  rw [run_convert_bytes_arg (P:=P) w src e hs he b off l.length c (l.map fun x=>(x.toNat:Int)) (by simp) (fun i hi=>by rw [hcell i hi];simp [hi]) dst hd]
  congr 2
  simp [strOfNums,Function.comp_def]
def kS (w:World) (base:Nat) (e:TypeId) (v:Value) (l:List UInt8):Prop:=∃n,w.ownsRow base e 1 v n (bv l)
section
variable {w w':World} {base:Nat} {e:TypeId} {v:Value} {l:List UInt8}
theorem kS.nil (w:World) (base:Nat) (e:TypeId):kS w base e (.slice none 0 0) []:=⟨0,World.ownsRow_nil _ _ _ _⟩
theorem kS.bs (h:kS w base e v l):Bs w w.heap.size v l:=by obtain⟨n,h⟩:=h;exact Sl.qB h
theorem kS.below (h:kS w base e v l) (hb:Below w.heap.size w w'):kS w' base e v l:=by obtain⟨n,h⟩:=h;exact⟨n,own_below h hb⟩
theorem kS.alloc (h:kS w base e v l) (o:Obj):kS (w.alloc o) base e v l:=by obtain⟨n,h⟩:=h;exact⟨n,h.alloc o⟩
theorem kS.drewN (h:kS w base e v l) (k:Nat):kS (w.drewN k) base e v l:=h
theorem kS.drew (h:kS w base e v l):kS w.drew base e v l:=h
theorem kS.lt (h:kS w base e v l):∀k,v.ownBlock=some k→base≤k∧k<w.heap.size:=by obtain⟨n,h⟩:=h;exact h.lt
end
theorem Bs.below {w w':World} {B:Nat} {v:Value} {l:List UInt8} (h:Bs w B v l) (hb:Below B w w'):Bs w' B v l:=Sl.below h hb
theorem Bs.alloc {w:World} {B:Nat} {v:Value} {l:List UInt8} (h:Bs w B v l) (hB:B≤w.heap.size) (o:Obj):Bs (w.alloc o) B v l:=Sl.alloc h hB o
theorem Bs.more {w:World} {B B':Nat} {v:Value} {l:List UInt8} (h:Bs w B v l) (hB:B≤B'):Bs w B' v l:=Sl.more h hB
theorem jC {P:Program} {w:World} {ops:Array Oper} {rest:List Oper} {o:Oper} {a:Act} {Q:Exit→Act→World→Prop} (hgd:o.guard=none) (s x:Operand) (t:TypeId)
  (ho:o.op= .call { callee:= .builtin .append,args:= #[s,x],argTypes:= #[t,t]})
  (base:Nat) {e:TypeId} {z:Value} (hE:iP P t e z 1 1) (v y:Value) (hs:a.eval s=v) (hx:a.eval x=y)
  {l:List UInt8} (hown:kS w base e v l) {B:Nat} {m:List UInt8} (hy:Bs w B y m)
  (hlen:l.length+m.length≤140737488355328) (hbase:base≤w.heap.size)
  (h:∀v' w',kS w' base e v' (l++m)→w.grownBy w' v.ownBlock→(v'.ownBlock=v.ownBlock∨v'.ownBlock=some w.heap.size)→wpList P ops Q rest (a.put o.dst v') w'):
  wpList P ops Q (o :: rest) a w:=by
 obtain⟨n,hown⟩:=hown
 have hn:n=l.length:=by have:=hown.1;rw [kJ]at this;omega
 subst hn
 exact gN hgd s x t ho base hE v y hs hx hown hy (Oy _) (by simp only [kJ,maxLen];omega) (by rw [kJ];omega) hbase
  (fun v' w' n' h1 h2 h3=>h v' w' ⟨n',by rw [GJ];exact h1⟩ h2 h3)
theorem kT {B:Nat} {a w w':World} {base:Nat} {e:TypeId} {v:Value} {l:List UInt8} (h:Below B a w) (hown:kS w base e v l) (hg:w.grownBy w' v.ownBlock) (hB:B≤base) (hs:B≤w.heap.size):Below B a w':=
 h.grown hg hs fun k hk=>Nat.le_trans hB (hown.lt k hk).1
theorem wU (w:World) (x:Int) (t:TypeId) (h:0≤x∧x<256):Bs (w.alloc (.cells #[.int .u8 x] t)) (w.heap.size+1) (.slice (some ⟨w.heap.size,0,none⟩) 1 1) [UInt8.ofNat x.toNat]:=by
 have h1:=fD w #[.int .u8 x] t 1 1 rfl (by decide)
 have e:bv [UInt8.ofNat x.toNat]=[.int .u8 x]:=by
  unfold bv
  simp only [List.map_cons,List.map_nil,UInt8.toNat_ofNat']
  congr 2
  omega
 unfold Bs;rw [e];exact h1
end Go.Proofs.YtmbppnbekkbibaaGreatDoor
set_option linter.unusedVariables false
namespace Go.Proofs.YtmbppnbekkbibaaGreatDoor
open Go.RowKit
def BG (c:UInt8):Bool:=decide (48≤c.toNat) && decide (c.toNat≤57)
theorem jg {c:UInt8}:BG c=true↔48≤c.toNat∧c.toNat≤57:=by simp [BG]
def FQ (n:Nat) (c:UInt8):Nat:=10*n+(c.toNat - 48)
def dJ (acc:Nat) (l:List UInt8):Nat:=l.foldl FQ acc
theorem jh (acc:Nat):dJ acc []=acc:=by unfold dJ;rw [List.foldl_nil]
theorem iI (acc:Nat) (c:UInt8) (r:List UInt8):dJ acc (c :: r)=dJ (10*acc+(c.toNat - 48)) r:=by
 unfold dJ;rw [List.foldl_cons];unfold FQ;exact Eq.refl _
theorem wV (a b:List UInt8) (acc:Nat):dJ acc (a++b)=dJ (dJ acc a) b:=by unfold dJ;rw [List.foldl_append]
theorem rG (a:List UInt8) (c:UInt8) (acc:Nat):dJ acc (a++[c])=10*dJ acc a+(c.toNat - 48):=by
 rw [wV,iI,jh]
theorem qC:∀(l:List UInt8) (acc:Nat),acc*10 ^ l.length≤dJ acc l
 | [],acc=>by rw [jh,List.length_nil,Nat.pow_zero,Nat.mul_one];exact Nat.le_refl _
 | c :: r,acc=>by
  rw [iI]
  have h:=qC r (10*acc+(c.toNat - 48))
  refine Nat.le_trans ?_ h
  have e:acc*10 ^ (c :: r).length=(10*acc)*10 ^ r.length:=by
   rw [List.length_cons,Nat.pow_succ,Nat.mul_comm (10 ^ r.length) 10, ←Nat.mul_assoc,Nat.mul_comm acc 10]
  rw [e]
  exact Nat.mul_le_mul_right _ (Nat.le_add_right _ _)
def Canon (l:List UInt8):Prop:=l≠[]∧(∀c∈l,BG c=true)∧(l.length=1∨l.head? ≠some 48)
instance (l:List UInt8):Decidable (Canon l):=by unfold Canon;infer_instance
def Ac (l:List UInt8):Option Nat:=if Canon l∧dJ 0 l<9223372036854775808 then some (dJ 0 l)else none
def eP (l:List UInt8):Int ×Bool:=match Ac l with | some n=>((n:Int),true) | none=>(0,false)
theorem GK {l:List UInt8} (h:Canon l) (hl:2≤l.length):10 ^ (l.length - 1)≤dJ 0 l:=by
 obtain⟨h0,hd,hh⟩:=h
 cases l with
 | nil=>exact absurd rfl h0
 | cons c r=>
  have hc:=jg.1 (hd c (List.mem_cons_self ..))
  have hne:c.toNat≠48:=by
   rcases hh with hh | hh
   ·simp at hh hl;subst hh;simp at hl
   ·intro e;apply hh;simp;exact UInt8.toNat_inj.1 e
  rw [iI]
  have:=qC r (10*0+(c.toNat - 48))
  simp only [List.length_cons,Nat.add_sub_cancel]
  calc 10 ^ r.length=1*10 ^ r.length:=by omega
   _≤(10*0+(c.toNat - 48))*10 ^ r.length:=Nat.mul_le_mul_right _ (by omega)
   _≤ _:=this
theorem zw {c:UInt8} (h:BG c=true):UInt8.ofNat (48+(c.toNat - 48))=c:=by
 have:=jg.1 h
 apply UInt8.toNat_inj.1
 rw [UInt8.toNat_ofNat'];omega
theorem GL:∀(n:Nat) (l:List UInt8),l.length=n→Canon l→Lib.decDigits (dJ 0 l)=l:=by
 intro n
 induction n with
 | zero=>intro l hl h;exact absurd (List.eq_nil_of_length_eq_zero hl) h.1
 | succ n ih=>
  intro l hl h
  rcases List.eq_nil_or_concat l with rfl | ⟨a,c,rfl⟩
  ·exact absurd rfl h.1
  rw [List.concat_eq_append]at*
  have hc:=h.2.1 c (by simp)
  have hc2:=jg.1 hc
  rw [rG]
  by_cases ha:a=[]
  ·subst ha
   have e0:dJ 0 []=0:=jh 0
   rw [e0,Nat.mul_zero,Nat.zero_add,Lib.decDigits_one (by omega),zw hc,List.nil_append]
  ·have hal:0<a.length:=List.length_pos_iff.2 ha
   have hhead:a.head? ≠some 48:=by
    rcases h.2.2 with h1 | h1
    ·simp at h1;exact absurd h1 ha
    ·intro e;apply h1
     cases a with
     | nil=>exact absurd rfl ha
     | cons x r=>simpa using e
   have hca:Canon a:=⟨ha,fun x hx=>h.2.1 x (by simp [hx]), .inr hhead⟩
   have hpos:1≤dJ 0 a:=by
    by_cases h2:2≤a.length
    ·have:=GK hca h2
     have:0<10 ^ (a.length - 1):=Nat.pow_pos (by decide)
     omega
    ·cases a with
     | nil=>exact absurd rfl ha
     | cons x r=>
      have hr:r=[]:=List.eq_nil_of_length_eq_zero (by have:(x :: r).length=r.length+1:=rfl;omega)
      subst hr
      have hx:=jg.1 (hca.2.1 x (by simp))
      have hne:x.toNat≠48:=fun e=>hhead (by simp;exact UInt8.toNat_inj.1 e)
      rw [iI,jh];omega
   rw [Lib.decDigits,dif_neg (by omega)]
   have e1:(10*dJ 0 a+(c.toNat - 48)) / 10=dJ 0 a:=by omega
   have e2:(10*dJ 0 a+(c.toNat - 48)) % 10=c.toNat - 48:=by omega
   rw [e1,e2,ih a (by simp at hl;omega) hca,zw hc]
theorem Jp (u:Nat):Canon (Lib.decDigits u)∧dJ 0 (Lib.decDigits u)=u∧(1≤u→(Lib.decDigits u).head? ≠some 48):=by
 induction u using Nat.strongRecOn with
 | ind u ih=>
  rw [Lib.decDigits]
  by_cases h:u<10
  ·rw [dif_pos h]
   have e:(UInt8.ofNat (48+u)).toNat=48+u:=by rw [UInt8.toNat_ofNat'];omega
   refine⟨⟨by simp, ?_, .inl rfl⟩, ?_, ?_⟩
   ·intro c hc
    obtain rfl:c=UInt8.ofNat (48+u):=by simpa using hc
    rw [jg,e];omega
   ·rw [iI,jh,e];omega
   ·intro h1 h2
    have:UInt8.ofNat (48+u)=48:=by simpa using h2
    have:=congrArg UInt8.toNat this
    rw [e]at this
    have h48:(48:UInt8).toNat=48:=rfl
    omega
  ·rw [dif_neg h]
   obtain⟨⟨h0,h1,h2⟩,h3,h4⟩:=ih (u / 10) (by omega)
   have e:(UInt8.ofNat (48+u % 10)).toNat=48+u % 10:=by rw [UInt8.toNat_ofNat'];omega
   have hh:=h4 (by omega)
   have Yl:(Lib.decDigits (u / 10)++[UInt8.ofNat (48+u % 10)]).head? ≠some 48:=by
    cases hd:Lib.decDigits (u / 10)with
    | nil=>exact absurd hd h0
    | cons x r=>rw [hd]at hh;simpa using hh
   refine⟨⟨by simp, ?_, .inr Yl⟩, ?_,fun _=>Yl⟩
   ·intro c hc
    rcases List.mem_append.1 hc with hc | hc
    ·exact h1 c hc
    ·obtain rfl:c=UInt8.ofNat (48+u % 10):=by simpa using hc
     rw [jg,e];omega
   ·rw [rG,h3,e];omega
theorem wW {l:List UInt8} {n:Nat}:Ac l=some n↔n<9223372036854775808∧l=Lib.decDigits n:=by
 unfold Ac
 constructor
 ·intro h
  split at h
  ·rename_i hc
   injection h with h
   subst h
   exact⟨hc.2,(GL _ l rfl hc.1).symm⟩
  ·cases h
 ·rintro⟨h,rfl⟩
  have:=Jp n
  rw [if_pos ⟨this.1,by rw [this.2.1];exact h⟩,this.2.1]
theorem ql:∀(l:List UInt8) (acc:Nat),(∀c∈l,BG c=true)→dJ acc l<18446744073709551616→Lib.parseUint10 acc l= .ok (dJ acc l)
 | [],acc, _, _=>by rw [jh];rfl
 | c :: r,acc,h,hlt=>by
  have hc:=jg.1 (h c (List.mem_cons_self ..))
  have hv:dJ acc (c :: r)=dJ (10*acc+(c.toNat - 48)) r:=iI acc c r
  rw [hv]at hlt
  have h1:=qC r (10*acc+(c.toNat - 48))
  have hp:0<10 ^ r.length:=Nat.pow_pos (by decide)
  have h2:10*acc+(c.toNat - 48)≤(10*acc+(c.toNat - 48))*10 ^ r.length:=Nat.le_mul_of_pos_right _ hp
  unfold Lib.parseUint10
  rw [if_pos hc,if_neg (by omega),if_neg (by omega),Nat.mul_comm acc 10,hv]
  exact ql r _ (fun x hx=>h x (List.mem_cons_of_mem _ hx)) hlt
theorem Jq {n:Nat} (h:n<9223372036854775808):Lib.atoiAll (Lib.decDigits n)= .ok (n:Int):=by
 obtain⟨⟨h0,h1,h2⟩,h3,h4⟩:=Jp n
 have hp:=ql (Lib.decDigits n) 0 h1 (by rw [h3];omega)
 rw [h3]at hp
 unfold Lib.atoiAll
 cases hd:Lib.decDigits n with
 | nil=>exact absurd hd h0
 | cons c r=>
  have hc:=jg.1 (h1 c (by rw [hd];exact List.mem_cons_self ..))
  rw [hd]at hp
  dsimp only
  rw [if_neg (show ¬(c.toNat=43∨c.toNat=45)from by omega)]
  unfold Lib.parseMag
  rw [if_neg (by simp),hp]
  dsimp only
  rw [if_neg (by omega),if_neg (by omega),if_neg (by omega)]
theorem FR {l:List UInt8} {v:Int} (h:Lib.atoiAll l= .ok v):v<9223372036854775808:=by
 unfold Lib.atoiAll at h
 split at h
 ·cases h
 ·rename_i c r
  dsimp only at h
  split at h
  ·cases h
  ·cases h
  ·rename_i u hu
   by_cases hn:c.toNat=45
   ·simp only [hn,not_true_eq_false,false_and,if_false,true_and,if_true]at h
    split at h
    ·cases h
    ·injection h with h;omega
   ·simp only [hn,not_false_eq_true,true_and,false_and,if_false]at h
    split at h
    ·cases h
    ·injection h with h;omega
theorem jy (l:List UInt8):eP l=(match Lib.atoiAll l with | .ok v=>if v<0∨Lib.itoa v≠l then(0,false)else(v,true) | _=>(0,false)):=by
 unfold eP
 cases hp:Ac l with
 | some n=>
  obtain⟨hn,rfl⟩:=wW.1 hp
  rw [Jq hn]
  dsimp only
  rw [if_neg]
  rintro(h | h)
  ·omega
  ·exact h (Lib.itoa_nonneg n)
 | none=>
  cases ha:Lib.atoiAll l with
  | ok v=>
   dsimp only
   rw [if_pos]
   by_cases h0:v<0
   ·exact .inl h0
   ·refine .inr fun he=> ?_
    have hv:=FR ha
    obtain⟨n,rfl⟩:=Int.eq_ofNat_of_zero_le (show 0≤v by omega)
    have e:Lib.itoa (n:Int)=Lib.decDigits n:=Lib.itoa_nonneg n
    have:=wW.2 ⟨show n<9223372036854775808 by omega,(e.symm.trans he).symm⟩
    rw [hp]at this;cases this
  | _=>rfl
end Go.Proofs.YtmbppnbekkbibaaGreatDoor
end
section
set_option linter.unusedVariables false
namespace Go.Proofs.YtmbppnbekkbibaaGreatDoor
abbrev Bt:=List UInt8
def iy (c:UInt8):Bool:=(decide (97≤c.toNat) && decide (c.toNat≤122)) || (decide (65≤c.toNat) && decide (c.toNat≤90)) || decide (c.toNat=95)
def dF (c:UInt8):Bool:=decide (48≤c.toNat) && decide (c.toNat≤57)
def bN (c:UInt8):Bool:=iy c || dF c
def bQ (c:UInt8):Bool:=decide (c.toNat=32) || decide (c.toNat=9) || decide (c.toNat=10) || decide (c.toNat=13)
def dK (c:UInt8):Bool:= !decide (c.toNat=10)
def bW (p:UInt8→Bool) (s:Bt):Nat:=(s.takeWhile p).length
theorem jo (p:UInt8→Bool) (s:Bt):bW p s≤s.length:=by
 unfold bW
 exact(List.takeWhile_sublist p).length_le
theorem fB (p:UInt8→Bool) (c:UInt8) (s:Bt):bW p (c :: s)=if p c then bW p s+1 else 0:=by
 unfold bW
 rw [List.takeWhile_cons]
 split <;> simp
theorem wC {p:UInt8→Bool} {s:Bt} {k:Nat} (hk:k<s.length) (h:∀j (hj:j<k),p (s[j]'(by omega))=true) (hn:p s[k]=false):bW p s=k:=by
 induction s generalizing k with
 | nil=>simp at hk
 | cons c s ih=>
  rw [fB]
  rcases k with _ | k
  ·rw [if_neg (by simpa using hn)]
  ·have h0:=h 0 (by omega)
   simp only [List.getElem_cons_zero]at h0
   rw [if_pos h0,ih (by simpa using hk) (fun j hj=>by simpa using h (j+1) (by omega)) (by simpa using hn)]
theorem rH {p:UInt8→Bool} {s:Bt} (h:∀j (hj:j<s.length),p s[j]=true):bW p s=s.length:=by
 induction s with
 | nil=>rfl
 | cons c s ih=>
  have h0:=h 0 (by simp)
  simp only [List.getElem_cons_zero]at h0
  rw [fB,if_pos h0,ih (fun j hj=>by have h1:=h (j+1) (by simpa using hj);rw [List.getElem_cons_succ]at h1;exact h1)]
  rfl
def dW:Bool→Bt→Nat
 | _,[]=>0
 | false,c :: s=>if bQ c then dW false s+1 else if c.toNat=35 then dW true s+1 else 0
 | true,c :: s=>if c.toNat=10 then dW false s+1 else dW true s+1
def aS (s:Bt):Nat:=dW false s
def eD (s:Bt):Nat:=
 bW bQ s+(if((s.drop (bW bQ s)).head?).map UInt8.toNat=some 35 then bW dK (s.drop (bW bQ s))else 0)
theorem rJ (q:Bool) (s:Bt):dW q s≤s.length:=by
 induction s generalizing q with
 | nil=>cases q <;> simp [dW]
 | cons c s ih=>
  cases q with
  | false=>
   rw [dW]
   split
   ·have:=ih false;simp;exact this
   ·split
    ·have:=ih true;simp;exact this
    ·simp
  | true=>
   rw [dW]
   split
   ·have:=ih false;simp;exact this
   ·have:=ih true;simp;exact this
theorem DY (s:Bt):dW false s=bW bQ s+dW false (s.drop (bW bQ s)):=by
 induction s with
 | nil=>rfl
 | cons c s ih=>
  rw [fB]
  by_cases h:bQ c=true
  ·rw [if_pos h,dW,if_pos h,ih,List.drop_succ_cons];omega
  ·rw [if_neg h];simp
theorem GN (s:Bt):dW true s=bW dK s+dW false (s.drop (bW dK s)):=by
 induction s with
 | nil=>rfl
 | cons c s ih=>
  rw [fB]
  by_cases h:c.toNat=10
  ·have hn:dK c=false:=by unfold dK;simp [h]
   have hb:bQ c=true:=by unfold bQ;simp [h]
   rw [if_neg (by simp [hn]),dW,if_pos h]
   show dW false s+1=0+dW false (c :: s)
   rw [dW,if_pos hb];omega
  ·have hn:dK c=true:=by unfold dK;simp [h]
   rw [if_pos hn,dW,if_neg h,ih,List.drop_succ_cons];omega
theorem Jr (s:Bt):aS s=eD s+aS (s.drop (eD s)):=by
 unfold aS eD
 rw [DY]
 generalize hr:s.drop (bW bQ s)=r
 cases r with
 | nil=>simp [dW,hr]
 | cons c t=>
  simp only [List.head?_cons,Option.map_some,Option.some.injEq]
  by_cases h:c.toNat=35
  ·rw [if_pos h]
   have hb:bQ c=false:=by unfold bQ;simp [h]
   have hn:dK c=true:=by unfold dK;simp [h]
   rw [←List.drop_drop,hr,dW,if_neg (by simp [hb]),if_pos h,GN,fB,if_pos hn,List.drop_succ_cons];omega
  ·rw [if_neg h,Nat.add_zero,hr]
theorem GQ {s:Bt} (h:eD s=0):aS s=0:=by
 have h1:bW bQ s=0:=by unfold eD at h;omega
 unfold eD at h
 rw [h1]at h
 cases s with
 | nil=>rfl
 | cons c t=>
  rw [fB]at h1
  have hb:¬bQ c=true:=by
   intro hb;rw [if_pos hb]at h1;omega
  unfold aS
  rw [dW,if_neg hb]
  simp only [List.drop_zero,List.head?_cons,Option.map_some,Option.some.injEq]at h
  by_cases Js:c.toNat=35
  ·rw [if_pos Js,fB,if_pos (by unfold dK;simp [Js])]at h;omega
  ·rw [if_neg Js]
def jY (p:Nat ×Nat) (c:UInt8):Nat ×Nat:=if c.toNat=10 then(p.1+1,1)else(p.1,p.2+1)
def cO (p:Nat ×Nat) (s:Bt):Nat ×Nat:=s.foldl jY p
theorem jD (p:Nat ×Nat) (a b:Bt):cO p (a++b)=cO (cO p a) b:=by unfold cO;rw [List.foldl_append]
theorem GR {p:Nat ×Nat} {s:Bt} {k:Nat} (h:k<s.length):cO p (s.take (k+1))=jY (cO p (s.take k)) s[k]:=by
 rw [List.take_succ_eq_append_getElem h,jD];rfl
def DZ (c:UInt8):Option UInt8:=if c.toNat=92 then some 92 else if c.toNat=34 then some 34 else if c.toNat=110 then some 10 else if c.toNat=116 then some 9 else none
def gP:Bool→Bt→Nat→Bt→Option (Bt ×Nat)
 | _, _, _,[]=>none
 | back,out,i,c :: s=>
  if c.toNat<32 then none else
  if back then(match DZ c with | some e=>gP false (out++[e]) (i+1) s | none=>none)else
  if c.toNat=92 then gP true out (i+1) s else
  if c.toNat=34 then some (out,i+2)else gP false (out++[c]) (i+1) s
def oF (s:Bt):Option (Bt ×Nat):=gP false [] 0 (s.drop 1)
theorem zx {back:Bool} {out:Bt} {i:Nat} {s:Bt} {r:Bt ×Nat} (h:gP back out i s=some r):i+2≤r.2∧r.2≤i+s.length+1∧r.1.length≤out.length+s.length:=by
 induction s generalizing back out i with
 | nil=>cases back <;> simp [gP]at h
 | cons c s ih=>
  rw [gP]at h
  split at h
  ·cases h
  ·split at h
   ·split at h
    ·obtain⟨a,b,d⟩:=ih h
     simp only [List.length_append,List.length_cons,List.length_nil]at*;omega
    ·cases h
   ·split at h
    ·obtain⟨a,b,d⟩:=ih h
     simp only [List.length_append,List.length_cons,List.length_nil]at*;omega
    ·split at h
     ·injection h with h;subst h;simp only [List.length_cons];omega
     ·obtain⟨a,b,d⟩:=ih h
      simp only [List.length_append,List.length_cons,List.length_nil]at*;omega
end Go.Proofs.YtmbppnbekkbibaaGreatDoor
set_option linter.unusedVariables false
namespace Go.Proofs.YtmbppnbekkbibaaGreatDoor
def eZ:List Bt:=[[97,110,100],
 [97,110,121],
 [97,115],
 [98,111,111,108],
 [101,108,115,101],
 [101,120,112,111,114,116],
 [102,97,108,115,101],
 [102,110],
 [102,117,110,99,116,105,111,110],
 [105,102],
 [105,109,112,111,114,116],
 [105,110],
 [105,110,116],
 [105,115],
 [108,101,116],
 [110,111,116],
 [110,117,108,108],
 [111,114],
 [112,114,105,110,116],
 [114,101,97,100],
 [114,101,99,111,114,100],
 [115,116,114],
 [116,104,101,110],
 [116,114,117,101],
 [119,105,116,104]]
def cZ:List Bt:=[[45,62],[61,62],[60,58],[60,60],[60,61],[62,62],[61,61],[43,43]]
def fO:Bt:=[40,41,123,125,91,93,44,58,59,61,43,45,42,47,37,38,94,60,124,46]
def eu (s:Bt):Bool:=match s with
 | []=>false
 | c :: r=>decide ((c :: r).length≤32) && iy c && decide (bW bN (c :: r)=(c :: r).length) && !decide ((c :: r)∈eZ)
def eF (s:Bt):Int ⊕ (Int ×Bt ×Nat):=
 match s with
 | []=> .inl 5
 | c :: r=>
  if iy c then
   (if 32<bW bN (c :: r)then .inl 2 else if(c :: r).take (bW bN (c :: r))∈eZ then .inr (2,(c :: r).take (bW bN (c :: r)),bW bN (c :: r))else .inr (1,(c :: r).take (bW bN (c :: r)),bW bN (c :: r)))
  else if dF c then
   (if(eP ((c :: r).take (bW dF (c :: r)))).2 then .inr (3,(c :: r).take (bW dF (c :: r)),bW dF (c :: r))else .inl 3)
  else if c.toNat=34 then
   (match oF (c :: r)with
    | none=> .inl 4
    | some (t,n)=>if 256<t.length then .inl 2 else .inr (4,t,n))
  else if(c :: r).take 2∈cZ then .inr (5,(c :: r).take 2,2)
  else if c∈fO then .inr (5,[c],1)else .inl 5
structure aF where
 kind:Int
 text:Bt
 line:Nat
 col:Nat
def fC:Nat→Bt→Nat ×Nat→List aF→List aF ×(Nat ×Nat ×Int)
 | 0, _, _, _=>([],(0,0,0))
 | f+1,s,p,out=>
  if s.drop (aS s)=[]then(out++[⟨0,[],(cO p (s.take (aS s))).1,(cO p (s.take (aS s))).2⟩],(0,0,0))else
  match eF (s.drop (aS s))with
  | .inl e=>([],((cO p (s.take (aS s))).1,(cO p (s.take (aS s))).2,e))
  | .inr (kd,t,n)=>
   if out.length=8192 then([],((cO p (s.take (aS s))).1,(cO p (s.take (aS s))).2,19))else
   fC f ((s.drop (aS s)).drop n) (cO (cO p (s.take (aS s))) ((s.drop (aS s)).take n)) (out++[⟨kd,t,(cO p (s.take (aS s))).1,(cO p (s.take (aS s))).2⟩])
def dQ (s:Bt):List aF ×(Nat ×Nat ×Int):=if 65536<s.length then([],(1,1,2))else fC (s.length+1) s (1,1) []
theorem oG {p:UInt8→Bool} {c:UInt8} {s:Bt} (h:p c=true):1≤bW p (c :: s):=by
 rw [fB,if_pos h];omega
theorem rM {s:Bt} {kd:Int} {t:Bt} {n:Nat} (h:eF s= .inr (kd,t,n)):1≤n∧n≤s.length:=by
 cases s with
 | nil=>simp [eF]at h
 | cons c r=>
  rw [eF]at h
  split at h
  ·rename_i hl
   have hi:bN c=true:=by unfold bN;rw [hl];rfl
   have h1:=oG (s:=r) hi
   have h2:=jo bN (c :: r)
   split at h
   ·cases h
   ·split at h
    ·injection h with h;simp only [Prod.mk.injEq]at h;omega
    ·injection h with h;simp only [Prod.mk.injEq]at h;omega
  ·split at h
   ·rename_i hd
    have h1:=oG (s:=r) hd
    have h2:=jo dF (c :: r)
    split at h
    ·injection h with h;simp only [Prod.mk.injEq]at h;omega
    ·cases h
   ·split at h
    ·split at h
     ·cases h
     ·rename_i t' n' hq
      have:=zx hq
      split at h
      ·cases h
      ·injection h with h;simp only [Prod.mk.injEq]at h
       simp only [List.drop_succ_cons,List.drop_zero]at this
       simp only [List.length_cons];omega
    ·split at h
     ·rename_i hp
      injection h with h;simp only [Prod.mk.injEq]at h
      have h2:((c :: r).take 2).length=2:=by
       have hall:∀m∈cZ,m.length=2:=by decide
       exact hall _ hp
      rw [List.length_take]at h2
      simp only [List.length_cons]at h2 ⊢;omega
     ·split at h
      ·injection h with h;simp only [Prod.mk.injEq]at h
       simp only [List.length_cons];omega
      ·cases h
theorem kK {s:Bt} {e:Int} (h:eF s= .inl e):e≠0:=by
 cases s with
 | nil=>simp [eF]at h;omega
 | cons c r=>
  rw [eF]at h
  repeat' split at h
  all_goals first | (injection h with h;omega) | cases h
end Go.Proofs.YtmbppnbekkbibaaGreatDoor
set_option linter.unusedVariables false
namespace Go.Proofs.YtmbppnbekkbibaaGreatDoor
theorem GU (p:UInt8→Bool) (s:Bt):bW p (s.take (bW p s))=bW p s:=by
 induction s with
 | nil=>rfl
 | cons c r ih=>
  rw [fB]
  by_cases h:p c=true
  ·rw [if_pos h,List.take_succ_cons,fB,if_pos h,ih]
  ·rw [if_neg h];rfl
def wX (kd:Int) (t:Bt):Prop:=
 1≤kd∧kd≤5∧(kd=2→t∈eZ)∧(kd=1→eu t=true)∧(kd=3→∃c r,t=c :: r∧dF c=true)∧(kd=5→1≤t.length∧t.length≤2)
theorem Ea {s:Bt} {kd:Int} {t:Bt} {n:Nat} (h:eF s= .inr (kd,t,n)):wX kd t:=by
 cases s with
 | nil=>simp [eF]at h
 | cons c r=>
  rw [eF]at h
  have hle:=jo bN (c :: r)
  have htk:=GU bN (c :: r)
  by_cases hl:iy c=true
  ·rw [if_pos hl]at h
   have hi:bN c=true:=by unfold bN;rw [hl];rfl
   have hpos:=oG (s:=r) hi
   by_cases h32:32<bW bN (c :: r)
   ·rw [if_pos h32]at h;cases h
   ·rw [if_neg h32]at h
    by_cases hw:(c :: r).take (bW bN (c :: r))∈eZ
    ·rw [if_pos hw]at h
     injection h with h
     simp only [Prod.mk.injEq]at h
     obtain⟨rfl,rfl, _⟩:=h
     exact⟨by omega,by omega,fun _=>hw,fun h=>by omega,fun h=>by omega,fun h=>by omega⟩
    ·rw [if_neg hw]at h
     injection h with h
     simp only [Prod.mk.injEq]at h
     obtain⟨rfl,rfl, _⟩:=h
     refine⟨by omega,by omega,fun h=>by omega,fun _=> ?_,fun h=>by omega,fun h=>by omega⟩
     have hlen:((c :: r).take (bW bN (c :: r))).length=bW bN (c :: r):=by rw [List.length_take];omega
     generalize hn:bW bN (c :: r)=m at*
     obtain⟨m',rfl⟩:∃m',m=m'+1:=⟨m - 1,by omega⟩
     rw [List.take_succ_cons]at htk hw hlen ⊢
     unfold eu
     simp only [Bool.and_eq_true,decide_eq_true_eq,Bool.not_eq_true',decide_eq_false_iff_not]
     exact⟨⟨⟨by rw [hlen];omega,hl⟩,by rw [htk,hlen]⟩,hw⟩
  ·rw [if_neg hl]at h
   by_cases hd:dF c=true
   ·rw [if_pos hd]at h
    have hpos:=oG (s:=r) hd
    split at h
    ·injection h with h
     simp only [Prod.mk.injEq]at h
     obtain⟨rfl,rfl, _⟩:=h
     refine⟨by omega,by omega,fun h=>by omega,fun h=>by omega,fun _=> ?_,fun h=>by omega⟩
     obtain⟨m',hm⟩:∃m',bW dF (c :: r)=m'+1:=⟨bW dF (c :: r) - 1,by omega⟩
     rw [hm,List.take_succ_cons]
     exact⟨_, _,rfl,hd⟩
    ·cases h
   ·rw [if_neg hd]at h
    split at h
    ·split at h
     ·cases h
     ·split at h
      ·cases h
      ·injection h with h
       simp only [Prod.mk.injEq]at h
       obtain⟨rfl,rfl, _⟩:=h
       exact⟨by omega,by omega,fun h=>by omega,fun h=>by omega,fun h=>by omega,fun h=>by omega⟩
    ·split at h
     ·rename_i hp
      injection h with h
      simp only [Prod.mk.injEq]at h
      obtain⟨rfl,rfl, _⟩:=h
      have hall:∀m∈cZ,m.length=2:=by decide
      have:=hall _ hp
      exact⟨by omega,by omega,fun h=>by omega,fun h=>by omega,fun h=>by omega,fun _=>by omega⟩
     ·split at h
      ·injection h with h
       simp only [Prod.mk.injEq]at h
       obtain⟨rfl,rfl, _⟩:=h
       exact⟨by omega,by omega,fun h=>by omega,fun h=>by omega,fun h=>by omega,fun _=>⟨by simp,by simp⟩⟩
      ·cases h
end Go.Proofs.YtmbppnbekkbibaaGreatDoor
set_option linter.unusedVariables false
namespace Go.Proofs.YtmbppnbekkbibaaGreatDoor
def qD (text:Bt) (a:Nat):Nat ×Nat:=cO (1,1) (text.take a)
theorem BH (text:Bt) (a k:Nat):qD text (a+k)=cO (qD text a) ((text.drop a).take k):=by
 unfold qD
 rw [List.take_add,jD]
inductive Placed (text:Bt):Nat→List aF→Prop where
 | done (a:Nat):a≤text.length→Placed text a [⟨0,[],(qD text text.length).1,(qD text text.length).2⟩]
 | next (a b n:Nat) (t:aF) (l:List aF):a≤b→qD text b=(t.line,t.col)→(t.kind≠4→t.text=(text.drop b).take n)→t.kind≠0→1≤n→b+n≤text.length→Placed text (b+n) l→Placed text a (t :: l)
theorem Eb {s:Bt} {kd:Int} {t:Bt} {n:Nat} (h:eF s= .inr (kd,t,n)):(kd≠4→t=s.take n)∧kd≠0:=by
 cases s with
 | nil=>simp [eF]at h
 | cons c r=>
  rw [eF]at h
  repeat' split at h
  all_goals cases h
  all_goals first | exact⟨fun _=>rfl,by decide⟩ | exact⟨fun hk=>absurd rfl hk,by decide⟩
theorem zy (text:Bt):∀(f:Nat) (a:Nat) (out:List aF),a≤text.length→text.length - a<f→((fC f (text.drop a) (qD text a) out).1=[]∧(fC f (text.drop a) (qD text a) out).2.2.2≠0)∨
  ∃l,fC f (text.drop a) (qD text a) out=(out++l,(0,0,0))∧Placed text a l
 | 0,a,out,ha,hf=>by omega
 | f+1,a,out,ha,hf=>by
  have hsk:=rJ false (text.drop a)
  have OA:aS (text.drop a)≤text.length - a:=by rw [List.length_drop]at hsk;exact hsk
  rw [fC, ←BH,List.drop_drop]
  generalize hk:aS (text.drop a)=k at*
  split
  ·rename_i hnil
   have hle:text.length≤a+k:=by simpa using hnil
   have he:a+k=text.length:=by omega
   rw [he]
   exact .inr ⟨_,rfl, .done a ha⟩
  ·split
   ·rename_i e hn
    exact .inl ⟨rfl,kK hn⟩
   ·rename_i kd t n hn
    split
    ·exact .inl ⟨rfl,by show(19:Int)≠0;decide⟩
    ·obtain⟨n1,n2⟩:=rM hn
     obtain⟨e1,e2⟩:=Eb hn
     rw [List.length_drop]at n2
     rw [List.drop_drop, ←BH]
     rcases zy text f (a+k+n) (out++[⟨kd,t,(qD text (a+k)).1,(qD text (a+k)).2⟩]) (by omega) (by omega)with h | ⟨l,h1,h2⟩
     ·exact .inl h
     ·exact .inr ⟨⟨kd,t,(qD text (a+k)).1,(qD text (a+k)).2⟩ :: l,by rw [h1];simp, .next a (a+k) n _ l (by omega) rfl e1 e2 n1 (by omega) h2⟩
def before (p q:Nat ×Nat):Prop:=p.1<q.1∨(p.1=q.1∧p.2<q.2)
end Go.Proofs.YtmbppnbekkbibaaGreatDoor
set_option linter.unusedVariables false
namespace Go.Proofs.YtmbppnbekkbibaaGreatDoor
theorem zA {p:UInt8→Bool} {c:UInt8} (hp:p c=false) (s r:Bt):bW p (s++c :: r)=bW p s:=by
 induction s with
 | nil=>rw [List.nil_append,fB,if_neg (by simp [hp])];rfl
 | cons d s ih=>
  rw [List.cons_append,fB,fB]
  by_cases h:p d=true
  ·rw [if_pos h,if_pos h,ih]
  ·rw [if_neg h,if_neg h]
theorem BI {c:UInt8} (h:bQ c=true):bN c=false∧dF c=false∧iy c=false:=by
 unfold bQ at h
 simp only [Bool.or_eq_true,decide_eq_true_eq]at h
 unfold bN iy dF
 simp only [Bool.or_eq_false_iff,Bool.and_eq_false_iff,decide_eq_false_iff_not]
 omega
theorem BJ {back:Bool} {out:Bt} {i:Nat} {s:Bt} {r:Bt ×Nat} (h:gP back out i s=some r) (x:Bt):gP back out i (s++x)=some r:=by
 induction s generalizing back out i with
 | nil=>cases back <;> simp [gP]at h
 | cons c s ih=>
  rw [gP]at h
  rw [List.cons_append,gP]
  split at h
  ·cases h
  ·rename_i h32
   rw [if_neg h32]
   split at h
   ·rename_i hb
    rw [if_pos hb]
    split at h
    ·exact ih h
    ·cases h
   ·rename_i hb
    rw [if_neg hb]
    split at h
    ·rename_i QY
     rw [if_pos QY]
     exact ih h
    ·rename_i QY
     rw [if_neg QY]
     split at h
     ·rename_i LW
      rw [if_pos LW];exact h
     ·rename_i LW
      rw [if_neg LW];exact ih h
theorem GV:∀m∈cZ,m.length=2:=by decide
theorem BK (c d:UInt8) (hd:bQ d=true):[c,d] ∉ cZ:=by
 intro h
 have hall:(cZ.all fun m=> !bQ (m.getD 1 0))=true:=by decide
 have:=List.all_eq_true.1 hall _ h
 simp [hd]at this
theorem Ec {s:Bt} {kd:Int} {t:Bt} {n:Nat} {d:UInt8} (x:Bt) (hd:bQ d=true) (h:eF s= .inr (kd,t,n)):eF (s++d :: x)= .inr (kd,t,n):=by
 obtain⟨hi,hdg, _⟩:=BI hd
 cases s with
 | nil=>simp [eF]at h
 | cons c r=>
  have ow:=jo bN (c :: r)
  have hrd:=jo dF (c :: r)
  rw [eF]at h
  rw [List.cons_append,eF, ←List.cons_append,zA hi,zA hdg,List.take_append_of_le_length ow,List.take_append_of_le_length hrd]
  split at h
  ·rename_i hl
   rw [if_pos hl];exact h
  ·rename_i hl
   rw [if_neg hl]
   split at h
   ·rename_i hg
    rw [if_pos hg];exact h
   ·rename_i hg
    rw [if_neg hg]
    split at h
    ·rename_i LW
     rw [if_pos LW]
     split at h
     ·cases h
     ·rename_i t' n' hq
      have hq':oF (c :: r++d :: x)=some (t',n'):=by
       unfold oF at hq ⊢
       simp only [List.cons_append,List.drop_succ_cons,List.drop_zero]at hq ⊢
       exact BJ hq _
      rw [hq']
      exact h
    ·rename_i LW
     rw [if_neg LW]
     cases r with
     | nil=>
      have h2:¬ [c]∈cZ:=fun hm=>by have:=GV _ hm;simp at this
      rw [if_neg (by simpa using h2)]at h
      rw [if_neg (show ¬(([c]++d :: x:Bt).take 2∈cZ)from BK c d hd)]
      exact h
     | cons e r=>exact h
theorem Ed {q:Bool} {s:Bt} (h:dW q s<s.length) (x:Bt):dW q (s++x)=dW q s:=by
 induction s generalizing q with
 | nil=>simp at h
 | cons c s ih=>
  rw [List.cons_append]
  cases q with
  | false=>
   rw [dW]at h ⊢
   rw [dW]
   by_cases hb:bQ c=true
   ·rw [if_pos hb]at h ⊢
    rw [if_pos hb,ih (by simpa using h)]
   ·rw [if_neg hb]at h ⊢
    rw [if_neg hb]
    by_cases Js:c.toNat=35
    ·rw [if_pos Js]at h ⊢
     rw [if_pos Js,ih (by simpa using h)]
    ·rw [if_neg Js,if_neg Js]
  | true=>
   rw [dW]at h ⊢
   rw [dW]
   by_cases h10:c.toNat=10
   ·rw [if_pos h10]at h ⊢
    rw [if_pos h10,ih (by simpa using h)]
   ·rw [if_neg h10]at h ⊢
    rw [if_neg h10,ih (by simpa using h)]
theorem GX {q:Bool} {s:Bt} (h:s.length≤dW q s) (d:UInt8) (hd:d.toNat=10) (x:Bt):dW q (s++d :: x)=s.length+1+aS x:=by
 have hb:bQ d=true:=by unfold bQ;simp [hd]
 induction s generalizing q with
 | nil=>
  rw [List.nil_append]
  unfold aS
  cases q with
  | false=>rw [dW,if_pos hb];simp;omega
  | true=>rw [dW,if_pos hd];simp;omega
 | cons c s ih=>
  rw [List.cons_append]
  cases q with
  | false=>
   rw [dW]at h ⊢
   by_cases hb:bQ c=true
   ·rw [if_pos hb]at h ⊢
    rw [ih (by simpa using h)];simp;omega
   ·rw [if_neg hb]at h ⊢
    by_cases Js:c.toNat=35
    ·rw [if_pos Js]at h ⊢
     rw [ih (by simpa using h)];simp;omega
    ·rw [if_neg Js]at h;simp at h
  | true=>
   rw [dW]at h ⊢
   by_cases h10:c.toNat=10
   ·rw [if_pos h10]at h ⊢
    rw [ih (by simpa using h)];simp;omega
   ·rw [if_neg h10]at h ⊢
    rw [ih (by simpa using h)];simp;omega
theorem pJ:∀(f:Nat) (s:Bt) (p:Nat ×Nat) (out:List aF),s.length<f→(fC f s p out).2.2.2=0→
  ∃m e,fC f s p out=(out++m++[e],(0,0,0))∧e.kind=0∧e.text=[]∧m.length≤s.length∧(∀t∈m,wX t.kind t.text)∧
   ∀(d:UInt8) (r:Bt) (F:Nat),d.toNat=10→s.length+1+r.length<F→∃F' q,r.length<F'∧fC F (s++d :: r) p out=fC F' r q (out++m)
 | 0,s,p,out,hf, _=>by omega
 | f+1,s,p,out,hf,hok=>by
  have hsk:aS s≤s.length:=rJ false s
  rw [fC]at hok ⊢
  by_cases hnil:s.drop (aS s)=[]
  ·rw [if_pos hnil]at hok ⊢
   refine⟨[], _,by rw [List.append_nil],rfl,rfl,by simp,by simp,fun d r F hd hF=>⟨F,cO p (s++[d]),by omega, ?_⟩⟩
   have hall:s.length≤aS s:=by simpa using hnil
   have e1:aS (s++d :: r)=s.length+1+aS r:=GX hall d hd r
   obtain⟨F0,rfl⟩:∃F0,F=F0+1:=⟨F - 1,by omega⟩
   have e2:(s++d :: r).drop (s.length+1+aS r)=r.drop (aS r):=by
    rw [List.append_cons, ←List.drop_drop,show s.length+1=(s++[d]).length by simp,List.drop_left]
   have e3:(s++d :: r).take (s.length+1+aS r)=(s++[d])++r.take (aS r):=by
    rw [List.append_cons,List.take_add,show s.length+1=(s++[d]).length by simp,List.take_left,List.drop_left]
   rw [fC,fC,e1,e2,e3,jD,List.append_nil]
  ·rw [if_neg hnil]at hok ⊢
   have hlt:aS s<s.length:=by
    rcases Nat.lt_or_ge (aS s) s.length with h | h
    ·exact h
    ·exact absurd (List.drop_eq_nil_of_le h) hnil
   cases hn:eF (s.drop (aS s))with
   | inl e=>rw [hn]at hok;exact absurd hok (kK hn)
   | inr x=>
    obtain⟨kd,t,n⟩:=x
    rw [hn]at hok
    simp only at hok ⊢
    by_cases h8:out.length=8192
    ·rw [if_pos h8]at hok;exact absurd (show(19:Int)=0 from hok) (by decide)
    ·rw [if_neg h8]at hok ⊢
     obtain⟨n1,n2⟩:=rM hn
     obtain⟨m,e,h1,h2,h3,h4,h4',h5⟩:=pJ f _ _ _ (by simp only [List.length_drop]at n2 ⊢;omega) hok
     rw [h1]
     refine⟨_ :: m,e,by rw [List.append_assoc,List.append_assoc,List.singleton_append,List.append_assoc,List.cons_append],h2,h3, ?_, ?_,fun d r F hd hF=> ?_⟩
     ·simp only [List.length_drop,List.length_cons]at n2 h4 ⊢;omega
     ·intro x hx
      rcases List.mem_cons.1 hx with rfl | hx
      ·exact Ea hn
      ·exact h4' x hx
     ·obtain⟨F0,rfl⟩:∃F0,F=F0+1:=⟨F - 1,by omega⟩
      have hb:bQ d=true:=by unfold bQ;simp [hd]
      obtain⟨F',q,hF',h6⟩:=h5 d r F0 hd (by simp only [List.length_drop]at n2 ⊢;omega)
      refine⟨F',q,hF', ?_⟩
      have e1:aS (s++d :: r)=aS s:=Ed hlt _
      rw [fC,e1,List.drop_append_of_le_length hsk,List.take_append_of_le_length hsk,if_neg (by simp),Ec r hb hn]
      simp only
      rw [if_neg h8,List.drop_append_of_le_length n2,List.take_append_of_le_length n2,h6,List.append_assoc,List.singleton_append]
theorem wY (s:Bt) (h:s.length≤65536):dQ s=fC (s.length+1) s (1,1) []:=by unfold dQ;rw [if_neg (by omega)]
end Go.Proofs.YtmbppnbekkbibaaGreatDoor
set_option linter.unusedVariables false
namespace Go.Proofs.YtmbppnbekkbibaaGreatDoor
def Jt (c:UInt8):Bt:=if c.toNat=92 then [92,92]else if c.toNat=34 then [92,34]else if c.toNat=10 then [92,110]else if c.toNat=9 then [92,116]else [c]
def Ee (t:Bt):Bt:=34 :: (t.flatMap Jt++[34])
end Go.Proofs.YtmbppnbekkbibaaGreatDoor
end
section
set_option linter.unusedVariables false
namespace Go.Proofs.YtmbppnbekkbibaaGreatDoor
open Go.RowKit
def Turn (F:Nat→Prop) (w w':World):Prop:=
 w'.os=w.os∧w'.tape=w.tape∧w'.output=w.output∧w.heap.size≤w'.heap.size∧∀k,k<w.heap.size→¬F k→w'.heap[k]? =w.heap[k]?
section
variable {F G:Nat→Prop} {a b c w w':World}
theorem Turn.refl (F:Nat→Prop) (w:World):Turn F w w:=⟨rfl,rfl,rfl,Nat.le_refl _,fun _ _ _=>rfl⟩
theorem Turn.size (h:Turn F w w'):w.heap.size≤w'.heap.size:=h.2.2.2.1
theorem Turn.block (h:Turn F w w') {k:Nat} (hk:k<w.heap.size) (hF:¬F k):w'.heap[k]? =w.heap[k]? :=h.2.2.2.2 k hk hF
theorem Turn.trans (h:Turn F a b) (k:Turn G b c) (hG:∀i,i<a.heap.size→G i→F i):Turn F a c:=
 ⟨k.1.trans h.1,k.2.1.trans h.2.1,k.2.2.1.trans h.2.2.1,Nat.le_trans h.size k.size,fun i hi hF=>
  (k.block (Nat.lt_of_lt_of_le hi h.size) (fun hg=>hF (hG i hi hg))).trans (h.block hi hF)⟩
theorem Turn.of_below (h:Below w.heap.size w w'):Turn F w w':=⟨h.os,h.tape,h.output,h.size,fun k hk _=>h.block k hk⟩
theorem Turn.bf {row:Option Nat} (h:w.grownBy w' row) (hr:∀k,row=some k→F k):Turn F w w':=
 ⟨h.os,h.tape,h.output,h.size,fun k hk hF=>h.block k hk (fun e=>hF (hr k e.symm))⟩
theorem Turn.below {B:Nat} (h:Turn F w w') (hB:B≤w.heap.size) (hF:∀k,k<B→¬F k):Below B w w':=
 ⟨h.1,h.2.1,h.2.2.1,h.size,fun k hk=>h.block (Nat.lt_of_lt_of_le hk hB) (hF k hk)⟩
theorem Turn.mono (h:Turn F w w') (hF:∀k,k<w.heap.size→F k→G k):Turn G w w':=
 ⟨h.1,h.2.1,h.2.2.1,h.size,fun k hk hG=>h.block hk (fun hf=>hG (hF k hk hf))⟩
theorem Turn.alloc (F:Nat→Prop) (w:World) (o:Obj):Turn F w (w.alloc o):=Turn.bf (World.grownBy_alloc w o none) (by simp)
theorem Turn.drewN (F:Nat→Prop) (w:World) (n:Nat):Turn F w (w.drewN n):=⟨rfl,rfl,rfl,Nat.le_refl _,fun _ _ _=>rfl⟩
theorem Turn.lt (h:Turn F w w') {k:Nat} (hk:k<w.heap.size):k<w'.heap.size:=Nat.lt_of_lt_of_le hk h.size
end
theorem Sl.Ru {w w':World} {B k:Nat} {v:Value} {xs:List Value} (h:Sl w B k v xs) (hk:∀g,v.ownBlock=some g→g<B→w'.heap[g]? =w.heap[g]?):Sl w' B k v xs:=by
 obtain⟨A,n,c,hv,hl,hn,hc,hx⟩:=h
 refine⟨A,n,c,hv,hl,hn,hc,fun h0=> ?_⟩
 obtain⟨b,off,hA,hb,hcell⟩:=hx h0
 refine⟨b,off,hA,hb,fun j u hu=> ?_⟩
 rw [←hcell j u hu]
 have h1:=hk b (by subst hv hA;rfl) hb
 simp only [World.cell?,h1]
def Nk (w:World) (F:Nat→Prop) (k:Nat) (v:Value) (xs:List Value):Prop:=Sl w w.heap.size k v xs∧∀g,v.ownBlock=some g→F g
section
variable {F G:Nat→Prop} {w w':World} {k:Nat} {v:Value} {xs:List Value}
theorem Nk.turn (h:Nk w F k v xs) (t:Turn G w w') (hd:∀g,F g→¬G g):Nk w' F k v xs:=
 ⟨(h.1.Ru fun g hg hl=>t.block hl (hd g (h.2 g hg))).more t.size,h.2⟩
theorem Nk.mono (h:Nk w F k v xs) (hF:∀g,F g→G g):Nk w G k v xs:=⟨h.1,fun g hg=>hF g (h.2 g hg)⟩
theorem Nk.qB {base n:Nat} {e:TypeId} (h:w.ownsRow base e k v n xs) (hF:∀g,v.ownBlock=some g→F g):Nk w F k v xs:=⟨Sl.qB h,hF⟩
end
theorem bT {G:Nat→Prop} {w w':World} {base:Nat} {e:TypeId} {k:Nat} {v:Value} {n:Nat} {xs:List Value} (h:w.ownsRow base e k v n xs) (t:Turn G w w') (hd:∀g,v.ownBlock=some g→¬G g):w'.ownsRow base e k v n xs:=by
 refine⟨h.1, ?_⟩
 rcases h.2 with h2 | ⟨g,cap,cur,hv,hg,hb,r⟩
 ·exact .inl h2
 ·refine .inr ⟨g,cap,cur,hv,hg, ?_,r⟩
  rw [t.block (Array.getElem?_eq_some_iff.1 hb).1 (hd g (by subst hv;rfl))];exact hb
theorem Ju {H:Type} {P:Program} {k:TypeId} {R:Value→Option (DataW H ×List MemPlace)} {G:Nat→Prop} {w w':World} {b n:Nat} {D:DataW H} (h:w.ownsMap P k R b n D) (t:Turn G w w') (hd:¬G b):w'.ownsMap P k R b n D:=by
 have hlt:=h.lt
 obtain⟨es,clock,hb,r⟩:=h
 exact⟨es,clock,(t.block hlt hd).trans hb,r⟩
theorem ah {G:Nat→Prop} {w w':World} {b:Nat} {o:Obj} (h:w.heap[b]? =some o) (t:Turn G w w') (hd:¬G b):w'.heap[b]? =some o:=
 (t.block (Array.getElem?_eq_some_iff.1 h).1 hd).trans h
theorem block_lt {w:World} {b:Nat} {o:Obj} (h:w.heap[b]? =some o):b<w.heap.size:=(Array.getElem?_eq_some_iff.1 h).1
theorem gB {w:World} {base:Nat} {e:TypeId} {k:Nat} {v:Value} {n:Nat} {xs:List Value} (h:w.ownsRow base e k v n xs) (h0:0<n):
  ∃g c,v= .slice (some ⟨g,0,none⟩) n c∧base≤g∧g<w.heap.size∧n≤c∧c≤maxLen:=by
 rcases h.2 with⟨_,h0⟩ | ⟨g,cap,cur,hv,hb,hg,hc,hm, _⟩
 ·omega
 ·exact⟨g,cap,hv,hb,block_lt hg,hc,hm⟩
def nC (l:List (List UInt8)):List Value:=l.map sv
theorem dS (l:List (List UInt8)):(nC l).length=l.length:=by simp [nC]
theorem nD (a b:List (List UInt8)):nC (a++b)=nC a++nC b:=by simp [nC]
theorem wD (l:List (List UInt8)):∀u∈nC l,u.oneCell'=true:=by
 intro u hu
 obtain⟨b, _,rfl⟩:=List.mem_map.1 hu
 rfl
theorem wE (l:List (List UInt8)) (i:Nat) (h:i<l.length):(nC l)[i]? =some (sv l[i]):=by simp [nC,h]
def Ss (w:World) (B:Nat) (v:Value) (l:List (List UInt8)):Prop:=Sl w B 1 v (nC l)
theorem Ss.open_ {w:World} {B:Nat} {v:Value} {l:List (List UInt8)} (h:Ss w B v l):
  ∃(A:Option Addr) (c:Nat),v= .slice A l.length c∧l.length≤c∧c≤maxLen∧
   (0<l.length→∃b off,A=some ⟨b,off,none⟩∧b<B∧∀(j:Nat) (hj:j<l.length),w.cell? ⟨b,off+j,none⟩=some (sv l[j])):=by
 obtain⟨A,n,c,rfl,hl,hn,hc,hx⟩:=h
 obtain rfl:l.length=n:=by rw [←dS l,hl];omega
 refine⟨A,c,rfl,hn,hc,fun h0=> ?_⟩
 obtain⟨b,off,hA,hb,hcell⟩:=hx h0
 exact⟨b,off,hA,hb,fun j hj=>hcell j _ (wE l j hj)⟩
theorem Ss.below {w w':World} {B:Nat} {v:Value} {l:List (List UInt8)} (h:Ss w B v l) (hb:Below B w w'):Ss w' B v l:=Sl.below h hb
theorem Ss.alloc {w:World} {B:Nat} {v:Value} {l:List (List UInt8)} (h:Ss w B v l) (hB:B≤w.heap.size) (o:Obj):Ss (w.alloc o) B v l:=Sl.alloc h hB o
theorem Ss.more {w:World} {B B':Nat} {v:Value} {l:List (List UInt8)} (h:Ss w B v l) (hB:B≤B'):Ss w B' v l:=Sl.more h hB
def gD (w:World) (base:Nat) (e:TypeId) (v:Value) (l:List (List UInt8)):Prop:=∃n,w.ownsRow base e 1 v n (nC l)
section
variable {w w':World} {base:Nat} {e:TypeId} {v:Value} {l:List (List UInt8)}
theorem gD.nil (w:World) (base:Nat) (e:TypeId):gD w base e (.slice none 0 0) []:=⟨0,World.ownsRow_nil _ _ _ _⟩
theorem gD.ss (h:gD w base e v l):Ss w w.heap.size v l:=by obtain⟨n,h⟩:=h;exact Sl.qB h
theorem gD.below (h:gD w base e v l) (hb:Below w.heap.size w w'):gD w' base e v l:=by obtain⟨n,h⟩:=h;exact⟨n,own_below h hb⟩
theorem gD.alloc (h:gD w base e v l) (o:Obj):gD (w.alloc o) base e v l:=by obtain⟨n,h⟩:=h;exact⟨n,h.alloc o⟩
theorem gD.drewN (h:gD w base e v l) (k:Nat):gD (w.drewN k) base e v l:=h
theorem gD.lt (h:gD w base e v l):∀k,v.ownBlock=some k→base≤k∧k<w.heap.size:=by obtain⟨n,h⟩:=h;exact h.lt
theorem gD.turn {G:Nat→Prop} (h:gD w base e v l) (t:Turn G w w') (hd:∀g,v.ownBlock=some g→¬G g):gD w' base e v l:=by obtain⟨n,h⟩:=h;exact⟨n,bT h t hd⟩
theorem gD.row (h:gD w base e v l):w.ownsRow base e 1 v l.length (nC l):=by
 obtain⟨n,h⟩:=h
 have hn:n=l.length:=by have:=h.1;rw [dS]at this;omega
 subst hn;exact h
end
theorem qE (w:World) (x:List UInt8) (t:TypeId):Ss (w.alloc (.cells #[sv x] t)) (w.heap.size+1) (.slice (some ⟨w.heap.size,0,none⟩) 1 1) [x]:=
 fD w #[sv x] t 1 1 rfl (by decide)
theorem ak (w:World) (b i:Nat) (v:Value):Turn (fun k=>k=b) w (w.setCell ⟨b,i,none⟩ v):=
 ⟨rfl,rfl,rfl,by simp,fun k _ hF=>heap_setCell_other w _ k v hF⟩
end Go.Proofs.YtmbppnbekkbibaaGreatDoor
set_option linter.unusedVariables false
namespace Go.Proofs.YtmbppnbekkbibaaGreatDoor
open Go.ChangeShapes Go.WideShapes Go.ChangeAt Go.RowKit
section
variable {H:Type} {enc:TypeId ×Value→H} {P:Program} {W:World}
end
end Go.Proofs.YtmbppnbekkbibaaGreatDoor
set_option linter.unusedVariables false
namespace Go.Proofs.YtmbppnbekkbibaaGreatDoor
open Go.ChangeShapes Go.WideShapes Go.ChangeAt Go.RowKit
section
variable {H:Type} {enc:TypeId ×Value→H} {P:Program} {W:World}
end
end Go.Proofs.YtmbppnbekkbibaaGreatDoor
set_option linter.unusedVariables false
namespace Go.Proofs.YtmbppnbekkbibaaGreatDoor
open Go.RowKit
theorem dX {P:Program} {ops:Array Oper} {o:Oper} {a:Act} {w:World} {K:Act→World→Prop} {Q:Exit→Act→World→Prop} {E:Prop} (hgd:o.guard=none) (s x:Operand) (t:TypeId)
  (ho:o.op= .call { callee:= .builtin .append,args:= #[s,x],argTypes:= #[t,t]})
  (base:Nat) {e:TypeId} {z:Value} {size bytes:Nat} (hE:iP P t e z size bytes) (v y:Value) (hs:a.eval s=v) (hx:a.eval x=y)
  {n:Nat} {xs:List Value} (hown:w.ownsRow base e size v n xs) {B:Nat} {news:List Value} (hy:Sl w B size y news) (h1:∀u∈news,u.oneCell'=true)
  (h63:n*size+news.length≤maxLen) (hbytes:(n*size+news.length)*bytes≤140737488355328) (hbase:base≤w.heap.size)
  (h:∀v' w' n',w'.ownsRow base e size v' n' (xs++news)→w.grownBy w' v.ownBlock→(v'.ownBlock=v.ownBlock∨v'.ownBlock=some w.heap.size)→K (a.put o.dst v') w'):
  if Region.wanted o (yielded ops a.tmps)=true then Oper.wp P o a w K Q else E:=by
 have hw:Region.wanted o (yielded ops a.tmps)=true:=by simp [Region.wanted,hgd]
 rw [if_pos hw]
 obtain⟨v',w',n',hrun,h2,h3,h4⟩:=FP (P:=P) (ty:=o.type) w base hE hown hy h1 h63 hbytes hbase
 unfold Oper.wp execOp
 simp only [ho,resolve,invoke,builtin,Sem.run_bind,Sem.run_pure,Result.andThen_ok,List.map_toArray,List.map_cons,List.map_nil,hs,hx,hrun]
 exact h v' w' n' h2 h3 h4
end Go.Proofs.YtmbppnbekkbibaaGreatDoor
end
section
set_option linter.unusedVariables false
namespace Go.Proofs.YtmbppnbekkbibaaGreatDoor
inductive bO where
 | mk (kind:Int) (name:Bt) (names:List Bt) (kids:List bO):bO
inductive bD where
 | mk (kind:Int) (text:Bt) (n line col:Int) (types:List bO) (names:List Bt) (kids:List bD):bD
def bO.kind:bO→Int | .mk k _ _ _=>k
def bO.name:bO→Bt | .mk _ n _ _=>n
def bO.names:bO→List Bt | .mk _ _ n _=>n
def bO.kids:bO→List bO | .mk _ _ _ k=>k
def eG (k:Int) (nm:Bt) (ns ks:Nat):Bool:=
 if k=8 then ns+ks==0 && eu nm
 else if nm≠[]∨k<0∨7<k then false
 else if k=5 then ns==ks
 else if k=6 then ns==0 && ks==2
 else if k=7 then ns==0 && decide (2≤ks)
 else ns+ks==0
def bH:Nat→bO→Bool
 | 0, _=>false
 | m+1, .mk k nm ns ks=>ns.all eu && ks.all (bH m) && eG k nm ns.length ks.length
def rO (sep:Bt):List Bt→Bt
 | []=>[]
 | [x]=>x
 | x :: y :: l=>x++(sep++rO sep (y :: l))
def qF (kinds:List Int) (k:Int) (s:Bt):Bt:=if kinds.contains k then [40]++(s++[41])else s
def nE (n s:Bt):Bt:=n++([58,32]++s)
mutual
def rP:bO→Bt
 | .mk k nm ns ks=>
  if k=0 then [97,110,121]
  else if k=1 then [110,117,108,108]
  else if k=2 then [98,111,111,108]
  else if k=3 then [105,110,116]
  else if k=4 then [115,116,114]
  else if k=5 then [123]++(rO [44,32] (List.zipWith nE ns (fJ ks))++[125])
  else if k=6 then qF [6] ((ks.map bO.kind).getD 0 0) ((fJ ks).getD 0 [])++([32,45,62,32]++(fJ ks).getD 1 [])
  else if k=7 then rO [32,124,32] (List.zipWith (qF [6,7]) (ks.map bO.kind) (fJ ks))
  else nm
def fJ:List bO→List Bt
 | []=>[]
 | t :: l=>rP t :: fJ l
end
theorem qG:∀l:List bO,fJ l=l.map rP
 | []=>by simp [fJ]
 | t :: l=>by simp [fJ,qG l]
def uP (l:List bO) (i:Nat):Bt:=match l[i]? with | some t=>[58,32]++rP t | none=>[]
structure Mi where
 name:Bool
 low:Nat
 types:Nat
 kids:Int
 most:Int
def dD (k:Int):Mi:=
 if k=0 then⟨false,0,0,0,9223372036854775807⟩
 else if k=2 then⟨false,0,0,0,1⟩
 else if k=4 then⟨true,0,0,0,0⟩
 else if k=5 then⟨true,0,1,2,0⟩
 else if k=6 then⟨true,1,2,1,0⟩
 else if k=7 then⟨false,0,0,2,0⟩
 else if k=8 then⟨false,0,0, -1,0⟩
 else if k=9 then⟨true,0,0,1,0⟩
 else if k=10 then⟨true,0,0,2,0⟩
 else if k=11 then⟨false,0,0,3,0⟩
 else if k=12 then⟨false,0,0,1,5⟩
 else if k=13 then⟨false,1,1,1,0⟩
 else if k=14 then⟨false,0,0,2,0⟩
 else if k=15∨k=16∨k=17 then⟨false,0,0,1,0⟩
 else if k=19 then⟨true,1,1048576,0,0⟩
 else⟨false,0,0,0,0⟩
def opsL:List Bt:=[[111,114],[97,110,100],[60],[60,61],[61,61],[43,43],[43],[45],[94],[42],[47],[37],[38],[60,60],[62,62]]
def Ae (s:Bt):Bool:=decide (s.length≤256) && s.all (fun c=> !(decide (c<32) && c != 9 && c != 10))
def mH (k:Int) (s:Bt) (named:Bool):Bool:=
 if named then eu s else if k=1 then Ae s else if k=14 then opsL.contains s else s==[]
def Af (k:Int) (text:Bt) (n:Int) (types names kids:Nat):Bool:=
 decide (0≤n∧n≤(dD k).most) && mH k text (dD k).name && decide ((dD k).low≤types∧types≤(dD k).types) &&
  (if(dD k).kids<0 then kids==names else names==0 && (kids:Int)==(dD k).kids)
def gX:Nat→bD→Bool
 | 0, _=>false
 | m+1, .mk k text n _ _ types names kids=>
  decide (0≤k∧k<20) && Af k text n types.length names.length kids.length && names.all eu && types.all (bH 16) && kids.all (gX m)
def qm:List Bt:=[[110,117,108,108],[98,111,111,108],[105,110,116],[115,116,114],[114,101,99,111,114,100],[102,117,110,99,116,105,111,110]]
def cat (l:List Bt):Bt:=l.flatMap id
def rQ (k:Int) (text:Bt) (n:Int) (types:List bO):Bt:=
 if k=0 then Lib.itoa n
 else if k=1 then Ee text
 else if k=2 then(if n=0 then [102,97,108,115,101]else [116,114,117,101])
 else if k=3 then [110,117,108,108]
 else if k=18 then [114,101,97,100,40,41]
 else if k=19 then cat [text,[91],rO [44,32] (types.map rP),[93]]
 else text
def zB (k:Int) (text:Bt) (n:Int) (types:List bO) (names:List Bt) (s:List Bt):Bt:=
 if k=7 then cat [s.getD 0 [],[40],s.getD 1 [],[41]]
 else if k=9 then cat [s.getD 0 [],[46],text]
 else if k=10 then cat [[123],s.getD 0 [],[32,119,105,116,104,32],text,[58,32],s.getD 1 [],[125]]
 else if k=8 then cat [[123],rO [44,32] (List.zipWith nE names s),[125]]
 else if k=17 then cat [[112,114,105,110,116,40],s.getD 0 [],[41]]
 else if k=5 then cat [[40],[108,101,116,32],text,uP types 0,[32,61,32],s.getD 0 [],[59,32],s.getD 1 [],[41]]
 else if k=6 then cat [[40],[102,110,32,40],text,uP types 0,[41],uP types 1,[32,61,62,32],s.getD 0 [],[41]]
 else if k=11 then cat [[40],[105,102,32],s.getD 0 [],[32,116,104,101,110,32],s.getD 1 [],[32,101,108,115,101,32],s.getD 2 [],[41]]
 else if k=12 then cat [[40],s.getD 0 [],[32,105,115,32],qm.getD n.toNat [],[41]]
 else if k=13 then cat [[40],s.getD 0 [],[32,97,115,32],(types.map rP).getD 0 [],[41]]
 else if k=14 then cat [[40],s.getD 0 [],[32],text,[32],s.getD 1 [],[41]]
 else if k=15 then cat [[40],[110,111,116,32],s.getD 0 [],[41]]
 else if k=16 then cat [[40],[45],s.getD 0 [],[41]]
 else rQ k text n types
mutual
def mI:bD→Bt
 | .mk k text n _ _ types names kids=>zB k text n types names (jZ kids)
def jZ:List bD→List Bt
 | []=>[]
 | x :: l=>mI x :: jZ l
end
theorem nG:∀l:List bD,jZ l=l.map mI
 | []=>by simp [jZ]
 | t :: l=>by simp [jZ,nG l]
def zC (x:bD):Bt:=if gX 25 x then mI x else []
end Go.Proofs.YtmbppnbekkbibaaGreatDoor
set_option linter.unusedVariables false
namespace Go.Proofs.YtmbppnbekkbibaaGreatDoor
open Go.RowKit
theorem fU {w:World} {B k:Nat} {v:Value} {xs:List Value} (h:Sl w B k v xs):∃A n c,v= .slice A n c:=by
 obtain⟨A,n,c,hv, _⟩:=h
 exact⟨A,n,c,hv⟩
theorem bL {w:World} {B k:Nat} {A:Option Addr} {n c:Nat} {xs:List Value} (h:Sl w B k (.slice A n c) xs):xs.length=n*k∧n≤c∧c≤2 ^ 63 - 1:=by
 obtain⟨A',n',c',hv,hl,hn,hc, _⟩:=h
 injection hv with e1 e2 e3
 subst e1 e2 e3
 unfold maxLen at hc
 exact⟨hl,hn,hc⟩
theorem bZ {w:World} {B k m:Nat} {v:Value} {xs:List Value} (h:Sl w B k v xs) (hk:0<k) (hm:xs.length=m*k):∃A c,v= .slice A m c:=by
 obtain⟨A,n,c,rfl⟩:=fU h
 have:=(bL h).1
 rw [hm]at this
 obtain rfl:m=n:=Nat.eq_of_mul_eq_mul_right hk this
 exact⟨A,c,rfl⟩
theorem pK {w:World} {B k:Nat} {xs:List Value} {A:Option Addr} {n c:Nat} (h:Sl w B k (.slice A n c) xs) {i:Nat} (hi:i<n) (hk:0<k):
  ∃b off,A=some ⟨b,off,none⟩∧b<B∧∀(j:Nat) u,xs[i*k+j]? =some u→w.cell? ⟨b,off+(i*k+j),none⟩=some u:=by
 obtain⟨A',n',c',hv',hl,hn,hc,hx⟩:=h
 injection hv' with e1 e2 e3
 subst e1 e2 e3
 obtain⟨b,off,hA,hbb,hcell⟩:=hx (by omega)
 exact⟨b,off,hA,hbb,fun j u hu=>hcell _ u hu⟩
mutual
inductive rR (w:World) (B:Nat):List Value→bO→Prop
 | mk {k:Int} {nm:Bt} {vn vk:Value} {ns:List Bt} {ks:List bO} {xk:List Value}:Ss w B vn ns→Sl w B 4 vk xk→iq w B xk ks→rR w B [.int .i64 k,sv nm,vn,vk] (.mk k nm ns ks)
inductive iq (w:World) (B:Nat):List Value→List bO→Prop
 | nil:iq w B [] []
 | cons {x y:List Value} {c:bO} {l:List bO}:rR w B x c→iq w B y l→iq w B (x++y) (c :: l)
end
mutual
inductive qH (w:World) (B:Nat):List Value→bD→Prop
 | mk {k n line col:Int} {text:Bt} {vt vn vk:Value} {ts:List bO} {xt:List Value} {ns:List Bt} {ks:List bD} {xk:List Value}:Sl w B 4 vt xt→iq w B xt ts→Ss w B vn ns→Sl w B 8 vk xk→kr w B xk ks→
   qH w B [.int .i64 k,sv text, .int .i64 n, .int .i64 line, .int .i64 col,vt,vn,vk] (.mk k text n line col ts ns ks)
inductive kr (w:World) (B:Nat):List Value→List bD→Prop
 | nil:kr w B [] []
 | cons {x y:List Value} {c:bD} {l:List bD}:qH w B x c→kr w B y l→kr w B (x++y) (c :: l)
end
mutual
theorem rR.keep {w w':World} {B:Nat} {x:List Value} {c:bO} (h:rR w B x c) (hb:Below B w w'):rR w' B x c:=
 match h with
 | .mk h1 h2 h3=> .mk (Sl.below h1 hb) (h2.below hb) (h3.keep hb)
theorem iq.keep {w w':World} {B:Nat} {x:List Value} {l:List bO} (h:iq w B x l) (hb:Below B w w'):iq w' B x l:=
 match h with
 | .nil=> .nil
 | .cons h1 h2=> .cons (h1.keep hb) (h2.keep hb)
end
mutual
theorem rR.more {w:World} {B B':Nat} {x:List Value} {c:bO} (h:rR w B x c) (hb:B≤B'):rR w B' x c:=
 match h with
 | .mk h1 h2 h3=> .mk (Sl.more h1 hb) (h2.more hb) (h3.more hb)
theorem iq.more {w:World} {B B':Nat} {x:List Value} {l:List bO} (h:iq w B x l) (hb:B≤B'):iq w B' x l:=
 match h with
 | .nil=> .nil
 | .cons h1 h2=> .cons (h1.more hb) (h2.more hb)
end
theorem rR.far {W w':World} {B:Nat} {x:List Value} {c:bO} (h:rR W B x c) (hB:B≤W.heap.size) (hb:Below W.heap.size W w'):rR w' w'.heap.size x c:=
 (h.keep (hb.mono hB)).more (Nat.le_trans hB hb.size)
theorem iq.far {W w':World} {B:Nat} {x:List Value} {c:List bO} (h:iq W B x c) (hB:B≤W.heap.size) (hb:Below W.heap.size W w'):iq w' w'.heap.size x c:=
 (h.keep (hb.mono hB)).more (Nat.le_trans hB hb.size)
theorem rR.len {w:World} {B:Nat} {x:List Value} {c:bO} (h:rR w B x c):x.length=4:=by
 cases h;rfl
theorem iq.length {w:World} {B:Nat}:∀ {x:List Value} {l:List bO},iq w B x l→x.length=l.length*4
 | _, _, .nil=>rfl
 | _, _, .cons h1 h2=>by
  have:=h1.len
  have:=iq.length h2
  rw [List.length_append,List.length_cons];omega
theorem iq.at {w:World} {B:Nat}:∀ {x:List Value} {l:List bO},iq w B x l→∀(i:Nat) (hi:i<l.length),rR w B ((x.drop (i*4)).take 4) l[i]
 | _, _, .nil,i,hi=>by simp at hi
 | _, _, .cons (x:=x) (y:=y) h1 h2,i,hi=>by
  have h5:=h1.len
  rcases i with _ | i
  ·rw [Nat.zero_mul,List.drop_zero, ←h5,List.take_left];exact h1
  ·have:(x++y).drop ((i+1)*4)=y.drop (i*4):=by
    rw [show(i+1)*4=x.length+i*4 by omega, ←List.drop_drop,List.drop_left]
   rw [this]
   exact iq.at h2 i (by simpa using hi)
mutual
theorem qH.keep {w w':World} {B:Nat} {x:List Value} {c:bD} (h:qH w B x c) (hb:Below B w w'):qH w' B x c:=
 match h with
 | .mk h1 h2 h3 h4 h5=> .mk (h1.below hb) (h2.keep hb) (Sl.below h3 hb) (h4.below hb) (h5.keep hb)
theorem kr.keep {w w':World} {B:Nat} {x:List Value} {l:List bD} (h:kr w B x l) (hb:Below B w w'):kr w' B x l:=
 match h with
 | .nil=> .nil
 | .cons h1 h2=> .cons (h1.keep hb) (h2.keep hb)
end
mutual
theorem qH.more {w:World} {B B':Nat} {x:List Value} {c:bD} (h:qH w B x c) (hb:B≤B'):qH w B' x c:=
 match h with
 | .mk h1 h2 h3 h4 h5=> .mk (h1.more hb) (h2.more hb) (Sl.more h3 hb) (h4.more hb) (h5.more hb)
theorem kr.more {w:World} {B B':Nat} {x:List Value} {l:List bD} (h:kr w B x l) (hb:B≤B'):kr w B' x l:=
 match h with
 | .nil=> .nil
 | .cons h1 h2=> .cons (h1.more hb) (h2.more hb)
end
theorem qH.far {W w':World} {B:Nat} {x:List Value} {c:bD} (h:qH W B x c) (hB:B≤W.heap.size) (hb:Below W.heap.size W w'):qH w' w'.heap.size x c:=
 (h.keep (hb.mono hB)).more (Nat.le_trans hB hb.size)
theorem kr.far {W w':World} {B:Nat} {x:List Value} {c:List bD} (h:kr W B x c) (hB:B≤W.heap.size) (hb:Below W.heap.size W w'):kr w' w'.heap.size x c:=
 (h.keep (hb.mono hB)).more (Nat.le_trans hB hb.size)
theorem qH.len {w:World} {B:Nat} {x:List Value} {c:bD} (h:qH w B x c):x.length=8:=by
 cases h;rfl
theorem kr.length {w:World} {B:Nat}:∀ {x:List Value} {l:List bD},kr w B x l→x.length=l.length*8
 | _, _, .nil=>rfl
 | _, _, .cons h1 h2=>by
  have:=h1.len
  have:=kr.length h2
  rw [List.length_append,List.length_cons];omega
theorem kr.at {w:World} {B:Nat}:∀ {x:List Value} {l:List bD},kr w B x l→∀(i:Nat) (hi:i<l.length),qH w B ((x.drop (i*8)).take 8) l[i]
 | _, _, .nil,i,hi=>by simp at hi
 | _, _, .cons (x:=x) (y:=y) h1 h2,i,hi=>by
  have h5:=h1.len
  rcases i with _ | i
  ·rw [Nat.zero_mul,List.drop_zero, ←h5,List.take_left];exact h1
  ·have:(x++y).drop ((i+1)*8)=y.drop (i*8):=by
    rw [show(i+1)*8=x.length+i*8 by omega, ←List.drop_drop,List.drop_left]
   rw [this]
   exact kr.at h2 i (by simpa using hi)
theorem rR.parts {w:World} {B:Nat} {x:List Value} {k:Int} {nm:Bt} {ns:List Bt} {ks:List bO} (h:rR w B x (.mk k nm ns ks)):
  ∃A1 c1 A2 c2 xk,x=[.int .i64 k,sv nm, .slice A1 ns.length c1, .slice A2 ks.length c2]∧Ss w B (.slice A1 ns.length c1) ns∧Sl w B 4 (.slice A2 ks.length c2) xk∧iq w B xk ks:=by
 cases h with
 | mk h1 h2 h3=>
  obtain⟨A1,c1,rfl⟩:=bZ h1 (by omega) (m:=ns.length) (by rw [dS];omega)
  obtain⟨A2,c2,rfl⟩:=bZ h2 (by omega) (m:=ks.length) h3.length
  exact⟨A1,c1,A2,c2, _,rfl,h1,h2,h3⟩
theorem qH.parts {w:World} {B:Nat} {x:List Value} {k n line col:Int} {text:Bt} {ts:List bO} {ns:List Bt} {ks:List bD} (h:qH w B x (.mk k text n line col ts ns ks)):
  ∃A1 c1 A2 c2 A3 c3 xt xk,x=[.int .i64 k,sv text, .int .i64 n, .int .i64 line, .int .i64 col, .slice A1 ts.length c1, .slice A2 ns.length c2, .slice A3 ks.length c3]∧Sl w B 4 (.slice A1 ts.length c1) xt∧iq w B xt ts∧Ss w B (.slice A2 ns.length c2) ns∧Sl w B 8 (.slice A3 ks.length c3) xk∧kr w B xk ks:=by
 cases h with
 | mk h1 Rv h2 h3 Rw=>
  obtain⟨A1,c1,rfl⟩:=bZ h1 (by omega) (m:=ts.length) Rv.length
  obtain⟨A2,c2,rfl⟩:=bZ h2 (by omega) (m:=ns.length) (by rw [dS];omega)
  obtain⟨A3,c3,rfl⟩:=bZ h3 (by omega) (m:=ks.length) Rw.length
  exact⟨A1,c1,A2,c2,A3,c3, _, _,rfl,h1,Rv,h2,h3,Rw⟩
theorem rR.shape {w:World} {B:Nat} {x:List Value} {c:bO} (h:rR w B x c):∃k s A1 n1 c1 A2 n2 c2,x=[.int .i64 k, .string s, .slice A1 n1 c1, .slice A2 n2 c2]:=by
 cases h with
 | mk h1 h2 _=>
  obtain⟨A1,n1,c1,rfl⟩:=fU h1
  obtain⟨A2,n2,c2,rfl⟩:=fU h2
  exact⟨_, _, _, _, _, _, _, _,rfl⟩
theorem qH.shape {w:World} {B:Nat} {x:List Value} {c:bD} (h:qH w B x c):∃k s n l o A1 n1 c1 A2 n2 c2 A3 n3 c3,x=[.int .i64 k, .string s, .int .i64 n, .int .i64 l, .int .i64 o, .slice A1 n1 c1, .slice A2 n2 c2, .slice A3 n3 c3]:=by
 cases h with
 | mk h1 _ h2 h3 _=>
  obtain⟨A1,n1,c1,rfl⟩:=fU h1
  obtain⟨A2,n2,c2,rfl⟩:=fU h2
  obtain⟨A3,n3,c3,rfl⟩:=fU h3
  exact⟨_, _, _, _, _, _, _, _, _, _, _, _, _, _,rfl⟩
theorem fq {xs ys:List Value} {n m:Nat} (h:(xs.drop n).take m=ys) {j:Nat} (hj:j<m):xs[n+j]? =ys[j]? :=by
 rw [←h,List.getElem?_take,if_pos hj,List.getElem?_drop]
theorem tN {W w':World} {b i:Nat} {v:Value} (h:Below W.heap.size W w') (d:W.cell? ⟨b,i,none⟩=some v) (hb:b<W.heap.size):w'.cell? ⟨b,i,none⟩=some v:=
 (h.cell (p:=⟨b,i,none⟩) hb).trans d
end Go.Proofs.YtmbppnbekkbibaaGreatDoor
set_option linter.unusedVariables false
namespace Go.Proofs.YtmbppnbekkbibaaGreatDoor
open Go.ChangeShapes Go.WideShapes Go.ChangeAt Go.RowKit
inductive bU {α:Type} (R:List Value→α→Prop) (k:Nat):List Value→List α→Prop
 | nil:bU R k [] []
 | cons {x y:List Value} {c:α} {l:List α}:x.length=k→R x c→bU R k y l→bU R k (x++y) (c :: l)
theorem bU.snoc {α:Type} {R:List Value→α→Prop} {k:Nat} {z:List Value} {c:α} (hz:z.length=k) (hc:R z c):∀ {xs:List Value} {ys:List α},bU R k xs ys→bU R k (xs++z) (ys++[c])
 | _, _, .nil=>by have:=bU.cons (R:=R) hz hc .nil;simpa using this
 | _, _, .cons h1 h2 h3=>by rw [List.append_assoc,List.cons_append];exact .cons h1 h2 (bU.snoc hz hc h3)
theorem bU.len {α:Type} {R:List Value→α→Prop} {k:Nat}:∀ {xs:List Value} {ys:List α},bU R k xs ys→xs.length=ys.length*k
 | _, _, .nil=>by simp
 | _, _, .cons h1 h2 h3=>by rw [List.length_append,List.length_cons,h1,bU.len h3,Nat.add_mul,Nat.one_mul,Nat.add_comm]
theorem bU.all {α:Type} {R:List Value→α→Prop} {k:Nat} {S:α→Prop} (hS:∀z c,R z c→S c):∀ {xs:List Value} {ys:List α},bU R k xs ys→∀y∈ys,S y
 | _, _, .nil,y,hy=>by cases hy
 | _, _, .cons h1 h2 h3,y,hy=>by
  rcases List.mem_cons.1 hy with rfl | hy
  ·exact hS _ _ h2
  ·exact bU.all hS h3 y hy
section
variable {H:Type} {enc:TypeId ×Value→H} {P:Program} {W:World}
end
mutual
def Nl:bO→Prop
 | .mk k nm ns ks=>In64 k∧nm.length≤maxLen∧(∀x∈ns,x.length≤maxLen)∧GY ks
def GY:List bO→Prop
 | []=>True
 | t :: l=>Nl t∧GY l
end
theorem BL:∀ {l:List bO},GY l↔∀x∈l,Nl x
 | []=>by simp [GY]
 | c :: l=>by
  rw [GY,BL (l:=l)]
  simp
mutual
def Mj:bD→Prop
 | .mk k text n line col ts ns ks=>In64 k∧text.length≤maxLen∧In64 n∧In64 line∧In64 col∧(∀x∈ts,Nl x)∧(∀x∈ns,x.length≤maxLen)∧GZ ks
def GZ:List bD→Prop
 | []=>True
 | t :: l=>Mj t∧GZ l
end
theorem rT:∀ {l:List bD},GZ l↔∀x∈l,Mj x
 | []=>by simp [GZ]
 | c :: l=>by
  rw [GZ,rT (l:=l)]
  simp
section
variable {H:Type} {enc:TypeId ×Value→H} {W:World}
end
end Go.Proofs.YtmbppnbekkbibaaGreatDoor
end
