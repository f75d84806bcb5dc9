/- GC -/
import Derived.Test.YtncnnedlgofccaaGreatDoorPT01
import Derived.ProofKit
import Derived.Deep.RegionLaw
import Derived.Deep.RegionHeld
set_option linter.unusedSimpArgs false
set_option linter.unusedVariables false
namespace Go.Proofs.YtncnnedlgofccaaGreatDoor
open Go.RowKit
def Turn (F:Nat->Prop)(w w':World):Prop:=
 w'.os=w.os∧w'.tape=w.tape∧w'.output=w.output∧w.heap.size<=w'.heap.size∧∀k,k<w.heap.size->¬F k->w'.heap[k]? =w.heap[k]?
section
variable {F G:Nat->Prop}{a b c w w':World}
theorem Turn.refl (F:Nat->Prop)(w:World):Turn F w w:=⟨rfl,rfl,rfl,Nat.le_refl _,fun _ _ _=>rfl⟩
theorem Turn.size (h:Turn F w w'):w.heap.size<=w'.heap.size:=h.2.2.2.1
theorem Turn.block (h:Turn F w w'){k:Nat}(hk:k<w.heap.size)(hF:¬F k):w'.heap[k]? =w.heap[k]? :=h.2.2.2.2 k hk hF
theorem Turn.trans (h:Turn F a b)(k:Turn G b c)(hG:∀i,i<a.heap.size->G i->F i:=by exact fun _ _ h=>h):Turn F a c:=
 ⟨k.1.trans h.1,k.2.1.trans h.2.1,k.2.2.1.trans h.2.2.1,Nat.le_trans h.size k.size,fun i hi hF=>
  (k.block (Nat.lt_of_lt_of_le hi h.size) (fun hg=>hF (hG i hi hg))).trans (h.block hi hF)⟩
theorem Turn.of_below (h:Below w.heap.size w w'):Turn F w w':=⟨h.os,h.tape,h.output,h.size,fun k hk _=>h.block k hk⟩
theorem Turn.aZ {row:Option Nat}(h:w.grownBy w' row)(hr:∀k,row=some k->F k):Turn F w w':=
 ⟨h.os,h.tape,h.output,h.size,fun k hk hF=>h.block k hk (fun e=>hF (hr k e.symm))⟩
theorem Turn.below {B:Nat}(h:Turn F w w')(hB:B<=w.heap.size)(hF:∀k,k<B->¬F k):Below B w w':=
 ⟨h.1,h.2.1,h.2.2.1,h.size,fun k hk=>h.block (Nat.lt_of_lt_of_le hk hB) (hF k hk)⟩
theorem Turn.mono (h:Turn F w w')(hF:∀k,k<w.heap.size->F k->G k):Turn G w w':=
 ⟨h.1,h.2.1,h.2.2.1,h.size,fun k hk hG=>h.block hk (fun hf=>hG (hF k hk hf))⟩
theorem Turn.alloc (F:Nat->Prop)(w:World)(o:Obj):Turn F w (w.alloc o):=Turn.aZ (World.grownBy_alloc w o none) (by simp)
theorem Turn.drewN (F:Nat->Prop)(w:World)(n:Nat):Turn F w (w.drewN n):=⟨rfl,rfl,rfl,Nat.le_refl _,fun _ _ _=>rfl⟩
theorem Turn.lt (h:Turn F w w'){k:Nat}(hk:k<w.heap.size):k<w'.heap.size:=Nat.lt_of_lt_of_le hk h.size
end
theorem Sl.anx {w w':World}{B k:Nat}{v:Value}{xs:List Value}(h:Sl w B k v xs)(hk:∀g,v.ownBlock=some g->g<B->w'.heap[g]? =w.heap[g]?):Sl w' B k v xs:=by
 obtain⟨A,n,c,hv,hl,hn,hc,hx⟩:=h;refine⟨A,n,c,hv,hl,hn,hc,fun h0=>?_⟩;obtain⟨b,off,hA,hb,hcell⟩:=hx h0;refine⟨b,off,hA,hb,fun j u hu=>?_⟩;rw [<-hcell j u hu];have h1:=hk b (by subst hv hA;rfl) hb;simp only [World.cell?,h1]
def SlF (w:World)(F:Nat->Prop)(k:Nat)(v:Value)(xs:List Value):Prop:=Sl w w.heap.size k v xs∧∀g,v.ownBlock=some g->F g
section
variable {F G:Nat->Prop}{w w':World}{k:Nat}{v:Value}{xs:List Value}
theorem SlF.turn (h:SlF w F k v xs)(t:Turn G w w')(hd:∀g,F g->¬G g):SlF w' F k v xs:=
 ⟨(h.1.anx fun g hg hl=>t.block hl (hd g (h.2 g hg))).more t.size,h.2⟩
theorem SlF.mono (h:SlF w F k v xs)(hF:∀g,F g->G g):SlF w G k v xs:=⟨h.1,fun g hg=>hF g (h.2 g hg)⟩
theorem SlF.Aw {base n:Nat}{e:TypeId}(h:w.ownsRow base e k v n xs)(hF:∀g,v.ownBlock=some g->F g):SlF w F k v xs:=⟨Sl.Aw h,hF⟩
end
theorem dS {G:Nat->Prop}{w w':World}{base:Nat}{e:TypeId}{k:Nat}{v:Value}{n:Nat}{xs:List Value}(h:w.ownsRow base e k v n xs)(t:Turn G w w')(hd:∀g,v.ownBlock=some g->¬G g):w'.ownsRow base e k v n xs:=by
 refine⟨h.1,?_⟩;rcases h.2 with h2 |⟨g,cap,cur,hv,hg,hb,r⟩
 ·exact .inl h2
 ·refine .inr ⟨g,cap,cur,hv,hg,?_,r⟩;rw [t.block (Array.getElem?_eq_some_iff.1 hb).1 (hd g (by subst hv;rfl))];exact hb
theorem Yp {H:Type}{P:Program}{k:TypeId}{R:Value->Option (DataW H ×List MemPlace)}{G:Nat->Prop}{w w':World}{b n:Nat}{D:DataW H}(h:w.ownsMap P k R b n D)(t:Turn G w w')(hd:¬G b):w'.ownsMap P k R b n D:=by
 have hlt:=h.lt;obtain⟨es,clock,hb,r⟩:=h;exact⟨es,clock,(t.block hlt hd).trans hb,r⟩
theorem ah {G:Nat->Prop}{w w':World}{b:Nat}{o:Obj}(h:w.heap[b]? =some o)(t:Turn G w w')(hd:¬G b:=by omega):w'.heap[b]? =some o:=
 (t.block (Array.getElem?_eq_some_iff.1 h).1 hd).trans h
theorem block_lt {w:World}{b:Nat}{o:Obj}(h:w.heap[b]? =some o):b<w.heap.size:=(Array.getElem?_eq_some_iff.1 h).1
theorem jo {w:World}{base:Nat}{e:TypeId}{k:Nat}{v:Value}{n:Nat}{xs:List Value}(h:w.ownsRow base e k v n xs)(h0:0<n:=by omega):
  ∃g c,v=.slice (some ⟨g,0,none⟩) n c∧base<=g∧g<w.heap.size∧n<=c∧c<=maxLen:=by
 rcases h.2 with⟨_,h0⟩ |⟨g,cap,cur,hv,hb,hg,hc,hm,_⟩
 ·omega
 ·exact⟨g,cap,hv,hb,block_lt hg,hc,hm⟩
def qW (l:List (List UInt8)):List Value:=l.map sv
theorem fE (l:List (List UInt8)):(qW l).length=l.length:=by simp [qW]
theorem mP (a b:List (List UInt8)):qW (a++b)=qW a++qW b:=by simp [qW]
theorem wJ (l:List (List UInt8)):∀u∈qW l,u.oneCell'=true:=by
 intro u hu;obtain⟨b,_,rfl⟩:=List.mem_map.1 hu;rfl
theorem FY (l:List (List UInt8))(i:Nat)(h:i<l.length):(qW l)[i]? =some (sv l[i]):=by simp [qW,h]
def Ss (w:World)(B:Nat)(v:Value)(l:List (List UInt8)):Prop:=Sl w B 1 v (qW l)
theorem Ss.open_ {w:World}{B:Nat}{v:Value}{l:List (List UInt8)}(h:Ss w B v l):
  ∃(A:Option Addr) (c:Nat),v=.slice A l.length c∧l.length<=c∧c<=maxLen∧
   (0<l.length->∃b off,A=some ⟨b,off,none⟩∧b<B∧∀(j:Nat) (hj:j<l.length),w.cell? ⟨b,off+j,none⟩=some (sv l[j])):=by
 obtain⟨A,n,c,rfl,hl,hn,hc,hx⟩:=h;obtain rfl:l.length=n:=by rw [<-fE l,hl];omega
 refine⟨A,c,rfl,hn,hc,fun h0=>?_⟩;obtain⟨b,off,hA,hb,hcell⟩:=hx h0;exact⟨b,off,hA,hb,fun j hj=>hcell j _ (FY l j hj)⟩
theorem Ss.below {w w':World}{B:Nat}{v:Value}{l:List (List UInt8)}(h:Ss w B v l)(hb:Below B w w'):Ss w' B v l:=Sl.below h hb
theorem Ss.alloc {w:World}{B:Nat}{v:Value}{l:List (List UInt8)}(h:Ss w B v l)(hB:B<=w.heap.size)(o:Obj):Ss (w.alloc o) B v l:=Sl.alloc h hB o
theorem Ss.more {w:World}{B B':Nat}{v:Value}{l:List (List UInt8)}(h:Ss w B v l)(hB:B<=B'):Ss w B' v l:=Sl.more h hB
def iq (w:World)(base:Nat)(e:TypeId)(v:Value)(l:List (List UInt8)):Prop:=∃n,w.ownsRow base e 1 v n (qW l)
section
variable {w w':World}{base:Nat}{e:TypeId}{v:Value}{l:List (List UInt8)}
theorem iq.nil (w:World)(base:Nat)(e:TypeId):iq w base e Z []:=⟨0,World.ownsRow_nil _ _ _ _⟩
theorem iq.ss (h:iq w base e v l):Ss w w.heap.size v l:=by obtain⟨n,h⟩:=h;exact Sl.Aw h
theorem iq.below (h:iq w base e v l)(hb:Below w.heap.size w w'):iq w' base e v l:=by obtain⟨n,h⟩:=h;exact⟨n,own_below h hb⟩
theorem iq.alloc (h:iq w base e v l)(o:Obj):iq (w.alloc o) base e v l:=by obtain⟨n,h⟩:=h;exact⟨n,h.alloc o⟩
theorem iq.drewN (h:iq w base e v l)(k:Nat):iq (w.drewN k) base e v l:=h
theorem iq.Gm {base':Nat}(h:iq w base e v l)(hb:base'<=base):iq w base' e v l:=by obtain⟨n,h⟩:=h;exact⟨n,BG h hb⟩
theorem iq.lt (h:iq w base e v l):∀k,v.ownBlock=some k->base<=k∧k<w.heap.size:=by obtain⟨n,h⟩:=h;exact h.lt
theorem iq.turn {G:Nat->Prop}(h:iq w base e v l)(t:Turn G w w')(hd:∀g,v.ownBlock=some g->¬G g):iq w' base e v l:=by obtain⟨n,h⟩:=h;exact⟨n,dS h t hd⟩
theorem iq.row (h:iq w base e v l):w.ownsRow base e 1 v l.length (qW l):=by
 obtain⟨n,h⟩:=h;have hn:n=l.length:=by have:=h.1;rw [fE]at this;omega
 subst hn;exact h
end
theorem AA (w:World)(x:List UInt8)(t:TypeId):Ss (w.alloc (.cells #[sv x] t)) (w.heap.size+1) (.slice (some ⟨w.heap.size,0,none⟩) 1 1) [x]:=
 iN w #[sv x] t 1 1 rfl (by decide)
theorem ak (w:World)(b i:Nat)(v:Value):Turn (fun k=>k=b) w (w.setCell ⟨b,i,none⟩ v):=
 ⟨rfl,rfl,rfl,by simp,fun k _ hF=>heap_setCell_other w _ k v hF⟩
open Go.ChangeShapes Go.WideShapes Go.ChangeAt Go.RowKit
section
variable {H:Type}{enc:TypeId ×Value->H}{P:Program}{W:World}
end
open Go.ChangeShapes Go.WideShapes Go.ChangeAt Go.RowKit
section
variable {H:Type}{enc:TypeId ×Value->H}{P:Program}{W:World}
end
theorem gK {P:Program}{ops:Array Oper}{o:Oper}{a:Act}{w:World}{K:Act->World->Prop}{Q:Exit->Act->World->Prop}{E:Prop}(hgd:o.guard=none)(s x:Operand)(t:TypeId)
  (ho:o.op=.call { callee:= .builtin .append,args:= #[s,x],argTypes:= #[t,t]})
  (base:Nat) {e:TypeId}{z:Value}{size bytes:Nat}(hE:oI P t e z size bytes) (v y:Value) (hs:a.eval s=v) (hx:a.eval x=y)
  {n:Nat}{xs:List Value}(hown:w.ownsRow base e size v n xs) {B:Nat}{news:List Value}(hy:Sl w B size y news) (h1:∀u∈news,u.oneCell'=true)
  (h63:n*size+news.length<=maxLen) (hbytes:(n*size+news.length)*bytes<=140737488355328) (hbase:base<=w.heap.size)
  (h:∀v' w' n',w'.ownsRow base e size v' n' (xs++news)->w.grownBy w' v.ownBlock->(v'.ownBlock=v.ownBlock∨v'.ownBlock=some w.heap.size)->K (a.put o.dst v') w'):
  if Region.wanted o (yielded ops a.tmps)=true then Oper.wp P o a w K Q else E:=by
 have hw:Region.wanted o (yielded ops a.tmps)=true:=by simp [Region.wanted,hgd]
 rw [if_pos hw];obtain⟨v',w',n',hrun,h2,h3,h4⟩:=Te (P:=P) (ty:=o.type) w base hE hown hy h1 h63 hbytes hbase;unfold Oper.wp execOp;simp only [ho,resolve,invoke,builtin,Sem.run_bind,Sem.run_pure,Result.andThen_ok,List.map_toArray,List.map_cons,List.map_nil,hs,hx,hrun];exact h v' w' n' h2 h3 h4
end Go.Proofs.YtncnnedlgofccaaGreatDoor
