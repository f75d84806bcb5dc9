/- GI -/
import Derived.Test.YtncnnedlgofccaaGreatDoorPT07
import Derived.Laws.CopyOwn
set_option linter.unusedSimpArgs false
set_option linter.unusedVariables false
namespace Go.Proofs.YtncnnedlgofccaaGreatDoor
open Go.RowKit
def adt:List (UInt8 ×Bt):=[(9,[92,116]),(10,[92,110]),(34,[92,34]),(92,[92,92])]
def axz:Value:=Z
def FU (w:World)(base bs:Nat)(m:List Bt)(l:List (UInt8 ×Bt)):Prop:=
 ∃(cs:Array Value) (tr:Value),w.heap[bs]? =some (.cells cs 294 (0,0))∧cs.size=257∧cs[256]? =some tr∧iq w base 9 tr m∧base<=bs∧tr.ownBlock≠some bs∧
  ∀c:UInt8,(l.lookup c=none->cs[c.toNat]? =some axz)∧(∀u,l.lookup c=some u->∃g k,cs[c.toNat]? =some (.slice (some ⟨g,0,none⟩) u.length k)∧base<=g∧g<w.heap.size∧g≠bs∧tr.ownBlock≠some g∧∀(j:Nat) (hj:j<u.length),w.cell? ⟨g,j,none⟩=some (.int .u8 (u[j].toNat:Int)))
theorem FU.below {w w':World}{base bs:Nat}{m:List Bt}{l:List (UInt8 ×Bt)}(h:FU w base bs m l)(hb:Below w.heap.size w w'):FU w' base bs m l:=by
 obtain⟨cs,tr,h1,h2,h3,h4,h5,h6,h7⟩:=h;refine⟨cs,tr,(hb.block bs (block_lt h1)).trans h1,h2,h3,h4.below hb,h5,h6,fun c=>⟨(h7 c).1,fun u hu=>?_⟩⟩;obtain⟨g,k,a1,a0,a2,a3,a4,a7⟩:=(h7 c).2 u hu;exact⟨g,k,a1,a0,Nat.lt_of_lt_of_le a2 hb.size,a3,a4,fun j hj=>(hb.cell (p:=⟨g,j,none⟩) a2).trans (a7 j hj)⟩
theorem FU.grow {w w9:World}{base bs:Nat}{m m':List Bt}{l:List (UInt8 ×Bt)}{cs:Array Value}{tr tr':Value}(h:FU w base bs m l)(hcs:w.heap[bs]? =some (.cells cs 294 (0,0)))(htr:cs[256]? =some tr)
  (hg:w.grownBy w9 tr.ownBlock) (ho:iq w9 base 9 tr' m') (hb:tr'.ownBlock=tr.ownBlock∨tr'.ownBlock=some w.heap.size):FU (w9.setCell ⟨bs,256,none⟩ tr') base bs m' l:=by
 obtain⟨cs0,tr0,h1,h2,h3,h4,h5,h6,h7⟩:=h;rw [hcs]at h1;simp only [Option.some.injEq,Obj.cells.injEq]at h1;obtain⟨rfl,_⟩:=h1;rw [htr]at h3;injection h3 with h3;subst h3;have hbs:bs<w.heap.size:=block_lt hcs;have nM:w9.heap[bs]? =some (.cells cs 294 (0,0)):=(hg.block bs hbs h6.symm).trans hcs;have hne:tr'.ownBlock≠some bs:=by
  rcases hb with hb |hb
  ·rw [hb];exact h6
  ·rw [hb];intro h;injection h with h;omega
 have ht:=ak w9 bs 256 tr';refine⟨cs.setIfInBounds 256 tr',tr',heap_setCell_same w9 bs 256 _ _ tr' nM,by simp [h2],?_,ho.turn ht (fun g hg h=>hne (by rw [hg,h])),h5,hne,fun c=>?_⟩
 ·rw [Array.getElem?_setIfInBounds_self];simp [h2]
 ·have hc:=c.toNat_lt;have hcs':(cs.setIfInBounds 256 tr')[c.toNat]? =cs[c.toNat]? :=by rw [Array.getElem?_setIfInBounds_ne (by omega)]
  rw [hcs'];refine⟨(h7 c).1,fun u hu=>?_⟩;obtain⟨g,k,a1,a0,a2,a3,a4,a7⟩:=(h7 c).2 u hu;refine⟨g,k,a1,a0,by simp only [World.size_setCell];exact Nat.lt_of_lt_of_le a2 hg.size,a3,?_,fun j hj=>?_⟩
  ·rcases hb with hb |hb
   ·rw [hb];exact a4
   ·rw [hb];intro h;injection h with h;omega
  ·rw [World.cell?_setCell_other _ _ _ _ (by intro h;have:=congrArg Addr.block h;simp at this;omega)];have:w9.cell? ⟨g,j,none⟩=w.cell? ⟨g,j,none⟩:=by simp only [World.cell?,hg.block g a2 a4.symm]
   rw [this];exact a7 j hj
theorem FU.put {w:World}{base bs:Nat}{m:List Bt}{l:List (UInt8 ×Bt)}(h:FU w base bs m l)(c:UInt8)(u:Bt)(hl:l.lookup c=none){w':World}(hb:Below w.heap.size w w'){k:Nat}
  (hlt:w.heap.size<w'.heap.size) (hc:∀(j:Nat) (hj:j<u.length),w'.cell? ⟨w.heap.size,j,none⟩=some (.int .u8 (u[j].toNat:Int))):
  FU (w'.setCell ⟨bs,c.toNat,none⟩ (.slice (some ⟨w.heap.size,0,none⟩) u.length k)) base bs m (l++[(c,u)]):=by
 have h':=h.below hb;obtain⟨cs0,tr0,g1,_,g3,g4,_,_,_⟩:=h;have hbs:bs<w.heap.size:=block_lt g1;obtain⟨cs,tr,h1,h2,h3,h4,h5,h6,h7⟩:=h';have hsame:some (Obj.cells cs 294 (0,0))=some (Obj.cells cs0 294 (0,0)):=by rw [<-h1,<-g1,hb.block bs hbs]
 injection hsame with hsame;injection hsame with hsame;subst hsame;rw [h3]at g3;injection g3 with g3;subst g3;have hcl:=c.toNat_lt;have ht:=ak w' bs c.toNat (.slice (some ⟨w.heap.size,0,none⟩) u.length k);refine⟨cs.setIfInBounds c.toNat (.slice (some ⟨w.heap.size,0,none⟩) u.length k),tr,heap_setCell_same w' bs c.toNat _ _ _ h1,by simp [h2],?_,h4.turn ht (fun g hg h=>h6 (by rw [hg,h])),h5,h6,fun d=>?_⟩
 ·rw [Array.getElem?_setIfInBounds_ne (by omega)];exact h3
 ·have hd:=d.toNat_lt;rw [List.lookup_append];by_cases hcd:d=c
  ·subst hcd;rw [hl];have:List.lookup d [(d,u)]=some u:=by simp [List.lookup]
   rw [this];constructor
   ·intro h;simp at h
   intro u' hu';simp at hu';subst hu';refine⟨w.heap.size,k,?_,by omega,by simp only [World.size_setCell];exact hlt,by omega,fun h=>?_,fun j hj=>?_⟩
   ·rw [Array.getElem?_setIfInBounds_self];simp [h2];omega
   ·have:=(g4.lt _ h).2;omega
   ·rw [World.cell?_setCell_other _ _ _ _ (by intro h;have:=congrArg Addr.block h;simp at this;omega)];exact hc j hj
  ·have hdc:(d==c)=false:=by rw [beq_eq_false_iff_ne];exact hcd
   have hno:List.lookup d [(c,u)]=none:=by simp [List.lookup,hdc]
   rw [hno,Option.or_none];have hcs':(cs.setIfInBounds c.toNat (.slice (some ⟨w.heap.size,0,none⟩) u.length k))[d.toNat]? =cs[d.toNat]? :=by
    rw [Array.getElem?_setIfInBounds_ne (by intro h;exact hcd (UInt8.toNat_inj.1 h.symm))]
   rw [hcs'];refine⟨(h7 d).1,fun u' hu'=>?_⟩;obtain⟨g,k',a1,a0,a2,a3,a4,a7⟩:=(h7 d).2 u' hu';refine⟨g,k',a1,a0,by simp only [World.size_setCell];exact a2,a3,a4,fun j hj=>?_⟩;rw [World.cell?_setCell_other _ _ _ _ (by intro h;have:=congrArg Addr.block h;simp at this;omega)];exact a7 j hj
theorem Eu {w:World}{base:Nat}{e:TypeId}{v:Value}{m:List Bt}(h:iq w base e v m)(hm:0<m.length):∃g c n,v=.slice (some ⟨g,0,none⟩) n c:=by
 obtain⟨g,c,hv,_⟩:=jo h.row hm;exact⟨g,c,_,hv⟩
theorem afH (c:UInt8):(adt.lookup c=none∧Yn c=[c]∧c.toNat≠9∧c.toNat≠10∧c.toNat≠34∧c.toNat≠92)∨(∃a b,adt.lookup c=some [a,b]∧Yn c=[a,b]∧(c=9∨c=10∨c=34∨c=92)):=by
 by_cases h1:c=9
 ·subst h1;exact .inr ⟨92,116,rfl,rfl,.inl rfl⟩
 ·by_cases h2:c=10
  ·subst h2;exact .inr ⟨92,110,rfl,rfl,.inr (.inl rfl)⟩
  ·by_cases h3:c=34
   ·subst h3;exact .inr ⟨92,34,rfl,rfl,.inr (.inr (.inl rfl))⟩
   ·by_cases h4:c=92
    ·subst h4;exact .inr ⟨92,92,rfl,rfl,.inr (.inr (.inr rfl))⟩
    ·have e1:c.toNat≠9:=fun h=>h1 (UInt8.toNat_inj.1 h);have e2:c.toNat≠10:=fun h=>h2 (UInt8.toNat_inj.1 h);have e3:c.toNat≠34:=fun h=>h3 (UInt8.toNat_inj.1 h);have e4:c.toNat≠92:=fun h=>h4 (UInt8.toNat_inj.1 h);refine .inl ⟨?_,?_,e1,e2,e3,e4⟩
     ·simp [adt,List.lookup,beq_eq_false_iff_ne.2 h1,beq_eq_false_iff_ne.2 h2,beq_eq_false_iff_ne.2 h3,beq_eq_false_iff_ne.2 h4]
     ·unfold Yn;rw [if_neg e4,if_neg e3,if_neg e2,if_neg e1]
def adu (s:Bt):Nat:=(s.map fun c=>if(adt.lookup c).isSome then 1 else 0).sum
theorem Le (c:UInt8)(s:Bt):adu (c :: s)=(if(adt.lookup c).isSome then 1 else 0)+adu s:=rfl
theorem afI (s:Bt):adu s<=s.length:=by
 induction s with
 |nil=>simp [adu]
 |cons c s ih=>rw [Le,List.length_cons];split <;> omega
theorem afJ (s:Bt):(s.flatMap Yn).length=s.length+adu s:=by
 induction s with
 |nil=>rfl
 |cons c s ih=>
  rw [List.flatMap_cons,List.length_append,ih,Le,List.length_cons];rcases afH c with⟨h1,h2,_⟩ |⟨a,b,h1,h2,_⟩
  ·rw [h1,h2];simp;omega
  ·rw [h1,h2];simp;omega
theorem FU.turn {w w':World}{base bs b:Nat}{m:List Bt}{l:List (UInt8 ×Bt)}(h:FU w base bs m l)(ht:Turn (fun k=>k=b) w w')(hb:b<base):FU w' base bs m l:=by
 obtain⟨cs,tr,h1,h2,h3,h4,h5,h6,h7⟩:=h;refine⟨cs,tr,(ht.block (block_lt h1) (by omega)).trans h1,h2,h3,h4.turn ht (fun g hg h=>by have:=(h4.lt g hg).1;omega),h5,h6,fun c=>⟨(h7 c).1,fun u hu=>?_⟩⟩;obtain⟨g,k,a1,a0,a2,a3,a4,a7⟩:=(h7 c).2 u hu;refine⟨g,k,a1,a0,Nat.lt_of_lt_of_le a2 ht.size,a3,a4,fun j hj=>?_⟩;have:w'.cell? ⟨g,j,none⟩=w.cell? ⟨g,j,none⟩:=by simp only [World.cell?,ht.block a2 (show ¬g=b by omega)]
 rw [this];exact a7 j hj
end Go.Proofs.YtncnnedlgofccaaGreatDoor
