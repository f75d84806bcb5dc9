/- GG, FA -/
import Derived.Test.YtfgjkmipfikooaaGreatDoorTEQ
import Derived.Test.YtfgjkmipfikooaaGreatDoorTE04
import Derived.Test.YtfgjkmipfikooaaGreatDoorTE01
import Derived.Laws.Rows
import Derived.Test.YtfgjkmipfikooaaGreatDoorTE02
import Derived.Test.YtfgjkmipfikooaaGreatDoorTE03
set_option linter.unusedSimpArgs false
set_option linter.unusedVariables false
set_option maxRecDepth 100000
set_option maxHeartbeats 8000000
namespace Go.Proofs.YtfgjkmipfikooaaGreatDoor
open Go.RowKit
section
open Go.Maps (has IsMap Keyed)
theorem Ug {a b a' b':UInt8}(h:wF a b=wF a' b'):a=a'∧b=b':=by
 unfold wF at h;injection h with h;injection h with h;injection h with h1 h2;injection h2 with h2 _;injection h1 with _ h1;injection h2 with _ h2;exact⟨UInt8.toNat_inj.1 (by omega),UInt8.toNat_inj.1 (by omega)⟩
theorem Uh {D:DataW Unit}{l:List Bt}(hD:IsMap D)(h:El D l){a b:UInt8}{kl:Lit}(hk:keyOf Tryz.prog 224 (wF a b)=some kl):El (D.put kl (.lit (.bool true))) (l++[[a,b]]):=by
 intro a' b' kl' hk' z;by_cases he:kl'=kl
 ·subst he;obtain⟨rfl,rfl⟩:=Ug (zU.inj hk' hk);rw [Maps.atKey_put_same hD (zU.key hk),if_pos (by simp)]
 ·have hne:[a',b']≠[a,b]:=by
   intro e;injection e with e1 e2;injection e2 with e2 _;subst e1 e2;rw [hk']at hk;exact he (Option.some.inj hk)
  rw [Maps.atKey_put_other he,h a' b' kl' hk' z];by_cases hin:[a',b']∈l
  ·rw [if_pos hin,if_pos (List.mem_append_left _ hin)]
  ·rw [if_neg hin,if_neg (by simp only [List.mem_append,List.mem_singleton];rintro(h1 |h1);exact hin h1;exact hne h1)]
theorem Ll:El (.map []) []:=fun _ _ _ _ z=>rfl
theorem Lm {H:Type}{P:Program}{ops:Array Oper}{o:Oper}{a:Act}{w:World}{K:Act->World->Prop}{Q:Exit->Act->World->Prop}{E:Prop}
  (hg:o.guard=none) (m x v:Operand) (t:TypeId) (hop:o.op=Op.mapUpdate t m x v)
  (k e:TypeId) (Kd:Keyed P k) (ht:P.underlying t=some (.map k e)) (R:Value->Option (DataW H ×List MemPlace)) (b n:Nat) (D:DataW H)
  (hm:a.eval m=.map (some b)) (hown:w.ownsMap P k R b n D) (hn:n<maxLen) (key val:Value) (kl:Lit) (hx:a.eval x=key) (hv:a.eval v=val) (hkey:keyOf P k key=some kl)
  (d:DataW H) (ps:List MemPlace) (hval:R val=some (d,ps))
  (hK:∀w',w'.ownsMap P k R b (n+1) (D.put kl d)->w.grownBy w' (some b)->K (a.put o.dst undef) w'):
  if Region.wanted o (yielded ops a.tmps)=true then Oper.wp P o a w K Q else E:=by
 have hw:Region.wanted o (yielded ops a.tmps)=true:=by simp [Region.wanted,hg]
 rw [if_pos hw];obtain⟨w',hrun,r1,r2⟩:=hown.update Kd ht hn hkey hval;unfold Oper.wp;simp [execOp,hop,hm,hx,hv,hrun,Result.andThen];exact hK w' r1 r2
theorem Ui (w:World):Calls Tryz.prog 145 #[] w fun e w'=>∃bp,e=.returned (.map (some bp))∧w.heap.size<=bp∧lu w' bp cu∧Below w.heap.size w w':=by
 have hmm:= @run_makeMap Tryz.prog;have h8:cu.length=8:=rfl;go_enter Tryz.func145,Tryz.ntmps145;go_wp2_with fail;have s1:(w.alloc (.map #[] 0)).heap.size=w.heap.size+1:=by simp
 have hss:Ss ((w.alloc (.map #[] 0)).alloc (.cells (pU cu).toArray 9)) (w.heap.size+2) (.slice (some ⟨w.heap.size+1,0,none⟩) 8 8) cu:=by
  have:=gX (w.alloc (.map #[] 0)) (pU cu).toArray 9 1 8 (by simp [eX,h8]) (by decide);rw [s1]at this;simpa [Ss]using this
 have hmap:lu ((w.alloc (.map #[] 0)).alloc (.cells (pU cu).toArray 9)) w.heap.size []:=
  ⟨0,.map [],Nat.zero_le _,(World.ownsMap_made w _ _ _).alloc _,Ll⟩
 have hB:Below w.heap.size w ((w.alloc (.map #[] 0)).alloc (.cells (pU cu).toArray 9)):=((Below.refl _ _).alloc (Nat.le_refl _) _).alloc (by simp) _;have hsz:((w.alloc (.map #[] 0)).alloc (.cells (pU cu).toArray 9)).heap.size=w.heap.size+2:=by simp
 have hw2:∃w2,w2=((w.alloc (.map #[] 0)).alloc (.cells (pU cu).toArray 9)):=⟨_,rfl⟩
 obtain⟨w2,hw2⟩:=hw2;rw [<-hw2]at hss hmap hB hsz;have WA:((w.alloc (.map #[] 0)).alloc (.cells #[.string { data:= #[45,62]},.string { data:= #[61,62]},.string { data:= #[60,58]},.string { data:= #[60,60]},.string { data:= #[60,61]},.string { data:= #[62,62]},.string { data:= #[61,61]},.string { data:= #[43,43]}] 9))=w2:=by rw [hw2];rfl
 rw [WA];clear hw2 WA;go_loopw [7] (fun v7 wr=>∃k:Nat,v7=.int .i64 k∧k<=8∧lu wr w.heap.size (cu.take k)∧Turn (fun j=>j=w.heap.size) w2 wr) (fun v7 _=>8 - (intOf v7).toNat)
 case atStart=>exact⟨0,rfl,by omega,hmap,Turn.refl _ _⟩
 case round=>
  obtain⟨k,rfl,hk,⟨n,D,hn,hown,hD⟩,htr⟩:=hrel;by_cases hlt:k<8
  ·obtain⟨A,c,hA,_,_,hx⟩:=hss.open_;obtain⟨b0,o0,hA2,hb0,hcell⟩:=hx (by decide);rw [hA2]at hA;simp only [Value.slice.injEq,Option.some.injEq,Addr.mk.injEq,and_true]at hA;obtain⟨⟨rfl,rfl⟩,ajB⟩:=hA;clear ajB;have d1:=Lf htr (by omega) (by omega) (hcell k (by rw [h8];exact hlt));rw [Nat.zero_add]at d1;have hnext:cu.take (k+1)=cu.take k++[cu[k]'(by rw [h8];exact hlt)]:=List.take_succ_eq_append_getElem _;have h2:(cu[k]'(by rw [h8];exact hlt)).length=2:=by
    have hall:∀m∈cu,m.length=2:=by decide
    exact hall _ (List.getElem_mem _)
   have hnl:(cu.take k).length=k:=by rw [List.length_take,h8];omega
   generalize(cu[k]'(by rw [h8];exact hlt))=m at*
   obtain⟨a,b,rfl⟩:∃a b,m=[a,b]:=by
    match m,h2 with
    | [a,b],_=>exact⟨a,b,rfl⟩
   have hix:=dW [a,b] 0 (by simp);have ajA:=dW [a,b] 1 (by simp);have avR:=bZ [a,b];obtain⟨kl,hkl⟩:=Li a b;have HKL:=aZ hkl;have apq:=aZ (Uh hown.isMap hD hkl);have Hy:=aZ hnext;have DU:=aZ hss;clear hss hmap hcell hx hkl hnext h8;go_wp2_with fail;refine wp_region_held_drew (S:=fun _=>True) (by kernel_rfl) trivial (fun _=>?_)
   try simp only [Act.put,sq]
   refine wpAnyH_take (i:=0) (v:=(.map (some w.heap.size))) rfl (by kernel_rfl) (by kernel_rfl) (by kernel_rfl) (fun _ _ _ h=>h) (Or.inl ⟨by kernel_rfl,by intro w hSw;go_simp⟩) trivial ?_
   try simp only [Act.put,sq]
   refine wpAnyH_take (i:=1) (v:=(sv [a,b])) rfl (by kernel_rfl) (by kernel_rfl) (by kernel_rfl) (fun _ _ _ h=>h) (Or.inl ⟨by kernel_rfl,by intro w hSw;go_simp⟩) trivial ?_
   try simp only [Act.put,sq]
   refine wpAnyH_take (i:=2) (v:=(.int .u8 (a.toNat:Int))) rfl (by kernel_rfl) (by kernel_rfl) (by kernel_rfl) (fun _ _ _ h=>h) (Or.inl ⟨by kernel_rfl,by intro w hSw;go_simp⟩) trivial ?_
   try simp only [Act.put,sq]
   refine wpAnyH_take (i:=3) (v:=(sv [a,b])) rfl (by kernel_rfl) (by kernel_rfl) (by kernel_rfl) (fun _ _ _ h=>h) (Or.inl ⟨by kernel_rfl,by intro w hSw;go_simp⟩) trivial ?_
   try simp only [Act.put,sq]
   refine wpAnyH_take (i:=4) (v:=(.int .u8 (b.toNat:Int))) rfl (by kernel_rfl) (by kernel_rfl) (by kernel_rfl) (fun _ _ _ h=>h) (Or.inl ⟨by kernel_rfl,by intro w hSw;go_simp⟩) trivial ?_
   try simp only [Act.put,sq]
   refine wpAnyH_take (i:=5) (v:=(.agg #[.int .u8 (a.toNat:Int),.int .u8 (b.toNat:Int)])) rfl (by kernel_rfl) (by kernel_rfl) (by kernel_rfl) (fun _ _ _ h=>h) (Or.inl ⟨by kernel_rfl,by intro w hSw;go_simp⟩) trivial ?_
   try simp only [Act.put,sq]
   refine wpAnyH_ready (rs:=[6]) (by kernel_rfl) (by simp) ?_;refine AllReadyH.cons rfl (fun K hK=>?_) AllReadyH.nil;refine Lm rfl _ _ _ 196 rfl 224 4 zU Tryz.underlying196 (plainElem Tryz.prog 4) w.heap.size n D rfl (w:=wr.drew) hown (by unfold maxLen;omega) (wF a b) _ kl rfl rfl HKL.o (.lit (.bool true)) [] (plainElem_bool Tryz.underlying4 true) (fun w6 hown6 agy=>?_);refine hK.out _ _ trivial (fun _=>?_);clear hK K
   try simp only [Act.put,sq]
   refine wpAnyH_done (by kernel_rfl) ?_ _;have ht6:Turn (fun j=>j=w.heap.size) wr w6:=(Turn.drewN (fun j=>j=w.heap.size) wr 1).trans (Turn.bB (F:=fun j=>j=w.heap.size) agy (fun j h=>by injection h with h;exact h.symm)) (fun _ _ h=>h);go_wp2_with fail
   go_roundw
   case rel=>exact⟨k+1,rfl,by omega,⟨n+1,_,by rw [Hy.o,List.length_append];simp only [List.length_cons,List.length_nil];omega,hown6,by rw [Hy.o];exact apq.o⟩,htr.trans ht6 (fun _ _ h=>h)⟩
   case measure=>simp [intOf];omega
  ·obtain rfl:k=8:=by omega
   have hfin:lu wr w.heap.size cu:=⟨n,D,by have:=hn;simpa [h8]using this,hown,hD⟩
   have hB9:Below w.heap.size w wr:=hB.trans (htr.below hB.size (fun j hj e=>by omega));clear hss hmap hown hD;go_wp2_with fail;go_ret;exact⟨_,rfl,Nat.le_refl _,hfin,hB9⟩
def ny (t:aI):List Value:=[.int .i64 t.kind,sv t.text,.int .i64 t.line,.int .i64 t.col]
def dw (l:List aI):List Value:=l.flatMap ny
theorem lC (l:List aI):(dw l).length=l.length*4:=by
 induction l with
 |nil=>rfl
 |cons t l ih=>
  have h:dw (t :: l)=ny t++dw l:=rfl;rw [h,List.length_append,ih,List.length_cons];have:(ny t).length=4:=rfl;omega
theorem nK (l:List aI)(t:aI):dw (l++[t])=dw l++ny t:=by
 unfold dw;rw [List.flatMap_append];simp
theorem EY:ng Tryz.prog 142 154 (.agg #[.int .i64 0,sv [],.int .i64 0,.int .i64 0]) 4 40:=⟨Tryz.underlying142,by kernel_rfl,rfl,by decide⟩
def lexB (f:Nat)(s1:Bt)(p1:Nat ×Nat)(out:List aI):List aI ×(Nat ×Nat ×Int):=
 if s1=[]then(out++[⟨0,[],p1.1,p1.2⟩],(0,0,0))else
 match dV s1 with
 |.inl e=>([],(p1.1,p1.2,e))
 |.inr (kd,t,n)=>if out.length=8192 then([],(p1.1,p1.2,19))else oF f (s1.drop n) (fK p1 (s1.take n)) (out++[⟨kd,t,p1.1,p1.2⟩])
theorem Uj (f:Nat)(s:Bt)(p:Nat ×Nat)(out:List aI):oF (f+1) s p out=lexB f (s.drop (bJ s)) (fK p (s.take (bJ s))) out:=rfl
structure Lp (base bd bl bp N:Nat) (ans:List aI ×(Nat ×Nat ×Int)) (wr:World) (f:Nat) (s1:Bt) (p1:Nat ×Nat) (dO:Value) (out:List aI):Prop where
 diag:wr.heap[bd]? =some (.cells #[.int .i64 0,.int .i64 0,.int .i64 0,.int .i64 0] 45 (0,0))
 lex:eB wr bl bp s1 p1 dO
 pairs:lu wr bp cu
 row:wr.ownsRow 0 154 4 dO out.length (dw out)
 fuel:s1.length<=f
 eq:lexB f s1 p1 out=ans
 b1:p1.1+s1.length<=N
 b2:p1.2+s1.length<=N
 b3:1<=p1.2
 Uk:out.length<=8192
 hd:base<=bd
 hl:base<=bl
 hp:base<=bp
 dl:bd≠bl
 dp:bd≠bp
 lp:bl≠bp
 fo:∀g,dO.ownBlock=some g->base<=g∧g≠bd∧g≠bl∧g≠bp
theorem Lp.below {base bd bl bp N:Nat}{ans:List aI ×(Nat ×Nat ×Int)}{w w':World}{f:Nat}{s1:Bt}{p1:Nat ×Nat}{dO:Value}{out:List aI}(h:Lp base bd bl bp N ans w f s1 p1 dO out)(hb:Below w.heap.size w w'):Lp base bd bl bp N ans w' f s1 p1 dO out:=
 { h with
  diag:=ah h.diag (Turn.of_below (F:=fun _=>False) hb) id
  lex:=h.lex.turn (Turn.of_below (F:=fun _=>False) hb) id
  pairs:=h.pairs.turn (Turn.of_below (F:=fun _=>False) hb) id
  row:=own_below h.row hb}
theorem Lp.next {base bd bl bp N:Nat}{ans:List aI ×(Nat ×Nat ×Int)}{w w':World}{f:Nat}{s1:Bt}{p1:Nat ×Nat}{dO Rb:Value}{out:List aI}(h:Lp base bd bl bp N ans w f s1 p1 dO out)
  {kd:Int}{t:Bt}{n:Nat}(hn:dV s1=.inr (kd,t,n)) (ho:out.length≠8192)
  (hrow:w'.ownsRow 0 154 4 Rb (out.length+1) (dw out++ny ⟨kd,t,p1.1,p1.2⟩)) (hfo:∀g,Rb.ownBlock=some g->base<=g∧g≠bd∧g≠bl∧g≠bp)
  (ajC:w'.heap[bd]? =some (.cells #[.int .i64 0,.int .i64 0,.int .i64 0,.int .i64 0] 45 (0,0))) (agz:lu w' bp cu)
  (hlex:eB w' bl bp ((s1.drop n).drop (bJ (s1.drop n))) (fK (fK p1 (s1.take n)) ((s1.drop n).take (bJ (s1.drop n)))) Rb):
  ∃f' s2 p2 out',Lp base bd bl bp N ans w' f' s2 p2 Rb out'∧s2.length<s1.length:=by
 obtain⟨n1,n2⟩:=zM hn;have hne:s1≠[]:=by intro e;subst e;simp at n2;omega
 have hf:=h.fuel;obtain⟨f',rfl⟩:∃f',f=f'+1:=⟨f - 1,by omega⟩
 have heq:=h.eq;unfold lexB at heq;rw [if_neg hne,hn]at heq;simp only at heq;rw [if_neg ho,Uj]at heq;have l1:=nO (s1.take n) h.b3;rw [List.length_take,Nat.min_eq_left n2]at l1;have hsk:=zL false (s1.drop n);have ajD:bJ (s1.drop n)<=s1.length - n:=by rw [List.length_drop]at hsk;exact hsk
 have l2:=nO ((s1.drop n).take (bJ (s1.drop n))) l1.2.2;have hb1:=h.b1;have hb2:=h.b2;have hol:=h.Uk;have ht:((s1.drop n).take (bJ (s1.drop n))).length=bJ (s1.drop n):=by rw [List.length_take,List.length_drop];omega
 rw [ht]at l2;have hlen:((s1.drop n).drop (bJ (s1.drop n))).length=s1.length - n - bJ (s1.drop n):=by rw [List.length_drop,List.length_drop]
 refine⟨f',_,_,out++[⟨kd,t,p1.1,p1.2⟩],⟨ajC,hlex,agz,?_,by rw [hlen];omega,heq,by rw [hlen];omega,by rw [hlen];omega,l2.2.2,by simp;omega,h.hd,h.hl,h.hp,h.dl,h.dp,h.lp,hfo⟩,by rw [hlen];omega⟩;rw [nK,List.length_append];exact hrow
theorem eO {P:Program}{fn:Func}{t0 p:Tmp}{ty:TypeId}(h:fn.results= #[.tmp t0,.cell p ty])(tmps:Array Value)(w:World)(g:Nat)(t:TypeId)(cs:Array Value)(fr:Nat ×Nat)(d:TypeDesc)
  (hp:tmps.getD p undef=.pointer (some ⟨g,0,none⟩)) (hg:w.heap[g]? =some (.cells cs t fr))
  (hu:P.underlying ty=some d) (hd:(match d with |.struct _ |.array _ _=>true |_=>false)=true) (hi:(P.info? ty).map (·.size)=some cs.size):
  (results fn tmps).run P w=.ok (.tuple #[tmps.getD t0 undef,.agg cs]) w:=by
 have hp':tmps[p]?.getD undef=.pointer (some ⟨g,0,none⟩):=by simpa using hp
 simp [results,h,hp',asAddr,run_loadVar_row w g t ty cs fr d hg hu hd hi,Result.andThen]
theorem WB {w:World}{base:Nat}{e:TypeId}{k n:Nat}{v:Value}{xs:List Value}(h:w.ownsRow 0 e k v n xs)(hb:∀g,v.ownBlock=some g->base<=g):w.ownsRow base e k v n xs:=by
 refine⟨h.1,?_⟩;rcases h.2 with h2 |⟨g,cap,cur,hv,_,r⟩
 ·exact .inl h2
 ·exact .inr ⟨g,cap,cur,hv,hb g (by subst hv;rfl),r⟩
abbrev JO (w:World)(b:Nat)(v0 v1 v2 v3:Value):World:=(((w.setCell ⟨b,0,none⟩ v0).setCell ⟨b,1,none⟩ v1).setCell ⟨b,2,none⟩ v2).setCell ⟨b,3,none⟩ v3
theorem sP (w:World)(b:Nat)(v0 v1 v2 v3:Value):Turn (fun k=>k=b) w (JO w b v0 v1 v2 v3):=
 (((ak w b 0 v0).trans (ak _ b 1 v1) (fun _ _ h=>h)).trans (ak _ b 2 v2) (fun _ _ h=>h)).trans (ak _ b 3 v3) (fun _ _ h=>h)
theorem dF {w:World}{b:Nat}{a0 a1 a2 a3:Value}{t:TypeId}(h:w.heap[b]? =some (.cells #[a0,a1,a2,a3] t (0,0)))(v0 v1 v2 v3:Value):(JO w b v0 v1 v2 v3).heap[b]? =some (.cells #[v0,v1,v2,v3] t (0,0)):=
 heap_setCell_same _ b 3 _ _ v3 (heap_setCell_same _ b 2 _ _ v2 (heap_setCell_same _ b 1 _ _ v1 (heap_setCell_same w b 0 _ _ v0 h)))
theorem bE {w:World}{b:Nat}{cs:Array Value}{t:TypeId}(h:w.heap[b]? =some (.cells cs t (0,0)))(i:Nat):w.frozen? ⟨b,i,none⟩=false:=by
 simp [World.frozen?,h]
theorem zW (t:aI):∀u∈ny t,u.oneCell'=true:=by
 intro u hu;simp [ny]at hu;rcases hu with rfl |rfl |rfl |rfl <;> rfl
def C8 (d:Nat ×Nat ×Int):Value:= .agg #[.int .i64 0,.int .i64 d.1,.int .i64 d.2.1,.int .i64 d.2.2]
def Rc (ans:List aI ×(Nat ×Nat ×Int))(w:World)(e:Ending)(w':World):Prop:=
 ∃v n,e=.returned (.tuple #[v,C8 ans.2])∧w'.ownsRow w.heap.size 154 4 v n (dw ans.1)∧Below w.heap.size w w'
def WC (w:World)(bd bl bp N:Nat)(ans:List aI ×(Nat ×Nat ×Int))(wr:World):Prop:=
 Below w.heap.size w wr∧∃f s1 p1 dO out,Lp w.heap.size bd bl bp N ans wr f s1 p1 dO out
theorem JR (w:World)(s:Bt)(hX:mK w):Calls Tryz.prog 86 #[sv s] w fun e w'=>Rc (fQ s) w e w':=by
 have hmm:= @run_makeMap Tryz.prog;have hsz:=bZ s;by_cases hlong:65536<s.length
 ·have ha:fQ s=([],(1,1,2)):=by unfold fQ;rw [if_pos hlong]
  rw [ha];go_enter Tryz.func86,Tryz.ntmps86;go_wp2_with fail;refine bodyPost_ret (eO rfl _ _ w.heap.size _ _ _ _ rfl (heap_alloc_new w _) Tryz.underlying45 rfl (by kernel_rfl)) rfl ?_;exact⟨_,0,rfl,World.ownsRow_nil _ _ _ _,(Below.refl _ _).alloc (Nat.le_refl _) _⟩
 ·have ha:fQ s=lexB s.length (s.drop (bJ s)) (fK (1,1) (s.take (bJ s))) []:=by unfold fQ;rw [if_neg hlong];rfl
  rw [ha];clear ha;generalize uK:lexB s.length (s.drop (bJ s)) (fK (1,1) (s.take (bJ s))) []=ans;go_enter Tryz.func86,Tryz.ntmps86;go_wp2_with fail;refine(Ui _).mono ?_;rintro e w2 ⟨bp,rfl,hbp,hP,hb2⟩;have s1:(w.alloc (.cells #[.int .i64 0,.int .i64 0,.int .i64 0,.int .i64 0] 45)).heap.size=w.heap.size+1:=by simp
  have hd1:=heap_alloc_new w (.cells #[.int .i64 0,.int .i64 0,.int .i64 0,.int .i64 0] 45);have hb1:Below w.heap.size w (w.alloc (.cells #[.int .i64 0,.int .i64 0,.int .i64 0,.int .i64 0] 45)):=(Below.refl _ _).alloc (Nat.le_refl _) _;have apr:bp<w2.heap.size:=by obtain⟨_,_,_,h,_⟩:=hP;exact h.lt
  have hd2:=ah hd1 (Turn.of_below (F:=fun _=>False) hb2) id;have hB2:=hb1.trans (hb2.mono hb1.size);rw [s1]at hbp hb2;have hs2:=hb2.size;rw [s1]at hs2;clear hd1 hb1 hb2;have hL3:eB (w2.alloc (.cells #[sv s,.int .i64 1,.int .i64 1,.map (some bp),.slice none 0 0] 199)) w2.heap.size bp s (1,1) (.slice none 0 0):=heap_alloc_new w2 _;have t3:=Turn.alloc (fun _=>False) w2 (.cells #[sv s,.int .i64 1,.int .i64 1,.map (some bp),.slice none 0 0] 199);have hB3:Below w.heap.size w (w2.alloc (.cells #[sv s,.int .i64 1,.int .i64 1,.map (some bp),.slice none 0 0] 199)):=hB2.alloc hB2.size _;go_wp2_with fail;refine(y8 _ w2.heap.size bp s (1,1) _ hL3 (by omega) (by simp) (Nat.le_refl _)).mono ?_;rintro e w4 ⟨rfl,hL4,t4⟩;have t24:=(t3.mono (G:=fun k=>k=w2.heap.size) (fun _ _ h=>h.elim)).trans t4 (fun _ _ h=>h);have hB4:Below w.heap.size w w4:=hB3.trans (t4.below hB3.size (fun k hk e=>by omega));have hsk:=zL false s;have ajD:bJ s<=s.length:=hsk;have agA:=nO (p:=(1,1)) (s.take (bJ s)) (Nat.le_refl _);have htl:(s.take (bJ s)).length=bJ s:=by rw [List.length_take];omega
  have hdl:(s.drop (bJ s)).length=s.length - bJ s:=List.length_drop;rw [htl]at agA
  have hR0:Lp w.heap.size w.heap.size w2.heap.size bp (1+s.length) ans w4 s.length (s.drop (bJ s)) (fK (1,1) (s.take (bJ s))) (.slice none 0 0) []:=
   ⟨ah hd2 t24 (by omega),hL4,hP.turn t24 (by omega),World.ownsRow_nil _ _ _ _,by omega,uK,by omega,by omega,agA.2.2,Nat.zero_le _,Nat.le_refl _,by omega,by omega,by omega,by omega,by omega,fun g hg=>by simp [Value.ownBlock]at hg⟩
  have adu:WC w w.heap.size w2.heap.size bp (1+s.length) ans w4:=⟨hB4,_,_,_,_,_,hR0⟩
  have hN:1+s.length<=70000:=by omega
  clear hR0 hL4 hL3 t3 t4 t24 hB3 hB4 hsk ajD agA htl hdl hd2 hB2 hP hbp hs2 s1 uK apr;generalize hbl:w2.heap.size=bl at*
  generalize 1+s.length=N at*
  go_wp2_with fail;go_loopw [8] (fun _ wr=>WC w w.heap.size bl bp N ans wr) (fun _ wr=>textOf wr bl)
  case atStart=>exact adu
  case round=>
   obtain⟨hB,f,s1,p1,dO,out,hR⟩:=hrel;clear adu;have c0:=hR.lex.c0;have c1:=hR.lex.c1;have c2:=hR.lex.c2;have c4:=hR.lex.c4;have hlen:=sO hR.lex;have aps:=hR.lex.lt;have hdl:=block_lt hR.diag;have hS0:wr.drew.cell? ⟨bl,1,none⟩=some (.int .i64 p1.1)∧wr.drew.cell? ⟨bl,2,none⟩=some (.int .i64 p1.2)∧wr.drew.cell? ⟨bl,4,none⟩=some dO:=⟨c1,c2,c4⟩
   have Lr:∀w':World,eB w' bl bp s1 p1 dO->w'.cell? ⟨bl,1,none⟩=some (.int .i64 p1.1)∧w'.cell? ⟨bl,2,none⟩=some (.int .i64 p1.2)∧w'.cell? ⟨bl,4,none⟩=some dO:=fun w' h=>⟨h.c1,h.c2,h.c4⟩
   cases s1 with
   |nil=>
    have HA:=aZ (show ans=(out++[⟨0,[],p1.1,p1.2⟩],(0,0,0))from hR.eq.symm);go_wp2_with fail;have JU:Below wr.heap.size wr (wr.drew.alloc (.cells #[.int .i64 0,sv [],.int .i64 p1.1,.int .i64 p1.2] 154)):=(aP wr 1).alloc (Nat.le_refl _) _;have hL8:=hR.lex.turn (Turn.of_below (F:=fun _=>False) JU) id;have hD8:=ah hR.diag (Turn.of_below (F:=fun _=>False) JU) id;have fM:=own_below hR.row JU;have WE:=hR.pairs.turn (Turn.of_below (F:=fun _=>False) JU) id;have BL:Sl (wr.drew.alloc (.cells #[.int .i64 0,sv [],.int .i64 p1.1,.int .i64 p1.2] 154)) (wr.heap.size+1) 4 (.slice (some ⟨wr.heap.size,0,none⟩) 1 1) (ny ⟨0,[],p1.1,p1.2⟩):=gX wr.drew _ _ 4 1 rfl (by decide);have h63:out.length*4+(ny ⟨0,[],p1.1,p1.2⟩).length<=maxLen:=by have:=hR.Uk;show out.length*4+4<=maxLen;unfold maxLen;omega
    have hbytes:(out.length*4+(ny ⟨0,[],p1.1,p1.2⟩).length)*40<=140737488355328:=by have:=hR.Uk;show(out.length*4+4)*40<= _;omega
    generalize hw8:wr.drew.alloc (.cells #[.int .i64 0,sv [],.int .i64 p1.1,.int .i64 p1.2] 154)=w8 at*
    have hS8:=Lr w8 hL8;refine wp_region_held_drew (S:=fun w'=>w'.cell? ⟨bl,1,none⟩=some (.int .i64 p1.1)∧w'.cell? ⟨bl,2,none⟩=some (.int .i64 p1.2)∧w'.cell? ⟨bl,4,none⟩=some dO) (by kernel_rfl) hS0 (fun _=>?_)
    try simp only [Act.put,sq]
    refine wpAnyH_take (i:=0) (v:=(.pointer (some ⟨bl,0,none⟩))) rfl (by kernel_rfl) (by kernel_rfl) (by kernel_rfl) (fun _ _ _ h=>h) (Or.inl ⟨by kernel_rfl,by intro w hSw;obtain⟨gM,gN,gP⟩:=hSw;go_simp⟩) hS0 ?_
    try simp only [Act.put,sq]
    refine wpAnyH_take (i:=1) (v:=(.pointer (some ⟨bl,0,none⟩))) rfl (by kernel_rfl) (by kernel_rfl) (by kernel_rfl) (fun _ _ _ h=>h) (Or.inl ⟨by kernel_rfl,by intro w hSw;obtain⟨gM,gN,gP⟩:=hSw;go_simp⟩) hS0 ?_
    try simp only [Act.put,sq]
    refine wpAnyH_take (i:=2) (v:=(.pointer (some ⟨bl,4,none⟩))) rfl (by kernel_rfl) (by kernel_rfl) (by kernel_rfl) (fun _ _ _ h=>h) (Or.inl ⟨by kernel_rfl,by intro w hSw;obtain⟨gM,gN,gP⟩:=hSw;go_simp⟩) hS0 ?_
    try simp only [Act.put,sq]
    refine wpAnyH_take (i:=3) (v:=dO) rfl (by kernel_rfl) (by kernel_rfl) (by kernel_rfl) (fun _ _ _ h=>h) (Or.inl ⟨by kernel_rfl,by intro w hSw;obtain⟨gM,gN,gP⟩:=hSw;go_simp⟩) hS0 ?_
    try simp only [Act.put,sq]
    refine wpAnyH_take (i:=4) (v:=(.pointer (some ⟨bl,0,none⟩))) rfl (by kernel_rfl) (by kernel_rfl) (by kernel_rfl) (fun _ _ _ h=>h) (Or.inl ⟨by kernel_rfl,by intro w hSw;obtain⟨gM,gN,gP⟩:=hSw;go_simp⟩) hS0 ?_
    try simp only [Act.put,sq]
    refine wpAnyH_take (i:=5) (v:=(.pointer (some ⟨bl,0,none⟩))) rfl (by kernel_rfl) (by kernel_rfl) (by kernel_rfl) (fun _ _ _ h=>h) (Or.inl ⟨by kernel_rfl,by intro w hSw;obtain⟨gM,gN,gP⟩:=hSw;go_simp⟩) hS0 ?_
    try simp only [Act.put,sq]
    refine wpAnyH_take (i:=6) (v:=(.pointer (some ⟨bl,1,none⟩))) rfl (by kernel_rfl) (by kernel_rfl) (by kernel_rfl) (fun _ _ _ h=>h) (Or.inl ⟨by kernel_rfl,by intro w hSw;obtain⟨gM,gN,gP⟩:=hSw;go_simp⟩) hS0 ?_
    try simp only [Act.put,sq]
    refine wpAnyH_take (i:=7) (v:=(.int .i64 p1.1)) rfl (by kernel_rfl) (by kernel_rfl) (by kernel_rfl) (fun _ _ _ h=>h) (Or.inl ⟨by kernel_rfl,by intro w hSw;obtain⟨gM,gN,gP⟩:=hSw;go_simp⟩) hS0 ?_
    try simp only [Act.put,sq]
    refine wpAnyH_take (i:=8) (v:=(.pointer (some ⟨bl,0,none⟩))) rfl (by kernel_rfl) (by kernel_rfl) (by kernel_rfl) (fun _ _ _ h=>h) (Or.inl ⟨by kernel_rfl,by intro w hSw;obtain⟨gM,gN,gP⟩:=hSw;go_simp⟩) hS0 ?_
    try simp only [Act.put,sq]
    refine wpAnyH_take (i:=9) (v:=(.pointer (some ⟨bl,0,none⟩))) rfl (by kernel_rfl) (by kernel_rfl) (by kernel_rfl) (fun _ _ _ h=>h) (Or.inl ⟨by kernel_rfl,by intro w hSw;obtain⟨gM,gN,gP⟩:=hSw;go_simp⟩) hS0 ?_
    try simp only [Act.put,sq]
    refine wpAnyH_take (i:=10) (v:=(.pointer (some ⟨bl,2,none⟩))) rfl (by kernel_rfl) (by kernel_rfl) (by kernel_rfl) (fun _ _ _ h=>h) (Or.inl ⟨by kernel_rfl,by intro w hSw;obtain⟨gM,gN,gP⟩:=hSw;go_simp⟩) hS0 ?_
    try simp only [Act.put,sq]
    refine wpAnyH_take (i:=11) (v:=(.int .i64 p1.2)) rfl (by kernel_rfl) (by kernel_rfl) (by kernel_rfl) (fun _ _ _ h=>h) (Or.inl ⟨by kernel_rfl,by intro w hSw;obtain⟨gM,gN,gP⟩:=hSw;go_simp⟩) hS0 ?_
    try simp only [Act.put,sq]
    refine wpAnyH_take (i:=12) (v:=(.agg #[.int .i64 0,sv [],.int .i64 p1.1,.int .i64 p1.2])) rfl (by kernel_rfl) (by kernel_rfl) (by kernel_rfl) (fun _ _ _ h=>h) (Or.inl ⟨by kernel_rfl,by intro w hSw;obtain⟨gM,gN,gP⟩:=hSw;go_simp⟩) hS0 ?_
    try simp only [Act.put,sq]
    refine wpAnyH_take (i:=15) (v:=(.agg #[.int .i64 0,.int .i64 0,.int .i64 0,.int .i64 0])) rfl (by kernel_rfl) (by kernel_rfl) (by kernel_rfl) (fun _ _ _ h=>h) (Or.inl ⟨by kernel_rfl,by intro w hSw;obtain⟨gM,gN,gP⟩:=hSw;go_simp⟩) hS0 ?_
    try simp only [Act.put,sq]
    refine wpAnyH_ready (rs:=[13]) (by kernel_rfl) (by simp) ?_;refine AllReadyH.cons rfl (fun K hK=>?_) AllReadyH.nil;go_simp
    try rw [hw8]
    refine hK.out _ _ hS8 (fun _=>?_);clear hK K
    try simp only [Act.put,sq]
    refine wpAnyH_ready (rs:=[14]) (by kernel_rfl) (by simp) ?_;refine AllReadyH.cons rfl (fun K hK=>?_) AllReadyH.nil;refine fT rfl (.tmp 81) (.tmp 91) _ rfl 0 EY _ _ rfl rfl fM BL (zW ⟨0,[],p1.1,p1.2⟩) h63 hbytes (Nat.zero_le _) (fun v' w9 n' fI vB kT=>?_);have t9:Turn (fun j=>dO.ownBlock=some j) w8 w9:=Turn.bB vB (fun j h=>h);have Rf:=hL8.turn t9 (fun h=>(hR.fo bl h).2.2.1 rfl);have Pb:=ah hD8 t9 (fun h=>(hR.fo _ h).2.1 rfl);have KX:=Lr w9 Rf;have e0:w9.cell? ⟨w.heap.size,0,none⟩=some (.int .i64 0):=(cell_of_row _ _ _ _ _ (0,0) Pb).trans rfl;have e1:w9.cell? ⟨w.heap.size,1,none⟩=some (.int .i64 0):=(cell_of_row _ _ _ _ _ (0,0) Pb).trans rfl;have e2:w9.cell? ⟨w.heap.size,2,none⟩=some (.int .i64 0):=(cell_of_row _ _ _ _ _ (0,0) Pb).trans rfl;have e3:w9.cell? ⟨w.heap.size,3,none⟩=some (.int .i64 0):=(cell_of_row _ _ _ _ _ (0,0) Pb).trans rfl;have g0:=bE Pb 0;have g1:=bE Pb 1;have g2:=bE Pb 2;have g3:=bE Pb 3;refine hK.out _ _ KX (fun _=>?_);clear hK K
    try simp only [Act.put,sq]
    refine wpAnyH_take (i:=16) (v:=v') rfl (by kernel_rfl) (by kernel_rfl) (by kernel_rfl) (fun _ _ _ h=>h) (Or.inl ⟨by kernel_rfl,by intro w hSw;obtain⟨gM,gN,gP⟩:=hSw;go_simp⟩) KX ?_
    try simp only [Act.put,sq]
    refine wpAnyH_ready (rs:=[17]) (by kernel_rfl) (by simp) ?_;refine AllReadyH.cons rfl (fun K hK=>?_) AllReadyH.nil;go_simp;have t10:=sP w9 w.heap.size (.int .i64 0) (.int .i64 0) (.int .i64 0) (.int .i64 0);refine hK.out _ (JO w9 w.heap.size (.int .i64 0) (.int .i64 0) (.int .i64 0) (.int .i64 0)) (Lr _ (Rf.turn t10 (fun h=>hR.dl h.symm))) (fun _=>?_);clear hK K
    try simp only [Act.put,sq]
    refine wpAnyH_done (by kernel_rfl) ?_ _;go_wp2_with fail;refine bodyPost_ret (eO rfl _ _ w.heap.size _ _ _ _ rfl (dF Pb _ _ _ _) Tryz.underlying45 rfl (by kernel_rfl)) rfl ?_;have OA:∀g,v'.ownBlock=some g->w.heap.size<=g∧g≠w.heap.size:=fun g hg=>by
     rcases kT with h |h
     ·rw [h]at hg;exact⟨(hR.fo g hg).1,(hR.fo g hg).2.1⟩
     ·rw [h]at hg;injection hg with hg;subst hg;have:=hB.size;have:=JU.size;exact⟨by omega,by omega⟩
    exact⟨v',n',by rw [HA.o];rfl,by rw [HA.o,nK];exact WB (dN fI t10 (fun g hg h=>(OA g hg).2 h)) (fun g hg=>(OA g hg).1),((hB.trans (JU.mono hB.size)).trans (t9.below (by have:=hB.size;have:=JU.size;omega) (fun k hk h=>by have:=(hR.fo k h).1;omega))).trans (t10.below (by have:=hB.size;have:=JU.size;have:=t9.size;omega) (fun k hk h=>by omega))⟩
   |cons c r=>
    have HLEN:=aZ hlen;have hNX:=Wy wr bl bp c r p1 dO hR.lex (by have:=hR.b1;omega) (hX.below hB) hR.pairs;have Hy:=aZ hNX;clear hNX hlen c1 c2 c4 hS0 aps hdl;have hnz:¬(c :: r:Bt)=[]:=by simp
    go_wp2_with fail;refine Hy.o.mono ?_;rintro e w5 ⟨rfl,hb5⟩;have kQ:=hR.below hb5;have Em:Below w.heap.size w w5:=hB.trans (hb5.mono hB.size);have hb1:=kQ.b1;have hb2:=kQ.b2;clear Hy hR hB hb5 c0;have c1:=kQ.lex.c1;have c2:=kQ.lex.c2;have c4:=kQ.lex.c4;have nP:w5.drew.cell? ⟨bl,1,none⟩=some (.int .i64 p1.1)∧w5.drew.cell? ⟨bl,2,none⟩=some (.int .i64 p1.2)∧w5.drew.cell? ⟨bl,4,none⟩=some dO:=⟨c1,c2,c4⟩
    have heq:=kQ.eq;unfold lexB at heq;rw [if_neg hnz]at heq;cases hn:dV (c :: r)with
    |inl e=>
     rw [hn]at heq;have WG:ans=([],(p1.1,p1.2,e)):=heq.symm;have he0:=xD hn;clear heq hn;simp only [DT];go_wp2_with fail;have hA:=aZ WG;have JV:w5.drew.heap[w.heap.size]? = _:=kQ.diag;have e0:w5.drew.cell? ⟨w.heap.size,0,none⟩=some (.int .i64 0):=(cell_of_row _ _ _ _ _ (0,0) JV).trans rfl;have e1:w5.drew.cell? ⟨w.heap.size,1,none⟩=some (.int .i64 0):=(cell_of_row _ _ _ _ _ (0,0) JV).trans rfl;have e2:w5.drew.cell? ⟨w.heap.size,2,none⟩=some (.int .i64 0):=(cell_of_row _ _ _ _ _ (0,0) JV).trans rfl;have e3:w5.drew.cell? ⟨w.heap.size,3,none⟩=some (.int .i64 0):=(cell_of_row _ _ _ _ _ (0,0) JV).trans rfl;have g0:=bE JV 0;have g1:=bE JV 1;have g2:=bE JV 2;have g3:=bE JV 3;have g0':=bE kQ.diag 0;have g1':=bE kQ.diag 1;have g2':=bE kQ.diag 2;have g3':=bE kQ.diag 3;have e0':w5.cell? ⟨w.heap.size,0,none⟩=some (.int .i64 0):=(cell_of_row _ _ _ _ _ (0,0) kQ.diag).trans rfl;have e1':w5.cell? ⟨w.heap.size,1,none⟩=some (.int .i64 0):=(cell_of_row _ _ _ _ _ (0,0) kQ.diag).trans rfl;have e2':w5.cell? ⟨w.heap.size,2,none⟩=some (.int .i64 0):=(cell_of_row _ _ _ _ _ (0,0) kQ.diag).trans rfl;have e3':w5.cell? ⟨w.heap.size,3,none⟩=some (.int .i64 0):=(cell_of_row _ _ _ _ _ (0,0) kQ.diag).trans rfl;refine wp_region_held_drew (S:=fun w'=>w'.cell? ⟨bl,1,none⟩=some (.int .i64 p1.1)∧w'.cell? ⟨bl,2,none⟩=some (.int .i64 p1.2)∧w'.cell? ⟨bl,4,none⟩=some dO) (by kernel_rfl) nP (fun _=>?_)
     try simp only [Act.put,sq]
     refine wpAnyH_take (i:=10) (v:=(.slice none 0 0)) rfl (by kernel_rfl) (by kernel_rfl) (by kernel_rfl) (fun _ _ _ h=>h) (Or.inl ⟨by kernel_rfl,by intro w hSw;obtain⟨gM,gN,gP⟩:=hSw;go_simp⟩) nP ?_
     try simp only [Act.put,sq]
     refine wpAnyH_take (i:=0) (v:=(.pointer (some ⟨bl,0,none⟩))) rfl (by kernel_rfl) (by kernel_rfl) (by kernel_rfl) (fun _ _ _ h=>h) (Or.inl ⟨by kernel_rfl,by intro w hSw;obtain⟨gM,gN,gP⟩:=hSw;go_simp⟩) nP ?_
     try simp only [Act.put,sq]
     refine wpAnyH_take (i:=1) (v:=(.pointer (some ⟨bl,0,none⟩))) rfl (by kernel_rfl) (by kernel_rfl) (by kernel_rfl) (fun _ _ _ h=>h) (Or.inl ⟨by kernel_rfl,by intro w hSw;obtain⟨gM,gN,gP⟩:=hSw;go_simp⟩) nP ?_
     try simp only [Act.put,sq]
     refine wpAnyH_take (i:=2) (v:=(.pointer (some ⟨bl,1,none⟩))) rfl (by kernel_rfl) (by kernel_rfl) (by kernel_rfl) (fun _ _ _ h=>h) (Or.inl ⟨by kernel_rfl,by intro w hSw;obtain⟨gM,gN,gP⟩:=hSw;go_simp⟩) nP ?_
     try simp only [Act.put,sq]
     refine wpAnyH_take (i:=3) (v:=(.int .i64 p1.1)) rfl (by kernel_rfl) (by kernel_rfl) (by kernel_rfl) (fun _ _ _ h=>h) (Or.inl ⟨by kernel_rfl,by intro w hSw;obtain⟨gM,gN,gP⟩:=hSw;go_simp⟩) nP ?_
     try simp only [Act.put,sq]
     refine wpAnyH_take (i:=4) (v:=(.pointer (some ⟨bl,0,none⟩))) rfl (by kernel_rfl) (by kernel_rfl) (by kernel_rfl) (fun _ _ _ h=>h) (Or.inl ⟨by kernel_rfl,by intro w hSw;obtain⟨gM,gN,gP⟩:=hSw;go_simp⟩) nP ?_
     try simp only [Act.put,sq]
     refine wpAnyH_take (i:=5) (v:=(.pointer (some ⟨bl,0,none⟩))) rfl (by kernel_rfl) (by kernel_rfl) (by kernel_rfl) (fun _ _ _ h=>h) (Or.inl ⟨by kernel_rfl,by intro w hSw;obtain⟨gM,gN,gP⟩:=hSw;go_simp⟩) nP ?_
     try simp only [Act.put,sq]
     refine wpAnyH_take (i:=6) (v:=(.pointer (some ⟨bl,2,none⟩))) rfl (by kernel_rfl) (by kernel_rfl) (by kernel_rfl) (fun _ _ _ h=>h) (Or.inl ⟨by kernel_rfl,by intro w hSw;obtain⟨gM,gN,gP⟩:=hSw;go_simp⟩) nP ?_
     try simp only [Act.put,sq]
     refine wpAnyH_take (i:=7) (v:=(.int .i64 p1.2)) rfl (by kernel_rfl) (by kernel_rfl) (by kernel_rfl) (fun _ _ _ h=>h) (Or.inl ⟨by kernel_rfl,by intro w hSw;obtain⟨gM,gN,gP⟩:=hSw;go_simp⟩) nP ?_
     try simp only [Act.put,sq]
     refine wpAnyH_take (i:=8) (v:=(.int .i64 e)) rfl (by kernel_rfl) (by kernel_rfl) (by kernel_rfl) (fun _ _ _ h=>h) (Or.inl ⟨by kernel_rfl,by intro w hSw;obtain⟨gM,gN,gP⟩:=hSw;go_simp⟩) nP ?_
     try simp only [Act.put,sq]
     refine wpAnyH_take (i:=9) (v:=(.agg #[.int .i64 0,.int .i64 p1.1,.int .i64 p1.2,.int .i64 e])) rfl (by kernel_rfl) (by kernel_rfl) (by kernel_rfl) (fun _ _ _ h=>h) (Or.inl ⟨by kernel_rfl,by intro w hSw;obtain⟨gM,gN,gP⟩:=hSw;go_simp⟩) nP ?_
     try simp only [Act.put,sq]
     refine wpAnyH_ready (rs:=[11]) (by kernel_rfl) (by simp) ?_;refine AllReadyH.cons rfl (fun K hK=>?_) AllReadyH.nil;go_simp;have t10:=sP w5.drew w.heap.size (.int .i64 0) (.int .i64 p1.1) (.int .i64 p1.2) (.int .i64 e);refine hK.out _ (JO w5.drew w.heap.size (.int .i64 0) (.int .i64 p1.1) (.int .i64 p1.2) (.int .i64 e)) (Lr _ ((kQ.lex.turn (Turn.drewN (fun _=>False) w5 1) id).turn t10 (fun h=>kQ.dl h.symm))) (fun _=>?_);clear hK K
     try simp only [Act.put,sq]
     refine wpAnyH_done (by kernel_rfl) ?_ _;go_wp2_with fail;refine bodyPost_ret (eO rfl _ _ w.heap.size _ _ _ _ rfl (dF JV _ _ _ _) Tryz.underlying45 rfl (by kernel_rfl)) rfl ?_;exact⟨.slice none 0 0,0,by rw [hA.o];rfl,by rw [hA.o];exact World.ownsRow_nil _ _ _ _,(Em.trans (aP w5 1 |>.mono Em.size)).trans (t10.below Em.size (fun k hk h=>by omega))⟩
    |inr x=>
     obtain⟨kd,t,n⟩:=x;rw [hn]at heq;obtain⟨n1,n2⟩:=zM hn;obtain⟨A0,C0,rfl⟩:∃A C,dO=.slice A out.length C:=by
      rcases kQ.row.2 with⟨h,h0⟩ |⟨g,cap,cur,h,_⟩
      ·exact⟨none,0,by rw [h,h0]⟩
      ·exact⟨_,_,h⟩
     by_cases h8:out.length=8192
     ·have WG:ans=([],(p1.1,p1.2,19)):=by simp only at heq;rw [if_pos h8]at heq;exact heq.symm
      have h8':(out.length:Int)=8192:=by omega
      clear heq hn;simp only [DT];go_wp2_with fail;have hA:=aZ WG;have JV:w5.drew.heap[w.heap.size]? = _:=kQ.diag;have e0:w5.drew.cell? ⟨w.heap.size,0,none⟩=some (.int .i64 0):=(cell_of_row _ _ _ _ _ (0,0) JV).trans rfl;have e1:w5.drew.cell? ⟨w.heap.size,1,none⟩=some (.int .i64 0):=(cell_of_row _ _ _ _ _ (0,0) JV).trans rfl;have e2:w5.drew.cell? ⟨w.heap.size,2,none⟩=some (.int .i64 0):=(cell_of_row _ _ _ _ _ (0,0) JV).trans rfl;have e3:w5.drew.cell? ⟨w.heap.size,3,none⟩=some (.int .i64 0):=(cell_of_row _ _ _ _ _ (0,0) JV).trans rfl;have g0:=bE JV 0;have g1:=bE JV 1;have g2:=bE JV 2;have g3:=bE JV 3;have g0':=bE kQ.diag 0;have g1':=bE kQ.diag 1;have g2':=bE kQ.diag 2;have g3':=bE kQ.diag 3;have e0':w5.cell? ⟨w.heap.size,0,none⟩=some (.int .i64 0):=(cell_of_row _ _ _ _ _ (0,0) kQ.diag).trans rfl;have e1':w5.cell? ⟨w.heap.size,1,none⟩=some (.int .i64 0):=(cell_of_row _ _ _ _ _ (0,0) kQ.diag).trans rfl;have e2':w5.cell? ⟨w.heap.size,2,none⟩=some (.int .i64 0):=(cell_of_row _ _ _ _ _ (0,0) kQ.diag).trans rfl;have e3':w5.cell? ⟨w.heap.size,3,none⟩=some (.int .i64 0):=(cell_of_row _ _ _ _ _ (0,0) kQ.diag).trans rfl;refine wp_region_held_drew (S:=fun w'=>w'.cell? ⟨bl,1,none⟩=some (.int .i64 p1.1)∧w'.cell? ⟨bl,2,none⟩=some (.int .i64 p1.2)∧w'.cell? ⟨bl,4,none⟩=some (.slice A0 out.length C0)) (by kernel_rfl) nP (fun _=>?_)
      try simp only [Act.put,sq]
      refine wpAnyH_take (i:=10) (v:=(.slice none 0 0)) rfl (by kernel_rfl) (by kernel_rfl) (by kernel_rfl) (fun _ _ _ h=>h) (Or.inl ⟨by kernel_rfl,by intro w hSw;obtain⟨gM,gN,gP⟩:=hSw;go_simp⟩) nP ?_
      try simp only [Act.put,sq]
      refine wpAnyH_take (i:=0) (v:=(.pointer (some ⟨bl,0,none⟩))) rfl (by kernel_rfl) (by kernel_rfl) (by kernel_rfl) (fun _ _ _ h=>h) (Or.inl ⟨by kernel_rfl,by intro w hSw;obtain⟨gM,gN,gP⟩:=hSw;go_simp⟩) nP ?_
      try simp only [Act.put,sq]
      refine wpAnyH_take (i:=1) (v:=(.pointer (some ⟨bl,0,none⟩))) rfl (by kernel_rfl) (by kernel_rfl) (by kernel_rfl) (fun _ _ _ h=>h) (Or.inl ⟨by kernel_rfl,by intro w hSw;obtain⟨gM,gN,gP⟩:=hSw;go_simp⟩) nP ?_
      try simp only [Act.put,sq]
      refine wpAnyH_take (i:=2) (v:=(.pointer (some ⟨bl,1,none⟩))) rfl (by kernel_rfl) (by kernel_rfl) (by kernel_rfl) (fun _ _ _ h=>h) (Or.inl ⟨by kernel_rfl,by intro w hSw;obtain⟨gM,gN,gP⟩:=hSw;go_simp⟩) nP ?_
      try simp only [Act.put,sq]
      refine wpAnyH_take (i:=3) (v:=(.int .i64 p1.1)) rfl (by kernel_rfl) (by kernel_rfl) (by kernel_rfl) (fun _ _ _ h=>h) (Or.inl ⟨by kernel_rfl,by intro w hSw;obtain⟨gM,gN,gP⟩:=hSw;go_simp⟩) nP ?_
      try simp only [Act.put,sq]
      refine wpAnyH_take (i:=4) (v:=(.pointer (some ⟨bl,0,none⟩))) rfl (by kernel_rfl) (by kernel_rfl) (by kernel_rfl) (fun _ _ _ h=>h) (Or.inl ⟨by kernel_rfl,by intro w hSw;obtain⟨gM,gN,gP⟩:=hSw;go_simp⟩) nP ?_
      try simp only [Act.put,sq]
      refine wpAnyH_take (i:=5) (v:=(.pointer (some ⟨bl,0,none⟩))) rfl (by kernel_rfl) (by kernel_rfl) (by kernel_rfl) (fun _ _ _ h=>h) (Or.inl ⟨by kernel_rfl,by intro w hSw;obtain⟨gM,gN,gP⟩:=hSw;go_simp⟩) nP ?_
      try simp only [Act.put,sq]
      refine wpAnyH_take (i:=6) (v:=(.pointer (some ⟨bl,2,none⟩))) rfl (by kernel_rfl) (by kernel_rfl) (by kernel_rfl) (fun _ _ _ h=>h) (Or.inl ⟨by kernel_rfl,by intro w hSw;obtain⟨gM,gN,gP⟩:=hSw;go_simp⟩) nP ?_
      try simp only [Act.put,sq]
      refine wpAnyH_take (i:=7) (v:=(.int .i64 p1.2)) rfl (by kernel_rfl) (by kernel_rfl) (by kernel_rfl) (fun _ _ _ h=>h) (Or.inl ⟨by kernel_rfl,by intro w hSw;obtain⟨gM,gN,gP⟩:=hSw;go_simp⟩) nP ?_
      try simp only [Act.put,sq]
      refine wpAnyH_take (i:=8) (v:=(.int .i64 19)) rfl (by kernel_rfl) (by kernel_rfl) (by kernel_rfl) (fun _ _ _ h=>h) (Or.inl ⟨by kernel_rfl,by intro w hSw;obtain⟨gM,gN,gP⟩:=hSw;go_simp⟩) nP ?_
      try simp only [Act.put,sq]
      refine wpAnyH_take (i:=9) (v:=(.agg #[.int .i64 0,.int .i64 p1.1,.int .i64 p1.2,.int .i64 19])) rfl (by kernel_rfl) (by kernel_rfl) (by kernel_rfl) (fun _ _ _ h=>h) (Or.inl ⟨by kernel_rfl,by intro w hSw;obtain⟨gM,gN,gP⟩:=hSw;go_simp⟩) nP ?_
      try simp only [Act.put,sq]
      refine wpAnyH_ready (rs:=[11]) (by kernel_rfl) (by simp) ?_;refine AllReadyH.cons rfl (fun K hK=>?_) AllReadyH.nil;go_simp;have t10:=sP w5.drew w.heap.size (.int .i64 0) (.int .i64 p1.1) (.int .i64 p1.2) (.int .i64 19);refine hK.out _ (JO w5.drew w.heap.size (.int .i64 0) (.int .i64 p1.1) (.int .i64 p1.2) (.int .i64 19)) (Lr _ ((kQ.lex.turn (Turn.drewN (fun _=>False) w5 1) id).turn t10 (fun h=>kQ.dl h.symm))) (fun _=>?_);clear hK K
      try simp only [Act.put,sq]
      refine wpAnyH_done (by kernel_rfl) ?_ _;go_wp2_with fail;refine bodyPost_ret (eO rfl _ _ w.heap.size _ _ _ _ rfl (dF JV _ _ _ _) Tryz.underlying45 rfl (by kernel_rfl)) rfl ?_;exact⟨.slice none 0 0,0,by rw [hA.o];rfl,by rw [hA.o];exact World.ownsRow_nil _ _ _ _,(Em.trans (aP w5 1 |>.mono Em.size)).trans (t10.below Em.size (fun k hk h=>by omega))⟩
     ·have h8':¬(out.length:Int)=8192:=by omega
      clear heq;have HN:=aZ hn;simp only [DT];go_wp2_with fail;have hn:=HN.o;have JU:Below w5.heap.size w5 (w5.drew.alloc (.cells #[.int .i64 kd,sv t,.int .i64 p1.1,.int .i64 p1.2] 154)):=(aP w5 1).alloc (Nat.le_refl _) _;have hL8:=kQ.lex.turn (Turn.of_below (F:=fun _=>False) JU) id;have hD8:=ah kQ.diag (Turn.of_below (F:=fun _=>False) JU) id;have fM:=own_below kQ.row JU;have WE:=kQ.pairs.turn (Turn.of_below (F:=fun _=>False) JU) id;have BL:Sl (w5.drew.alloc (.cells #[.int .i64 kd,sv t,.int .i64 p1.1,.int .i64 p1.2] 154)) (w5.heap.size+1) 4 (.slice (some ⟨w5.heap.size,0,none⟩) 1 1) (ny ⟨kd,t,p1.1,p1.2⟩):=gX w5.drew _ _ 4 1 rfl (by decide);have h63:out.length*4+(ny ⟨kd,t,p1.1,p1.2⟩).length<=maxLen:=by have:=kQ.Uk;show out.length*4+4<=maxLen;unfold maxLen;omega
      have hbytes:(out.length*4+(ny ⟨kd,t,p1.1,p1.2⟩).length)*40<=140737488355328:=by have:=kQ.Uk;show(out.length*4+4)*40<= _;omega
      generalize hw8:w5.drew.alloc (.cells #[.int .i64 kd,sv t,.int .i64 p1.1,.int .i64 p1.2] 154)=w8 at*
      have hS8:=Lr w8 hL8;have c48:=hL8.c4;have wG:w5.drew.cell? ⟨bl,1,none⟩=some (.int .i64 p1.1)∧w5.drew.cell? ⟨bl,2,none⟩=some (.int .i64 p1.2)∧True:=⟨c1,c2,trivial⟩
      have c4d:w5.drew.cell? ⟨bl,4,none⟩=some (.slice A0 out.length C0):=c4;refine wp_region_held_drew (S:=fun w'=>w'.cell? ⟨bl,1,none⟩=some (.int .i64 p1.1)∧w'.cell? ⟨bl,2,none⟩=some (.int .i64 p1.2)∧True) (by kernel_rfl) wG (fun _=>?_)
      try simp only [Act.put,sq]
      refine wpAnyH_take (i:=0) (v:=(.pointer (some ⟨bl,0,none⟩))) rfl (by kernel_rfl) (by kernel_rfl) (by kernel_rfl) (fun _ _ _ h=>h) (Or.inl ⟨by kernel_rfl,by intro w hSw;obtain⟨gM,gN,gP⟩:=hSw;go_simp⟩) wG ?_
      try simp only [Act.put,sq]
      refine wpAnyH_take (i:=1) (v:=(.pointer (some ⟨bl,0,none⟩))) rfl (by kernel_rfl) (by kernel_rfl) (by kernel_rfl) (fun _ _ _ h=>h) (Or.inl ⟨by kernel_rfl,by intro w hSw;obtain⟨gM,gN,gP⟩:=hSw;go_simp⟩) wG ?_
      try simp only [Act.put,sq]
      refine wpAnyH_take (i:=2) (v:=(.pointer (some ⟨bl,0,none⟩))) rfl (by kernel_rfl) (by kernel_rfl) (by kernel_rfl) (fun _ _ _ h=>h) (Or.inl ⟨by kernel_rfl,by intro w hSw;obtain⟨gM,gN,gP⟩:=hSw;go_simp⟩) wG ?_
      try simp only [Act.put,sq]
      refine wpAnyH_take (i:=3) (v:=(.pointer (some ⟨bl,4,none⟩))) rfl (by kernel_rfl) (by kernel_rfl) (by kernel_rfl) (fun _ _ _ h=>h) (Or.inl ⟨by kernel_rfl,by intro w hSw;obtain⟨gM,gN,gP⟩:=hSw;go_simp⟩) wG ?_
      try simp only [Act.put,sq]
      refine wpAnyH_take (i:=5) (v:=(.int .i64 kd)) rfl (by kernel_rfl) (by kernel_rfl) (by kernel_rfl) (fun _ _ _ h=>h) (Or.inl ⟨by kernel_rfl,by intro w hSw;obtain⟨gM,gN,gP⟩:=hSw;go_simp⟩) wG ?_
      try simp only [Act.put,sq]
      refine wpAnyH_take (i:=6) (v:=(sv t)) rfl (by kernel_rfl) (by kernel_rfl) (by kernel_rfl) (fun _ _ _ h=>h) (Or.inl ⟨by kernel_rfl,by intro w hSw;obtain⟨gM,gN,gP⟩:=hSw;go_simp⟩) wG ?_
      try simp only [Act.put,sq]
      refine wpAnyH_take (i:=7) (v:=(.pointer (some ⟨bl,0,none⟩))) rfl (by kernel_rfl) (by kernel_rfl) (by kernel_rfl) (fun _ _ _ h=>h) (Or.inl ⟨by kernel_rfl,by intro w hSw;obtain⟨gM,gN,gP⟩:=hSw;go_simp⟩) wG ?_
      try simp only [Act.put,sq]
      refine wpAnyH_take (i:=8) (v:=(.pointer (some ⟨bl,0,none⟩))) rfl (by kernel_rfl) (by kernel_rfl) (by kernel_rfl) (fun _ _ _ h=>h) (Or.inl ⟨by kernel_rfl,by intro w hSw;obtain⟨gM,gN,gP⟩:=hSw;go_simp⟩) wG ?_
      try simp only [Act.put,sq]
      refine wpAnyH_take (i:=9) (v:=(.pointer (some ⟨bl,1,none⟩))) rfl (by kernel_rfl) (by kernel_rfl) (by kernel_rfl) (fun _ _ _ h=>h) (Or.inl ⟨by kernel_rfl,by intro w hSw;obtain⟨gM,gN,gP⟩:=hSw;go_simp⟩) wG ?_
      try simp only [Act.put,sq]
      refine wpAnyH_take (i:=10) (v:=(.int .i64 p1.1)) rfl (by kernel_rfl) (by kernel_rfl) (by kernel_rfl) (fun _ _ _ h=>h) (Or.inl ⟨by kernel_rfl,by intro w hSw;obtain⟨gM,gN,gP⟩:=hSw;go_simp⟩) wG ?_
      try simp only [Act.put,sq]
      refine wpAnyH_take (i:=11) (v:=(.pointer (some ⟨bl,0,none⟩))) rfl (by kernel_rfl) (by kernel_rfl) (by kernel_rfl) (fun _ _ _ h=>h) (Or.inl ⟨by kernel_rfl,by intro w hSw;obtain⟨gM,gN,gP⟩:=hSw;go_simp⟩) wG ?_
      try simp only [Act.put,sq]
      refine wpAnyH_take (i:=12) (v:=(.pointer (some ⟨bl,0,none⟩))) rfl (by kernel_rfl) (by kernel_rfl) (by kernel_rfl) (fun _ _ _ h=>h) (Or.inl ⟨by kernel_rfl,by intro w hSw;obtain⟨gM,gN,gP⟩:=hSw;go_simp⟩) wG ?_
      try simp only [Act.put,sq]
      refine wpAnyH_take (i:=13) (v:=(.pointer (some ⟨bl,2,none⟩))) rfl (by kernel_rfl) (by kernel_rfl) (by kernel_rfl) (fun _ _ _ h=>h) (Or.inl ⟨by kernel_rfl,by intro w hSw;obtain⟨gM,gN,gP⟩:=hSw;go_simp⟩) wG ?_
      try simp only [Act.put,sq]
      refine wpAnyH_take (i:=14) (v:=(.int .i64 p1.2)) rfl (by kernel_rfl) (by kernel_rfl) (by kernel_rfl) (fun _ _ _ h=>h) (Or.inl ⟨by kernel_rfl,by intro w hSw;obtain⟨gM,gN,gP⟩:=hSw;go_simp⟩) wG ?_
      try simp only [Act.put,sq]
      refine wpAnyH_take (i:=15) (v:=(.agg #[.int .i64 kd,sv t,.int .i64 p1.1,.int .i64 p1.2])) rfl (by kernel_rfl) (by kernel_rfl) (by kernel_rfl) (fun _ _ _ h=>h) (Or.inl ⟨by kernel_rfl,by intro w hSw;obtain⟨gM,gN,gP⟩:=hSw;go_simp⟩) wG ?_
      try simp only [Act.put,sq]
      refine wpAnyH_ready (rs:=[4,16]) (by kernel_rfl) (by simp) ?_;refine AllReadyH.cons rfl (fun K hK=>?_) (AllReadyH.cons rfl (fun K hK=>?_) AllReadyH.nil)
      ·go_simp;refine hK.out _ _ wG (fun _=>?_);clear hK K
       try simp only [Act.put,sq]
       refine wpAnyH_ready (rs:=[16]) (by kernel_rfl) (by simp) ?_;refine AllReadyH.cons rfl (fun K hK=>?_) AllReadyH.nil;go_simp
       try rw [hw8]
       refine hK.out _ _ ⟨hS8.1,hS8.2.1,trivial⟩ (fun _=>?_);clear hK K
       try simp only [Act.put,sq]
       refine wpAnyH_ready (rs:=[17]) (by kernel_rfl) (by simp) ?_;refine AllReadyH.cons rfl (fun K hK=>?_) AllReadyH.nil;refine fT rfl (.tmp 59) (.tmp 71) _ rfl 0 EY _ _ rfl rfl fM BL (zW ⟨kd,t,p1.1,p1.2⟩) h63 hbytes (Nat.zero_le _) (fun v' w9 n' fI vB kT=>?_);obtain rfl:n'=out.length+1:=by have h1:=fI.1;have h2:=fM.1;rw [List.length_append,h2]at h1;have h3:(ny ⟨kd,t,p1.1,p1.2⟩).length=4:=rfl;omega
       obtain⟨g9,c9,rfl,_,_,_,_⟩:=iM fI (by omega);have t9:Turn (fun j=>(Value.slice A0 out.length C0).ownBlock=some j) w8 w9:=Turn.bB vB (fun j h=>h);have Rf:=hL8.turn t9 (fun h=>(kQ.fo bl h).2.2.1 rfl);have Pb:=ah hD8 t9 (fun h=>(kQ.fo _ h).2.1 rfl);have hP9:=WE.turn t9 (fun h=>(kQ.fo _ h).2.2.2 rfl);have KX:=Lr w9 Rf;have e4:=Rf.c4;have g4:=Rf.free 4;refine hK.out _ _ ⟨KX.1,KX.2.1,trivial⟩ (fun _=>?_);clear hK K
       try simp only [Act.put,sq]
       refine wpAnyH_ready (rs:=[18]) (by kernel_rfl) (by simp) ?_;refine AllReadyH.cons rfl (fun K hK=>?_) AllReadyH.nil;go_simp;refine hK.out _ _ ⟨KX.1,KX.2.1,trivial⟩ (fun _=>?_);clear hK K
       try simp only [Act.put,sq]
       refine wpAnyH_ready (rs:=[19]) (by kernel_rfl) (by simp) ?_;refine AllReadyH.cons rfl (fun K hK=>?_) AllReadyH.nil;go_simp;refine hK.out _ _ ⟨KX.1,KX.2.1,trivial⟩ (fun _=>?_);clear hK K
       try simp only [Act.put,sq]
       refine wpAnyH_ready (rs:=[20]) (by kernel_rfl) (by simp) ?_;refine AllReadyH.cons rfl (fun K hK=>?_) AllReadyH.nil;go_simp;have JW:=Rf.JO (.slice (some ⟨g9,0,none⟩) (out.length+1) c9);have t10:=ak w9 bl 4 (.slice (some ⟨g9,0,none⟩) (out.length+1) c9);refine hK.out _ _ ⟨JW.c1,JW.c2,trivial⟩ (fun _=>?_);clear hK K
       try simp only [Act.put,sq]
       refine wpAnyH_done (by kernel_rfl) ?_ _;have WH:=JU.size;have apt:bp<w5.heap.size:=by obtain⟨_,_,_,h,_⟩:=kQ.pairs;exact h.lt
       have apu:=kQ.lex.lt;have apv:=block_lt kQ.diag;have OA:∀g,(Value.slice (some ⟨g9,0,none⟩) (out.length+1) c9).ownBlock=some g->w.heap.size<=g∧g≠w.heap.size∧g≠bl∧g≠bp:=fun g hg=>by
        rcases kT with h |h
        ·rw [h]at hg;exact kQ.fo g hg
        ·rw [h]at hg;injection hg with hg;subst hg;have:=Em.size;exact⟨by omega,by omega,by omega,by omega⟩
       have EZ:=dN fI t10 (fun g hg h=>(OA g hg).2.2.1 h);have WI:=ah Pb t10 kQ.dl;have WJ:=hP9.turn t10 (fun h=>kQ.lp h.symm);have WK:Below w.heap.size w (w9.setCell ⟨bl,4,none⟩ (.slice (some ⟨g9,0,none⟩) (out.length+1) c9)):=((Em.trans (JU.mono Em.size)).trans (t9.below (Nat.le_trans Em.size WH) (fun k hk h=>by have:=(kQ.fo k h).1;omega))).trans (t10.below (Nat.le_trans (Nat.le_trans Em.size WH) t9.size) (fun k hk h=>by have:=kQ.hl;omega));clear fI vB kT t9 t10 Rf Pb hP9 KX e4 g4 fM BL hL8 hD8 WE hS8 hw8 nP;generalize(w9.setCell ⟨bl,4,none⟩ (.slice (some ⟨g9,0,none⟩) (out.length+1) c9))=vC at*
       go_wp2_with fail;refine(wD vC bl bp (c :: r) p1 _ n JW n2 (by omega) (by omega)).mono ?_;rintro e Bw ⟨rfl,WL,t11⟩;have l1:=nO ((c :: r).take n) kQ.b3;have apw:((c :: r).take n).length<=n:=by rw [List.length_take];omega
       have apx:((c :: r).drop n).length<=(c :: r).length:=by rw [List.length_drop];omega
       go_wp2_with fail;refine(y8 Bw bl bp ((c :: r).drop n) (fK p1 ((c :: r).take n)) _ WL (by omega) (by omega) l1.2.2).mono ?_;rintro e w12 ⟨rfl,WM,t12⟩;have wH:=t11.trans t12 (fun _ _ h=>h);have agC:Below w.heap.size w w12:=WK.trans (wH.below WK.size (fun k hk h=>by have:=kQ.hl;omega));obtain⟨f',s2,p2,out',hR',hm'⟩:=kQ.next hn h8 (dN EZ wH (fun g hg h=>(OA g hg).2.2.1 h)) OA (ah WI wH kQ.dl) (WJ.turn wH (fun h=>kQ.lp h.symm)) WM;have hm2:=sO hR'.lex;have HR:=aZ hR';have HM:=aZ hm2;have Wt:=aZ hm';clear hR' hm2 hm' WM WL JW t11 t12 wH EZ WI WJ;go_wp2_with fail
       go_roundw
       case rel=>exact⟨agC,f',s2,p2,_,out',HR.o⟩
       case measure=>have:=HLEN.o;have:=HM.o;have:=Wt.o;omega
      ·go_simp
       try rw [hw8]
       refine hK.out _ _ ⟨hS8.1,hS8.2.1,trivial⟩ (fun _=>?_);clear hK K
       try simp only [Act.put,sq]
       refine wpAnyH_ready (rs:=[4]) (by kernel_rfl) (by simp) ?_;refine AllReadyH.cons rfl (fun K hK=>?_) AllReadyH.nil;go_simp;refine hK.out _ _ ⟨hS8.1,hS8.2.1,trivial⟩ (fun _=>?_);clear hK K
       try simp only [Act.put,sq]
       refine wpAnyH_ready (rs:=[17]) (by kernel_rfl) (by simp) ?_;refine AllReadyH.cons rfl (fun K hK=>?_) AllReadyH.nil;refine fT rfl (.tmp 59) (.tmp 71) _ rfl 0 EY _ _ rfl rfl fM BL (zW ⟨kd,t,p1.1,p1.2⟩) h63 hbytes (Nat.zero_le _) (fun v' w9 n' fI vB kT=>?_);obtain rfl:n'=out.length+1:=by have h1:=fI.1;have h2:=fM.1;rw [List.length_append,h2]at h1;have h3:(ny ⟨kd,t,p1.1,p1.2⟩).length=4:=rfl;omega
       obtain⟨g9,c9,rfl,_,_,_,_⟩:=iM fI (by omega);have t9:Turn (fun j=>(Value.slice A0 out.length C0).ownBlock=some j) w8 w9:=Turn.bB vB (fun j h=>h);have Rf:=hL8.turn t9 (fun h=>(kQ.fo bl h).2.2.1 rfl);have Pb:=ah hD8 t9 (fun h=>(kQ.fo _ h).2.1 rfl);have hP9:=WE.turn t9 (fun h=>(kQ.fo _ h).2.2.2 rfl);have KX:=Lr w9 Rf;have e4:=Rf.c4;have g4:=Rf.free 4;refine hK.out _ _ ⟨KX.1,KX.2.1,trivial⟩ (fun _=>?_);clear hK K
       try simp only [Act.put,sq]
       refine wpAnyH_ready (rs:=[18]) (by kernel_rfl) (by simp) ?_;refine AllReadyH.cons rfl (fun K hK=>?_) AllReadyH.nil;go_simp;refine hK.out _ _ ⟨KX.1,KX.2.1,trivial⟩ (fun _=>?_);clear hK K
       try simp only [Act.put,sq]
       refine wpAnyH_ready (rs:=[19]) (by kernel_rfl) (by simp) ?_;refine AllReadyH.cons rfl (fun K hK=>?_) AllReadyH.nil;go_simp;refine hK.out _ _ ⟨KX.1,KX.2.1,trivial⟩ (fun _=>?_);clear hK K
       try simp only [Act.put,sq]
       refine wpAnyH_ready (rs:=[20]) (by kernel_rfl) (by simp) ?_;refine AllReadyH.cons rfl (fun K hK=>?_) AllReadyH.nil;go_simp;have JW:=Rf.JO (.slice (some ⟨g9,0,none⟩) (out.length+1) c9);have t10:=ak w9 bl 4 (.slice (some ⟨g9,0,none⟩) (out.length+1) c9);refine hK.out _ _ ⟨JW.c1,JW.c2,trivial⟩ (fun _=>?_);clear hK K
       try simp only [Act.put,sq]
       refine wpAnyH_done (by kernel_rfl) ?_ _;have WH:=JU.size;have apt:bp<w5.heap.size:=by obtain⟨_,_,_,h,_⟩:=kQ.pairs;exact h.lt
       have apu:=kQ.lex.lt;have apv:=block_lt kQ.diag;have OA:∀g,(Value.slice (some ⟨g9,0,none⟩) (out.length+1) c9).ownBlock=some g->w.heap.size<=g∧g≠w.heap.size∧g≠bl∧g≠bp:=fun g hg=>by
        rcases kT with h |h
        ·rw [h]at hg;exact kQ.fo g hg
        ·rw [h]at hg;injection hg with hg;subst hg;have:=Em.size;exact⟨by omega,by omega,by omega,by omega⟩
       have EZ:=dN fI t10 (fun g hg h=>(OA g hg).2.2.1 h);have WI:=ah Pb t10 kQ.dl;have WJ:=hP9.turn t10 (fun h=>kQ.lp h.symm);have WK:Below w.heap.size w (w9.setCell ⟨bl,4,none⟩ (.slice (some ⟨g9,0,none⟩) (out.length+1) c9)):=((Em.trans (JU.mono Em.size)).trans (t9.below (Nat.le_trans Em.size WH) (fun k hk h=>by have:=(kQ.fo k h).1;omega))).trans (t10.below (Nat.le_trans (Nat.le_trans Em.size WH) t9.size) (fun k hk h=>by have:=kQ.hl;omega));clear fI vB kT t9 t10 Rf Pb hP9 KX e4 g4 fM BL hL8 hD8 WE hS8 hw8 nP;generalize(w9.setCell ⟨bl,4,none⟩ (.slice (some ⟨g9,0,none⟩) (out.length+1) c9))=vC at*
       go_wp2_with fail;refine(wD vC bl bp (c :: r) p1 _ n JW n2 (by omega) (by omega)).mono ?_;rintro e Bw ⟨rfl,WL,t11⟩;have l1:=nO ((c :: r).take n) kQ.b3;have apw:((c :: r).take n).length<=n:=by rw [List.length_take];omega
       have apx:((c :: r).drop n).length<=(c :: r).length:=by rw [List.length_drop];omega
       go_wp2_with fail;refine(y8 Bw bl bp ((c :: r).drop n) (fK p1 ((c :: r).take n)) _ WL (by omega) (by omega) l1.2.2).mono ?_;rintro e w12 ⟨rfl,WM,t12⟩;have wH:=t11.trans t12 (fun _ _ h=>h);have agC:Below w.heap.size w w12:=WK.trans (wH.below WK.size (fun k hk h=>by have:=kQ.hl;omega));obtain⟨f',s2,p2,out',hR',hm'⟩:=kQ.next hn h8 (dN EZ wH (fun g hg h=>(OA g hg).2.2.1 h)) OA (ah WI wH kQ.dl) (WJ.turn wH (fun h=>kQ.lp h.symm)) WM;have hm2:=sO hR'.lex;have HR:=aZ hR';have HM:=aZ hm2;have Wt:=aZ hm';clear hR' hm2 hm' WM WL JW t11 t12 wH EZ WI WJ;go_wp2_with fail
       go_roundw
       case rel=>exact⟨agC,f',s2,p2,_,out',HR.o⟩
       case measure=>have:=HLEN.o;have:=HM.o;have:=Wt.o;omega
end
def Pf (ts:List aI):Prop:=ts.length<=8193∧∀t∈ts,t.text.length<=100000
theorem Pf.tail {t:aI}{r:List aI}(h:Pf (t :: r)):Pf r:=⟨by have:=h.1;simp at this;omega,fun x hx=>h.2 x (by simp [hx])⟩
def sQ (B:Nat)(w:World):Prop:=∀w':World,(∀k,k<B->w'.heap[k]? =w.heap[k]?)->qX w'
theorem E8 {w w':World}{name:String}{cs:Array Value}(h:w.var? Tryz.prog name=some cs)(hb:∀k,k<w.heap.size->w'.heap[k]? =w.heap[k]?):w'.var? Tryz.prog name=some cs:=by
 unfold World.var? at h ⊢;cases hg:Tryz.prog.globalNamed name with
 |none=>rw [hg]at h;cases h
 |some g=>
  rw [hg]at h;simp only [Option.bind_some]at h ⊢;by_cases hlt:g<w.heap.size
  ·rw [hb g hlt];exact h
  ·rw [Array.getElem?_eq_none (by omega)]at h;cases h
theorem sQ.of {w:World}(h:qX w):sQ w.heap.size w:=fun w' hb=>by
 obtain⟨h1,⟨tp,p,h2⟩,⟨tp',p',h3⟩⟩:=h;exact⟨E8 h1 hb,⟨tp,p,E8 h2 hb⟩,⟨tp',p',E8 h3 hb⟩⟩
theorem sQ.here {B:Nat}{w:World}(h:sQ B w):qX w:=h w (fun _ _=>rfl)
theorem sQ.below {B:Nat}{w w':World}(h:sQ B w)(hb:Below B w w'):sQ B w':=fun w2 h2=>h w2 fun k hk=>(h2 k hk).trans (hb.block k hk)
def E9 (B:Nat)(w:World)(v:Value):Prop:=∀b o n c,v=.slice (some ⟨b,o,none⟩) n c->b<B∧∃cs,w.heap[b]? =some (.cells cs 154 (0,0))
theorem E9.below {B:Nat}{w w':World}{v:Value}(h:E9 B w v)(hb:Below B w w'):E9 B w' v:=fun b o n c e=>by
 obtain⟨h1,cs,h2⟩:=h b o n c e;exact⟨h1,cs,(hb.block b h1).trans h2⟩
theorem E9.behind {B:Nat}{w:World}{b o n c n' c':Nat}{A':Option Addr}(h:E9 B w (.slice (some ⟨b,o,none⟩) n c))(hA:∀b' o',A'=some ⟨b',o',none⟩->b'=b):E9 B w (.slice A' n' c'):=fun b1 o1 n1 c1 e=>by
 injection e with e _ _;rw [hA b1 o1 e];exact h b o n c rfl
def bX (w:World)(bp B:Nat)(ts:List aI)(d:Int):Prop:=B<=bp∧Pf ts∧Wf ts∧∃v,w.heap[bp]? =some (.cells #[v,.int .i64 d] 151 (0,0))∧Sl w B 4 v (dw ts)∧sQ B w∧E9 B w v
section
variable {w w':World}{bp B:Nat}{ts:List aI}{d:Int}{G:Nat->Prop}
theorem bX.lt (h:bX w bp B ts d):bp<w.heap.size:=by
 obtain⟨_,_,_,v,h,_⟩:=h;exact block_lt h
theorem bX.wf (h:bX w bp B ts d):Wf ts:=h.2.2.1
theorem bX.turn (h:bX w bp B ts d)(t:Turn G w w')(hk:¬G bp)(hB:∀k,k<B->¬G k):bX w' bp B ts d:=by
 have hlt:=h.lt;obtain⟨h1,h2,h5,v,h3,h4,h6,h7⟩:=h;have hb:=t.below (B:=B) (by omega) hB;exact⟨h1,h2,h5,v,ah h3 t hk,Sl.below h4 hb,h6.below hb,h7.below hb⟩
theorem bX.laid (h:bX w bp B ts d):sQ B w:=h.2.2.2.choose_spec.2.2.1
theorem bX.tok (h:bX w bp B ts d){v:Value}{d':Int}(hb:w.heap[bp]? =some (.cells #[v,.int .i64 d'] 151 (0,0))):E9 B w v:=by
 obtain⟨_,_,_,v',h1,_,_,h7⟩:=h;rw [hb]at h1;injection h1 with h1;injection h1 with h1 _;have h2:[v,Value.int .i64 d']=[v',Value.int .i64 d]:=congrArg Array.toList h1;injection h2 with h2 _;rw [h2];exact h7
theorem bX.apart (h:bX w bp B ts d)(t:Turn G w w')(hk:¬G bp)(hT:∀g,G g->g<w.heap.size->∃cs T,w.heap[g]? =some (.cells cs T (0,0))∧T≠154)(hL:sQ B w'):bX w' bp B ts d:=by
 obtain⟨h1,h2,h5,v,h3,h4,h6,h7⟩:=h;have hg:∀b o n c,v=.slice (some ⟨b,o,none⟩) n c->¬G b:=fun b o n c e hG=>by
  obtain⟨hb,cs,hcs⟩:=h7 b o n c e;obtain⟨cs',T,hT1,hT2⟩:=hT b hG (block_lt hcs);rw [hcs]at hT1;injection hT1 with hT1;injection hT1 with _ hT1;exact hT2 hT1.symm
 refine⟨h1,h2,h5,v,ah h3 t hk,?_,hL,fun b o n c e=>?_⟩
 ·obtain⟨A,n,c,rfl,hl,hn,hc,hx⟩:=h4;refine⟨A,n,c,rfl,hl,hn,hc,fun h0=>?_⟩;obtain⟨b,o,rfl,Ls,hcell⟩:=hx h0;refine⟨b,o,rfl,Ls,fun j u hu=>?_⟩;obtain⟨_,cs,hcs⟩:=h7 b o n c rfl;have e0:=cell_of_row w b (o+j) _ _ _ hcs;have e1:=cell_of_row w' b (o+j) _ _ _ (ah hcs t (hg b o n c rfl));rw [e1,<-e0];exact hcell j u hu
 ·obtain⟨hb,cs,hcs⟩:=h7 b o n c e;exact⟨hb,cs,ah hcs t (hg b o n c e)⟩
theorem bX.below (h:bX w bp B ts d)(hb:Below w.heap.size w w'):bX w' bp B ts d:=h.turn (Turn.of_below (F:=fun _=>False) hb) id (fun _ _=>id)
theorem bX.open_ (h:bX w bp B ts d):
  ∃b o c t r,ts=t :: r∧r.length+1<=c∧c<=2 ^ 63 - 1∧Pf (t :: r)∧B<=bp∧b<B∧w.heap[bp]? =some (.cells #[.slice (some ⟨b,o,none⟩) (r.length+1) c,.int .i64 d] 151 (0,0))∧Sl w B 4 (.slice (some ⟨b,o,none⟩) (r.length+1) c) (dw (t :: r))∧
   w.cell? ⟨bp,0,none⟩=some (.slice (some ⟨b,o,none⟩) (r.length+1) c)∧w.cell? ⟨bp,1,none⟩=some (.int .i64 d)∧(∀i,w.frozen? ⟨bp,i,none⟩=false)∧
   w.cell? ⟨b,o,none⟩=some (.int .i64 t.kind)∧w.cell? ⟨b,o+1,none⟩=some (sv t.text)∧w.cell? ⟨b,o+2,none⟩=some (.int .i64 t.line)∧w.cell? ⟨b,o+3,none⟩=some (.int .i64 t.col):=by
 obtain⟨hB,hL,hw,v,hb,hv,_⟩:=h;have hv':=hv;obtain⟨A,n,c,rfl,hl,hn,hc,hx⟩:=hv';obtain⟨t,r,rfl⟩:∃t r,ts=t :: r:=by
  rcases hw.cases with⟨e,rfl,_⟩ |⟨t,r,rfl,_⟩
  ·exact⟨e,[],rfl⟩
  ·exact⟨t,r,rfl⟩
 obtain rfl:n=r.length+1:=by rw [lC]at hl;simp at hl;omega
 obtain⟨b,o,rfl,Ls,hcell⟩:=hx (by omega);unfold maxLen at hc;have c0:=hcell 0 _ (show(dw (t :: r))[0]? =some (.int .i64 t.kind)from rfl);have c1:=hcell 1 _ (show(dw (t :: r))[1]? =some (sv t.text)from rfl);have c2:=hcell 2 _ (show(dw (t :: r))[2]? =some (.int .i64 t.line)from rfl);have c3:=hcell 3 _ (show(dw (t :: r))[3]? =some (.int .i64 t.col)from rfl);rw [Nat.add_zero]at c0;exact⟨b,o,c,t,r,rfl,hn,hc,hL,hB,Ls,hb,hv,(cell_of_row _ _ _ _ _ _ hb).trans rfl,(cell_of_row _ _ _ _ _ _ hb).trans rfl,fun i=>frozen_of_row _ _ _ _ _ hb,c0,c1,c2,c3⟩
theorem bX.text {b o:Nat}{s:Bt}(h:bX w bp B ts d)(hc:w.cell? ⟨b,o,none⟩=some (sv s)):b≠bp:=by
 rintro rfl;obtain⟨_,_,_,v,h,hv,_⟩:=h;obtain⟨A,n,c,rfl,_⟩:=hv;rw [cell_of_row _ _ _ _ _ _ h]at hc;rcases o with _ |_ |o
 ·cases hc
 ·cases hc
 ·cases hc
theorem I7 {b o c:Nat}{t:aI}{r:List aI}(h:Sl w B 4 (.slice (some ⟨b,o,none⟩) (r.length+1) c) (dw (t :: r))):
  ∃A',(∀b' o',A'=some ⟨b',o',none⟩->b'=b)∧Sl w B 4 (.slice A' r.length (c - 1)) (dw r)∧∀w,(Instr.slice 142 (.slice (some ⟨b,o,none⟩) (r.length+1) c) (some (.int .i64 1)) none none).run Tryz.prog w=.ok (.slice A' r.length (c - 1)) w:=by
 obtain⟨A,n,c',hv,hl,hn,hc,hx⟩:=h;injection hv with hv1 hv2 hv3;subst hv1 hv2 hv3;obtain⟨b',o',hA,hb,hcell⟩:=hx (by omega);injection hA with hA;injection hA with hA1 hA2;subst hA1 hA2;refine⟨if c=1 then some ⟨b,o,none⟩else some ⟨b,o+4,none⟩,fun b' o' e=>?_,⟨_,_,_,rfl,by rw [lC],by omega,by unfold maxLen at*;omega,fun h0=>?_⟩,fun w=>?_⟩
 ·split at e <;> (injection e with e;injection e with e _;exact e.symm)
 ·rw [if_neg (by omega)];refine⟨b,o+4,rfl,hb,fun j u hu=>?_⟩;have:(dw (t :: r))[4+j]? =some u:=by
   rw [show dw (t :: r)=ny t++dw r from rfl,List.getElem?_append_right (by show 4<=4+j;omega)];rw [show 4+j - (ny t).length=j by show 4+j - 4=j;omega];exact hu
  have:=hcell _ u this;rwa [<-Nat.add_assoc]at this
 ·have h0:(0:Int)<=((1:Nat):Int):=by omega
  have h1:¬((r.length:Int)+1<1):=by omega
  go_simp
end
abbrev Fa (d:CS):Ending:= .panicked [{ v:= .iface 146 (.agg #[.int .i64 0,.int .i64 d.1,.int .i64 d.2.1,.int .i64 d.2.2]),recovered:=false}]
def y9 (w:World)(bp:Nat):Prop:=∃v d,w.heap[bp]? =some (.cells #[v,.int .i64 d] 151 (0,0))
def eP (bp:Nat)(w w':World):Prop:=Turn (fun k=>k=bp) w w'∧y9 w' bp
theorem bX.bp {w:World}{bp B:Nat}{ts:List aI}{d:Int}(h:bX w bp B ts d):y9 w bp:=by
 obtain⟨_,_,_,v,h,_⟩:=h;exact⟨v,d,h⟩
theorem y9.turn {w w':World}{bp:Nat}{G:Nat->Prop}(h:y9 w bp)(t:Turn G w w')(hk:¬G bp):y9 w' bp:=by
 obtain⟨v,d,h⟩:=h;exact⟨v,d,ah h t hk⟩
theorem eP.below {bp:Nat}{a b c:World}(t:Turn (fun k=>k=bp) a b)(h:y9 b bp)(hb:Below b.heap.size b c):eP bp a c:=⟨t.trans (Turn.of_below (F:=fun k=>k=bp) hb) (fun _ _ h=>h),h.turn (Turn.of_below (F:=fun _=>False) hb) id⟩
def aL {α:Type}(P:World->Value->α->Prop)(bp B:Nat)(d:Int)(w:World)(q:Pr α)(e:Ending)(w':World):Prop:=
 match q with
  |.good x r=>∃v,e=.returned v∧Turn (fun k=>k=bp) w w'∧P w' v x∧bX w' bp B r d
  |.bad g=>e=Fa g∧eP bp w w'
section
variable {α:Type}{P:World->Value->α->Prop}{bp B:Nat}{d:Int}{w w':World}{q:Pr α}{e:Ending}
theorem aL.bY {g:CS}(h:aL P bp B d w q e w')(hq:q=.bad g):e=Fa g∧eP bp w w':=by
 subst hq;exact h
theorem aL.aQ {x:α}{r:List aI}(h:aL P bp B d w q e w')(hq:q=.good x r):∃v,e=.returned v∧Turn (fun k=>k=bp) w w'∧P w' v x∧bX w' bp B r d:=by
 subst hq;exact h
theorem aL.fail {g:CS}(hq:q=.bad g)(t:eP bp w w'):aL P bp B d w q (Fa g) w':=by
 subst hq;exact⟨rfl,t⟩
theorem aL.done {x:α}{r:List aI}{v:Value}(hq:q=.good x r)(t:Turn (fun k=>k=bp) w w')(hP:P w' v x)(hR:bX w' bp B r d):aL P bp B d w q (.returned v) w':=by
 subst hq;exact⟨v,rfl,t,hP,hR⟩
end
def PTy (base:Nat)(w:World)(v:Value)(t:bS):Prop:=∃z,v=.agg z.toArray∧mJ w (fun j=>base<=j) z t
def En (base:Nat)(w:World)(v:Value)(t:bI):Prop:=∃z,v=.agg z.toArray∧qd w (fun j=>base<=j) z t
end Go.Proofs.YtfgjkmipfikooaaGreatDoor
