/- GG, GH -/
import Derived.Test.YtfgjkmipfikooaaGreatDoorEBQ
import Derived.Test.YtfgjkmipfikooaaGreatDoorEB03
set_option linter.unusedSimpArgs false
set_option linter.unusedVariables false
set_option maxRecDepth 100000
set_option maxHeartbeats 8000000
namespace Go.Proofs.YtfgjkmipfikooaaGreatDoor
open Go.RowKit
section
open Go.Maps (has IsMap Keyed)
theorem Ny {a b a' b':UInt8}(h:uo a b=uo a' b'):a=a'∧b=b':=by
 unfold uo at h;injection h with h;injection h with h;injection h with h1 h2;injection h2 with h2 _;injection h1 with _ h1;injection h2 with _ h2;exact⟨UInt8.toNat_inj.1 (by omega),UInt8.toNat_inj.1 (by omega)⟩
theorem Nz {D:DataW Unit}{l:List Bt}(hD:IsMap D)(h:BA D l){a b:UInt8}{kl:Lit}(hk:keyOf Tryz.prog 224 (uo a b)=some kl):BA (D.put kl (.lit (.bool true))) (l++[[a,b]]):=by
 intro a' b' kl' hk' z;by_cases he:kl'=kl
 ·subst he;obtain⟨rfl,rfl⟩:=Ny (xI.inj hk' hk);rw [Maps.atKey_put_same hD (xI.key hk),if_pos (by simp)]
 ·have hne:[a',b']≠[a,b]:=by
   intro e;injection e with e1 e2;injection e2 with e2 _;subst e1 e2;rw [hk']at hk;exact he (Option.some.inj hk)
  rw [Maps.atKey_put_other he,h a' b' kl' hk' z];by_cases hin:[a',b']∈l
  ·rw [if_pos hin,if_pos (List.mem_append_left _ hin)]
  ·rw [if_neg hin,if_neg (by simp only [List.mem_append,List.mem_singleton];rintro(h1 |h1);exact hin h1;exact hne h1)]
theorem He:BA (.map []) []:=fun _ _ _ _ z=>rfl
theorem Hf {H:Type}{P:Program}{ops:Array Oper}{o:Oper}{a:Act}{w:World}{K:Act->World->Prop}{Q:Exit->Act->World->Prop}{E:Prop}
  (hg:o.guard=none) (m x v:Operand) (t:TypeId) (hop:o.op=Op.mapUpdate t m x v)
  (k e:TypeId) (Kd:Keyed P k) (ht:P.underlying t=some (.map k e)) (R:Value->Option (DataW H ×List MemPlace)) (b n:Nat) (D:DataW H)
  (hm:a.eval m=.map (some b)) (hown:w.ownsMap P k R b n D) (hn:n<maxLen) (key val:Value) (kl:Lit) (hx:a.eval x=key) (hv:a.eval v=val) (hkey:keyOf P k key=some kl)
  (d:DataW H) (ps:List MemPlace) (hval:R val=some (d,ps))
  (hK:∀w',w'.ownsMap P k R b (n+1) (D.put kl d)->w.grownBy w' (some b)->K (a.put o.dst undef) w'):
  if Region.wanted o (yielded ops a.tmps)=true then Oper.wp P o a w K Q else E:=by
 have hw:Region.wanted o (yielded ops a.tmps)=true:=by simp [Region.wanted,hg]
 rw [if_pos hw];obtain⟨w',hrun,r1,r2⟩:=hown.update Kd ht hn hkey hval;unfold Oper.wp;simp [execOp,hop,hm,hx,hv,hrun,Result.andThen];exact hK w' r1 r2
theorem NA (w:World):Calls Tryz.prog 145 #[] w fun e w'=>∃bp,e=.returned (.map (some bp))∧w.heap.size<=bp∧lD w' bp dw∧Below w.heap.size w w':=by
 have hmm:= @run_makeMap Tryz.prog;have h8:dw.length=8:=rfl;go_enter Tryz.func145,Tryz.ntmps145;go_wp2_with fail;have s1:(w.alloc (.map #[] 0)).heap.size=w.heap.size+1:=by simp
 have hss:Ss ((w.alloc (.map #[] 0)).alloc (.cells (mW dw).toArray 9)) (w.heap.size+2) (.slice (some ⟨w.heap.size+1,0,none⟩) 8 8) dw:=by
  have:=iB (w.alloc (.map #[] 0)) (mW dw).toArray 9 1 8 (by simp [dV,h8]) (by decide);rw [s1]at this;simpa [Ss]using this
 have hmap:lD ((w.alloc (.map #[] 0)).alloc (.cells (mW dw).toArray 9)) w.heap.size []:=
  ⟨0,.map [],Nat.zero_le _,(World.ownsMap_made w _ _ _).alloc _,He⟩
 have hB:Below w.heap.size w ((w.alloc (.map #[] 0)).alloc (.cells (mW dw).toArray 9)):=((Below.refl _ _).alloc (Nat.le_refl _) _).alloc (by simp) _;have hsz:((w.alloc (.map #[] 0)).alloc (.cells (mW dw).toArray 9)).heap.size=w.heap.size+2:=by simp
 have hw2:∃w2,w2=((w.alloc (.map #[] 0)).alloc (.cells (mW dw).toArray 9)):=⟨_,rfl⟩
 obtain⟨w2,hw2⟩:=hw2;rw [<-hw2]at hss hmap hB hsz;have PW:((w.alloc (.map #[] 0)).alloc (.cells #[.string { data:= #[45,62]},.string { data:= #[61,62]},.string { data:= #[60,58]},.string { data:= #[60,60]},.string { data:= #[60,61]},.string { data:= #[62,62]},.string { data:= #[61,61]},.string { data:= #[43,43]}] 9))=w2:=by rw [hw2];rfl
 rw [PW];clear hw2 PW;go_loopw [7] (fun v7 wr=>∃k:Nat,v7=.int .i64 k∧k<=8∧lD wr w.heap.size (dw.take k)∧Turn (fun j=>j=w.heap.size) w2 wr) (fun v7 _=>8 - (intOf v7).toNat)
 case atStart=>exact⟨0,rfl,by omega,hmap,Turn.refl _ _⟩
 case round=>
  obtain⟨k,rfl,hk,⟨n,D,hn,hown,hD⟩,htr⟩:=hrel;by_cases hlt:k<8
  ·obtain⟨A,c,hA,_,_,hx⟩:=hss.open_;obtain⟨b0,o0,hA2,hb0,hcell⟩:=hx (by decide);rw [hA2]at hA;simp only [Value.slice.injEq,Option.some.injEq,Addr.mk.injEq,and_true]at hA;obtain⟨⟨rfl,rfl⟩,YU⟩:=hA;clear YU;have d1:=GV htr (by omega) (by omega) (hcell k (by rw [h8];exact hlt));rw [Nat.zero_add]at d1;have hnext:dw.take (k+1)=dw.take k++[dw[k]'(by rw [h8];exact hlt)]:=List.take_succ_eq_append_getElem _;have h2:(dw[k]'(by rw [h8];exact hlt)).length=2:=by
    have hall:∀m∈dw,m.length=2:=by decide
    exact hall _ (List.getElem_mem _)
   have hnl:(dw.take k).length=k:=by rw [List.length_take,h8];omega
   generalize(dw[k]'(by rw [h8];exact hlt))=m at*
   obtain⟨a,b,rfl⟩:∃a b,m=[a,b]:=by
    match m,h2 with
    | [a,b],_=>exact⟨a,b,rfl⟩
   have hix:=gL [a,b] 0 (by simp);have abU:=gL [a,b] 1 (by simp);have afw:=aT [a,b];obtain⟨kl,hkl⟩:=G8 a b;have HKL:=aZ hkl;have abV:=aZ (Nz hown.isMap hD hkl);have GZ:=aZ hnext;have Gt:=aZ hss;clear hss hmap hcell hx hkl hnext h8;go_wp2_with fail;refine wp_region_held_drew (S:=fun _=>True) (by kernel_rfl) trivial (fun _=>?_)
   try simp only [Act.put,sq]
   refine wpAnyH_take (i:=0) (v:=(.map (some w.heap.size))) rfl (by kernel_rfl) (by kernel_rfl) (by kernel_rfl) (fun _ _ _ h=>h) (Or.inl ⟨by kernel_rfl,by intro w hSw;go_simp⟩) trivial ?_
   try simp only [Act.put,sq]
   refine wpAnyH_take (i:=1) (v:=(sv [a,b])) rfl (by kernel_rfl) (by kernel_rfl) (by kernel_rfl) (fun _ _ _ h=>h) (Or.inl ⟨by kernel_rfl,by intro w hSw;go_simp⟩) trivial ?_
   try simp only [Act.put,sq]
   refine wpAnyH_take (i:=2) (v:=(.int .u8 (a.toNat:Int))) rfl (by kernel_rfl) (by kernel_rfl) (by kernel_rfl) (fun _ _ _ h=>h) (Or.inl ⟨by kernel_rfl,by intro w hSw;go_simp⟩) trivial ?_
   try simp only [Act.put,sq]
   refine wpAnyH_take (i:=3) (v:=(sv [a,b])) rfl (by kernel_rfl) (by kernel_rfl) (by kernel_rfl) (fun _ _ _ h=>h) (Or.inl ⟨by kernel_rfl,by intro w hSw;go_simp⟩) trivial ?_
   try simp only [Act.put,sq]
   refine wpAnyH_take (i:=4) (v:=(.int .u8 (b.toNat:Int))) rfl (by kernel_rfl) (by kernel_rfl) (by kernel_rfl) (fun _ _ _ h=>h) (Or.inl ⟨by kernel_rfl,by intro w hSw;go_simp⟩) trivial ?_
   try simp only [Act.put,sq]
   refine wpAnyH_take (i:=5) (v:=(.agg #[.int .u8 (a.toNat:Int),.int .u8 (b.toNat:Int)])) rfl (by kernel_rfl) (by kernel_rfl) (by kernel_rfl) (fun _ _ _ h=>h) (Or.inl ⟨by kernel_rfl,by intro w hSw;go_simp⟩) trivial ?_
   try simp only [Act.put,sq]
   refine wpAnyH_ready (rs:=[6]) (by kernel_rfl) (by simp) ?_;refine AllReadyH.cons rfl (fun K hK=>?_) AllReadyH.nil;refine Hf rfl _ _ _ 196 rfl 224 4 xI Tryz.underlying196 (plainElem Tryz.prog 4) w.heap.size n D rfl (w:=wr.drew) hown (by unfold maxLen;omega) (uo a b) _ kl rfl rfl HKL.o (.lit (.bool true)) [] (plainElem_bool Tryz.underlying4 true) (fun w6 hown6 Wo=>?_);refine hK.out _ _ trivial (fun _=>?_);clear hK K
   try simp only [Act.put,sq]
   refine wpAnyH_done (by kernel_rfl) ?_ _;have Tf:Turn (fun j=>j=w.heap.size) wr w6:=(Turn.drewN (fun j=>j=w.heap.size) wr 1).trans (Turn.bP (F:=fun j=>j=w.heap.size) Wo (fun j h=>by injection h with h;exact h.symm)) (fun _ _ h=>h);go_wp2_with fail
   go_roundw
   case rel=>exact⟨k+1,rfl,by omega,⟨n+1,_,by rw [GZ.o,List.length_append];simp only [List.length_cons,List.length_nil];omega,hown6,by rw [GZ.o];exact abV.o⟩,htr.trans Tf (fun _ _ h=>h)⟩
   case measure=>simp [intOf];omega
  ·obtain rfl:k=8:=by omega
   have hfin:lD wr w.heap.size dw:=⟨n,D,by have:=hn;simpa [h8]using this,hown,hD⟩
   have hB9:Below w.heap.size w wr:=hB.trans (htr.below hB.size (fun j hj e=>by omega));clear hss hmap hown hD;go_wp2_with fail;go_ret;exact⟨_,rfl,Nat.le_refl _,hfin,hB9⟩
def uq (t:aD):List Value:=[.int .i64 t.kind,sv t.text,.int .i64 t.line,.int .i64 t.col]
def eF (l:List aD):List Value:=l.flatMap uq
theorem tu (l:List aD):(eF l).length=l.length*4:=by
 induction l with
 |nil=>rfl
 |cons t l ih=>
  have h:eF (t :: l)=uq t++eF l:=rfl;rw [h,List.length_append,ih,List.length_cons];have:(uq t).length=4:=rfl;omega
theorem vT (l:List aD)(t:aD):eF (l++[t])=eF l++uq t:=by
 unfold eF;rw [List.flatMap_append];simp
theorem Kh:ku Tryz.prog 142 154 (.agg #[.int .i64 0,sv [],.int .i64 0,.int .i64 0]) 4 40:=⟨Tryz.underlying142,by kernel_rfl,rfl,by decide⟩
def lexB (f:Nat)(s1:Bt)(p1:Nat ×Nat)(out:List aD):List aD ×(Nat ×Nat ×Int):=
 if s1=[]then(out++[⟨0,[],p1.1,p1.2⟩],(0,0,0))else
 match fu s1 with
 |.inl e=>([],(p1.1,p1.2,e))
 |.inr (kd,t,n)=>if out.length=8192 then([],(p1.1,p1.2,19))else nO f (s1.drop n) (gF p1 (s1.take n)) (out++[⟨kd,t,p1.1,p1.2⟩])
theorem NC (f:Nat)(s:Bt)(p:Nat ×Nat)(out:List aD):nO (f+1) s p out=lexB f (s.drop (bB s)) (gF p (s.take (bB s))) out:=rfl
structure Hg (base bd bl bp N:Nat) (ans:List aD ×(Nat ×Nat ×Int)) (wr:World) (f:Nat) (s1:Bt) (p1:Nat ×Nat) (dS:Value) (out:List aD):Prop where
 diag:wr.heap[bd]? =some (.cells #[.int .i64 0,.int .i64 0,.int .i64 0,.int .i64 0] 45 (0,0))
 lex:eU wr bl bp s1 p1 dS
 pairs:lD wr bp dw
 row:wr.ownsRow 0 154 4 dS out.length (eF out)
 fuel:s1.length<=f
 eq:lexB f s1 p1 out=ans
 b1:p1.1+s1.length<=N
 b2:p1.2+s1.length<=N
 b3:1<=p1.2
 PY:out.length<=8192
 hd:base<=bd
 hl:base<=bl
 hp:base<=bp
 dl:bd≠bl
 dp:bd≠bp
 lp:bl≠bp
 fo:∀g,dS.ownBlock=some g->base<=g∧g≠bd∧g≠bl∧g≠bp
theorem Hg.below {base bd bl bp N:Nat}{ans:List aD ×(Nat ×Nat ×Int)}{w w':World}{f:Nat}{s1:Bt}{p1:Nat ×Nat}{dS:Value}{out:List aD}(h:Hg base bd bl bp N ans w f s1 p1 dS out)(hb:Below w.heap.size w w'):Hg base bd bl bp N ans w' f s1 p1 dS out:=
 { h with
  diag:=ah h.diag (Turn.of_below (F:=fun _=>False) hb) id
  lex:=h.lex.turn (Turn.of_below (F:=fun _=>False) hb) id
  pairs:=h.pairs.turn (Turn.of_below (F:=fun _=>False) hb) id
  row:=own_below h.row hb}
theorem Hg.next {base bd bl bp N:Nat}{ans:List aD ×(Nat ×Nat ×Int)}{w w':World}{f:Nat}{s1:Bt}{p1:Nat ×Nat}{dS Me:Value}{out:List aD}(h:Hg base bd bl bp N ans w f s1 p1 dS out)
  {kd:Int}{t:Bt}{n:Nat}(hn:fu s1=.inr (kd,t,n)) (ho:out.length≠8192)
  (hrow:w'.ownsRow 0 154 4 Me (out.length+1) (eF out++uq ⟨kd,t,p1.1,p1.2⟩)) (hfo:∀g,Me.ownBlock=some g->base<=g∧g≠bd∧g≠bl∧g≠bp)
  (YV:w'.heap[bd]? =some (.cells #[.int .i64 0,.int .i64 0,.int .i64 0,.int .i64 0] 45 (0,0))) (Wp:lD w' bp dw)
  (hlex:eU w' bl bp ((s1.drop n).drop (bB (s1.drop n))) (gF (gF p1 (s1.take n)) ((s1.drop n).take (bB (s1.drop n)))) Me):
  ∃f' s2 p2 out',Hg base bd bl bp N ans w' f' s2 p2 Me out'∧s2.length<s1.length:=by
 obtain⟨n1,n2⟩:=BX hn;have hne:s1≠[]:=by intro e;subst e;simp at n2;omega
 have hf:=h.fuel;obtain⟨f',rfl⟩:∃f',f=f'+1:=⟨f - 1,by omega⟩
 have heq:=h.eq;unfold lexB at heq;rw [if_neg hne,hn]at heq;simp only at heq;rw [if_neg ho,NC]at heq;have l1:=qX (s1.take n) h.b3;rw [List.length_take,Nat.min_eq_left n2]at l1;have hsk:=BU false (s1.drop n);have YW:bB (s1.drop n)<=s1.length - n:=by rw [List.length_drop]at hsk;exact hsk
 have l2:=qX ((s1.drop n).take (bB (s1.drop n))) l1.2.2;have hb1:=h.b1;have hb2:=h.b2;have hol:=h.PY;have ht:((s1.drop n).take (bB (s1.drop n))).length=bB (s1.drop n):=by rw [List.length_take,List.length_drop];omega
 rw [ht]at l2;have hlen:((s1.drop n).drop (bB (s1.drop n))).length=s1.length - n - bB (s1.drop n):=by rw [List.length_drop,List.length_drop]
 refine⟨f',_,_,out++[⟨kd,t,p1.1,p1.2⟩],⟨YV,hlex,Wp,?_,by rw [hlen];omega,heq,by rw [hlen];omega,by rw [hlen];omega,l2.2.2,by simp;omega,h.hd,h.hl,h.hp,h.dl,h.dp,h.lp,hfo⟩,by rw [hlen];omega⟩;rw [vT,List.length_append];exact hrow
theorem kJ {P:Program}{fn:Func}{t0 p:Tmp}{ty:TypeId}(h:fn.results= #[.tmp t0,.cell p ty])(tmps:Array Value)(w:World)(g:Nat)(t:TypeId)(cs:Array Value)(fr:Nat ×Nat)(d:TypeDesc)
  (hp:tmps.getD p undef=.pointer (some ⟨g,0,none⟩)) (hg:w.heap[g]? =some (.cells cs t fr))
  (hu:P.underlying ty=some d) (hd:(match d with |.struct _ |.array _ _=>true |_=>false)=true) (hi:(P.info? ty).map (·.size)=some cs.size):
  (results fn tmps).run P w=.ok (.tuple #[tmps.getD t0 undef,.agg cs]) w:=by
 have hp':tmps[p]?.getD undef=.pointer (some ⟨g,0,none⟩):=by simpa using hp
 simp [results,h,hp',asAddr,run_loadVar_row w g t ty cs fr d hg hu hd hi,Result.andThen]
theorem P7 {w:World}{base:Nat}{e:TypeId}{k n:Nat}{v:Value}{xs:List Value}(h:w.ownsRow 0 e k v n xs)(hb:∀g,v.ownBlock=some g->base<=g):w.ownsRow base e k v n xs:=by
 refine⟨h.1,?_⟩;rcases h.2 with h2 |⟨g,cap,cur,hv,_,r⟩
 ·exact .inl h2
 ·exact .inr ⟨g,cap,cur,hv,hb g (by subst hv;rfl),r⟩
abbrev GX (w:World)(b:Nat)(v0 v1 v2 v3:Value):World:=(((w.setCell ⟨b,0,none⟩ v0).setCell ⟨b,1,none⟩ v1).setCell ⟨b,2,none⟩ v2).setCell ⟨b,3,none⟩ v3
theorem yU (w:World)(b:Nat)(v0 v1 v2 v3:Value):Turn (fun k=>k=b) w (GX w b v0 v1 v2 v3):=
 (((ak w b 0 v0).trans (ak _ b 1 v1) (fun _ _ h=>h)).trans (ak _ b 2 v2) (fun _ _ h=>h)).trans (ak _ b 3 v3) (fun _ _ h=>h)
theorem wC {w:World}{b:Nat}{a0 a1 a2 a3:Value}{t:TypeId}(h:w.heap[b]? =some (.cells #[a0,a1,a2,a3] t (0,0)))(v0 v1 v2 v3:Value):(GX w b v0 v1 v2 v3).heap[b]? =some (.cells #[v0,v1,v2,v3] t (0,0)):=
 heap_setCell_same _ b 3 _ _ v3 (heap_setCell_same _ b 2 _ _ v2 (heap_setCell_same _ b 1 _ _ v1 (heap_setCell_same w b 0 _ _ v0 h)))
theorem bI {w:World}{b:Nat}{cs:Array Value}{t:TypeId}(h:w.heap[b]? =some (.cells cs t (0,0)))(i:Nat):w.frozen? ⟨b,i,none⟩=false:=by
 simp [World.frozen?,h]
theorem FD (t:aD):∀u∈uq t,u.oneCell'=true:=by
 intro u hu;simp [uq]at hu;rcases hu with rfl |rfl |rfl |rfl <;> rfl
def Ck (d:Nat ×Nat ×Int):Value:= .agg #[.int .i64 0,.int .i64 d.1,.int .i64 d.2.1,.int .i64 d.2.2]
def TI (ans:List aD ×(Nat ×Nat ×Int))(w:World)(e:Ending)(w':World):Prop:=
 ∃v n,e=.returned (.tuple #[v,Ck ans.2])∧w'.ownsRow w.heap.size 154 4 v n (eF ans.1)∧Below w.heap.size w w'
def P8 (w:World)(bd bl bp N:Nat)(ans:List aD ×(Nat ×Nat ×Int))(wr:World):Prop:=
 Below w.heap.size w wr∧∃f s1 p1 dS out,Hg w.heap.size bd bl bp N ans wr f s1 p1 dS out
theorem FE (w:World)(s:Bt)(hX:mY w):Calls Tryz.prog 86 #[sv s] w fun e w'=>TI (iU s) w e w':=by
 have hmm:= @run_makeMap Tryz.prog;have hsz:=aT s;by_cases hlong:65536<s.length
 ·have ha:iU s=([],(1,1,2)):=by unfold iU;rw [if_pos hlong]
  rw [ha];go_enter Tryz.func86,Tryz.ntmps86;go_wp2_with fail;refine bodyPost_ret (kJ rfl _ _ w.heap.size _ _ _ _ rfl (heap_alloc_new w _) Tryz.underlying45 rfl (by kernel_rfl)) rfl ?_;exact⟨_,0,rfl,World.ownsRow_nil _ _ _ _,(Below.refl _ _).alloc (Nat.le_refl _) _⟩
 ·have ha:iU s=lexB s.length (s.drop (bB s)) (gF (1,1) (s.take (bB s))) []:=by unfold iU;rw [if_neg hlong];rfl
  rw [ha];clear ha;generalize Ea:lexB s.length (s.drop (bB s)) (gF (1,1) (s.take (bB s))) []=ans;go_enter Tryz.func86,Tryz.ntmps86;go_wp2_with fail;refine(NA _).mono ?_;rintro e w2 ⟨bp,rfl,hbp,hP,hb2⟩;have s1:(w.alloc (.cells #[.int .i64 0,.int .i64 0,.int .i64 0,.int .i64 0] 45)).heap.size=w.heap.size+1:=by simp
  have hd1:=heap_alloc_new w (.cells #[.int .i64 0,.int .i64 0,.int .i64 0,.int .i64 0] 45);have hb1:Below w.heap.size w (w.alloc (.cells #[.int .i64 0,.int .i64 0,.int .i64 0,.int .i64 0] 45)):=(Below.refl _ _).alloc (Nat.le_refl _) _;have abW:bp<w2.heap.size:=by obtain⟨_,_,_,h,_⟩:=hP;exact h.lt
  have hd2:=ah hd1 (Turn.of_below (F:=fun _=>False) hb2) id;have hB2:=hb1.trans (hb2.mono hb1.size);rw [s1]at hbp hb2;have hs2:=hb2.size;rw [s1]at hs2;clear hd1 hb1 hb2;have hL3:eU (w2.alloc (.cells #[sv s,.int .i64 1,.int .i64 1,.map (some bp),.slice none 0 0] 199)) w2.heap.size bp s (1,1) (.slice none 0 0):=heap_alloc_new w2 _;have t3:=Turn.alloc (fun _=>False) w2 (.cells #[sv s,.int .i64 1,.int .i64 1,.map (some bp),.slice none 0 0] 199);have hB3:Below w.heap.size w (w2.alloc (.cells #[sv s,.int .i64 1,.int .i64 1,.map (some bp),.slice none 0 0] 199)):=hB2.alloc hB2.size _;go_wp2_with fail;refine(wz _ w2.heap.size bp s (1,1) _ hL3 (by omega) (by simp) (Nat.le_refl _)).mono ?_;rintro e w4 ⟨rfl,hL4,t4⟩;have t24:=(t3.mono (G:=fun k=>k=w2.heap.size) (fun _ _ h=>h.elim)).trans t4 (fun _ _ h=>h);have hB4:Below w.heap.size w w4:=hB3.trans (t4.below hB3.size (fun k hk e=>by omega));have hsk:=BU false s;have YW:bB s<=s.length:=hsk;have Wq:=qX (p:=(1,1)) (s.take (bB s)) (Nat.le_refl _);have htl:(s.take (bB s)).length=bB s:=by rw [List.length_take];omega
  have hdl:(s.drop (bB s)).length=s.length - bB s:=List.length_drop;rw [htl]at Wq
  have hR0:Hg w.heap.size w.heap.size w2.heap.size bp (1+s.length) ans w4 s.length (s.drop (bB s)) (gF (1,1) (s.take (bB s))) (.slice none 0 0) []:=
   ⟨ah hd2 t24 (by omega),hL4,hP.turn t24 (by omega),World.ownsRow_nil _ _ _ _,by omega,Ea,by omega,by omega,Wq.2.2,Nat.zero_le _,Nat.le_refl _,by omega,by omega,by omega,by omega,by omega,fun g hg=>by simp [Value.ownBlock]at hg⟩
  have Vb:P8 w w.heap.size w2.heap.size bp (1+s.length) ans w4:=⟨hB4,_,_,_,_,_,hR0⟩
  have hN:1+s.length<=70000:=by omega
  clear hR0 hL4 hL3 t3 t4 t24 hB3 hB4 hsk YW Wq htl hdl hd2 hB2 hP hbp hs2 s1 Ea abW;generalize hbl:w2.heap.size=bl at*
  generalize 1+s.length=N at*
  go_wp2_with fail;go_loopw [8] (fun _ wr=>P8 w w.heap.size bl bp N ans wr) (fun _ wr=>textOf wr bl)
  case atStart=>exact Vb
  case round=>
   obtain⟨hB,f,s1,p1,dS,out,hR⟩:=hrel;clear Vb;have c0:=hR.lex.c0;have c1:=hR.lex.c1;have c2:=hR.lex.c2;have c4:=hR.lex.c4;have hlen:=qW hR.lex;have abX:=hR.lex.lt;have hdl:=block_lt hR.diag;have hS0:wr.drew.cell? ⟨bl,1,none⟩=some (.int .i64 p1.1)∧wr.drew.cell? ⟨bl,2,none⟩=some (.int .i64 p1.2)∧wr.drew.cell? ⟨bl,4,none⟩=some dS:=⟨c1,c2,c4⟩
   have Hl:∀w':World,eU w' bl bp s1 p1 dS->w'.cell? ⟨bl,1,none⟩=some (.int .i64 p1.1)∧w'.cell? ⟨bl,2,none⟩=some (.int .i64 p1.2)∧w'.cell? ⟨bl,4,none⟩=some dS:=fun w' h=>⟨h.c1,h.c2,h.c4⟩
   cases s1 with
   |nil=>
    have HA:=aZ (show ans=(out++[⟨0,[],p1.1,p1.2⟩],(0,0,0))from hR.eq.symm);go_wp2_with fail;have Ho:Below wr.heap.size wr (wr.drew.alloc (.cells #[.int .i64 0,sv [],.int .i64 p1.1,.int .i64 p1.2] 154)):=(aH wr 1).alloc (Nat.le_refl _) _;have TJ:=hR.lex.turn (Turn.of_below (F:=fun _=>False) Ho) id;have Yn:=ah hR.diag (Turn.of_below (F:=fun _=>False) Ho) id;have iH:=own_below hR.row Ho;have P9:=hR.pairs.turn (Turn.of_below (F:=fun _=>False) Ho) id;have ND:Sl (wr.drew.alloc (.cells #[.int .i64 0,sv [],.int .i64 p1.1,.int .i64 p1.2] 154)) (wr.heap.size+1) 4 (.slice (some ⟨wr.heap.size,0,none⟩) 1 1) (uq ⟨0,[],p1.1,p1.2⟩):=iB wr.drew _ _ 4 1 rfl (by decide);have h63:out.length*4+(uq ⟨0,[],p1.1,p1.2⟩).length<=maxLen:=by have:=hR.PY;show out.length*4+4<=maxLen;unfold maxLen;omega
    have hbytes:(out.length*4+(uq ⟨0,[],p1.1,p1.2⟩).length)*40<=140737488355328:=by have:=hR.PY;show(out.length*4+4)*40<= _;omega
    generalize hw8:wr.drew.alloc (.cells #[.int .i64 0,sv [],.int .i64 p1.1,.int .i64 p1.2] 154)=w8 at*
    have Tg:=Hl w8 TJ;refine wp_region_held_drew (S:=fun w'=>w'.cell? ⟨bl,1,none⟩=some (.int .i64 p1.1)∧w'.cell? ⟨bl,2,none⟩=some (.int .i64 p1.2)∧w'.cell? ⟨bl,4,none⟩=some dS) (by kernel_rfl) hS0 (fun _=>?_)
    try simp only [Act.put,sq]
    refine wpAnyH_take (i:=0) (v:=(.pointer (some ⟨bl,0,none⟩))) rfl (by kernel_rfl) (by kernel_rfl) (by kernel_rfl) (fun _ _ _ h=>h) (Or.inl ⟨by kernel_rfl,by intro w hSw;obtain⟨eu,gY,gZ⟩:=hSw;go_simp⟩) hS0 ?_
    try simp only [Act.put,sq]
    refine wpAnyH_take (i:=1) (v:=(.pointer (some ⟨bl,0,none⟩))) rfl (by kernel_rfl) (by kernel_rfl) (by kernel_rfl) (fun _ _ _ h=>h) (Or.inl ⟨by kernel_rfl,by intro w hSw;obtain⟨eu,gY,gZ⟩:=hSw;go_simp⟩) hS0 ?_
    try simp only [Act.put,sq]
    refine wpAnyH_take (i:=2) (v:=(.pointer (some ⟨bl,4,none⟩))) rfl (by kernel_rfl) (by kernel_rfl) (by kernel_rfl) (fun _ _ _ h=>h) (Or.inl ⟨by kernel_rfl,by intro w hSw;obtain⟨eu,gY,gZ⟩:=hSw;go_simp⟩) hS0 ?_
    try simp only [Act.put,sq]
    refine wpAnyH_take (i:=3) (v:=dS) rfl (by kernel_rfl) (by kernel_rfl) (by kernel_rfl) (fun _ _ _ h=>h) (Or.inl ⟨by kernel_rfl,by intro w hSw;obtain⟨eu,gY,gZ⟩:=hSw;go_simp⟩) hS0 ?_
    try simp only [Act.put,sq]
    refine wpAnyH_take (i:=4) (v:=(.pointer (some ⟨bl,0,none⟩))) rfl (by kernel_rfl) (by kernel_rfl) (by kernel_rfl) (fun _ _ _ h=>h) (Or.inl ⟨by kernel_rfl,by intro w hSw;obtain⟨eu,gY,gZ⟩:=hSw;go_simp⟩) hS0 ?_
    try simp only [Act.put,sq]
    refine wpAnyH_take (i:=5) (v:=(.pointer (some ⟨bl,0,none⟩))) rfl (by kernel_rfl) (by kernel_rfl) (by kernel_rfl) (fun _ _ _ h=>h) (Or.inl ⟨by kernel_rfl,by intro w hSw;obtain⟨eu,gY,gZ⟩:=hSw;go_simp⟩) hS0 ?_
    try simp only [Act.put,sq]
    refine wpAnyH_take (i:=6) (v:=(.pointer (some ⟨bl,1,none⟩))) rfl (by kernel_rfl) (by kernel_rfl) (by kernel_rfl) (fun _ _ _ h=>h) (Or.inl ⟨by kernel_rfl,by intro w hSw;obtain⟨eu,gY,gZ⟩:=hSw;go_simp⟩) hS0 ?_
    try simp only [Act.put,sq]
    refine wpAnyH_take (i:=7) (v:=(.int .i64 p1.1)) rfl (by kernel_rfl) (by kernel_rfl) (by kernel_rfl) (fun _ _ _ h=>h) (Or.inl ⟨by kernel_rfl,by intro w hSw;obtain⟨eu,gY,gZ⟩:=hSw;go_simp⟩) hS0 ?_
    try simp only [Act.put,sq]
    refine wpAnyH_take (i:=8) (v:=(.pointer (some ⟨bl,0,none⟩))) rfl (by kernel_rfl) (by kernel_rfl) (by kernel_rfl) (fun _ _ _ h=>h) (Or.inl ⟨by kernel_rfl,by intro w hSw;obtain⟨eu,gY,gZ⟩:=hSw;go_simp⟩) hS0 ?_
    try simp only [Act.put,sq]
    refine wpAnyH_take (i:=9) (v:=(.pointer (some ⟨bl,0,none⟩))) rfl (by kernel_rfl) (by kernel_rfl) (by kernel_rfl) (fun _ _ _ h=>h) (Or.inl ⟨by kernel_rfl,by intro w hSw;obtain⟨eu,gY,gZ⟩:=hSw;go_simp⟩) hS0 ?_
    try simp only [Act.put,sq]
    refine wpAnyH_take (i:=10) (v:=(.pointer (some ⟨bl,2,none⟩))) rfl (by kernel_rfl) (by kernel_rfl) (by kernel_rfl) (fun _ _ _ h=>h) (Or.inl ⟨by kernel_rfl,by intro w hSw;obtain⟨eu,gY,gZ⟩:=hSw;go_simp⟩) hS0 ?_
    try simp only [Act.put,sq]
    refine wpAnyH_take (i:=11) (v:=(.int .i64 p1.2)) rfl (by kernel_rfl) (by kernel_rfl) (by kernel_rfl) (fun _ _ _ h=>h) (Or.inl ⟨by kernel_rfl,by intro w hSw;obtain⟨eu,gY,gZ⟩:=hSw;go_simp⟩) hS0 ?_
    try simp only [Act.put,sq]
    refine wpAnyH_take (i:=12) (v:=(.agg #[.int .i64 0,sv [],.int .i64 p1.1,.int .i64 p1.2])) rfl (by kernel_rfl) (by kernel_rfl) (by kernel_rfl) (fun _ _ _ h=>h) (Or.inl ⟨by kernel_rfl,by intro w hSw;obtain⟨eu,gY,gZ⟩:=hSw;go_simp⟩) hS0 ?_
    try simp only [Act.put,sq]
    refine wpAnyH_take (i:=15) (v:=(.agg #[.int .i64 0,.int .i64 0,.int .i64 0,.int .i64 0])) rfl (by kernel_rfl) (by kernel_rfl) (by kernel_rfl) (fun _ _ _ h=>h) (Or.inl ⟨by kernel_rfl,by intro w hSw;obtain⟨eu,gY,gZ⟩:=hSw;go_simp⟩) hS0 ?_
    try simp only [Act.put,sq]
    refine wpAnyH_ready (rs:=[13]) (by kernel_rfl) (by simp) ?_;refine AllReadyH.cons rfl (fun K hK=>?_) AllReadyH.nil;go_simp
    try rw [hw8]
    refine hK.out _ _ Tg (fun _=>?_);clear hK K
    try simp only [Act.put,sq]
    refine wpAnyH_ready (rs:=[14]) (by kernel_rfl) (by simp) ?_;refine AllReadyH.cons rfl (fun K hK=>?_) AllReadyH.nil;refine gG rfl (.tmp 81) (.tmp 91) _ rfl 0 Kh _ _ rfl rfl iH ND (FD ⟨0,[],p1.1,p1.2⟩) h63 hbytes (Nat.zero_le _) (fun v' w9 n' iI wD nQ=>?_);have t9:Turn (fun j=>dS.ownBlock=some j) w8 w9:=Turn.bP wD (fun j h=>h);have Mf:=TJ.turn t9 (fun h=>(hR.fo bl h).2.2.1 rfl);have Ki:=ah Yn t9 (fun h=>(hR.fo _ h).2.1 rfl);have Gu:=Hl w9 Mf;have e0:w9.cell? ⟨w.heap.size,0,none⟩=some (.int .i64 0):=(cell_of_row _ _ _ _ _ (0,0) Ki).trans rfl;have e1:w9.cell? ⟨w.heap.size,1,none⟩=some (.int .i64 0):=(cell_of_row _ _ _ _ _ (0,0) Ki).trans rfl;have e2:w9.cell? ⟨w.heap.size,2,none⟩=some (.int .i64 0):=(cell_of_row _ _ _ _ _ (0,0) Ki).trans rfl;have e3:w9.cell? ⟨w.heap.size,3,none⟩=some (.int .i64 0):=(cell_of_row _ _ _ _ _ (0,0) Ki).trans rfl;have g0:=bI Ki 0;have g1:=bI Ki 1;have g2:=bI Ki 2;have g3:=bI Ki 3;refine hK.out _ _ Gu (fun _=>?_);clear hK K
    try simp only [Act.put,sq]
    refine wpAnyH_take (i:=16) (v:=v') rfl (by kernel_rfl) (by kernel_rfl) (by kernel_rfl) (fun _ _ _ h=>h) (Or.inl ⟨by kernel_rfl,by intro w hSw;obtain⟨eu,gY,gZ⟩:=hSw;go_simp⟩) Gu ?_
    try simp only [Act.put,sq]
    refine wpAnyH_ready (rs:=[17]) (by kernel_rfl) (by simp) ?_;refine AllReadyH.cons rfl (fun K hK=>?_) AllReadyH.nil;go_simp;have t10:=yU w9 w.heap.size (.int .i64 0) (.int .i64 0) (.int .i64 0) (.int .i64 0);refine hK.out _ (GX w9 w.heap.size (.int .i64 0) (.int .i64 0) (.int .i64 0) (.int .i64 0)) (Hl _ (Mf.turn t10 (fun h=>hR.dl h.symm))) (fun _=>?_);clear hK K
    try simp only [Act.put,sq]
    refine wpAnyH_done (by kernel_rfl) ?_ _;go_wp2_with fail;refine bodyPost_ret (kJ rfl _ _ w.heap.size _ _ _ _ rfl (wC Ki _ _ _ _) Tryz.underlying45 rfl (by kernel_rfl)) rfl ?_;have EG:∀g,v'.ownBlock=some g->w.heap.size<=g∧g≠w.heap.size:=fun g hg=>by
     rcases nQ with h |h
     ·rw [h]at hg;exact⟨(hR.fo g hg).1,(hR.fo g hg).2.1⟩
     ·rw [h]at hg;injection hg with hg;subst hg;have:=hB.size;have:=Ho.size;exact⟨by omega,by omega⟩
    exact⟨v',n',by rw [HA.o];rfl,by rw [HA.o,vT];exact P7 (dL iI t10 (fun g hg h=>(EG g hg).2 h)) (fun g hg=>(EG g hg).1),((hB.trans (Ho.mono hB.size)).trans (t9.below (by have:=hB.size;have:=Ho.size;omega) (fun k hk h=>by have:=(hR.fo k h).1;omega))).trans (t10.below (by have:=hB.size;have:=Ho.size;have:=t9.size;omega) (fun k hk h=>by omega))⟩
   |cons c r=>
    have HLEN:=aZ hlen;have hNX:=PV wr bl bp c r p1 dS hR.lex (by have:=hR.b1;omega) (hX.below hB) hR.pairs;have GZ:=aZ hNX;clear hNX hlen c1 c2 c4 hS0 abX hdl;have hnz:¬(c :: r:Bt)=[]:=by simp
    go_wp2_with fail;refine GZ.o.mono ?_;rintro e w5 ⟨rfl,hb5⟩;have kK:=hR.below hb5;have JQ:Below w.heap.size w w5:=hB.trans (hb5.mono hB.size);have hb1:=kK.b1;have hb2:=kK.b2;clear GZ hR hB hb5 c0;have c1:=kK.lex.c1;have c2:=kK.lex.c2;have c4:=kK.lex.c4;have mZ:w5.drew.cell? ⟨bl,1,none⟩=some (.int .i64 p1.1)∧w5.drew.cell? ⟨bl,2,none⟩=some (.int .i64 p1.2)∧w5.drew.cell? ⟨bl,4,none⟩=some dS:=⟨c1,c2,c4⟩
    have heq:=kK.eq;unfold lexB at heq;rw [if_neg hnz]at heq;cases hn:fu (c :: r)with
    |inl e=>
     rw [hn]at heq;have Qa:ans=([],(p1.1,p1.2,e)):=heq.symm;have he0:=yP hn;clear heq hn;simp only [AX];go_wp2_with fail;have hA:=aZ Qa;have FH:w5.drew.heap[w.heap.size]? = _:=kK.diag;have e0:w5.drew.cell? ⟨w.heap.size,0,none⟩=some (.int .i64 0):=(cell_of_row _ _ _ _ _ (0,0) FH).trans rfl;have e1:w5.drew.cell? ⟨w.heap.size,1,none⟩=some (.int .i64 0):=(cell_of_row _ _ _ _ _ (0,0) FH).trans rfl;have e2:w5.drew.cell? ⟨w.heap.size,2,none⟩=some (.int .i64 0):=(cell_of_row _ _ _ _ _ (0,0) FH).trans rfl;have e3:w5.drew.cell? ⟨w.heap.size,3,none⟩=some (.int .i64 0):=(cell_of_row _ _ _ _ _ (0,0) FH).trans rfl;have g0:=bI FH 0;have g1:=bI FH 1;have g2:=bI FH 2;have g3:=bI FH 3;have g0':=bI kK.diag 0;have g1':=bI kK.diag 1;have g2':=bI kK.diag 2;have g3':=bI kK.diag 3;have e0':w5.cell? ⟨w.heap.size,0,none⟩=some (.int .i64 0):=(cell_of_row _ _ _ _ _ (0,0) kK.diag).trans rfl;have e1':w5.cell? ⟨w.heap.size,1,none⟩=some (.int .i64 0):=(cell_of_row _ _ _ _ _ (0,0) kK.diag).trans rfl;have e2':w5.cell? ⟨w.heap.size,2,none⟩=some (.int .i64 0):=(cell_of_row _ _ _ _ _ (0,0) kK.diag).trans rfl;have e3':w5.cell? ⟨w.heap.size,3,none⟩=some (.int .i64 0):=(cell_of_row _ _ _ _ _ (0,0) kK.diag).trans rfl;refine wp_region_held_drew (S:=fun w'=>w'.cell? ⟨bl,1,none⟩=some (.int .i64 p1.1)∧w'.cell? ⟨bl,2,none⟩=some (.int .i64 p1.2)∧w'.cell? ⟨bl,4,none⟩=some dS) (by kernel_rfl) mZ (fun _=>?_)
     try simp only [Act.put,sq]
     refine wpAnyH_take (i:=10) (v:=(.slice none 0 0)) rfl (by kernel_rfl) (by kernel_rfl) (by kernel_rfl) (fun _ _ _ h=>h) (Or.inl ⟨by kernel_rfl,by intro w hSw;obtain⟨eu,gY,gZ⟩:=hSw;go_simp⟩) mZ ?_
     try simp only [Act.put,sq]
     refine wpAnyH_take (i:=0) (v:=(.pointer (some ⟨bl,0,none⟩))) rfl (by kernel_rfl) (by kernel_rfl) (by kernel_rfl) (fun _ _ _ h=>h) (Or.inl ⟨by kernel_rfl,by intro w hSw;obtain⟨eu,gY,gZ⟩:=hSw;go_simp⟩) mZ ?_
     try simp only [Act.put,sq]
     refine wpAnyH_take (i:=1) (v:=(.pointer (some ⟨bl,0,none⟩))) rfl (by kernel_rfl) (by kernel_rfl) (by kernel_rfl) (fun _ _ _ h=>h) (Or.inl ⟨by kernel_rfl,by intro w hSw;obtain⟨eu,gY,gZ⟩:=hSw;go_simp⟩) mZ ?_
     try simp only [Act.put,sq]
     refine wpAnyH_take (i:=2) (v:=(.pointer (some ⟨bl,1,none⟩))) rfl (by kernel_rfl) (by kernel_rfl) (by kernel_rfl) (fun _ _ _ h=>h) (Or.inl ⟨by kernel_rfl,by intro w hSw;obtain⟨eu,gY,gZ⟩:=hSw;go_simp⟩) mZ ?_
     try simp only [Act.put,sq]
     refine wpAnyH_take (i:=3) (v:=(.int .i64 p1.1)) rfl (by kernel_rfl) (by kernel_rfl) (by kernel_rfl) (fun _ _ _ h=>h) (Or.inl ⟨by kernel_rfl,by intro w hSw;obtain⟨eu,gY,gZ⟩:=hSw;go_simp⟩) mZ ?_
     try simp only [Act.put,sq]
     refine wpAnyH_take (i:=4) (v:=(.pointer (some ⟨bl,0,none⟩))) rfl (by kernel_rfl) (by kernel_rfl) (by kernel_rfl) (fun _ _ _ h=>h) (Or.inl ⟨by kernel_rfl,by intro w hSw;obtain⟨eu,gY,gZ⟩:=hSw;go_simp⟩) mZ ?_
     try simp only [Act.put,sq]
     refine wpAnyH_take (i:=5) (v:=(.pointer (some ⟨bl,0,none⟩))) rfl (by kernel_rfl) (by kernel_rfl) (by kernel_rfl) (fun _ _ _ h=>h) (Or.inl ⟨by kernel_rfl,by intro w hSw;obtain⟨eu,gY,gZ⟩:=hSw;go_simp⟩) mZ ?_
     try simp only [Act.put,sq]
     refine wpAnyH_take (i:=6) (v:=(.pointer (some ⟨bl,2,none⟩))) rfl (by kernel_rfl) (by kernel_rfl) (by kernel_rfl) (fun _ _ _ h=>h) (Or.inl ⟨by kernel_rfl,by intro w hSw;obtain⟨eu,gY,gZ⟩:=hSw;go_simp⟩) mZ ?_
     try simp only [Act.put,sq]
     refine wpAnyH_take (i:=7) (v:=(.int .i64 p1.2)) rfl (by kernel_rfl) (by kernel_rfl) (by kernel_rfl) (fun _ _ _ h=>h) (Or.inl ⟨by kernel_rfl,by intro w hSw;obtain⟨eu,gY,gZ⟩:=hSw;go_simp⟩) mZ ?_
     try simp only [Act.put,sq]
     refine wpAnyH_take (i:=8) (v:=(.int .i64 e)) rfl (by kernel_rfl) (by kernel_rfl) (by kernel_rfl) (fun _ _ _ h=>h) (Or.inl ⟨by kernel_rfl,by intro w hSw;obtain⟨eu,gY,gZ⟩:=hSw;go_simp⟩) mZ ?_
     try simp only [Act.put,sq]
     refine wpAnyH_take (i:=9) (v:=(.agg #[.int .i64 0,.int .i64 p1.1,.int .i64 p1.2,.int .i64 e])) rfl (by kernel_rfl) (by kernel_rfl) (by kernel_rfl) (fun _ _ _ h=>h) (Or.inl ⟨by kernel_rfl,by intro w hSw;obtain⟨eu,gY,gZ⟩:=hSw;go_simp⟩) mZ ?_
     try simp only [Act.put,sq]
     refine wpAnyH_ready (rs:=[11]) (by kernel_rfl) (by simp) ?_;refine AllReadyH.cons rfl (fun K hK=>?_) AllReadyH.nil;go_simp;have t10:=yU w5.drew w.heap.size (.int .i64 0) (.int .i64 p1.1) (.int .i64 p1.2) (.int .i64 e);refine hK.out _ (GX w5.drew w.heap.size (.int .i64 0) (.int .i64 p1.1) (.int .i64 p1.2) (.int .i64 e)) (Hl _ ((kK.lex.turn (Turn.drewN (fun _=>False) w5 1) id).turn t10 (fun h=>kK.dl h.symm))) (fun _=>?_);clear hK K
     try simp only [Act.put,sq]
     refine wpAnyH_done (by kernel_rfl) ?_ _;go_wp2_with fail;refine bodyPost_ret (kJ rfl _ _ w.heap.size _ _ _ _ rfl (wC FH _ _ _ _) Tryz.underlying45 rfl (by kernel_rfl)) rfl ?_;exact⟨.slice none 0 0,0,by rw [hA.o];rfl,by rw [hA.o];exact World.ownsRow_nil _ _ _ _,(JQ.trans (aH w5 1 |>.mono JQ.size)).trans (t10.below JQ.size (fun k hk h=>by omega))⟩
    |inr x=>
     obtain⟨kd,t,n⟩:=x;rw [hn]at heq;obtain⟨n1,n2⟩:=BX hn;obtain⟨A0,C0,rfl⟩:∃A C,dS=.slice A out.length C:=by
      rcases kK.row.2 with⟨h,h0⟩ |⟨g,cap,cur,h,_⟩
      ·exact⟨none,0,by rw [h,h0]⟩
      ·exact⟨_,_,h⟩
     by_cases h8:out.length=8192
     ·have Qa:ans=([],(p1.1,p1.2,19)):=by simp only at heq;rw [if_pos h8]at heq;exact heq.symm
      have h8':(out.length:Int)=8192:=by omega
      clear heq hn;simp only [AX];go_wp2_with fail;have hA:=aZ Qa;have FH:w5.drew.heap[w.heap.size]? = _:=kK.diag;have e0:w5.drew.cell? ⟨w.heap.size,0,none⟩=some (.int .i64 0):=(cell_of_row _ _ _ _ _ (0,0) FH).trans rfl;have e1:w5.drew.cell? ⟨w.heap.size,1,none⟩=some (.int .i64 0):=(cell_of_row _ _ _ _ _ (0,0) FH).trans rfl;have e2:w5.drew.cell? ⟨w.heap.size,2,none⟩=some (.int .i64 0):=(cell_of_row _ _ _ _ _ (0,0) FH).trans rfl;have e3:w5.drew.cell? ⟨w.heap.size,3,none⟩=some (.int .i64 0):=(cell_of_row _ _ _ _ _ (0,0) FH).trans rfl;have g0:=bI FH 0;have g1:=bI FH 1;have g2:=bI FH 2;have g3:=bI FH 3;have g0':=bI kK.diag 0;have g1':=bI kK.diag 1;have g2':=bI kK.diag 2;have g3':=bI kK.diag 3;have e0':w5.cell? ⟨w.heap.size,0,none⟩=some (.int .i64 0):=(cell_of_row _ _ _ _ _ (0,0) kK.diag).trans rfl;have e1':w5.cell? ⟨w.heap.size,1,none⟩=some (.int .i64 0):=(cell_of_row _ _ _ _ _ (0,0) kK.diag).trans rfl;have e2':w5.cell? ⟨w.heap.size,2,none⟩=some (.int .i64 0):=(cell_of_row _ _ _ _ _ (0,0) kK.diag).trans rfl;have e3':w5.cell? ⟨w.heap.size,3,none⟩=some (.int .i64 0):=(cell_of_row _ _ _ _ _ (0,0) kK.diag).trans rfl;refine wp_region_held_drew (S:=fun w'=>w'.cell? ⟨bl,1,none⟩=some (.int .i64 p1.1)∧w'.cell? ⟨bl,2,none⟩=some (.int .i64 p1.2)∧w'.cell? ⟨bl,4,none⟩=some (.slice A0 out.length C0)) (by kernel_rfl) mZ (fun _=>?_)
      try simp only [Act.put,sq]
      refine wpAnyH_take (i:=10) (v:=(.slice none 0 0)) rfl (by kernel_rfl) (by kernel_rfl) (by kernel_rfl) (fun _ _ _ h=>h) (Or.inl ⟨by kernel_rfl,by intro w hSw;obtain⟨eu,gY,gZ⟩:=hSw;go_simp⟩) mZ ?_
      try simp only [Act.put,sq]
      refine wpAnyH_take (i:=0) (v:=(.pointer (some ⟨bl,0,none⟩))) rfl (by kernel_rfl) (by kernel_rfl) (by kernel_rfl) (fun _ _ _ h=>h) (Or.inl ⟨by kernel_rfl,by intro w hSw;obtain⟨eu,gY,gZ⟩:=hSw;go_simp⟩) mZ ?_
      try simp only [Act.put,sq]
      refine wpAnyH_take (i:=1) (v:=(.pointer (some ⟨bl,0,none⟩))) rfl (by kernel_rfl) (by kernel_rfl) (by kernel_rfl) (fun _ _ _ h=>h) (Or.inl ⟨by kernel_rfl,by intro w hSw;obtain⟨eu,gY,gZ⟩:=hSw;go_simp⟩) mZ ?_
      try simp only [Act.put,sq]
      refine wpAnyH_take (i:=2) (v:=(.pointer (some ⟨bl,1,none⟩))) rfl (by kernel_rfl) (by kernel_rfl) (by kernel_rfl) (fun _ _ _ h=>h) (Or.inl ⟨by kernel_rfl,by intro w hSw;obtain⟨eu,gY,gZ⟩:=hSw;go_simp⟩) mZ ?_
      try simp only [Act.put,sq]
      refine wpAnyH_take (i:=3) (v:=(.int .i64 p1.1)) rfl (by kernel_rfl) (by kernel_rfl) (by kernel_rfl) (fun _ _ _ h=>h) (Or.inl ⟨by kernel_rfl,by intro w hSw;obtain⟨eu,gY,gZ⟩:=hSw;go_simp⟩) mZ ?_
      try simp only [Act.put,sq]
      refine wpAnyH_take (i:=4) (v:=(.pointer (some ⟨bl,0,none⟩))) rfl (by kernel_rfl) (by kernel_rfl) (by kernel_rfl) (fun _ _ _ h=>h) (Or.inl ⟨by kernel_rfl,by intro w hSw;obtain⟨eu,gY,gZ⟩:=hSw;go_simp⟩) mZ ?_
      try simp only [Act.put,sq]
      refine wpAnyH_take (i:=5) (v:=(.pointer (some ⟨bl,0,none⟩))) rfl (by kernel_rfl) (by kernel_rfl) (by kernel_rfl) (fun _ _ _ h=>h) (Or.inl ⟨by kernel_rfl,by intro w hSw;obtain⟨eu,gY,gZ⟩:=hSw;go_simp⟩) mZ ?_
      try simp only [Act.put,sq]
      refine wpAnyH_take (i:=6) (v:=(.pointer (some ⟨bl,2,none⟩))) rfl (by kernel_rfl) (by kernel_rfl) (by kernel_rfl) (fun _ _ _ h=>h) (Or.inl ⟨by kernel_rfl,by intro w hSw;obtain⟨eu,gY,gZ⟩:=hSw;go_simp⟩) mZ ?_
      try simp only [Act.put,sq]
      refine wpAnyH_take (i:=7) (v:=(.int .i64 p1.2)) rfl (by kernel_rfl) (by kernel_rfl) (by kernel_rfl) (fun _ _ _ h=>h) (Or.inl ⟨by kernel_rfl,by intro w hSw;obtain⟨eu,gY,gZ⟩:=hSw;go_simp⟩) mZ ?_
      try simp only [Act.put,sq]
      refine wpAnyH_take (i:=8) (v:=(.int .i64 19)) rfl (by kernel_rfl) (by kernel_rfl) (by kernel_rfl) (fun _ _ _ h=>h) (Or.inl ⟨by kernel_rfl,by intro w hSw;obtain⟨eu,gY,gZ⟩:=hSw;go_simp⟩) mZ ?_
      try simp only [Act.put,sq]
      refine wpAnyH_take (i:=9) (v:=(.agg #[.int .i64 0,.int .i64 p1.1,.int .i64 p1.2,.int .i64 19])) rfl (by kernel_rfl) (by kernel_rfl) (by kernel_rfl) (fun _ _ _ h=>h) (Or.inl ⟨by kernel_rfl,by intro w hSw;obtain⟨eu,gY,gZ⟩:=hSw;go_simp⟩) mZ ?_
      try simp only [Act.put,sq]
      refine wpAnyH_ready (rs:=[11]) (by kernel_rfl) (by simp) ?_;refine AllReadyH.cons rfl (fun K hK=>?_) AllReadyH.nil;go_simp;have t10:=yU w5.drew w.heap.size (.int .i64 0) (.int .i64 p1.1) (.int .i64 p1.2) (.int .i64 19);refine hK.out _ (GX w5.drew w.heap.size (.int .i64 0) (.int .i64 p1.1) (.int .i64 p1.2) (.int .i64 19)) (Hl _ ((kK.lex.turn (Turn.drewN (fun _=>False) w5 1) id).turn t10 (fun h=>kK.dl h.symm))) (fun _=>?_);clear hK K
      try simp only [Act.put,sq]
      refine wpAnyH_done (by kernel_rfl) ?_ _;go_wp2_with fail;refine bodyPost_ret (kJ rfl _ _ w.heap.size _ _ _ _ rfl (wC FH _ _ _ _) Tryz.underlying45 rfl (by kernel_rfl)) rfl ?_;exact⟨.slice none 0 0,0,by rw [hA.o];rfl,by rw [hA.o];exact World.ownsRow_nil _ _ _ _,(JQ.trans (aH w5 1 |>.mono JQ.size)).trans (t10.below JQ.size (fun k hk h=>by omega))⟩
     ·have h8':¬(out.length:Int)=8192:=by omega
      clear heq;have HN:=aZ hn;simp only [AX];go_wp2_with fail;have hn:=HN.o;have Ho:Below w5.heap.size w5 (w5.drew.alloc (.cells #[.int .i64 kd,sv t,.int .i64 p1.1,.int .i64 p1.2] 154)):=(aH w5 1).alloc (Nat.le_refl _) _;have TJ:=kK.lex.turn (Turn.of_below (F:=fun _=>False) Ho) id;have Yn:=ah kK.diag (Turn.of_below (F:=fun _=>False) Ho) id;have iH:=own_below kK.row Ho;have P9:=kK.pairs.turn (Turn.of_below (F:=fun _=>False) Ho) id;have ND:Sl (w5.drew.alloc (.cells #[.int .i64 kd,sv t,.int .i64 p1.1,.int .i64 p1.2] 154)) (w5.heap.size+1) 4 (.slice (some ⟨w5.heap.size,0,none⟩) 1 1) (uq ⟨kd,t,p1.1,p1.2⟩):=iB w5.drew _ _ 4 1 rfl (by decide);have h63:out.length*4+(uq ⟨kd,t,p1.1,p1.2⟩).length<=maxLen:=by have:=kK.PY;show out.length*4+4<=maxLen;unfold maxLen;omega
      have hbytes:(out.length*4+(uq ⟨kd,t,p1.1,p1.2⟩).length)*40<=140737488355328:=by have:=kK.PY;show(out.length*4+4)*40<= _;omega
      generalize hw8:w5.drew.alloc (.cells #[.int .i64 kd,sv t,.int .i64 p1.1,.int .i64 p1.2] 154)=w8 at*
      have Tg:=Hl w8 TJ;have c48:=TJ.c4;have uw:w5.drew.cell? ⟨bl,1,none⟩=some (.int .i64 p1.1)∧w5.drew.cell? ⟨bl,2,none⟩=some (.int .i64 p1.2)∧True:=⟨c1,c2,trivial⟩
      have c4d:w5.drew.cell? ⟨bl,4,none⟩=some (.slice A0 out.length C0):=c4;refine wp_region_held_drew (S:=fun w'=>w'.cell? ⟨bl,1,none⟩=some (.int .i64 p1.1)∧w'.cell? ⟨bl,2,none⟩=some (.int .i64 p1.2)∧True) (by kernel_rfl) uw (fun _=>?_)
      try simp only [Act.put,sq]
      refine wpAnyH_take (i:=0) (v:=(.pointer (some ⟨bl,0,none⟩))) rfl (by kernel_rfl) (by kernel_rfl) (by kernel_rfl) (fun _ _ _ h=>h) (Or.inl ⟨by kernel_rfl,by intro w hSw;obtain⟨eu,gY,gZ⟩:=hSw;go_simp⟩) uw ?_
      try simp only [Act.put,sq]
      refine wpAnyH_take (i:=1) (v:=(.pointer (some ⟨bl,0,none⟩))) rfl (by kernel_rfl) (by kernel_rfl) (by kernel_rfl) (fun _ _ _ h=>h) (Or.inl ⟨by kernel_rfl,by intro w hSw;obtain⟨eu,gY,gZ⟩:=hSw;go_simp⟩) uw ?_
      try simp only [Act.put,sq]
      refine wpAnyH_take (i:=2) (v:=(.pointer (some ⟨bl,0,none⟩))) rfl (by kernel_rfl) (by kernel_rfl) (by kernel_rfl) (fun _ _ _ h=>h) (Or.inl ⟨by kernel_rfl,by intro w hSw;obtain⟨eu,gY,gZ⟩:=hSw;go_simp⟩) uw ?_
      try simp only [Act.put,sq]
      refine wpAnyH_take (i:=3) (v:=(.pointer (some ⟨bl,4,none⟩))) rfl (by kernel_rfl) (by kernel_rfl) (by kernel_rfl) (fun _ _ _ h=>h) (Or.inl ⟨by kernel_rfl,by intro w hSw;obtain⟨eu,gY,gZ⟩:=hSw;go_simp⟩) uw ?_
      try simp only [Act.put,sq]
      refine wpAnyH_take (i:=5) (v:=(.int .i64 kd)) rfl (by kernel_rfl) (by kernel_rfl) (by kernel_rfl) (fun _ _ _ h=>h) (Or.inl ⟨by kernel_rfl,by intro w hSw;obtain⟨eu,gY,gZ⟩:=hSw;go_simp⟩) uw ?_
      try simp only [Act.put,sq]
      refine wpAnyH_take (i:=6) (v:=(sv t)) rfl (by kernel_rfl) (by kernel_rfl) (by kernel_rfl) (fun _ _ _ h=>h) (Or.inl ⟨by kernel_rfl,by intro w hSw;obtain⟨eu,gY,gZ⟩:=hSw;go_simp⟩) uw ?_
      try simp only [Act.put,sq]
      refine wpAnyH_take (i:=7) (v:=(.pointer (some ⟨bl,0,none⟩))) rfl (by kernel_rfl) (by kernel_rfl) (by kernel_rfl) (fun _ _ _ h=>h) (Or.inl ⟨by kernel_rfl,by intro w hSw;obtain⟨eu,gY,gZ⟩:=hSw;go_simp⟩) uw ?_
      try simp only [Act.put,sq]
      refine wpAnyH_take (i:=8) (v:=(.pointer (some ⟨bl,0,none⟩))) rfl (by kernel_rfl) (by kernel_rfl) (by kernel_rfl) (fun _ _ _ h=>h) (Or.inl ⟨by kernel_rfl,by intro w hSw;obtain⟨eu,gY,gZ⟩:=hSw;go_simp⟩) uw ?_
      try simp only [Act.put,sq]
      refine wpAnyH_take (i:=9) (v:=(.pointer (some ⟨bl,1,none⟩))) rfl (by kernel_rfl) (by kernel_rfl) (by kernel_rfl) (fun _ _ _ h=>h) (Or.inl ⟨by kernel_rfl,by intro w hSw;obtain⟨eu,gY,gZ⟩:=hSw;go_simp⟩) uw ?_
      try simp only [Act.put,sq]
      refine wpAnyH_take (i:=10) (v:=(.int .i64 p1.1)) rfl (by kernel_rfl) (by kernel_rfl) (by kernel_rfl) (fun _ _ _ h=>h) (Or.inl ⟨by kernel_rfl,by intro w hSw;obtain⟨eu,gY,gZ⟩:=hSw;go_simp⟩) uw ?_
      try simp only [Act.put,sq]
      refine wpAnyH_take (i:=11) (v:=(.pointer (some ⟨bl,0,none⟩))) rfl (by kernel_rfl) (by kernel_rfl) (by kernel_rfl) (fun _ _ _ h=>h) (Or.inl ⟨by kernel_rfl,by intro w hSw;obtain⟨eu,gY,gZ⟩:=hSw;go_simp⟩) uw ?_
      try simp only [Act.put,sq]
      refine wpAnyH_take (i:=12) (v:=(.pointer (some ⟨bl,0,none⟩))) rfl (by kernel_rfl) (by kernel_rfl) (by kernel_rfl) (fun _ _ _ h=>h) (Or.inl ⟨by kernel_rfl,by intro w hSw;obtain⟨eu,gY,gZ⟩:=hSw;go_simp⟩) uw ?_
      try simp only [Act.put,sq]
      refine wpAnyH_take (i:=13) (v:=(.pointer (some ⟨bl,2,none⟩))) rfl (by kernel_rfl) (by kernel_rfl) (by kernel_rfl) (fun _ _ _ h=>h) (Or.inl ⟨by kernel_rfl,by intro w hSw;obtain⟨eu,gY,gZ⟩:=hSw;go_simp⟩) uw ?_
      try simp only [Act.put,sq]
      refine wpAnyH_take (i:=14) (v:=(.int .i64 p1.2)) rfl (by kernel_rfl) (by kernel_rfl) (by kernel_rfl) (fun _ _ _ h=>h) (Or.inl ⟨by kernel_rfl,by intro w hSw;obtain⟨eu,gY,gZ⟩:=hSw;go_simp⟩) uw ?_
      try simp only [Act.put,sq]
      refine wpAnyH_take (i:=15) (v:=(.agg #[.int .i64 kd,sv t,.int .i64 p1.1,.int .i64 p1.2])) rfl (by kernel_rfl) (by kernel_rfl) (by kernel_rfl) (fun _ _ _ h=>h) (Or.inl ⟨by kernel_rfl,by intro w hSw;obtain⟨eu,gY,gZ⟩:=hSw;go_simp⟩) uw ?_
      try simp only [Act.put,sq]
      refine wpAnyH_ready (rs:=[4,16]) (by kernel_rfl) (by simp) ?_;refine AllReadyH.cons rfl (fun K hK=>?_) (AllReadyH.cons rfl (fun K hK=>?_) AllReadyH.nil)
      ·go_simp;refine hK.out _ _ uw (fun _=>?_);clear hK K
       try simp only [Act.put,sq]
       refine wpAnyH_ready (rs:=[16]) (by kernel_rfl) (by simp) ?_;refine AllReadyH.cons rfl (fun K hK=>?_) AllReadyH.nil;go_simp
       try rw [hw8]
       refine hK.out _ _ ⟨Tg.1,Tg.2.1,trivial⟩ (fun _=>?_);clear hK K
       try simp only [Act.put,sq]
       refine wpAnyH_ready (rs:=[17]) (by kernel_rfl) (by simp) ?_;refine AllReadyH.cons rfl (fun K hK=>?_) AllReadyH.nil;refine gG rfl (.tmp 59) (.tmp 71) _ rfl 0 Kh _ _ rfl rfl iH ND (FD ⟨kd,t,p1.1,p1.2⟩) h63 hbytes (Nat.zero_le _) (fun v' w9 n' iI wD nQ=>?_);obtain rfl:n'=out.length+1:=by have h1:=iI.1;have h2:=iH.1;rw [List.length_append,h2]at h1;have h3:(uq ⟨kd,t,p1.1,p1.2⟩).length=4:=rfl;omega
       obtain⟨g9,c9,rfl,_,_,_,_⟩:=dR iI (by omega);have t9:Turn (fun j=>(Value.slice A0 out.length C0).ownBlock=some j) w8 w9:=Turn.bP wD (fun j h=>h);have Mf:=TJ.turn t9 (fun h=>(kK.fo bl h).2.2.1 rfl);have Ki:=ah Yn t9 (fun h=>(kK.fo _ h).2.1 rfl);have YX:=P9.turn t9 (fun h=>(kK.fo _ h).2.2.2 rfl);have Gu:=Hl w9 Mf;have e4:=Mf.c4;have g4:=Mf.free 4;refine hK.out _ _ ⟨Gu.1,Gu.2.1,trivial⟩ (fun _=>?_);clear hK K
       try simp only [Act.put,sq]
       refine wpAnyH_ready (rs:=[18]) (by kernel_rfl) (by simp) ?_;refine AllReadyH.cons rfl (fun K hK=>?_) AllReadyH.nil;go_simp;refine hK.out _ _ ⟨Gu.1,Gu.2.1,trivial⟩ (fun _=>?_);clear hK K
       try simp only [Act.put,sq]
       refine wpAnyH_ready (rs:=[19]) (by kernel_rfl) (by simp) ?_;refine AllReadyH.cons rfl (fun K hK=>?_) AllReadyH.nil;go_simp;refine hK.out _ _ ⟨Gu.1,Gu.2.1,trivial⟩ (fun _=>?_);clear hK K
       try simp only [Act.put,sq]
       refine wpAnyH_ready (rs:=[20]) (by kernel_rfl) (by simp) ?_;refine AllReadyH.cons rfl (fun K hK=>?_) AllReadyH.nil;go_simp;have FI:=Mf.GX (.slice (some ⟨g9,0,none⟩) (out.length+1) c9);have t10:=ak w9 bl 4 (.slice (some ⟨g9,0,none⟩) (out.length+1) c9);refine hK.out _ _ ⟨FI.c1,FI.c2,trivial⟩ (fun _=>?_);clear hK K
       try simp only [Act.put,sq]
       refine wpAnyH_done (by kernel_rfl) ?_ _;have Qb:=Ho.size;have abY:bp<w5.heap.size:=by obtain⟨_,_,_,h,_⟩:=kK.pairs;exact h.lt
       have abZ:=kK.lex.lt;have ab0:=block_lt kK.diag;have EG:∀g,(Value.slice (some ⟨g9,0,none⟩) (out.length+1) c9).ownBlock=some g->w.heap.size<=g∧g≠w.heap.size∧g≠bl∧g≠bp:=fun g hg=>by
        rcases nQ with h |h
        ·rw [h]at hg;exact kK.fo g hg
        ·rw [h]at hg;injection hg with hg;subst hg;have:=JQ.size;exact⟨by omega,by omega,by omega,by omega⟩
       have Cm:=dL iI t10 (fun g hg h=>(EG g hg).2.2.1 h);have Qd:=ah Ki t10 kK.dl;have Qe:=YX.turn t10 (fun h=>kK.lp h.symm);have Qf:Below w.heap.size w (w9.setCell ⟨bl,4,none⟩ (.slice (some ⟨g9,0,none⟩) (out.length+1) c9)):=((JQ.trans (Ho.mono JQ.size)).trans (t9.below (Nat.le_trans JQ.size Qb) (fun k hk h=>by have:=(kK.fo k h).1;omega))).trans (t10.below (Nat.le_trans (Nat.le_trans JQ.size Qb) t9.size) (fun k hk h=>by have:=kK.hl;omega));clear iI wD nQ t9 t10 Mf Ki YX Gu e4 g4 iH ND TJ Yn P9 Tg hw8 mZ;generalize(w9.setCell ⟨bl,4,none⟩ (.slice (some ⟨g9,0,none⟩) (out.length+1) c9))=oU at*
       go_wp2_with fail;refine(um oU bl bp (c :: r) p1 _ n FI n2 (by omega) (by omega)).mono ?_;rintro e Qg ⟨rfl,Qh,t11⟩;have l1:=qX ((c :: r).take n) kK.b3;have ab1:((c :: r).take n).length<=n:=by rw [List.length_take];omega
       have ab2:((c :: r).drop n).length<=(c :: r).length:=by rw [List.length_drop];omega
       go_wp2_with fail;refine(wz Qg bl bp ((c :: r).drop n) (gF p1 ((c :: r).take n)) _ Qh (by omega) (by omega) l1.2.2).mono ?_;rintro e w12 ⟨rfl,Qi,t12⟩;have uy:=t11.trans t12 (fun _ _ h=>h);have Ws:Below w.heap.size w w12:=Qf.trans (uy.below Qf.size (fun k hk h=>by have:=kK.hl;omega));obtain⟨f',s2,p2,out',hR',hm'⟩:=kK.next hn h8 (dL Cm uy (fun g hg h=>(EG g hg).2.2.1 h)) EG (ah Qd uy kK.dl) (Qe.turn uy (fun h=>kK.lp h.symm)) Qi;have hm2:=qW hR'.lex;have HR:=aZ hR';have HM:=aZ hm2;have PE:=aZ hm';clear hR' hm2 hm' Qi Qh FI t11 t12 uy Cm Qd Qe;go_wp2_with fail
       go_roundw
       case rel=>exact⟨Ws,f',s2,p2,_,out',HR.o⟩
       case measure=>have:=HLEN.o;have:=HM.o;have:=PE.o;omega
      ·go_simp
       try rw [hw8]
       refine hK.out _ _ ⟨Tg.1,Tg.2.1,trivial⟩ (fun _=>?_);clear hK K
       try simp only [Act.put,sq]
       refine wpAnyH_ready (rs:=[4]) (by kernel_rfl) (by simp) ?_;refine AllReadyH.cons rfl (fun K hK=>?_) AllReadyH.nil;go_simp;refine hK.out _ _ ⟨Tg.1,Tg.2.1,trivial⟩ (fun _=>?_);clear hK K
       try simp only [Act.put,sq]
       refine wpAnyH_ready (rs:=[17]) (by kernel_rfl) (by simp) ?_;refine AllReadyH.cons rfl (fun K hK=>?_) AllReadyH.nil;refine gG rfl (.tmp 59) (.tmp 71) _ rfl 0 Kh _ _ rfl rfl iH ND (FD ⟨kd,t,p1.1,p1.2⟩) h63 hbytes (Nat.zero_le _) (fun v' w9 n' iI wD nQ=>?_);obtain rfl:n'=out.length+1:=by have h1:=iI.1;have h2:=iH.1;rw [List.length_append,h2]at h1;have h3:(uq ⟨kd,t,p1.1,p1.2⟩).length=4:=rfl;omega
       obtain⟨g9,c9,rfl,_,_,_,_⟩:=dR iI (by omega);have t9:Turn (fun j=>(Value.slice A0 out.length C0).ownBlock=some j) w8 w9:=Turn.bP wD (fun j h=>h);have Mf:=TJ.turn t9 (fun h=>(kK.fo bl h).2.2.1 rfl);have Ki:=ah Yn t9 (fun h=>(kK.fo _ h).2.1 rfl);have YX:=P9.turn t9 (fun h=>(kK.fo _ h).2.2.2 rfl);have Gu:=Hl w9 Mf;have e4:=Mf.c4;have g4:=Mf.free 4;refine hK.out _ _ ⟨Gu.1,Gu.2.1,trivial⟩ (fun _=>?_);clear hK K
       try simp only [Act.put,sq]
       refine wpAnyH_ready (rs:=[18]) (by kernel_rfl) (by simp) ?_;refine AllReadyH.cons rfl (fun K hK=>?_) AllReadyH.nil;go_simp;refine hK.out _ _ ⟨Gu.1,Gu.2.1,trivial⟩ (fun _=>?_);clear hK K
       try simp only [Act.put,sq]
       refine wpAnyH_ready (rs:=[19]) (by kernel_rfl) (by simp) ?_;refine AllReadyH.cons rfl (fun K hK=>?_) AllReadyH.nil;go_simp;refine hK.out _ _ ⟨Gu.1,Gu.2.1,trivial⟩ (fun _=>?_);clear hK K
       try simp only [Act.put,sq]
       refine wpAnyH_ready (rs:=[20]) (by kernel_rfl) (by simp) ?_;refine AllReadyH.cons rfl (fun K hK=>?_) AllReadyH.nil;go_simp;have FI:=Mf.GX (.slice (some ⟨g9,0,none⟩) (out.length+1) c9);have t10:=ak w9 bl 4 (.slice (some ⟨g9,0,none⟩) (out.length+1) c9);refine hK.out _ _ ⟨FI.c1,FI.c2,trivial⟩ (fun _=>?_);clear hK K
       try simp only [Act.put,sq]
       refine wpAnyH_done (by kernel_rfl) ?_ _;have Qb:=Ho.size;have abY:bp<w5.heap.size:=by obtain⟨_,_,_,h,_⟩:=kK.pairs;exact h.lt
       have abZ:=kK.lex.lt;have ab0:=block_lt kK.diag;have EG:∀g,(Value.slice (some ⟨g9,0,none⟩) (out.length+1) c9).ownBlock=some g->w.heap.size<=g∧g≠w.heap.size∧g≠bl∧g≠bp:=fun g hg=>by
        rcases nQ with h |h
        ·rw [h]at hg;exact kK.fo g hg
        ·rw [h]at hg;injection hg with hg;subst hg;have:=JQ.size;exact⟨by omega,by omega,by omega,by omega⟩
       have Cm:=dL iI t10 (fun g hg h=>(EG g hg).2.2.1 h);have Qd:=ah Ki t10 kK.dl;have Qe:=YX.turn t10 (fun h=>kK.lp h.symm);have Qf:Below w.heap.size w (w9.setCell ⟨bl,4,none⟩ (.slice (some ⟨g9,0,none⟩) (out.length+1) c9)):=((JQ.trans (Ho.mono JQ.size)).trans (t9.below (Nat.le_trans JQ.size Qb) (fun k hk h=>by have:=(kK.fo k h).1;omega))).trans (t10.below (Nat.le_trans (Nat.le_trans JQ.size Qb) t9.size) (fun k hk h=>by have:=kK.hl;omega));clear iI wD nQ t9 t10 Mf Ki YX Gu e4 g4 iH ND TJ Yn P9 Tg hw8 mZ;generalize(w9.setCell ⟨bl,4,none⟩ (.slice (some ⟨g9,0,none⟩) (out.length+1) c9))=oU at*
       go_wp2_with fail;refine(um oU bl bp (c :: r) p1 _ n FI n2 (by omega) (by omega)).mono ?_;rintro e Qg ⟨rfl,Qh,t11⟩;have l1:=qX ((c :: r).take n) kK.b3;have ab1:((c :: r).take n).length<=n:=by rw [List.length_take];omega
       have ab2:((c :: r).drop n).length<=(c :: r).length:=by rw [List.length_drop];omega
       go_wp2_with fail;refine(wz Qg bl bp ((c :: r).drop n) (gF p1 ((c :: r).take n)) _ Qh (by omega) (by omega) l1.2.2).mono ?_;rintro e w12 ⟨rfl,Qi,t12⟩;have uy:=t11.trans t12 (fun _ _ h=>h);have Ws:Below w.heap.size w w12:=Qf.trans (uy.below Qf.size (fun k hk h=>by have:=kK.hl;omega));obtain⟨f',s2,p2,out',hR',hm'⟩:=kK.next hn h8 (dL Cm uy (fun g hg h=>(EG g hg).2.2.1 h)) EG (ah Qd uy kK.dl) (Qe.turn uy (fun h=>kK.lp h.symm)) Qi;have hm2:=qW hR'.lex;have HR:=aZ hR';have HM:=aZ hm2;have PE:=aZ hm';clear hR' hm2 hm' Qi Qh FI t11 t12 uy Cm Qd Qe;go_wp2_with fail
       go_roundw
       case rel=>exact⟨Ws,f',s2,p2,_,out',HR.o⟩
       case measure=>have:=HLEN.o;have:=HM.o;have:=PE.o;omega
end
theorem Qj (w:World)(s:Bt)(hX:kX w)(hs:s.length<=281474976710656):Calls Tryz.prog 77 #[sv s] w fun e w'=>e=.returned (.bool (dM s))∧Below w.heap.size w w':=by
 have hsz:=aT s;cases s with
 |nil=>
  have ha:dM []=false:=rfl;rw [ha];go_enter Tryz.func77,Tryz.ntmps77;go_wp2_with fail;go_ret;exact⟨rfl,Below.refl _ _⟩
 |cons c r=>
  have hix:(ByteArray.mk (c :: r).toArray)[0]'(by rw [aT];simp)=c:=gL (c :: r) 0 (by simp);have hl0:(0:Int)<(r.length:Int)+1:=by omega
  have hnz:((c :: r:Bt)==[])=false:=rfl;have ha:dM (c :: r)=(decide ((c :: r).length<=32) && gD c && decide (dQ bE (c :: r)=(c :: r).length) && !decide ((c :: r)∈fQ)):=rfl;have fI:=aZ (ED (c :: r) w hs);generalize dQ bE (c :: r)=n at*
  by_cases h32:(c :: r).length<=32
  ·have ab4:(r.length:Int)+1<=32:=by simp only [List.length_cons]at h32;omega
   rw [decide_eq_true h32,Bool.true_and]at ha;clear h32;cases hl:gD c
   ·rw [hl]at ha;simp only [Bool.false_and]at ha;rw [ha];clear ha;go_enter Tryz.func77,Tryz.ntmps77;go_wp2_with fail;refine(jM c _).mono ?_;rintro e w1 ⟨rfl,rfl⟩;rw [hl];go_wp2_with fail;go_ret;exact⟨rfl,Below.refl _ _⟩
   ·rw [hl,Bool.true_and]at ha;by_cases hn:n=(c :: r).length
    ·rw [decide_eq_true hn,Bool.true_and]at ha;have hn':(n:Int)=(r.length:Int)+1:=by rw [hn];simp
     clear hn;rw [ha];clear ha;generalize hq:decide ((c :: r)∈fQ)=q;go_enter Tryz.func77,Tryz.ntmps77;go_wp2_with fail;refine(jM c _).mono ?_;rintro e w1 ⟨rfl,rfl⟩;rw [hl];go_wp2_with fail;refine fI.o.mono ?_;rintro e w2 ⟨rfl,rfl⟩;go_wp2_with fail;refine(yT _ hX).mono ?_;rintro e w3 ⟨v3,rfl,ab5,hb3⟩;go_wp2_with fail;refine(nZ v3 fQ (c :: r) _ ab5).mono ?_;rintro e w4 ⟨rfl,rfl⟩;rw [hq];go_wp2_with fail;go_ret;exact⟨rfl,hb3⟩
    ·rw [decide_eq_false hn,Bool.false_and]at ha;have hn':¬(n:Int)=(r.length:Int)+1:=by intro h;apply hn;simp;omega
     clear hn;rw [ha];clear ha;go_enter Tryz.func77,Tryz.ntmps77;go_wp2_with fail;refine(jM c _).mono ?_;rintro e w1 ⟨rfl,rfl⟩;rw [hl];go_wp2_with fail;refine fI.o.mono ?_;rintro e w2 ⟨rfl,rfl⟩;go_wp2_with fail;go_ret;exact⟨rfl,Below.refl _ _⟩
  ·have ab4:¬(r.length:Int)+1<=32:=by simp only [List.length_cons]at h32;omega
   rw [decide_eq_false h32]at ha;simp only [Bool.false_and]at ha;clear h32;rw [ha];clear ha;go_enter Tryz.func77,Tryz.ntmps77;go_wp2_with fail;go_ret;exact⟨rfl,Below.refl _ _⟩
end Go.Proofs.YtfgjkmipfikooaaGreatDoor
