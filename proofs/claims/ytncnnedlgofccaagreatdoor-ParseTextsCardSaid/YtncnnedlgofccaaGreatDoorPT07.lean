/- GG, GH -/
import Derived.Test.YtncnnedlgofccaaGreatDoorPT06
set_option linter.unusedSimpArgs false
set_option linter.unusedVariables false
set_option maxRecDepth 100000
set_option maxHeartbeats 8000000
namespace Go.Proofs.YtncnnedlgofccaaGreatDoor
open Go.RowKit
section
open Go.Maps (has IsMap Keyed)
theorem VW {a b a' b':UInt8}(h:yA a b=yA a' b'):a=a'∧b=b':=by
 unfold yA at h;injection h with h;injection h with h;injection h with h1 h2;injection h2 with h2 _;injection h1 with _ h1;injection h2 with _ h2;exact⟨UInt8.toNat_inj.1 (by omega),UInt8.toNat_inj.1 (by omega)⟩
theorem VX {D:DataW Unit}{l:List Bt}(hD:IsMap D)(h:F4 D l){a b:UInt8}{kl:Lit}(hk:keyOf Tryz.prog 220 (yA a b)=some kl):F4 (D.put kl (.lit (.bool true))) (l++[[a,b]]):=by
 intro a' b' kl' hk' z;by_cases he:kl'=kl
 ·subst he;obtain⟨rfl,rfl⟩:=VW (BU.inj hk' hk);rw [Maps.atKey_put_same hD (BU.key hk),if_pos (by simp)]
 ·have hne:[a',b']≠[a,b]:=by
   intro e;injection e with e1 e2;injection e2 with e2 _;subst e1 e2;rw [hk']at hk;exact he (Option.some.inj hk)
  rw [Maps.atKey_put_other he,h a' b' kl' hk' z];by_cases hin:[a',b']∈l
  ·rw [if_pos hin,if_pos (List.mem_append_left _ hin)]
  ·rw [if_neg hin,if_neg (by simp only [List.mem_append,List.mem_singleton];rintro(h1 |h1);exact hin h1;exact hne h1)]
theorem Nu:F4 (.map []) []:=fun _ _ _ _ z=>rfl
theorem Nv {H:Type}{P:Program}{ops:Array Oper}{o:Oper}{a:Act}{w:World}{K:Act->World->Prop}{Q:Exit->Act->World->Prop}{E:Prop}
  (hg:o.guard=none) (m x v:Operand) (t:TypeId) (hop:o.op=Op.mapUpdate t m x v)
  (k e:TypeId) (Kd:Keyed P k) (ht:P.underlying t=some (.map k e)) (R:Value->Option (DataW H ×List MemPlace)) (b n:Nat) (D:DataW H)
  (hm:a.eval m=.map (some b)) (hown:w.ownsMap P k R b n D) (hn:n<maxLen) (key val:Value) (kl:Lit) (hx:a.eval x=key) (hv:a.eval v=val) (hkey:keyOf P k key=some kl)
  (d:DataW H) (ps:List MemPlace) (hval:R val=some (d,ps))
  (hK:∀w',w'.ownsMap P k R b (n+1) (D.put kl d)->w.grownBy w' (some b)->K (a.put o.dst undef) w'):
  if Region.wanted o (yielded ops a.tmps)=true then Oper.wp P o a w K Q else E:=by
 have hw:Region.wanted o (yielded ops a.tmps)=true:=by simp [Region.wanted,hg]
 rw [if_pos hw];obtain⟨w',hrun,r1,r2⟩:=hown.update Kd ht hn hkey hval;unfold Oper.wp;simp [execOp,hop,hm,hx,hv,hrun,Result.andThen];exact hK w' r1 r2
theorem VY (w:World):Calls Tryz.prog 130 #[] w fun e w'=>∃bp,e=.returned (.map (some bp))∧w.heap.size<=bp∧mF w' bp dG∧Below w.heap.size w w':=by
 have hmm:= @run_makeMap Tryz.prog;have h8:dG.length=8:=rfl;go_enter Tryz.func130,Tryz.ntmps130;go_wp2_with fail;have s1:(w.alloc (.map #[] 0)).heap.size=w.heap.size+1:=by simp
 have hss:Ss ((w.alloc (.map #[] 0)).alloc (.cells (qW dG).toArray 9)) (w.heap.size+2) (.slice (some ⟨w.heap.size+1,0,none⟩) 8 8) dG:=by
  have:=iN (w.alloc (.map #[] 0)) (qW dG).toArray 9 1 8 (by simp [fE,h8]);rw [s1]at this;simpa [Ss]using this
 have hmap:mF ((w.alloc (.map #[] 0)).alloc (.cells (qW dG).toArray 9)) w.heap.size []:=
  ⟨0,.map [],Nat.zero_le _,(World.ownsMap_made w _ _ _).alloc _,Nu⟩
 have hB:Below w.heap.size w ((w.alloc (.map #[] 0)).alloc (.cells (qW dG).toArray 9)):=(o9 _ _).alloc (by simp) _;have hsz:((w.alloc (.map #[] 0)).alloc (.cells (qW dG).toArray 9)).heap.size=w.heap.size+2:=by simp
 have hw2:∃w2,w2=((w.alloc (.map #[] 0)).alloc (.cells (qW dG).toArray 9)):=⟨_,rfl⟩
 obtain⟨w2,hw2⟩:=hw2;rw [<-hw2]at hss hmap hB hsz;have YF:((w.alloc (.map #[] 0)).alloc (.cells #[.string { data:= #[45,62]},.string { data:= #[61,62]},.string { data:= #[60,58]},.string { data:= #[60,60]},.string { data:= #[60,61]},.string { data:= #[62,62]},.string { data:= #[61,61]},.string { data:= #[43,43]}] 9))=w2:=by rw [hw2];rfl
 rw [YF];clear hw2 YF;go_loopw [7] (fun v7 wr=>∃k:Nat,v7=I k∧k<=8∧mF wr w.heap.size (dG.take k)∧Turn (fun j=>j=w.heap.size) w2 wr) (fun v7 _=>8 - (intOf v7).toNat)
 case atStart=>exact⟨0,rfl,by omega,hmap,Turn.refl _ _⟩
 case round=>
  obtain⟨k,rfl,hk,⟨n,D,hn,hown,hD⟩,htr⟩:=hrel;by_cases hlt:k<8
  ·obtain⟨A,c,hA,_,_,hx⟩:=hss.open_;obtain⟨b0,o0,hA2,hb0,hcell⟩:=hx (by decide);rw [hA2]at hA;simp only [Value.slice.injEq,Option.some.injEq,Addr.mk.injEq,and_true]at hA;obtain⟨⟨rfl,rfl⟩,anA⟩:=hA;clear anA;have d1:=Np htr (by omega) (by omega) (hcell k (by rw [h8];exact hlt));rw [Nat.zero_add]at d1;have hnext:dG.take (k+1)=dG.take k++[dG[k]'(by rw [h8];exact hlt)]:=List.take_succ_eq_append_getElem _;have h2:(dG[k]'(by rw [h8];exact hlt)).length=2:=by
    have hall:∀m∈dG,m.length=2:=by decide
    exact hall _ (List.getElem_mem _)
   have hnl:(dG.take k).length=k:=by rw [List.length_take,h8];omega
   generalize(dG[k]'(by rw [h8];exact hlt))=m at*
   obtain⟨a,b,rfl⟩:∃a b,m=[a,b]:=by
    match m,h2 with
    | [a,b],_=>exact⟨a,b,rfl⟩
   have hix:=eU [a,b] 0;have anz:=eU [a,b] 1;have aAI:=cO [a,b];obtain⟨kl,hkl⟩:=Ns a b;have HKL:=aO hkl;have atO:=aO (VX hown.isMap hD hkl);have Jw:=aO hnext;have FH:=aO hss;clear hss hmap hcell hx hkl hnext h8;go_wp2_with fail;refine wp_region_held_drew (S:=fun _=>True) (by kernel_rfl) trivial (fun _=>?_)
   try simp only [sp,sq]
   refine tq1 0 ((.map (some w.heap.size))) trivial ?_
   try simp only [sp,sq]
   refine tq1 1 (sv [a,b]) trivial ?_
   try simp only [sp,sq]
   refine tq1 2 ((.int .u8 (a.toNat:Int))) trivial ?_
   try simp only [sp,sq]
   refine tq1 3 (sv [a,b]) trivial ?_
   try simp only [sp,sq]
   refine tq1 4 ((.int .u8 (b.toNat:Int))) trivial ?_
   try simp only [sp,sq]
   refine tq1 5 ((.agg #[.int .u8 (a.toNat:Int),.int .u8 (b.toNat:Int)])) trivial ?_
   try simp only [sp,sq]
   refine dJ 6 fun K hK=>?_;refine Nv rfl _ _ _ 192 rfl 220 4 BU Tryz.underlying192 (plainElem Tryz.prog 4) w.heap.size n D rfl (w:=wr.drew) hown (by unfold maxLen;omega) (yA a b) _ kl rfl rfl HKL.o (.lit (.bool true)) [] (plainElem_bool Tryz.underlying4 true) (fun w6 hown6 akg=>?_);refine hK.out _ _ trivial (fun _=>?_);clear hK K
   try simp only [sp,sq]
   refine eT _ ?_;have ht6:Turn (fun j=>j=w.heap.size) wr w6:=(Turn.drewN (fun j=>j=w.heap.size) wr 1).trans (Turn.aZ (F:=fun j=>j=w.heap.size) akg (fun j h=>by injection h with h;exact h.symm));go_wp2_with fail
   go_roundw
   case rel=>exact⟨k+1,rfl,by omega,⟨n+1,_,by rw [Jw.o,List.length_append];simp only [List.length_cons,List.length_nil];omega,hown6,by rw [Jw.o];exact atO.o⟩,htr.trans ht6⟩
   case measure=>simp [intOf];omega
  ·obtain rfl:k=8:=by omega
   have hfin:mF wr w.heap.size dG:=⟨n,D,by have:=hn;simpa [h8]using this,hown,hD⟩
   have hB9:Below w.heap.size w wr:=hB.trans (htr.below hB.size (fun j hj e=>by omega));clear hss hmap hown hD;go_wp2_with fail;go_ret;exact⟨_,rfl,Nat.le_refl _,hfin,hB9⟩
def oK (t:aH):List Value:=[I t.kind,sv t.text,I t.line,I t.col]
def dD (l:List aH):List Value:=l.flatMap oK
theorem mG (l:List aH):(dD l).length=l.length*4:=by
 induction l with
 |nil=>rfl
 |cons t l ih=>
  have h:dD (t :: l)=oK t++dD l:=rfl;rw [h,List.length_append,ih,List.length_cons];have:(oK t).length=4:=rfl;omega
theorem oV (l:List aH)(t:aH):dD (l++[t])=dD l++oK t:=by
 unfold dD;rw [List.flatMap_append];simp
theorem GJ:oI Tryz.prog 139 151 (.agg #[I 0,sv [],I 0,I 0]) 4 40:=⟨Tryz.underlying139,by kernel_rfl,rfl,by decide⟩
def lexB (f:Nat)(s1:Bt)(p1:Nat ×Nat)(out:List aH):List aH ×(Nat ×Nat ×Int):=
 if s1=[]then(out++[⟨0,[],p1.1,p1.2⟩],(0,0,0))else
 match fq s1 with
 |.inl e=>([],(p1.1,p1.2,e))
 |.inr (kd,t,n)=>if out.length=8192 then([],(p1.1,p1.2,19))else qE f (s1.drop n) (gq p1 (s1.take n)) (out++[⟨kd,t,p1.1,p1.2⟩])
theorem VZ (f:Nat)(s:Bt)(p:Nat ×Nat)(out:List aH):qE (f+1) s p out=lexB f (s.drop (bP s)) (gq p (s.take (bP s))) out:=rfl
structure Nw (base bd bl bp N:Nat) (ans:List aH ×(Nat ×Nat ×Int)) (wr:World) (f:Nat) (s1:Bt) (p1:Nat ×Nat) (eD:Value) (out:List aH):Prop where
 diag:wr.heap[bd]? =some (.cells zd 45 (0,0))
 lex:fG wr bl bp s1 p1 eD
 pairs:mF wr bp dG
 row:wr.ownsRow 0 151 4 eD out.length (dD out)
 fuel:s1.length<=f
 eq:lexB f s1 p1 out=ans
 b1:p1.1+s1.length<=N
 b2:p1.2+s1.length<=N
 b3:1<=p1.2
 V3:out.length<=8192
 hd:base<=bd
 hl:base<=bl
 hp:base<=bp
 dl:bd≠bl
 dp:bd≠bp
 lp:bl≠bp
 fo:∀g,eD.ownBlock=some g->base<=g∧g≠bd∧g≠bl∧g≠bp
theorem Nw.below {base bd bl bp N:Nat}{ans:List aH ×(Nat ×Nat ×Int)}{w w':World}{f:Nat}{s1:Bt}{p1:Nat ×Nat}{eD:Value}{out:List aH}(h:Nw base bd bl bp N ans w f s1 p1 eD out)(hb:Below w.heap.size w w'):Nw base bd bl bp N ans w' f s1 p1 eD out:=
 { h with
  diag:=ah h.diag (Turn.of_below (F:=fun _=>False) hb) id
  lex:=h.lex.turn (Turn.of_below (F:=fun _=>False) hb) id
  pairs:=h.pairs.turn (Turn.of_below (F:=fun _=>False) hb) id
  row:=own_below h.row hb}
theorem Nw.next {base bd bl bp N:Nat}{ans:List aH ×(Nat ×Nat ×Int)}{w w':World}{f:Nat}{s1:Bt}{p1:Nat ×Nat}{eD Tm:Value}{out:List aH}(h:Nw base bd bl bp N ans w f s1 p1 eD out)
  {kd:Int}{t:Bt}{n:Nat}(hn:fq s1=.inr (kd,t,n)) (ho:out.length≠8192)
  (hrow:w'.ownsRow 0 151 4 Tm (out.length+1) (dD out++oK ⟨kd,t,p1.1,p1.2⟩)) (hfo:∀g,Tm.ownBlock=some g->base<=g∧g≠bd∧g≠bl∧g≠bp)
  (anB:w'.heap[bd]? =some (.cells zd 45 (0,0))) (akh:mF w' bp dG)
  (hlex:fG w' bl bp ((s1.drop n).drop (bP (s1.drop n))) (gq (gq p1 (s1.take n)) ((s1.drop n).take (bP (s1.drop n)))) Tm):
  ∃f' s2 p2 out',Nw base bd bl bp N ans w' f' s2 p2 Tm out'∧s2.length<s1.length:=by
 obtain⟨n1,n2⟩:=BJ hn;have hne:s1≠[]:=by intro e;subst e;simp at n2;omega
 have hf:=h.fuel;obtain⟨f',rfl⟩:∃f',f=f'+1:=⟨f - 1,by omega⟩
 have heq:=h.eq;unfold lexB at heq;rw [if_neg hne,hn]at heq;simp only at heq;rw [if_neg ho,VZ]at heq;have l1:=pI (s1.take n) h.b3;rw [List.length_take,Nat.min_eq_left n2]at l1;have hsk:=BI false (s1.drop n);have anC:bP (s1.drop n)<=s1.length - n:=by rw [List.length_drop]at hsk;exact hsk
 have l2:=pI ((s1.drop n).take (bP (s1.drop n))) l1.2.2;have hb1:=h.b1;have hb2:=h.b2;have hol:=h.V3;have ht:((s1.drop n).take (bP (s1.drop n))).length=bP (s1.drop n):=by rw [List.length_take,List.length_drop];omega
 rw [ht]at l2;have hlen:((s1.drop n).drop (bP (s1.drop n))).length=s1.length - n - bP (s1.drop n):=by rw [List.length_drop,List.length_drop]
 refine⟨f',_,_,out++[⟨kd,t,p1.1,p1.2⟩],⟨anB,hlex,akh,?_,by rw [hlen];omega,heq,by rw [hlen];omega,by rw [hlen];omega,l2.2.2,by simp;omega,h.hd,h.hl,h.hp,h.dl,h.dp,h.lp,hfo⟩,by rw [hlen];omega⟩;rw [oV,List.length_append];exact hrow
theorem fI {P:Program}{fn:Func}{t0 p:Tmp}{ty:TypeId}(h:fn.results= #[.tmp t0,.cell p ty])(tmps:Array Value)(w:World)(g:Nat)(t:TypeId)(cs:Array Value)(fr:Nat ×Nat)(d:TypeDesc)
  (hp:tmps.getD p undef=pP g 0) (hg:w.heap[g]? =some (.cells cs t fr))
  (hu:P.underlying ty=some d) (hd:(match d with |.struct _ |.array _ _=>true |_=>false)=true) (hi:(P.info? ty).map (·.size)=some cs.size:=by kernel_rfl):
  (results fn tmps).run P w=.ok (.tuple #[tmps.getD t0 undef,.agg cs]) w:=by
 have hp':tmps[p]?.getD undef=pP g 0:=by simpa using hp
 simp [results,h,hp',asAddr,run_loadVar_row w g t ty cs fr d hg hu hd hi,Result.andThen]
theorem YG {w:World}{base:Nat}{e:TypeId}{k n:Nat}{v:Value}{xs:List Value}(h:w.ownsRow 0 e k v n xs)(hb:∀g,v.ownBlock=some g->base<=g):w.ownsRow base e k v n xs:=by
 refine⟨h.1,?_⟩;rcases h.2 with h2 |⟨g,cap,cur,hv,_,r⟩
 ·exact .inl h2
 ·exact .inr ⟨g,cap,cur,hv,hb g (by subst hv;rfl),r⟩
abbrev Lx (w:World)(b:Nat)(v0 v1 v2 v3:Value):World:=(((w.setCell ⟨b,0,none⟩ v0).setCell ⟨b,1,none⟩ v1).setCell ⟨b,2,none⟩ v2).setCell ⟨b,3,none⟩ v3
theorem vE (w:World)(b:Nat)(v0 v1 v2 v3:Value):Turn (fun k=>k=b) w (Lx w b v0 v1 v2 v3):=
 (((ak w b 0 v0).trans (ak _ b 1 v1)).trans (ak _ b 2 v2)).trans (ak _ b 3 v3)
theorem dN {w:World}{b:Nat}{a0 a1 a2 a3:Value}{t:TypeId}(h:w.heap[b]? =some (.cells #[a0,a1,a2,a3] t (0,0)))(v0 v1 v2 v3:Value):(Lx w b v0 v1 v2 v3).heap[b]? =some (.cells #[v0,v1,v2,v3] t (0,0)):=
 heap_setCell_same _ b 3 _ _ v3 (heap_setCell_same _ b 2 _ _ v2 (heap_setCell_same _ b 1 _ _ v1 (heap_setCell_same w b 0 _ _ v0 h)))
theorem bG {w:World}{b:Nat}{cs:Array Value}{t:TypeId}(h:w.heap[b]? =some (.cells cs t (0,0)))(i:Nat):w.frozen? ⟨b,i,none⟩=false:=by
 simp [World.frozen?,h]
theorem BZ (t:aH):∀u∈oK t,u.oneCell'=true:=by
 intro u hu;simp [oK]at hu;rcases hu with rfl |rfl |rfl |rfl <;> rfl
def EK (d:Nat ×Nat ×Int):Value:= .agg #[I 0,I d.1,I d.2.1,I d.2.2]
def Tn (ans:List aH ×(Nat ×Nat ×Int))(w:World)(e:Ending)(w':World):Prop:=
 ∃v n,e=.returned (.tuple #[v,EK ans.2])∧w'.ownsRow w.heap.size 151 4 v n (dD ans.1)∧Below w.heap.size w w'
def YH (w:World)(bd bl bp N:Nat)(ans:List aH ×(Nat ×Nat ×Int))(wr:World):Prop:=
 Below w.heap.size w wr∧∃f s1 p1 eD out,Nw w.heap.size bd bl bp N ans wr f s1 p1 eD out
theorem LB (w:World)(s:Bt)(hX:oq w):Calls Tryz.prog 75 #[sv s] w fun e w'=>Tn (gH s) w e w':=by
 have hmm:= @run_makeMap Tryz.prog;have hsz:=cO s;by_cases hlong:65536<s.length
 ·have ha:gH s=([],(1,1,2)):=by unfold gH;rw [if_pos hlong]
  rw [ha];go_enter Tryz.func75,Tryz.ntmps75;go_wp2_with fail;refine bodyPost_ret (fI rfl _ _ w.heap.size _ _ _ _ rfl (heap_alloc_new w _) Tryz.underlying45 rfl) rfl ?_;exact⟨_,0,rfl,World.ownsRow_nil _ _ _ _,o9 _ _⟩
 ·have ha:gH s=lexB s.length (s.drop (bP s)) (gq (1,1) (s.take (bP s))) []:=by unfold gH;rw [if_neg hlong];rfl
  rw [ha];clear ha;generalize wO:lexB s.length (s.drop (bP s)) (gq (1,1) (s.take (bP s))) []=ans;go_enter Tryz.func75,Tryz.ntmps75;go_wp2_with fail;refine(VY _).mono ?_;rintro e w2 ⟨bp,rfl,hbp,hP,hb2⟩;have s1:(w.alloc (.cells #[.int .i64 0,.int .i64 0,.int .i64 0,.int .i64 0] 45)).heap.size=w.heap.size+1:=by simp
  have hd1:=heap_alloc_new w (.cells zd 45);have hb1:Below w.heap.size w (w.alloc (.cells #[.int .i64 0,.int .i64 0,.int .i64 0,.int .i64 0] 45)):=o9 _ _;have atP:bp<w2.heap.size:=by obtain⟨_,_,_,h,_⟩:=hP;exact h.lt
  have hd2:=ah hd1 (Turn.of_below (F:=fun _=>False) hb2) id;have hB2:=hb1.trans (hb2.mono hb1.size);rw [s1]at hbp hb2;have hs2:=hb2.size;rw [s1]at hs2;clear hd1 hb1 hb2;have hL3:fG (w2.alloc (.cells #[sv s,.int .i64 1,.int .i64 1,.map (some bp),.slice none 0 0] 195)) w2.heap.size bp s (1,1) Z:=heap_alloc_new w2 _;have t3:=Turn.alloc (fun _=>False) w2 (.cells #[sv s,I 1,I 1,.map (some bp),Z] 195);have hB3:Below w.heap.size w (w2.alloc (.cells #[sv s,.int .i64 1,.int .i64 1,.map (some bp),.slice none 0 0] 195)):=hB2.alloc hB2.size _;go_wp2_with fail;refine(AO _ w2.heap.size bp s (1,1) _ hL3 (by omega) (by simp) (Nat.le_refl _)).mono ?_;rintro e w4 ⟨rfl,hL4,t4⟩;have t24:=(t3.mono (G:=fun k=>k=w2.heap.size) (fun _ _ h=>h.elim)).trans t4;have hB4:Below w.heap.size w w4:=hB3.trans (t4.below hB3.size (fun k hk e=>by omega));have hsk:=BI false s;have anC:bP s<=s.length:=hsk;have aki:=pI (p:=(1,1)) (s.take (bP s)) (Nat.le_refl _);have htl:(s.take (bP s)).length=bP s:=by rw [List.length_take];omega
  have hdl:(s.drop (bP s)).length=s.length - bP s:=List.length_drop;rw [htl]at aki
  have hR0:Nw w.heap.size w.heap.size w2.heap.size bp (1+s.length) ans w4 s.length (s.drop (bP s)) (gq (1,1) (s.take (bP s))) Z []:=
   ⟨ah hd2 t24,hL4,hP.turn t24 (by omega),World.ownsRow_nil _ _ _ _,by omega,wO,by omega,by omega,aki.2.2,Nat.zero_le _,Nat.le_refl _,by omega,by omega,by omega,by omega,by omega,fun g hg=>by simp [Value.ownBlock]at hg⟩
  have afW:YH w w.heap.size w2.heap.size bp (1+s.length) ans w4:=⟨hB4,_,_,_,_,_,hR0⟩
  have hN:1+s.length<=70000:=by omega
  clear hR0 hL4 hL3 t3 t4 t24 hB3 hB4 hsk anC aki htl hdl hd2 hB2 hP hbp hs2 s1 wO atP;generalize hbl:w2.heap.size=bl at*
  generalize 1+s.length=N at*
  go_wp2_with fail;go_loopw [8] (fun _ wr=>YH w w.heap.size bl bp N ans wr) (fun _ wr=>textOf wr bl)
  case atStart=>exact afW
  case round=>
   obtain⟨hB,f,s1,p1,eD,out,hR⟩:=hrel;clear afW;have c0:=hR.lex.c0;have c1:=hR.lex.c1;have c2:=hR.lex.c2;have c4:=hR.lex.c4;have hlen:=vD hR.lex;have atQ:=hR.lex.lt;have hdl:=block_lt hR.diag;have hS0:wr.drew.cell? ⟨bl,1,none⟩=some (I p1.1)∧wr.drew.cell? ⟨bl,2,none⟩=some (I p1.2)∧wr.drew.cell? ⟨bl,4,none⟩=some eD:=⟨c1,c2,c4⟩
   have Ny:∀w':World,fG w' bl bp s1 p1 eD->w'.cell? ⟨bl,1,none⟩=some (I p1.1)∧w'.cell? ⟨bl,2,none⟩=some (I p1.2)∧w'.cell? ⟨bl,4,none⟩=some eD:=fun w' h=>⟨h.c1,h.c2,h.c4⟩
   cases s1 with
   |nil=>
    have HA:=aO (show ans=(out++[⟨0,[],p1.1,p1.2⟩],(0,0,0))from hR.eq.symm);go_wp2_with fail;have LC:Below wr.heap.size wr (wr.drew.alloc (.cells #[.int .i64 0,sv [],.int .i64 p1.1,.int .i64 p1.2] 151)):=(aP wr 1).alloc (Nat.le_refl _) _;have hL8:=hR.lex.turn (Turn.of_below (F:=fun _=>False) LC) id;have hD8:=ah hR.diag (Turn.of_below (F:=fun _=>False) LC) id;have gy:=own_below hR.row LC;have YI:=hR.pairs.turn (Turn.of_below (F:=fun _=>False) LC) id;have Dx:Sl (wr.drew.alloc (.cells #[.int .i64 0,sv [],.int .i64 p1.1,.int .i64 p1.2] 151)) (wr.heap.size+1) 4 (.slice (some ⟨wr.heap.size,0,none⟩) 1 1) (oK ⟨0,[],p1.1,p1.2⟩):=iN wr.drew _ _ 4 1 rfl;have h63:out.length*4+(oK ⟨0,[],p1.1,p1.2⟩).length<=maxLen:=by have:=hR.V3;show out.length*4+4<=maxLen;unfold maxLen;omega
    have hbytes:(out.length*4+(oK ⟨0,[],p1.1,p1.2⟩).length)*40<=140737488355328:=by have:=hR.V3;show(out.length*4+4)*40<= _;omega
    generalize hw8:wr.drew.alloc (.cells #[.int .i64 0,sv [],.int .i64 p1.1,.int .i64 p1.2] 151)=w8 at*
    have hS8:=Ny w8 hL8;refine wp_region_held_drew (S:=fun w'=>w'.cell? ⟨bl,1,none⟩=some (I p1.1)∧w'.cell? ⟨bl,2,none⟩=some (I p1.2)∧w'.cell? ⟨bl,4,none⟩=some eD) (by kernel_rfl) hS0 (fun _=>?_)
    try simp only [sp,sq]
    refine qC 0 ((pP bl 0)) hS0 ?_
    try simp only [sp,sq]
    refine qC 1 ((pP bl 0)) hS0 ?_
    try simp only [sp,sq]
    refine qC 2 ((pP bl 4)) hS0 ?_
    try simp only [sp,sq]
    refine qC 3 eD hS0 ?_
    try simp only [sp,sq]
    refine qC 4 ((pP bl 0)) hS0 ?_
    try simp only [sp,sq]
    refine qC 5 ((pP bl 0)) hS0 ?_
    try simp only [sp,sq]
    refine qC 6 ((pP bl 1)) hS0 ?_
    try simp only [sp,sq]
    refine qC 7 ((I p1.1)) hS0 ?_
    try simp only [sp,sq]
    refine qC 8 ((pP bl 0)) hS0 ?_
    try simp only [sp,sq]
    refine qC 9 ((pP bl 0)) hS0 ?_
    try simp only [sp,sq]
    refine qC 10 ((pP bl 2)) hS0 ?_
    try simp only [sp,sq]
    refine qC 11 ((I p1.2)) hS0 ?_
    try simp only [sp,sq]
    refine qC 12 ((.agg #[I 0,sv [],I p1.1,I p1.2])) hS0 ?_
    try simp only [sp,sq]
    refine qC 15 (.agg zd) hS0 ?_
    try simp only [sp,sq]
    refine dJ 13 fun K hK=>?_;go_simp
    try rw [hw8]
    refine hK.out _ _ hS8 (fun _=>?_);clear hK K
    try simp only [sp,sq]
    refine dJ 14 fun K hK=>?_;refine gK rfl (.tmp 81) (.tmp 91) _ rfl 0 GJ _ _ rfl rfl gy Dx (BZ ⟨0,[],p1.1,p1.2⟩) h63 hbytes (Nat.zero_le _) (fun v' w9 n' dI nM iJ=>?_);have t9:Turn (fun j=>eD.ownBlock=some j) w8 w9:=Turn.aZ nM (fun j h=>h);have Tp:=hL8.turn t9 (fun h=>(hR.fo bl h).2.2.1 rfl);have Ri:=ah hD8 t9 (fun h=>(hR.fo _ h).2.1 rfl);have MX:=Ny w9 Tp;have e0:w9.cell? ⟨w.heap.size,0,none⟩=some (I 0):=(dY Ri)
    have e1:w9.cell? ⟨w.heap.size,1,none⟩=some (I 0):=(dY Ri)
    have e2:w9.cell? ⟨w.heap.size,2,none⟩=some (I 0):=(dY Ri)
    have e3:w9.cell? ⟨w.heap.size,3,none⟩=some (I 0):=(dY Ri)
    have g0:=bG Ri 0;have g1:=bG Ri 1;have g2:=bG Ri 2;have g3:=bG Ri 3;refine hK.out _ _ MX (fun _=>?_);clear hK K
    try simp only [sp,sq]
    refine qC 16 (v') MX ?_
    try simp only [sp,sq]
    refine dJ 17 fun K hK=>?_;go_simp;have t10:=vE w9 w.heap.size (I 0) (I 0) (I 0) (I 0);refine hK.out _ (Lx w9 w.heap.size (I 0) (I 0) (I 0) (I 0)) (Ny _ (Tp.turn t10 (fun h=>hR.dl h.symm))) (fun _=>?_);clear hK K
    try simp only [sp,sq]
    refine eT _ ?_;go_wp2_with fail;refine bodyPost_ret (fI rfl _ _ w.heap.size _ _ _ _ rfl (dN Ri _ _ _ _) Tryz.underlying45 rfl) rfl ?_;have LD:∀g,v'.ownBlock=some g->w.heap.size<=g∧g≠w.heap.size:=fun g hg=>by
     rcases iJ with h |h
     ·rw [h]at hg;exact⟨(hR.fo g hg).1,(hR.fo g hg).2.1⟩
     ·rw [h]at hg;injection hg with hg;subst hg;have:=hB.size;have:=LC.size;exact⟨by omega,by omega⟩
    exact⟨v',n',by rw [HA.o];rfl,by rw [HA.o,oV];exact YG (dS dI t10 (fun g hg h=>(LD g hg).2 h)) (fun g hg=>(LD g hg).1),((hB.trans (LC.mono hB.size)).trans (t9.below (by have:=hB.size;have:=LC.size;omega) (fun k hk h=>by have:=(hR.fo k h).1;omega))).trans (t10.below (by have:=hB.size;have:=LC.size;have:=t9.size;omega) (fun k hk h=>by omega))⟩
   |cons c r=>
    have HLEN:=aO hlen;have hNX:=YE wr bl bp c r p1 eD hR.lex (by have:=hR.b1;omega) (hX.below hB) hR.pairs;have Jw:=aO hNX;clear hNX hlen c1 c2 c4 hS0 atQ hdl;have hnz:¬(c :: r:Bt)=[]:=by simp
    go_wp2_with fail;refine Jw.o.mono ?_;rintro e w5 ⟨rfl,hb5⟩;have lY:=hR.below hb5;have F5:Below w.heap.size w w5:=hB.trans (hb5.mono hB.size);have hb1:=lY.b1;have hb2:=lY.b2;clear Jw hR hB hb5 c0;have c1:=lY.lex.c1;have c2:=lY.lex.c2;have c4:=lY.lex.c4;have pJ:w5.drew.cell? ⟨bl,1,none⟩=some (I p1.1)∧w5.drew.cell? ⟨bl,2,none⟩=some (I p1.2)∧w5.drew.cell? ⟨bl,4,none⟩=some eD:=⟨c1,c2,c4⟩
    have heq:=lY.eq;unfold lexB at heq;rw [if_neg hnz]at heq;cases hn:fq (c :: r)with
    |inl e=>
     rw [hn]at heq;have YJ:ans=([],(p1.1,p1.2,e)):=heq.symm;have he0:=zk hn;clear heq hn;simp only [FE];go_wp2_with fail;have hA:=aO YJ;have LG:w5.drew.heap[w.heap.size]? = _:=lY.diag;have e0:w5.drew.cell? ⟨w.heap.size,0,none⟩=some (I 0):=(dY LG)
     have e1:w5.drew.cell? ⟨w.heap.size,1,none⟩=some (I 0):=(dY LG)
     have e2:w5.drew.cell? ⟨w.heap.size,2,none⟩=some (I 0):=(dY LG)
     have e3:w5.drew.cell? ⟨w.heap.size,3,none⟩=some (I 0):=(dY LG)
     have g0:=bG LG 0;have g1:=bG LG 1;have g2:=bG LG 2;have g3:=bG LG 3;have g0':=bG lY.diag 0;have g1':=bG lY.diag 1;have g2':=bG lY.diag 2;have g3':=bG lY.diag 3;have e0':w5.cell? ⟨w.heap.size,0,none⟩=some (I 0):=(dY lY.diag)
     have e1':w5.cell? ⟨w.heap.size,1,none⟩=some (I 0):=(dY lY.diag)
     have e2':w5.cell? ⟨w.heap.size,2,none⟩=some (I 0):=(dY lY.diag)
     have e3':w5.cell? ⟨w.heap.size,3,none⟩=some (I 0):=(dY lY.diag)
     refine wp_region_held_drew (S:=fun w'=>w'.cell? ⟨bl,1,none⟩=some (I p1.1)∧w'.cell? ⟨bl,2,none⟩=some (I p1.2)∧w'.cell? ⟨bl,4,none⟩=some eD) (by kernel_rfl) pJ (fun _=>?_)
     try simp only [sp,sq]
     refine qC 10 Z pJ ?_
     try simp only [sp,sq]
     refine qC 0 ((pP bl 0)) pJ ?_
     try simp only [sp,sq]
     refine qC 1 ((pP bl 0)) pJ ?_
     try simp only [sp,sq]
     refine qC 2 ((pP bl 1)) pJ ?_
     try simp only [sp,sq]
     refine qC 3 ((I p1.1)) pJ ?_
     try simp only [sp,sq]
     refine qC 4 ((pP bl 0)) pJ ?_
     try simp only [sp,sq]
     refine qC 5 ((pP bl 0)) pJ ?_
     try simp only [sp,sq]
     refine qC 6 ((pP bl 2)) pJ ?_
     try simp only [sp,sq]
     refine qC 7 ((I p1.2)) pJ ?_
     try simp only [sp,sq]
     refine qC 8 (I e) pJ ?_
     try simp only [sp,sq]
     refine qC 9 ((.agg #[I 0,I p1.1,I p1.2,I e])) pJ ?_
     try simp only [sp,sq]
     refine dJ 11 fun K hK=>?_;go_simp;have t10:=vE w5.drew w.heap.size (I 0) (I p1.1) (I p1.2) (I e);refine hK.out _ (Lx w5.drew w.heap.size (I 0) (I p1.1) (I p1.2) (I e)) (Ny _ ((lY.lex.turn (Turn.drewN (fun _=>False) w5 1) id).turn t10 (fun h=>lY.dl h.symm))) (fun _=>?_);clear hK K
     try simp only [sp,sq]
     refine eT _ ?_;go_wp2_with fail;refine bodyPost_ret (fI rfl _ _ w.heap.size _ _ _ _ rfl (dN LG _ _ _ _) Tryz.underlying45 rfl) rfl ?_;exact⟨Z,0,by rw [hA.o];rfl,by rw [hA.o];exact World.ownsRow_nil _ _ _ _,(F5.trans (aP w5 1 |>.mono F5.size)).trans (t10.below F5.size (fun k hk h=>by omega))⟩
    |inr x=>
     obtain⟨kd,t,n⟩:=x;rw [hn]at heq;obtain⟨n1,n2⟩:=BJ hn;obtain⟨A0,C0,rfl⟩:∃A C,eD=.slice A out.length C:=by
      rcases lY.row.2 with⟨h,h0⟩ |⟨g,cap,cur,h,_⟩
      ·exact⟨none,0,by rw [h,h0]⟩
      ·exact⟨_,_,h⟩
     by_cases h8:out.length=8192
     ·have YJ:ans=([],(p1.1,p1.2,19)):=by simp only at heq;rw [if_pos h8]at heq;exact heq.symm
      have h8':(out.length:Int)=8192:=by omega
      clear heq hn;simp only [FE];go_wp2_with fail;have hA:=aO YJ;have LG:w5.drew.heap[w.heap.size]? = _:=lY.diag;have e0:w5.drew.cell? ⟨w.heap.size,0,none⟩=some (I 0):=(dY LG)
      have e1:w5.drew.cell? ⟨w.heap.size,1,none⟩=some (I 0):=(dY LG)
      have e2:w5.drew.cell? ⟨w.heap.size,2,none⟩=some (I 0):=(dY LG)
      have e3:w5.drew.cell? ⟨w.heap.size,3,none⟩=some (I 0):=(dY LG)
      have g0:=bG LG 0;have g1:=bG LG 1;have g2:=bG LG 2;have g3:=bG LG 3;have g0':=bG lY.diag 0;have g1':=bG lY.diag 1;have g2':=bG lY.diag 2;have g3':=bG lY.diag 3;have e0':w5.cell? ⟨w.heap.size,0,none⟩=some (I 0):=(dY lY.diag)
      have e1':w5.cell? ⟨w.heap.size,1,none⟩=some (I 0):=(dY lY.diag)
      have e2':w5.cell? ⟨w.heap.size,2,none⟩=some (I 0):=(dY lY.diag)
      have e3':w5.cell? ⟨w.heap.size,3,none⟩=some (I 0):=(dY lY.diag)
      refine wp_region_held_drew (S:=fun w'=>w'.cell? ⟨bl,1,none⟩=some (I p1.1)∧w'.cell? ⟨bl,2,none⟩=some (I p1.2)∧w'.cell? ⟨bl,4,none⟩=some (.slice A0 out.length C0)) (by kernel_rfl) pJ (fun _=>?_)
      try simp only [sp,sq]
      refine qC 10 Z pJ ?_
      try simp only [sp,sq]
      refine qC 0 ((pP bl 0)) pJ ?_
      try simp only [sp,sq]
      refine qC 1 ((pP bl 0)) pJ ?_
      try simp only [sp,sq]
      refine qC 2 ((pP bl 1)) pJ ?_
      try simp only [sp,sq]
      refine qC 3 ((I p1.1)) pJ ?_
      try simp only [sp,sq]
      refine qC 4 ((pP bl 0)) pJ ?_
      try simp only [sp,sq]
      refine qC 5 ((pP bl 0)) pJ ?_
      try simp only [sp,sq]
      refine qC 6 ((pP bl 2)) pJ ?_
      try simp only [sp,sq]
      refine qC 7 ((I p1.2)) pJ ?_
      try simp only [sp,sq]
      refine qC 8 (I 19) pJ ?_
      try simp only [sp,sq]
      refine qC 9 ((.agg #[I 0,I p1.1,I p1.2,I 19])) pJ ?_
      try simp only [sp,sq]
      refine dJ 11 fun K hK=>?_;go_simp;have t10:=vE w5.drew w.heap.size (I 0) (I p1.1) (I p1.2) (I 19);refine hK.out _ (Lx w5.drew w.heap.size (I 0) (I p1.1) (I p1.2) (I 19)) (Ny _ ((lY.lex.turn (Turn.drewN (fun _=>False) w5 1) id).turn t10 (fun h=>lY.dl h.symm))) (fun _=>?_);clear hK K
      try simp only [sp,sq]
      refine eT _ ?_;go_wp2_with fail;refine bodyPost_ret (fI rfl _ _ w.heap.size _ _ _ _ rfl (dN LG _ _ _ _) Tryz.underlying45 rfl) rfl ?_;exact⟨Z,0,by rw [hA.o];rfl,by rw [hA.o];exact World.ownsRow_nil _ _ _ _,(F5.trans (aP w5 1 |>.mono F5.size)).trans (t10.below F5.size (fun k hk h=>by omega))⟩
     ·have h8':¬(out.length:Int)=8192:=by omega
      clear heq;have HN:=aO hn;simp only [FE];go_wp2_with fail;have hn:=HN.o;have LC:Below w5.heap.size w5 (w5.drew.alloc (.cells #[.int .i64 kd,sv t,.int .i64 p1.1,.int .i64 p1.2] 151)):=(aP w5 1).alloc (Nat.le_refl _) _;have hL8:=lY.lex.turn (Turn.of_below (F:=fun _=>False) LC) id;have hD8:=ah lY.diag (Turn.of_below (F:=fun _=>False) LC) id;have gy:=own_below lY.row LC;have YI:=lY.pairs.turn (Turn.of_below (F:=fun _=>False) LC) id;have Dx:Sl (w5.drew.alloc (.cells #[.int .i64 kd,sv t,.int .i64 p1.1,.int .i64 p1.2] 151)) (w5.heap.size+1) 4 (.slice (some ⟨w5.heap.size,0,none⟩) 1 1) (oK ⟨kd,t,p1.1,p1.2⟩):=iN w5.drew _ _ 4 1 rfl;have h63:out.length*4+(oK ⟨kd,t,p1.1,p1.2⟩).length<=maxLen:=by have:=lY.V3;show out.length*4+4<=maxLen;unfold maxLen;omega
      have hbytes:(out.length*4+(oK ⟨kd,t,p1.1,p1.2⟩).length)*40<=140737488355328:=by have:=lY.V3;show(out.length*4+4)*40<= _;omega
      generalize hw8:w5.drew.alloc (.cells #[.int .i64 kd,sv t,.int .i64 p1.1,.int .i64 p1.2] 151)=w8 at*
      have hS8:=Ny w8 hL8;have c48:=hL8.c4;have yB:w5.drew.cell? ⟨bl,1,none⟩=some (I p1.1)∧w5.drew.cell? ⟨bl,2,none⟩=some (I p1.2)∧True:=⟨c1,c2,trivial⟩
      have c4d:w5.drew.cell? ⟨bl,4,none⟩=some (.slice A0 out.length C0):=c4;refine wp_region_held_drew (S:=fun w'=>w'.cell? ⟨bl,1,none⟩=some (I p1.1)∧w'.cell? ⟨bl,2,none⟩=some (I p1.2)∧True) (by kernel_rfl) yB (fun _=>?_)
      try simp only [sp,sq]
      refine qC 0 ((pP bl 0)) yB ?_
      try simp only [sp,sq]
      refine qC 1 ((pP bl 0)) yB ?_
      try simp only [sp,sq]
      refine qC 2 ((pP bl 0)) yB ?_
      try simp only [sp,sq]
      refine qC 3 ((pP bl 4)) yB ?_
      try simp only [sp,sq]
      refine qC 5 (I kd) yB ?_
      try simp only [sp,sq]
      refine qC 6 (sv t) yB ?_
      try simp only [sp,sq]
      refine qC 7 ((pP bl 0)) yB ?_
      try simp only [sp,sq]
      refine qC 8 ((pP bl 0)) yB ?_
      try simp only [sp,sq]
      refine qC 9 ((pP bl 1)) yB ?_
      try simp only [sp,sq]
      refine qC 10 ((I p1.1)) yB ?_
      try simp only [sp,sq]
      refine qC 11 ((pP bl 0)) yB ?_
      try simp only [sp,sq]
      refine qC 12 ((pP bl 0)) yB ?_
      try simp only [sp,sq]
      refine qC 13 ((pP bl 2)) yB ?_
      try simp only [sp,sq]
      refine qC 14 ((I p1.2)) yB ?_
      try simp only [sp,sq]
      refine qC 15 ((.agg #[I kd,sv t,I p1.1,I p1.2])) yB ?_
      try simp only [sp,sq]
      refine wpAnyH_ready (rs:=[4,16]) (by kernel_rfl) (by simp) ?_;refine AllReadyH.cons rfl (fun K hK=>?_) (AllReadyH.cons rfl (fun K hK=>?_) AllReadyH.nil)
      ·go_simp;refine hK.out _ _ yB (fun _=>?_);clear hK K
       try simp only [sp,sq]
       refine dJ 16 fun K hK=>?_;go_simp
       try rw [hw8]
       refine hK.out _ _ ⟨hS8.1,hS8.2.1,trivial⟩ (fun _=>?_);clear hK K
       try simp only [sp,sq]
       refine dJ 17 fun K hK=>?_;refine gK rfl (.tmp 59) (.tmp 71) _ rfl 0 GJ _ _ rfl rfl gy Dx (BZ ⟨kd,t,p1.1,p1.2⟩) h63 hbytes (Nat.zero_le _) (fun v' w9 n' dI nM iJ=>?_);obtain rfl:n'=out.length+1:=by have h1:=dI.1;have h2:=gy.1;rw [List.length_append,h2]at h1;have h3:(oK ⟨kd,t,p1.1,p1.2⟩).length=4:=rfl;omega
       obtain⟨g9,c9,rfl,_,_,_,_⟩:=jo dI;have t9:Turn (fun j=>(Value.slice A0 out.length C0).ownBlock=some j) w8 w9:=Turn.aZ nM (fun j h=>h);have Tp:=hL8.turn t9 (fun h=>(lY.fo bl h).2.2.1 rfl);have Ri:=ah hD8 t9 (fun h=>(lY.fo _ h).2.1 rfl);have hP9:=YI.turn t9 (fun h=>(lY.fo _ h).2.2.2 rfl);have MX:=Ny w9 Tp;have e4:=Tp.c4;have g4:=Tp.free 4;refine hK.out _ _ ⟨MX.1,MX.2.1,trivial⟩ (fun _=>?_);clear hK K
       try simp only [sp,sq]
       refine dJ 18 fun K hK=>?_;go_simp;refine hK.out _ _ ⟨MX.1,MX.2.1,trivial⟩ (fun _=>?_);clear hK K
       try simp only [sp,sq]
       refine dJ 19 fun K hK=>?_;go_simp;refine hK.out _ _ ⟨MX.1,MX.2.1,trivial⟩ (fun _=>?_);clear hK K
       try simp only [sp,sq]
       refine dJ 20 fun K hK=>?_;go_simp;have LH:=Tp.Lx (.slice (some ⟨g9,0,none⟩) (out.length+1) c9);have t10:=ak w9 bl 4 (.slice (some ⟨g9,0,none⟩) (out.length+1) c9);refine hK.out _ _ ⟨LH.c1,LH.c2,trivial⟩ (fun _=>?_);clear hK K
       try simp only [sp,sq]
       refine eT _ ?_;have YK:=LC.size;have atS:bp<w5.heap.size:=by obtain⟨_,_,_,h,_⟩:=lY.pairs;exact h.lt
       have atT:=lY.lex.lt;have atU:=block_lt lY.diag;have LD:∀g,(Value.slice (some ⟨g9,0,none⟩) (out.length+1) c9).ownBlock=some g->w.heap.size<=g∧g≠w.heap.size∧g≠bl∧g≠bp:=fun g hg=>by
        rcases iJ with h |h
        ·rw [h]at hg;exact lY.fo g hg
        ·rw [h]at hg;injection hg with hg;subst hg;have:=F5.size;exact⟨by omega,by omega,by omega,by omega⟩
       have GK:=dS dI t10 (fun g hg h=>(LD g hg).2.2.1 h);have YL:=ah Ri t10 lY.dl;have YM:=hP9.turn t10 (fun h=>lY.lp h.symm);have YN:Below w.heap.size w (w9.setCell ⟨bl,4,none⟩ (.slice (some ⟨g9,0,none⟩) (out.length+1) c9)):=((F5.trans (LC.mono F5.size)).trans (t9.below (Nat.le_trans F5.size YK) (fun k hk h=>by have:=(lY.fo k h).1;omega))).trans (t10.below (Nat.le_trans (Nat.le_trans F5.size YK) t9.size) (fun k hk h=>by have:=lY.hl;omega));clear dI nM iJ t9 t10 Tp Ri hP9 MX e4 g4 gy Dx hL8 hD8 YI hS8 hw8 pJ;generalize(w9.setCell ⟨bl,4,none⟩ (.slice (some ⟨g9,0,none⟩) (out.length+1) c9))=uX at*
       go_wp2_with fail;refine(yw uX bl bp (c :: r) p1 _ n LH n2 (by omega)).mono ?_;rintro e Bz ⟨rfl,YO,t11⟩;have l1:=pI ((c :: r).take n) lY.b3;have atV:((c :: r).take n).length<=n:=by rw [List.length_take];omega
       have atW:((c :: r).drop n).length<=(c :: r).length:=by rw [List.length_drop];omega
       go_wp2_with fail;refine(AO Bz bl bp ((c :: r).drop n) (gq p1 ((c :: r).take n)) _ YO (by omega) (by omega) l1.2.2).mono ?_;rintro e w12 ⟨rfl,YP,t12⟩;have yC:=t11.trans t12;have akk:Below w.heap.size w w12:=YN.trans (yC.below YN.size (fun k hk h=>by have:=lY.hl;omega));obtain⟨f',s2,p2,out',hR',hm'⟩:=lY.next hn h8 (dS GK yC (fun g hg h=>(LD g hg).2.2.1 h)) LD (ah YL yC lY.dl) (YM.turn yC (fun h=>lY.lp h.symm)) YP;have hm2:=vD hR'.lex;have HR:=aO hR';have HM:=aO hm2;have Yz:=aO hm';clear hR' hm2 hm' YP YO LH t11 t12 yC GK YL YM;go_wp2_with fail
       go_roundw
       case rel=>exact⟨akk,f',s2,p2,_,out',HR.o⟩
       case measure=>have:=HLEN.o;have:=HM.o;have:=Yz.o;omega
      ·go_simp
       try rw [hw8]
       refine hK.out _ _ ⟨hS8.1,hS8.2.1,trivial⟩ (fun _=>?_);clear hK K
       try simp only [sp,sq]
       refine dJ 4 fun K hK=>?_;go_simp;refine hK.out _ _ ⟨hS8.1,hS8.2.1,trivial⟩ (fun _=>?_);clear hK K
       try simp only [sp,sq]
       refine dJ 17 fun K hK=>?_;refine gK rfl (.tmp 59) (.tmp 71) _ rfl 0 GJ _ _ rfl rfl gy Dx (BZ ⟨kd,t,p1.1,p1.2⟩) h63 hbytes (Nat.zero_le _) (fun v' w9 n' dI nM iJ=>?_);obtain rfl:n'=out.length+1:=by have h1:=dI.1;have h2:=gy.1;rw [List.length_append,h2]at h1;have h3:(oK ⟨kd,t,p1.1,p1.2⟩).length=4:=rfl;omega
       obtain⟨g9,c9,rfl,_,_,_,_⟩:=jo dI;have t9:Turn (fun j=>(Value.slice A0 out.length C0).ownBlock=some j) w8 w9:=Turn.aZ nM (fun j h=>h);have Tp:=hL8.turn t9 (fun h=>(lY.fo bl h).2.2.1 rfl);have Ri:=ah hD8 t9 (fun h=>(lY.fo _ h).2.1 rfl);have hP9:=YI.turn t9 (fun h=>(lY.fo _ h).2.2.2 rfl);have MX:=Ny w9 Tp;have e4:=Tp.c4;have g4:=Tp.free 4;refine hK.out _ _ ⟨MX.1,MX.2.1,trivial⟩ (fun _=>?_);clear hK K
       try simp only [sp,sq]
       refine dJ 18 fun K hK=>?_;go_simp;refine hK.out _ _ ⟨MX.1,MX.2.1,trivial⟩ (fun _=>?_);clear hK K
       try simp only [sp,sq]
       refine dJ 19 fun K hK=>?_;go_simp;refine hK.out _ _ ⟨MX.1,MX.2.1,trivial⟩ (fun _=>?_);clear hK K
       try simp only [sp,sq]
       refine dJ 20 fun K hK=>?_;go_simp;have LH:=Tp.Lx (.slice (some ⟨g9,0,none⟩) (out.length+1) c9);have t10:=ak w9 bl 4 (.slice (some ⟨g9,0,none⟩) (out.length+1) c9);refine hK.out _ _ ⟨LH.c1,LH.c2,trivial⟩ (fun _=>?_);clear hK K
       try simp only [sp,sq]
       refine eT _ ?_;have YK:=LC.size;have atS:bp<w5.heap.size:=by obtain⟨_,_,_,h,_⟩:=lY.pairs;exact h.lt
       have atT:=lY.lex.lt;have atU:=block_lt lY.diag;have LD:∀g,(Value.slice (some ⟨g9,0,none⟩) (out.length+1) c9).ownBlock=some g->w.heap.size<=g∧g≠w.heap.size∧g≠bl∧g≠bp:=fun g hg=>by
        rcases iJ with h |h
        ·rw [h]at hg;exact lY.fo g hg
        ·rw [h]at hg;injection hg with hg;subst hg;have:=F5.size;exact⟨by omega,by omega,by omega,by omega⟩
       have GK:=dS dI t10 (fun g hg h=>(LD g hg).2.2.1 h);have YL:=ah Ri t10 lY.dl;have YM:=hP9.turn t10 (fun h=>lY.lp h.symm);have YN:Below w.heap.size w (w9.setCell ⟨bl,4,none⟩ (.slice (some ⟨g9,0,none⟩) (out.length+1) c9)):=((F5.trans (LC.mono F5.size)).trans (t9.below (Nat.le_trans F5.size YK) (fun k hk h=>by have:=(lY.fo k h).1;omega))).trans (t10.below (Nat.le_trans (Nat.le_trans F5.size YK) t9.size) (fun k hk h=>by have:=lY.hl;omega));clear dI nM iJ t9 t10 Tp Ri hP9 MX e4 g4 gy Dx hL8 hD8 YI hS8 hw8 pJ;generalize(w9.setCell ⟨bl,4,none⟩ (.slice (some ⟨g9,0,none⟩) (out.length+1) c9))=uX at*
       go_wp2_with fail;refine(yw uX bl bp (c :: r) p1 _ n LH n2 (by omega)).mono ?_;rintro e Bz ⟨rfl,YO,t11⟩;have l1:=pI ((c :: r).take n) lY.b3;have atV:((c :: r).take n).length<=n:=by rw [List.length_take];omega
       have atW:((c :: r).drop n).length<=(c :: r).length:=by rw [List.length_drop];omega
       go_wp2_with fail;refine(AO Bz bl bp ((c :: r).drop n) (gq p1 ((c :: r).take n)) _ YO (by omega) (by omega) l1.2.2).mono ?_;rintro e w12 ⟨rfl,YP,t12⟩;have yC:=t11.trans t12;have akk:Below w.heap.size w w12:=YN.trans (yC.below YN.size (fun k hk h=>by have:=lY.hl;omega));obtain⟨f',s2,p2,out',hR',hm'⟩:=lY.next hn h8 (dS GK yC (fun g hg h=>(LD g hg).2.2.1 h)) LD (ah YL yC lY.dl) (YM.turn yC (fun h=>lY.lp h.symm)) YP;have hm2:=vD hR'.lex;have HR:=aO hR';have HM:=aO hm2;have Yz:=aO hm';clear hR' hm2 hm' YP YO LH t11 t12 yC GK YL YM;go_wp2_with fail
       go_roundw
       case rel=>exact⟨akk,f',s2,p2,_,out',HR.o⟩
       case measure=>have:=HLEN.o;have:=HM.o;have:=Yz.o;omega
end
theorem YQ (w:World)(s:Bt)(hX:mW w)(hs:s.length<=281474976710656):Calls Tryz.prog 59 #[sv s] w fun e w'=>e=.returned (.bool (gT s))∧Below w.heap.size w w':=by
 have hsz:=cO s;cases s with
 |nil=>
  have ha:gT []=false:=rfl;rw [ha];go_enter Tryz.func59,Tryz.ntmps59;go_wp2_with fail;go_ret;exact⟨rfl,Below.refl _ _⟩
 |cons c r=>
  have hix:(ByteArray.mk (c :: r).toArray)[0]'(by rw [cO];simp)=c:=eU (c :: r) 0;have hl0:(0:Int)<(r.length:Int)+1:=by omega
  have hnz:((c :: r:Bt)==[])=false:=rfl;have ha:gT (c :: r)=(decide ((c :: r).length<=32) && fB c && decide (dO bN (c :: r)=(c :: r).length) && !decide ((c :: r)∈fC)):=rfl;have fF:=aO (Kw (c :: r) w hs);generalize dO bN (c :: r)=n at*
  by_cases h32:(c :: r).length<=32
  ·have atX:(r.length:Int)+1<=32:=by simp only [List.length_cons]at h32;omega
   rw [decide_eq_true h32,Bool.true_and]at ha;clear h32;cases hl:fB c
   ·rw [hl]at ha;simp only [Bool.false_and]at ha;rw [ha];clear ha;go_enter Tryz.func59,Tryz.ntmps59;go_wp2_with fail;refine(jZ c _).mono ?_;rintro e w1 ⟨rfl,rfl⟩;rw [hl];go_wp2_with fail;go_ret;exact⟨rfl,Below.refl _ _⟩
   ·rw [hl,Bool.true_and]at ha;by_cases hn:n=(c :: r).length
    ·rw [decide_eq_true hn,Bool.true_and]at ha;have hn':(n:Int)=(r.length:Int)+1:=by rw [hn];simp
     clear hn;rw [ha];clear ha;generalize hq:decide ((c :: r)∈fC)=q;go_enter Tryz.func59,Tryz.ntmps59;go_wp2_with fail;refine(jZ c _).mono ?_;rintro e w1 ⟨rfl,rfl⟩;rw [hl];go_wp2_with fail;refine fF.o.mono ?_;rintro e w2 ⟨rfl,rfl⟩;go_wp2_with fail;refine(Dw _ hX).mono ?_;rintro e w3 ⟨v3,rfl,atY,hb3⟩;go_wp2_with fail;refine(ru v3 fC (c :: r) _ atY).mono ?_;rintro e w4 ⟨rfl,rfl⟩;rw [hq];go_wp2_with fail;go_ret;exact⟨rfl,hb3⟩
    ·rw [decide_eq_false hn,Bool.false_and]at ha;have hn':¬(n:Int)=(r.length:Int)+1:=by intro h;apply hn;simp;omega
     clear hn;rw [ha];clear ha;go_enter Tryz.func59,Tryz.ntmps59;go_wp2_with fail;refine(jZ c _).mono ?_;rintro e w1 ⟨rfl,rfl⟩;rw [hl];go_wp2_with fail;refine fF.o.mono ?_;rintro e w2 ⟨rfl,rfl⟩;go_wp2_with fail;go_ret;exact⟨rfl,Below.refl _ _⟩
  ·have atX:¬(r.length:Int)+1<=32:=by simp only [List.length_cons]at h32;omega
   rw [decide_eq_false h32]at ha;simp only [Bool.false_and]at ha;clear h32;rw [ha];clear ha;go_enter Tryz.func59,Tryz.ntmps59;go_wp2_with fail;go_ret;exact⟨rfl,Below.refl _ _⟩
theorem mX (c:UInt8)(w:World):Calls Tryz.prog 93 #[.int .u8 (c.toNat:Int)] w fun e w'=>e=.returned (.bool (fB c))∧w'=w:=by
 unfold fB;generalize c.toNat=n;go_enter Tryz.func93,Tryz.ntmps93;go_wp2_with fail
 all_goals
  go_ret;refine⟨?_,rfl⟩;congr 2
  try simp
  try omega
  try (rw [Bool.eq_iff_iff];simp only [Bool.or_eq_true,Bool.and_eq_true,decide_eq_true_eq,beq_iff_eq];omega)
theorem oM (c:UInt8)(w:World):Calls Tryz.prog 92 #[.int .u8 (c.toNat:Int)] w fun e w'=>e=.returned (.bool (bX c))∧w'=w:=by
 unfold bX;generalize c.toNat=n;go_enter Tryz.func92,Tryz.ntmps92;go_wp2_with fail
 all_goals
  go_ret;refine⟨?_,rfl⟩;congr 2
  try simp
  try omega
  try (rw [Bool.eq_iff_iff];simp only [Bool.or_eq_true,Bool.and_eq_true,decide_eq_true_eq,beq_iff_eq];omega)
theorem Rj (w:World):Calls Tryz.prog 146 #[] w fun e w'=>∃v,e=.returned v∧Ss w' w'.heap.size v fC∧Below w.heap.size w w':=by
 have hss:Ss (w.alloc (.cells (qW fC).toArray 9)) (w.alloc (.cells (qW fC).toArray 9)).heap.size (.slice (some ⟨w.heap.size,0,none⟩) 25 25) fC:=by
  have:=iN w (qW fC).toArray 9 1 25 (by simp [fE];rfl);rw [World.size_alloc];simpa [Ss]using this
 have hb:Below w.heap.size w (w.alloc (.cells (qW fC).toArray 9)):=o9 _ _;go_enter Tryz.func146,Tryz.ntmps146;go_wp2_with fail;go_ret;exact⟨_,rfl,hss,hb⟩
theorem Kz (w:World)(x:Bt):Calls Tryz.prog 91 #[sv x] w fun e w'=>e=.returned (.bool (decide (x∈fC)))∧Below w.heap.size w w':=by
 obtain⟨l,hl⟩:∃l,l=fC:=⟨_,rfl⟩
 rw [<-hl];go_enter Tryz.func91,Tryz.ntmps91;go_wp2_with fail;refine(Rj _).mono ?_;rintro e w1 ⟨v,rfl,hss,hb⟩;rw [<-hl]at hss;clear hl;obtain⟨A,c,rfl,hn,hc,hx⟩:=hss.open_;unfold maxLen at hc;go_wp2_with fail
 go_loop [4] (fun v4=>∃k:Nat,v4=I k∧k<=l.length∧x ∉ l.take k) (fun v4=>l.length - (intOf v4).toNat)
 case atStart=>exact⟨0,rfl,by omega,by simp⟩
 case round=>
  obtain⟨k,rfl,hk,hnot⟩:=hrel;by_cases hlt:k<l.length
  ·obtain⟨b,o,rfl,hb2,hcell⟩:=hx (by omega);have d1:=hcell k hlt;have e1:l[k]=x->x∈l:=fun h=>by rw [<-h];exact List.getElem_mem hlt
   have e2:¬l[k]=x->x ∉ l.take (k+1):=fun h hh=>by
    rw [List.take_succ_eq_append_getElem hlt,List.mem_append]at hh;rcases hh with hh |hh
    ·exact hnot hh
    ·simp at hh;exact h hh.symm
   clear hcell hx hss hnot;generalize l[k]=X at*
   by_cases hX:X=x
   ·have e3:=e1 hX;have hq:(X==x)=true:=by rw [beq_iff_eq];exact hX
    clear hX e1 e2;go_wp2_with fail;go_ret;exact⟨by simp [e3],hb⟩
   ·have e3:=e2 hX;have hq:(X==x)=false:=by rw [beq_eq_false_iff_ne];exact hX
    clear hX e1 e2;go_wp2_with fail
    go_round
    case rel=>exact⟨k+1,rfl,by omega,e3⟩
    case measure=>simp [intOf];omega
  ·obtain rfl:k=l.length:=by omega
   rw [List.take_length]at hnot;go_wp2_with fail;go_ret;exact⟨by simp [hnot],hb⟩
theorem LJ (c:UInt8):fB c=true->bX c=false:=by
 unfold fB bX;intro h;simp only [Bool.or_eq_true,Bool.and_eq_true,decide_eq_true_eq]at h;rw [Bool.and_eq_false_iff,decide_eq_false_iff_not,decide_eq_false_iff_not];omega
end Go.Proofs.YtncnnedlgofccaaGreatDoor
