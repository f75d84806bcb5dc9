/- GG, FA, MC -/
import Derived.Test.YtmbppnbekkbibaaGreatDoorLB03
import Derived.Test.YtmbppnbekkbibaaGreatDoorLB01
import Derived.Laws.Rows
import Derived.Test.YtmbppnbekkbibaaGreatDoorLB02
import Derived.WalkKit
set_option linter.unusedSimpArgs false
set_option linter.unusedVariables false
set_option maxRecDepth 100000
set_option maxHeartbeats 8000000
namespace Go.Proofs.YtmbppnbekkbibaaGreatDoor
open Go.RowKit
section
open Go.Maps (has IsMap Keyed)
theorem Im {a b a' b':UInt8} (h:pF a b=pF a' b'):a=a'∧b=b':=by
 unfold pF at h;injection h with h;injection h with h;injection h with h1 h2;injection h2 with h2 _;injection h1 with _ h1;injection h2 with _ h2;exact⟨UInt8.toNat_inj.1 (by omega),UInt8.toNat_inj.1 (by omega)⟩
theorem Io {D:DataW Unit} {l:List Bt} (hD:IsMap D) (h:wY D l) {a b:UInt8} {kl:Lit} (hk:keyOf Tryz.prog 160 (pF a b)=some kl):wY (D.put kl (.lit (.bool true))) (l++[[a,b]]):=by
 intro a' b' kl' hk' z;by_cases he:kl'=kl
 ·subst he;obtain⟨rfl,rfl⟩:=Im (sV.inj hk' hk);rw [Maps.atKey_put_same hD (sV.key hk),if_pos (by simp)]
 ·have hne:[a',b']≠[a,b]:=by
   intro e;injection e with e1 e2;injection e2 with e2 _;subst e1 e2;rw [hk']at hk;exact he (Option.some.inj hk)
  rw [Maps.atKey_put_other he,h a' b' kl' hk' z];by_cases hin:[a',b']∈l
  ·rw [if_pos hin,if_pos (List.mem_append_left _ hin)]
  ·rw [if_neg hin,if_neg (by simp only [List.mem_append,List.mem_singleton];rintro(h1 | h1);exact hin h1;exact hne h1)]
theorem Ct:wY (.map []) []:=fun _ _ _ _ z=>rfl
theorem Cu {H:Type} {P:Program} {ops:Array Oper} {o:Oper} {a:Act} {w:World} {K:Act→World→Prop} {Q:Exit→Act→World→Prop} {E:Prop}
  (hg:o.guard=none) (m x v:Operand) (t:TypeId) (hop:o.op=Op.mapUpdate t m x v)
  (k e:TypeId) (Kd:Keyed P k) (ht:P.underlying t=some (.map k e)) (R:Value→Option (DataW H ×List MemPlace)) (b n:Nat) (D:DataW H)
  (hm:a.eval m= .map (some b)) (hown:w.ownsMap P k R b n D) (hn:n<maxLen) (key val:Value) (kl:Lit) (hx:a.eval x=key) (hv:a.eval v=val) (hkey:keyOf P k key=some kl)
  (d:DataW H) (ps:List MemPlace) (hval:R val=some (d,ps))
  (hK:∀w',w'.ownsMap P k R b (n+1) (D.put kl d)→w.grownBy w' (some b)→K (a.put o.dst undef) w'):
  if Region.wanted o (yielded ops a.tmps)=true then Oper.wp P o a w K Q else E:=by
 have hw:Region.wanted o (yielded ops a.tmps)=true:=by simp [Region.wanted,hg]
 rw [if_pos hw];obtain⟨w',hrun,r1,r2⟩:=hown.update Kd ht hn hkey hval;unfold Oper.wp;simp [execOp,hop,hm,hx,hv,hrun,Result.andThen];exact hK w' r1 r2
theorem Ip (w:World):Calls Tryz.prog 55 #[] w fun e w'=>∃bp,e= .returned (.map (some bp))∧w.heap.size≤bp∧iZ w' bp bU∧Below w.heap.size w w':=by
 have hmm:= @run_makeMap Tryz.prog;have h8:bU.length=8:=rfl;go_enter Tryz.func55,Tryz.ntmps55;go_wp2_with fail;have s1:(w.alloc (.map #[] 0)).heap.size=w.heap.size+1:=by simp
 have hss:Ss ((w.alloc (.map #[] 0)).alloc (.cells (mZ bU).toArray 9)) (w.heap.size+2) (.slice (some ⟨w.heap.size+1,0,none⟩) 8 8) bU:=by
  have:=fT (w.alloc (.map #[] 0)) (mZ bU).toArray 9 1 8 (by simp [jd,h8]) (by decide);rw [s1]at this;simpa [Ss]using this
 have hmap:iZ ((w.alloc (.map #[] 0)).alloc (.cells (mZ bU).toArray 9)) w.heap.size []:=
  ⟨0, .map [],Nat.zero_le _,(World.ownsMap_made w _ _ _).alloc _,Ct⟩
 have hB:Below w.heap.size w ((w.alloc (.map #[] 0)).alloc (.cells (mZ bU).toArray 9)):=((Below.refl _ _).alloc (Nat.le_refl _) _).alloc (by simp) _;have hsz:((w.alloc (.map #[] 0)).alloc (.cells (mZ bU).toArray 9)).heap.size=w.heap.size+2:=by simp
 have hw2:∃w2,w2=((w.alloc (.map #[] 0)).alloc (.cells (mZ bU).toArray 9)):=⟨_,rfl⟩
 obtain⟨w2,hw2⟩:=hw2;rw [←hw2]at hss hmap hB hsz;have J6:((w.alloc (.map #[] 0)).alloc (.cells #[.string { data:= #[45,62]}, .string { data:= #[61,62]}, .string { data:= #[60,58]}, .string { data:= #[60,60]}, .string { data:= #[60,61]}, .string { data:= #[62,62]}, .string { data:= #[61,61]}, .string { data:= #[43,43]}] 9))=w2:=by rw [hw2];rfl
 rw [J6];clear hw2 J6;go_loopw [7] (fun v7 wr=>∃k:Nat,v7= .int .i64 k∧k≤8∧iZ wr w.heap.size (bU.take k)∧Turn (fun j=>j=w.heap.size) w2 wr) (fun v7 _=>8 - (intOf v7).toNat)
 case atStart=>exact⟨0,rfl,by omega,hmap,Turn.refl _ _⟩
 case round=>
  obtain⟨k,rfl,hk,⟨n,D,hn,hown,hD⟩,htr⟩:=hrel;by_cases hlt:k<8
  ·obtain⟨A,c,hA, _, _,hx⟩:=hss.open_;obtain⟨b0,o0,hA2,hb0,hcell⟩:=hx (by decide);rw [hA2]at hA;simp only [Value.slice.injEq,Option.some.injEq,Addr.mk.injEq,and_true]at hA;obtain⟨⟨rfl,rfl⟩,Sz⟩:=hA;clear Sz;have d1:=Ck htr (by omega) (by omega) (hcell k (by rw [h8];exact hlt));rw [Nat.zero_add]at d1;have hnext:bU.take (k+1)=bU.take k++[bU[k]'(by rw [h8];exact hlt)]:=List.take_succ_eq_append_getElem _;have h2:(bU[k]'(by rw [h8];exact hlt)).length=2:=by
    have hall:∀m∈bU,m.length=2:=by decide
    exact hall _ (List.getElem_mem _)
   have hnl:(bU.take k).length=k:=by rw [List.length_take,h8];omega
   generalize(bU[k]'(by rw [h8];exact hlt))=m at*
   obtain⟨a,b,rfl⟩:∃a b,m=[a,b]:=by
    match m,h2 with
    | [a,b], _=>exact⟨a,b,rfl⟩
   have hix:=gQ [a,b] 0 (by simp);have Wj:=gQ [a,b] 1 (by simp);have aaR:=dO [a,b];obtain⟨kl,hkl⟩:=Cr a b;have HKL:=hid hkl;have Wm:=hid (Io hown.isMap hD hkl);have rY:=hid hnext;have jf:=hid hss;clear hss hmap hcell hx hkl hnext h8;go_wp2_with fail;refine wp_region_held_drew (S:=fun _=>True) (by kernel_rfl) trivial (fun _=> ?_)
   try simp only [Act.put,List.getElem_toArray,List.getElem_cons_zero,List.getElem_cons_succ,List.setIfInBounds_toArray,List.set_cons_zero,List.set_cons_succ]
   refine wpAnyH_take (i:=0) (v:=(.map (some w.heap.size))) rfl (by kernel_rfl) (by kernel_rfl) (by kernel_rfl) (fun _ _ _ h=>h) (Or.inl ⟨by kernel_rfl,by intro w hSw;go_simp⟩) trivial ?_
   try simp only [Act.put,List.getElem_toArray,List.getElem_cons_zero,List.getElem_cons_succ,List.setIfInBounds_toArray,List.set_cons_zero,List.set_cons_succ]
   refine wpAnyH_take (i:=1) (v:=(sv [a,b])) rfl (by kernel_rfl) (by kernel_rfl) (by kernel_rfl) (fun _ _ _ h=>h) (Or.inl ⟨by kernel_rfl,by intro w hSw;go_simp⟩) trivial ?_
   try simp only [Act.put,List.getElem_toArray,List.getElem_cons_zero,List.getElem_cons_succ,List.setIfInBounds_toArray,List.set_cons_zero,List.set_cons_succ]
   refine wpAnyH_take (i:=2) (v:=(.int .u8 (a.toNat:Int))) rfl (by kernel_rfl) (by kernel_rfl) (by kernel_rfl) (fun _ _ _ h=>h) (Or.inl ⟨by kernel_rfl,by intro w hSw;go_simp⟩) trivial ?_
   try simp only [Act.put,List.getElem_toArray,List.getElem_cons_zero,List.getElem_cons_succ,List.setIfInBounds_toArray,List.set_cons_zero,List.set_cons_succ]
   refine wpAnyH_take (i:=3) (v:=(sv [a,b])) rfl (by kernel_rfl) (by kernel_rfl) (by kernel_rfl) (fun _ _ _ h=>h) (Or.inl ⟨by kernel_rfl,by intro w hSw;go_simp⟩) trivial ?_
   try simp only [Act.put,List.getElem_toArray,List.getElem_cons_zero,List.getElem_cons_succ,List.setIfInBounds_toArray,List.set_cons_zero,List.set_cons_succ]
   refine wpAnyH_take (i:=4) (v:=(.int .u8 (b.toNat:Int))) rfl (by kernel_rfl) (by kernel_rfl) (by kernel_rfl) (fun _ _ _ h=>h) (Or.inl ⟨by kernel_rfl,by intro w hSw;go_simp⟩) trivial ?_
   try simp only [Act.put,List.getElem_toArray,List.getElem_cons_zero,List.getElem_cons_succ,List.setIfInBounds_toArray,List.set_cons_zero,List.set_cons_succ]
   refine wpAnyH_take (i:=5) (v:=(.agg #[.int .u8 (a.toNat:Int), .int .u8 (b.toNat:Int)])) rfl (by kernel_rfl) (by kernel_rfl) (by kernel_rfl) (fun _ _ _ h=>h) (Or.inl ⟨by kernel_rfl,by intro w hSw;go_simp⟩) trivial ?_
   try simp only [Act.put,List.getElem_toArray,List.getElem_cons_zero,List.getElem_cons_succ,List.setIfInBounds_toArray,List.set_cons_zero,List.set_cons_succ]
   refine wpAnyH_ready (rs:=[6]) (by kernel_rfl) (by simp) ?_;refine AllReadyH.cons rfl (fun K hK=> ?_) AllReadyH.nil;refine Cu rfl _ _ _ 107 rfl 160 4 sV Tryz.underlying107 (plainElem Tryz.prog 4) w.heap.size n D rfl (w:=wr.drew) hown (by unfold maxLen;omega) (pF a b) _ kl rfl rfl HKL.out (.lit (.bool true)) [] (plainElem_bool Tryz.underlying4 true) (fun w6 hown6 Pm=> ?_);refine hK.out _ _ trivial (fun _=> ?_);clear hK K
   try simp only [Act.put,List.getElem_toArray,List.getElem_cons_zero,List.getElem_cons_succ,List.setIfInBounds_toArray,List.set_cons_zero,List.set_cons_succ]
   refine wpAnyH_done (by kernel_rfl) ?_ _;have Mw:Turn (fun j=>j=w.heap.size) wr w6:=(Turn.drewN (fun j=>j=w.heap.size) wr 1).trans (Turn.aP (F:=fun j=>j=w.heap.size) Pm (fun j h=>by injection h with h;exact h.symm)) (fun _ _ h=>h);go_wp2_with fail
   go_roundw
   case rel=>exact⟨k+1,rfl,by omega,⟨n+1, _,by rw [rY.out,List.length_append];simp only [List.length_cons,List.length_nil];omega,hown6,by rw [rY.out];exact Wm.out⟩,htr.trans Mw (fun _ _ h=>h)⟩
   case measure=>simp [intOf];omega
  ·obtain rfl:k=8:=by omega
   have hfin:iZ wr w.heap.size bU:=⟨n,D,by have:=hn;simpa [h8]using this,hown,hD⟩
   have hB9:Below w.heap.size w wr:=hB.trans (htr.below hB.size (fun j hj e=>by omega));clear hss hmap hown hD;go_wp2_with fail;go_ret;exact⟨_,rfl,Nat.le_refl _,hfin,hB9⟩
def pG (t:aF):List Value:=[.int .i64 t.kind,sv t.text, .int .i64 t.line, .int .i64 t.col]
def dA (l:List aF):List Value:=l.flatMap pG
theorem oD (l:List aF):(dA l).length=l.length*4:=by
 induction l with
 | nil=>rfl
 | cons t l ih=>
  have h:dA (t :: l)=pG t++dA l:=rfl;rw [h,List.length_append,ih,List.length_cons];have:(pG t).length=4:=rfl;omega
theorem qL (l:List aF) (t:aF):dA (l++[t])=dA l++pG t:=by
 unfold dA;rw [List.flatMap_append];simp
theorem EF:iF Tryz.prog 66 70 (.agg #[.int .i64 0,sv [], .int .i64 0, .int .i64 0]) 4 40:=⟨Tryz.underlying66,by kernel_rfl,rfl,by decide⟩
def lexB (f:Nat) (s1:Bt) (p1:Nat ×Nat) (out:List aF):List aF ×(Nat ×Nat ×Int):=
 if s1=[]then(out++[⟨0,[],p1.1,p1.2⟩],(0,0,0))else
 match fZ s1 with
 | .inl e=>([],(p1.1,p1.2,e))
 | .inr (kd,t,n)=>if out.length=8192 then([],(p1.1,p1.2,19))else kI f (s1.drop n) (fu p1 (s1.take n)) (out++[⟨kd,t,p1.1,p1.2⟩])
theorem Iq (f:Nat) (s:Bt) (p:Nat ×Nat) (out:List aF):kI (f+1) s p out=lexB f (s.drop (aW s)) (fu p (s.take (aW s))) out:=rfl
structure Cv (base bd bl bp N:Nat) (ans:List aF ×(Nat ×Nat ×Int)) (wr:World) (f:Nat) (s1:Bt) (p1:Nat ×Nat) (bW:Value) (out:List aF):Prop where
 diag:wr.heap[bd]? =some (.cells #[.int .i64 0, .int .i64 0, .int .i64 0, .int .i64 0] 55 (0,0))
 lex:dw wr bl bp s1 p1 bW
 pairs:iZ wr bp bU
 row:wr.ownsRow 0 70 4 bW out.length (dA out)
 fuel:s1.length≤f
 eq:lexB f s1 p1 out=ans
 b1:p1.1+s1.length≤N
 b2:p1.2+s1.length≤N
 b3:1≤p1.2
 J7:out.length≤8192
 hd:base≤bd
 hl:base≤bl
 hp:base≤bp
 dl:bd≠bl
 dp:bd≠bp
 lp:bl≠bp
 fo:∀g,bW.ownBlock=some g→base≤g∧g≠bd∧g≠bl∧g≠bp
theorem Cv.below {base bd bl bp N:Nat} {ans:List aF ×(Nat ×Nat ×Int)} {w w':World} {f:Nat} {s1:Bt} {p1:Nat ×Nat} {bW:Value} {out:List aF} (h:Cv base bd bl bp N ans w f s1 p1 bW out) (hb:Below w.heap.size w w'):Cv base bd bl bp N ans w' f s1 p1 bW out:=
 { h with
  diag:=ah h.diag (Turn.of_below (F:=fun _=>False) hb) id
  lex:=h.lex.turn (Turn.of_below (F:=fun _=>False) hb) id
  pairs:=h.pairs.turn (Turn.of_below (F:=fun _=>False) hb) id
  row:=own_below h.row hb}
theorem Cv.next {base bd bl bp N:Nat} {ans:List aF ×(Nat ×Nat ×Int)} {w w':World} {f:Nat} {s1:Bt} {p1:Nat ×Nat} {bW Gi:Value} {out:List aF} (h:Cv base bd bl bp N ans w f s1 p1 bW out)
  {kd:Int} {t:Bt} {n:Nat} (hn:fZ s1= .inr (kd,t,n)) (ho:out.length≠8192)
  (hrow:w'.ownsRow 0 70 4 Gi (out.length+1) (dA out++pG ⟨kd,t,p1.1,p1.2⟩)) (hfo:∀g,Gi.ownBlock=some g→base≤g∧g≠bd∧g≠bl∧g≠bp)
  (SA:w'.heap[bd]? =some (.cells #[.int .i64 0, .int .i64 0, .int .i64 0, .int .i64 0] 55 (0,0))) (Pn:iZ w' bp bU)
  (hlex:dw w' bl bp ((s1.drop n).drop (aW (s1.drop n))) (fu (fu p1 (s1.take n)) ((s1.drop n).take (aW (s1.drop n)))) Gi):
  ∃f' s2 p2 out',Cv base bd bl bp N ans w' f' s2 p2 Gi out'∧s2.length<s1.length:=by
 obtain⟨n1,n2⟩:=sJ hn;have hne:s1≠[]:=by intro e;subst e;simp at n2;omega
 have hf:=h.fuel;obtain⟨f',rfl⟩:∃f',f=f'+1:=⟨f - 1,by omega⟩
 have heq:=h.eq;unfold lexB at heq;rw [if_neg hne,hn]at heq;simp only at heq;rw [if_neg ho,Iq]at heq;have l1:=nu (s1.take n) h.b3;rw [List.length_take,Nat.min_eq_left n2]at l1;have hsk:=sH false (s1.drop n);have SB:aW (s1.drop n)≤s1.length - n:=by rw [List.length_drop]at hsk;exact hsk
 have l2:=nu ((s1.drop n).take (aW (s1.drop n))) l1.2.2;have hb1:=h.b1;have hb2:=h.b2;have hol:=h.J7;have ht:((s1.drop n).take (aW (s1.drop n))).length=aW (s1.drop n):=by rw [List.length_take,List.length_drop];omega
 rw [ht]at l2;have hlen:((s1.drop n).drop (aW (s1.drop n))).length=s1.length - n - aW (s1.drop n):=by rw [List.length_drop,List.length_drop]
 refine⟨f', _, _,out++[⟨kd,t,p1.1,p1.2⟩],⟨SA,hlex,Pn, ?_,by rw [hlen];omega,heq,by rw [hlen];omega,by rw [hlen];omega,l2.2.2,by simp;omega,h.hd,h.hl,h.hp,h.dl,h.dp,h.lp,hfo⟩,by rw [hlen];omega⟩;rw [qL,List.length_append];exact hrow
theorem iN {P:Program} {fn:Func} {t0 p:Tmp} {ty:TypeId} (h:fn.results= #[.tmp t0, .cell p ty]) (tmps:Array Value) (w:World) (g:Nat) (t:TypeId) (cs:Array Value) (fr:Nat ×Nat) (d:TypeDesc)
  (hp:tmps.getD p undef= .pointer (some ⟨g,0,none⟩)) (hg:w.heap[g]? =some (.cells cs t fr))
  (hu:P.underlying ty=some d) (hd:(match d with | .struct _ | .array _ _=>true | _=>false)=true) (hi:(P.info? ty).map (·.size)=some cs.size):
  (results fn tmps).run P w= .ok (.tuple #[tmps.getD t0 undef, .agg cs]) w:=by
 have hp':tmps[p]?.getD undef= .pointer (some ⟨g,0,none⟩):=by simpa using hp
 simp [results,h,hp',asAddr,run_loadVar_row w g t ty cs fr d hg hu hd hi,Result.andThen]
theorem J8 {w:World} {base:Nat} {e:TypeId} {k n:Nat} {v:Value} {xs:List Value} (h:w.ownsRow 0 e k v n xs) (hb:∀g,v.ownBlock=some g→base≤g):w.ownsRow base e k v n xs:=by
 refine⟨h.1, ?_⟩;rcases h.2 with h2 | ⟨g,cap,cur,hv, _,r⟩
 ·exact .inl h2
 ·exact .inr ⟨g,cap,cur,hv,hb g (by subst hv;rfl),r⟩
abbrev Cm (w:World) (b:Nat) (v0 v1 v2 v3:Value):World:=(((w.setCell ⟨b,0,none⟩ v0).setCell ⟨b,1,none⟩ v1).setCell ⟨b,2,none⟩ v2).setCell ⟨b,3,none⟩ v3
theorem uT (w:World) (b:Nat) (v0 v1 v2 v3:Value):Turn (fun k=>k=b) w (Cm w b v0 v1 v2 v3):=
 (((ay w b 0 v0).trans (ay _ b 1 v1) (fun _ _ h=>h)).trans (ay _ b 2 v2) (fun _ _ h=>h)).trans (ay _ b 3 v3) (fun _ _ h=>h)
theorem rD {w:World} {b:Nat} {a0 a1 a2 a3:Value} {t:TypeId} (h:w.heap[b]? =some (.cells #[a0,a1,a2,a3] t (0,0))) (v0 v1 v2 v3:Value):(Cm w b v0 v1 v2 v3).heap[b]? =some (.cells #[v0,v1,v2,v3] t (0,0)):=
 heap_setCell_same _ b 3 _ _ v3 (heap_setCell_same _ b 2 _ _ v2 (heap_setCell_same _ b 1 _ _ v1 (heap_setCell_same w b 0 _ _ v0 h)))
theorem bI {w:World} {b:Nat} {cs:Array Value} {t:TypeId} (h:w.heap[b]? =some (.cells cs t (0,0))) (i:Nat):w.frozen? ⟨b,i,none⟩=false:=by
 simp [World.frozen?,h]
theorem Bg (t:aF):∀u∈pG t,u.oneCell'=true:=by
 intro u hu;simp [pG]at hu;rcases hu with rfl | rfl | rfl | rfl <;> rfl
def J9 (d:Nat ×Nat ×Int):Value:= .agg #[.int .i64 0, .int .i64 d.1, .int .i64 d.2.1, .int .i64 d.2.2]
def M4 (ans:List aF ×(Nat ×Nat ×Int)) (w:World) (e:Ending) (w':World):Prop:=
 ∃v n,e= .returned (.tuple #[v,J9 ans.2])∧w'.ownsRow w.heap.size 70 4 v n (dA ans.1)∧Below w.heap.size w w'
def Ka (w:World) (bd bl bp N:Nat) (ans:List aF ×(Nat ×Nat ×Int)) (wr:World):Prop:=
 Below w.heap.size w wr∧∃f s1 p1 bW out,Cv w.heap.size bd bl bp N ans wr f s1 p1 bW out
theorem M5 (w:World) (s:Bt) (hX:jX w):Calls Tryz.prog 28 #[sv s] w fun e w'=>M4 (dS s) w e w':=by
 have hmm:= @run_makeMap Tryz.prog;have hsz:=dO s;by_cases hlong:65536<s.length
 ·have ha:dS s=([],(1,1,2)):=by unfold dS;rw [if_pos hlong]
  rw [ha];go_enter Tryz.func28,Tryz.ntmps28;go_wp2_with fail;refine bodyPost_ret (iN rfl _ _ w.heap.size _ _ _ _ rfl (heap_alloc_new w _) Tryz.underlying55 rfl (by kernel_rfl)) rfl ?_;exact⟨_,0,rfl,World.ownsRow_nil _ _ _ _,(Below.refl _ _).alloc (Nat.le_refl _) _⟩
 ·have ha:dS s=lexB s.length (s.drop (aW s)) (fu (1,1) (s.take (aW s))) []:=by unfold dS;rw [if_neg hlong];rfl
  rw [ha];clear ha;generalize zH:lexB s.length (s.drop (aW s)) (fu (1,1) (s.take (aW s))) []=ans;go_enter Tryz.func28,Tryz.ntmps28;go_wp2_with fail;refine(Ip _).mono ?_;rintro e w2 ⟨bp,rfl,hbp,hP,hb2⟩;have s1:(w.alloc (.cells #[.int .i64 0, .int .i64 0, .int .i64 0, .int .i64 0] 55)).heap.size=w.heap.size+1:=by simp
  have hd1:=heap_alloc_new w (.cells #[.int .i64 0, .int .i64 0, .int .i64 0, .int .i64 0] 55);have hb1:Below w.heap.size w (w.alloc (.cells #[.int .i64 0, .int .i64 0, .int .i64 0, .int .i64 0] 55)):=(Below.refl _ _).alloc (Nat.le_refl _) _;have Wn:bp<w2.heap.size:=by obtain⟨_, _, _,h, _⟩:=hP;exact h.lt
  have hd2:=ah hd1 (Turn.of_below (F:=fun _=>False) hb2) id;have hB2:=hb1.trans (hb2.mono hb1.size);rw [s1]at hbp hb2;have hs2:=hb2.size;rw [s1]at hs2;clear hd1 hb1 hb2;have hL3:dw (w2.alloc (.cells #[sv s, .int .i64 1, .int .i64 1, .map (some bp), .slice none 0 0] 110)) w2.heap.size bp s (1,1) (.slice none 0 0):=heap_alloc_new w2 _;have t3:=Turn.alloc (fun _=>False) w2 (.cells #[sv s, .int .i64 1, .int .i64 1, .map (some bp), .slice none 0 0] 110);have hB3:Below w.heap.size w (w2.alloc (.cells #[sv s, .int .i64 1, .int .i64 1, .map (some bp), .slice none 0 0] 110)):=hB2.alloc hB2.size _;go_wp2_with fail;refine(rC _ w2.heap.size bp s (1,1) _ hL3 (by omega) (by simp) (Nat.le_refl _)).mono ?_;rintro e w4 ⟨rfl,hL4,t4⟩;have t24:=(t3.mono (G:=fun k=>k=w2.heap.size) (fun _ _ h=>h.elim)).trans t4 (fun _ _ h=>h);have hB4:Below w.heap.size w w4:=hB3.trans (t4.below hB3.size (fun k hk e=>by omega));have hsk:=sH false s;have SB:aW s≤s.length:=hsk;have Po:=nu (p:=(1,1)) (s.take (aW s)) (Nat.le_refl _);have htl:(s.take (aW s)).length=aW s:=by rw [List.length_take];omega
  have hdl:(s.drop (aW s)).length=s.length - aW s:=List.length_drop;rw [htl]at Po
  have hR0:Cv w.heap.size w.heap.size w2.heap.size bp (1+s.length) ans w4 s.length (s.drop (aW s)) (fu (1,1) (s.take (aW s))) (.slice none 0 0) []:=
   ⟨ah hd2 t24 (by omega),hL4,hP.turn t24 (by omega),World.ownsRow_nil _ _ _ _,by omega,zH,by omega,by omega,Po.2.2,Nat.zero_le _,Nat.le_refl _,by omega,by omega,by omega,by omega,by omega,fun g hg=>by simp [Value.ownBlock]at hg⟩
  have Ob:Ka w w.heap.size w2.heap.size bp (1+s.length) ans w4:=⟨hB4, _, _, _, _, _,hR0⟩
  have hN:1+s.length≤70000:=by omega
  clear hR0 hL4 hL3 t3 t4 t24 hB3 hB4 hsk SB Po htl hdl hd2 hB2 hP hbp hs2 s1 zH Wn;generalize hbl:w2.heap.size=bl at*
  generalize 1+s.length=N at*
  go_wp2_with fail;go_loopw [8] (fun _ wr=>Ka w w.heap.size bl bp N ans wr) (fun _ wr=>textOf wr bl)
  case atStart=>exact Ob
  case round=>
   obtain⟨hB,f,s1,p1,bW,out,hR⟩:=hrel;clear Ob;have c0:=hR.lex.c0;have c1:=hR.lex.c1;have c2:=hR.lex.c2;have c4:=hR.lex.c4;have hlen:=nk hR.lex;have Wo:=hR.lex.lt;have hdl:=block_lt hR.diag;have hS0:wr.drew.cell? ⟨bl,1,none⟩=some (.int .i64 p1.1)∧wr.drew.cell? ⟨bl,2,none⟩=some (.int .i64 p1.2)∧wr.drew.cell? ⟨bl,4,none⟩=some bW:=⟨c1,c2,c4⟩
   have Cw:∀w':World,dw w' bl bp s1 p1 bW→w'.cell? ⟨bl,1,none⟩=some (.int .i64 p1.1)∧w'.cell? ⟨bl,2,none⟩=some (.int .i64 p1.2)∧w'.cell? ⟨bl,4,none⟩=some bW:=fun w' h=>⟨h.c1,h.c2,h.c4⟩
   cases s1 with
   | nil=>
    have HA:=hid (show ans=(out++[⟨0,[],p1.1,p1.2⟩],(0,0,0))from hR.eq.symm);go_wp2_with fail;have Cx:Below wr.heap.size wr (wr.drew.alloc (.cells #[.int .i64 0,sv [], .int .i64 p1.1, .int .i64 p1.2] 70)):=(bF wr 1).alloc (Nat.le_refl _) _;have JB:=hR.lex.turn (Turn.of_below (F:=fun _=>False) Cx) id;have RP:=ah hR.diag (Turn.of_below (F:=fun _=>False) Cx) id;have fE:=own_below hR.row Cx;have Cy:=hR.pairs.turn (Turn.of_below (F:=fun _=>False) Cx) id;have Ir:Sl (wr.drew.alloc (.cells #[.int .i64 0,sv [], .int .i64 p1.1, .int .i64 p1.2] 70)) (wr.heap.size+1) 4 (.slice (some ⟨wr.heap.size,0,none⟩) 1 1) (pG ⟨0,[],p1.1,p1.2⟩):=fT wr.drew _ _ 4 1 rfl (by decide);have h63:out.length*4+(pG ⟨0,[],p1.1,p1.2⟩).length≤maxLen:=by have:=hR.J7;show out.length*4+4≤maxLen;unfold maxLen;omega
    have hbytes:(out.length*4+(pG ⟨0,[],p1.1,p1.2⟩).length)*40≤140737488355328:=by have:=hR.J7;show(out.length*4+4)*40≤ _;omega
    generalize hw8:wr.drew.alloc (.cells #[.int .i64 0,sv [], .int .i64 p1.1, .int .i64 p1.2] 70)=w8 at*
    have Mx:=Cw w8 JB;refine wp_region_held_drew (S:=fun w'=>w'.cell? ⟨bl,1,none⟩=some (.int .i64 p1.1)∧w'.cell? ⟨bl,2,none⟩=some (.int .i64 p1.2)∧w'.cell? ⟨bl,4,none⟩=some bW) (by kernel_rfl) hS0 (fun _=> ?_)
    try simp only [Act.put,List.getElem_toArray,List.getElem_cons_zero,List.getElem_cons_succ,List.setIfInBounds_toArray,List.set_cons_zero,List.set_cons_succ]
    refine wpAnyH_take (i:=0) (v:=(.pointer (some ⟨bl,0,none⟩))) rfl (by kernel_rfl) (by kernel_rfl) (by kernel_rfl) (fun _ _ _ h=>h) (Or.inl ⟨by kernel_rfl,by intro w hSw;obtain⟨eY,eZ,fq⟩:=hSw;go_simp⟩) hS0 ?_
    try simp only [Act.put,List.getElem_toArray,List.getElem_cons_zero,List.getElem_cons_succ,List.setIfInBounds_toArray,List.set_cons_zero,List.set_cons_succ]
    refine wpAnyH_take (i:=1) (v:=(.pointer (some ⟨bl,0,none⟩))) rfl (by kernel_rfl) (by kernel_rfl) (by kernel_rfl) (fun _ _ _ h=>h) (Or.inl ⟨by kernel_rfl,by intro w hSw;obtain⟨eY,eZ,fq⟩:=hSw;go_simp⟩) hS0 ?_
    try simp only [Act.put,List.getElem_toArray,List.getElem_cons_zero,List.getElem_cons_succ,List.setIfInBounds_toArray,List.set_cons_zero,List.set_cons_succ]
    refine wpAnyH_take (i:=2) (v:=(.pointer (some ⟨bl,4,none⟩))) rfl (by kernel_rfl) (by kernel_rfl) (by kernel_rfl) (fun _ _ _ h=>h) (Or.inl ⟨by kernel_rfl,by intro w hSw;obtain⟨eY,eZ,fq⟩:=hSw;go_simp⟩) hS0 ?_
    try simp only [Act.put,List.getElem_toArray,List.getElem_cons_zero,List.getElem_cons_succ,List.setIfInBounds_toArray,List.set_cons_zero,List.set_cons_succ]
    refine wpAnyH_take (i:=3) (v:=bW) rfl (by kernel_rfl) (by kernel_rfl) (by kernel_rfl) (fun _ _ _ h=>h) (Or.inl ⟨by kernel_rfl,by intro w hSw;obtain⟨eY,eZ,fq⟩:=hSw;go_simp⟩) hS0 ?_
    try simp only [Act.put,List.getElem_toArray,List.getElem_cons_zero,List.getElem_cons_succ,List.setIfInBounds_toArray,List.set_cons_zero,List.set_cons_succ]
    refine wpAnyH_take (i:=4) (v:=(.pointer (some ⟨bl,0,none⟩))) rfl (by kernel_rfl) (by kernel_rfl) (by kernel_rfl) (fun _ _ _ h=>h) (Or.inl ⟨by kernel_rfl,by intro w hSw;obtain⟨eY,eZ,fq⟩:=hSw;go_simp⟩) hS0 ?_
    try simp only [Act.put,List.getElem_toArray,List.getElem_cons_zero,List.getElem_cons_succ,List.setIfInBounds_toArray,List.set_cons_zero,List.set_cons_succ]
    refine wpAnyH_take (i:=5) (v:=(.pointer (some ⟨bl,0,none⟩))) rfl (by kernel_rfl) (by kernel_rfl) (by kernel_rfl) (fun _ _ _ h=>h) (Or.inl ⟨by kernel_rfl,by intro w hSw;obtain⟨eY,eZ,fq⟩:=hSw;go_simp⟩) hS0 ?_
    try simp only [Act.put,List.getElem_toArray,List.getElem_cons_zero,List.getElem_cons_succ,List.setIfInBounds_toArray,List.set_cons_zero,List.set_cons_succ]
    refine wpAnyH_take (i:=6) (v:=(.pointer (some ⟨bl,1,none⟩))) rfl (by kernel_rfl) (by kernel_rfl) (by kernel_rfl) (fun _ _ _ h=>h) (Or.inl ⟨by kernel_rfl,by intro w hSw;obtain⟨eY,eZ,fq⟩:=hSw;go_simp⟩) hS0 ?_
    try simp only [Act.put,List.getElem_toArray,List.getElem_cons_zero,List.getElem_cons_succ,List.setIfInBounds_toArray,List.set_cons_zero,List.set_cons_succ]
    refine wpAnyH_take (i:=7) (v:=(.int .i64 p1.1)) rfl (by kernel_rfl) (by kernel_rfl) (by kernel_rfl) (fun _ _ _ h=>h) (Or.inl ⟨by kernel_rfl,by intro w hSw;obtain⟨eY,eZ,fq⟩:=hSw;go_simp⟩) hS0 ?_
    try simp only [Act.put,List.getElem_toArray,List.getElem_cons_zero,List.getElem_cons_succ,List.setIfInBounds_toArray,List.set_cons_zero,List.set_cons_succ]
    refine wpAnyH_take (i:=8) (v:=(.pointer (some ⟨bl,0,none⟩))) rfl (by kernel_rfl) (by kernel_rfl) (by kernel_rfl) (fun _ _ _ h=>h) (Or.inl ⟨by kernel_rfl,by intro w hSw;obtain⟨eY,eZ,fq⟩:=hSw;go_simp⟩) hS0 ?_
    try simp only [Act.put,List.getElem_toArray,List.getElem_cons_zero,List.getElem_cons_succ,List.setIfInBounds_toArray,List.set_cons_zero,List.set_cons_succ]
    refine wpAnyH_take (i:=9) (v:=(.pointer (some ⟨bl,0,none⟩))) rfl (by kernel_rfl) (by kernel_rfl) (by kernel_rfl) (fun _ _ _ h=>h) (Or.inl ⟨by kernel_rfl,by intro w hSw;obtain⟨eY,eZ,fq⟩:=hSw;go_simp⟩) hS0 ?_
    try simp only [Act.put,List.getElem_toArray,List.getElem_cons_zero,List.getElem_cons_succ,List.setIfInBounds_toArray,List.set_cons_zero,List.set_cons_succ]
    refine wpAnyH_take (i:=10) (v:=(.pointer (some ⟨bl,2,none⟩))) rfl (by kernel_rfl) (by kernel_rfl) (by kernel_rfl) (fun _ _ _ h=>h) (Or.inl ⟨by kernel_rfl,by intro w hSw;obtain⟨eY,eZ,fq⟩:=hSw;go_simp⟩) hS0 ?_
    try simp only [Act.put,List.getElem_toArray,List.getElem_cons_zero,List.getElem_cons_succ,List.setIfInBounds_toArray,List.set_cons_zero,List.set_cons_succ]
    refine wpAnyH_take (i:=11) (v:=(.int .i64 p1.2)) rfl (by kernel_rfl) (by kernel_rfl) (by kernel_rfl) (fun _ _ _ h=>h) (Or.inl ⟨by kernel_rfl,by intro w hSw;obtain⟨eY,eZ,fq⟩:=hSw;go_simp⟩) hS0 ?_
    try simp only [Act.put,List.getElem_toArray,List.getElem_cons_zero,List.getElem_cons_succ,List.setIfInBounds_toArray,List.set_cons_zero,List.set_cons_succ]
    refine wpAnyH_take (i:=12) (v:=(.agg #[.int .i64 0,sv [], .int .i64 p1.1, .int .i64 p1.2])) rfl (by kernel_rfl) (by kernel_rfl) (by kernel_rfl) (fun _ _ _ h=>h) (Or.inl ⟨by kernel_rfl,by intro w hSw;obtain⟨eY,eZ,fq⟩:=hSw;go_simp⟩) hS0 ?_
    try simp only [Act.put,List.getElem_toArray,List.getElem_cons_zero,List.getElem_cons_succ,List.setIfInBounds_toArray,List.set_cons_zero,List.set_cons_succ]
    refine wpAnyH_take (i:=15) (v:=(.agg #[.int .i64 0, .int .i64 0, .int .i64 0, .int .i64 0])) rfl (by kernel_rfl) (by kernel_rfl) (by kernel_rfl) (fun _ _ _ h=>h) (Or.inl ⟨by kernel_rfl,by intro w hSw;obtain⟨eY,eZ,fq⟩:=hSw;go_simp⟩) hS0 ?_
    try simp only [Act.put,List.getElem_toArray,List.getElem_cons_zero,List.getElem_cons_succ,List.setIfInBounds_toArray,List.set_cons_zero,List.set_cons_succ]
    refine wpAnyH_ready (rs:=[13]) (by kernel_rfl) (by simp) ?_;refine AllReadyH.cons rfl (fun K hK=> ?_) AllReadyH.nil;go_simp
    try rw [hw8]
    refine hK.out _ _ Mx (fun _=> ?_);clear hK K
    try simp only [Act.put,List.getElem_toArray,List.getElem_cons_zero,List.getElem_cons_succ,List.setIfInBounds_toArray,List.set_cons_zero,List.set_cons_succ]
    refine wpAnyH_ready (rs:=[14]) (by kernel_rfl) (by simp) ?_;refine AllReadyH.cons rfl (fun K hK=> ?_) AllReadyH.nil;refine cu rfl (.tmp 81) (.tmp 91) _ rfl 0 EF _ _ rfl rfl fE Ir (Bg ⟨0,[],p1.1,p1.2⟩) h63 hbytes (Nat.zero_le _) (fun v' w9 n' fF rZ jH=> ?_);have t9:Turn (fun j=>bW.ownBlock=some j) w8 w9:=Turn.aP rZ (fun j h=>h);have Gj:=JB.turn t9 (fun h=>(hR.fo bl h).2.2.1 rfl);have EG:=ah RP t9 (fun h=>(hR.fo _ h).2.1 rfl);have BR:=Cw w9 Gj;have e0:w9.cell? ⟨w.heap.size,0,none⟩=some (.int .i64 0):=(cell_of_row _ _ _ _ _ (0,0) EG).trans rfl;have e1:w9.cell? ⟨w.heap.size,1,none⟩=some (.int .i64 0):=(cell_of_row _ _ _ _ _ (0,0) EG).trans rfl;have e2:w9.cell? ⟨w.heap.size,2,none⟩=some (.int .i64 0):=(cell_of_row _ _ _ _ _ (0,0) EG).trans rfl;have e3:w9.cell? ⟨w.heap.size,3,none⟩=some (.int .i64 0):=(cell_of_row _ _ _ _ _ (0,0) EG).trans rfl;have g0:=bI EG 0;have g1:=bI EG 1;have g2:=bI EG 2;have g3:=bI EG 3;refine hK.out _ _ BR (fun _=> ?_);clear hK K
    try simp only [Act.put,List.getElem_toArray,List.getElem_cons_zero,List.getElem_cons_succ,List.setIfInBounds_toArray,List.set_cons_zero,List.set_cons_succ]
    refine wpAnyH_take (i:=16) (v:=v') rfl (by kernel_rfl) (by kernel_rfl) (by kernel_rfl) (fun _ _ _ h=>h) (Or.inl ⟨by kernel_rfl,by intro w hSw;obtain⟨eY,eZ,fq⟩:=hSw;go_simp⟩) BR ?_
    try simp only [Act.put,List.getElem_toArray,List.getElem_cons_zero,List.getElem_cons_succ,List.setIfInBounds_toArray,List.set_cons_zero,List.set_cons_succ]
    refine wpAnyH_ready (rs:=[17]) (by kernel_rfl) (by simp) ?_;refine AllReadyH.cons rfl (fun K hK=> ?_) AllReadyH.nil;go_simp;have t10:=uT w9 w.heap.size (.int .i64 0) (.int .i64 0) (.int .i64 0) (.int .i64 0);refine hK.out _ (Cm w9 w.heap.size (.int .i64 0) (.int .i64 0) (.int .i64 0) (.int .i64 0)) (Cw _ (Gj.turn t10 (fun h=>hR.dl h.symm))) (fun _=> ?_);clear hK K
    try simp only [Act.put,List.getElem_toArray,List.getElem_cons_zero,List.getElem_cons_succ,List.setIfInBounds_toArray,List.set_cons_zero,List.set_cons_succ]
    refine wpAnyH_done (by kernel_rfl) ?_ _;go_wp2_with fail;refine bodyPost_ret (iN rfl _ _ w.heap.size _ _ _ _ rfl (rD EG _ _ _ _) Tryz.underlying55 rfl (by kernel_rfl)) rfl ?_;have Ec:∀g,v'.ownBlock=some g→w.heap.size≤g∧g≠w.heap.size:=fun g hg=>by
     rcases jH with h | h
     ·rw [h]at hg;exact⟨(hR.fo g hg).1,(hR.fo g hg).2.1⟩
     ·rw [h]at hg;injection hg with hg;subst hg;have:=hB.size;have:=Cx.size;exact⟨by omega,by omega⟩
    exact⟨v',n',by rw [HA.out];rfl,by rw [HA.out,qL];exact J8 (bK fF t10 (fun g hg h=>(Ec g hg).2 h)) (fun g hg=>(Ec g hg).1),((hB.trans (Cx.mono hB.size)).trans (t9.below (by have:=hB.size;have:=Cx.size;omega) (fun k hk h=>by have:=(hR.fo k h).1;omega))).trans (t10.below (by have:=hB.size;have:=Cx.size;have:=t9.size;omega) (fun k hk h=>by omega))⟩
   | cons c r=>
    have HLEN:=hid hlen;have Zu:=J5 wr bl bp c r p1 bW hR.lex (by have:=hR.b1;omega) (hX.below hB) hR.pairs;have rY:=hid Zu;clear Zu hlen c1 c2 c4 hS0 Wo hdl;have hnz:¬(c :: r:Bt)=[]:=by simp
    go_wp2_with fail;refine rY.out.mono ?_;rintro e w5 ⟨rfl,hb5⟩;have iP:=hR.below hb5;have Ed:Below w.heap.size w w5:=hB.trans (hb5.mono hB.size);have hb1:=iP.b1;have hb2:=iP.b2;clear rY hR hB hb5 c0;have c1:=iP.lex.c1;have c2:=iP.lex.c2;have c4:=iP.lex.c4;have jY:w5.drew.cell? ⟨bl,1,none⟩=some (.int .i64 p1.1)∧w5.drew.cell? ⟨bl,2,none⟩=some (.int .i64 p1.2)∧w5.drew.cell? ⟨bl,4,none⟩=some bW:=⟨c1,c2,c4⟩
    have heq:=iP.eq;unfold lexB at heq;rw [if_neg hnz]at heq;cases hn:fZ (c :: r)with
    | inl e=>
     rw [hn]at heq;have Kc:ans=([],(p1.1,p1.2,e)):=heq.symm;have he0:=qw hn;clear heq hn;simp only [wF];go_wp2_with fail;have hA:=hid Kc;have Bh:w5.drew.heap[w.heap.size]? = _:=iP.diag;have e0:w5.drew.cell? ⟨w.heap.size,0,none⟩=some (.int .i64 0):=(cell_of_row _ _ _ _ _ (0,0) Bh).trans rfl;have e1:w5.drew.cell? ⟨w.heap.size,1,none⟩=some (.int .i64 0):=(cell_of_row _ _ _ _ _ (0,0) Bh).trans rfl;have e2:w5.drew.cell? ⟨w.heap.size,2,none⟩=some (.int .i64 0):=(cell_of_row _ _ _ _ _ (0,0) Bh).trans rfl;have e3:w5.drew.cell? ⟨w.heap.size,3,none⟩=some (.int .i64 0):=(cell_of_row _ _ _ _ _ (0,0) Bh).trans rfl;have g0:=bI Bh 0;have g1:=bI Bh 1;have g2:=bI Bh 2;have g3:=bI Bh 3;have g0':=bI iP.diag 0;have g1':=bI iP.diag 1;have g2':=bI iP.diag 2;have g3':=bI iP.diag 3;have e0':w5.cell? ⟨w.heap.size,0,none⟩=some (.int .i64 0):=(cell_of_row _ _ _ _ _ (0,0) iP.diag).trans rfl;have e1':w5.cell? ⟨w.heap.size,1,none⟩=some (.int .i64 0):=(cell_of_row _ _ _ _ _ (0,0) iP.diag).trans rfl;have e2':w5.cell? ⟨w.heap.size,2,none⟩=some (.int .i64 0):=(cell_of_row _ _ _ _ _ (0,0) iP.diag).trans rfl;have e3':w5.cell? ⟨w.heap.size,3,none⟩=some (.int .i64 0):=(cell_of_row _ _ _ _ _ (0,0) iP.diag).trans rfl;refine wp_region_held_drew (S:=fun w'=>w'.cell? ⟨bl,1,none⟩=some (.int .i64 p1.1)∧w'.cell? ⟨bl,2,none⟩=some (.int .i64 p1.2)∧w'.cell? ⟨bl,4,none⟩=some bW) (by kernel_rfl) jY (fun _=> ?_)
     try simp only [Act.put,List.getElem_toArray,List.getElem_cons_zero,List.getElem_cons_succ,List.setIfInBounds_toArray,List.set_cons_zero,List.set_cons_succ]
     refine wpAnyH_take (i:=10) (v:=(.slice none 0 0)) rfl (by kernel_rfl) (by kernel_rfl) (by kernel_rfl) (fun _ _ _ h=>h) (Or.inl ⟨by kernel_rfl,by intro w hSw;obtain⟨eY,eZ,fq⟩:=hSw;go_simp⟩) jY ?_
     try simp only [Act.put,List.getElem_toArray,List.getElem_cons_zero,List.getElem_cons_succ,List.setIfInBounds_toArray,List.set_cons_zero,List.set_cons_succ]
     refine wpAnyH_take (i:=0) (v:=(.pointer (some ⟨bl,0,none⟩))) rfl (by kernel_rfl) (by kernel_rfl) (by kernel_rfl) (fun _ _ _ h=>h) (Or.inl ⟨by kernel_rfl,by intro w hSw;obtain⟨eY,eZ,fq⟩:=hSw;go_simp⟩) jY ?_
     try simp only [Act.put,List.getElem_toArray,List.getElem_cons_zero,List.getElem_cons_succ,List.setIfInBounds_toArray,List.set_cons_zero,List.set_cons_succ]
     refine wpAnyH_take (i:=1) (v:=(.pointer (some ⟨bl,0,none⟩))) rfl (by kernel_rfl) (by kernel_rfl) (by kernel_rfl) (fun _ _ _ h=>h) (Or.inl ⟨by kernel_rfl,by intro w hSw;obtain⟨eY,eZ,fq⟩:=hSw;go_simp⟩) jY ?_
     try simp only [Act.put,List.getElem_toArray,List.getElem_cons_zero,List.getElem_cons_succ,List.setIfInBounds_toArray,List.set_cons_zero,List.set_cons_succ]
     refine wpAnyH_take (i:=2) (v:=(.pointer (some ⟨bl,1,none⟩))) rfl (by kernel_rfl) (by kernel_rfl) (by kernel_rfl) (fun _ _ _ h=>h) (Or.inl ⟨by kernel_rfl,by intro w hSw;obtain⟨eY,eZ,fq⟩:=hSw;go_simp⟩) jY ?_
     try simp only [Act.put,List.getElem_toArray,List.getElem_cons_zero,List.getElem_cons_succ,List.setIfInBounds_toArray,List.set_cons_zero,List.set_cons_succ]
     refine wpAnyH_take (i:=3) (v:=(.int .i64 p1.1)) rfl (by kernel_rfl) (by kernel_rfl) (by kernel_rfl) (fun _ _ _ h=>h) (Or.inl ⟨by kernel_rfl,by intro w hSw;obtain⟨eY,eZ,fq⟩:=hSw;go_simp⟩) jY ?_
     try simp only [Act.put,List.getElem_toArray,List.getElem_cons_zero,List.getElem_cons_succ,List.setIfInBounds_toArray,List.set_cons_zero,List.set_cons_succ]
     refine wpAnyH_take (i:=4) (v:=(.pointer (some ⟨bl,0,none⟩))) rfl (by kernel_rfl) (by kernel_rfl) (by kernel_rfl) (fun _ _ _ h=>h) (Or.inl ⟨by kernel_rfl,by intro w hSw;obtain⟨eY,eZ,fq⟩:=hSw;go_simp⟩) jY ?_
     try simp only [Act.put,List.getElem_toArray,List.getElem_cons_zero,List.getElem_cons_succ,List.setIfInBounds_toArray,List.set_cons_zero,List.set_cons_succ]
     refine wpAnyH_take (i:=5) (v:=(.pointer (some ⟨bl,0,none⟩))) rfl (by kernel_rfl) (by kernel_rfl) (by kernel_rfl) (fun _ _ _ h=>h) (Or.inl ⟨by kernel_rfl,by intro w hSw;obtain⟨eY,eZ,fq⟩:=hSw;go_simp⟩) jY ?_
     try simp only [Act.put,List.getElem_toArray,List.getElem_cons_zero,List.getElem_cons_succ,List.setIfInBounds_toArray,List.set_cons_zero,List.set_cons_succ]
     refine wpAnyH_take (i:=6) (v:=(.pointer (some ⟨bl,2,none⟩))) rfl (by kernel_rfl) (by kernel_rfl) (by kernel_rfl) (fun _ _ _ h=>h) (Or.inl ⟨by kernel_rfl,by intro w hSw;obtain⟨eY,eZ,fq⟩:=hSw;go_simp⟩) jY ?_
     try simp only [Act.put,List.getElem_toArray,List.getElem_cons_zero,List.getElem_cons_succ,List.setIfInBounds_toArray,List.set_cons_zero,List.set_cons_succ]
     refine wpAnyH_take (i:=7) (v:=(.int .i64 p1.2)) rfl (by kernel_rfl) (by kernel_rfl) (by kernel_rfl) (fun _ _ _ h=>h) (Or.inl ⟨by kernel_rfl,by intro w hSw;obtain⟨eY,eZ,fq⟩:=hSw;go_simp⟩) jY ?_
     try simp only [Act.put,List.getElem_toArray,List.getElem_cons_zero,List.getElem_cons_succ,List.setIfInBounds_toArray,List.set_cons_zero,List.set_cons_succ]
     refine wpAnyH_take (i:=8) (v:=(.int .i64 e)) rfl (by kernel_rfl) (by kernel_rfl) (by kernel_rfl) (fun _ _ _ h=>h) (Or.inl ⟨by kernel_rfl,by intro w hSw;obtain⟨eY,eZ,fq⟩:=hSw;go_simp⟩) jY ?_
     try simp only [Act.put,List.getElem_toArray,List.getElem_cons_zero,List.getElem_cons_succ,List.setIfInBounds_toArray,List.set_cons_zero,List.set_cons_succ]
     refine wpAnyH_take (i:=9) (v:=(.agg #[.int .i64 0, .int .i64 p1.1, .int .i64 p1.2, .int .i64 e])) rfl (by kernel_rfl) (by kernel_rfl) (by kernel_rfl) (fun _ _ _ h=>h) (Or.inl ⟨by kernel_rfl,by intro w hSw;obtain⟨eY,eZ,fq⟩:=hSw;go_simp⟩) jY ?_
     try simp only [Act.put,List.getElem_toArray,List.getElem_cons_zero,List.getElem_cons_succ,List.setIfInBounds_toArray,List.set_cons_zero,List.set_cons_succ]
     refine wpAnyH_ready (rs:=[11]) (by kernel_rfl) (by simp) ?_;refine AllReadyH.cons rfl (fun K hK=> ?_) AllReadyH.nil;go_simp;have t10:=uT w5.drew w.heap.size (.int .i64 0) (.int .i64 p1.1) (.int .i64 p1.2) (.int .i64 e);refine hK.out _ (Cm w5.drew w.heap.size (.int .i64 0) (.int .i64 p1.1) (.int .i64 p1.2) (.int .i64 e)) (Cw _ ((iP.lex.turn (Turn.drewN (fun _=>False) w5 1) id).turn t10 (fun h=>iP.dl h.symm))) (fun _=> ?_);clear hK K
     try simp only [Act.put,List.getElem_toArray,List.getElem_cons_zero,List.getElem_cons_succ,List.setIfInBounds_toArray,List.set_cons_zero,List.set_cons_succ]
     refine wpAnyH_done (by kernel_rfl) ?_ _;go_wp2_with fail;refine bodyPost_ret (iN rfl _ _ w.heap.size _ _ _ _ rfl (rD Bh _ _ _ _) Tryz.underlying55 rfl (by kernel_rfl)) rfl ?_;exact⟨.slice none 0 0,0,by rw [hA.out];rfl,by rw [hA.out];exact World.ownsRow_nil _ _ _ _,(Ed.trans (bF w5 1 |>.mono Ed.size)).trans (t10.below Ed.size (fun k hk h=>by omega))⟩
    | inr x=>
     obtain⟨kd,t,n⟩:=x;rw [hn]at heq;obtain⟨n1,n2⟩:=sJ hn;obtain⟨A0,C0,rfl⟩:∃A C,bW= .slice A out.length C:=by
      rcases iP.row.2 with⟨h,h0⟩ | ⟨g,cap,cur,h, _⟩
      ·exact⟨none,0,by rw [h,h0]⟩
      ·exact⟨_, _,h⟩
     by_cases h8:out.length=8192
     ·have Kc:ans=([],(p1.1,p1.2,19)):=by simp only at heq;rw [if_pos h8]at heq;exact heq.symm
      have h8':(out.length:Int)=8192:=by omega
      clear heq hn;simp only [wF];go_wp2_with fail;have hA:=hid Kc;have Bh:w5.drew.heap[w.heap.size]? = _:=iP.diag;have e0:w5.drew.cell? ⟨w.heap.size,0,none⟩=some (.int .i64 0):=(cell_of_row _ _ _ _ _ (0,0) Bh).trans rfl;have e1:w5.drew.cell? ⟨w.heap.size,1,none⟩=some (.int .i64 0):=(cell_of_row _ _ _ _ _ (0,0) Bh).trans rfl;have e2:w5.drew.cell? ⟨w.heap.size,2,none⟩=some (.int .i64 0):=(cell_of_row _ _ _ _ _ (0,0) Bh).trans rfl;have e3:w5.drew.cell? ⟨w.heap.size,3,none⟩=some (.int .i64 0):=(cell_of_row _ _ _ _ _ (0,0) Bh).trans rfl;have g0:=bI Bh 0;have g1:=bI Bh 1;have g2:=bI Bh 2;have g3:=bI Bh 3;have g0':=bI iP.diag 0;have g1':=bI iP.diag 1;have g2':=bI iP.diag 2;have g3':=bI iP.diag 3;have e0':w5.cell? ⟨w.heap.size,0,none⟩=some (.int .i64 0):=(cell_of_row _ _ _ _ _ (0,0) iP.diag).trans rfl;have e1':w5.cell? ⟨w.heap.size,1,none⟩=some (.int .i64 0):=(cell_of_row _ _ _ _ _ (0,0) iP.diag).trans rfl;have e2':w5.cell? ⟨w.heap.size,2,none⟩=some (.int .i64 0):=(cell_of_row _ _ _ _ _ (0,0) iP.diag).trans rfl;have e3':w5.cell? ⟨w.heap.size,3,none⟩=some (.int .i64 0):=(cell_of_row _ _ _ _ _ (0,0) iP.diag).trans rfl;refine wp_region_held_drew (S:=fun w'=>w'.cell? ⟨bl,1,none⟩=some (.int .i64 p1.1)∧w'.cell? ⟨bl,2,none⟩=some (.int .i64 p1.2)∧w'.cell? ⟨bl,4,none⟩=some (.slice A0 out.length C0)) (by kernel_rfl) jY (fun _=> ?_)
      try simp only [Act.put,List.getElem_toArray,List.getElem_cons_zero,List.getElem_cons_succ,List.setIfInBounds_toArray,List.set_cons_zero,List.set_cons_succ]
      refine wpAnyH_take (i:=10) (v:=(.slice none 0 0)) rfl (by kernel_rfl) (by kernel_rfl) (by kernel_rfl) (fun _ _ _ h=>h) (Or.inl ⟨by kernel_rfl,by intro w hSw;obtain⟨eY,eZ,fq⟩:=hSw;go_simp⟩) jY ?_
      try simp only [Act.put,List.getElem_toArray,List.getElem_cons_zero,List.getElem_cons_succ,List.setIfInBounds_toArray,List.set_cons_zero,List.set_cons_succ]
      refine wpAnyH_take (i:=0) (v:=(.pointer (some ⟨bl,0,none⟩))) rfl (by kernel_rfl) (by kernel_rfl) (by kernel_rfl) (fun _ _ _ h=>h) (Or.inl ⟨by kernel_rfl,by intro w hSw;obtain⟨eY,eZ,fq⟩:=hSw;go_simp⟩) jY ?_
      try simp only [Act.put,List.getElem_toArray,List.getElem_cons_zero,List.getElem_cons_succ,List.setIfInBounds_toArray,List.set_cons_zero,List.set_cons_succ]
      refine wpAnyH_take (i:=1) (v:=(.pointer (some ⟨bl,0,none⟩))) rfl (by kernel_rfl) (by kernel_rfl) (by kernel_rfl) (fun _ _ _ h=>h) (Or.inl ⟨by kernel_rfl,by intro w hSw;obtain⟨eY,eZ,fq⟩:=hSw;go_simp⟩) jY ?_
      try simp only [Act.put,List.getElem_toArray,List.getElem_cons_zero,List.getElem_cons_succ,List.setIfInBounds_toArray,List.set_cons_zero,List.set_cons_succ]
      refine wpAnyH_take (i:=2) (v:=(.pointer (some ⟨bl,1,none⟩))) rfl (by kernel_rfl) (by kernel_rfl) (by kernel_rfl) (fun _ _ _ h=>h) (Or.inl ⟨by kernel_rfl,by intro w hSw;obtain⟨eY,eZ,fq⟩:=hSw;go_simp⟩) jY ?_
      try simp only [Act.put,List.getElem_toArray,List.getElem_cons_zero,List.getElem_cons_succ,List.setIfInBounds_toArray,List.set_cons_zero,List.set_cons_succ]
      refine wpAnyH_take (i:=3) (v:=(.int .i64 p1.1)) rfl (by kernel_rfl) (by kernel_rfl) (by kernel_rfl) (fun _ _ _ h=>h) (Or.inl ⟨by kernel_rfl,by intro w hSw;obtain⟨eY,eZ,fq⟩:=hSw;go_simp⟩) jY ?_
      try simp only [Act.put,List.getElem_toArray,List.getElem_cons_zero,List.getElem_cons_succ,List.setIfInBounds_toArray,List.set_cons_zero,List.set_cons_succ]
      refine wpAnyH_take (i:=4) (v:=(.pointer (some ⟨bl,0,none⟩))) rfl (by kernel_rfl) (by kernel_rfl) (by kernel_rfl) (fun _ _ _ h=>h) (Or.inl ⟨by kernel_rfl,by intro w hSw;obtain⟨eY,eZ,fq⟩:=hSw;go_simp⟩) jY ?_
      try simp only [Act.put,List.getElem_toArray,List.getElem_cons_zero,List.getElem_cons_succ,List.setIfInBounds_toArray,List.set_cons_zero,List.set_cons_succ]
      refine wpAnyH_take (i:=5) (v:=(.pointer (some ⟨bl,0,none⟩))) rfl (by kernel_rfl) (by kernel_rfl) (by kernel_rfl) (fun _ _ _ h=>h) (Or.inl ⟨by kernel_rfl,by intro w hSw;obtain⟨eY,eZ,fq⟩:=hSw;go_simp⟩) jY ?_
      try simp only [Act.put,List.getElem_toArray,List.getElem_cons_zero,List.getElem_cons_succ,List.setIfInBounds_toArray,List.set_cons_zero,List.set_cons_succ]
      refine wpAnyH_take (i:=6) (v:=(.pointer (some ⟨bl,2,none⟩))) rfl (by kernel_rfl) (by kernel_rfl) (by kernel_rfl) (fun _ _ _ h=>h) (Or.inl ⟨by kernel_rfl,by intro w hSw;obtain⟨eY,eZ,fq⟩:=hSw;go_simp⟩) jY ?_
      try simp only [Act.put,List.getElem_toArray,List.getElem_cons_zero,List.getElem_cons_succ,List.setIfInBounds_toArray,List.set_cons_zero,List.set_cons_succ]
      refine wpAnyH_take (i:=7) (v:=(.int .i64 p1.2)) rfl (by kernel_rfl) (by kernel_rfl) (by kernel_rfl) (fun _ _ _ h=>h) (Or.inl ⟨by kernel_rfl,by intro w hSw;obtain⟨eY,eZ,fq⟩:=hSw;go_simp⟩) jY ?_
      try simp only [Act.put,List.getElem_toArray,List.getElem_cons_zero,List.getElem_cons_succ,List.setIfInBounds_toArray,List.set_cons_zero,List.set_cons_succ]
      refine wpAnyH_take (i:=8) (v:=(.int .i64 19)) rfl (by kernel_rfl) (by kernel_rfl) (by kernel_rfl) (fun _ _ _ h=>h) (Or.inl ⟨by kernel_rfl,by intro w hSw;obtain⟨eY,eZ,fq⟩:=hSw;go_simp⟩) jY ?_
      try simp only [Act.put,List.getElem_toArray,List.getElem_cons_zero,List.getElem_cons_succ,List.setIfInBounds_toArray,List.set_cons_zero,List.set_cons_succ]
      refine wpAnyH_take (i:=9) (v:=(.agg #[.int .i64 0, .int .i64 p1.1, .int .i64 p1.2, .int .i64 19])) rfl (by kernel_rfl) (by kernel_rfl) (by kernel_rfl) (fun _ _ _ h=>h) (Or.inl ⟨by kernel_rfl,by intro w hSw;obtain⟨eY,eZ,fq⟩:=hSw;go_simp⟩) jY ?_
      try simp only [Act.put,List.getElem_toArray,List.getElem_cons_zero,List.getElem_cons_succ,List.setIfInBounds_toArray,List.set_cons_zero,List.set_cons_succ]
      refine wpAnyH_ready (rs:=[11]) (by kernel_rfl) (by simp) ?_;refine AllReadyH.cons rfl (fun K hK=> ?_) AllReadyH.nil;go_simp;have t10:=uT w5.drew w.heap.size (.int .i64 0) (.int .i64 p1.1) (.int .i64 p1.2) (.int .i64 19);refine hK.out _ (Cm w5.drew w.heap.size (.int .i64 0) (.int .i64 p1.1) (.int .i64 p1.2) (.int .i64 19)) (Cw _ ((iP.lex.turn (Turn.drewN (fun _=>False) w5 1) id).turn t10 (fun h=>iP.dl h.symm))) (fun _=> ?_);clear hK K
      try simp only [Act.put,List.getElem_toArray,List.getElem_cons_zero,List.getElem_cons_succ,List.setIfInBounds_toArray,List.set_cons_zero,List.set_cons_succ]
      refine wpAnyH_done (by kernel_rfl) ?_ _;go_wp2_with fail;refine bodyPost_ret (iN rfl _ _ w.heap.size _ _ _ _ rfl (rD Bh _ _ _ _) Tryz.underlying55 rfl (by kernel_rfl)) rfl ?_;exact⟨.slice none 0 0,0,by rw [hA.out];rfl,by rw [hA.out];exact World.ownsRow_nil _ _ _ _,(Ed.trans (bF w5 1 |>.mono Ed.size)).trans (t10.below Ed.size (fun k hk h=>by omega))⟩
     ·have h8':¬(out.length:Int)=8192:=by omega
      clear heq;have HN:=hid hn;simp only [wF];go_wp2_with fail;have hn:=HN.out;have Cx:Below w5.heap.size w5 (w5.drew.alloc (.cells #[.int .i64 kd,sv t, .int .i64 p1.1, .int .i64 p1.2] 70)):=(bF w5 1).alloc (Nat.le_refl _) _;have JB:=iP.lex.turn (Turn.of_below (F:=fun _=>False) Cx) id;have RP:=ah iP.diag (Turn.of_below (F:=fun _=>False) Cx) id;have fE:=own_below iP.row Cx;have Cy:=iP.pairs.turn (Turn.of_below (F:=fun _=>False) Cx) id;have Ir:Sl (w5.drew.alloc (.cells #[.int .i64 kd,sv t, .int .i64 p1.1, .int .i64 p1.2] 70)) (w5.heap.size+1) 4 (.slice (some ⟨w5.heap.size,0,none⟩) 1 1) (pG ⟨kd,t,p1.1,p1.2⟩):=fT w5.drew _ _ 4 1 rfl (by decide);have h63:out.length*4+(pG ⟨kd,t,p1.1,p1.2⟩).length≤maxLen:=by have:=iP.J7;show out.length*4+4≤maxLen;unfold maxLen;omega
      have hbytes:(out.length*4+(pG ⟨kd,t,p1.1,p1.2⟩).length)*40≤140737488355328:=by have:=iP.J7;show(out.length*4+4)*40≤ _;omega
      generalize hw8:w5.drew.alloc (.cells #[.int .i64 kd,sv t, .int .i64 p1.1, .int .i64 p1.2] 70)=w8 at*
      have Mx:=Cw w8 JB;have c48:=JB.c4;have pI:w5.drew.cell? ⟨bl,1,none⟩=some (.int .i64 p1.1)∧w5.drew.cell? ⟨bl,2,none⟩=some (.int .i64 p1.2)∧True:=⟨c1,c2,trivial⟩
      have c4d:w5.drew.cell? ⟨bl,4,none⟩=some (.slice A0 out.length C0):=c4;refine wp_region_held_drew (S:=fun w'=>w'.cell? ⟨bl,1,none⟩=some (.int .i64 p1.1)∧w'.cell? ⟨bl,2,none⟩=some (.int .i64 p1.2)∧True) (by kernel_rfl) pI (fun _=> ?_)
      try simp only [Act.put,List.getElem_toArray,List.getElem_cons_zero,List.getElem_cons_succ,List.setIfInBounds_toArray,List.set_cons_zero,List.set_cons_succ]
      refine wpAnyH_take (i:=0) (v:=(.pointer (some ⟨bl,0,none⟩))) rfl (by kernel_rfl) (by kernel_rfl) (by kernel_rfl) (fun _ _ _ h=>h) (Or.inl ⟨by kernel_rfl,by intro w hSw;obtain⟨eY,eZ,fq⟩:=hSw;go_simp⟩) pI ?_
      try simp only [Act.put,List.getElem_toArray,List.getElem_cons_zero,List.getElem_cons_succ,List.setIfInBounds_toArray,List.set_cons_zero,List.set_cons_succ]
      refine wpAnyH_take (i:=1) (v:=(.pointer (some ⟨bl,0,none⟩))) rfl (by kernel_rfl) (by kernel_rfl) (by kernel_rfl) (fun _ _ _ h=>h) (Or.inl ⟨by kernel_rfl,by intro w hSw;obtain⟨eY,eZ,fq⟩:=hSw;go_simp⟩) pI ?_
      try simp only [Act.put,List.getElem_toArray,List.getElem_cons_zero,List.getElem_cons_succ,List.setIfInBounds_toArray,List.set_cons_zero,List.set_cons_succ]
      refine wpAnyH_take (i:=2) (v:=(.pointer (some ⟨bl,0,none⟩))) rfl (by kernel_rfl) (by kernel_rfl) (by kernel_rfl) (fun _ _ _ h=>h) (Or.inl ⟨by kernel_rfl,by intro w hSw;obtain⟨eY,eZ,fq⟩:=hSw;go_simp⟩) pI ?_
      try simp only [Act.put,List.getElem_toArray,List.getElem_cons_zero,List.getElem_cons_succ,List.setIfInBounds_toArray,List.set_cons_zero,List.set_cons_succ]
      refine wpAnyH_take (i:=3) (v:=(.pointer (some ⟨bl,4,none⟩))) rfl (by kernel_rfl) (by kernel_rfl) (by kernel_rfl) (fun _ _ _ h=>h) (Or.inl ⟨by kernel_rfl,by intro w hSw;obtain⟨eY,eZ,fq⟩:=hSw;go_simp⟩) pI ?_
      try simp only [Act.put,List.getElem_toArray,List.getElem_cons_zero,List.getElem_cons_succ,List.setIfInBounds_toArray,List.set_cons_zero,List.set_cons_succ]
      refine wpAnyH_take (i:=5) (v:=(.int .i64 kd)) rfl (by kernel_rfl) (by kernel_rfl) (by kernel_rfl) (fun _ _ _ h=>h) (Or.inl ⟨by kernel_rfl,by intro w hSw;obtain⟨eY,eZ,fq⟩:=hSw;go_simp⟩) pI ?_
      try simp only [Act.put,List.getElem_toArray,List.getElem_cons_zero,List.getElem_cons_succ,List.setIfInBounds_toArray,List.set_cons_zero,List.set_cons_succ]
      refine wpAnyH_take (i:=6) (v:=(sv t)) rfl (by kernel_rfl) (by kernel_rfl) (by kernel_rfl) (fun _ _ _ h=>h) (Or.inl ⟨by kernel_rfl,by intro w hSw;obtain⟨eY,eZ,fq⟩:=hSw;go_simp⟩) pI ?_
      try simp only [Act.put,List.getElem_toArray,List.getElem_cons_zero,List.getElem_cons_succ,List.setIfInBounds_toArray,List.set_cons_zero,List.set_cons_succ]
      refine wpAnyH_take (i:=7) (v:=(.pointer (some ⟨bl,0,none⟩))) rfl (by kernel_rfl) (by kernel_rfl) (by kernel_rfl) (fun _ _ _ h=>h) (Or.inl ⟨by kernel_rfl,by intro w hSw;obtain⟨eY,eZ,fq⟩:=hSw;go_simp⟩) pI ?_
      try simp only [Act.put,List.getElem_toArray,List.getElem_cons_zero,List.getElem_cons_succ,List.setIfInBounds_toArray,List.set_cons_zero,List.set_cons_succ]
      refine wpAnyH_take (i:=8) (v:=(.pointer (some ⟨bl,0,none⟩))) rfl (by kernel_rfl) (by kernel_rfl) (by kernel_rfl) (fun _ _ _ h=>h) (Or.inl ⟨by kernel_rfl,by intro w hSw;obtain⟨eY,eZ,fq⟩:=hSw;go_simp⟩) pI ?_
      try simp only [Act.put,List.getElem_toArray,List.getElem_cons_zero,List.getElem_cons_succ,List.setIfInBounds_toArray,List.set_cons_zero,List.set_cons_succ]
      refine wpAnyH_take (i:=9) (v:=(.pointer (some ⟨bl,1,none⟩))) rfl (by kernel_rfl) (by kernel_rfl) (by kernel_rfl) (fun _ _ _ h=>h) (Or.inl ⟨by kernel_rfl,by intro w hSw;obtain⟨eY,eZ,fq⟩:=hSw;go_simp⟩) pI ?_
      try simp only [Act.put,List.getElem_toArray,List.getElem_cons_zero,List.getElem_cons_succ,List.setIfInBounds_toArray,List.set_cons_zero,List.set_cons_succ]
      refine wpAnyH_take (i:=10) (v:=(.int .i64 p1.1)) rfl (by kernel_rfl) (by kernel_rfl) (by kernel_rfl) (fun _ _ _ h=>h) (Or.inl ⟨by kernel_rfl,by intro w hSw;obtain⟨eY,eZ,fq⟩:=hSw;go_simp⟩) pI ?_
      try simp only [Act.put,List.getElem_toArray,List.getElem_cons_zero,List.getElem_cons_succ,List.setIfInBounds_toArray,List.set_cons_zero,List.set_cons_succ]
      refine wpAnyH_take (i:=11) (v:=(.pointer (some ⟨bl,0,none⟩))) rfl (by kernel_rfl) (by kernel_rfl) (by kernel_rfl) (fun _ _ _ h=>h) (Or.inl ⟨by kernel_rfl,by intro w hSw;obtain⟨eY,eZ,fq⟩:=hSw;go_simp⟩) pI ?_
      try simp only [Act.put,List.getElem_toArray,List.getElem_cons_zero,List.getElem_cons_succ,List.setIfInBounds_toArray,List.set_cons_zero,List.set_cons_succ]
      refine wpAnyH_take (i:=12) (v:=(.pointer (some ⟨bl,0,none⟩))) rfl (by kernel_rfl) (by kernel_rfl) (by kernel_rfl) (fun _ _ _ h=>h) (Or.inl ⟨by kernel_rfl,by intro w hSw;obtain⟨eY,eZ,fq⟩:=hSw;go_simp⟩) pI ?_
      try simp only [Act.put,List.getElem_toArray,List.getElem_cons_zero,List.getElem_cons_succ,List.setIfInBounds_toArray,List.set_cons_zero,List.set_cons_succ]
      refine wpAnyH_take (i:=13) (v:=(.pointer (some ⟨bl,2,none⟩))) rfl (by kernel_rfl) (by kernel_rfl) (by kernel_rfl) (fun _ _ _ h=>h) (Or.inl ⟨by kernel_rfl,by intro w hSw;obtain⟨eY,eZ,fq⟩:=hSw;go_simp⟩) pI ?_
      try simp only [Act.put,List.getElem_toArray,List.getElem_cons_zero,List.getElem_cons_succ,List.setIfInBounds_toArray,List.set_cons_zero,List.set_cons_succ]
      refine wpAnyH_take (i:=14) (v:=(.int .i64 p1.2)) rfl (by kernel_rfl) (by kernel_rfl) (by kernel_rfl) (fun _ _ _ h=>h) (Or.inl ⟨by kernel_rfl,by intro w hSw;obtain⟨eY,eZ,fq⟩:=hSw;go_simp⟩) pI ?_
      try simp only [Act.put,List.getElem_toArray,List.getElem_cons_zero,List.getElem_cons_succ,List.setIfInBounds_toArray,List.set_cons_zero,List.set_cons_succ]
      refine wpAnyH_take (i:=15) (v:=(.agg #[.int .i64 kd,sv t, .int .i64 p1.1, .int .i64 p1.2])) rfl (by kernel_rfl) (by kernel_rfl) (by kernel_rfl) (fun _ _ _ h=>h) (Or.inl ⟨by kernel_rfl,by intro w hSw;obtain⟨eY,eZ,fq⟩:=hSw;go_simp⟩) pI ?_
      try simp only [Act.put,List.getElem_toArray,List.getElem_cons_zero,List.getElem_cons_succ,List.setIfInBounds_toArray,List.set_cons_zero,List.set_cons_succ]
      refine wpAnyH_ready (rs:=[4,16]) (by kernel_rfl) (by simp) ?_;refine AllReadyH.cons rfl (fun K hK=> ?_) (AllReadyH.cons rfl (fun K hK=> ?_) AllReadyH.nil)
      ·go_simp;refine hK.out _ _ pI (fun _=> ?_);clear hK K
       try simp only [Act.put,List.getElem_toArray,List.getElem_cons_zero,List.getElem_cons_succ,List.setIfInBounds_toArray,List.set_cons_zero,List.set_cons_succ]
       refine wpAnyH_ready (rs:=[16]) (by kernel_rfl) (by simp) ?_;refine AllReadyH.cons rfl (fun K hK=> ?_) AllReadyH.nil;go_simp
       try rw [hw8]
       refine hK.out _ _ ⟨Mx.1,Mx.2.1,trivial⟩ (fun _=> ?_);clear hK K
       try simp only [Act.put,List.getElem_toArray,List.getElem_cons_zero,List.getElem_cons_succ,List.setIfInBounds_toArray,List.set_cons_zero,List.set_cons_succ]
       refine wpAnyH_ready (rs:=[17]) (by kernel_rfl) (by simp) ?_;refine AllReadyH.cons rfl (fun K hK=> ?_) AllReadyH.nil;refine cu rfl (.tmp 59) (.tmp 71) _ rfl 0 EF _ _ rfl rfl fE Ir (Bg ⟨kd,t,p1.1,p1.2⟩) h63 hbytes (Nat.zero_le _) (fun v' w9 n' fF rZ jH=> ?_);obtain rfl:n'=out.length+1:=by have h1:=fF.1;have h2:=fE.1;rw [List.length_append,h2]at h1;have h3:(pG ⟨kd,t,p1.1,p1.2⟩).length=4:=rfl;omega
       obtain⟨g9,c9,rfl, _, _, _, _⟩:=gN fF (by omega);have t9:Turn (fun j=>(Value.slice A0 out.length C0).ownBlock=some j) w8 w9:=Turn.aP rZ (fun j h=>h);have Gj:=JB.turn t9 (fun h=>(iP.fo bl h).2.2.1 rfl);have EG:=ah RP t9 (fun h=>(iP.fo _ h).2.1 rfl);have Cz:=Cy.turn t9 (fun h=>(iP.fo _ h).2.2.2 rfl);have BR:=Cw w9 Gj;have e4:=Gj.c4;have g4:=Gj.free 4;refine hK.out _ _ ⟨BR.1,BR.2.1,trivial⟩ (fun _=> ?_);clear hK K
       try simp only [Act.put,List.getElem_toArray,List.getElem_cons_zero,List.getElem_cons_succ,List.setIfInBounds_toArray,List.set_cons_zero,List.set_cons_succ]
       refine wpAnyH_ready (rs:=[18]) (by kernel_rfl) (by simp) ?_;refine AllReadyH.cons rfl (fun K hK=> ?_) AllReadyH.nil;go_simp;refine hK.out _ _ ⟨BR.1,BR.2.1,trivial⟩ (fun _=> ?_);clear hK K
       try simp only [Act.put,List.getElem_toArray,List.getElem_cons_zero,List.getElem_cons_succ,List.setIfInBounds_toArray,List.set_cons_zero,List.set_cons_succ]
       refine wpAnyH_ready (rs:=[19]) (by kernel_rfl) (by simp) ?_;refine AllReadyH.cons rfl (fun K hK=> ?_) AllReadyH.nil;go_simp;refine hK.out _ _ ⟨BR.1,BR.2.1,trivial⟩ (fun _=> ?_);clear hK K
       try simp only [Act.put,List.getElem_toArray,List.getElem_cons_zero,List.getElem_cons_succ,List.setIfInBounds_toArray,List.set_cons_zero,List.set_cons_succ]
       refine wpAnyH_ready (rs:=[20]) (by kernel_rfl) (by simp) ?_;refine AllReadyH.cons rfl (fun K hK=> ?_) AllReadyH.nil;go_simp;have Bj:=Gj.Cm (.slice (some ⟨g9,0,none⟩) (out.length+1) c9);have t10:=ay w9 bl 4 (.slice (some ⟨g9,0,none⟩) (out.length+1) c9);refine hK.out _ _ ⟨Bj.c1,Bj.c2,trivial⟩ (fun _=> ?_);clear hK K
       try simp only [Act.put,List.getElem_toArray,List.getElem_cons_zero,List.getElem_cons_succ,List.setIfInBounds_toArray,List.set_cons_zero,List.set_cons_succ]
       refine wpAnyH_done (by kernel_rfl) ?_ _;have Ke:=Cx.size;have Wp:bp<w5.heap.size:=by obtain⟨_, _, _,h, _⟩:=iP.pairs;exact h.lt
       have Wq:=iP.lex.lt;have Ws:=block_lt iP.diag;have Ec:∀g,(Value.slice (some ⟨g9,0,none⟩) (out.length+1) c9).ownBlock=some g→w.heap.size≤g∧g≠w.heap.size∧g≠bl∧g≠bp:=fun g hg=>by
        rcases jH with h | h
        ·rw [h]at hg;exact iP.fo g hg
        ·rw [h]at hg;injection hg with hg;subst hg;have:=Ed.size;exact⟨by omega,by omega,by omega,by omega⟩
       have yw:=bK fF t10 (fun g hg h=>(Ec g hg).2.2.1 h);have Kg:=ah EG t10 iP.dl;have Kh:=Cz.turn t10 (fun h=>iP.lp h.symm);have Ki:Below w.heap.size w (w9.setCell ⟨bl,4,none⟩ (.slice (some ⟨g9,0,none⟩) (out.length+1) c9)):=((Ed.trans (Cx.mono Ed.size)).trans (t9.below (Nat.le_trans Ed.size Ke) (fun k hk h=>by have:=(iP.fo k h).1;omega))).trans (t10.below (Nat.le_trans (Nat.le_trans Ed.size Ke) t9.size) (fun k hk h=>by have:=iP.hl;omega));clear fF rZ jH t9 t10 Gj EG Cz BR e4 g4 fE Ir JB RP Cy Mx hw8 jY;generalize(w9.setCell ⟨bl,4,none⟩ (.slice (some ⟨g9,0,none⟩) (out.length+1) c9))=kR at*
       go_wp2_with fail;refine(pE kR bl bp (c :: r) p1 _ n Bj n2 (by omega) (by omega)).mono ?_;rintro e Oc ⟨rfl,Kj,t11⟩;have l1:=nu ((c :: r).take n) iP.b3;have Wt:((c :: r).take n).length≤n:=by rw [List.length_take];omega
       have Wu:((c :: r).drop n).length≤(c :: r).length:=by rw [List.length_drop];omega
       go_wp2_with fail;refine(rC Oc bl bp ((c :: r).drop n) (fu p1 ((c :: r).take n)) _ Kj (by omega) (by omega) l1.2.2).mono ?_;rintro e Wv ⟨rfl,Kk,t12⟩;have pJ:=t11.trans t12 (fun _ _ h=>h);have Pp:Below w.heap.size w Wv:=Ki.trans (pJ.below Ki.size (fun k hk h=>by have:=iP.hl;omega));obtain⟨f',s2,p2,out',hR',hm'⟩:=iP.next hn h8 (bK yw pJ (fun g hg h=>(Ec g hg).2.2.1 h)) Ec (ah Kg pJ iP.dl) (Kh.turn pJ (fun h=>iP.lp h.symm)) Kk;have hm2:=nk hR'.lex;have HR:=hid hR';have HM:=hid hm2;have Eb:=hid hm';clear hR' hm2 hm' Kk Kj Bj t11 t12 pJ yw Kg Kh;go_wp2_with fail
       go_roundw
       case rel=>exact⟨Pp,f',s2,p2, _,out',HR.out⟩
       case measure=>have:=HLEN.out;have:=HM.out;have:=Eb.out;omega
      ·go_simp
       try rw [hw8]
       refine hK.out _ _ ⟨Mx.1,Mx.2.1,trivial⟩ (fun _=> ?_);clear hK K
       try simp only [Act.put,List.getElem_toArray,List.getElem_cons_zero,List.getElem_cons_succ,List.setIfInBounds_toArray,List.set_cons_zero,List.set_cons_succ]
       refine wpAnyH_ready (rs:=[4]) (by kernel_rfl) (by simp) ?_;refine AllReadyH.cons rfl (fun K hK=> ?_) AllReadyH.nil;go_simp;refine hK.out _ _ ⟨Mx.1,Mx.2.1,trivial⟩ (fun _=> ?_);clear hK K
       try simp only [Act.put,List.getElem_toArray,List.getElem_cons_zero,List.getElem_cons_succ,List.setIfInBounds_toArray,List.set_cons_zero,List.set_cons_succ]
       refine wpAnyH_ready (rs:=[17]) (by kernel_rfl) (by simp) ?_;refine AllReadyH.cons rfl (fun K hK=> ?_) AllReadyH.nil;refine cu rfl (.tmp 59) (.tmp 71) _ rfl 0 EF _ _ rfl rfl fE Ir (Bg ⟨kd,t,p1.1,p1.2⟩) h63 hbytes (Nat.zero_le _) (fun v' w9 n' fF rZ jH=> ?_);obtain rfl:n'=out.length+1:=by have h1:=fF.1;have h2:=fE.1;rw [List.length_append,h2]at h1;have h3:(pG ⟨kd,t,p1.1,p1.2⟩).length=4:=rfl;omega
       obtain⟨g9,c9,rfl, _, _, _, _⟩:=gN fF (by omega);have t9:Turn (fun j=>(Value.slice A0 out.length C0).ownBlock=some j) w8 w9:=Turn.aP rZ (fun j h=>h);have Gj:=JB.turn t9 (fun h=>(iP.fo bl h).2.2.1 rfl);have EG:=ah RP t9 (fun h=>(iP.fo _ h).2.1 rfl);have Cz:=Cy.turn t9 (fun h=>(iP.fo _ h).2.2.2 rfl);have BR:=Cw w9 Gj;have e4:=Gj.c4;have g4:=Gj.free 4;refine hK.out _ _ ⟨BR.1,BR.2.1,trivial⟩ (fun _=> ?_);clear hK K
       try simp only [Act.put,List.getElem_toArray,List.getElem_cons_zero,List.getElem_cons_succ,List.setIfInBounds_toArray,List.set_cons_zero,List.set_cons_succ]
       refine wpAnyH_ready (rs:=[18]) (by kernel_rfl) (by simp) ?_;refine AllReadyH.cons rfl (fun K hK=> ?_) AllReadyH.nil;go_simp;refine hK.out _ _ ⟨BR.1,BR.2.1,trivial⟩ (fun _=> ?_);clear hK K
       try simp only [Act.put,List.getElem_toArray,List.getElem_cons_zero,List.getElem_cons_succ,List.setIfInBounds_toArray,List.set_cons_zero,List.set_cons_succ]
       refine wpAnyH_ready (rs:=[19]) (by kernel_rfl) (by simp) ?_;refine AllReadyH.cons rfl (fun K hK=> ?_) AllReadyH.nil;go_simp;refine hK.out _ _ ⟨BR.1,BR.2.1,trivial⟩ (fun _=> ?_);clear hK K
       try simp only [Act.put,List.getElem_toArray,List.getElem_cons_zero,List.getElem_cons_succ,List.setIfInBounds_toArray,List.set_cons_zero,List.set_cons_succ]
       refine wpAnyH_ready (rs:=[20]) (by kernel_rfl) (by simp) ?_;refine AllReadyH.cons rfl (fun K hK=> ?_) AllReadyH.nil;go_simp;have Bj:=Gj.Cm (.slice (some ⟨g9,0,none⟩) (out.length+1) c9);have t10:=ay w9 bl 4 (.slice (some ⟨g9,0,none⟩) (out.length+1) c9);refine hK.out _ _ ⟨Bj.c1,Bj.c2,trivial⟩ (fun _=> ?_);clear hK K
       try simp only [Act.put,List.getElem_toArray,List.getElem_cons_zero,List.getElem_cons_succ,List.setIfInBounds_toArray,List.set_cons_zero,List.set_cons_succ]
       refine wpAnyH_done (by kernel_rfl) ?_ _;have Ke:=Cx.size;have Wp:bp<w5.heap.size:=by obtain⟨_, _, _,h, _⟩:=iP.pairs;exact h.lt
       have Wq:=iP.lex.lt;have Ws:=block_lt iP.diag;have Ec:∀g,(Value.slice (some ⟨g9,0,none⟩) (out.length+1) c9).ownBlock=some g→w.heap.size≤g∧g≠w.heap.size∧g≠bl∧g≠bp:=fun g hg=>by
        rcases jH with h | h
        ·rw [h]at hg;exact iP.fo g hg
        ·rw [h]at hg;injection hg with hg;subst hg;have:=Ed.size;exact⟨by omega,by omega,by omega,by omega⟩
       have yw:=bK fF t10 (fun g hg h=>(Ec g hg).2.2.1 h);have Kg:=ah EG t10 iP.dl;have Kh:=Cz.turn t10 (fun h=>iP.lp h.symm);have Ki:Below w.heap.size w (w9.setCell ⟨bl,4,none⟩ (.slice (some ⟨g9,0,none⟩) (out.length+1) c9)):=((Ed.trans (Cx.mono Ed.size)).trans (t9.below (Nat.le_trans Ed.size Ke) (fun k hk h=>by have:=(iP.fo k h).1;omega))).trans (t10.below (Nat.le_trans (Nat.le_trans Ed.size Ke) t9.size) (fun k hk h=>by have:=iP.hl;omega));clear fF rZ jH t9 t10 Gj EG Cz BR e4 g4 fE Ir JB RP Cy Mx hw8 jY;generalize(w9.setCell ⟨bl,4,none⟩ (.slice (some ⟨g9,0,none⟩) (out.length+1) c9))=kR at*
       go_wp2_with fail;refine(pE kR bl bp (c :: r) p1 _ n Bj n2 (by omega) (by omega)).mono ?_;rintro e Oc ⟨rfl,Kj,t11⟩;have l1:=nu ((c :: r).take n) iP.b3;have Wt:((c :: r).take n).length≤n:=by rw [List.length_take];omega
       have Wu:((c :: r).drop n).length≤(c :: r).length:=by rw [List.length_drop];omega
       go_wp2_with fail;refine(rC Oc bl bp ((c :: r).drop n) (fu p1 ((c :: r).take n)) _ Kj (by omega) (by omega) l1.2.2).mono ?_;rintro e Wv ⟨rfl,Kk,t12⟩;have pJ:=t11.trans t12 (fun _ _ h=>h);have Pp:Below w.heap.size w Wv:=Ki.trans (pJ.below Ki.size (fun k hk h=>by have:=iP.hl;omega));obtain⟨f',s2,p2,out',hR',hm'⟩:=iP.next hn h8 (bK yw pJ (fun g hg h=>(Ec g hg).2.2.1 h)) Ec (ah Kg pJ iP.dl) (Kh.turn pJ (fun h=>iP.lp h.symm)) Kk;have hm2:=nk hR'.lex;have HR:=hid hR';have HM:=hid hm2;have Eb:=hid hm';clear hR' hm2 hm' Kk Kj Bj t11 t12 pJ yw Kg Kh;go_wp2_with fail
       go_roundw
       case rel=>exact⟨Pp,f',s2,p2, _,out',HR.out⟩
       case measure=>have:=HLEN.out;have:=HM.out;have:=Eb.out;omega
end
def Iu (ts:List aF):Prop:=ts.length≤8193∧∀t∈ts,t.text.length≤100000
theorem Iu.tail {t:aF} {r:List aF} (h:Iu (t :: r)):Iu r:=⟨by have:=h.1;simp at this;omega,fun x hx=>h.2 x (by simp [hx])⟩
def pK (B:Nat) (w:World):Prop:=∀w':World,(∀k,k<B→w'.heap[k]? =w.heap[k]?)→mH w'
theorem yx {w w':World} {name:String} {cs:Array Value} (h:w.var? Tryz.prog name=some cs) (hb:∀k,k<w.heap.size→w'.heap[k]? =w.heap[k]?):w'.var? Tryz.prog name=some cs:=by
 unfold World.var? at h ⊢;cases hg:Tryz.prog.globalNamed name with
 | none=>rw [hg]at h;cases h
 | some g=>
  rw [hg]at h;simp only [Option.bind_some]at h ⊢;by_cases hlt:g<w.heap.size
  ·rw [hb g hlt];exact h
  ·rw [Array.getElem?_eq_none (by omega)]at h;cases h
theorem pK.of {w:World} (h:mH w):pK w.heap.size w:=fun w' hb=>by
 obtain⟨h1,⟨tp,p,h2⟩,⟨tp',p',h3⟩⟩:=h;exact⟨yx h1 hb,⟨tp,p,yx h2 hb⟩,⟨tp',p',yx h3 hb⟩⟩
theorem pK.here {B:Nat} {w:World} (h:pK B w):mH w:=h w (fun _ _=>rfl)
theorem pK.below {B:Nat} {w w':World} (h:pK B w) (hb:Below B w w'):pK B w':=fun w2 h2=>h w2 fun k hk=>(h2 k hk).trans (hb.block k hk)
def Bl (B:Nat) (w:World) (v:Value):Prop:=∀b o n c,v= .slice (some ⟨b,o,none⟩) n c→b<B∧∃cs,w.heap[b]? =some (.cells cs 70 (0,0))
theorem Bl.below {B:Nat} {w w':World} {v:Value} (h:Bl B w v) (hb:Below B w w'):Bl B w' v:=fun b o n c e=>by
 obtain⟨h1,cs,h2⟩:=h b o n c e;exact⟨h1,cs,(hb.block b h1).trans h2⟩
theorem Bl.behind {B:Nat} {w:World} {b o n c n' c':Nat} {A':Option Addr} (h:Bl B w (.slice (some ⟨b,o,none⟩) n c)) (hA:∀b' o',A'=some ⟨b',o',none⟩→b'=b):Bl B w (.slice A' n' c'):=fun b1 o1 n1 c1 e=>by
 injection e with e _ _;rw [hA b1 o1 e];exact h b o n c rfl
def bB (w:World) (bp B:Nat) (ts:List aF) (d:Int):Prop:=B≤bp∧Iu ts∧Wf ts∧∃v,w.heap[bp]? =some (.cells #[v, .int .i64 d] 140 (0,0))∧Sl w B 4 v (dA ts)∧pK B w∧Bl B w v
section
variable {w w':World} {bp B:Nat} {ts:List aF} {d:Int} {G:Nat→Prop}
theorem bB.lt (h:bB w bp B ts d):bp<w.heap.size:=by
 obtain⟨_, _, _,v,h, _⟩:=h;exact block_lt h
theorem bB.wf (h:bB w bp B ts d):Wf ts:=h.2.2.1
theorem bB.turn (h:bB w bp B ts d) (t:Turn G w w') (hk:¬G bp) (hB:∀k,k<B→¬G k):bB w' bp B ts d:=by
 have hlt:=h.lt;obtain⟨h1,h2,h5,v,h3,h4,h6,h7⟩:=h;have hb:=t.below (B:=B) (by omega) hB;exact⟨h1,h2,h5,v,ah h3 t hk,Sl.below h4 hb,h6.below hb,h7.below hb⟩
theorem bB.laid (h:bB w bp B ts d):pK B w:=h.2.2.2.choose_spec.2.2.1
theorem bB.tok (h:bB w bp B ts d) {v:Value} {d':Int} (hb:w.heap[bp]? =some (.cells #[v, .int .i64 d'] 140 (0,0))):Bl B w v:=by
 obtain⟨_, _, _,v',h1, _, _,h7⟩:=h;rw [hb]at h1;injection h1 with h1;injection h1 with h1 _;have h2:[v,Value.int .i64 d']=[v',Value.int .i64 d]:=congrArg Array.toList h1;injection h2 with h2 _;rw [h2];exact h7
theorem bB.apart (h:bB w bp B ts d) (t:Turn G w w') (hk:¬G bp) (hT:∀g,G g→g<w.heap.size→∃cs T,w.heap[g]? =some (.cells cs T (0,0))∧T≠70) (hL:pK B w'):bB w' bp B ts d:=by
 obtain⟨h1,h2,h5,v,h3,h4,h6,h7⟩:=h;have hg:∀b o n c,v= .slice (some ⟨b,o,none⟩) n c→¬G b:=fun b o n c e hG=>by
  obtain⟨hb,cs,hcs⟩:=h7 b o n c e;obtain⟨cs',T,hT1,hT2⟩:=hT b hG (block_lt hcs);rw [hcs]at hT1;injection hT1 with hT1;injection hT1 with _ hT1;exact hT2 hT1.symm
 refine⟨h1,h2,h5,v,ah h3 t hk, ?_,hL,fun b o n c e=> ?_⟩
 ·obtain⟨A,n,c,rfl,hl,hn,hc,hx⟩:=h4;refine⟨A,n,c,rfl,hl,hn,hc,fun h0=> ?_⟩;obtain⟨b,o,rfl,SC,hcell⟩:=hx h0;refine⟨b,o,rfl,SC,fun j u hu=> ?_⟩;obtain⟨_,cs,hcs⟩:=h7 b o n c rfl;have e0:=cell_of_row w b (o+j) _ _ _ hcs;have e1:=cell_of_row w' b (o+j) _ _ _ (ah hcs t (hg b o n c rfl));rw [e1, ←e0];exact hcell j u hu
 ·obtain⟨hb,cs,hcs⟩:=h7 b o n c e;exact⟨hb,cs,ah hcs t (hg b o n c e)⟩
theorem bB.below (h:bB w bp B ts d) (hb:Below w.heap.size w w'):bB w' bp B ts d:=h.turn (Turn.of_below (F:=fun _=>False) hb) id (fun _ _=>id)
theorem bB.open_ (h:bB w bp B ts d):
  ∃b o c t r,ts=t :: r∧r.length+1≤c∧c≤2 ^ 63 - 1∧Iu (t :: r)∧B≤bp∧b<B∧w.heap[bp]? =some (.cells #[.slice (some ⟨b,o,none⟩) (r.length+1) c, .int .i64 d] 140 (0,0))∧Sl w B 4 (.slice (some ⟨b,o,none⟩) (r.length+1) c) (dA (t :: r))∧
   w.cell? ⟨bp,0,none⟩=some (.slice (some ⟨b,o,none⟩) (r.length+1) c)∧w.cell? ⟨bp,1,none⟩=some (.int .i64 d)∧(∀i,w.frozen? ⟨bp,i,none⟩=false)∧
   w.cell? ⟨b,o,none⟩=some (.int .i64 t.kind)∧w.cell? ⟨b,o+1,none⟩=some (sv t.text)∧w.cell? ⟨b,o+2,none⟩=some (.int .i64 t.line)∧w.cell? ⟨b,o+3,none⟩=some (.int .i64 t.col):=by
 obtain⟨hB,hL,hw,v,hb,hv, _⟩:=h;have hv':=hv;obtain⟨A,n,c,rfl,hl,hn,hc,hx⟩:=hv';obtain⟨t,r,rfl⟩:∃t r,ts=t :: r:=by
  rcases hw.cases with⟨e,rfl, _⟩ | ⟨t,r,rfl, _⟩
  ·exact⟨e,[],rfl⟩
  ·exact⟨t,r,rfl⟩
 obtain rfl:n=r.length+1:=by rw [oD]at hl;simp at hl;omega
 obtain⟨b,o,rfl,SC,hcell⟩:=hx (by omega);unfold maxLen at hc;have c0:=hcell 0 _ (show(dA (t :: r))[0]? =some (.int .i64 t.kind)from rfl);have c1:=hcell 1 _ (show(dA (t :: r))[1]? =some (sv t.text)from rfl);have c2:=hcell 2 _ (show(dA (t :: r))[2]? =some (.int .i64 t.line)from rfl);have c3:=hcell 3 _ (show(dA (t :: r))[3]? =some (.int .i64 t.col)from rfl);rw [Nat.add_zero]at c0;exact⟨b,o,c,t,r,rfl,hn,hc,hL,hB,SC,hb,hv,(cell_of_row _ _ _ _ _ _ hb).trans rfl,(cell_of_row _ _ _ _ _ _ hb).trans rfl,fun i=>frozen_of_row _ _ _ _ _ hb,c0,c1,c2,c3⟩
theorem bB.text {b o:Nat} {s:Bt} (h:bB w bp B ts d) (hc:w.cell? ⟨b,o,none⟩=some (sv s)):b≠bp:=by
 rintro rfl;obtain⟨_, _, _,v,h,hv, _⟩:=h;obtain⟨A,n,c,rfl, _⟩:=hv;rw [cell_of_row _ _ _ _ _ _ h]at hc;rcases o with _ | _ | o
 ·cases hc
 ·cases hc
 ·cases hc
theorem Ab {b o c:Nat} {t:aF} {r:List aF} (h:Sl w B 4 (.slice (some ⟨b,o,none⟩) (r.length+1) c) (dA (t :: r))):
  ∃A',(∀b' o',A'=some ⟨b',o',none⟩→b'=b)∧Sl w B 4 (.slice A' r.length (c - 1)) (dA r)∧∀w,(Instr.slice 66 (.slice (some ⟨b,o,none⟩) (r.length+1) c) (some (.int .i64 1)) none none).run Tryz.prog w= .ok (.slice A' r.length (c - 1)) w:=by
 obtain⟨A,n,c',hv,hl,hn,hc,hx⟩:=h;injection hv with hv1 hv2 hv3;subst hv1 hv2 hv3;obtain⟨b',o',hA,hb,hcell⟩:=hx (by omega);injection hA with hA;injection hA with hA1 hA2;subst hA1 hA2;refine⟨if c=1 then some ⟨b,o,none⟩else some ⟨b,o+4,none⟩,fun b' o' e=> ?_,⟨_, _, _,rfl,by rw [oD],by omega,by unfold maxLen at*;omega,fun h0=> ?_⟩,fun w=> ?_⟩
 ·split at e <;> (injection e with e;injection e with e _;exact e.symm)
 ·rw [if_neg (by omega)];refine⟨b,o+4,rfl,hb,fun j u hu=> ?_⟩;have:(dA (t :: r))[4+j]? =some u:=by
   rw [show dA (t :: r)=pG t++dA r from rfl,List.getElem?_append_right (by show 4≤4+j;omega)];rw [show 4+j - (pG t).length=j by show 4+j - 4=j;omega];exact hu
  have:=hcell _ u this;rwa [←Nat.add_assoc]at this
 ·have h0:(0:Int)≤((1:Nat):Int):=by omega
  have h1:¬((r.length:Int)+1<1):=by omega
  go_simp
end
abbrev yA (d:zx):Ending:= .panicked [{ v:= .iface 135 (.agg #[.int .i64 0, .int .i64 d.1, .int .i64 d.2.1, .int .i64 d.2.2]),recovered:=false}]
def rE (w:World) (bp:Nat):Prop:=∃v d,w.heap[bp]? =some (.cells #[v, .int .i64 d] 140 (0,0))
def dB (bp:Nat) (w w':World):Prop:=Turn (fun k=>k=bp) w w'∧rE w' bp
theorem bB.bp {w:World} {bp B:Nat} {ts:List aF} {d:Int} (h:bB w bp B ts d):rE w bp:=by
 obtain⟨_, _, _,v,h, _⟩:=h;exact⟨v,d,h⟩
theorem rE.turn {w w':World} {bp:Nat} {G:Nat→Prop} (h:rE w bp) (t:Turn G w w') (hk:¬G bp):rE w' bp:=by
 obtain⟨v,d,h⟩:=h;exact⟨v,d,ah h t hk⟩
theorem dB.below {bp:Nat} {a b c:World} (t:Turn (fun k=>k=bp) a b) (h:rE b bp) (hb:Below b.heap.size b c):dB bp a c:=⟨t.trans (Turn.of_below (F:=fun k=>k=bp) hb) (fun _ _ h=>h),h.turn (Turn.of_below (F:=fun _=>False) hb) id⟩
def aD {α:Type} (P:World→Value→α→Prop) (bp B:Nat) (d:Int) (w:World) (q:Pr α) (e:Ending) (w':World):Prop:=
 match q with
  | .good x r=>∃v,e= .returned v∧Turn (fun k=>k=bp) w w'∧P w' v x∧bB w' bp B r d
  | .bad g=>e=yA g∧dB bp w w'
section
variable {α:Type} {P:World→Value→α→Prop} {bp B:Nat} {d:Int} {w w':World} {q:Pr α} {e:Ending}
theorem aD.bD {g:zx} (h:aD P bp B d w q e w') (hq:q= .bad g):e=yA g∧dB bp w w':=by
 subst hq;exact h
theorem aD.aL {x:α} {r:List aF} (h:aD P bp B d w q e w') (hq:q= .good x r):∃v,e= .returned v∧Turn (fun k=>k=bp) w w'∧P w' v x∧bB w' bp B r d:=by
 subst hq;exact h
theorem aD.fail {g:zx} (hq:q= .bad g) (t:dB bp w w'):aD P bp B d w q (yA g) w':=by
 subst hq;exact⟨rfl,t⟩
theorem aD.done {x:α} {r:List aF} {v:Value} (hq:q= .good x r) (t:Turn (fun k=>k=bp) w w') (hP:P w' v x) (hR:bB w' bp B r d):aD P bp B d w q (.returned v) w':=by
 subst hq;exact⟨v,rfl,t,hP,hR⟩
end
def VD (base:Nat) (w:World) (v:Value) (t:cZ):Prop:=∃z,v= .agg z.toArray∧lW w (fun j=>base≤j) z t
def Kl (base:Nat) (w:World) (v:Value) (t:bT):Prop:=∃z,v= .agg z.toArray∧qy w (fun j=>base≤j) z t
theorem aV {P:Program} {fn:Func} {t:Tmp} {T:TypeId} {tmps:Array Value} {w:World} {b:Nat} {cs:Array Value} {S:TypeId} {d:TypeDesc} (h:fn.results= #[.cell t T]) (ht:tmps.getD t undef= .pointer (some ⟨b,0,none⟩)) (hb:w.heap[b]? =some (.cells cs S (0,0)))
  (hu:P.underlying T=some d) (hd:(match d with | .struct _ | .array _ _=>true | _=>false)=true) (hi:(P.info? T).map (·.size)=some cs.size):(results fn tmps).run P w= .ok (.agg cs) w:=by
 have h1:=run_loadVar_row (P:=P) w b S T cs (0,0) d hb hu hd hi;have e:tmps[t]?.getD undef= .pointer (some ⟨b,0,none⟩):=by simpa using ht
 have h2:(asAddr (.pointer (some ⟨b,0,none⟩))).run P w= .ok ⟨b,0,none⟩ w:=rfl;simp [results,h,e,h1,h2]
end Go.Proofs.YtmbppnbekkbibaaGreatDoor
