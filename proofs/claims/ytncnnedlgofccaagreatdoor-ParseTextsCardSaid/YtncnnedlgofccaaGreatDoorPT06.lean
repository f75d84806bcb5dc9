/- GE, GF -/
import Derived.Test.YtncnnedlgofccaaGreatDoorPT00
import Derived.Test.YtncnnedlgofccaaGreatDoorRows
import Derived.Test.YtncnnedlgofccaaGreatDoorPT02
import Derived.Test.YtncnnedlgofccaaGreatDoorPT05
set_option linter.unusedSimpArgs false
set_option linter.unusedVariables false
set_option maxRecDepth 100000
set_option maxHeartbeats 2000000
namespace Go.Proofs.YtncnnedlgofccaaGreatDoor
open Go.RowKit
theorem jZ (c:UInt8)(w:World):Calls Tryz.prog 108 #[.int .u8 (c.toNat:Int)] w fun e w'=>e=.returned (.bool (fB c))∧w'=w:=by
 unfold fB;generalize c.toNat=n;go_enter Tryz.func108,Tryz.ntmps108;go_wp2_with fail
 all_goals
  go_ret;refine⟨?_,rfl⟩;congr 2
  try simp
  try omega
  try (rw [Bool.eq_iff_iff];simp only [Bool.or_eq_true,Bool.and_eq_true,decide_eq_true_eq,beq_iff_eq];omega)
theorem rP (c:UInt8)(w:World):Calls Tryz.prog 161 #[.int .u8 (c.toNat:Int)] w fun e w'=>e=.returned (.bool (bX c))∧w'=w:=by
 unfold bX;generalize c.toNat=n;go_enter Tryz.func161,Tryz.ntmps161;go_wp2_with fail
 all_goals
  go_ret;refine⟨?_,rfl⟩;congr 2
  try simp
  try omega
  try (rw [Bool.eq_iff_iff];simp only [Bool.or_eq_true,Bool.and_eq_true,decide_eq_true_eq,beq_iff_eq];omega)
theorem Ku (c:UInt8)(w:World):Calls Tryz.prog 175 #[.int .u8 (c.toNat:Int)] w fun e w'=>e=.returned (.bool (dh c))∧w'=w:=by
 unfold dh;generalize c.toNat=n;go_enter Tryz.func175,Tryz.ntmps175;go_wp2_with fail
 all_goals
  go_ret;refine⟨?_,rfl⟩;congr 2
  try simp
  try omega
  try (rw [Bool.eq_iff_iff];simp only [Bool.or_eq_true,Bool.and_eq_true,decide_eq_true_eq,beq_iff_eq];omega)
theorem EH (c:UInt8)(w:World):Calls Tryz.prog 176 #[.int .u8 (c.toNat:Int)] w fun e w'=>e=.returned (.bool (fQ c))∧w'=w:=by
 unfold fQ;generalize c.toNat=n;go_enter Tryz.func176,Tryz.ntmps176;go_wp2_with fail
 all_goals
  go_ret;refine⟨?_,rfl⟩;congr 2
  try simp
  try omega
  try (rw [Bool.eq_iff_iff];simp only [Bool.not_eq_true',bne_iff_ne,ne_eq,decide_eq_false_iff_not];omega)
theorem Kv (c:UInt8)(w:World):Calls Tryz.prog 110 #[.int .u8 (c.toNat:Int)] w fun e w'=>e=.returned (.bool (bN c))∧w'=w:=by
 have hi:bN c=(fB c || bX c):=rfl;rw [hi];clear hi;cases hl:fB c
 ·go_enter Tryz.func110,Tryz.ntmps110;go_wp2_with fail;refine(jZ c _).mono ?_;rintro e w1 ⟨rfl,rfl⟩;rw [hl];go_wp2_with fail;refine(rP c _).mono ?_;rintro e w1 ⟨rfl,rfl⟩;go_wp2_with fail;go_ret;exact⟨rfl,rfl⟩
 ·go_enter Tryz.func110,Tryz.ntmps110;go_wp2_with fail;refine(jZ c _).mono ?_;rintro e w1 ⟨rfl,rfl⟩;rw [hl];go_wp2_with fail;go_ret;exact⟨rfl,rfl⟩
theorem cO (s:Bt):(ByteArray.mk s.toArray).size=s.length:=by simp [ByteArray.size]
theorem eU (s:Bt)(k:Nat)(h:k<s.length:=by simp):(ByteArray.mk s.toArray)[k]'(by rw [cO];exact h)=s[k]:=by simp [ByteArray.getElem_eq_getElem_data]
theorem VN (s:Bt)(w:World)(hs:s.length<=281474976710656):Calls Tryz.prog 109 #[sv s,.func (.func 175) #[] #[]] w fun e w'=>e=.returned (I (dO dh s:Nat))∧w'=w:=by
 have hsz:=cO s;go_enter Tryz.func109,Tryz.ntmps109;go_wp2_with fail
 go_loop [5,8] (fun v5 v8=>∃k:Nat,v8=I k∧k<=s.length∧∀j (hj:j<s.length),j<k->dh s[j]=true) (fun _ v8=>s.length - (intOf v8).toNat)
 case atStart=>exact⟨0,rfl,by omega,fun j hj h=>by omega⟩
 case round=>
  obtain⟨k,rfl,hk,hall⟩:=hrel;by_cases hlt:k<s.length
  ·have hix:=eU s k hlt;have hrow:=fun hn=>BH (p:=dh) hlt (fun j hj=>hall j (by omega) hj) hn;have hnext:dh s[k]=true->∀j (hj:j<s.length),j<k+1->dh s[j]=true:=by
    intro h j hj hjk;rcases Nat.lt_or_ge j k with h1 |h1
    ·exact hall j hj h1
    ·obtain rfl:j=k:=by omega
     exact h
   have fF:=aO hrow;have lM:=aO hnext;clear hall hrow hnext;generalize hX:s[k]=X at*
   cases hq:dh X
   ·have hres:=fF.o hq;go_wp2_with fail;refine(Ku X _).mono ?_;rintro e w1 ⟨rfl,rfl⟩;rw [hq];go_wp2_with fail;go_ret;exact⟨by rw [hres];rfl,rfl⟩
   ·have hall:=lM.o hq;have GA:=aO hall;clear hall;go_wp2_with fail;refine(Ku X _).mono ?_;rintro e w1 ⟨rfl,rfl⟩;rw [hq];go_wp2_with fail
    go_round
    case rel=>exact⟨k+1,rfl,by omega,GA.o⟩
    case measure=>simp [intOf];omega
  ·obtain rfl:k=s.length:=by omega
   have hres:=yc (p:=dh) (s:=s) (fun j hj=>hall j hj hj);clear hall;go_wp2_with fail;go_ret
   first |exact⟨rfl,rfl⟩ |exact⟨by rw [hres];rfl,rfl⟩
theorem Kw (s:Bt)(w:World)(hs:s.length<=281474976710656):Calls Tryz.prog 109 #[sv s,.func (.func 110) #[] #[]] w fun e w'=>e=.returned (I (dO bN s:Nat))∧w'=w:=by
 have hsz:=cO s;go_enter Tryz.func109,Tryz.ntmps109;go_wp2_with fail
 go_loop [5,8] (fun v5 v8=>∃k:Nat,v8=I k∧k<=s.length∧∀j (hj:j<s.length),j<k->bN s[j]=true) (fun _ v8=>s.length - (intOf v8).toNat)
 case atStart=>exact⟨0,rfl,by omega,fun j hj h=>by omega⟩
 case round=>
  obtain⟨k,rfl,hk,hall⟩:=hrel;by_cases hlt:k<s.length
  ·have hix:=eU s k hlt;have hrow:=fun hn=>BH (p:=bN) hlt (fun j hj=>hall j (by omega) hj) hn;have hnext:bN s[k]=true->∀j (hj:j<s.length),j<k+1->bN s[j]=true:=by
    intro h j hj hjk;rcases Nat.lt_or_ge j k with h1 |h1
    ·exact hall j hj h1
    ·obtain rfl:j=k:=by omega
     exact h
   have fF:=aO hrow;have lM:=aO hnext;clear hall hrow hnext;generalize hX:s[k]=X at*
   cases hq:bN X
   ·have hres:=fF.o hq;go_wp2_with fail;refine(Kv X _).mono ?_;rintro e w1 ⟨rfl,rfl⟩;rw [hq];go_wp2_with fail;go_ret;exact⟨by rw [hres];rfl,rfl⟩
   ·have hall:=lM.o hq;have GA:=aO hall;clear hall;go_wp2_with fail;refine(Kv X _).mono ?_;rintro e w1 ⟨rfl,rfl⟩;rw [hq];go_wp2_with fail
    go_round
    case rel=>exact⟨k+1,rfl,by omega,GA.o⟩
    case measure=>simp [intOf];omega
  ·obtain rfl:k=s.length:=by omega
   have hres:=yc (p:=bN) (s:=s) (fun j hj=>hall j hj hj);clear hall;go_wp2_with fail;go_ret
   first |exact⟨rfl,rfl⟩ |exact⟨by rw [hres];rfl,rfl⟩
theorem VO (s:Bt)(w:World)(hs:s.length<=281474976710656):Calls Tryz.prog 109 #[sv s,.func (.func 161) #[] #[]] w fun e w'=>e=.returned (I (dO bX s:Nat))∧w'=w:=by
 have hsz:=cO s;go_enter Tryz.func109,Tryz.ntmps109;go_wp2_with fail
 go_loop [5,8] (fun v5 v8=>∃k:Nat,v8=I k∧k<=s.length∧∀j (hj:j<s.length),j<k->bX s[j]=true) (fun _ v8=>s.length - (intOf v8).toNat)
 case atStart=>exact⟨0,rfl,by omega,fun j hj h=>by omega⟩
 case round=>
  obtain⟨k,rfl,hk,hall⟩:=hrel;by_cases hlt:k<s.length
  ·have hix:=eU s k hlt;have hrow:=fun hn=>BH (p:=bX) hlt (fun j hj=>hall j (by omega) hj) hn;have hnext:bX s[k]=true->∀j (hj:j<s.length),j<k+1->bX s[j]=true:=by
    intro h j hj hjk;rcases Nat.lt_or_ge j k with h1 |h1
    ·exact hall j hj h1
    ·obtain rfl:j=k:=by omega
     exact h
   have fF:=aO hrow;have lM:=aO hnext;clear hall hrow hnext;generalize hX:s[k]=X at*
   cases hq:bX X
   ·have hres:=fF.o hq;go_wp2_with fail;refine(rP X _).mono ?_;rintro e w1 ⟨rfl,rfl⟩;rw [hq];go_wp2_with fail;go_ret;exact⟨by rw [hres];rfl,rfl⟩
   ·have hall:=lM.o hq;have GA:=aO hall;clear hall;go_wp2_with fail;refine(rP X _).mono ?_;rintro e w1 ⟨rfl,rfl⟩;rw [hq];go_wp2_with fail
    go_round
    case rel=>exact⟨k+1,rfl,by omega,GA.o⟩
    case measure=>simp [intOf];omega
  ·obtain rfl:k=s.length:=by omega
   have hres:=yc (p:=bX) (s:=s) (fun j hj=>hall j hj hj);clear hall;go_wp2_with fail;go_ret
   first |exact⟨rfl,rfl⟩ |exact⟨by rw [hres];rfl,rfl⟩
theorem Nl (s:Bt)(w:World)(hs:s.length<=281474976710656):Calls Tryz.prog 109 #[sv s,.func (.func 176) #[] #[]] w fun e w'=>e=.returned (I (dO fQ s:Nat))∧w'=w:=by
 have hsz:=cO s;go_enter Tryz.func109,Tryz.ntmps109;go_wp2_with fail
 go_loop [5,8] (fun v5 v8=>∃k:Nat,v8=I k∧k<=s.length∧∀j (hj:j<s.length),j<k->fQ s[j]=true) (fun _ v8=>s.length - (intOf v8).toNat)
 case atStart=>exact⟨0,rfl,by omega,fun j hj h=>by omega⟩
 case round=>
  obtain⟨k,rfl,hk,hall⟩:=hrel;by_cases hlt:k<s.length
  ·have hix:=eU s k hlt;have hrow:=fun hn=>BH (p:=fQ) hlt (fun j hj=>hall j (by omega) hj) hn;have hnext:fQ s[k]=true->∀j (hj:j<s.length),j<k+1->fQ s[j]=true:=by
    intro h j hj hjk;rcases Nat.lt_or_ge j k with h1 |h1
    ·exact hall j hj h1
    ·obtain rfl:j=k:=by omega
     exact h
   have fF:=aO hrow;have lM:=aO hnext;clear hall hrow hnext;generalize hX:s[k]=X at*
   cases hq:fQ X
   ·have hres:=fF.o hq;go_wp2_with fail;refine(EH X _).mono ?_;rintro e w1 ⟨rfl,rfl⟩;rw [hq];go_wp2_with fail;go_ret;exact⟨by rw [hres];rfl,rfl⟩
   ·have hall:=lM.o hq;have GA:=aO hall;clear hall;go_wp2_with fail;refine(EH X _).mono ?_;rintro e w1 ⟨rfl,rfl⟩;rw [hq];go_wp2_with fail
    go_round
    case rel=>exact⟨k+1,rfl,by omega,GA.o⟩
    case measure=>simp [intOf];omega
  ·obtain rfl:k=s.length:=by omega
   have hres:=yc (p:=fQ) (s:=s) (fun j hj=>hall j hj hj);clear hall;go_wp2_with fail;go_ret
   first |exact⟨rfl,rfl⟩ |exact⟨by rw [hres];rfl,rfl⟩
theorem wM:oI Tryz.prog 25 9 (sv []) 1 16:=⟨Tryz.underlying25,by kernel_rfl,rfl,by decide⟩
def oq (w:World):Prop:=uq w∧Lib.TabIs Tryz.prog w "strings.asciiSpace" .u8 Lib.asciiSpaceTab
def mW (w:World):Prop:=Lib.TabIs Tryz.prog w "internal/strconv.uint64pow10" .u64 Lib.pow10Tab∧Lib.TabIs Tryz.prog w "strings.asciiSpace" .u8 Lib.asciiSpaceTab
theorem mW.below {w w':World}(h:mW w)(hb:Below w.heap.size w w'):mW w':=⟨rO h.1 hb,rO h.2 hb⟩
theorem oq.t {w:World}(h:oq w):mW w:=⟨h.1.tab,h.2⟩
theorem oq.below {w w':World}(h:oq w)(hb:Below w.heap.size w w'):oq w':=⟨h.1.below hb,rO h.2 hb⟩
def GD:Bt:=[97,110,100,32,97,110,121,32,97,115,32,98,111,111,108,32,101,108,115,101,32,101,120,112,111,114,116,32,102,97,108,115,101,32,102,110,32,102,117,110,99,116,105,111,110,32,105,102,32,105,109,112,111,114,116,32,105,110,32,105,110,116,32,105,115,32,108,101,116,32,110,111,116,32,110,117,108,108,32,111,114,32,112,114,105,110,116,32,114,101,97,100,32,114,101,99,111,114,100,32,115,116,114,32,116,104,101,110,32,116,114,117,101,32,119,105,116,104]
theorem Lv:Lib.fields GD=fC:=by kernel_rfl
theorem Nn:(GD.all fun b=>decide (b.toNat<128))=true:=by kernel_rfl
theorem GH:(⟨GD.toArray⟩:ByteArray).data.toList=GD:=rfl
theorem Dw (w:World)(hL:mW w):Calls Tryz.prog 112 #[] w fun e w'=>∃v,e=.returned v∧Ss w' w'.heap.size v fC∧Below w.heap.size w w':=by
 go_enter Tryz.func112,Tryz.ntmps112;go_wp2_with fail;refine(Tryz.strings_Fields ⟨GD.toArray⟩ _ ?h1 ?h2 hL.2).mono ?_
 case h1=>decide
 case h2=>
  intro j b hb;rw [GH]at hb;exact of_decide_eq_true (List.all_eq_true.1 Nn b (List.mem_of_getElem? hb))
 rintro e w1 ⟨rfl,rfl⟩;rw [GH,Lv];have hss:Ss (w.alloc (.cells (fC.map fun l=>Value.string ⟨l.toArray⟩).toArray 9)) (w.alloc (.cells (fC.map fun l=>Value.string ⟨l.toArray⟩).toArray 9)).heap.size (.slice (some ⟨w.heap.size,0,none⟩) fC.length fC.length) fC:=by
  have:=iN w (fC.map fun l=>Value.string ⟨l.toArray⟩).toArray 9 1 fC.length (by simp);rw [World.size_alloc];simpa [Ss,qW]using this
 have hb:Below w.heap.size w (w.alloc (.cells (fC.map fun l=>Value.string ⟨l.toArray⟩).toArray 9)):=o9 _ _;generalize(w.alloc (.cells (fC.map fun l=>Value.string ⟨l.toArray⟩).toArray 9))=w2 at*
 generalize fC.length=n at*
 go_wp2_with fail;go_ret;exact⟨_,rfl,hss,hb⟩
theorem VP (v:Value)(l:List Bt)(x:Bt)(w:World)(hv:Ss w w.heap.size v l):
  Calls Tryz.prog 162 #[v,sv x] w fun e w'=>(∃k:Int,e=.returned (I k)∧(0<=k↔x∈l))∧w'=w:=by
 obtain⟨A,c,rfl,hn,hc,hx⟩:=hv.open_;unfold maxLen at hc;go_enter Tryz.func162,Tryz.ntmps162;go_wp2_with fail
 go_loop [5,8] (fun v5 v8=>∃k:Nat,v8=I k∧k<=l.length∧x ∉ l.take k) (fun _ v8=>l.length - (intOf v8).toNat)
 case atStart=>exact⟨0,rfl,by omega,by simp⟩
 case round=>
  obtain⟨k,rfl,hk,hnot⟩:=hrel;by_cases hlt:k<l.length
  ·obtain⟨b,o,rfl,hb,hcell⟩:=hx (by omega);have d1:=hcell k hlt;have e1:x=l[k]->x∈l:=fun h=>by rw [h];exact List.getElem_mem hlt
   have e2:¬x=l[k]->x ∉ l.take (k+1):=fun h hh=>by
    rw [List.take_succ_eq_append_getElem hlt,List.mem_append]at hh;rcases hh with hh |hh
    ·exact hnot hh
    ·simp at hh;exact h hh
   clear hcell hx hv hnot;generalize l[k]=X at*
   by_cases hX:x=X
   ·have e3:=e1 hX;have hq:(x==X)=true:=by rw [beq_iff_eq];exact hX
    clear hX e1 e2;go_wp2_with fail;go_ret;exact⟨⟨k,rfl,by simp [e3]⟩,rfl⟩
   ·have e3:=e2 hX;have hq:(x==X)=false:=by rw [beq_eq_false_iff_ne];exact hX
    clear hX e1 e2;go_wp2_with fail
    go_round
    case rel=>exact⟨k+1,rfl,by omega,e3⟩
    case measure=>simp [intOf];omega
  ·obtain rfl:k=l.length:=by omega
   rw [List.take_length]at hnot;go_wp2_with fail;go_ret;exact⟨⟨-1,rfl,by simp [hnot]⟩,rfl⟩
theorem ru (v:Value)(l:List Bt)(x:Bt)(w:World)(hv:Ss w w.heap.size v l):
  Calls Tryz.prog 111 #[v,sv x] w fun e w'=>e=.returned (.bool (decide (x∈l)))∧w'=w:=by
 go_enter Tryz.func111,Tryz.ntmps111;go_wp2_with fail;refine(VP v l x _ hv).mono ?_;rintro e w1 ⟨⟨k,rfl,hk⟩,rfl⟩;by_cases h:x∈l
 ·have h0:=hk.2 h;clear hk;go_wp2_with fail;go_ret;exact⟨by simp [h],rfl⟩
 ·have h0:¬(0<=k):=fun hh=>h (hk.1 hh);clear hk;go_wp2_with fail;go_ret;exact⟨by first |(simp [h];done) |(simp [h];exact h0) |(simp [h];omega),rfl⟩
def fG (w:World)(bl bp:Nat)(s:Bt)(p:Nat ×Nat)(eD:Value):Prop:=
 w.heap[bl]? =some (.cells #[sv s,I p.1,I p.2,.map (some bp),eD] 195 (0,0))
section
variable {w w':World}{bl bp:Nat}{s:Bt}{p:Nat ×Nat}{eD:Value}
theorem fG.c0 (h:fG w bl bp s p eD):w.cell? ⟨bl,0,none⟩=some (sv s):=(dY h)
theorem fG.c1 (h:fG w bl bp s p eD):w.cell? ⟨bl,1,none⟩=some (I p.1):=(dY h)
theorem fG.c2 (h:fG w bl bp s p eD):w.cell? ⟨bl,2,none⟩=some (I p.2):=(dY h)
theorem fG.c3 (h:fG w bl bp s p eD):w.cell? ⟨bl,3,none⟩=some (.map (some bp)):=(dY h)
theorem fG.c4 (h:fG w bl bp s p eD):w.cell? ⟨bl,4,none⟩=some eD:=(dY h)
theorem fG.free (h:fG w bl bp s p eD)(i:Nat):w.frozen? ⟨bl,i,none⟩=false:=by simp [World.frozen?,show w.heap[bl]? = _ from h]
theorem fG.lt (h:fG w bl bp s p eD):bl<w.heap.size:=block_lt h
theorem fG.turn {G:Nat->Prop}(h:fG w bl bp s p eD)(t:Turn G w w')(hd:¬G bl):fG w' bl bp s p eD:=ah h t hd
end
theorem Np {w wr:World}{F:Nat->Prop}{b off:Nat}(t:Turn F w wr)(hb:b<w.heap.size)(hF:¬F b){u:Value}(h:w.cell? ⟨b,off,none⟩=some u):wr.cell? ⟨b,off,none⟩=some u:=by
 rw [<-h];simp only [World.cell?,t.block hb hF]
theorem aec (p:Nat ×Nat)(s:Bt):(gq p s).1<=p.1+s.length∧(gq p s).2<=p.2+s.length+1:=by
 induction s generalizing p with
 |nil=>exact⟨Nat.le_refl _,by simp [gq]⟩
 |cons c s ih=>
  have h:gq p (c :: s)=gq (uO p c) s:=rfl;rw [h];obtain⟨a,b⟩:=ih (uO p c);have h1:(uO p c).1<=p.1+1∧(uO p c).2<=p.2+1∨(uO p c).2<=1∧(uO p c).1<=p.1+1:=by
   unfold uO;split
   ·exact .inr ⟨Nat.le_refl _,Nat.le_refl _⟩
   ·exact .inl ⟨Nat.le_succ _,Nat.le_refl _⟩
  simp only [List.length_cons];omega
theorem wN (s:Bt)(a b:Nat):(ByteArray.extract ⟨s.toArray⟩ a b).data.toList=(s.take b).drop a:=by
 rw [ByteArray.data_extract];simp [List.extract_eq_take_drop,List.drop_take]
theorem gB (s:Bt)(a b:Nat):Value.string (ByteArray.extract ⟨s.toArray⟩ a b)=sv ((s.take b).drop a):=by
 rw [<-wN]
theorem VQ {P:Program}(w:World)(src dst e:TypeId)(hs:P.underlying src=some .string)(hd:P.underlying dst=some (.slice e))(he:P.underlying e=some (.int .u8))(s:Bt)(n:Nat)(hn:n<=s.length):
  ∃C w5,(convert src dst (.string (ByteArray.extract ⟨s.toArray⟩ 0 n))).run P w=.ok (.slice (some ⟨w.heap.size,0,none⟩) n C) w5∧Turn (fun _=>False) w w5∧w.heap.size<w5.heap.size∧
   ∀j (hj:j<n),w5.cell? ⟨w.heap.size,j,none⟩=some (.int .u8 ((s[j]'(by omega)).toNat:Int)):=by
 have hsz:(ByteArray.extract ⟨s.toArray⟩ 0 n).size=n:=by
  have h:(ByteArray.extract ⟨s.toArray⟩ 0 n).data.toList.length=(ByteArray.extract ⟨s.toArray⟩ 0 n).size:=Array.length_toList;rw [<-h,wN];simp;omega
 have hrun:=Lib.run_convert_string_bytes (P:=P) w src dst e (ByteArray.extract ⟨s.toArray⟩ 0 n) hs hd he;have hcell:=Lib.bytesWorld_cell w e (ByteArray.extract ⟨s.toArray⟩ 0 n);have hsize:=Lib.bytesWorld_size w e (ByteArray.extract ⟨s.toArray⟩ 0 n);have hold:=Lib.bytesWorld_at_old w e (ByteArray.extract ⟨s.toArray⟩ 0 n);rw [hsz]at hrun hcell;refine⟨_,_,hrun,⟨rfl,rfl,rfl,by rw [hsize];omega,fun k hk _=>hold k hk⟩,by rw [hsize];omega,fun j hj=>?_⟩;rw [hcell j hj,wN];simp [List.getD_eq_getElem?_getD,List.getElem?_take,hj,List.getElem?_eq_getElem (show j<s.length by omega)]
theorem fG.set1 {w:World}{bl bp:Nat}{s:Bt}{p:Nat ×Nat}{eD:Value}(h:fG w bl bp s p eD)(n:Nat):fG (w.setCell ⟨bl,1,none⟩ (I n)) bl bp s (n,p.2) eD:=heap_setCell_same w bl 1 _ _ _ h
theorem fG.set2 {w:World}{bl bp:Nat}{s:Bt}{p:Nat ×Nat}{eD:Value}(h:fG w bl bp s p eD)(n:Nat):fG (w.setCell ⟨bl,2,none⟩ (I n)) bl bp s (p.1,n) eD:=heap_setCell_same w bl 2 _ _ _ h
theorem fG.set0 {w:World}{bl bp:Nat}{s:Bt}{p:Nat ×Nat}{eD:Value}(h:fG w bl bp s p eD)(s':Bt):fG (w.setCell ⟨bl,0,none⟩ (sv s')) bl bp s' p eD:=heap_setCell_same w bl 0 _ _ _ h
theorem fG.Lx {w:World}{bl bp:Nat}{s:Bt}{p:Nat ×Nat}{eD:Value}(h:fG w bl bp s p eD)(v:Value):fG (w.setCell ⟨bl,4,none⟩ v) bl bp s p v:=heap_setCell_same w bl 4 _ _ _ h
theorem yw (w:World)(bl bp:Nat)(s:Bt)(p:Nat ×Nat)(eD:Value)(n:Nat)(hL:fG w bl bp s p eD)(hn:n<=s.length)(hs:s.length<=100000)(hp:p.1<=1000000∧p.2<=1000000:=by omega):
  Calls Tryz.prog 133 #[pP bl 0,I n] w fun e w'=>
   e=.returned (.tuple #[])∧fG w' bl bp (s.drop n) (gq p (s.take n)) eD∧Turn (fun k=>k=bl) w w':=by
 have hsz:=cO s;have c0:=hL.c0;obtain⟨C,w5,Nq,ht5,akb,hcells⟩:=VQ (P:=Tryz.prog) w 9 100 5 Tryz.underlying9 Tryz.underlying100 Tryz.underlying5 s n hn;have hL5:=hL.turn ht5 id;have hbl:=hL.lt;have HC:=aO hcells;clear hcells;go_enter Tryz.func133,Tryz.ntmps133;go_wp2_with fail;go_loopw [14] (fun v14 wr=>∃k:Nat,v14=I k∧k<=n∧fG wr bl bp s (gq p (s.take k)) eD∧Turn (fun k=>k=bl) w5 wr) (fun v14 _=>n - (intOf v14).toNat)
 case atStart=>exact⟨0,rfl,by omega,hL5,Turn.refl _ _⟩
 case round=>
  obtain⟨k,rfl,hk,MW,htr⟩:=hrel;have hq:=aec p (s.take k);have hkl:(s.take k).length<=k:=by simp;omega
  by_cases hlt:k<n
  ·have hnext:=Kj (p:=p) (show k<s.length by omega);have d1:=Np htr akb (by omega) (HC.o k hlt);generalize gq p (s.take k)=q at*
   generalize s[k]=X at*
   have c1:=MW.c1;have c2:=MW.c2;have f1:=MW.free 1;have f2:=MW.free 2;have hb:q.1<2000000∧q.2<2000000:=by omega
   have Jw:=aO hnext;clear hnext hq hL hL5 c0 Nq;by_cases hX:X.toNat=10
   ·have hl1:=((MW.set2 (q.2+1)).set1 (q.1+1)).set2 1;have ht1:=((htr.trans (ak _ bl 2 (I ((q.2+1:Nat):Int))) (fun _ _ h=>h)).trans (ak _ bl 1 (I ((q.1+1:Nat):Int))) (fun _ _ h=>h)).trans (ak _ bl 2 (I ((1:Nat):Int))) (fun _ _ h=>h);have e1:uO q X=(q.1+1,1):=by unfold uO;rw [if_pos hX]
    have HL1:=aO hl1;have HT1:=aO ht1;have HE:=aO e1;clear MW htr hl1 ht1 e1;go_wp2_with fail
    go_roundw
    case rel=>exact⟨k+1,rfl,by omega,by rw [Jw.o,HE.o];exact HL1.o,HT1.o⟩
    case measure=>simp [intOf];omega
   ·have hl1:=MW.set2 (q.2+1);have ht1:=htr.trans (ak _ bl 2 (I ((q.2+1:Nat):Int))) (fun _ _ h=>h);have e1:uO q X=(q.1,q.2+1):=by unfold uO;rw [if_neg hX]
    have HL1:=aO hl1;have HT1:=aO ht1;have HE:=aO e1;clear MW htr hl1 ht1 e1;go_wp2_with fail
    go_roundw
    case rel=>exact⟨k+1,rfl,by omega,by rw [Jw.o,HE.o];exact HL1.o,HT1.o⟩
    case measure=>simp [intOf];omega
  ·obtain rfl:k=n:=by omega
   have c0r:=MW.c0;have f0:=MW.free 0;have hl1:=MW.set0 (s.drop k);have ht1:=((ht5.mono (G:=fun k=>k=bl) (fun _ _ h=>h.elim)).trans htr).trans (ak _ bl 0 (sv (s.drop k))) (fun _ _ h=>h);have he:Value.string (ByteArray.extract ⟨s.toArray⟩ k s.length)=sv (s.drop k):=by rw [gB,List.take_length]
   have HL1:=aO hl1;have HT1:=aO ht1;clear hL hL5 MW htr ht5 hl1 ht1 hq c0 Nq;go_wp2_with fail;go_end0;exact⟨rfl,HL1.o,HT1.o⟩
theorem GI (s:Bt):iA s<=s.length:=by
 unfold iA;have h1:=nK dh s;split
 ·have h2:=nK fQ (s.drop (dO dh s));rw [List.length_drop]at h2;omega
 ·omega
theorem Rb (s:Bt)(p:Nat ×Nat):s.drop (bP s)=(s.drop (iA s)).drop (bP (s.drop (iA s)))∧gq p (s.take (bP s))=gq (gq p (s.take (iA s))) ((s.drop (iA s)).take (bP (s.drop (iA s)))):=by
 have h:=Yl s;generalize bP (s.drop (iA s))=m at*
 rw [h];refine⟨by rw [List.drop_drop],?_⟩;rw [List.take_add,yg]
def textOf (w:World)(bl:Nat):Nat:=match w.cell? ⟨bl,0,none⟩with |some (.string b)=>b.size |_=>0
theorem vD {w:World}{bl bp:Nat}{s:Bt}{p:Nat ×Nat}{eD:Value}(h:fG w bl bp s p eD):textOf w bl=s.length:=by
 unfold textOf;rw [h.c0];exact cO s
def BQ (w:World)(bl bp:Nat)(s:Bt)(p:Nat ×Nat)(eD:Value)(wr:World):Prop:=
 ∃(c:Bt) (q:Nat ×Nat),fG wr bl bp c q eD∧Turn (fun k=>k=bl) w wr∧c.length<=s.length∧s.drop (bP s)=c.drop (bP c)∧gq p (s.take (bP s))=gq q (c.take (bP c))∧
  q.1+c.length<=p.1+s.length∧q.2+c.length<=p.2+s.length∧1<=q.2
theorem pI {p:Nat ×Nat}(s:Bt)(h:1<=p.2):(gq p s).1<=p.1+s.length∧(gq p s).2<=p.2+s.length∧1<=(gq p s).2:=by
 induction s generalizing p with
 |nil=>exact⟨Nat.le_refl _,Nat.le_refl _,h⟩
 |cons c s ih=>
  have h0:gq p (c :: s)=gq (uO p c) s:=rfl;rw [h0];have h1:(uO p c).1<=p.1+1∧(uO p c).2<=p.2+1∧1<=(uO p c).2:=by
   unfold uO;split
   ·exact⟨Nat.le_refl _,by show 1<= _;omega,Nat.le_refl _⟩
   ·exact⟨Nat.le_succ _,Nat.le_refl _,by show 1<= _+1;omega⟩
  obtain⟨a,b,d⟩:=ih h1.2.2;simp only [List.length_cons];omega
theorem BQ.step {w wr w2:World}{bl bp:Nat}{s c:Bt}{p q:Nat ×Nat}{eD:Value}(htr:Turn (fun k=>k=bl) w wr)(hcl:c.length<=s.length)(hd:s.drop (bP s)=c.drop (bP c))(ha:gq p (s.take (bP s))=gq q (c.take (bP c)))
  (hq1:q.1+c.length<=p.1+s.length) (hq2:q.2+c.length<=p.2+s.length) (hq3:1<=q.2) (h:fG w2 bl bp (c.drop (iA c)) (gq q (c.take (iA c))) eD) (ht:Turn (fun k=>k=bl) wr w2) (h0:0<iA c):
  BQ w bl bp s p eD w2∧textOf w2 bl<c.length:=by
 obtain⟨e1,e2⟩:=Rb c q;have hone:=GI c;have hl:=pI (c.take (iA c)) hq3;rw [List.length_take,Nat.min_eq_left hone]at hl;refine⟨⟨_,_,h,htr.trans ht,?_,hd.trans e1,ha.trans e2,?_,?_,hl.2.2⟩,?_⟩
 ·rw [List.length_drop];omega
 ·rw [List.length_drop];omega
 ·rw [List.length_drop];omega
 ·rw [vD h,List.length_drop];omega
theorem AO (w:World)(bl bp:Nat)(s:Bt)(p:Nat ×Nat)(eD:Value)(hL:fG w bl bp s p eD)(hs:s.length<=100000)(hp:p.1<=700000∧p.2<=700000)(hp1:1<=p.2):
  Calls Tryz.prog 131 #[pP bl 0] w fun e w'=>
   e=.returned (.tuple #[])∧fG w' bl bp (s.drop (bP s)) (gq p (s.take (bP s))) eD∧Turn (fun k=>k=bl) w w':=by
 go_enter Tryz.func131,Tryz.ntmps131;go_wp2_with fail;go_loopw [2] (fun _ wr=>BQ w bl bp s p eD wr) (fun _ wr=>textOf wr bl)
 case atStart=>exact⟨s,p,hL,Turn.refl _ _,Nat.le_refl _,rfl,rfl,Nat.le_refl _,Nat.le_refl _,hp1⟩
 case round=>
  obtain⟨c,q,MW,htr,hcl,hd,ha,hq1,hq2,hq3⟩:=hrel;have hlen:=vD MW;have c0:=MW.c0;have hsz:=cO c;have hrow:=nK dh c;have Yy:=aO (fun w2 h ht h0=>BQ.step (w2:=w2) (bp:=bp) (eD:=eD) htr hcl hd ha hq1 hq2 hq3 h ht h0);have hz:iA c=0->fG wr bl bp (s.drop (bP s)) (gq p (s.take (bP s))) eD:=by
   intro h;rw [hd,ha,VE h];exact MW
  have HZ:=aO hz;have HL:=aO MW;have HLEN:=aO hlen;have HT:=aO htr;have he:Value.string (ByteArray.extract ⟨c.toArray⟩ (dO dh c) c.length)=sv (c.drop (dO dh c)):=by rw [gB,List.take_length]
  have hone:iA c=dO dh c+(if((c.drop (dO dh c)).head?).map UInt8.toNat=some 35 then dO fQ (c.drop (dO dh c))else 0):=rfl;have hle:=GI c;have hdl:(c.drop (dO dh c)).length=c.length - dO dh c:=List.length_drop;clear hd ha hz MW htr hlen;go_wp2_with fail;refine(VN c _ (by omega)).mono ?_;rintro e w1 ⟨rfl,rfl⟩;generalize hn:dO dh c=n at*
  generalize hr:c.drop n=r at*
  have HDL:=aO hdl;clear hdl;cases r with
  |nil=>
   simp only [List.head?_nil,Option.map_none,reduceCtorEq,if_false,Nat.add_zero]at hone;by_cases h0:n=0
   ·have hfin:=HZ.o (by omega);have akd:=aO hfin;clear hfin;subst h0;go_wp2_with fail
    (try simp only [Exit.inBlock,Exit.then]);refine bodyPost_ret (results_none rfl _ _ _) rfl ?_
    exact⟨rfl,akd.o,HT.o⟩
   ·have h0':¬((n:Nat):Int)=0:=by omega
    go_wp2_with fail;refine(yw w1 bl bp c q eD n HL.o (by omega) (by omega)).mono ?_;rintro e w2 ⟨rfl,hl2,ht2⟩;obtain⟨EI,hm2⟩:=Yy.o w2 (by rw [hone];exact hl2) ht2 (by omega);have Nr:=aO EI;have Yz:=aO hm2;clear EI hm2 hl2 ht2;go_wp2_with fail
    go_roundw
    case rel=>exact Nr.o
    case measure=>have:=HLEN.o;have:=Yz.o;omega
  |cons d tl=>
   simp only [List.head?_cons,Option.map_some,Option.some.injEq]at hone;have hix:(ByteArray.mk (d :: tl).toArray)[0]'(by rw [cO];simp)=d:=eU (d :: tl) 0;have hsz2:=cO (d :: tl);by_cases hd:d.toNat=35
   ·rw [if_pos hd]at hone;have hn2:=nK fQ (d :: tl);have aAH:dO fQ (d :: tl)+n<=c.length:=by have:=HDL.o;omega
    have hn3:1<=dO fQ (d :: tl):=yj (by unfold fQ;simp [hd]);go_wp2_with fail;refine(Nl (d :: tl) _ (by have:=HDL.o;omega)).mono ?_;rintro e w1 ⟨rfl,rfl⟩;generalize dO fQ (d :: tl)=n2 at*
    have h0':¬((n:Int)+(n2:Int))=0:=by omega
    have e12:(n:Int)+(n2:Int)=((n+n2:Nat):Int):=by omega
    have E12:=aO e12;clear e12;go_wp2_with fail;have e12:=E12.o
    try rw [e12]
    refine(yw w1 bl bp c q eD (n+n2) HL.o (by omega) (by omega)).mono ?_;rintro e w2 ⟨rfl,hl2,ht2⟩;obtain⟨EI,hm2⟩:=Yy.o w2 (by rw [hone];exact hl2) ht2 (by omega);have Nr:=aO EI;have Yz:=aO hm2;clear EI hm2 hl2 ht2 e12;go_wp2_with fail
    go_roundw
    case rel=>exact Nr.o
    case measure=>have:=HLEN.o;have:=Yz.o;omega
   ·rw [if_neg hd,Nat.add_zero]at hone;by_cases h0:n=0
    ·have hfin:=HZ.o (by omega);have akd:=aO hfin;clear hfin;subst h0;go_wp2_with fail
     (try simp only [Exit.inBlock,Exit.then]);refine bodyPost_ret (results_none rfl _ _ _) rfl ?_
     exact⟨rfl,akd.o,HT.o⟩
    ·have h0':¬((n:Nat):Int)=0:=by omega
     go_wp2_with fail;refine(yw w1 bl bp c q eD n HL.o (by omega) (by omega)).mono ?_;rintro e w2 ⟨rfl,hl2,ht2⟩;obtain⟨EI,hm2⟩:=Yy.o w2 (by rw [hone];exact hl2) ht2 (by omega);have Nr:=aO EI;have Yz:=aO hm2;clear EI hm2 hl2 ht2;go_wp2_with fail
     go_roundw
     case rel=>exact Nr.o
     case measure=>have:=HLEN.o;have:=Yz.o;omega
section
theorem dV {fn:Func}{t u v x:Tmp}(h:fn.results= #[.tmp t,.tmp u,.tmp v,.tmp x])(tmps:Array Value)(P:Program)(w:World):
  (results fn tmps).run P w=.ok (.tuple #[tmps.getD t undef,tmps.getD u undef,tmps.getD v undef,tmps.getD x undef]) w:=by
 simp [results,h]
def FE:Int ⊕ (Int ×Bt ×Nat)->Value
 |.inl e=>.tuple #[I 0,sv [],I 0,I e]
 |.inr (kd,t,n)=>.tuple #[I kd,sv t,I n,I 0]
def LA (s:Bt):Int ⊕ (Int ×Bt ×Nat):=
 if 32<dO bN s then .inl 2 else if s.take (dO bN s)∈fC then .inr (2,s.take (dO bN s),dO bN s)else .inr (1,s.take (dO bN s),dO bN s)
def F3 (s:Bt):Int ⊕ (Int ×Bt ×Nat):=if(dH (s.take (dO bX s))).2 then .inr (3,s.take (dO bX s),dO bX s)else .inl 3
theorem BR (s:Bt)(n:Nat):Value.string (ByteArray.extract ⟨s.toArray⟩ 0 n)=sv (s.take n):=by
 rw [gB,List.drop_zero]
theorem VR (w:World)(bl bp:Nat)(s:Bt)(p:Nat ×Nat)(eD:Value)(hL:fG w bl bp s p eD)(hs:s.length<=100000)(hX:oq w):
  Calls Tryz.prog 177 #[pP bl 0] w fun e w'=>e=.returned (FE (LA s))∧Below w.heap.size w w':=by
 have c0:=hL.c0;have hsz:=cO s;have hle:=nK bN s;have he:=BR s (dO bN s);have hR:LA s=if 32<dO bN s then .inl 2 else if s.take (dO bN s)∈fC then .inr (2,s.take (dO bN s),dO bN s)else .inr (1,s.take (dO bN s),dO bN s):=rfl
 have hrow:=Kw s w (by omega);have fF:=aO hrow;clear hrow;generalize dO bN s=n at*
 by_cases h32:32<n
 ·rw [if_pos h32]at hR;rw [hR];clear hR;go_enter Tryz.func177,Tryz.ntmps177;go_wp2_with fail;refine fF.o.mono ?_;rintro e w1 ⟨rfl,rfl⟩;go_wp2_with fail;refine bodyPost_ret (dV rfl _ _ _) rfl ?_;exact⟨rfl,Below.refl _ _⟩
 ·rw [if_neg h32]at hR;by_cases hw:s.take n∈fC
  ·rw [if_pos hw]at hR;rw [hR];clear hR;go_enter Tryz.func177,Tryz.ntmps177;go_wp2_with fail;refine fF.o.mono ?_;rintro e w1 ⟨rfl,rfl⟩;go_wp2_with fail;refine(Dw _ hX.t).mono ?_;rintro e w2 ⟨v2,rfl,akf,hb2⟩;go_wp2_with fail;refine(ru v2 fC (s.take n) _ akf).mono ?_;rintro e w3 ⟨rfl,rfl⟩;rw [decide_eq_true hw];go_wp2_with fail;refine bodyPost_ret (dV rfl _ _ _) rfl ?_;exact⟨rfl,hb2⟩
  ·rw [if_neg hw]at hR;rw [hR];clear hR;go_enter Tryz.func177,Tryz.ntmps177;go_wp2_with fail;refine fF.o.mono ?_;rintro e w1 ⟨rfl,rfl⟩;go_wp2_with fail;refine(Dw _ hX.t).mono ?_;rintro e w2 ⟨v2,rfl,akf,hb2⟩;go_wp2_with fail;refine(ru v2 fC (s.take n) _ akf).mono ?_;rintro e w3 ⟨rfl,rfl⟩;rw [decide_eq_false hw];go_wp2_with fail;refine bodyPost_ret (dV rfl _ _ _) rfl ?_;exact⟨rfl,hb2⟩
theorem Rc (w:World)(bl bp:Nat)(s:Bt)(p:Nat ×Nat)(eD:Value)(hL:fG w bl bp s p eD)(hs:s.length<=100000)(hX:oq w):
  Calls Tryz.prog 178 #[pP bl 0] w fun e w'=>e=.returned (FE (F3 s))∧Below w.heap.size w w':=by
 have c0:=hL.c0;have hsz:=cO s;have hle:=nK bX s;have he:=BR s (dO bX s);have hR:F3 s=if(dH (s.take (dO bX s))).2 then .inr (3,s.take (dO bX s),dO bX s)else .inl 3:=rfl
 have fF:=aO (VO s w (by omega));generalize dO bX s=n at*
 have hpz:(ByteArray.mk (s.take n).toArray).size<=281474976710656:=by rw [cO,List.length_take];omega
 have HP:=aO (Kt ⟨(s.take n).toArray⟩ w hpz hX.1);clear hpz;have hpv:dH (ByteArray.mk (s.take n).toArray).data.toList=dH (s.take n):=rfl;rw [hpv]at HP;clear hpv;generalize dH (s.take n)=r at*
 obtain⟨i,q⟩:=r;simp only at hR HP;rw [hR];clear hR;go_enter Tryz.func178,Tryz.ntmps178;go_wp2_with fail;refine fF.o.mono ?_;rintro e w1 ⟨rfl,rfl⟩;go_wp2_with fail;refine HP.o.mono ?_;rintro e w2 ⟨rfl,hb2⟩;have c02:=(hb2.cell (p:=⟨bl,0,none⟩) hL.lt).trans c0;cases q
 ·go_wp2_with fail;refine bodyPost_ret (dV rfl _ _ _) rfl ?_;exact⟨rfl,hb2⟩
 ·go_wp2_with fail
  go_quiet (fail)
  go_wp2_with fail;refine bodyPost_ret (dV rfl _ _ _) rfl ?_;exact⟨rfl,hb2.trans (aP w2 _ |>.mono hb2.size)⟩
theorem BS:oI Tryz.prog 100 5 (.int .u8 0) 1 1:=⟨Tryz.underlying100,by kernel_rfl,rfl,by decide⟩
theorem aed {P:Program}(w:World)(src dst e:TypeId)(hs:P.underlying src=some .string)(hd:P.underlying dst=some (.slice e))(he:P.underlying e=some (.int .u8))(s:Bt):
  ∃C w5,(convert src dst (sv s)).run P w=.ok (.slice (some ⟨w.heap.size,0,none⟩) s.length C) w5∧Below w.heap.size w w5∧w.heap.size<w5.heap.size∧
   ∀j (hj:j<s.length),w5.cell? ⟨w.heap.size,j,none⟩=some (.int .u8 (s[j].toNat:Int)):=by
 have hsz:=cO s;have hrun:=Lib.run_convert_string_bytes (P:=P) w src dst e ⟨s.toArray⟩ hs hd he;have hcell:=Lib.bytesWorld_cell w e ⟨s.toArray⟩;have hsize:=Lib.bytesWorld_size w e ⟨s.toArray⟩;have hold:=Lib.bytesWorld_at_old w e ⟨s.toArray⟩;rw [hsz]at hrun hcell;refine⟨_,_,hrun,⟨rfl,rfl,rfl,by rw [hsize];omega,fun k hk=>hold k hk⟩,by rw [hsize];omega,fun j hj=>?_⟩;rw [hcell j hj];have e:(ByteArray.mk s.toArray).data.toList=s:=rfl;rw [e];simp [List.getD_eq_getElem?_getD,List.getElem?_eq_getElem hj]
theorem byte_of {X:UInt8}{n:Nat}(hn:n<256)(h:X.toNat=n):X=UInt8.ofNat n:=by
 apply UInt8.toNat_inj.1;rw [UInt8.toNat_ofNat',h];omega
theorem VT (X:UInt8):(X=92∧yh X=some 92∧Lib.indexByte [92,34,110,116] X=0)∨(X=34∧yh X=some 34∧Lib.indexByte [92,34,110,116] X=1)∨(X=110∧yh X=some 10∧Lib.indexByte [92,34,110,116] X=2)∨(X=116∧yh X=some 9∧Lib.indexByte [92,34,110,116] X=3)∨
  (yh X=none∧Lib.indexByte [92,34,110,116] X= -1):=by
 by_cases h1:X=92
 ·subst h1;exact .inl ⟨rfl,rfl,rfl⟩
 by_cases h2:X=34
 ·subst h2;exact .inr (.inl ⟨rfl,rfl,rfl⟩)
 by_cases h3:X=110
 ·subst h3;exact .inr (.inr (.inl ⟨rfl,rfl,rfl⟩))
 by_cases h4:X=116
 ·subst h4;exact .inr (.inr (.inr (.inl ⟨rfl,rfl,rfl⟩)))
 refine .inr (.inr (.inr (.inr ⟨?_,?_⟩)))
 ·unfold yh;rw [if_neg (fun h=>h1 (byte_of (by decide) h)),if_neg (fun h=>h2 (byte_of (by decide) h)),if_neg (fun h=>h3 (byte_of (by decide) h)),if_neg (fun h=>h4 (byte_of (by decide) h))]
 ·have e1:((92:UInt8)==X)=false:=by rw [beq_eq_false_iff_ne];exact fun h=>h1 h.symm
  have e2:((34:UInt8)==X)=false:=by rw [beq_eq_false_iff_ne];exact fun h=>h2 h.symm
  have e3:((110:UInt8)==X)=false:=by rw [beq_eq_false_iff_ne];exact fun h=>h3 h.symm
  have e4:((116:UInt8)==X)=false:=by rw [beq_eq_false_iff_ne];exact fun h=>h4 h.symm
  simp [Lib.indexByte,e1,e2,e3,e4]
theorem ofNat_toNat (X:UInt8):UInt8.ofNat ((X.toNat:Int)).toNat=X:=by simp
theorem oJ (X:UInt8):((X.toNat:Int)).toNat.toUInt8=X:=by simp
def yx:Option (Bt ×Nat)->Value
 |none=>.tuple #[sv [],I 0]
 |some (t,n)=>.tuple #[sv t,I n]
def YA (w5:World)(ans:Option (Bt ×Nat))(r:Bt)(k:Nat)(v4 v5:Value)(wr:World):Prop:=
 ∃(back:Bool) (o:Bt),v5=.bool back∧pq wr w5.heap.size 5 v4 o∧dZ back o k (r.drop k)=ans∧o.length<=k∧Below w5.heap.size w5 wr
theorem Rf (w:World)(s:Bt)(hs:s.length<=100000)(h1:1<=s.length):
  Calls Tryz.prog 202 #[sv s] w fun e w'=>e=.returned (yx (mO s))∧Below w.heap.size w w':=by
 have hsz:=cO s;have he:Value.string (ByteArray.extract ⟨s.toArray⟩ 1 s.length)=sv (s.drop 1):=by rw [gB,List.take_length]
 have hq0:dZ false [] 0 ((s.drop 1).drop 0)=mO s:=rfl;have hrl:(s.drop 1).length<=100000:=by rw [List.length_drop];omega
 generalize s.drop 1=r at*
 obtain⟨C,w5,Nq,hb5,akb,hcells⟩:=aed (P:=Tryz.prog) w 9 100 5 Tryz.underlying9 Tryz.underlying100 Tryz.underlying5 r;have HC:=aO hcells;have sW:=aO hq0;clear hcells hq0;generalize mO s=ans at*
 go_enter Tryz.func202,Tryz.ntmps202;go_wp2_with fail;go_loopw [4,5,13] (fun v4 v5 v13 wr=>∃k:Nat,v13=I k∧k<=r.length∧YA w5 ans r k v4 v5 wr) (fun _ _ v13 _=>r.length - (intOf v13).toNat)
 case atStart=>exact⟨0,rfl,by omega,false,[],rfl,pq.nil _ _ _,sW.o,Nat.le_refl _,Below.refl _ _⟩
 case round=>
  obtain⟨k,rfl,hk,back,o,rfl,hown,hq,hol,hbr⟩:=hrel;have hfin:Below w.heap.size w wr:=hb5.trans (hbr.mono hb5.size);by_cases hlt:k<r.length
  ·rw [List.drop_eq_getElem_cons hlt,dZ]at hq;have d1:=(hbr.cell (p:=⟨w.heap.size,k,none⟩) akb).trans (HC.o k hlt);generalize r[k]=X at*
   clear Nq;by_cases h32:X.toNat<32
   ·rw [if_pos h32]at hq;subst hq;go_wp2_with fail
    go_ret2
    exact⟨rfl,hfin⟩
   rw [if_neg h32]at hq;have hXs:((X.toNat:Int)).toNat.toUInt8=X:=by simp
   cases back with
   |true=>
    rw [if_pos rfl]at hq;rcases VT X with⟨hX,e1,e2⟩ |⟨hX,e1,e2⟩ |⟨hX,e1,e2⟩ |⟨hX,e1,e2⟩ |⟨e1,e2⟩
    all_goals have E2:=aO e2
    all_goals clear e2 hXs
    all_goals try clear hX
    ·rw [e1]at hq;have hq2:dZ false (o++[92]) (k+1) (r.drop (k+1))=ans:=hq;have i0:((ByteArray.mk #[92,34,10,9])[0]'(by decide)).toNat=92:=rfl;have HQ:=aO hq2;clear hq hq2 e1
     go_wp2_with (first
      |(go_at_call 203;refine(Tryz.strings_IndexByte _ _ _).mono ?_;rintro e w1 ⟨rfl,rfl⟩;rw [oJ,E2.o])
      |(at_builtin;refine pE rfl _ (.tmp 34) _ rfl w5.heap.size BS _ _ rfl rfl (hown.alloc _) (Gn _ (92:Int) _) (by simp;omega) (kg hbr.size _) (fun v7 w7 aU ku iI=>?_);have jA:=rU (hbr.alloc hbr.size _) (hown.alloc _) ku (Nat.le_refl _) (kg hbr.size _);clear ku iI))
     go_roundw
     case rel=>exact⟨k+1,rfl,by omega,false,o++[92],rfl,aU,HQ.o,by simp;omega,jA⟩
     case measure=>simp [intOf];omega
    ·rw [e1]at hq;have hq2:dZ false (o++[34]) (k+1) (r.drop (k+1))=ans:=hq;have i0:((ByteArray.mk #[92,34,10,9])[1]'(by decide)).toNat=34:=rfl;have HQ:=aO hq2;clear hq hq2 e1
     go_wp2_with (first
      |(go_at_call 203;refine(Tryz.strings_IndexByte _ _ _).mono ?_;rintro e w1 ⟨rfl,rfl⟩;rw [oJ,E2.o])
      |(at_builtin;refine pE rfl _ (.tmp 34) _ rfl w5.heap.size BS _ _ rfl rfl (hown.alloc _) (Gn _ (34:Int) _) (by simp;omega) (kg hbr.size _) (fun v7 w7 aU ku iI=>?_);have jA:=rU (hbr.alloc hbr.size _) (hown.alloc _) ku (Nat.le_refl _) (kg hbr.size _);clear ku iI))
     go_roundw
     case rel=>exact⟨k+1,rfl,by omega,false,o++[34],rfl,aU,HQ.o,by simp;omega,jA⟩
     case measure=>simp [intOf];omega
    ·rw [e1]at hq;have hq2:dZ false (o++[10]) (k+1) (r.drop (k+1))=ans:=hq;have i0:((ByteArray.mk #[92,34,10,9])[2]'(by decide)).toNat=10:=rfl;have HQ:=aO hq2;clear hq hq2 e1
     go_wp2_with (first
      |(go_at_call 203;refine(Tryz.strings_IndexByte _ _ _).mono ?_;rintro e w1 ⟨rfl,rfl⟩;rw [oJ,E2.o])
      |(at_builtin;refine pE rfl _ (.tmp 34) _ rfl w5.heap.size BS _ _ rfl rfl (hown.alloc _) (Gn _ (10:Int) _) (by simp;omega) (kg hbr.size _) (fun v7 w7 aU ku iI=>?_);have jA:=rU (hbr.alloc hbr.size _) (hown.alloc _) ku (Nat.le_refl _) (kg hbr.size _);clear ku iI))
     go_roundw
     case rel=>exact⟨k+1,rfl,by omega,false,o++[10],rfl,aU,HQ.o,by simp;omega,jA⟩
     case measure=>simp [intOf];omega
    ·rw [e1]at hq;have hq2:dZ false (o++[9]) (k+1) (r.drop (k+1))=ans:=hq;have i0:((ByteArray.mk #[92,34,10,9])[3]'(by decide)).toNat=9:=rfl;have HQ:=aO hq2;clear hq hq2 e1
     go_wp2_with (first
      |(go_at_call 203;refine(Tryz.strings_IndexByte _ _ _).mono ?_;rintro e w1 ⟨rfl,rfl⟩;rw [oJ,E2.o])
      |(at_builtin;refine pE rfl _ (.tmp 34) _ rfl w5.heap.size BS _ _ rfl rfl (hown.alloc _) (Gn _ (9:Int) _) (by simp;omega) (kg hbr.size _) (fun v7 w7 aU ku iI=>?_);have jA:=rU (hbr.alloc hbr.size _) (hown.alloc _) ku (Nat.le_refl _) (kg hbr.size _);clear ku iI))
     go_roundw
     case rel=>exact⟨k+1,rfl,by omega,false,o++[9],rfl,aU,HQ.o,by simp;omega,jA⟩
     case measure=>simp [intOf];omega
    ·rw [e1]at hq;have hq2:none=ans:=hq;subst hq2;clear hq e1;go_wp2_with (go_at_call 203;refine(Tryz.strings_IndexByte _ _ _).mono ?_;rintro e w1 ⟨rfl,rfl⟩;rw [oJ,E2.o])
     go_ret2
     exact⟨rfl,hfin⟩
   |false=>
    rw [if_neg (by simp)]at hq;clear hXs;by_cases h92:X.toNat=92
    ·rw [if_pos h92]at hq;have HQ:=aO hq;clear hq;go_wp2_with fail
     go_roundw
     case rel=>exact⟨k+1,rfl,by omega,true,o,rfl,hown,HQ.o,by omega,hbr⟩
     case measure=>simp [intOf];omega
    rw [if_neg h92]at hq;by_cases Jt:X.toNat=34
    ·rw [if_pos Jt]at hq;subst hq;have hso:=JA (P:=Tryz.prog) hown.bs 100 5 9 Tryz.underlying100 Tryz.underlying5 Tryz.underlying9;go_wp2_with fail
     go_ret2
     exact⟨by simp [yx],hfin⟩
    rw [if_neg Jt]at hq;have HQ:=aO hq;clear hq
    go_wp2_with (first
     |(at_builtin;refine pE rfl _ (.tmp 20) _ rfl w5.heap.size BS _ _ rfl rfl (hown.alloc _) (Gn _ (X.toNat:Int) _ (by have:=X.toNat_lt;omega)) (by simp;omega) (kg hbr.size _) (fun v7 w7 aU ku iI=>?_);have jA:=rU (hbr.alloc hbr.size _) (hown.alloc _) ku (Nat.le_refl _) (kg hbr.size _);clear ku iI))
    rw [ofNat_toNat]at aU
    go_roundw
    case rel=>exact⟨k+1,rfl,by omega,false,o++[X],rfl,aU,HQ.o,by simp;omega,jA⟩
    case measure=>simp [intOf];omega
  ·obtain rfl:k=r.length:=by omega
   rw [List.drop_length]at hq;have hq2:none=ans:=by rw [<-hq];cases back <;> rfl
   subst hq2;clear hq Nq;go_wp2_with fail
   go_ret2
   exact⟨rfl,hfin⟩
open Go.Maps (has IsMap Keyed)
def JE (s:Bt):Int ⊕ (Int ×Bt ×Nat):=
 match mO s with
 |none=>.inl 4
 |some (t,n)=>if 256<t.length then .inl 2 else .inr (4,t,n)
theorem aee (w:World)(bl bp:Nat)(s:Bt)(p:Nat ×Nat)(eD:Value)(hL:fG w bl bp s p eD)(hs:s.length<=100000)(h1:1<=s.length):
  Calls Tryz.prog 179 #[pP bl 0] w fun e w'=>e=.returned (FE (JE s))∧Below w.heap.size w w':=by
 have c0:=hL.c0;have HP:=aO (Rf w s hs h1);cases hq:mO s with
 |none=>
  have hR:JE s=.inl 4:=by unfold JE;rw [hq]
  rw [hR];rw [hq]at HP;clear hR hq;go_enter Tryz.func179,Tryz.ntmps179;go_wp2_with fail;refine HP.o.mono ?_;rintro e w1 ⟨rfl,hb1⟩;unfold yx;go_wp2_with fail;refine bodyPost_ret (dV rfl _ _ _) rfl ?_;exact⟨rfl,hb1⟩
 |some r=>
  obtain⟨t,n⟩:=r;have hle:=vg hq;have hn:¬(n:Int)=0:=by omega
  have hsz:=cO t;have hR:JE s=if 256<t.length then .inl 2 else .inr (4,t,n):=by unfold JE;rw [hq]
  rw [hq]at HP;clear hq hle;by_cases YB:256<t.length
  ·rw [if_pos YB]at hR;rw [hR];clear hR;go_enter Tryz.func179,Tryz.ntmps179;go_wp2_with fail;refine HP.o.mono ?_;rintro e w1 ⟨rfl,hb1⟩;unfold yx;go_wp2_with fail;refine bodyPost_ret (dV rfl _ _ _) rfl ?_;exact⟨rfl,hb1⟩
  ·rw [if_neg YB]at hR;rw [hR];clear hR;go_enter Tryz.func179,Tryz.ntmps179;go_wp2_with fail;refine HP.o.mono ?_;rintro e w1 ⟨rfl,hb1⟩;unfold yx;go_wp2_with fail;refine bodyPost_ret (dV rfl _ _ _) rfl ?_;exact⟨rfl,hb1⟩
def yA (a b:UInt8):Value:= .agg #[.int .u8 (a.toNat:Int),.int .u8 (b.toNat:Int)]
theorem BU:Keyed Tryz.prog 220:=Keyed.of_law (deep_law_laid (m:=2) (by kernel_rfl) (by omega) (of_decide_eq_true (by kernel_rfl)) (by kernel_rfl) (by kernel_rfl))
theorem VU (w:World):(zeroValue 4).run Tryz.prog w=.ok (.bool false) w:=by kernel_rfl
theorem wf_u8 (a:UInt8):(Lit.int .u8 (a.toNat:Int)).wf=true:=by
 have e1:IntKind.u8.min=0:=by decide
 have e2:IntKind.u8.max=255:=by decide
 have:=a.toNat_lt;simp [Lit.wf,e1,e2];omega
theorem Tk (d:Nat)(a:UInt8):Tryz.prog.keyLits (d+1) 5 [.int .u8 (a.toNat:Int)]=some [.int .u8 (a.toNat:Int)]:=by
 simp [Program.keyLits,Tryz.underlying5,wf_u8]
theorem Ns (a b:UInt8):∃kl,keyOf Tryz.prog 220 (yA a b)=some kl:=by
 obtain⟨d,hd⟩:∃d,Tryz.prog.types.size=d+1:=⟨Tryz.prog.types.size - 1,by kernel_rfl⟩
 have h2:Tryz.prog.cellsOf 220=2:=by kernel_rfl
 have h3:Tryz.prog.cellsOf 5=1:=by kernel_rfl
 have hk:Tryz.prog.keyType 220=true:=by kernel_rfl
 have hf:(yA a b).formed Tryz.prog 220=true:=by simp [Value.formed,Tryz.underlying220,h2,yA]
 refine⟨.string (keyBytes [.int .u8 (a.toNat:Int),.int .u8 (b.toNat:Int)]),?_⟩;have e:Tryz.prog.keyLits (d+1+1) 220 [.int .u8 (a.toNat:Int),.int .u8 (b.toNat:Int)]=some [.int .u8 (a.toNat:Int),.int .u8 (b.toNat:Int)]:=by
  rw [Program.keyLits.eq_def];simp only [Tryz.underlying220];simp [h2,h3,List.range_succ,Tk d a,Tk d b]
 simp only [keyOf,Tryz.underlying220,hk,hf,Bool.and_self,if_true,hd];have e2:(yA a b).cells.toList=[.int .u8 (a.toNat:Int),.int .u8 (b.toNat:Int)]:=rfl;rw [e2,e];rfl
def F4 (D:DataW Unit)(l:List Bt):Prop:=∀(a b:UInt8) (kl:Lit),keyOf Tryz.prog 220 (yA a b)=some kl->∀z,D.atKey kl z=if [a,b]∈l then .lit (.bool true)else z
def mF (w:World)(bp:Nat)(l:List Bt):Prop:=∃(n:Nat) (D:DataW Unit),n<=l.length∧w.ownsMap Tryz.prog 220 (plainElem Tryz.prog 4) bp n D∧F4 D l
theorem mF.turn {w w':World}{bp:Nat}{l:List Bt}{G:Nat->Prop}(h:mF w bp l)(t:Turn G w w')(hd:¬G bp):mF w' bp l:=by
 obtain⟨n,D,h0,h1,h2⟩:=h;exact⟨n,D,h0,Yp h1 t hd,h2⟩
theorem Nt {v:Value}{x:Bool}{ps:List MemPlace}(h:plainElem (H:=Unit) Tryz.prog 4 v=some (.lit (.bool x),ps)):v=.bool x:=by
 unfold plainElem at h;rw [Tryz.underlying4]at h;cases v <;> simp at h;rw [h.1]
theorem Rh {w:World}{bp:Nat}{l:List Bt}(h:mF w bp l)(a b:UInt8):(Instr.lookup 192 (.map (some bp)) (yA a b) false).run Tryz.prog w=.ok (.bool (decide ([a,b]∈l))) w:=by
 obtain⟨n,D,_,hown,hD⟩:=h;obtain⟨kl,hk⟩:=Ns a b;obtain⟨v,ps,hrun,hR⟩:=hown.lookup BU Tryz.underlying192 (VU w) (plainElem_bool Tryz.underlying4 false) hk;rw [hrun];rw [hD a b kl hk]at hR;by_cases hin:[a,b]∈l
 ·rw [if_pos hin]at hR;rw [Nt hR,decide_eq_true hin]
 ·rw [if_neg hin]at hR;rw [Nt hR,decide_eq_false hin]
def EJ (s:Bt):Int ⊕ (Int ×Bt ×Nat):=if s.take 2∈dG then .inr (5,s.take 2,2)else if s.headD 0∈fD then .inr (5,s.take 1,1)else .inl 5
theorem Ky {l:Bt}{c:UInt8}:0<=Lib.indexByte l c↔c∈l:=by
 induction l with
 |nil=>simp [Lib.indexByte]
 |cons b l ih=>
  rw [Lib.indexByte];by_cases h:b=c
  ·subst h;simp
  ·have hb:(b==c)=false:=by rw [beq_eq_false_iff_ne];exact h
   rw [hb];simp only [Bool.false_eq_true,if_false];have hge:=Lib.indexByte_ge l c;by_cases h1:Lib.indexByte l c= -1
   ·have h2:(Lib.indexByte l c== -1)=true:=by rw [beq_iff_eq];exact h1
    rw [if_pos h2];constructor
    ·intro hh;omega
    ·intro hh;rcases List.mem_cons.1 hh with hh |hh
     ·exact absurd hh.symm h
     ·have:=ih.2 hh;omega
   ·have h2:¬(Lib.indexByte l c== -1)=true:=by rw [beq_iff_eq];exact h1
    rw [if_neg h2];constructor
    ·intro hh;exact List.mem_cons_of_mem _ (ih.1 (by omega))
    ·intro hh;rcases List.mem_cons.1 hh with hh |hh
     ·exact absurd hh.symm h
     ·have:=ih.2 hh;omega
theorem BX:(⟨fD.toArray⟩:ByteArray).data.toList=fD:=rfl
theorem YC (w:World)(bl bp:Nat)(c:UInt8)(r:Bt)(p:Nat ×Nat)(eD:Value)(hL:fG w bl bp (c :: r) p eD)(hs:(c :: r).length<=100000)(hP:mF w bp dG):
  Calls Tryz.prog 180 #[pP bl 0] w fun e w'=>e=.returned (FE (EJ (c :: r)))∧Below w.heap.size w w':=by
 have c0:=hL.c0;have c3:=hL.c3;have hsz:=cO (c :: r);cases r with
 |nil=>
  have hnp:(c :: ([]:Bt)).take 2 ∉ dG:=fun h=>by
   have hall:∀m∈dG,m.length=2:=by decide
   have:=hall _ h;simp at this
  have hix:=eU (c :: []) 0;have he1:Value.string (ByteArray.extract ⟨(c :: ([]:Bt)).toArray⟩ 0 1)=sv [c]:=BR _ 1;have hR:EJ (c :: [])=if c∈fD then .inr (5,[c],1)else .inl 5:=by unfold EJ;rw [if_neg hnp];rfl
  obtain⟨ans,wO⟩:∃ans,ans=EJ (c :: []):=⟨_,rfl⟩
  rw [<-wO];rw [<-wO]at hR;clear hnp wO;go_enter Tryz.func180,Tryz.ntmps180;go_wp2_with fail
  go_quiet (fail)
  go_wp2_with fail;refine(Tryz.strings_IndexByte ⟨fD.toArray⟩ _ _).mono ?_;rintro e w1 ⟨rfl,rfl⟩;rw [oJ,BX];have hi:=Ky (l:=fD) (c:=c);generalize Lib.indexByte fD c=ix at*
  by_cases hc:c∈fD
  ·have aef:¬(ix<0):=by have:=hi.2 hc;omega
   rw [if_pos hc]at hR;subst hR;clear hi;go_wp2_with fail
   go_quiet (fail)
   go_wp2_with fail;refine bodyPost_ret (dV rfl _ _ _) rfl ?_;exact⟨rfl,((aP w _).trans (aP _ _ |>.mono (Nat.le_refl _)))⟩
  ·have aef:ix<0:=by
    rcases Int.lt_or_le ix 0 with h |h
    ·exact h
    ·exact absurd (hi.1 h) hc
   rw [if_neg hc]at hR;subst hR;clear hi;go_wp2_with fail;refine bodyPost_ret (dV rfl _ _ _) rfl ?_;exact⟨rfl,aP w _⟩
 |cons d r=>
  have hl1:(1:Int)<(r.length:Int)+1+1:=by omega
  have hl0:(0:Int)<(r.length:Int)+1+1:=by omega
  have hix:=eU (c :: d :: r) 0;have anz:=eU (c :: d :: r) 1;have he1:Value.string (ByteArray.extract ⟨(c :: d :: r).toArray⟩ 0 1)=sv [c]:=BR _ 1;have he2:Value.string (ByteArray.extract ⟨(c :: d :: r).toArray⟩ 0 2)=sv [c,d]:=BR _ 2
  have afV:∀n,(Instr.lookup 192 (.map (some bp)) (.agg #[.int .u8 (c.toNat:Int),.int .u8 (d.toNat:Int)]) false).run Tryz.prog (w.drewN n)=.ok (.bool (decide ([c,d]∈dG))) (w.drewN n):=
   fun n=>Rh (hP.turn (Turn.drewN (fun _=>False) w n) id) c d
  have hR0:EJ (c :: d :: r)=if [c,d]∈dG then .inr (5,[c,d],2)else if c∈fD then .inr (5,[c],1)else .inl 5:=rfl
  by_cases hp:[c,d]∈dG
  ·rw [if_pos hp]at hR0;rw [decide_eq_true hp]at afV;rw [hR0];clear hR0 hp;go_enter Tryz.func180,Tryz.ntmps180;go_wp2_with fail
   go_quiet (fail)
   go_wp2_with fail
   go_quiet (fail)
   go_wp2_with fail;refine bodyPost_ret (dV rfl _ _ _) rfl ?_;exact⟨rfl,(aP w _).trans (aP _ _ |>.mono (Nat.le_refl _))⟩
  ·rw [if_neg hp]at hR0;rw [decide_eq_false hp]at afV;obtain⟨ans,wO⟩:∃ans,ans=EJ (c :: d :: r):=⟨_,rfl⟩
   rw [<-wO];have hR:=wO.trans hR0;clear hR0 hp wO;go_enter Tryz.func180,Tryz.ntmps180;go_wp2_with fail
   go_quiet (fail)
   go_wp2_with fail;refine(Tryz.strings_IndexByte ⟨fD.toArray⟩ _ _).mono ?_;rintro e w1 ⟨rfl,rfl⟩;rw [oJ,BX];have hi:=Ky (l:=fD) (c:=c);generalize Lib.indexByte fD c=ix at*
   by_cases hc:c∈fD
   ·have aef:¬(ix<0):=by have:=hi.2 hc;omega
    rw [if_pos hc]at hR;subst hR;clear hi;go_wp2_with fail
    go_quiet (fail)
    go_wp2_with fail;refine bodyPost_ret (dV rfl _ _ _) rfl ?_;exact⟨rfl,((aP w _).trans (aP _ _ |>.mono (Nat.le_refl _)))⟩
   ·have aef:ix<0:=by
     rcases Int.lt_or_le ix 0 with h |h
     ·exact h
     ·exact absurd (hi.1 h) hc
    rw [if_neg hc]at hR;subst hR;clear hi;go_wp2_with fail;refine bodyPost_ret (dV rfl _ _ _) rfl ?_;exact⟨rfl,aP w _⟩
open Go.Maps (has IsMap Keyed)
theorem YD (c:UInt8)(r:Bt):fq (c :: r)=if fB c then LA (c :: r)else if bX c then F3 (c :: r)else if c.toNat=34 then JE (c :: r)else EJ (c :: r):=rfl
theorem YE (w:World)(bl bp:Nat)(c:UInt8)(r:Bt)(p:Nat ×Nat)(eD:Value)(hL:fG w bl bp (c :: r) p eD)(hs:(c :: r).length<=100000)(hX:oq w)(hP:mF w bp dG):
  Calls Tryz.prog 132 #[pP bl 0] w fun e w'=>e=.returned (FE (fq (c :: r)))∧Below w.heap.size w w':=by
 have c0:=hL.c0;have hsz:=cO (c :: r);have hix:(ByteArray.mk (c :: r).toArray)[0]'(by rw [cO];simp)=c:=eU (c :: r) 0;have hl0:(0:Int)<(r.length:Int)+1:=by omega
 have HN:=aO (VR w bl bp (c :: r) p eD hL hs hX);have HU:=aO (Rc w bl bp (c :: r) p eD hL hs hX);have HS:=aO (aee w bl bp (c :: r) p eD hL hs (by simp));have HG:=aO (YC w bl bp c r p eD hL hs hP);have heq:=YD c r;generalize LA (c :: r)=xn at*
 generalize F3 (c :: r)=xu at*
 generalize JE (c :: r)=xs at*
 generalize EJ (c :: r)=xg at*
 cases h1:fB c
 ·rw [h1,if_neg (by simp)]at heq;cases h2:bX c
  ·rw [h2,if_neg (by simp)]at heq;by_cases h3:c.toNat=34
   ·rw [if_pos h3]at heq;rw [heq];clear heq HN HU HG;have H3:=aO h3;clear h3;go_enter Tryz.func132,Tryz.ntmps132;go_wp2_with fail;refine(jZ c _).mono ?_;rintro e w1 ⟨rfl,rfl⟩;rw [h1];go_wp2_with fail;refine(rP c _).mono ?_;rintro e w1 ⟨rfl,rfl⟩;rw [h2];have h3:=H3.o;go_wp2_with fail;refine HS.o.mono ?_;rintro e w2 ⟨rfl,hb2⟩;clear HS;rcases xs with e |⟨kd,t,n⟩
    all_goals
     simp only [FE];go_wp2_with fail;refine bodyPost_ret (dV rfl _ _ _) rfl ?_;exact⟨rfl,hb2⟩
   ·rw [if_neg h3]at heq;rw [heq];clear heq HN HU HS;go_enter Tryz.func132,Tryz.ntmps132;go_wp2_with fail;refine(jZ c _).mono ?_;rintro e w1 ⟨rfl,rfl⟩;rw [h1];go_wp2_with fail;refine(rP c _).mono ?_;rintro e w1 ⟨rfl,rfl⟩;rw [h2];go_wp2_with fail;refine HG.o.mono ?_;rintro e w2 ⟨rfl,hb2⟩;clear HG;rcases xg with e |⟨kd,t,n⟩
    all_goals
     simp only [FE];go_wp2_with fail;refine bodyPost_ret (dV rfl _ _ _) rfl ?_;exact⟨rfl,hb2⟩
  ·rw [h2,if_pos rfl]at heq;rw [heq];clear heq HN HS HG;go_enter Tryz.func132,Tryz.ntmps132;go_wp2_with fail;refine(jZ c _).mono ?_;rintro e w1 ⟨rfl,rfl⟩;rw [h1];go_wp2_with fail;refine(rP c _).mono ?_;rintro e w1 ⟨rfl,rfl⟩;rw [h2];go_wp2_with fail;refine HU.o.mono ?_;rintro e w2 ⟨rfl,hb2⟩;clear HU;rcases xu with e |⟨kd,t,n⟩
   all_goals
    simp only [FE];go_wp2_with fail;refine bodyPost_ret (dV rfl _ _ _) rfl ?_;exact⟨rfl,hb2⟩
 ·rw [h1,if_pos rfl]at heq;rw [heq];clear heq HU HS HG;go_enter Tryz.func132,Tryz.ntmps132;go_wp2_with fail;refine(jZ c _).mono ?_;rintro e w1 ⟨rfl,rfl⟩;rw [h1];go_wp2_with fail;refine HN.o.mono ?_;rintro e w2 ⟨rfl,hb2⟩;clear HN;rcases xn with e |⟨kd,t,n⟩
  all_goals
   simp only [FE];go_wp2_with fail;refine bodyPost_ret (dV rfl _ _ _) rfl ?_;exact⟨rfl,hb2⟩
end
end Go.Proofs.YtncnnedlgofccaaGreatDoor
