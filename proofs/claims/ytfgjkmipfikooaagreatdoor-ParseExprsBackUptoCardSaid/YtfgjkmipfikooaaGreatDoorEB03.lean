/- GE, GF -/
import Derived.Test.YtfgjkmipfikooaaGreatDoorRows
import Derived.Test.YtfgjkmipfikooaaGreatDoorEB02
set_option linter.unusedSimpArgs false
set_option linter.unusedVariables false
set_option maxRecDepth 100000
set_option maxHeartbeats 2000000
namespace Go.Proofs.YtfgjkmipfikooaaGreatDoor
open Go.RowKit
theorem jM (c:UInt8)(w:World):Calls Tryz.prog 137 #[.int .u8 (c.toNat:Int)] w fun e w'=>e=.returned (.bool (gD c))∧w'=w:=by
 unfold gD;generalize c.toNat=n;go_enter Tryz.func137,Tryz.ntmps137;go_wp2_with fail
 all_goals
  go_ret;refine⟨?_,rfl⟩;congr 2
  try simp
  try omega
  try (rw [Bool.eq_iff_iff];simp only [Bool.or_eq_true,Bool.and_eq_true,decide_eq_true_eq,beq_iff_eq];omega)
theorem oG (c:UInt8)(w:World):Calls Tryz.prog 185 #[.int .u8 (c.toNat:Int)] w fun e w'=>e=.returned (.bool (dD c))∧w'=w:=by
 unfold dD;generalize c.toNat=n;go_enter Tryz.func185,Tryz.ntmps185;go_wp2_with fail
 all_goals
  go_ret;refine⟨?_,rfl⟩;congr 2
  try simp
  try omega
  try (rw [Bool.eq_iff_iff];simp only [Bool.or_eq_true,Bool.and_eq_true,decide_eq_true_eq,beq_iff_eq];omega)
theorem EB (c:UInt8)(w:World):Calls Tryz.prog 188 #[.int .u8 (c.toNat:Int)] w fun e w'=>e=.returned (.bool (cB c))∧w'=w:=by
 unfold cB;generalize c.toNat=n;go_enter Tryz.func188,Tryz.ntmps188;go_wp2_with fail
 all_goals
  go_ret;refine⟨?_,rfl⟩;congr 2
  try simp
  try omega
  try (rw [Bool.eq_iff_iff];simp only [Bool.or_eq_true,Bool.and_eq_true,decide_eq_true_eq,beq_iff_eq];omega)
theorem zQ (c:UInt8)(w:World):Calls Tryz.prog 189 #[.int .u8 (c.toNat:Int)] w fun e w'=>e=.returned (.bool (fC c))∧w'=w:=by
 unfold fC;generalize c.toNat=n;go_enter Tryz.func189,Tryz.ntmps189;go_wp2_with fail
 all_goals
  go_ret;refine⟨?_,rfl⟩;congr 2
  try simp
  try omega
  try (rw [Bool.eq_iff_iff];simp only [Bool.not_eq_true',bne_iff_ne,ne_eq,decide_eq_false_iff_not];omega)
theorem EC (c:UInt8)(w:World):Calls Tryz.prog 139 #[.int .u8 (c.toNat:Int)] w fun e w'=>e=.returned (.bool (bE c))∧w'=w:=by
 have hi:bE c=(gD c || dD c):=rfl;rw [hi];clear hi;cases hl:gD c
 ·go_enter Tryz.func139,Tryz.ntmps139;go_wp2_with fail;refine(jM c _).mono ?_;rintro e w1 ⟨rfl,rfl⟩;rw [hl];go_wp2_with fail;refine(oG c _).mono ?_;rintro e w1 ⟨rfl,rfl⟩;go_wp2_with fail;go_ret;exact⟨rfl,rfl⟩
 ·go_enter Tryz.func139,Tryz.ntmps139;go_wp2_with fail;refine(jM c _).mono ?_;rintro e w1 ⟨rfl,rfl⟩;rw [hl];go_wp2_with fail;go_ret;exact⟨rfl,rfl⟩
theorem aT (s:Bt):(ByteArray.mk s.toArray).size=s.length:=by simp [ByteArray.size]
theorem gL (s:Bt)(k:Nat)(h:k<s.length):(ByteArray.mk s.toArray)[k]'(by rw [aT];exact h)=s[k]:=by simp [ByteArray.getElem_eq_getElem_data]
theorem Nq (s:Bt)(w:World)(hs:s.length<=281474976710656):Calls Tryz.prog 138 #[sv s,.func (.func 188) #[] #[]] w fun e w'=>e=.returned (.int .i64 (dQ cB s:Nat))∧w'=w:=by
 have hsz:=aT s;go_enter Tryz.func138,Tryz.ntmps138;go_wp2_with fail
 go_loop [5,8] (fun v5 v8=>∃k:Nat,v8=.int .i64 k∧k<=s.length∧∀j (hj:j<s.length),j<k->cB s[j]=true) (fun _ v8=>s.length - (intOf v8).toNat)
 case atStart=>exact⟨0,rfl,by omega,fun j hj h=>by omega⟩
 case round=>
  obtain⟨k,rfl,hk,hall⟩:=hrel;by_cases hlt:k<s.length
  ·have hix:=gL s k hlt;have hrow:=fun hn=>Br (p:=cB) hlt (fun j hj=>hall j (by omega) hj) hn;have hnext:cB s[k]=true->∀j (hj:j<s.length),j<k+1->cB s[j]=true:=by
    intro h j hj hjk;rcases Nat.lt_or_ge j k with h1 |h1
    ·exact hall j hj h1
    ·obtain rfl:j=k:=by omega
     exact h
   have fI:=aZ hrow;have Cc:=aZ hnext;clear hall hrow hnext;generalize hX:s[k]=X at*
   cases hq:cB X
   ·have hres:=fI.o hq;go_wp2_with fail;refine(EB X _).mono ?_;rintro e w1 ⟨rfl,rfl⟩;rw [hq];go_wp2_with fail;go_ret;exact⟨by rw [hres];rfl,rfl⟩
   ·have hall:=Cc.o hq;have Ce:=aZ hall;clear hall;go_wp2_with fail;refine(EB X _).mono ?_;rintro e w1 ⟨rfl,rfl⟩;rw [hq];go_wp2_with fail
    go_round
    case rel=>exact⟨k+1,rfl,by omega,Ce.o⟩
    case measure=>simp [intOf];omega
  ·obtain rfl:k=s.length:=by omega
   have hres:=tZ (p:=cB) (s:=s) (fun j hj=>hall j hj hj);clear hall;go_wp2_with fail;go_ret
   first |exact⟨rfl,rfl⟩ |exact⟨by rw [hres];rfl,rfl⟩
theorem ED (s:Bt)(w:World)(hs:s.length<=281474976710656):Calls Tryz.prog 138 #[sv s,.func (.func 139) #[] #[]] w fun e w'=>e=.returned (.int .i64 (dQ bE s:Nat))∧w'=w:=by
 have hsz:=aT s;go_enter Tryz.func138,Tryz.ntmps138;go_wp2_with fail
 go_loop [5,8] (fun v5 v8=>∃k:Nat,v8=.int .i64 k∧k<=s.length∧∀j (hj:j<s.length),j<k->bE s[j]=true) (fun _ v8=>s.length - (intOf v8).toNat)
 case atStart=>exact⟨0,rfl,by omega,fun j hj h=>by omega⟩
 case round=>
  obtain⟨k,rfl,hk,hall⟩:=hrel;by_cases hlt:k<s.length
  ·have hix:=gL s k hlt;have hrow:=fun hn=>Br (p:=bE) hlt (fun j hj=>hall j (by omega) hj) hn;have hnext:bE s[k]=true->∀j (hj:j<s.length),j<k+1->bE s[j]=true:=by
    intro h j hj hjk;rcases Nat.lt_or_ge j k with h1 |h1
    ·exact hall j hj h1
    ·obtain rfl:j=k:=by omega
     exact h
   have fI:=aZ hrow;have Cc:=aZ hnext;clear hall hrow hnext;generalize hX:s[k]=X at*
   cases hq:bE X
   ·have hres:=fI.o hq;go_wp2_with fail;refine(EC X _).mono ?_;rintro e w1 ⟨rfl,rfl⟩;rw [hq];go_wp2_with fail;go_ret;exact⟨by rw [hres];rfl,rfl⟩
   ·have hall:=Cc.o hq;have Ce:=aZ hall;clear hall;go_wp2_with fail;refine(EC X _).mono ?_;rintro e w1 ⟨rfl,rfl⟩;rw [hq];go_wp2_with fail
    go_round
    case rel=>exact⟨k+1,rfl,by omega,Ce.o⟩
    case measure=>simp [intOf];omega
  ·obtain rfl:k=s.length:=by omega
   have hres:=tZ (p:=bE) (s:=s) (fun j hj=>hall j hj hj);clear hall;go_wp2_with fail;go_ret
   first |exact⟨rfl,rfl⟩ |exact⟨by rw [hres];rfl,rfl⟩
theorem Nr (s:Bt)(w:World)(hs:s.length<=281474976710656):Calls Tryz.prog 138 #[sv s,.func (.func 185) #[] #[]] w fun e w'=>e=.returned (.int .i64 (dQ dD s:Nat))∧w'=w:=by
 have hsz:=aT s;go_enter Tryz.func138,Tryz.ntmps138;go_wp2_with fail
 go_loop [5,8] (fun v5 v8=>∃k:Nat,v8=.int .i64 k∧k<=s.length∧∀j (hj:j<s.length),j<k->dD s[j]=true) (fun _ v8=>s.length - (intOf v8).toNat)
 case atStart=>exact⟨0,rfl,by omega,fun j hj h=>by omega⟩
 case round=>
  obtain⟨k,rfl,hk,hall⟩:=hrel;by_cases hlt:k<s.length
  ·have hix:=gL s k hlt;have hrow:=fun hn=>Br (p:=dD) hlt (fun j hj=>hall j (by omega) hj) hn;have hnext:dD s[k]=true->∀j (hj:j<s.length),j<k+1->dD s[j]=true:=by
    intro h j hj hjk;rcases Nat.lt_or_ge j k with h1 |h1
    ·exact hall j hj h1
    ·obtain rfl:j=k:=by omega
     exact h
   have fI:=aZ hrow;have Cc:=aZ hnext;clear hall hrow hnext;generalize hX:s[k]=X at*
   cases hq:dD X
   ·have hres:=fI.o hq;go_wp2_with fail;refine(oG X _).mono ?_;rintro e w1 ⟨rfl,rfl⟩;rw [hq];go_wp2_with fail;go_ret;exact⟨by rw [hres];rfl,rfl⟩
   ·have hall:=Cc.o hq;have Ce:=aZ hall;clear hall;go_wp2_with fail;refine(oG X _).mono ?_;rintro e w1 ⟨rfl,rfl⟩;rw [hq];go_wp2_with fail
    go_round
    case rel=>exact⟨k+1,rfl,by omega,Ce.o⟩
    case measure=>simp [intOf];omega
  ·obtain rfl:k=s.length:=by omega
   have hres:=tZ (p:=dD) (s:=s) (fun j hj=>hall j hj hj);clear hall;go_wp2_with fail;go_ret
   first |exact⟨rfl,rfl⟩ |exact⟨by rw [hres];rfl,rfl⟩
theorem GR (s:Bt)(w:World)(hs:s.length<=281474976710656):Calls Tryz.prog 138 #[sv s,.func (.func 189) #[] #[]] w fun e w'=>e=.returned (.int .i64 (dQ fC s:Nat))∧w'=w:=by
 have hsz:=aT s;go_enter Tryz.func138,Tryz.ntmps138;go_wp2_with fail
 go_loop [5,8] (fun v5 v8=>∃k:Nat,v8=.int .i64 k∧k<=s.length∧∀j (hj:j<s.length),j<k->fC s[j]=true) (fun _ v8=>s.length - (intOf v8).toNat)
 case atStart=>exact⟨0,rfl,by omega,fun j hj h=>by omega⟩
 case round=>
  obtain⟨k,rfl,hk,hall⟩:=hrel;by_cases hlt:k<s.length
  ·have hix:=gL s k hlt;have hrow:=fun hn=>Br (p:=fC) hlt (fun j hj=>hall j (by omega) hj) hn;have hnext:fC s[k]=true->∀j (hj:j<s.length),j<k+1->fC s[j]=true:=by
    intro h j hj hjk;rcases Nat.lt_or_ge j k with h1 |h1
    ·exact hall j hj h1
    ·obtain rfl:j=k:=by omega
     exact h
   have fI:=aZ hrow;have Cc:=aZ hnext;clear hall hrow hnext;generalize hX:s[k]=X at*
   cases hq:fC X
   ·have hres:=fI.o hq;go_wp2_with fail;refine(zQ X _).mono ?_;rintro e w1 ⟨rfl,rfl⟩;rw [hq];go_wp2_with fail;go_ret;exact⟨by rw [hres];rfl,rfl⟩
   ·have hall:=Cc.o hq;have Ce:=aZ hall;clear hall;go_wp2_with fail;refine(zQ X _).mono ?_;rintro e w1 ⟨rfl,rfl⟩;rw [hq];go_wp2_with fail
    go_round
    case rel=>exact⟨k+1,rfl,by omega,Ce.o⟩
    case measure=>simp [intOf];omega
  ·obtain rfl:k=s.length:=by omega
   have hres:=tZ (p:=fC) (s:=s) (fun j hj=>hall j hj hj);clear hall;go_wp2_with fail;go_ret
   first |exact⟨rfl,rfl⟩ |exact⟨by rw [hres];rfl,rfl⟩
theorem oQ:ku Tryz.prog 25 9 (sv []) 1 16:=⟨Tryz.underlying25,by kernel_rfl,rfl,by decide⟩
def mY (w:World):Prop:=qy w∧Lib.TabIs Tryz.prog w "strings.asciiSpace" .u8 Lib.asciiSpaceTab
def kX (w:World):Prop:=Lib.TabIs Tryz.prog w "internal/strconv.uint64pow10" .u64 Lib.pow10Tab∧Lib.TabIs Tryz.prog w "strings.asciiSpace" .u8 Lib.asciiSpaceTab
theorem kX.below {w w':World}(h:kX w)(hb:Below w.heap.size w w'):kX w':=⟨oF h.1 hb,oF h.2 hb⟩
theorem mY.t {w:World}(h:mY w):kX w:=⟨h.1.tab,h.2⟩
theorem mY.below {w w':World}(h:mY w)(hb:Below w.heap.size w w'):mY w':=⟨h.1.below hb,oF h.2 hb⟩
def Cg:Bt:=[97,110,100,32,97,110,121,32,97,115,32,98,111,111,108,32,101,108,115,101,32,101,120,112,111,114,116,32,102,97,108,115,101,32,102,110,32,102,117,110,99,116,105,111,110,32,105,102,32,105,109,112,111,114,116,32,105,110,32,105,110,116,32,105,115,32,108,101,116,32,110,111,116,32,110,117,108,108,32,111,114,32,112,114,105,110,116,32,114,101,97,100,32,114,101,99,111,114,100,32,115,116,114,32,116,104,101,110,32,116,114,117,101,32,119,105,116,104]
theorem FB:Lib.fields Cg=fQ:=by kernel_rfl
theorem GU:(Cg.all fun b=>decide (b.toNat<128))=true:=by kernel_rfl
theorem Ch:(⟨Cg.toArray⟩:ByteArray).data.toList=Cg:=rfl
theorem yT (w:World)(hL:kX w):Calls Tryz.prog 141 #[] w fun e w'=>∃v,e=.returned v∧Ss w' w'.heap.size v fQ∧Below w.heap.size w w':=by
 go_enter Tryz.func141,Tryz.ntmps141;go_wp2_with fail;refine(Tryz.strings_Fields ⟨Cg.toArray⟩ _ ?h1 ?h2 hL.2).mono ?_
 case h1=>decide
 case h2=>
  intro j b hb;rw [Ch]at hb;exact of_decide_eq_true (List.all_eq_true.1 GU b (List.mem_of_getElem? hb))
 rintro e w1 ⟨rfl,rfl⟩;rw [Ch,FB];have hss:Ss (w.alloc (.cells (fQ.map fun l=>Value.string ⟨l.toArray⟩).toArray 9)) (w.alloc (.cells (fQ.map fun l=>Value.string ⟨l.toArray⟩).toArray 9)).heap.size (.slice (some ⟨w.heap.size,0,none⟩) fQ.length fQ.length) fQ:=by
  have:=iB w (fQ.map fun l=>Value.string ⟨l.toArray⟩).toArray 9 1 fQ.length (by simp) (by decide);rw [World.size_alloc];simpa [Ss,mW]using this
 have hb:Below w.heap.size w (w.alloc (.cells (fQ.map fun l=>Value.string ⟨l.toArray⟩).toArray 9)):=(Below.refl _ _).alloc (Nat.le_refl _) _;generalize(w.alloc (.cells (fQ.map fun l=>Value.string ⟨l.toArray⟩).toArray 9))=w2 at*
 generalize fQ.length=n at*
 go_wp2_with fail;go_ret;exact⟨_,rfl,hss,hb⟩
theorem Ns (v:Value)(l:List Bt)(x:Bt)(w:World)(hv:Ss w w.heap.size v l):
  Calls Tryz.prog 186 #[v,sv x] w fun e w'=>(∃k:Int,e=.returned (.int .i64 k)∧(0<=k↔x∈l))∧w'=w:=by
 obtain⟨A,c,rfl,hn,hc,hx⟩:=hv.open_;unfold maxLen at hc;go_enter Tryz.func186,Tryz.ntmps186;go_wp2_with fail
 go_loop [5,8] (fun v5 v8=>∃k:Nat,v8=.int .i64 k∧k<=l.length∧x ∉ l.take k) (fun _ v8=>l.length - (intOf v8).toNat)
 case atStart=>exact⟨0,rfl,by omega,by simp⟩
 case round=>
  obtain⟨k,rfl,hk,hnot⟩:=hrel;by_cases hlt:k<l.length
  ·obtain⟨b,o,rfl,hb,hcell⟩:=hx (by omega);have d1:=hcell k hlt;have e1:x=l[k]->x∈l:=fun h=>by rw [h];exact List.getElem_mem hlt
   have e2:¬x=l[k]->x ∉ l.take (k+1):=fun h hh=>by
    rw [List.take_succ_eq_append_getElem hlt,List.mem_append]at hh;rcases hh with hh |hh
    ·exact hnot hh
    ·simp at hh;exact h hh
   clear hcell hx hv hnot;generalize l[k]=X at*
   by_cases hX:x=X
   ·have e3:=e1 hX;have hq:(x==X)=true:=by rw [beq_iff_eq];exact hX
    clear hX e1 e2;go_wp2_with fail;go_ret;exact⟨⟨k,rfl,by simp [e3]⟩,rfl⟩
   ·have e3:=e2 hX;have hq:(x==X)=false:=by rw [beq_eq_false_iff_ne];exact hX
    clear hX e1 e2;go_wp2_with fail
    go_round
    case rel=>exact⟨k+1,rfl,by omega,e3⟩
    case measure=>simp [intOf];omega
  ·obtain rfl:k=l.length:=by omega
   rw [List.take_length]at hnot;go_wp2_with fail;go_ret;exact⟨⟨-1,rfl,by simp [hnot]⟩,rfl⟩
theorem nZ (v:Value)(l:List Bt)(x:Bt)(w:World)(hv:Ss w w.heap.size v l):
  Calls Tryz.prog 140 #[v,sv x] w fun e w'=>e=.returned (.bool (decide (x∈l)))∧w'=w:=by
 go_enter Tryz.func140,Tryz.ntmps140;go_wp2_with fail;refine(Ns v l x _ hv).mono ?_;rintro e w1 ⟨⟨k,rfl,hk⟩,rfl⟩;by_cases h:x∈l
 ·have h0:=hk.2 h;clear hk;go_wp2_with fail;go_ret;exact⟨by simp [h],rfl⟩
 ·have h0:¬(0<=k):=fun hh=>h (hk.1 hh);clear hk;go_wp2_with fail;go_ret;exact⟨by first |(simp [h];done) |(simp [h];exact h0) |(simp [h];omega),rfl⟩
def eU (w:World)(bl bp:Nat)(s:Bt)(p:Nat ×Nat)(dS:Value):Prop:=
 w.heap[bl]? =some (.cells #[sv s,.int .i64 p.1,.int .i64 p.2,.map (some bp),dS] 199 (0,0))
section
variable {w w':World}{bl bp:Nat}{s:Bt}{p:Nat ×Nat}{dS:Value}
theorem eU.c0 (h:eU w bl bp s p dS):w.cell? ⟨bl,0,none⟩=some (sv s):=(cell_of_row _ _ _ _ _ (0,0) h).trans rfl
theorem eU.c1 (h:eU w bl bp s p dS):w.cell? ⟨bl,1,none⟩=some (.int .i64 p.1):=(cell_of_row _ _ _ _ _ (0,0) h).trans rfl
theorem eU.c2 (h:eU w bl bp s p dS):w.cell? ⟨bl,2,none⟩=some (.int .i64 p.2):=(cell_of_row _ _ _ _ _ (0,0) h).trans rfl
theorem eU.c3 (h:eU w bl bp s p dS):w.cell? ⟨bl,3,none⟩=some (.map (some bp)):=(cell_of_row _ _ _ _ _ (0,0) h).trans rfl
theorem eU.c4 (h:eU w bl bp s p dS):w.cell? ⟨bl,4,none⟩=some dS:=(cell_of_row _ _ _ _ _ (0,0) h).trans rfl
theorem eU.free (h:eU w bl bp s p dS)(i:Nat):w.frozen? ⟨bl,i,none⟩=false:=by simp [World.frozen?,show w.heap[bl]? = _ from h]
theorem eU.lt (h:eU w bl bp s p dS):bl<w.heap.size:=block_lt h
theorem eU.turn {G:Nat->Prop}(h:eU w bl bp s p dS)(t:Turn G w w')(hd:¬G bl):eU w' bl bp s p dS:=ah h t hd
end
theorem GV {w wr:World}{F:Nat->Prop}{b off:Nat}(t:Turn F w wr)(hb:b<w.heap.size)(hF:¬F b){u:Value}(h:w.cell? ⟨b,off,none⟩=some u):wr.cell? ⟨b,off,none⟩=some u:=by
 rw [<-h];simp only [World.cell?,t.block hb hF]
theorem TF (p:Nat ×Nat)(s:Bt):(gF p s).1<=p.1+s.length∧(gF p s).2<=p.2+s.length+1:=by
 induction s generalizing p with
 |nil=>exact⟨Nat.le_refl _,by simp [gF]⟩
 |cons c s ih=>
  have h:gF p (c :: s)=gF (tL p c) s:=rfl;rw [h];obtain⟨a,b⟩:=ih (tL p c);have h1:(tL p c).1<=p.1+1∧(tL p c).2<=p.2+1∨(tL p c).2<=1∧(tL p c).1<=p.1+1:=by
   unfold tL;split
   ·exact .inr ⟨Nat.le_refl _,Nat.le_refl _⟩
   ·exact .inl ⟨Nat.le_succ _,Nat.le_refl _⟩
  simp only [List.length_cons];omega
theorem su (s:Bt)(a b:Nat):(ByteArray.extract ⟨s.toArray⟩ a b).data.toList=(s.take b).drop a:=by
 rw [ByteArray.data_extract];simp [List.extract_eq_take_drop,List.drop_take]
theorem sw (s:Bt)(a b:Nat):Value.string (ByteArray.extract ⟨s.toArray⟩ a b)=sv ((s.take b).drop a):=by
 rw [<-su]
theorem Nt {P:Program}(w:World)(src dst e:TypeId)(hs:P.underlying src=some .string)(hd:P.underlying dst=some (.slice e))(he:P.underlying e=some (.int .u8))(s:Bt)(n:Nat)(hn:n<=s.length):
  ∃C w5,(convert src dst (.string (ByteArray.extract ⟨s.toArray⟩ 0 n))).run P w=.ok (.slice (some ⟨w.heap.size,0,none⟩) n C) w5∧Turn (fun _=>False) w w5∧w.heap.size<w5.heap.size∧
   ∀j (hj:j<n),w5.cell? ⟨w.heap.size,j,none⟩=some (.int .u8 ((s[j]'(by omega)).toNat:Int)):=by
 have hsz:(ByteArray.extract ⟨s.toArray⟩ 0 n).size=n:=by
  have h:(ByteArray.extract ⟨s.toArray⟩ 0 n).data.toList.length=(ByteArray.extract ⟨s.toArray⟩ 0 n).size:=Array.length_toList;rw [<-h,su];simp;omega
 have hrun:=Lib.run_convert_string_bytes (P:=P) w src dst e (ByteArray.extract ⟨s.toArray⟩ 0 n) hs hd he;have hcell:=Lib.bytesWorld_cell w e (ByteArray.extract ⟨s.toArray⟩ 0 n);have hsize:=Lib.bytesWorld_size w e (ByteArray.extract ⟨s.toArray⟩ 0 n);have hold:=Lib.bytesWorld_at_old w e (ByteArray.extract ⟨s.toArray⟩ 0 n);rw [hsz]at hrun hcell;refine⟨_,_,hrun,⟨rfl,rfl,rfl,by rw [hsize];omega,fun k hk _=>hold k hk⟩,by rw [hsize];omega,fun j hj=>?_⟩;rw [hcell j hj,su];simp [List.getD_eq_getElem?_getD,List.getElem?_take,hj,List.getElem?_eq_getElem (show j<s.length by omega)]
theorem eU.set1 {w:World}{bl bp:Nat}{s:Bt}{p:Nat ×Nat}{dS:Value}(h:eU w bl bp s p dS)(n:Nat):eU (w.setCell ⟨bl,1,none⟩ (.int .i64 n)) bl bp s (n,p.2) dS:=heap_setCell_same w bl 1 _ _ _ h
theorem eU.set2 {w:World}{bl bp:Nat}{s:Bt}{p:Nat ×Nat}{dS:Value}(h:eU w bl bp s p dS)(n:Nat):eU (w.setCell ⟨bl,2,none⟩ (.int .i64 n)) bl bp s (p.1,n) dS:=heap_setCell_same w bl 2 _ _ _ h
theorem eU.set0 {w:World}{bl bp:Nat}{s:Bt}{p:Nat ×Nat}{dS:Value}(h:eU w bl bp s p dS)(s':Bt):eU (w.setCell ⟨bl,0,none⟩ (sv s')) bl bp s' p dS:=heap_setCell_same w bl 0 _ _ _ h
theorem eU.GX {w:World}{bl bp:Nat}{s:Bt}{p:Nat ×Nat}{dS:Value}(h:eU w bl bp s p dS)(v:Value):eU (w.setCell ⟨bl,4,none⟩ v) bl bp s p v:=heap_setCell_same w bl 4 _ _ _ h
theorem um (w:World)(bl bp:Nat)(s:Bt)(p:Nat ×Nat)(dS:Value)(n:Nat)(hL:eU w bl bp s p dS)(hn:n<=s.length)(hs:s.length<=100000)(hp:p.1<=1000000∧p.2<=1000000):
  Calls Tryz.prog 148 #[.pointer (some ⟨bl,0,none⟩),.int .i64 n] w fun e w'=>
   e=.returned (.tuple #[])∧eU w' bl bp (s.drop n) (gF p (s.take n)) dS∧Turn (fun k=>k=bl) w w':=by
 have hsz:=aT s;have c0:=hL.c0;obtain⟨C,w5,GY,ht5,Wh,hcells⟩:=Nt (P:=Tryz.prog) w 9 112 5 Tryz.underlying9 Tryz.underlying112 Tryz.underlying5 s n hn;have hL5:=hL.turn ht5 id;have hbl:=hL.lt;have HC:=aZ hcells;clear hcells;go_enter Tryz.func148,Tryz.ntmps148;go_wp2_with fail;go_loopw [14] (fun v14 wr=>∃k:Nat,v14=.int .i64 k∧k<=n∧eU wr bl bp s (gF p (s.take k)) dS∧Turn (fun k=>k=bl) w5 wr) (fun v14 _=>n - (intOf v14).toNat)
 case atStart=>exact⟨0,rfl,by omega,hL5,Turn.refl _ _⟩
 case round=>
  obtain⟨k,rfl,hk,Gs,htr⟩:=hrel;have hq:=TF p (s.take k);have hkl:(s.take k).length<=k:=by simp;omega
  by_cases hlt:k<n
  ·have hnext:=Na (p:=p) (show k<s.length by omega);have d1:=GV htr Wh (by omega) (HC.o k hlt);generalize gF p (s.take k)=q at*
   generalize s[k]=X at*
   have c1:=Gs.c1;have c2:=Gs.c2;have f1:=Gs.free 1;have f2:=Gs.free 2;have hb:q.1<2000000∧q.2<2000000:=by omega
   have GZ:=aZ hnext;clear hnext hq hL hL5 c0 GY;by_cases hX:X.toNat=10
   ·have hl1:=((Gs.set2 (q.2+1)).set1 (q.1+1)).set2 1;have ht1:=((htr.trans (ak _ bl 2 (.int .i64 ((q.2+1:Nat):Int))) (fun _ _ h=>h)).trans (ak _ bl 1 (.int .i64 ((q.1+1:Nat):Int))) (fun _ _ h=>h)).trans (ak _ bl 2 (.int .i64 ((1:Nat):Int))) (fun _ _ h=>h);have e1:tL q X=(q.1+1,1):=by unfold tL;rw [if_pos hX]
    have Wi:=aZ hl1;have HT1:=aZ ht1;have HE:=aZ e1;clear Gs htr hl1 ht1 e1;go_wp2_with fail
    go_roundw
    case rel=>exact⟨k+1,rfl,by omega,by rw [GZ.o,HE.o];exact Wi.o,HT1.o⟩
    case measure=>simp [intOf];omega
   ·have hl1:=Gs.set2 (q.2+1);have ht1:=htr.trans (ak _ bl 2 (.int .i64 ((q.2+1:Nat):Int))) (fun _ _ h=>h);have e1:tL q X=(q.1,q.2+1):=by unfold tL;rw [if_neg hX]
    have Wi:=aZ hl1;have HT1:=aZ ht1;have HE:=aZ e1;clear Gs htr hl1 ht1 e1;go_wp2_with fail
    go_roundw
    case rel=>exact⟨k+1,rfl,by omega,by rw [GZ.o,HE.o];exact Wi.o,HT1.o⟩
    case measure=>simp [intOf];omega
  ·obtain rfl:k=n:=by omega
   have c0r:=Gs.c0;have f0:=Gs.free 0;have hl1:=Gs.set0 (s.drop k);have ht1:=((ht5.mono (G:=fun k=>k=bl) (fun _ _ h=>h.elim)).trans htr (fun _ _ h=>h)).trans (ak _ bl 0 (sv (s.drop k))) (fun _ _ h=>h);have he:Value.string (ByteArray.extract ⟨s.toArray⟩ k s.length)=sv (s.drop k):=by rw [sw,List.take_length]
   have Wi:=aZ hl1;have HT1:=aZ ht1;clear hL hL5 Gs htr ht5 hl1 ht1 hq c0 GY;go_wp2_with fail;go_end0;exact⟨rfl,Wi.o,HT1.o⟩
theorem Ci (s:Bt):gU s<=s.length:=by
 unfold gU;have h1:=kI cB s;split
 ·have h2:=kI fC (s.drop (dQ cB s));rw [List.length_drop]at h2;omega
 ·omega
theorem J9 (s:Bt)(p:Nat ×Nat):s.drop (bB s)=(s.drop (gU s)).drop (bB (s.drop (gU s)))∧gF p (s.take (bB s))=gF (gF p (s.take (gU s))) ((s.drop (gU s)).take (bB (s.drop (gU s)))):=by
 have h:=Pm s;generalize bB (s.drop (gU s))=m at*
 rw [h];refine⟨by rw [List.drop_drop],?_⟩;rw [List.take_add,uf]
def textOf (w:World)(bl:Nat):Nat:=match w.cell? ⟨bl,0,none⟩with |some (.string b)=>b.size |_=>0
theorem qW {w:World}{bl bp:Nat}{s:Bt}{p:Nat ×Nat}{dS:Value}(h:eU w bl bp s p dS):textOf w bl=s.length:=by
 unfold textOf;rw [h.c0];exact aT s
def xG (w:World)(bl bp:Nat)(s:Bt)(p:Nat ×Nat)(dS:Value)(wr:World):Prop:=
 ∃(c:Bt) (q:Nat ×Nat),eU wr bl bp c q dS∧Turn (fun k=>k=bl) w wr∧c.length<=s.length∧s.drop (bB s)=c.drop (bB c)∧gF p (s.take (bB s))=gF q (c.take (bB c))∧
  q.1+c.length<=p.1+s.length∧q.2+c.length<=p.2+s.length∧1<=q.2
theorem qX {p:Nat ×Nat}(s:Bt)(h:1<=p.2):(gF p s).1<=p.1+s.length∧(gF p s).2<=p.2+s.length∧1<=(gF p s).2:=by
 induction s generalizing p with
 |nil=>exact⟨Nat.le_refl _,Nat.le_refl _,h⟩
 |cons c s ih=>
  have h0:gF p (c :: s)=gF (tL p c) s:=rfl;rw [h0];have h1:(tL p c).1<=p.1+1∧(tL p c).2<=p.2+1∧1<=(tL p c).2:=by
   unfold tL;split
   ·exact⟨Nat.le_refl _,by show 1<= _;omega,Nat.le_refl _⟩
   ·exact⟨Nat.le_succ _,Nat.le_refl _,by show 1<= _+1;omega⟩
  obtain⟨a,b,d⟩:=ih h1.2.2;simp only [List.length_cons];omega
theorem xG.step {w wr w2:World}{bl bp:Nat}{s c:Bt}{p q:Nat ×Nat}{dS:Value}(htr:Turn (fun k=>k=bl) w wr)(hcl:c.length<=s.length)(hd:s.drop (bB s)=c.drop (bB c))(ha:gF p (s.take (bB s))=gF q (c.take (bB c)))
  (hq1:q.1+c.length<=p.1+s.length) (hq2:q.2+c.length<=p.2+s.length) (hq3:1<=q.2) (h:eU w2 bl bp (c.drop (gU c)) (gF q (c.take (gU c))) dS) (ht:Turn (fun k=>k=bl) wr w2) (h0:0<gU c):
  xG w bl bp s p dS w2∧textOf w2 bl<c.length:=by
 obtain⟨e1,e2⟩:=J9 c q;have hone:=Ci c;have hl:=qX (c.take (gU c)) hq3;rw [List.length_take,Nat.min_eq_left hone]at hl;refine⟨⟨_,_,h,htr.trans ht (fun _ _ h=>h),?_,hd.trans e1,ha.trans e2,?_,?_,hl.2.2⟩,?_⟩
 ·rw [List.length_drop];omega
 ·rw [List.length_drop];omega
 ·rw [List.length_drop];omega
 ·rw [qW h,List.length_drop];omega
theorem wz (w:World)(bl bp:Nat)(s:Bt)(p:Nat ×Nat)(dS:Value)(hL:eU w bl bp s p dS)(hs:s.length<=100000)(hp:p.1<=700000∧p.2<=700000)(hp1:1<=p.2):
  Calls Tryz.prog 146 #[.pointer (some ⟨bl,0,none⟩)] w fun e w'=>
   e=.returned (.tuple #[])∧eU w' bl bp (s.drop (bB s)) (gF p (s.take (bB s))) dS∧Turn (fun k=>k=bl) w w':=by
 go_enter Tryz.func146,Tryz.ntmps146;go_wp2_with fail;go_loopw [2] (fun _ wr=>xG w bl bp s p dS wr) (fun _ wr=>textOf wr bl)
 case atStart=>exact⟨s,p,hL,Turn.refl _ _,Nat.le_refl _,rfl,rfl,Nat.le_refl _,Nat.le_refl _,hp1⟩
 case round=>
  obtain⟨c,q,Gs,htr,hcl,hd,ha,hq1,hq2,hq3⟩:=hrel;have hlen:=qW Gs;have c0:=Gs.c0;have hsz:=aT c;have hrow:=kI cB c;have Pz:=aZ (fun w2 h ht h0=>xG.step (w2:=w2) (bp:=bp) (dS:=dS) htr hcl hd ha hq1 hq2 hq3 h ht h0);have hz:gU c=0->eU wr bl bp (s.drop (bB s)) (gF p (s.take (bB s))) dS:=by
   intro h;rw [hd,ha,M9 h];exact Gs
  have HZ:=aZ hz;have HL:=aZ Gs;have HLEN:=aZ hlen;have HT:=aZ htr;have he:Value.string (ByteArray.extract ⟨c.toArray⟩ (dQ cB c) c.length)=sv (c.drop (dQ cB c)):=by rw [sw,List.take_length]
  have hone:gU c=dQ cB c+(if((c.drop (dQ cB c)).head?).map UInt8.toNat=some 35 then dQ fC (c.drop (dQ cB c))else 0):=rfl;have hle:=Ci c;have hdl:(c.drop (dQ cB c)).length=c.length - dQ cB c:=List.length_drop;clear hd ha hz Gs htr hlen;go_wp2_with fail;refine(Nq c _ (by omega)).mono ?_;rintro e w1 ⟨rfl,rfl⟩;generalize hn:dQ cB c=n at*
  generalize hr:c.drop n=r at*
  have HDL:=aZ hdl;clear hdl;cases r with
  |nil=>
   simp only [List.head?_nil,Option.map_none,reduceCtorEq,if_false,Nat.add_zero]at hone;by_cases h0:n=0
   ·have hfin:=HZ.o (by omega);have Wj:=aZ hfin;clear hfin;subst h0;go_wp2_with fail
    (try simp only [Exit.inBlock,Exit.then]);refine bodyPost_ret (results_none rfl _ _ _) rfl ?_
    exact⟨rfl,Wj.o,HT.o⟩
   ·have h0':¬((n:Nat):Int)=0:=by omega
    go_wp2_with fail;refine(um w1 bl bp c q dS n HL.o (by omega) (by omega) (by omega)).mono ?_;rintro e w2 ⟨rfl,hl2,ht2⟩;obtain⟨zR,hm2⟩:=Pz.o w2 (by rw [hone];exact hl2) ht2 (by omega);have G7:=aZ zR;have PE:=aZ hm2;clear zR hm2 hl2 ht2;go_wp2_with fail
    go_roundw
    case rel=>exact G7.o
    case measure=>have:=HLEN.o;have:=PE.o;omega
  |cons d tl=>
   simp only [List.head?_cons,Option.map_some,Option.some.injEq]at hone;have hix:(ByteArray.mk (d :: tl).toArray)[0]'(by rw [aT];simp)=d:=gL (d :: tl) 0 (by simp);have hsz2:=aT (d :: tl);by_cases hd:d.toNat=35
   ·rw [if_pos hd]at hone;have hn2:=kI fC (d :: tl);have afv:dQ fC (d :: tl)+n<=c.length:=by have:=HDL.o;omega
    have hn3:1<=dQ fC (d :: tl):=ug (by unfold fC;simp [hd]);go_wp2_with fail;refine(GR (d :: tl) _ (by have:=HDL.o;omega)).mono ?_;rintro e w1 ⟨rfl,rfl⟩;generalize dQ fC (d :: tl)=n2 at*
    have h0':¬((n:Int)+(n2:Int))=0:=by omega
    have e12:(n:Int)+(n2:Int)=((n+n2:Nat):Int):=by omega
    have E12:=aZ e12;clear e12;go_wp2_with fail;have e12:=E12.o
    try rw [e12]
    refine(um w1 bl bp c q dS (n+n2) HL.o (by omega) (by omega) (by omega)).mono ?_;rintro e w2 ⟨rfl,hl2,ht2⟩;obtain⟨zR,hm2⟩:=Pz.o w2 (by rw [hone];exact hl2) ht2 (by omega);have G7:=aZ zR;have PE:=aZ hm2;clear zR hm2 hl2 ht2 e12;go_wp2_with fail
    go_roundw
    case rel=>exact G7.o
    case measure=>have:=HLEN.o;have:=PE.o;omega
   ·rw [if_neg hd,Nat.add_zero]at hone;by_cases h0:n=0
    ·have hfin:=HZ.o (by omega);have Wj:=aZ hfin;clear hfin;subst h0;go_wp2_with fail
     (try simp only [Exit.inBlock,Exit.then]);refine bodyPost_ret (results_none rfl _ _ _) rfl ?_
     exact⟨rfl,Wj.o,HT.o⟩
    ·have h0':¬((n:Nat):Int)=0:=by omega
     go_wp2_with fail;refine(um w1 bl bp c q dS n HL.o (by omega) (by omega) (by omega)).mono ?_;rintro e w2 ⟨rfl,hl2,ht2⟩;obtain⟨zR,hm2⟩:=Pz.o w2 (by rw [hone];exact hl2) ht2 (by omega);have G7:=aZ zR;have PE:=aZ hm2;clear zR hm2 hl2 ht2;go_wp2_with fail
     go_roundw
     case rel=>exact G7.o
     case measure=>have:=HLEN.o;have:=PE.o;omega
section
theorem dI {fn:Func}{t u v x:Tmp}(h:fn.results= #[.tmp t,.tmp u,.tmp v,.tmp x])(tmps:Array Value)(P:Program)(w:World):
  (results fn tmps).run P w=.ok (.tuple #[tmps.getD t undef,tmps.getD u undef,tmps.getD v undef,tmps.getD x undef]) w:=by
 simp [results,h]
def AX:Int ⊕ (Int ×Bt ×Nat)->Value
 |.inl e=>.tuple #[.int .i64 0,sv [],.int .i64 0,.int .i64 e]
 |.inr (kd,t,n)=>.tuple #[.int .i64 kd,sv t,.int .i64 n,.int .i64 0]
def FC (s:Bt):Int ⊕ (Int ×Bt ×Nat):=
 if 32<dQ bE s then .inl 2 else if s.take (dQ bE s)∈fQ then .inr (2,s.take (dQ bE s),dQ bE s)else .inr (1,s.take (dQ bE s),dQ bE s)
def Bz (s:Bt):Int ⊕ (Int ×Bt ×Nat):=if(fP (s.take (dQ dD s))).2 then .inr (3,s.take (dQ dD s),dQ dD s)else .inl 3
theorem xH (s:Bt)(n:Nat):Value.string (ByteArray.extract ⟨s.toArray⟩ 0 n)=sv (s.take n):=by
 rw [sw,List.drop_zero]
theorem Nu (w:World)(bl bp:Nat)(s:Bt)(p:Nat ×Nat)(dS:Value)(hL:eU w bl bp s p dS)(hs:s.length<=100000)(hX:mY w):
  Calls Tryz.prog 190 #[.pointer (some ⟨bl,0,none⟩)] w fun e w'=>e=.returned (AX (FC s))∧Below w.heap.size w w':=by
 have c0:=hL.c0;have hsz:=aT s;have hle:=kI bE s;have he:=xH s (dQ bE s);have hR:FC s=if 32<dQ bE s then .inl 2 else if s.take (dQ bE s)∈fQ then .inr (2,s.take (dQ bE s),dQ bE s)else .inr (1,s.take (dQ bE s),dQ bE s):=rfl
 have hrow:=ED s w (by omega);have fI:=aZ hrow;clear hrow;generalize dQ bE s=n at*
 by_cases h32:32<n
 ·rw [if_pos h32]at hR;rw [hR];clear hR;go_enter Tryz.func190,Tryz.ntmps190;go_wp2_with fail;refine fI.o.mono ?_;rintro e w1 ⟨rfl,rfl⟩;go_wp2_with fail;refine bodyPost_ret (dI rfl _ _ _) rfl ?_;exact⟨rfl,Below.refl _ _⟩
 ·rw [if_neg h32]at hR;by_cases hw:s.take n∈fQ
  ·rw [if_pos hw]at hR;rw [hR];clear hR;go_enter Tryz.func190,Tryz.ntmps190;go_wp2_with fail;refine fI.o.mono ?_;rintro e w1 ⟨rfl,rfl⟩;go_wp2_with fail;refine(yT _ hX.t).mono ?_;rintro e w2 ⟨v2,rfl,Wm,hb2⟩;go_wp2_with fail;refine(nZ v2 fQ (s.take n) _ Wm).mono ?_;rintro e w3 ⟨rfl,rfl⟩;rw [decide_eq_true hw];go_wp2_with fail;refine bodyPost_ret (dI rfl _ _ _) rfl ?_;exact⟨rfl,hb2⟩
  ·rw [if_neg hw]at hR;rw [hR];clear hR;go_enter Tryz.func190,Tryz.ntmps190;go_wp2_with fail;refine fI.o.mono ?_;rintro e w1 ⟨rfl,rfl⟩;go_wp2_with fail;refine(yT _ hX.t).mono ?_;rintro e w2 ⟨v2,rfl,Wm,hb2⟩;go_wp2_with fail;refine(nZ v2 fQ (s.take n) _ Wm).mono ?_;rintro e w3 ⟨rfl,rfl⟩;rw [decide_eq_false hw];go_wp2_with fail;refine bodyPost_ret (dI rfl _ _ _) rfl ?_;exact⟨rfl,hb2⟩
theorem Ka (w:World)(bl bp:Nat)(s:Bt)(p:Nat ×Nat)(dS:Value)(hL:eU w bl bp s p dS)(hs:s.length<=100000)(hX:mY w):
  Calls Tryz.prog 191 #[.pointer (some ⟨bl,0,none⟩)] w fun e w'=>e=.returned (AX (Bz s))∧Below w.heap.size w w':=by
 have c0:=hL.c0;have hsz:=aT s;have hle:=kI dD s;have he:=xH s (dQ dD s);have hR:Bz s=if(fP (s.take (dQ dD s))).2 then .inr (3,s.take (dQ dD s),dQ dD s)else .inl 3:=rfl
 have fI:=aZ (Nr s w (by omega));generalize dQ dD s=n at*
 have hpz:(ByteArray.mk (s.take n).toArray).size<=281474976710656:=by rw [aT,List.length_take];omega
 have HP:=aZ (EA ⟨(s.take n).toArray⟩ w hpz hX.1);clear hpz;have hpv:fP (ByteArray.mk (s.take n).toArray).data.toList=fP (s.take n):=rfl;rw [hpv]at HP;clear hpv;generalize fP (s.take n)=r at*
 obtain⟨i,q⟩:=r;simp only at hR HP;rw [hR];clear hR;go_enter Tryz.func191,Tryz.ntmps191;go_wp2_with fail;refine fI.o.mono ?_;rintro e w1 ⟨rfl,rfl⟩;go_wp2_with fail;refine HP.o.mono ?_;rintro e w2 ⟨rfl,hb2⟩;have c02:=(hb2.cell (p:=⟨bl,0,none⟩) hL.lt).trans c0;cases q
 ·go_wp2_with fail;refine bodyPost_ret (dI rfl _ _ _) rfl ?_;exact⟨rfl,hb2⟩
 ·go_wp2_with fail
  go_quiet (fail)
  go_wp2_with fail;refine bodyPost_ret (dI rfl _ _ _) rfl ?_;exact⟨rfl,hb2.trans (aH w2 _ |>.mono hb2.size)⟩
theorem uV:ku Tryz.prog 112 5 (.int .u8 0) 1 1:=⟨Tryz.underlying112,by kernel_rfl,rfl,by decide⟩
theorem TG {P:Program}(w:World)(src dst e:TypeId)(hs:P.underlying src=some .string)(hd:P.underlying dst=some (.slice e))(he:P.underlying e=some (.int .u8))(s:Bt):
  ∃C w5,(convert src dst (sv s)).run P w=.ok (.slice (some ⟨w.heap.size,0,none⟩) s.length C) w5∧Below w.heap.size w w5∧w.heap.size<w5.heap.size∧
   ∀j (hj:j<s.length),w5.cell? ⟨w.heap.size,j,none⟩=some (.int .u8 (s[j].toNat:Int)):=by
 have hsz:=aT s;have hrun:=Lib.run_convert_string_bytes (P:=P) w src dst e ⟨s.toArray⟩ hs hd he;have hcell:=Lib.bytesWorld_cell w e ⟨s.toArray⟩;have hsize:=Lib.bytesWorld_size w e ⟨s.toArray⟩;have hold:=Lib.bytesWorld_at_old w e ⟨s.toArray⟩;rw [hsz]at hrun hcell;refine⟨_,_,hrun,⟨rfl,rfl,rfl,by rw [hsize];omega,fun k hk=>hold k hk⟩,by rw [hsize];omega,fun j hj=>?_⟩;rw [hcell j hj];have e:(ByteArray.mk s.toArray).data.toList=s:=rfl;rw [e];simp [List.getD_eq_getElem?_getD,List.getElem?_eq_getElem hj]
theorem byte_of {X:UInt8}{n:Nat}(hn:n<256)(h:X.toNat=n):X=UInt8.ofNat n:=by
 apply UInt8.toNat_inj.1;rw [UInt8.toNat_ofNat',h];omega
theorem Nv (X:UInt8):(X=92∧GH X=some 92∧Lib.indexByte [92,34,110,116] X=0)∨(X=34∧GH X=some 34∧Lib.indexByte [92,34,110,116] X=1)∨(X=110∧GH X=some 10∧Lib.indexByte [92,34,110,116] X=2)∨(X=116∧GH X=some 9∧Lib.indexByte [92,34,110,116] X=3)∨
  (GH X=none∧Lib.indexByte [92,34,110,116] X= -1):=by
 by_cases h1:X=92
 ·subst h1;exact .inl ⟨rfl,rfl,rfl⟩
 by_cases h2:X=34
 ·subst h2;exact .inr (.inl ⟨rfl,rfl,rfl⟩)
 by_cases h3:X=110
 ·subst h3;exact .inr (.inr (.inl ⟨rfl,rfl,rfl⟩))
 by_cases h4:X=116
 ·subst h4;exact .inr (.inr (.inr (.inl ⟨rfl,rfl,rfl⟩)))
 refine .inr (.inr (.inr (.inr ⟨?_,?_⟩)))
 ·unfold GH;rw [if_neg (fun h=>h1 (byte_of (by decide) h)),if_neg (fun h=>h2 (byte_of (by decide) h)),if_neg (fun h=>h3 (byte_of (by decide) h)),if_neg (fun h=>h4 (byte_of (by decide) h))]
 ·have e1:((92:UInt8)==X)=false:=by rw [beq_eq_false_iff_ne];exact fun h=>h1 h.symm
  have e2:((34:UInt8)==X)=false:=by rw [beq_eq_false_iff_ne];exact fun h=>h2 h.symm
  have e3:((110:UInt8)==X)=false:=by rw [beq_eq_false_iff_ne];exact fun h=>h3 h.symm
  have e4:((116:UInt8)==X)=false:=by rw [beq_eq_false_iff_ne];exact fun h=>h4 h.symm
  simp [Lib.indexByte,e1,e2,e3,e4]
theorem ofNat_toNat (X:UInt8):UInt8.ofNat ((X.toNat:Int)).toNat=X:=by simp
theorem mI (X:UInt8):((X.toNat:Int)).toNat.toUInt8=X:=by simp
def Cj:Option (Bt ×Nat)->Value
 |none=>.tuple #[sv [],.int .i64 0]
 |some (t,n)=>.tuple #[sv t,.int .i64 n]
def PG (w5:World)(ans:Option (Bt ×Nat))(r:Bt)(k:Nat)(v4 v5:Value)(wr:World):Prop:=
 ∃(back:Bool) (o:Bt),v5=.bool back∧oN wr w5.heap.size 5 v4 o∧gH back o k (r.drop k)=ans∧o.length<=k∧Below w5.heap.size w5 wr
theorem Kc (w:World)(s:Bt)(hs:s.length<=100000)(h1:1<=s.length):
  Calls Tryz.prog 213 #[sv s] w fun e w'=>e=.returned (Cj (nN s))∧Below w.heap.size w w':=by
 have hsz:=aT s;have he:Value.string (ByteArray.extract ⟨s.toArray⟩ 1 s.length)=sv (s.drop 1):=by rw [sw,List.take_length]
 have hq0:gH false [] 0 ((s.drop 1).drop 0)=nN s:=rfl;have hrl:(s.drop 1).length<=100000:=by rw [List.length_drop];omega
 generalize s.drop 1=r at*
 obtain⟨C,w5,GY,hb5,Wh,hcells⟩:=TG (P:=Tryz.prog) w 9 112 5 Tryz.underlying9 Tryz.underlying112 Tryz.underlying5 r;have HC:=aZ hcells;have YS:=aZ hq0;clear hcells hq0;generalize nN s=ans at*
 go_enter Tryz.func213,Tryz.ntmps213;go_wp2_with fail;go_loopw [4,5,13] (fun v4 v5 v13 wr=>∃k:Nat,v13=.int .i64 k∧k<=r.length∧PG w5 ans r k v4 v5 wr) (fun _ _ v13 _=>r.length - (intOf v13).toNat)
 case atStart=>exact⟨0,rfl,by omega,false,[],rfl,oN.nil _ _ _,YS.o,Nat.le_refl _,Below.refl _ _⟩
 case round=>
  obtain⟨k,rfl,hk,back,o,rfl,hown,hq,hol,hbr⟩:=hrel;have hfin:Below w.heap.size w wr:=hb5.trans (hbr.mono hb5.size);by_cases hlt:k<r.length
  ·rw [List.drop_eq_getElem_cons hlt,gH]at hq;have d1:=(hbr.cell (p:=⟨w.heap.size,k,none⟩) Wh).trans (HC.o k hlt);generalize r[k]=X at*
   clear GY;by_cases h32:X.toNat<32
   ·rw [if_pos h32]at hq;subst hq;go_wp2_with fail
    go_ret2
    exact⟨rfl,hfin⟩
   rw [if_neg h32]at hq;have hXs:((X.toNat:Int)).toNat.toUInt8=X:=by simp
   cases back with
   |true=>
    rw [if_pos rfl]at hq;rcases Nv X with⟨hX,e1,e2⟩ |⟨hX,e1,e2⟩ |⟨hX,e1,e2⟩ |⟨hX,e1,e2⟩ |⟨e1,e2⟩
    all_goals have E2:=aZ e2
    all_goals clear e2 hXs
    all_goals try clear hX
    ·rw [e1]at hq;have hq2:gH false (o++[92]) (k+1) (r.drop (k+1))=ans:=hq;have i0:((ByteArray.mk #[92,34,10,9])[0]'(by decide)).toNat=92:=rfl;have HQ:=aZ hq2;clear hq hq2 e1
     go_wp2_with (first
      |(go_at_call 214;refine(Tryz.strings_IndexByte _ _ _).mono ?_;rintro e w1 ⟨rfl,rfl⟩;rw [mI,E2.o])
      |(at_builtin;refine mV rfl _ (.tmp 34) _ rfl w5.heap.size uV _ _ rfl rfl (hown.alloc _) (yN _ (92:Int) _ (by decide)) (by simp;omega) (iZ hbr.size _) (fun v7 w7 aQ ji gq=>?_);have jq:=oO (hbr.alloc hbr.size _) (hown.alloc _) ji (Nat.le_refl _) (iZ hbr.size _);clear ji gq))
     go_roundw
     case rel=>exact⟨k+1,rfl,by omega,false,o++[92],rfl,aQ,HQ.o,by simp;omega,jq⟩
     case measure=>simp [intOf];omega
    ·rw [e1]at hq;have hq2:gH false (o++[34]) (k+1) (r.drop (k+1))=ans:=hq;have i0:((ByteArray.mk #[92,34,10,9])[1]'(by decide)).toNat=34:=rfl;have HQ:=aZ hq2;clear hq hq2 e1
     go_wp2_with (first
      |(go_at_call 214;refine(Tryz.strings_IndexByte _ _ _).mono ?_;rintro e w1 ⟨rfl,rfl⟩;rw [mI,E2.o])
      |(at_builtin;refine mV rfl _ (.tmp 34) _ rfl w5.heap.size uV _ _ rfl rfl (hown.alloc _) (yN _ (34:Int) _ (by decide)) (by simp;omega) (iZ hbr.size _) (fun v7 w7 aQ ji gq=>?_);have jq:=oO (hbr.alloc hbr.size _) (hown.alloc _) ji (Nat.le_refl _) (iZ hbr.size _);clear ji gq))
     go_roundw
     case rel=>exact⟨k+1,rfl,by omega,false,o++[34],rfl,aQ,HQ.o,by simp;omega,jq⟩
     case measure=>simp [intOf];omega
    ·rw [e1]at hq;have hq2:gH false (o++[10]) (k+1) (r.drop (k+1))=ans:=hq;have i0:((ByteArray.mk #[92,34,10,9])[2]'(by decide)).toNat=10:=rfl;have HQ:=aZ hq2;clear hq hq2 e1
     go_wp2_with (first
      |(go_at_call 214;refine(Tryz.strings_IndexByte _ _ _).mono ?_;rintro e w1 ⟨rfl,rfl⟩;rw [mI,E2.o])
      |(at_builtin;refine mV rfl _ (.tmp 34) _ rfl w5.heap.size uV _ _ rfl rfl (hown.alloc _) (yN _ (10:Int) _ (by decide)) (by simp;omega) (iZ hbr.size _) (fun v7 w7 aQ ji gq=>?_);have jq:=oO (hbr.alloc hbr.size _) (hown.alloc _) ji (Nat.le_refl _) (iZ hbr.size _);clear ji gq))
     go_roundw
     case rel=>exact⟨k+1,rfl,by omega,false,o++[10],rfl,aQ,HQ.o,by simp;omega,jq⟩
     case measure=>simp [intOf];omega
    ·rw [e1]at hq;have hq2:gH false (o++[9]) (k+1) (r.drop (k+1))=ans:=hq;have i0:((ByteArray.mk #[92,34,10,9])[3]'(by decide)).toNat=9:=rfl;have HQ:=aZ hq2;clear hq hq2 e1
     go_wp2_with (first
      |(go_at_call 214;refine(Tryz.strings_IndexByte _ _ _).mono ?_;rintro e w1 ⟨rfl,rfl⟩;rw [mI,E2.o])
      |(at_builtin;refine mV rfl _ (.tmp 34) _ rfl w5.heap.size uV _ _ rfl rfl (hown.alloc _) (yN _ (9:Int) _ (by decide)) (by simp;omega) (iZ hbr.size _) (fun v7 w7 aQ ji gq=>?_);have jq:=oO (hbr.alloc hbr.size _) (hown.alloc _) ji (Nat.le_refl _) (iZ hbr.size _);clear ji gq))
     go_roundw
     case rel=>exact⟨k+1,rfl,by omega,false,o++[9],rfl,aQ,HQ.o,by simp;omega,jq⟩
     case measure=>simp [intOf];omega
    ·rw [e1]at hq;have hq2:none=ans:=hq;subst hq2;clear hq e1;go_wp2_with (go_at_call 214;refine(Tryz.strings_IndexByte _ _ _).mono ?_;rintro e w1 ⟨rfl,rfl⟩;rw [mI,E2.o])
     go_ret2
     exact⟨rfl,hfin⟩
   |false=>
    rw [if_neg (by simp)]at hq;clear hXs;by_cases L6:X.toNat=92
    ·rw [if_pos L6]at hq;have HQ:=aZ hq;clear hq;go_wp2_with fail
     go_roundw
     case rel=>exact⟨k+1,rfl,by omega,true,o,rfl,hown,HQ.o,by omega,hbr⟩
     case measure=>simp [intOf];omega
    rw [if_neg L6]at hq;by_cases AV:X.toNat=34
    ·rw [if_pos AV]at hq;subst hq;have hso:=mK (P:=Tryz.prog) hown.bs 112 5 9 Tryz.underlying112 Tryz.underlying5 Tryz.underlying9;go_wp2_with fail
     go_ret2
     exact⟨by simp [Cj],hfin⟩
    rw [if_neg AV]at hq;have HQ:=aZ hq;clear hq
    go_wp2_with (first
     |(at_builtin;refine mV rfl _ (.tmp 20) _ rfl w5.heap.size uV _ _ rfl rfl (hown.alloc _) (yN _ (X.toNat:Int) _ (by have:=X.toNat_lt;omega)) (by simp;omega) (iZ hbr.size _) (fun v7 w7 aQ ji gq=>?_);have jq:=oO (hbr.alloc hbr.size _) (hown.alloc _) ji (Nat.le_refl _) (iZ hbr.size _);clear ji gq))
    rw [ofNat_toNat]at aQ
    go_roundw
    case rel=>exact⟨k+1,rfl,by omega,false,o++[X],rfl,aQ,HQ.o,by simp;omega,jq⟩
    case measure=>simp [intOf];omega
  ·obtain rfl:k=r.length:=by omega
   rw [List.drop_length]at hq;have hq2:none=ans:=by rw [<-hq];cases back <;> rfl
   subst hq2;clear hq GY;go_wp2_with fail
   go_ret2
   exact⟨rfl,hfin⟩
open Go.Maps (has IsMap Keyed)
def Ke (s:Bt):Int ⊕ (Int ×Bt ×Nat):=
 match nN s with
 |none=>.inl 4
 |some (t,n)=>if 256<t.length then .inl 2 else .inr (4,t,n)
theorem TH (w:World)(bl bp:Nat)(s:Bt)(p:Nat ×Nat)(dS:Value)(hL:eU w bl bp s p dS)(hs:s.length<=100000)(h1:1<=s.length):
  Calls Tryz.prog 192 #[.pointer (some ⟨bl,0,none⟩)] w fun e w'=>e=.returned (AX (Ke s))∧Below w.heap.size w w':=by
 have c0:=hL.c0;have HP:=aZ (Kc w s hs h1);cases hq:nN s with
 |none=>
  have hR:Ke s=.inl 4:=by unfold Ke;rw [hq]
  rw [hR];rw [hq]at HP;clear hR hq;go_enter Tryz.func192,Tryz.ntmps192;go_wp2_with fail;refine HP.o.mono ?_;rintro e w1 ⟨rfl,hb1⟩;unfold Cj;go_wp2_with fail;refine bodyPost_ret (dI rfl _ _ _) rfl ?_;exact⟨rfl,hb1⟩
 |some r=>
  obtain⟨t,n⟩:=r;have hle:=Ew hq;have hn:¬(n:Int)=0:=by omega
  have hsz:=aT t;have hR:Ke s=if 256<t.length then .inl 2 else .inr (4,t,n):=by unfold Ke;rw [hq]
  rw [hq]at HP;clear hq hle;by_cases YT:256<t.length
  ·rw [if_pos YT]at hR;rw [hR];clear hR;go_enter Tryz.func192,Tryz.ntmps192;go_wp2_with fail;refine HP.o.mono ?_;rintro e w1 ⟨rfl,hb1⟩;unfold Cj;go_wp2_with fail;refine bodyPost_ret (dI rfl _ _ _) rfl ?_;exact⟨rfl,hb1⟩
  ·rw [if_neg YT]at hR;rw [hR];clear hR;go_enter Tryz.func192,Tryz.ntmps192;go_wp2_with fail;refine HP.o.mono ?_;rintro e w1 ⟨rfl,hb1⟩;unfold Cj;go_wp2_with fail;refine bodyPost_ret (dI rfl _ _ _) rfl ?_;exact⟨rfl,hb1⟩
def uo (a b:UInt8):Value:= .agg #[.int .u8 (a.toNat:Int),.int .u8 (b.toNat:Int)]
theorem xI:Keyed Tryz.prog 224:=Keyed.of_law (deep_law_laid (m:=2) (by kernel_rfl) (by omega) (of_decide_eq_true (by kernel_rfl)) (by kernel_rfl) (by kernel_rfl))
theorem Nw (w:World):(zeroValue 4).run Tryz.prog w=.ok (.bool false) w:=by kernel_rfl
theorem wf_u8 (a:UInt8):(Lit.int .u8 (a.toNat:Int)).wf=true:=by
 have e1:IntKind.u8.min=0:=by decide
 have e2:IntKind.u8.max=255:=by decide
 have:=a.toNat_lt;simp [Lit.wf,e1,e2];omega
theorem Md (d:Nat)(a:UInt8):Tryz.prog.keyLits (d+1) 5 [.int .u8 (a.toNat:Int)]=some [.int .u8 (a.toNat:Int)]:=by
 simp [Program.keyLits,Tryz.underlying5,wf_u8]
theorem G8 (a b:UInt8):∃kl,keyOf Tryz.prog 224 (uo a b)=some kl:=by
 obtain⟨d,hd⟩:∃d,Tryz.prog.types.size=d+1:=⟨Tryz.prog.types.size - 1,by kernel_rfl⟩
 have h2:Tryz.prog.cellsOf 224=2:=by kernel_rfl
 have h3:Tryz.prog.cellsOf 5=1:=by kernel_rfl
 have hk:Tryz.prog.keyType 224=true:=by kernel_rfl
 have hf:(uo a b).formed Tryz.prog 224=true:=by simp [Value.formed,Tryz.underlying224,h2,uo]
 refine⟨.string (keyBytes [.int .u8 (a.toNat:Int),.int .u8 (b.toNat:Int)]),?_⟩;have e:Tryz.prog.keyLits (d+1+1) 224 [.int .u8 (a.toNat:Int),.int .u8 (b.toNat:Int)]=some [.int .u8 (a.toNat:Int),.int .u8 (b.toNat:Int)]:=by
  rw [Program.keyLits.eq_def];simp only [Tryz.underlying224];simp [h2,h3,List.range_succ,Md d a,Md d b]
 simp only [keyOf,Tryz.underlying224,hk,hf,Bool.and_self,if_true,hd];have e2:(uo a b).cells.toList=[.int .u8 (a.toNat:Int),.int .u8 (b.toNat:Int)]:=rfl;rw [e2,e];rfl
def BA (D:DataW Unit)(l:List Bt):Prop:=∀(a b:UInt8) (kl:Lit),keyOf Tryz.prog 224 (uo a b)=some kl->∀z,D.atKey kl z=if [a,b]∈l then .lit (.bool true)else z
def lD (w:World)(bp:Nat)(l:List Bt):Prop:=∃(n:Nat) (D:DataW Unit),n<=l.length∧w.ownsMap Tryz.prog 224 (plainElem Tryz.prog 4) bp n D∧BA D l
theorem lD.turn {w w':World}{bp:Nat}{l:List Bt}{G:Nat->Prop}(h:lD w bp l)(t:Turn G w w')(hd:¬G bp):lD w' bp l:=by
 obtain⟨n,D,h0,h1,h2⟩:=h;exact⟨n,D,h0,Pp h1 t hd,h2⟩
theorem G9 {v:Value}{x:Bool}{ps:List MemPlace}(h:plainElem (H:=Unit) Tryz.prog 4 v=some (.lit (.bool x),ps)):v=.bool x:=by
 unfold plainElem at h;rw [Tryz.underlying4]at h;cases v <;> simp at h;rw [h.1]
theorem Kg {w:World}{bp:Nat}{l:List Bt}(h:lD w bp l)(a b:UInt8):(Instr.lookup 196 (.map (some bp)) (uo a b) false).run Tryz.prog w=.ok (.bool (decide ([a,b]∈l))) w:=by
 obtain⟨n,D,_,hown,hD⟩:=h;obtain⟨kl,hk⟩:=G8 a b;obtain⟨v,ps,hrun,hR⟩:=hown.lookup xI Tryz.underlying196 (Nw w) (plainElem_bool Tryz.underlying4 false) hk;rw [hrun];rw [hD a b kl hk]at hR;by_cases hin:[a,b]∈l
 ·rw [if_pos hin]at hR;rw [G9 hR,decide_eq_true hin]
 ·rw [if_neg hin]at hR;rw [G9 hR,decide_eq_false hin]
def zS (s:Bt):Int ⊕ (Int ×Bt ×Nat):=if s.take 2∈dw then .inr (5,s.take 2,2)else if s.headD 0∈fD then .inr (5,s.take 1,1)else .inl 5
theorem EF {l:Bt}{c:UInt8}:0<=Lib.indexByte l c↔c∈l:=by
 induction l with
 |nil=>simp [Lib.indexByte]
 |cons b l ih=>
  rw [Lib.indexByte];by_cases h:b=c
  ·subst h;simp
  ·have hb:(b==c)=false:=by rw [beq_eq_false_iff_ne];exact h
   rw [hb];simp only [Bool.false_eq_true,if_false];have hge:=Lib.indexByte_ge l c;by_cases h1:Lib.indexByte l c= -1
   ·have h2:(Lib.indexByte l c== -1)=true:=by rw [beq_iff_eq];exact h1
    rw [if_pos h2];constructor
    ·intro hh;omega
    ·intro hh;rcases List.mem_cons.1 hh with hh |hh
     ·exact absurd hh.symm h
     ·have:=ih.2 hh;omega
   ·have h2:¬(Lib.indexByte l c== -1)=true:=by rw [beq_iff_eq];exact h1
    rw [if_neg h2];constructor
    ·intro hh;exact List.mem_cons_of_mem _ (ih.1 (by omega))
    ·intro hh;rcases List.mem_cons.1 hh with hh |hh
     ·exact absurd hh.symm h
     ·have:=ih.2 hh;omega
theorem xJ:(⟨fD.toArray⟩:ByteArray).data.toList=fD:=rfl
theorem PI (w:World)(bl bp:Nat)(c:UInt8)(r:Bt)(p:Nat ×Nat)(dS:Value)(hL:eU w bl bp (c :: r) p dS)(hs:(c :: r).length<=100000)(hP:lD w bp dw):
  Calls Tryz.prog 193 #[.pointer (some ⟨bl,0,none⟩)] w fun e w'=>e=.returned (AX (zS (c :: r)))∧Below w.heap.size w w':=by
 have c0:=hL.c0;have c3:=hL.c3;have hsz:=aT (c :: r);cases r with
 |nil=>
  have hnp:(c :: ([]:Bt)).take 2 ∉ dw:=fun h=>by
   have hall:∀m∈dw,m.length=2:=by decide
   have:=hall _ h;simp at this
  have hix:=gL (c :: []) 0 (by simp);have he1:Value.string (ByteArray.extract ⟨(c :: ([]:Bt)).toArray⟩ 0 1)=sv [c]:=xH _ 1;have hR:zS (c :: [])=if c∈fD then .inr (5,[c],1)else .inl 5:=by unfold zS;rw [if_neg hnp];rfl
  obtain⟨ans,Ea⟩:∃ans,ans=zS (c :: []):=⟨_,rfl⟩
  rw [<-Ea];rw [<-Ea]at hR;clear hnp Ea;go_enter Tryz.func193,Tryz.ntmps193;go_wp2_with fail
  go_quiet (fail)
  go_wp2_with fail;refine(Tryz.strings_IndexByte ⟨fD.toArray⟩ _ _).mono ?_;rintro e w1 ⟨rfl,rfl⟩;rw [mI,xJ];have hi:=EF (l:=fD) (c:=c);generalize Lib.indexByte fD c=ix at*
  by_cases hc:c∈fD
  ·have Wn:¬(ix<0):=by have:=hi.2 hc;omega
   rw [if_pos hc]at hR;subst hR;clear hi;go_wp2_with fail
   go_quiet (fail)
   go_wp2_with fail;refine bodyPost_ret (dI rfl _ _ _) rfl ?_;exact⟨rfl,((aH w _).trans (aH _ _ |>.mono (Nat.le_refl _)))⟩
  ·have Wn:ix<0:=by
    rcases Int.lt_or_le ix 0 with h |h
    ·exact h
    ·exact absurd (hi.1 h) hc
   rw [if_neg hc]at hR;subst hR;clear hi;go_wp2_with fail;refine bodyPost_ret (dI rfl _ _ _) rfl ?_;exact⟨rfl,aH w _⟩
 |cons d r=>
  have hl1:(1:Int)<(r.length:Int)+1+1:=by omega
  have hl0:(0:Int)<(r.length:Int)+1+1:=by omega
  have hix:=gL (c :: d :: r) 0 (by simp);have abU:=gL (c :: d :: r) 1 (by simp);have he1:Value.string (ByteArray.extract ⟨(c :: d :: r).toArray⟩ 0 1)=sv [c]:=xH _ 1;have he2:Value.string (ByteArray.extract ⟨(c :: d :: r).toArray⟩ 0 2)=sv [c,d]:=xH _ 2
  have Va:∀n,(Instr.lookup 196 (.map (some bp)) (.agg #[.int .u8 (c.toNat:Int),.int .u8 (d.toNat:Int)]) false).run Tryz.prog (w.drewN n)=.ok (.bool (decide ([c,d]∈dw))) (w.drewN n):=
   fun n=>Kg (hP.turn (Turn.drewN (fun _=>False) w n) id) c d
  have hR0:zS (c :: d :: r)=if [c,d]∈dw then .inr (5,[c,d],2)else if c∈fD then .inr (5,[c],1)else .inl 5:=rfl
  by_cases hp:[c,d]∈dw
  ·rw [if_pos hp]at hR0;rw [decide_eq_true hp]at Va;rw [hR0];clear hR0 hp;go_enter Tryz.func193,Tryz.ntmps193;go_wp2_with fail
   go_quiet (fail)
   go_wp2_with fail
   go_quiet (fail)
   go_wp2_with fail;refine bodyPost_ret (dI rfl _ _ _) rfl ?_;exact⟨rfl,(aH w _).trans (aH _ _ |>.mono (Nat.le_refl _))⟩
  ·rw [if_neg hp]at hR0;rw [decide_eq_false hp]at Va;obtain⟨ans,Ea⟩:∃ans,ans=zS (c :: d :: r):=⟨_,rfl⟩
   rw [<-Ea];have hR:=Ea.trans hR0;clear hR0 hp Ea;go_enter Tryz.func193,Tryz.ntmps193;go_wp2_with fail
   go_quiet (fail)
   go_wp2_with fail;refine(Tryz.strings_IndexByte ⟨fD.toArray⟩ _ _).mono ?_;rintro e w1 ⟨rfl,rfl⟩;rw [mI,xJ];have hi:=EF (l:=fD) (c:=c);generalize Lib.indexByte fD c=ix at*
   by_cases hc:c∈fD
   ·have Wn:¬(ix<0):=by have:=hi.2 hc;omega
    rw [if_pos hc]at hR;subst hR;clear hi;go_wp2_with fail
    go_quiet (fail)
    go_wp2_with fail;refine bodyPost_ret (dI rfl _ _ _) rfl ?_;exact⟨rfl,((aH w _).trans (aH _ _ |>.mono (Nat.le_refl _)))⟩
   ·have Wn:ix<0:=by
     rcases Int.lt_or_le ix 0 with h |h
     ·exact h
     ·exact absurd (hi.1 h) hc
    rw [if_neg hc]at hR;subst hR;clear hi;go_wp2_with fail;refine bodyPost_ret (dI rfl _ _ _) rfl ?_;exact⟨rfl,aH w _⟩
open Go.Maps (has IsMap Keyed)
theorem PU (c:UInt8)(r:Bt):fu (c :: r)=if gD c then FC (c :: r)else if dD c then Bz (c :: r)else if c.toNat=34 then Ke (c :: r)else zS (c :: r):=rfl
theorem PV (w:World)(bl bp:Nat)(c:UInt8)(r:Bt)(p:Nat ×Nat)(dS:Value)(hL:eU w bl bp (c :: r) p dS)(hs:(c :: r).length<=100000)(hX:mY w)(hP:lD w bp dw):
  Calls Tryz.prog 147 #[.pointer (some ⟨bl,0,none⟩)] w fun e w'=>e=.returned (AX (fu (c :: r)))∧Below w.heap.size w w':=by
 have c0:=hL.c0;have hsz:=aT (c :: r);have hix:(ByteArray.mk (c :: r).toArray)[0]'(by rw [aT];simp)=c:=gL (c :: r) 0 (by simp);have hl0:(0:Int)<(r.length:Int)+1:=by omega
 have HN:=aZ (Nu w bl bp (c :: r) p dS hL hs hX);have HU:=aZ (Ka w bl bp (c :: r) p dS hL hs hX);have HS:=aZ (TH w bl bp (c :: r) p dS hL hs (by simp));have HG:=aZ (PI w bl bp c r p dS hL hs hP);have heq:=PU c r;generalize FC (c :: r)=xn at*
 generalize Bz (c :: r)=xu at*
 generalize Ke (c :: r)=xs at*
 generalize zS (c :: r)=xg at*
 cases h1:gD c
 ·rw [h1,if_neg (by simp)]at heq;cases h2:dD c
  ·rw [h2,if_neg (by simp)]at heq;by_cases h3:c.toNat=34
   ·rw [if_pos h3]at heq;rw [heq];clear heq HN HU HG;have H3:=aZ h3;clear h3;go_enter Tryz.func147,Tryz.ntmps147;go_wp2_with fail;refine(jM c _).mono ?_;rintro e w1 ⟨rfl,rfl⟩;rw [h1];go_wp2_with fail;refine(oG c _).mono ?_;rintro e w1 ⟨rfl,rfl⟩;rw [h2];have h3:=H3.o;go_wp2_with fail;refine HS.o.mono ?_;rintro e w2 ⟨rfl,hb2⟩;clear HS;rcases xs with e |⟨kd,t,n⟩
    all_goals
     simp only [AX];go_wp2_with fail;refine bodyPost_ret (dI rfl _ _ _) rfl ?_;exact⟨rfl,hb2⟩
   ·rw [if_neg h3]at heq;rw [heq];clear heq HN HU HS;go_enter Tryz.func147,Tryz.ntmps147;go_wp2_with fail;refine(jM c _).mono ?_;rintro e w1 ⟨rfl,rfl⟩;rw [h1];go_wp2_with fail;refine(oG c _).mono ?_;rintro e w1 ⟨rfl,rfl⟩;rw [h2];go_wp2_with fail;refine HG.o.mono ?_;rintro e w2 ⟨rfl,hb2⟩;clear HG;rcases xg with e |⟨kd,t,n⟩
    all_goals
     simp only [AX];go_wp2_with fail;refine bodyPost_ret (dI rfl _ _ _) rfl ?_;exact⟨rfl,hb2⟩
  ·rw [h2,if_pos rfl]at heq;rw [heq];clear heq HN HS HG;go_enter Tryz.func147,Tryz.ntmps147;go_wp2_with fail;refine(jM c _).mono ?_;rintro e w1 ⟨rfl,rfl⟩;rw [h1];go_wp2_with fail;refine(oG c _).mono ?_;rintro e w1 ⟨rfl,rfl⟩;rw [h2];go_wp2_with fail;refine HU.o.mono ?_;rintro e w2 ⟨rfl,hb2⟩;clear HU;rcases xu with e |⟨kd,t,n⟩
   all_goals
    simp only [AX];go_wp2_with fail;refine bodyPost_ret (dI rfl _ _ _) rfl ?_;exact⟨rfl,hb2⟩
 ·rw [h1,if_pos rfl]at heq;rw [heq];clear heq HU HS HG;go_enter Tryz.func147,Tryz.ntmps147;go_wp2_with fail;refine(jM c _).mono ?_;rintro e w1 ⟨rfl,rfl⟩;rw [h1];go_wp2_with fail;refine HN.o.mono ?_;rintro e w2 ⟨rfl,hb2⟩;clear HN;rcases xn with e |⟨kd,t,n⟩
  all_goals
   simp only [AX];go_wp2_with fail;refine bodyPost_ret (dI rfl _ _ _) rfl ?_;exact⟨rfl,hb2⟩
end
end Go.Proofs.YtfgjkmipfikooaaGreatDoor
