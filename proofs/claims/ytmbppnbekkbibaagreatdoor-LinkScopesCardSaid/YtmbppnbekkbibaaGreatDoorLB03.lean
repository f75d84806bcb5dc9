/- GE, GF -/
import Derived.Test.YtmbppnbekkbibaaGreatDoorRows
import Derived.Test.YtmbppnbekkbibaaGreatDoorLB01
import Derived.RegionTactic
import Derived.Deep.QuietTactic
import Derived.Test.YtmbppnbekkbibaaGreatDoorLB02
import Derived.Lib.ConvBytes
import Derived.DeepKeys4
set_option linter.unusedSimpArgs false
set_option linter.unusedVariables false
set_option maxRecDepth 100000
set_option maxHeartbeats 2000000
namespace Go.Proofs.YtmbppnbekkbibaaGreatDoor
open Go.RowKit
theorem gL (c:UInt8) (w:World):Calls Tryz.prog 104 #[.int .u8 (c.toNat:Int)] w fun e w'=>e= .returned (.bool (gX c))∧w'=w:=by
 unfold gX;generalize c.toNat=n;go_enter Tryz.func104,Tryz.ntmps104;go_wp2_with fail
 all_goals
  go_ret;refine⟨?_,rfl⟩;congr 2
  try simp
  try omega
  try (rw [Bool.eq_iff_iff];simp only [Bool.or_eq_true,Bool.and_eq_true,decide_eq_true_eq,beq_iff_eq];omega)
theorem kZ (c:UInt8) (w:World):Calls Tryz.prog 106 #[.int .u8 (c.toNat:Int)] w fun e w'=>e= .returned (.bool (bY c))∧w'=w:=by
 unfold bY;generalize c.toNat=n;go_enter Tryz.func106,Tryz.ntmps106;go_wp2_with fail
 all_goals
  go_ret;refine⟨?_,rfl⟩;congr 2
  try simp
  try omega
  try (rw [Bool.eq_iff_iff];simp only [Bool.or_eq_true,Bool.and_eq_true,decide_eq_true_eq,beq_iff_eq];omega)
theorem zX (c:UInt8) (w:World):Calls Tryz.prog 102 #[.int .u8 (c.toNat:Int)] w fun e w'=>e= .returned (.bool (bL c))∧w'=w:=by
 unfold bL;generalize c.toNat=n;go_enter Tryz.func102,Tryz.ntmps102;go_wp2_with fail
 all_goals
  go_ret;refine⟨?_,rfl⟩;congr 2
  try simp
  try omega
  try (rw [Bool.eq_iff_iff];simp only [Bool.or_eq_true,Bool.and_eq_true,decide_eq_true_eq,beq_iff_eq];omega)
theorem vR (c:UInt8) (w:World):Calls Tryz.prog 103 #[.int .u8 (c.toNat:Int)] w fun e w'=>e= .returned (.bool (dF c))∧w'=w:=by
 unfold dF;generalize c.toNat=n;go_enter Tryz.func103,Tryz.ntmps103;go_wp2_with fail
 all_goals
  go_ret;refine⟨?_,rfl⟩;congr 2
  try simp
  try omega
  try (rw [Bool.eq_iff_iff];simp only [Bool.not_eq_true',bne_iff_ne,ne_eq,decide_eq_false_iff_not];omega)
theorem zY (c:UInt8) (w:World):Calls Tryz.prog 119 #[.int .u8 (c.toNat:Int)] w fun e w'=>e= .returned (.bool (bE c))∧w'=w:=by
 have hi:bE c=(gX c || bY c):=rfl;rw [hi];clear hi;cases hl:gX c
 ·go_enter Tryz.func119,Tryz.ntmps119;go_wp2_with fail;refine(gL c _).mono ?_;rintro e w1 ⟨rfl,rfl⟩;rw [hl];go_wp2_with fail;refine(kZ c _).mono ?_;rintro e w1 ⟨rfl,rfl⟩;go_wp2_with fail;go_ret;exact⟨rfl,rfl⟩
 ·go_enter Tryz.func119,Tryz.ntmps119;go_wp2_with fail;refine(gL c _).mono ?_;rintro e w1 ⟨rfl,rfl⟩;rw [hl];go_wp2_with fail;go_ret;exact⟨rfl,rfl⟩
theorem dO (s:Bt):(ByteArray.mk s.toArray).size=s.length:=by simp [ByteArray.size]
theorem gQ (s:Bt) (k:Nat) (h:k<s.length):(ByteArray.mk s.toArray)[k]'(by rw [dO];exact h)=s[k]:=by simp [ByteArray.getElem_eq_getElem_data]
theorem Ig (s:Bt) (w:World) (hs:s.length≤281474976710656):Calls Tryz.prog 101 #[sv s, .func (.func 102) #[] #[]] w fun e w'=>e= .returned (.int .i64 (bN bL s:Nat))∧w'=w:=by
 have hsz:=dO s;go_enter Tryz.func101,Tryz.ntmps101;go_wp2_with fail
 go_loop [5,8] (fun v5 v8=>∃k:Nat,v8= .int .i64 k∧k≤s.length∧∀j (hj:j<s.length),j<k→bL s[j]=true) (fun _ v8=>s.length - (intOf v8).toNat)
 case atStart=>exact⟨0,rfl,by omega,fun j hj h=>by omega⟩
 case round=>
  obtain⟨k,rfl,hk,hall⟩:=hrel;by_cases hlt:k<s.length
  ·have hix:=gQ s k hlt;have hrow:=fun hn=>wU (p:=bL) hlt (fun j hj=>hall j (by omega) hj) hn;have hnext:bL s[k]=true→∀j (hj:j<s.length),j<k+1→bL s[j]=true:=by
    intro h j hj hjk;rcases Nat.lt_or_ge j k with h1 | h1
    ·exact hall j hj h1
    ·obtain rfl:j=k:=by omega
     exact h
   have dP:=hid hrow;have yc:=hid hnext;clear hall hrow hnext;generalize hX:s[k]=X at*
   cases hq:bL X
   ·have hres:=dP.out hq;go_wp2_with fail;refine(zX X _).mono ?_;rintro e w1 ⟨rfl,rfl⟩;rw [hq];go_wp2_with fail;go_ret;exact⟨by rw [hres];rfl,rfl⟩
   ·have hall:=yc.out hq;have Ey:=hid hall;clear hall;go_wp2_with fail;refine(zX X _).mono ?_;rintro e w1 ⟨rfl,rfl⟩;rw [hq];go_wp2_with fail
    go_round
    case rel=>exact⟨k+1,rfl,by omega,Ey.out⟩
    case measure=>simp [intOf];omega
  ·obtain rfl:k=s.length:=by omega
   have hres:=sG (p:=bL) (s:=s) (fun j hj=>hall j hj hj);clear hall;go_wp2_with fail;go_ret
   first | exact⟨rfl,rfl⟩ | exact⟨by rw [hres];rfl,rfl⟩
theorem zZ (s:Bt) (w:World) (hs:s.length≤281474976710656):Calls Tryz.prog 101 #[sv s, .func (.func 119) #[] #[]] w fun e w'=>e= .returned (.int .i64 (bN bE s:Nat))∧w'=w:=by
 have hsz:=dO s;go_enter Tryz.func101,Tryz.ntmps101;go_wp2_with fail
 go_loop [5,8] (fun v5 v8=>∃k:Nat,v8= .int .i64 k∧k≤s.length∧∀j (hj:j<s.length),j<k→bE s[j]=true) (fun _ v8=>s.length - (intOf v8).toNat)
 case atStart=>exact⟨0,rfl,by omega,fun j hj h=>by omega⟩
 case round=>
  obtain⟨k,rfl,hk,hall⟩:=hrel;by_cases hlt:k<s.length
  ·have hix:=gQ s k hlt;have hrow:=fun hn=>wU (p:=bE) hlt (fun j hj=>hall j (by omega) hj) hn;have hnext:bE s[k]=true→∀j (hj:j<s.length),j<k+1→bE s[j]=true:=by
    intro h j hj hjk;rcases Nat.lt_or_ge j k with h1 | h1
    ·exact hall j hj h1
    ·obtain rfl:j=k:=by omega
     exact h
   have dP:=hid hrow;have yc:=hid hnext;clear hall hrow hnext;generalize hX:s[k]=X at*
   cases hq:bE X
   ·have hres:=dP.out hq;go_wp2_with fail;refine(zY X _).mono ?_;rintro e w1 ⟨rfl,rfl⟩;rw [hq];go_wp2_with fail;go_ret;exact⟨by rw [hres];rfl,rfl⟩
   ·have hall:=yc.out hq;have Ey:=hid hall;clear hall;go_wp2_with fail;refine(zY X _).mono ?_;rintro e w1 ⟨rfl,rfl⟩;rw [hq];go_wp2_with fail
    go_round
    case rel=>exact⟨k+1,rfl,by omega,Ey.out⟩
    case measure=>simp [intOf];omega
  ·obtain rfl:k=s.length:=by omega
   have hres:=sG (p:=bE) (s:=s) (fun j hj=>hall j hj hj);clear hall;go_wp2_with fail;go_ret
   first | exact⟨rfl,rfl⟩ | exact⟨by rw [hres];rfl,rfl⟩
theorem Ih (s:Bt) (w:World) (hs:s.length≤281474976710656):Calls Tryz.prog 101 #[sv s, .func (.func 106) #[] #[]] w fun e w'=>e= .returned (.int .i64 (bN bY s:Nat))∧w'=w:=by
 have hsz:=dO s;go_enter Tryz.func101,Tryz.ntmps101;go_wp2_with fail
 go_loop [5,8] (fun v5 v8=>∃k:Nat,v8= .int .i64 k∧k≤s.length∧∀j (hj:j<s.length),j<k→bY s[j]=true) (fun _ v8=>s.length - (intOf v8).toNat)
 case atStart=>exact⟨0,rfl,by omega,fun j hj h=>by omega⟩
 case round=>
  obtain⟨k,rfl,hk,hall⟩:=hrel;by_cases hlt:k<s.length
  ·have hix:=gQ s k hlt;have hrow:=fun hn=>wU (p:=bY) hlt (fun j hj=>hall j (by omega) hj) hn;have hnext:bY s[k]=true→∀j (hj:j<s.length),j<k+1→bY s[j]=true:=by
    intro h j hj hjk;rcases Nat.lt_or_ge j k with h1 | h1
    ·exact hall j hj h1
    ·obtain rfl:j=k:=by omega
     exact h
   have dP:=hid hrow;have yc:=hid hnext;clear hall hrow hnext;generalize hX:s[k]=X at*
   cases hq:bY X
   ·have hres:=dP.out hq;go_wp2_with fail;refine(kZ X _).mono ?_;rintro e w1 ⟨rfl,rfl⟩;rw [hq];go_wp2_with fail;go_ret;exact⟨by rw [hres];rfl,rfl⟩
   ·have hall:=yc.out hq;have Ey:=hid hall;clear hall;go_wp2_with fail;refine(kZ X _).mono ?_;rintro e w1 ⟨rfl,rfl⟩;rw [hq];go_wp2_with fail
    go_round
    case rel=>exact⟨k+1,rfl,by omega,Ey.out⟩
    case measure=>simp [intOf];omega
  ·obtain rfl:k=s.length:=by omega
   have hres:=sG (p:=bY) (s:=s) (fun j hj=>hall j hj hj);clear hall;go_wp2_with fail;go_ret
   first | exact⟨rfl,rfl⟩ | exact⟨by rw [hres];rfl,rfl⟩
theorem Ci (s:Bt) (w:World) (hs:s.length≤281474976710656):Calls Tryz.prog 101 #[sv s, .func (.func 103) #[] #[]] w fun e w'=>e= .returned (.int .i64 (bN dF s:Nat))∧w'=w:=by
 have hsz:=dO s;go_enter Tryz.func101,Tryz.ntmps101;go_wp2_with fail
 go_loop [5,8] (fun v5 v8=>∃k:Nat,v8= .int .i64 k∧k≤s.length∧∀j (hj:j<s.length),j<k→dF s[j]=true) (fun _ v8=>s.length - (intOf v8).toNat)
 case atStart=>exact⟨0,rfl,by omega,fun j hj h=>by omega⟩
 case round=>
  obtain⟨k,rfl,hk,hall⟩:=hrel;by_cases hlt:k<s.length
  ·have hix:=gQ s k hlt;have hrow:=fun hn=>wU (p:=dF) hlt (fun j hj=>hall j (by omega) hj) hn;have hnext:dF s[k]=true→∀j (hj:j<s.length),j<k+1→dF s[j]=true:=by
    intro h j hj hjk;rcases Nat.lt_or_ge j k with h1 | h1
    ·exact hall j hj h1
    ·obtain rfl:j=k:=by omega
     exact h
   have dP:=hid hrow;have yc:=hid hnext;clear hall hrow hnext;generalize hX:s[k]=X at*
   cases hq:dF X
   ·have hres:=dP.out hq;go_wp2_with fail;refine(vR X _).mono ?_;rintro e w1 ⟨rfl,rfl⟩;rw [hq];go_wp2_with fail;go_ret;exact⟨by rw [hres];rfl,rfl⟩
   ·have hall:=yc.out hq;have Ey:=hid hall;clear hall;go_wp2_with fail;refine(vR X _).mono ?_;rintro e w1 ⟨rfl,rfl⟩;rw [hq];go_wp2_with fail
    go_round
    case rel=>exact⟨k+1,rfl,by omega,Ey.out⟩
    case measure=>simp [intOf];omega
  ·obtain rfl:k=s.length:=by omega
   have hres:=sG (p:=dF) (s:=s) (fun j hj=>hall j hj hj);clear hall;go_wp2_with fail;go_ret
   first | exact⟨rfl,rfl⟩ | exact⟨by rw [hres];rfl,rfl⟩
theorem uP:iF Tryz.prog 25 9 (sv []) 1 16:=⟨Tryz.underlying25,by kernel_rfl,rfl,by decide⟩
def jX (w:World):Prop:=mH w∧Lib.TabIs Tryz.prog w "strings.asciiSpace" .u8 Lib.asciiSpaceTab
def z8 (w:World):Prop:=Lib.TabIs Tryz.prog w "internal/strconv.uint64pow10" .u64 Lib.pow10Tab∧Lib.TabIs Tryz.prog w "strings.asciiSpace" .u8 Lib.asciiSpaceTab
theorem z8.below {w w':World} (h:z8 w) (hb:Below w.heap.size w w'):z8 w':=⟨kY h.1 hb,kY h.2 hb⟩
theorem jX.t {w:World} (h:jX w):z8 w:=⟨h.1.tab,h.2⟩
theorem jX.below {w w':World} (h:jX w) (hb:Below w.heap.size w w'):jX w':=⟨h.1.below hb,kY h.2 hb⟩
def yg:Bt:=[97,110,100,32,97,110,121,32,97,115,32,98,111,111,108,32,101,108,115,101,32,101,120,112,111,114,116,32,102,97,108,115,101,32,102,110,32,102,117,110,99,116,105,111,110,32,105,102,32,105,109,112,111,114,116,32,105,110,32,105,110,116,32,105,115,32,108,101,116,32,110,111,116,32,110,117,108,108,32,111,114,32,112,114,105,110,116,32,114,101,97,100,32,114,101,99,111,114,100,32,115,116,114,32,116,104,101,110,32,116,114,117,101,32,119,105,116,104]
theorem Bd:Lib.fields yg=fB:=by kernel_rfl
theorem Cj:(yg.all fun b=>decide (b.toNat<128))=true:=by kernel_rfl
theorem yh:(⟨yg.toArray⟩:ByteArray).data.toList=yg:=rfl
theorem uQ (w:World) (hL:z8 w):Calls Tryz.prog 121 #[] w fun e w'=>∃v,e= .returned v∧Ss w' w'.heap.size v fB∧Below w.heap.size w w':=by
 go_enter Tryz.func121,Tryz.ntmps121;go_wp2_with fail;refine(Tryz.strings_Fields ⟨yg.toArray⟩ _ ?h1 ?h2 hL.2).mono ?_
 case h1=>decide
 case h2=>
  intro j b hb;rw [yh]at hb;exact of_decide_eq_true (List.all_eq_true.1 Cj b (List.mem_of_getElem? hb))
 rintro e w1 ⟨rfl,rfl⟩;rw [yh,Bd];have hss:Ss (w.alloc (.cells (fB.map fun l=>Value.string ⟨l.toArray⟩).toArray 9)) (w.alloc (.cells (fB.map fun l=>Value.string ⟨l.toArray⟩).toArray 9)).heap.size (.slice (some ⟨w.heap.size,0,none⟩) fB.length fB.length) fB:=by
  have:=fT w (fB.map fun l=>Value.string ⟨l.toArray⟩).toArray 9 1 fB.length (by simp) (by decide);rw [World.size_alloc];simpa [Ss,mZ]using this
 have hb:Below w.heap.size w (w.alloc (.cells (fB.map fun l=>Value.string ⟨l.toArray⟩).toArray 9)):=(Below.refl _ _).alloc (Nat.le_refl _) _;generalize(w.alloc (.cells (fB.map fun l=>Value.string ⟨l.toArray⟩).toArray 9))=w2 at*
 generalize fB.length=n at*
 go_wp2_with fail;go_ret;exact⟨_,rfl,hss,hb⟩
theorem Ii (v:Value) (l:List Bt) (x:Bt) (w:World) (hv:Ss w w.heap.size v l):
  Calls Tryz.prog 163 #[v,sv x] w fun e w'=>(∃k:Int,e= .returned (.int .i64 k)∧(0≤k↔x∈l))∧w'=w:=by
 obtain⟨A,c,rfl,hn,hc,hx⟩:=hv.open_;unfold maxLen at hc;go_enter Tryz.func163,Tryz.ntmps163;go_wp2_with fail
 go_loop [5,8] (fun v5 v8=>∃k:Nat,v8= .int .i64 k∧k≤l.length∧x ∉ l.take k) (fun _ v8=>l.length - (intOf v8).toNat)
 case atStart=>exact⟨0,rfl,by omega,by simp⟩
 case round=>
  obtain⟨k,rfl,hk,hnot⟩:=hrel;by_cases hlt:k<l.length
  ·obtain⟨b,o,rfl,hb,hcell⟩:=hx (by omega);have d1:=hcell k hlt;have e1:x=l[k]→x∈l:=fun h=>by rw [h];exact List.getElem_mem hlt
   have e2:¬x=l[k]→x ∉ l.take (k+1):=fun h hh=>by
    rw [List.take_succ_eq_append_getElem hlt,List.mem_append]at hh;rcases hh with hh | hh
    ·exact hnot hh
    ·simp at hh;exact h hh
   clear hcell hx hv hnot;generalize l[k]=X at*
   by_cases hX:x=X
   ·have e3:=e1 hX;have hq:(x==X)=true:=by rw [beq_iff_eq];exact hX
    clear hX e1 e2;go_wp2_with fail;go_ret;exact⟨⟨k,rfl,by simp [e3]⟩,rfl⟩
   ·have e3:=e2 hX;have hq:(x==X)=false:=by rw [beq_eq_false_iff_ne];exact hX
    clear hX e1 e2;go_wp2_with fail
    go_round
    case rel=>exact⟨k+1,rfl,by omega,e3⟩
    case measure=>simp [intOf];omega
  ·obtain rfl:k=l.length:=by omega
   rw [List.take_length]at hnot;go_wp2_with fail;go_ret;exact⟨⟨-1,rfl,by simp [hnot]⟩,rfl⟩
theorem nS (v:Value) (l:List Bt) (x:Bt) (w:World) (hv:Ss w w.heap.size v l):
  Calls Tryz.prog 120 #[v,sv x] w fun e w'=>e= .returned (.bool (decide (x∈l)))∧w'=w:=by
 go_enter Tryz.func120,Tryz.ntmps120;go_wp2_with fail;refine(Ii v l x _ hv).mono ?_;rintro e w1 ⟨⟨k,rfl,hk⟩,rfl⟩;by_cases h:x∈l
 ·have h0:=hk.2 h;clear hk;go_wp2_with fail;go_ret;exact⟨by simp [h],rfl⟩
 ·have h0:¬(0≤k):=fun hh=>h (hk.1 hh);clear hk;go_wp2_with fail;go_ret;exact⟨by first | (simp [h];done) | (simp [h];exact h0) | (simp [h];omega),rfl⟩
def dw (w:World) (bl bp:Nat) (s:Bt) (p:Nat ×Nat) (bW:Value):Prop:=
 w.heap[bl]? =some (.cells #[sv s, .int .i64 p.1, .int .i64 p.2, .map (some bp),bW] 110 (0,0))
section
variable {w w':World} {bl bp:Nat} {s:Bt} {p:Nat ×Nat} {bW:Value}
theorem dw.c0 (h:dw w bl bp s p bW):w.cell? ⟨bl,0,none⟩=some (sv s):=(cell_of_row _ _ _ _ _ (0,0) h).trans rfl
theorem dw.c1 (h:dw w bl bp s p bW):w.cell? ⟨bl,1,none⟩=some (.int .i64 p.1):=(cell_of_row _ _ _ _ _ (0,0) h).trans rfl
theorem dw.c2 (h:dw w bl bp s p bW):w.cell? ⟨bl,2,none⟩=some (.int .i64 p.2):=(cell_of_row _ _ _ _ _ (0,0) h).trans rfl
theorem dw.c3 (h:dw w bl bp s p bW):w.cell? ⟨bl,3,none⟩=some (.map (some bp)):=(cell_of_row _ _ _ _ _ (0,0) h).trans rfl
theorem dw.c4 (h:dw w bl bp s p bW):w.cell? ⟨bl,4,none⟩=some bW:=(cell_of_row _ _ _ _ _ (0,0) h).trans rfl
theorem dw.free (h:dw w bl bp s p bW) (i:Nat):w.frozen? ⟨bl,i,none⟩=false:=by simp [World.frozen?,show w.heap[bl]? = _ from h]
theorem dw.lt (h:dw w bl bp s p bW):bl<w.heap.size:=block_lt h
theorem dw.turn {G:Nat→Prop} (h:dw w bl bp s p bW) (t:Turn G w w') (hd:¬G bl):dw w' bl bp s p bW:=ah h t hd
end
theorem Ck {w wr:World} {F:Nat→Prop} {b off:Nat} (t:Turn F w wr) (hb:b<w.heap.size) (hF:¬F b) {u:Value} (h:w.cell? ⟨b,off,none⟩=some u):wr.cell? ⟨b,off,none⟩=some u:=by
 rw [←h];simp only [World.cell?,t.block hb hF]
theorem MX (p:Nat ×Nat) (s:Bt):(fu p s).1≤p.1+s.length∧(fu p s).2≤p.2+s.length+1:=by
 induction s generalizing p with
 | nil=>exact⟨Nat.le_refl _,by simp [fu]⟩
 | cons c s ih=>
  have h:fu p (c :: s)=fu (oI p c) s:=rfl;rw [h];obtain⟨a,b⟩:=ih (oI p c);have h1:(oI p c).1≤p.1+1∧(oI p c).2≤p.2+1∨(oI p c).2≤1∧(oI p c).1≤p.1+1:=by
   unfold oI;split
   ·exact .inr ⟨Nat.le_refl _,Nat.le_refl _⟩
   ·exact .inl ⟨Nat.le_succ _,Nat.le_refl _⟩
  simp only [List.length_cons];omega
theorem nT (s:Bt) (a b:Nat):(ByteArray.extract ⟨s.toArray⟩ a b).data.toList=(s.take b).drop a:=by
 rw [ByteArray.data_extract];simp [List.extract_eq_take_drop,List.drop_take]
theorem nU (s:Bt) (a b:Nat):Value.string (ByteArray.extract ⟨s.toArray⟩ a b)=sv ((s.take b).drop a):=by
 rw [←nT]
theorem Ij {P:Program} (w:World) (src dst e:TypeId) (hs:P.underlying src=some .string) (hd:P.underlying dst=some (.slice e)) (he:P.underlying e=some (.int .u8)) (s:Bt) (n:Nat) (hn:n≤s.length):
  ∃C w5,(convert src dst (.string (ByteArray.extract ⟨s.toArray⟩ 0 n))).run P w= .ok (.slice (some ⟨w.heap.size,0,none⟩) n C) w5∧Turn (fun _=>False) w w5∧w.heap.size<w5.heap.size∧
   ∀j (hj:j<n),w5.cell? ⟨w.heap.size,j,none⟩=some (.int .u8 ((s[j]'(by omega)).toNat:Int)):=by
 have hsz:(ByteArray.extract ⟨s.toArray⟩ 0 n).size=n:=by
  have h:(ByteArray.extract ⟨s.toArray⟩ 0 n).data.toList.length=(ByteArray.extract ⟨s.toArray⟩ 0 n).size:=Array.length_toList;rw [←h,nT];simp;omega
 have hrun:=Lib.run_convert_string_bytes (P:=P) w src dst e (ByteArray.extract ⟨s.toArray⟩ 0 n) hs hd he;have hcell:=Lib.bytesWorld_cell w e (ByteArray.extract ⟨s.toArray⟩ 0 n);have hsize:=Lib.bytesWorld_size w e (ByteArray.extract ⟨s.toArray⟩ 0 n);have hold:=Lib.bytesWorld_at_old w e (ByteArray.extract ⟨s.toArray⟩ 0 n);rw [hsz]at hrun hcell;refine⟨_, _,hrun,⟨rfl,rfl,rfl,by rw [hsize];omega,fun k hk _=>hold k hk⟩,by rw [hsize];omega,fun j hj=> ?_⟩;rw [hcell j hj,nT];simp [List.getD_eq_getElem?_getD,List.getElem?_take,hj,List.getElem?_eq_getElem (show j<s.length by omega)]
theorem dw.set1 {w:World} {bl bp:Nat} {s:Bt} {p:Nat ×Nat} {bW:Value} (h:dw w bl bp s p bW) (n:Nat):dw (w.setCell ⟨bl,1,none⟩ (.int .i64 n)) bl bp s (n,p.2) bW:=heap_setCell_same w bl 1 _ _ _ h
theorem dw.set2 {w:World} {bl bp:Nat} {s:Bt} {p:Nat ×Nat} {bW:Value} (h:dw w bl bp s p bW) (n:Nat):dw (w.setCell ⟨bl,2,none⟩ (.int .i64 n)) bl bp s (p.1,n) bW:=heap_setCell_same w bl 2 _ _ _ h
theorem dw.set0 {w:World} {bl bp:Nat} {s:Bt} {p:Nat ×Nat} {bW:Value} (h:dw w bl bp s p bW) (s':Bt):dw (w.setCell ⟨bl,0,none⟩ (sv s')) bl bp s' p bW:=heap_setCell_same w bl 0 _ _ _ h
theorem dw.Cm {w:World} {bl bp:Nat} {s:Bt} {p:Nat ×Nat} {bW:Value} (h:dw w bl bp s p bW) (v:Value):dw (w.setCell ⟨bl,4,none⟩ v) bl bp s p v:=heap_setCell_same w bl 4 _ _ _ h
theorem pE (w:World) (bl bp:Nat) (s:Bt) (p:Nat ×Nat) (bW:Value) (n:Nat) (hL:dw w bl bp s p bW) (hn:n≤s.length) (hs:s.length≤100000) (hp:p.1≤1000000∧p.2≤1000000):
  Calls Tryz.prog 58 #[.pointer (some ⟨bl,0,none⟩), .int .i64 n] w fun e w'=>
   e= .returned (.tuple #[])∧dw w' bl bp (s.drop n) (fu p (s.take n)) bW∧Turn (fun k=>k=bl) w w':=by
 have hsz:=dO s;have c0:=hL.c0;obtain⟨C,w5,Co,JA,Pg,hcells⟩:=Ij (P:=Tryz.prog) w 9 163 5 Tryz.underlying9 Tryz.underlying163 Tryz.underlying5 s n hn;have hL5:=hL.turn JA id;have hbl:=hL.lt;have HC:=hid hcells;clear hcells;go_enter Tryz.func58,Tryz.ntmps58;go_wp2_with fail;go_loopw [14] (fun v14 wr=>∃k:Nat,v14= .int .i64 k∧k≤n∧dw wr bl bp s (fu p (s.take k)) bW∧Turn (fun k=>k=bl) w5 wr) (fun v14 _=>n - (intOf v14).toNat)
 case atStart=>exact⟨0,rfl,by omega,hL5,Turn.refl _ _⟩
 case round=>
  obtain⟨k,rfl,hk,BQ,htr⟩:=hrel;have hq:=MX p (s.take k);have hkl:(s.take k).length≤k:=by simp;omega
  by_cases hlt:k<n
  ·have hnext:=H8 (p:=p) (show k<s.length by omega);have d1:=Ck htr Pg (by omega) (HC.out k hlt);generalize fu p (s.take k)=q at*
   generalize s[k]=X at*
   have c1:=BQ.c1;have c2:=BQ.c2;have f1:=BQ.free 1;have f2:=BQ.free 2;have hb:q.1<2000000∧q.2<2000000:=by omega
   have rY:=hid hnext;clear hnext hq hL hL5 c0 Co;by_cases hX:X.toNat=10
   ·have hl1:=((BQ.set2 (q.2+1)).set1 (q.1+1)).set2 1;have ht1:=((htr.trans (ay _ bl 2 (.int .i64 ((q.2+1:Nat):Int))) (fun _ _ h=>h)).trans (ay _ bl 1 (.int .i64 ((q.1+1:Nat):Int))) (fun _ _ h=>h)).trans (ay _ bl 2 (.int .i64 ((1:Nat):Int))) (fun _ _ h=>h);have e1:oI q X=(q.1+1,1):=by unfold oI;rw [if_pos hX]
    have Ph:=hid hl1;have HT1:=hid ht1;have HE:=hid e1;clear BQ htr hl1 ht1 e1;go_wp2_with fail
    go_roundw
    case rel=>exact⟨k+1,rfl,by omega,by rw [rY.out,HE.out];exact Ph.out,HT1.out⟩
    case measure=>simp [intOf];omega
   ·have hl1:=BQ.set2 (q.2+1);have ht1:=htr.trans (ay _ bl 2 (.int .i64 ((q.2+1:Nat):Int))) (fun _ _ h=>h);have e1:oI q X=(q.1,q.2+1):=by unfold oI;rw [if_neg hX]
    have Ph:=hid hl1;have HT1:=hid ht1;have HE:=hid e1;clear BQ htr hl1 ht1 e1;go_wp2_with fail
    go_roundw
    case rel=>exact⟨k+1,rfl,by omega,by rw [rY.out,HE.out];exact Ph.out,HT1.out⟩
    case measure=>simp [intOf];omega
  ·obtain rfl:k=n:=by omega
   have c0r:=BQ.c0;have f0:=BQ.free 0;have hl1:=BQ.set0 (s.drop k);have ht1:=((JA.mono (G:=fun k=>k=bl) (fun _ _ h=>h.elim)).trans htr (fun _ _ h=>h)).trans (ay _ bl 0 (sv (s.drop k))) (fun _ _ h=>h);have he:Value.string (ByteArray.extract ⟨s.toArray⟩ k s.length)=sv (s.drop k):=by rw [nU,List.take_length]
   have Ph:=hid hl1;have HT1:=hid ht1;clear hL hL5 BQ htr JA hl1 ht1 hq c0 Co;go_wp2_with fail;go_end0;exact⟨rfl,Ph.out,HT1.out⟩
theorem yj (s:Bt):eG s≤s.length:=by
 unfold eG;have h1:=iL bL s;split
 ·have h2:=iL dF (s.drop (bN bL s));rw [List.length_drop]at h2;omega
 ·omega
theorem Ez (s:Bt) (p:Nat ×Nat):s.drop (aW s)=(s.drop (eG s)).drop (aW (s.drop (eG s)))∧fu p (s.take (aW s))=fu (fu p (s.take (eG s))) ((s.drop (eG s)).take (aW (s.drop (eG s)))):=by
 have h:=JO s;generalize aW (s.drop (eG s))=m at*
 rw [h];refine⟨by rw [List.drop_drop], ?_⟩;rw [List.take_add,oO]
def textOf (w:World) (bl:Nat):Nat:=match w.cell? ⟨bl,0,none⟩with | some (.string b)=>b.size | _=>0
theorem nk {w:World} {bl bp:Nat} {s:Bt} {p:Nat ×Nat} {bW:Value} (h:dw w bl bp s p bW):textOf w bl=s.length:=by
 unfold textOf;rw [h.c0];exact dO s
def sQ (w:World) (bl bp:Nat) (s:Bt) (p:Nat ×Nat) (bW:Value) (wr:World):Prop:=
 ∃(c:Bt) (q:Nat ×Nat),dw wr bl bp c q bW∧Turn (fun k=>k=bl) w wr∧c.length≤s.length∧s.drop (aW s)=c.drop (aW c)∧fu p (s.take (aW s))=fu q (c.take (aW c))∧
  q.1+c.length≤p.1+s.length∧q.2+c.length≤p.2+s.length∧1≤q.2
theorem nu {p:Nat ×Nat} (s:Bt) (h:1≤p.2):(fu p s).1≤p.1+s.length∧(fu p s).2≤p.2+s.length∧1≤(fu p s).2:=by
 induction s generalizing p with
 | nil=>exact⟨Nat.le_refl _,Nat.le_refl _,h⟩
 | cons c s ih=>
  have h0:fu p (c :: s)=fu (oI p c) s:=rfl;rw [h0];have h1:(oI p c).1≤p.1+1∧(oI p c).2≤p.2+1∧1≤(oI p c).2:=by
   unfold oI;split
   ·exact⟨Nat.le_refl _,by show 1≤ _;omega,Nat.le_refl _⟩
   ·exact⟨Nat.le_succ _,Nat.le_refl _,by show 1≤ _+1;omega⟩
  obtain⟨a,b,d⟩:=ih h1.2.2;simp only [List.length_cons];omega
theorem sQ.step {w wr w2:World} {bl bp:Nat} {s c:Bt} {p q:Nat ×Nat} {bW:Value} (htr:Turn (fun k=>k=bl) w wr) (hcl:c.length≤s.length) (hd:s.drop (aW s)=c.drop (aW c)) (ha:fu p (s.take (aW s))=fu q (c.take (aW c)))
  (hq1:q.1+c.length≤p.1+s.length) (hq2:q.2+c.length≤p.2+s.length) (hq3:1≤q.2) (h:dw w2 bl bp (c.drop (eG c)) (fu q (c.take (eG c))) bW) (ht:Turn (fun k=>k=bl) wr w2) (h0:0<eG c):
  sQ w bl bp s p bW w2∧textOf w2 bl<c.length:=by
 obtain⟨e1,e2⟩:=Ez c q;have hone:=yj c;have hl:=nu (c.take (eG c)) hq3;rw [List.length_take,Nat.min_eq_left hone]at hl;refine⟨⟨_, _,h,htr.trans ht (fun _ _ h=>h), ?_,hd.trans e1,ha.trans e2, ?_, ?_,hl.2.2⟩, ?_⟩
 ·rw [List.length_drop];omega
 ·rw [List.length_drop];omega
 ·rw [List.length_drop];omega
 ·rw [nk h,List.length_drop];omega
theorem rC (w:World) (bl bp:Nat) (s:Bt) (p:Nat ×Nat) (bW:Value) (hL:dw w bl bp s p bW) (hs:s.length≤100000) (hp:p.1≤700000∧p.2≤700000) (hp1:1≤p.2):
  Calls Tryz.prog 56 #[.pointer (some ⟨bl,0,none⟩)] w fun e w'=>
   e= .returned (.tuple #[])∧dw w' bl bp (s.drop (aW s)) (fu p (s.take (aW s))) bW∧Turn (fun k=>k=bl) w w':=by
 go_enter Tryz.func56,Tryz.ntmps56;go_wp2_with fail;go_loopw [2] (fun _ wr=>sQ w bl bp s p bW wr) (fun _ wr=>textOf wr bl)
 case atStart=>exact⟨s,p,hL,Turn.refl _ _,Nat.le_refl _,rfl,rfl,Nat.le_refl _,Nat.le_refl _,hp1⟩
 case round=>
  obtain⟨c,q,BQ,htr,hcl,hd,ha,hq1,hq2,hq3⟩:=hrel;have hlen:=nk BQ;have c0:=BQ.c0;have hsz:=dO c;have hrow:=iL bL c;have JZ:=hid (fun w2 h ht h0=>sQ.step (w2:=w2) (bp:=bp) (bW:=bW) htr hcl hd ha hq1 hq2 hq3 h ht h0);have hz:eG c=0→dw wr bl bp (s.drop (aW s)) (fu p (s.take (aW s))) bW:=by
   intro h;rw [hd,ha,H7 h];exact BQ
  have HZ:=hid hz;have HL:=hid BQ;have HLEN:=hid hlen;have HT:=hid htr;have he:Value.string (ByteArray.extract ⟨c.toArray⟩ (bN bL c) c.length)=sv (c.drop (bN bL c)):=by rw [nU,List.take_length]
  have hone:eG c=bN bL c+(if((c.drop (bN bL c)).head?).map UInt8.toNat=some 35 then bN dF (c.drop (bN bL c))else 0):=rfl;have hle:=yj c;have hdl:(c.drop (bN bL c)).length=c.length - bN bL c:=List.length_drop;clear hd ha hz BQ htr hlen;go_wp2_with fail;refine(Ig c _ (by omega)).mono ?_;rintro e w1 ⟨rfl,rfl⟩;generalize hn:bN bL c=n at*
  generalize hr:c.drop n=r at*
  have Zq:=hid hdl;clear hdl;cases r with
  | nil=>
   simp only [List.head?_nil,Option.map_none,reduceCtorEq,if_false,Nat.add_zero]at hone;by_cases h0:n=0
   ·have hfin:=HZ.out (by omega);have uR:=hid hfin;clear hfin;subst h0;go_wp2_with fail
    (try simp only [Exit.inBlock,Exit.then]);refine bodyPost_ret (results_none rfl _ _ _) rfl ?_
    exact⟨rfl,uR.out,HT.out⟩
   ·have h0':¬((n:Nat):Int)=0:=by omega
    go_wp2_with fail;refine(pE w1 bl bp c q bW n HL.out (by omega) (by omega) (by omega)).mono ?_;rintro e w2 ⟨rfl,hl2,ht2⟩;obtain⟨vT,hm2⟩:=JZ.out w2 (by rw [hone];exact hl2) ht2 (by omega);have Cq:=hid vT;have Eb:=hid hm2;clear vT hm2 hl2 ht2;go_wp2_with fail
    go_roundw
    case rel=>exact Cq.out
    case measure=>have:=HLEN.out;have:=Eb.out;omega
  | cons d tl=>
   simp only [List.head?_cons,Option.map_some,Option.some.injEq]at hone;have hix:(ByteArray.mk (d :: tl).toArray)[0]'(by rw [dO];simp)=d:=gQ (d :: tl) 0 (by simp);have hsz2:=dO (d :: tl);by_cases hd:d.toNat=35
   ·rw [if_pos hd]at hone;have hn2:=iL dF (d :: tl);have aaP:bN dF (d :: tl)+n≤c.length:=by have:=Zq.out;omega
    have Zr:1≤bN dF (d :: tl):=oP (by unfold dF;simp [hd]);go_wp2_with fail;refine(Ci (d :: tl) _ (by have:=Zq.out;omega)).mono ?_;rintro e w1 ⟨rfl,rfl⟩;generalize bN dF (d :: tl)=n2 at*
    have h0':¬((n:Int)+(n2:Int))=0:=by omega
    have e12:(n:Int)+(n2:Int)=((n+n2:Nat):Int):=by omega
    have E12:=hid e12;clear e12;go_wp2_with fail;have e12:=E12.out
    try rw [e12]
    refine(pE w1 bl bp c q bW (n+n2) HL.out (by omega) (by omega) (by omega)).mono ?_;rintro e w2 ⟨rfl,hl2,ht2⟩;obtain⟨vT,hm2⟩:=JZ.out w2 (by rw [hone];exact hl2) ht2 (by omega);have Cq:=hid vT;have Eb:=hid hm2;clear vT hm2 hl2 ht2 e12;go_wp2_with fail
    go_roundw
    case rel=>exact Cq.out
    case measure=>have:=HLEN.out;have:=Eb.out;omega
   ·rw [if_neg hd,Nat.add_zero]at hone;by_cases h0:n=0
    ·have hfin:=HZ.out (by omega);have uR:=hid hfin;clear hfin;subst h0;go_wp2_with fail
     (try simp only [Exit.inBlock,Exit.then]);refine bodyPost_ret (results_none rfl _ _ _) rfl ?_
     exact⟨rfl,uR.out,HT.out⟩
    ·have h0':¬((n:Nat):Int)=0:=by omega
     go_wp2_with fail;refine(pE w1 bl bp c q bW n HL.out (by omega) (by omega) (by omega)).mono ?_;rintro e w2 ⟨rfl,hl2,ht2⟩;obtain⟨vT,hm2⟩:=JZ.out w2 (by rw [hone];exact hl2) ht2 (by omega);have Cq:=hid vT;have Eb:=hid hm2;clear vT hm2 hl2 ht2;go_wp2_with fail
     go_roundw
     case rel=>exact Cq.out
     case measure=>have:=HLEN.out;have:=Eb.out;omega
section
theorem bO {fn:Func} {t u v x:Tmp} (h:fn.results= #[.tmp t, .tmp u, .tmp v, .tmp x]) (tmps:Array Value) (P:Program) (w:World):
  (results fn tmps).run P w= .ok (.tuple #[tmps.getD t undef,tmps.getD u undef,tmps.getD v undef,tmps.getD x undef]) w:=by
 simp [results,h]
def wF:Int ⊕ (Int ×Bt ×Nat)→Value
 | .inl e=> .tuple #[.int .i64 0,sv [], .int .i64 0, .int .i64 e]
 | .inr (kd,t,n)=> .tuple #[.int .i64 kd,sv t, .int .i64 n, .int .i64 0]
def Bf (s:Bt):Int ⊕ (Int ×Bt ×Nat):=
 if 32<bN bE s then .inl 2 else if s.take (bN bE s)∈fB then .inr (2,s.take (bN bE s),bN bE s)else .inr (1,s.take (bN bE s),bN bE s)
def wX (s:Bt):Int ⊕ (Int ×Bt ×Nat):=if(eU (s.take (bN bY s))).2 then .inr (3,s.take (bN bY s),bN bY s)else .inl 3
theorem sS (s:Bt) (n:Nat):Value.string (ByteArray.extract ⟨s.toArray⟩ 0 n)=sv (s.take n):=by
 rw [nU,List.drop_zero]
theorem Ik (w:World) (bl bp:Nat) (s:Bt) (p:Nat ×Nat) (bW:Value) (hL:dw w bl bp s p bW) (hs:s.length≤100000) (hX:jX w):
  Calls Tryz.prog 105 #[.pointer (some ⟨bl,0,none⟩)] w fun e w'=>e= .returned (wF (Bf s))∧Below w.heap.size w w':=by
 have c0:=hL.c0;have hsz:=dO s;have hle:=iL bE s;have he:=sS s (bN bE s);have hR:Bf s=if 32<bN bE s then .inl 2 else if s.take (bN bE s)∈fB then .inr (2,s.take (bN bE s),bN bE s)else .inr (1,s.take (bN bE s),bN bE s):=rfl
 have hrow:=zZ s w (by omega);have dP:=hid hrow;clear hrow;generalize bN bE s=n at*
 by_cases h32:32<n
 ·rw [if_pos h32]at hR;rw [hR];clear hR;go_enter Tryz.func105,Tryz.ntmps105;go_wp2_with fail;refine dP.out.mono ?_;rintro e w1 ⟨rfl,rfl⟩;go_wp2_with fail;refine bodyPost_ret (bO rfl _ _ _) rfl ?_;exact⟨rfl,Below.refl _ _⟩
 ·rw [if_neg h32]at hR;by_cases hw:s.take n∈fB
  ·rw [if_pos hw]at hR;rw [hR];clear hR;go_enter Tryz.func105,Tryz.ntmps105;go_wp2_with fail;refine dP.out.mono ?_;rintro e w1 ⟨rfl,rfl⟩;go_wp2_with fail;refine(uQ _ hX.t).mono ?_;rintro e w2 ⟨v2,rfl,Pj,hb2⟩;go_wp2_with fail;refine(nS v2 fB (s.take n) _ Pj).mono ?_;rintro e w3 ⟨rfl,rfl⟩;rw [decide_eq_true hw];go_wp2_with fail;refine bodyPost_ret (bO rfl _ _ _) rfl ?_;exact⟨rfl,hb2⟩
  ·rw [if_neg hw]at hR;rw [hR];clear hR;go_enter Tryz.func105,Tryz.ntmps105;go_wp2_with fail;refine dP.out.mono ?_;rintro e w1 ⟨rfl,rfl⟩;go_wp2_with fail;refine(uQ _ hX.t).mono ?_;rintro e w2 ⟨v2,rfl,Pj,hb2⟩;go_wp2_with fail;refine(nS v2 fB (s.take n) _ Pj).mono ?_;rintro e w3 ⟨rfl,rfl⟩;rw [decide_eq_false hw];go_wp2_with fail;refine bodyPost_ret (bO rfl _ _ _) rfl ?_;exact⟨rfl,hb2⟩
theorem EA (w:World) (bl bp:Nat) (s:Bt) (p:Nat ×Nat) (bW:Value) (hL:dw w bl bp s p bW) (hs:s.length≤100000) (hX:jX w):
  Calls Tryz.prog 107 #[.pointer (some ⟨bl,0,none⟩)] w fun e w'=>e= .returned (wF (wX s))∧Below w.heap.size w w':=by
 have c0:=hL.c0;have hsz:=dO s;have hle:=iL bY s;have he:=sS s (bN bY s);have hR:wX s=if(eU (s.take (bN bY s))).2 then .inr (3,s.take (bN bY s),bN bY s)else .inl 3:=rfl
 have dP:=hid (Ih s w (by omega));generalize bN bY s=n at*
 have hpz:(ByteArray.mk (s.take n).toArray).size≤281474976710656:=by rw [dO,List.length_take];omega
 have HP:=hid (zW ⟨(s.take n).toArray⟩ w hpz hX.1);clear hpz;have hpv:eU (ByteArray.mk (s.take n).toArray).data.toList=eU (s.take n):=rfl;rw [hpv]at HP;clear hpv;generalize eU (s.take n)=r at*
 obtain⟨i,q⟩:=r;simp only at hR HP;rw [hR];clear hR;go_enter Tryz.func107,Tryz.ntmps107;go_wp2_with fail;refine dP.out.mono ?_;rintro e w1 ⟨rfl,rfl⟩;go_wp2_with fail;refine HP.out.mono ?_;rintro e w2 ⟨rfl,hb2⟩;have c02:=(hb2.cell (p:=⟨bl,0,none⟩) hL.lt).trans c0;cases q
 ·go_wp2_with fail;refine bodyPost_ret (bO rfl _ _ _) rfl ?_;exact⟨rfl,hb2⟩
 ·go_wp2_with fail
  go_quiet (fail)
  go_wp2_with fail;refine bodyPost_ret (bO rfl _ _ _) rfl ?_;exact⟨rfl,hb2.trans (bF w2 _ |>.mono hb2.size)⟩
theorem sU:iF Tryz.prog 163 5 (.int .u8 0) 1 1:=⟨Tryz.underlying163,by kernel_rfl,rfl,by decide⟩
theorem MZ {P:Program} (w:World) (src dst e:TypeId) (hs:P.underlying src=some .string) (hd:P.underlying dst=some (.slice e)) (he:P.underlying e=some (.int .u8)) (s:Bt):
  ∃C w5,(convert src dst (sv s)).run P w= .ok (.slice (some ⟨w.heap.size,0,none⟩) s.length C) w5∧Below w.heap.size w w5∧w.heap.size<w5.heap.size∧
   ∀j (hj:j<s.length),w5.cell? ⟨w.heap.size,j,none⟩=some (.int .u8 (s[j].toNat:Int)):=by
 have hsz:=dO s;have hrun:=Lib.run_convert_string_bytes (P:=P) w src dst e ⟨s.toArray⟩ hs hd he;have hcell:=Lib.bytesWorld_cell w e ⟨s.toArray⟩;have hsize:=Lib.bytesWorld_size w e ⟨s.toArray⟩;have hold:=Lib.bytesWorld_at_old w e ⟨s.toArray⟩;rw [hsz]at hrun hcell;refine⟨_, _,hrun,⟨rfl,rfl,rfl,by rw [hsize];omega,fun k hk=>hold k hk⟩,by rw [hsize];omega,fun j hj=> ?_⟩;rw [hcell j hj];have e:(ByteArray.mk s.toArray).data.toList=s:=rfl;rw [e];simp [List.getD_eq_getElem?_getD,List.getElem?_eq_getElem hj]
theorem byte_of {X:UInt8} {n:Nat} (hn:n<256) (h:X.toNat=n):X=UInt8.ofNat n:=by
 apply UInt8.toNat_inj.1;rw [UInt8.toNat_ofNat',h];omega
theorem Il (X:UInt8):(X=92∧En X=some 92∧Lib.indexByte [92,34,110,116] X=0)∨(X=34∧En X=some 34∧Lib.indexByte [92,34,110,116] X=1)∨(X=110∧En X=some 10∧Lib.indexByte [92,34,110,116] X=2)∨(X=116∧En X=some 9∧Lib.indexByte [92,34,110,116] X=3)∨
  (En X=none∧Lib.indexByte [92,34,110,116] X= -1):=by
 by_cases h1:X=92
 ·subst h1;exact .inl ⟨rfl,rfl,rfl⟩
 by_cases h2:X=34
 ·subst h2;exact .inr (.inl ⟨rfl,rfl,rfl⟩)
 by_cases h3:X=110
 ·subst h3;exact .inr (.inr (.inl ⟨rfl,rfl,rfl⟩))
 by_cases h4:X=116
 ·subst h4;exact .inr (.inr (.inr (.inl ⟨rfl,rfl,rfl⟩)))
 refine .inr (.inr (.inr (.inr ⟨?_, ?_⟩)))
 ·unfold En;rw [if_neg (fun h=>h1 (byte_of (by decide) h)),if_neg (fun h=>h2 (byte_of (by decide) h)),if_neg (fun h=>h3 (byte_of (by decide) h)),if_neg (fun h=>h4 (byte_of (by decide) h))]
 ·have e1:((92:UInt8)==X)=false:=by rw [beq_eq_false_iff_ne];exact fun h=>h1 h.symm
  have e2:((34:UInt8)==X)=false:=by rw [beq_eq_false_iff_ne];exact fun h=>h2 h.symm
  have e3:((110:UInt8)==X)=false:=by rw [beq_eq_false_iff_ne];exact fun h=>h3 h.symm
  have e4:((116:UInt8)==X)=false:=by rw [beq_eq_false_iff_ne];exact fun h=>h4 h.symm
  simp [Lib.indexByte,e1,e2,e3,e4]
theorem ofNat_toNat (X:UInt8):UInt8.ofNat ((X.toNat:Int)).toNat=X:=by simp
theorem jM (X:UInt8):((X.toNat:Int)).toNat.toUInt8=X:=by simp
def yu:Option (Bt ×Nat)→Value
 | none=> .tuple #[sv [], .int .i64 0]
 | some (t,n)=> .tuple #[sv t, .int .i64 n]
def J2 (w5:World) (ans:Option (Bt ×Nat)) (r:Bt) (k:Nat) (v4 v5:Value) (wr:World):Prop:=
 ∃(back:Bool) (o:Bt),v5= .bool back∧lq wr w5.heap.size 5 v4 o∧dZ back o k (r.drop k)=ans∧o.length≤k∧Below w5.heap.size w5 wr
theorem EB (w:World) (s:Bt) (hs:s.length≤100000) (h1:1≤s.length):
  Calls Tryz.prog 149 #[sv s] w fun e w'=>e= .returned (yu (mQ s))∧Below w.heap.size w w':=by
 have hsz:=dO s;have he:Value.string (ByteArray.extract ⟨s.toArray⟩ 1 s.length)=sv (s.drop 1):=by rw [nU,List.take_length]
 have hq0:dZ false [] 0 ((s.drop 1).drop 0)=mQ s:=rfl;have hrl:(s.drop 1).length≤100000:=by rw [List.length_drop];omega
 generalize s.drop 1=r at*
 obtain⟨C,w5,Co,hb5,Pg,hcells⟩:=MZ (P:=Tryz.prog) w 9 163 5 Tryz.underlying9 Tryz.underlying163 Tryz.underlying5 r;have HC:=hid hcells;have Sw:=hid hq0;clear hcells hq0;generalize mQ s=ans at*
 go_enter Tryz.func149,Tryz.ntmps149;go_wp2_with fail;go_loopw [4,5,13] (fun v4 v5 v13 wr=>∃k:Nat,v13= .int .i64 k∧k≤r.length∧J2 w5 ans r k v4 v5 wr) (fun _ _ v13 _=>r.length - (intOf v13).toNat)
 case atStart=>exact⟨0,rfl,by omega,false,[],rfl,lq.nil _ _ _,Sw.out,Nat.le_refl _,Below.refl _ _⟩
 case round=>
  obtain⟨k,rfl,hk,back,o,rfl,hown,hq,hol,hbr⟩:=hrel;have hfin:Below w.heap.size w wr:=hb5.trans (hbr.mono hb5.size);by_cases hlt:k<r.length
  ·rw [List.drop_eq_getElem_cons hlt,dZ]at hq;have d1:=(hbr.cell (p:=⟨w.heap.size,k,none⟩) Pg).trans (HC.out k hlt);generalize r[k]=X at*
   clear Co;by_cases h32:X.toNat<32
   ·rw [if_pos h32]at hq;subst hq;go_wp2_with fail
    go_ret2
    exact⟨rfl,hfin⟩
   rw [if_neg h32]at hq;have Zt:((X.toNat:Int)).toNat.toUInt8=X:=by simp
   cases back with
   | true=>
    rw [if_pos rfl]at hq;rcases Il X with⟨hX,e1,e2⟩ | ⟨hX,e1,e2⟩ | ⟨hX,e1,e2⟩ | ⟨hX,e1,e2⟩ | ⟨e1,e2⟩
    all_goals have E2:=hid e2
    all_goals clear e2 Zt
    all_goals try clear hX
    ·rw [e1]at hq;have hq2:dZ false (o++[92]) (k+1) (r.drop (k+1))=ans:=hq;have i0:((ByteArray.mk #[92,34,10,9])[0]'(by decide)).toNat=92:=rfl;have HQ:=hid hq2;clear hq hq2 e1
     go_wp2_with (first
      | (go_at_call 150;refine(Tryz.strings_IndexByte _ _ _).mono ?_;rintro e w1 ⟨rfl,rfl⟩;rw [jM,E2.out])
      | (at_builtin;refine jT rfl _ (.tmp 34) _ rfl w5.heap.size sU _ _ rfl rfl (hown.alloc _) (xO _ (92:Int) _ (by decide)) (by simp;omega) (iU hbr.size _) (fun v7 w7 aK gD dK=> ?_);have fI:=lu (hbr.alloc hbr.size _) (hown.alloc _) gD (Nat.le_refl _) (iU hbr.size _);clear gD dK))
     go_roundw
     case rel=>exact⟨k+1,rfl,by omega,false,o++[92],rfl,aK,HQ.out,by simp;omega,fI⟩
     case measure=>simp [intOf];omega
    ·rw [e1]at hq;have hq2:dZ false (o++[34]) (k+1) (r.drop (k+1))=ans:=hq;have i0:((ByteArray.mk #[92,34,10,9])[1]'(by decide)).toNat=34:=rfl;have HQ:=hid hq2;clear hq hq2 e1
     go_wp2_with (first
      | (go_at_call 150;refine(Tryz.strings_IndexByte _ _ _).mono ?_;rintro e w1 ⟨rfl,rfl⟩;rw [jM,E2.out])
      | (at_builtin;refine jT rfl _ (.tmp 34) _ rfl w5.heap.size sU _ _ rfl rfl (hown.alloc _) (xO _ (34:Int) _ (by decide)) (by simp;omega) (iU hbr.size _) (fun v7 w7 aK gD dK=> ?_);have fI:=lu (hbr.alloc hbr.size _) (hown.alloc _) gD (Nat.le_refl _) (iU hbr.size _);clear gD dK))
     go_roundw
     case rel=>exact⟨k+1,rfl,by omega,false,o++[34],rfl,aK,HQ.out,by simp;omega,fI⟩
     case measure=>simp [intOf];omega
    ·rw [e1]at hq;have hq2:dZ false (o++[10]) (k+1) (r.drop (k+1))=ans:=hq;have i0:((ByteArray.mk #[92,34,10,9])[2]'(by decide)).toNat=10:=rfl;have HQ:=hid hq2;clear hq hq2 e1
     go_wp2_with (first
      | (go_at_call 150;refine(Tryz.strings_IndexByte _ _ _).mono ?_;rintro e w1 ⟨rfl,rfl⟩;rw [jM,E2.out])
      | (at_builtin;refine jT rfl _ (.tmp 34) _ rfl w5.heap.size sU _ _ rfl rfl (hown.alloc _) (xO _ (10:Int) _ (by decide)) (by simp;omega) (iU hbr.size _) (fun v7 w7 aK gD dK=> ?_);have fI:=lu (hbr.alloc hbr.size _) (hown.alloc _) gD (Nat.le_refl _) (iU hbr.size _);clear gD dK))
     go_roundw
     case rel=>exact⟨k+1,rfl,by omega,false,o++[10],rfl,aK,HQ.out,by simp;omega,fI⟩
     case measure=>simp [intOf];omega
    ·rw [e1]at hq;have hq2:dZ false (o++[9]) (k+1) (r.drop (k+1))=ans:=hq;have i0:((ByteArray.mk #[92,34,10,9])[3]'(by decide)).toNat=9:=rfl;have HQ:=hid hq2;clear hq hq2 e1
     go_wp2_with (first
      | (go_at_call 150;refine(Tryz.strings_IndexByte _ _ _).mono ?_;rintro e w1 ⟨rfl,rfl⟩;rw [jM,E2.out])
      | (at_builtin;refine jT rfl _ (.tmp 34) _ rfl w5.heap.size sU _ _ rfl rfl (hown.alloc _) (xO _ (9:Int) _ (by decide)) (by simp;omega) (iU hbr.size _) (fun v7 w7 aK gD dK=> ?_);have fI:=lu (hbr.alloc hbr.size _) (hown.alloc _) gD (Nat.le_refl _) (iU hbr.size _);clear gD dK))
     go_roundw
     case rel=>exact⟨k+1,rfl,by omega,false,o++[9],rfl,aK,HQ.out,by simp;omega,fI⟩
     case measure=>simp [intOf];omega
    ·rw [e1]at hq;have hq2:none=ans:=hq;subst hq2;clear hq e1;go_wp2_with (go_at_call 150;refine(Tryz.strings_IndexByte _ _ _).mono ?_;rintro e w1 ⟨rfl,rfl⟩;rw [jM,E2.out])
     go_ret2
     exact⟨rfl,hfin⟩
   | false=>
    rw [if_neg (by simp)]at hq;clear Zt;by_cases RN:X.toNat=92
    ·rw [if_pos RN]at hq;have HQ:=hid hq;clear hq;go_wp2_with fail
     go_roundw
     case rel=>exact⟨k+1,rfl,by omega,true,o,rfl,hown,HQ.out,by omega,hbr⟩
     case measure=>simp [intOf];omega
    rw [if_neg RN]at hq;by_cases Mv:X.toNat=34
    ·rw [if_pos Mv]at hq;subst hq;have hso:=zC (P:=Tryz.prog) hown.bs 163 5 9 Tryz.underlying163 Tryz.underlying5 Tryz.underlying9;go_wp2_with fail
     go_ret2
     exact⟨by simp [yu],hfin⟩
    rw [if_neg Mv]at hq;have HQ:=hid hq;clear hq
    go_wp2_with (first
     | (at_builtin;refine jT rfl _ (.tmp 20) _ rfl w5.heap.size sU _ _ rfl rfl (hown.alloc _) (xO _ (X.toNat:Int) _ (by have:=X.toNat_lt;omega)) (by simp;omega) (iU hbr.size _) (fun v7 w7 aK gD dK=> ?_);have fI:=lu (hbr.alloc hbr.size _) (hown.alloc _) gD (Nat.le_refl _) (iU hbr.size _);clear gD dK))
    rw [ofNat_toNat]at aK
    go_roundw
    case rel=>exact⟨k+1,rfl,by omega,false,o++[X],rfl,aK,HQ.out,by simp;omega,fI⟩
    case measure=>simp [intOf];omega
  ·obtain rfl:k=r.length:=by omega
   rw [List.drop_length]at hq;have hq2:none=ans:=by rw [←hq];cases back <;> rfl
   subst hq2;clear hq Co;go_wp2_with fail
   go_ret2
   exact⟨rfl,hfin⟩
open Go.Maps (has IsMap Keyed)
def EC (s:Bt):Int ⊕ (Int ×Bt ×Nat):=
 match mQ s with
 | none=> .inl 4
 | some (t,n)=>if 256<t.length then .inl 2 else .inr (4,t,n)
theorem M0 (w:World) (bl bp:Nat) (s:Bt) (p:Nat ×Nat) (bW:Value) (hL:dw w bl bp s p bW) (hs:s.length≤100000) (h1:1≤s.length):
  Calls Tryz.prog 108 #[.pointer (some ⟨bl,0,none⟩)] w fun e w'=>e= .returned (wF (EC s))∧Below w.heap.size w w':=by
 have c0:=hL.c0;have HP:=hid (EB w s hs h1);cases hq:mQ s with
 | none=>
  have hR:EC s= .inl 4:=by unfold EC;rw [hq]
  rw [hR];rw [hq]at HP;clear hR hq;go_enter Tryz.func108,Tryz.ntmps108;go_wp2_with fail;refine HP.out.mono ?_;rintro e w1 ⟨rfl,hb1⟩;unfold yu;go_wp2_with fail;refine bodyPost_ret (bO rfl _ _ _) rfl ?_;exact⟨rfl,hb1⟩
 | some r=>
  obtain⟨t,n⟩:=r;have hle:=zS hq;have hn:¬(n:Int)=0:=by omega
  have hsz:=dO t;have hR:EC s=if 256<t.length then .inl 2 else .inr (4,t,n):=by unfold EC;rw [hq]
  rw [hq]at HP;clear hq hle;by_cases Sy:256<t.length
  ·rw [if_pos Sy]at hR;rw [hR];clear hR;go_enter Tryz.func108,Tryz.ntmps108;go_wp2_with fail;refine HP.out.mono ?_;rintro e w1 ⟨rfl,hb1⟩;unfold yu;go_wp2_with fail;refine bodyPost_ret (bO rfl _ _ _) rfl ?_;exact⟨rfl,hb1⟩
  ·rw [if_neg Sy]at hR;rw [hR];clear hR;go_enter Tryz.func108,Tryz.ntmps108;go_wp2_with fail;refine HP.out.mono ?_;rintro e w1 ⟨rfl,hb1⟩;unfold yu;go_wp2_with fail;refine bodyPost_ret (bO rfl _ _ _) rfl ?_;exact⟨rfl,hb1⟩
def pF (a b:UInt8):Value:= .agg #[.int .u8 (a.toNat:Int), .int .u8 (b.toNat:Int)]
theorem sV:Keyed Tryz.prog 160:=Keyed.of_law (deep_law_laid (m:=2) (by kernel_rfl) (by omega) (of_decide_eq_true (by kernel_rfl)) (by kernel_rfl) (by kernel_rfl))
theorem uS (w:World):(zeroValue 4).run Tryz.prog w= .ok (.bool false) w:=by kernel_rfl
theorem wf_u8 (a:UInt8):(Lit.int .u8 (a.toNat:Int)).wf=true:=by
 have e1:IntKind.u8.min=0:=by decide
 have e2:IntKind.u8.max=255:=by decide
 have:=a.toNat_lt;simp [Lit.wf,e1,e2];omega
theorem Gh (d:Nat) (a:UInt8):Tryz.prog.keyLits (d+1) 5 [.int .u8 (a.toNat:Int)]=some [.int .u8 (a.toNat:Int)]:=by
 simp [Program.keyLits,Tryz.underlying5,wf_u8]
theorem Cr (a b:UInt8):∃kl,keyOf Tryz.prog 160 (pF a b)=some kl:=by
 obtain⟨d,hd⟩:∃d,Tryz.prog.types.size=d+1:=⟨Tryz.prog.types.size - 1,by kernel_rfl⟩
 have h2:Tryz.prog.cellsOf 160=2:=by kernel_rfl
 have h3:Tryz.prog.cellsOf 5=1:=by kernel_rfl
 have hk:Tryz.prog.keyType 160=true:=by kernel_rfl
 have hf:(pF a b).formed Tryz.prog 160=true:=by simp [Value.formed,Tryz.underlying160,h2,pF]
 refine⟨.string (keyBytes [.int .u8 (a.toNat:Int), .int .u8 (b.toNat:Int)]), ?_⟩;have e:Tryz.prog.keyLits (d+1+1) 160 [.int .u8 (a.toNat:Int), .int .u8 (b.toNat:Int)]=some [.int .u8 (a.toNat:Int), .int .u8 (b.toNat:Int)]:=by
  rw [Program.keyLits.eq_def];simp only [Tryz.underlying160];simp [h2,h3,List.range_succ,Gh d a,Gh d b]
 simp only [keyOf,Tryz.underlying160,hk,hf,Bool.and_self,if_true,hd];have e2:(pF a b).cells.toList=[.int .u8 (a.toNat:Int), .int .u8 (b.toNat:Int)]:=rfl;rw [e2,e];rfl
def wY (D:DataW Unit) (l:List Bt):Prop:=∀(a b:UInt8) (kl:Lit),keyOf Tryz.prog 160 (pF a b)=some kl→∀z,D.atKey kl z=if [a,b]∈l then .lit (.bool true)else z
def iZ (w:World) (bp:Nat) (l:List Bt):Prop:=∃(n:Nat) (D:DataW Unit),n≤l.length∧w.ownsMap Tryz.prog 160 (plainElem Tryz.prog 4) bp n D∧wY D l
theorem iZ.turn {w w':World} {bp:Nat} {l:List Bt} {G:Nat→Prop} (h:iZ w bp l) (t:Turn G w w') (hd:¬G bp):iZ w' bp l:=by
 obtain⟨n,D,h0,h1,h2⟩:=h;exact⟨n,D,h0,Ca h1 t hd,h2⟩
theorem ny {v:Value} {x:Bool} {ps:List MemPlace} (h:plainElem (H:=Unit) Tryz.prog 4 v=some (.lit (.bool x),ps)):v= .bool x:=by
 unfold plainElem at h;rw [Tryz.underlying4]at h;cases v <;> simp at h;rw [h.1]
theorem ED {w:World} {bp:Nat} {l:List Bt} (h:iZ w bp l) (a b:UInt8):(Instr.lookup 107 (.map (some bp)) (pF a b) false).run Tryz.prog w= .ok (.bool (decide ([a,b]∈l))) w:=by
 obtain⟨n,D, _,hown,hD⟩:=h;obtain⟨kl,hk⟩:=Cr a b;obtain⟨v,ps,hrun,hR⟩:=hown.lookup sV Tryz.underlying107 (uS w) (plainElem_bool Tryz.underlying4 false) hk;rw [hrun];rw [hD a b kl hk]at hR;by_cases hin:[a,b]∈l
 ·rw [if_pos hin]at hR;rw [ny hR,decide_eq_true hin]
 ·rw [if_neg hin]at hR;rw [ny hR,decide_eq_false hin]
def vU (s:Bt):Int ⊕ (Int ×Bt ×Nat):=if s.take 2∈bU then .inr (5,s.take 2,2)else if s.headD 0∈fV then .inr (5,s.take 1,1)else .inl 5
theorem Aa {l:Bt} {c:UInt8}:0≤Lib.indexByte l c↔c∈l:=by
 induction l with
 | nil=>simp [Lib.indexByte]
 | cons b l ih=>
  rw [Lib.indexByte];by_cases h:b=c
  ·subst h;simp
  ·have hb:(b==c)=false:=by rw [beq_eq_false_iff_ne];exact h
   rw [hb];simp only [Bool.false_eq_true,if_false];have hge:=Lib.indexByte_ge l c;by_cases h1:Lib.indexByte l c= -1
   ·have h2:(Lib.indexByte l c== -1)=true:=by rw [beq_iff_eq];exact h1
    rw [if_pos h2];constructor
    ·intro hh;omega
    ·intro hh;rcases List.mem_cons.1 hh with hh | hh
     ·exact absurd hh.symm h
     ·have:=ih.2 hh;omega
   ·have h2:¬(Lib.indexByte l c== -1)=true:=by rw [beq_iff_eq];exact h1
    rw [if_neg h2];constructor
    ·intro hh;exact List.mem_cons_of_mem _ (ih.1 (by omega))
    ·intro hh;rcases List.mem_cons.1 hh with hh | hh
     ·exact absurd hh.symm h
     ·have:=ih.2 hh;omega
theorem sW:(⟨fV.toArray⟩:ByteArray).data.toList=fV:=rfl
theorem J3 (w:World) (bl bp:Nat) (c:UInt8) (r:Bt) (p:Nat ×Nat) (bW:Value) (hL:dw w bl bp (c :: r) p bW) (hs:(c :: r).length≤100000) (hP:iZ w bp bU):
  Calls Tryz.prog 109 #[.pointer (some ⟨bl,0,none⟩)] w fun e w'=>e= .returned (wF (vU (c :: r)))∧Below w.heap.size w w':=by
 have c0:=hL.c0;have c3:=hL.c3;have hsz:=dO (c :: r);cases r with
 | nil=>
  have hnp:(c :: ([]:Bt)).take 2 ∉ bU:=fun h=>by
   have hall:∀m∈bU,m.length=2:=by decide
   have:=hall _ h;simp at this
  have hix:=gQ (c :: []) 0 (by simp);have he1:Value.string (ByteArray.extract ⟨(c :: ([]:Bt)).toArray⟩ 0 1)=sv [c]:=sS _ 1;have hR:vU (c :: [])=if c∈fV then .inr (5,[c],1)else .inl 5:=by unfold vU;rw [if_neg hnp];rfl
  obtain⟨ans,zH⟩:∃ans,ans=vU (c :: []):=⟨_,rfl⟩
  rw [←zH];rw [←zH]at hR;clear hnp zH;go_enter Tryz.func109,Tryz.ntmps109;go_wp2_with fail
  go_quiet (fail)
  go_wp2_with fail;refine(Tryz.strings_IndexByte ⟨fV.toArray⟩ _ _).mono ?_;rintro e w1 ⟨rfl,rfl⟩;rw [jM,sW];have hi:=Aa (l:=fV) (c:=c);generalize Lib.indexByte fV c=ix at*
  by_cases hc:c∈fV
  ·have Pk:¬(ix<0):=by have:=hi.2 hc;omega
   rw [if_pos hc]at hR;subst hR;clear hi;go_wp2_with fail
   go_quiet (fail)
   go_wp2_with fail;refine bodyPost_ret (bO rfl _ _ _) rfl ?_;exact⟨rfl,((bF w _).trans (bF _ _ |>.mono (Nat.le_refl _)))⟩
  ·have Pk:ix<0:=by
    rcases Int.lt_or_le ix 0 with h | h
    ·exact h
    ·exact absurd (hi.1 h) hc
   rw [if_neg hc]at hR;subst hR;clear hi;go_wp2_with fail;refine bodyPost_ret (bO rfl _ _ _) rfl ?_;exact⟨rfl,bF w _⟩
 | cons d r=>
  have hl1:(1:Int)<(r.length:Int)+1+1:=by omega
  have hl0:(0:Int)<(r.length:Int)+1+1:=by omega
  have hix:=gQ (c :: d :: r) 0 (by simp);have Wj:=gQ (c :: d :: r) 1 (by simp);have he1:Value.string (ByteArray.extract ⟨(c :: d :: r).toArray⟩ 0 1)=sv [c]:=sS _ 1;have he2:Value.string (ByteArray.extract ⟨(c :: d :: r).toArray⟩ 0 2)=sv [c,d]:=sS _ 2
  have dM:∀n,(Instr.lookup 107 (.map (some bp)) (.agg #[.int .u8 (c.toNat:Int), .int .u8 (d.toNat:Int)]) false).run Tryz.prog (w.drewN n)= .ok (.bool (decide ([c,d]∈bU))) (w.drewN n):=
   fun n=>ED (hP.turn (Turn.drewN (fun _=>False) w n) id) c d
  have hR0:vU (c :: d :: r)=if [c,d]∈bU then .inr (5,[c,d],2)else if c∈fV then .inr (5,[c],1)else .inl 5:=rfl
  by_cases hp:[c,d]∈bU
  ·rw [if_pos hp]at hR0;rw [decide_eq_true hp]at dM;rw [hR0];clear hR0 hp;go_enter Tryz.func109,Tryz.ntmps109;go_wp2_with fail
   go_quiet (fail)
   go_wp2_with fail
   go_quiet (fail)
   go_wp2_with fail;refine bodyPost_ret (bO rfl _ _ _) rfl ?_;exact⟨rfl,(bF w _).trans (bF _ _ |>.mono (Nat.le_refl _))⟩
  ·rw [if_neg hp]at hR0;rw [decide_eq_false hp]at dM;obtain⟨ans,zH⟩:∃ans,ans=vU (c :: d :: r):=⟨_,rfl⟩
   rw [←zH];have hR:=zH.trans hR0;clear hR0 hp zH;go_enter Tryz.func109,Tryz.ntmps109;go_wp2_with fail
   go_quiet (fail)
   go_wp2_with fail;refine(Tryz.strings_IndexByte ⟨fV.toArray⟩ _ _).mono ?_;rintro e w1 ⟨rfl,rfl⟩;rw [jM,sW];have hi:=Aa (l:=fV) (c:=c);generalize Lib.indexByte fV c=ix at*
   by_cases hc:c∈fV
   ·have Pk:¬(ix<0):=by have:=hi.2 hc;omega
    rw [if_pos hc]at hR;subst hR;clear hi;go_wp2_with fail
    go_quiet (fail)
    go_wp2_with fail;refine bodyPost_ret (bO rfl _ _ _) rfl ?_;exact⟨rfl,((bF w _).trans (bF _ _ |>.mono (Nat.le_refl _)))⟩
   ·have Pk:ix<0:=by
     rcases Int.lt_or_le ix 0 with h | h
     ·exact h
     ·exact absurd (hi.1 h) hc
    rw [if_neg hc]at hR;subst hR;clear hi;go_wp2_with fail;refine bodyPost_ret (bO rfl _ _ _) rfl ?_;exact⟨rfl,bF w _⟩
open Go.Maps (has IsMap Keyed)
theorem J4 (c:UInt8) (r:Bt):fZ (c :: r)=if gX c then Bf (c :: r)else if bY c then wX (c :: r)else if c.toNat=34 then EC (c :: r)else vU (c :: r):=rfl
theorem J5 (w:World) (bl bp:Nat) (c:UInt8) (r:Bt) (p:Nat ×Nat) (bW:Value) (hL:dw w bl bp (c :: r) p bW) (hs:(c :: r).length≤100000) (hX:jX w) (hP:iZ w bp bU):
  Calls Tryz.prog 57 #[.pointer (some ⟨bl,0,none⟩)] w fun e w'=>e= .returned (wF (fZ (c :: r)))∧Below w.heap.size w w':=by
 have c0:=hL.c0;have hsz:=dO (c :: r);have hix:(ByteArray.mk (c :: r).toArray)[0]'(by rw [dO];simp)=c:=gQ (c :: r) 0 (by simp);have hl0:(0:Int)<(r.length:Int)+1:=by omega
 have HN:=hid (Ik w bl bp (c :: r) p bW hL hs hX);have HU:=hid (EA w bl bp (c :: r) p bW hL hs hX);have HS:=hid (M0 w bl bp (c :: r) p bW hL hs (by simp));have HG:=hid (J3 w bl bp c r p bW hL hs hP);have heq:=J4 c r;generalize Bf (c :: r)=xn at*
 generalize wX (c :: r)=xu at*
 generalize EC (c :: r)=xs at*
 generalize vU (c :: r)=xg at*
 cases h1:gX c
 ·rw [h1,if_neg (by simp)]at heq;cases h2:bY c
  ·rw [h2,if_neg (by simp)]at heq;by_cases h3:c.toNat=34
   ·rw [if_pos h3]at heq;rw [heq];clear heq HN HU HG;have H3:=hid h3;clear h3;go_enter Tryz.func57,Tryz.ntmps57;go_wp2_with fail;refine(gL c _).mono ?_;rintro e w1 ⟨rfl,rfl⟩;rw [h1];go_wp2_with fail;refine(kZ c _).mono ?_;rintro e w1 ⟨rfl,rfl⟩;rw [h2];have h3:=H3.out;go_wp2_with fail;refine HS.out.mono ?_;rintro e w2 ⟨rfl,hb2⟩;clear HS;rcases xs with e | ⟨kd,t,n⟩
    all_goals
     simp only [wF];go_wp2_with fail;refine bodyPost_ret (bO rfl _ _ _) rfl ?_;exact⟨rfl,hb2⟩
   ·rw [if_neg h3]at heq;rw [heq];clear heq HN HU HS;go_enter Tryz.func57,Tryz.ntmps57;go_wp2_with fail;refine(gL c _).mono ?_;rintro e w1 ⟨rfl,rfl⟩;rw [h1];go_wp2_with fail;refine(kZ c _).mono ?_;rintro e w1 ⟨rfl,rfl⟩;rw [h2];go_wp2_with fail;refine HG.out.mono ?_;rintro e w2 ⟨rfl,hb2⟩;clear HG;rcases xg with e | ⟨kd,t,n⟩
    all_goals
     simp only [wF];go_wp2_with fail;refine bodyPost_ret (bO rfl _ _ _) rfl ?_;exact⟨rfl,hb2⟩
  ·rw [h2,if_pos rfl]at heq;rw [heq];clear heq HN HS HG;go_enter Tryz.func57,Tryz.ntmps57;go_wp2_with fail;refine(gL c _).mono ?_;rintro e w1 ⟨rfl,rfl⟩;rw [h1];go_wp2_with fail;refine(kZ c _).mono ?_;rintro e w1 ⟨rfl,rfl⟩;rw [h2];go_wp2_with fail;refine HU.out.mono ?_;rintro e w2 ⟨rfl,hb2⟩;clear HU;rcases xu with e | ⟨kd,t,n⟩
   all_goals
    simp only [wF];go_wp2_with fail;refine bodyPost_ret (bO rfl _ _ _) rfl ?_;exact⟨rfl,hb2⟩
 ·rw [h1,if_pos rfl]at heq;rw [heq];clear heq HU HS HG;go_enter Tryz.func57,Tryz.ntmps57;go_wp2_with fail;refine(gL c _).mono ?_;rintro e w1 ⟨rfl,rfl⟩;rw [h1];go_wp2_with fail;refine HN.out.mono ?_;rintro e w2 ⟨rfl,hb2⟩;clear HN;rcases xn with e | ⟨kd,t,n⟩
  all_goals
   simp only [wF];go_wp2_with fail;refine bodyPost_ret (bO rfl _ _ _) rfl ?_;exact⟨rfl,hb2⟩
end
end Go.Proofs.YtmbppnbekkbibaaGreatDoor
