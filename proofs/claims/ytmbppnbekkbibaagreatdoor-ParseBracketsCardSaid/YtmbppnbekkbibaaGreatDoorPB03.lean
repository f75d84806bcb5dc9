/- GE, GF -/
import Derived.Test.YtmbppnbekkbibaaGreatDoorRows
import Derived.Test.YtmbppnbekkbibaaGreatDoorPB01
import Derived.RegionTactic
import Derived.Deep.QuietTactic
import Derived.Test.YtmbppnbekkbibaaGreatDoorPB02
import Derived.Lib.ConvBytes
import Derived.DeepKeys4
set_option linter.unusedSimpArgs false
set_option linter.unusedVariables false
section
set_option linter.unusedVariables false
namespace Go.Proofs.YtmbppnbekkbibaaGreatDoor
open Go.RowKit
theorem gT (c:UInt8) (w:World):Calls Tryz.prog 104 #[.int .u8 (c.toNat:Int)] w fun e w'=>e= .returned (.bool (iy c))∧w'=w:=by
 unfold iy
 generalize c.toNat=n
 go_enter Tryz.func104,Tryz.ntmps104
 go_wp2_with fail
 all_goals
  go_ret
  refine⟨?_,rfl⟩
  congr 2
  try simp
  try omega
  try (rw [Bool.eq_iff_iff];simp only [Bool.or_eq_true,Bool.and_eq_true,decide_eq_true_eq,beq_iff_eq];omega)
theorem kM (c:UInt8) (w:World):Calls Tryz.prog 106 #[.int .u8 (c.toNat:Int)] w fun e w'=>e= .returned (.bool (dF c))∧w'=w:=by
 unfold dF
 generalize c.toNat=n
 go_enter Tryz.func106,Tryz.ntmps106
 go_wp2_with fail
 all_goals
  go_ret
  refine⟨?_,rfl⟩
  congr 2
  try simp
  try omega
  try (rw [Bool.eq_iff_iff];simp only [Bool.or_eq_true,Bool.and_eq_true,decide_eq_true_eq,beq_iff_eq];omega)
theorem zF (c:UInt8) (w:World):Calls Tryz.prog 102 #[.int .u8 (c.toNat:Int)] w fun e w'=>e= .returned (.bool (bQ c))∧w'=w:=by
 unfold bQ
 generalize c.toNat=n
 go_enter Tryz.func102,Tryz.ntmps102
 go_wp2_with fail
 all_goals
  go_ret
  refine⟨?_,rfl⟩
  congr 2
  try simp
  try omega
  try (rw [Bool.eq_iff_iff];simp only [Bool.or_eq_true,Bool.and_eq_true,decide_eq_true_eq,beq_iff_eq];omega)
theorem uR (c:UInt8) (w:World):Calls Tryz.prog 103 #[.int .u8 (c.toNat:Int)] w fun e w'=>e= .returned (.bool (dK c))∧w'=w:=by
 unfold dK
 generalize c.toNat=n
 go_enter Tryz.func103,Tryz.ntmps103
 go_wp2_with fail
 all_goals
  go_ret
  refine⟨?_,rfl⟩
  congr 2
  try simp
  try omega
  try (rw [Bool.eq_iff_iff];simp only [Bool.not_eq_true',bne_iff_ne,ne_eq,decide_eq_false_iff_not];omega)
theorem zG (c:UInt8) (w:World):Calls Tryz.prog 119 #[.int .u8 (c.toNat:Int)] w fun e w'=>e= .returned (.bool (bN c))∧w'=w:=by
 have hi:bN c=(iy c || dF c):=rfl
 rw [hi]
 clear hi
 cases hl:iy c
 ·go_enter Tryz.func119,Tryz.ntmps119
  go_wp2_with fail
  refine(gT c _).mono ?_
  rintro e w1 ⟨rfl,rfl⟩
  rw [hl]
  go_wp2_with fail
  refine(kM c _).mono ?_
  rintro e w1 ⟨rfl,rfl⟩
  go_wp2_with fail
  go_ret
  exact⟨rfl,rfl⟩
 ·go_enter Tryz.func119,Tryz.ntmps119
  go_wp2_with fail
  refine(gT c _).mono ?_
  rintro e w1 ⟨rfl,rfl⟩
  rw [hl]
  go_wp2_with fail
  go_ret
  exact⟨rfl,rfl⟩
theorem cu (s:Bt):(ByteArray.mk s.toArray).size=s.length:=by simp [ByteArray.size]
theorem gZ (s:Bt) (k:Nat) (h:k<s.length):(ByteArray.mk s.toArray)[k]'(by rw [cu];exact h)=s[k]:=by simp [ByteArray.getElem_eq_getElem_data]
set_option maxHeartbeats 400000 in
theorem Hf (s:Bt) (w:World) (hs:s.length≤281474976710656):Calls Tryz.prog 101 #[sv s, .func (.func 102) #[] #[]] w fun e w'=>e= .returned (.int .i64 (bW bQ s:Nat))∧w'=w:=by
 have hsz:=cu s
 go_enter Tryz.func101,Tryz.ntmps101
 go_wp2_with fail
 go_loop [5,8] (fun v5 v8=>∃k:Nat,v8= .int .i64 k∧k≤s.length∧∀j (hj:j<s.length),j<k→bQ s[j]=true) (fun _ v8=>s.length - (intOf v8).toNat)
 case atStart=>exact⟨0,rfl,by omega,fun j hj h=>by omega⟩
 case round=>
  obtain⟨k,rfl,hk,hall⟩:=hrel
  by_cases hlt:k<s.length
  ·have hix:=gZ s k hlt
   have hrow:=fun hn=>wC (p:=bQ) hlt (fun j hj=>hall j (by omega) hj) hn
   have hnext:bQ s[k]=true→∀j (hj:j<s.length),j<k+1→bQ s[j]=true:=by
    intro h j hj hjk
    rcases Nat.lt_or_ge j k with h1 | h1
    ·exact hall j hj h1
    ·obtain rfl:j=k:=by omega
     exact h
   have dP:=hid hrow
   have xB:=hid hnext
   clear hall hrow hnext
   generalize hX:s[k]=X at*
   cases hq:bQ X
   ·have hres:=dP.out hq
    go_wp2_with fail
    refine(zF X _).mono ?_
    rintro e w1 ⟨rfl,rfl⟩
    rw [hq]
    go_wp2_with fail
    go_ret
    exact⟨by rw [hres];rfl,rfl⟩
   ·have hall:=xB.out hq
    have xC:=hid hall
    clear hall
    go_wp2_with fail
    refine(zF X _).mono ?_
    rintro e w1 ⟨rfl,rfl⟩
    rw [hq]
    go_wp2_with fail
    go_round
    case rel=>exact⟨k+1,rfl,by omega,xC.out⟩
    case measure=>simp [intOf];omega
  ·obtain rfl:k=s.length:=by omega
   have hres:=rH (p:=bQ) (s:=s) (fun j hj=>hall j hj hj)
   clear hall
   go_wp2_with fail
   go_ret
   first | exact⟨rfl,rfl⟩ | exact⟨by rw [hres];rfl,rfl⟩
set_option maxHeartbeats 400000 in
theorem zH (s:Bt) (w:World) (hs:s.length≤281474976710656):Calls Tryz.prog 101 #[sv s, .func (.func 119) #[] #[]] w fun e w'=>e= .returned (.int .i64 (bW bN s:Nat))∧w'=w:=by
 have hsz:=cu s
 go_enter Tryz.func101,Tryz.ntmps101
 go_wp2_with fail
 go_loop [5,8] (fun v5 v8=>∃k:Nat,v8= .int .i64 k∧k≤s.length∧∀j (hj:j<s.length),j<k→bN s[j]=true) (fun _ v8=>s.length - (intOf v8).toNat)
 case atStart=>exact⟨0,rfl,by omega,fun j hj h=>by omega⟩
 case round=>
  obtain⟨k,rfl,hk,hall⟩:=hrel
  by_cases hlt:k<s.length
  ·have hix:=gZ s k hlt
   have hrow:=fun hn=>wC (p:=bN) hlt (fun j hj=>hall j (by omega) hj) hn
   have hnext:bN s[k]=true→∀j (hj:j<s.length),j<k+1→bN s[j]=true:=by
    intro h j hj hjk
    rcases Nat.lt_or_ge j k with h1 | h1
    ·exact hall j hj h1
    ·obtain rfl:j=k:=by omega
     exact h
   have dP:=hid hrow
   have xB:=hid hnext
   clear hall hrow hnext
   generalize hX:s[k]=X at*
   cases hq:bN X
   ·have hres:=dP.out hq
    go_wp2_with fail
    refine(zG X _).mono ?_
    rintro e w1 ⟨rfl,rfl⟩
    rw [hq]
    go_wp2_with fail
    go_ret
    exact⟨by rw [hres];rfl,rfl⟩
   ·have hall:=xB.out hq
    have xC:=hid hall
    clear hall
    go_wp2_with fail
    refine(zG X _).mono ?_
    rintro e w1 ⟨rfl,rfl⟩
    rw [hq]
    go_wp2_with fail
    go_round
    case rel=>exact⟨k+1,rfl,by omega,xC.out⟩
    case measure=>simp [intOf];omega
  ·obtain rfl:k=s.length:=by omega
   have hres:=rH (p:=bN) (s:=s) (fun j hj=>hall j hj hj)
   clear hall
   go_wp2_with fail
   go_ret
   first | exact⟨rfl,rfl⟩ | exact⟨by rw [hres];rfl,rfl⟩
set_option maxHeartbeats 400000 in
theorem Hg (s:Bt) (w:World) (hs:s.length≤281474976710656):Calls Tryz.prog 101 #[sv s, .func (.func 106) #[] #[]] w fun e w'=>e= .returned (.int .i64 (bW dF s:Nat))∧w'=w:=by
 have hsz:=cu s
 go_enter Tryz.func101,Tryz.ntmps101
 go_wp2_with fail
 go_loop [5,8] (fun v5 v8=>∃k:Nat,v8= .int .i64 k∧k≤s.length∧∀j (hj:j<s.length),j<k→dF s[j]=true) (fun _ v8=>s.length - (intOf v8).toNat)
 case atStart=>exact⟨0,rfl,by omega,fun j hj h=>by omega⟩
 case round=>
  obtain⟨k,rfl,hk,hall⟩:=hrel
  by_cases hlt:k<s.length
  ·have hix:=gZ s k hlt
   have hrow:=fun hn=>wC (p:=dF) hlt (fun j hj=>hall j (by omega) hj) hn
   have hnext:dF s[k]=true→∀j (hj:j<s.length),j<k+1→dF s[j]=true:=by
    intro h j hj hjk
    rcases Nat.lt_or_ge j k with h1 | h1
    ·exact hall j hj h1
    ·obtain rfl:j=k:=by omega
     exact h
   have dP:=hid hrow
   have xB:=hid hnext
   clear hall hrow hnext
   generalize hX:s[k]=X at*
   cases hq:dF X
   ·have hres:=dP.out hq
    go_wp2_with fail
    refine(kM X _).mono ?_
    rintro e w1 ⟨rfl,rfl⟩
    rw [hq]
    go_wp2_with fail
    go_ret
    exact⟨by rw [hres];rfl,rfl⟩
   ·have hall:=xB.out hq
    have xC:=hid hall
    clear hall
    go_wp2_with fail
    refine(kM X _).mono ?_
    rintro e w1 ⟨rfl,rfl⟩
    rw [hq]
    go_wp2_with fail
    go_round
    case rel=>exact⟨k+1,rfl,by omega,xC.out⟩
    case measure=>simp [intOf];omega
  ·obtain rfl:k=s.length:=by omega
   have hres:=rH (p:=dF) (s:=s) (fun j hj=>hall j hj hj)
   clear hall
   go_wp2_with fail
   go_ret
   first | exact⟨rfl,rfl⟩ | exact⟨by rw [hres];rfl,rfl⟩
set_option maxHeartbeats 400000 in
theorem BP (s:Bt) (w:World) (hs:s.length≤281474976710656):Calls Tryz.prog 101 #[sv s, .func (.func 103) #[] #[]] w fun e w'=>e= .returned (.int .i64 (bW dK s:Nat))∧w'=w:=by
 have hsz:=cu s
 go_enter Tryz.func101,Tryz.ntmps101
 go_wp2_with fail
 go_loop [5,8] (fun v5 v8=>∃k:Nat,v8= .int .i64 k∧k≤s.length∧∀j (hj:j<s.length),j<k→dK s[j]=true) (fun _ v8=>s.length - (intOf v8).toNat)
 case atStart=>exact⟨0,rfl,by omega,fun j hj h=>by omega⟩
 case round=>
  obtain⟨k,rfl,hk,hall⟩:=hrel
  by_cases hlt:k<s.length
  ·have hix:=gZ s k hlt
   have hrow:=fun hn=>wC (p:=dK) hlt (fun j hj=>hall j (by omega) hj) hn
   have hnext:dK s[k]=true→∀j (hj:j<s.length),j<k+1→dK s[j]=true:=by
    intro h j hj hjk
    rcases Nat.lt_or_ge j k with h1 | h1
    ·exact hall j hj h1
    ·obtain rfl:j=k:=by omega
     exact h
   have dP:=hid hrow
   have xB:=hid hnext
   clear hall hrow hnext
   generalize hX:s[k]=X at*
   cases hq:dK X
   ·have hres:=dP.out hq
    go_wp2_with fail
    refine(uR X _).mono ?_
    rintro e w1 ⟨rfl,rfl⟩
    rw [hq]
    go_wp2_with fail
    go_ret
    exact⟨by rw [hres];rfl,rfl⟩
   ·have hall:=xB.out hq
    have xC:=hid hall
    clear hall
    go_wp2_with fail
    refine(uR X _).mono ?_
    rintro e w1 ⟨rfl,rfl⟩
    rw [hq]
    go_wp2_with fail
    go_round
    case rel=>exact⟨k+1,rfl,by omega,xC.out⟩
    case measure=>simp [intOf];omega
  ·obtain rfl:k=s.length:=by omega
   have hres:=rH (p:=dK) (s:=s) (fun j hj=>hall j hj hj)
   clear hall
   go_wp2_with fail
   go_ret
   first | exact⟨rfl,rfl⟩ | exact⟨by rw [hres];rfl,rfl⟩
end Go.Proofs.YtmbppnbekkbibaaGreatDoor
set_option linter.unusedVariables false
namespace Go.Proofs.YtmbppnbekkbibaaGreatDoor
open Go.RowKit
theorem tT:iP Tryz.prog 25 9 (sv []) 1 16:=⟨Tryz.underlying25,by kernel_rfl,rfl,by decide⟩
def jH (w:World):Prop:=lY w∧Lib.TabIs Tryz.prog w "strings.asciiSpace" .u8 Lib.asciiSpaceTab
def jk (w:World):Prop:=Lib.TabIs Tryz.prog w "internal/strconv.uint64pow10" .u64 Lib.pow10Tab∧Lib.TabIs Tryz.prog w "strings.asciiSpace" .u8 Lib.asciiSpaceTab
theorem jk.below {w w':World} (h:jk w) (hb:Below w.heap.size w w'):jk w':=⟨kL h.1 hb,kL h.2 hb⟩
theorem jH.t {w:World} (h:jH w):jk w:=⟨h.1.tab,h.2⟩
theorem jH.below {w w':World} (h:jH w) (hb:Below w.heap.size w w'):jH w':=⟨h.1.below hb,kL h.2 hb⟩
def xD:Bt:=[97,110,100,32,97,110,121,32,97,115,32,98,111,111,108,32,101,108,115,101,32,101,120,112,111,114,116,32,102,97,108,115,101,32,102,110,32,102,117,110,99,116,105,111,110,32,105,102,32,105,109,112,111,114,116,32,105,110,32,105,110,116,32,105,115,32,108,101,116,32,110,111,116,32,110,117,108,108,32,111,114,32,112,114,105,110,116,32,114,101,97,100,32,114,101,99,111,114,100,32,115,116,114,32,116,104,101,110,32,116,114,117,101,32,119,105,116,104]
set_option maxRecDepth 100000 in
theorem Ar:Lib.fields xD=eZ:=by kernel_rfl
set_option maxRecDepth 100000 in
theorem BQ:(xD.all fun b=>decide (b.toNat<128))=true:=by kernel_rfl
theorem xE:(⟨xD.toArray⟩:ByteArray).data.toList=xD:=rfl
set_option maxRecDepth 100000 in
theorem tX (w:World) (hL:jk w):Calls Tryz.prog 121 #[] w fun e w'=>∃v,e= .returned v∧Ss w' w'.heap.size v eZ∧Below w.heap.size w w':=by
 go_enter Tryz.func121,Tryz.ntmps121
 go_wp2_with fail
 refine(Tryz.strings_Fields ⟨xD.toArray⟩ _ ?h1 ?h2 hL.2).mono ?_
 case h1=>decide
 case h2=>
  intro j b hb
  rw [xE]at hb
  exact of_decide_eq_true (List.all_eq_true.1 BQ b (List.mem_of_getElem? hb))
 rintro e w1 ⟨rfl,rfl⟩
 rw [xE,Ar]
 have hss:Ss (w.alloc (.cells (eZ.map fun l=>Value.string ⟨l.toArray⟩).toArray 9)) (w.alloc (.cells (eZ.map fun l=>Value.string ⟨l.toArray⟩).toArray 9)).heap.size (.slice (some ⟨w.heap.size,0,none⟩) eZ.length eZ.length) eZ:=by
  have:=fD w (eZ.map fun l=>Value.string ⟨l.toArray⟩).toArray 9 1 eZ.length (by simp) (by decide)
  rw [World.size_alloc]
  simpa [Ss,nC]using this
 have hb:Below w.heap.size w (w.alloc (.cells (eZ.map fun l=>Value.string ⟨l.toArray⟩).toArray 9)):=(Below.refl _ _).alloc (Nat.le_refl _) _
 generalize(w.alloc (.cells (eZ.map fun l=>Value.string ⟨l.toArray⟩).toArray 9))=w2 at*
 generalize eZ.length=n at*
 go_wp2_with fail
 go_ret
 exact⟨_,rfl,hss,hb⟩
set_option maxHeartbeats 400000 in
theorem Hl (v:Value) (l:List Bt) (x:Bt) (w:World) (hv:Ss w w.heap.size v l):
  Calls Tryz.prog 163 #[v,sv x] w fun e w'=>(∃k:Int,e= .returned (.int .i64 k)∧(0≤k↔x∈l))∧w'=w:=by
 obtain⟨A,c,rfl,hn,hc,hx⟩:=hv.open_
 unfold maxLen at hc
 go_enter Tryz.func163,Tryz.ntmps163
 go_wp2_with fail
 go_loop [5,8] (fun v5 v8=>∃k:Nat,v8= .int .i64 k∧k≤l.length∧x ∉ l.take k) (fun _ v8=>l.length - (intOf v8).toNat)
 case atStart=>exact⟨0,rfl,by omega,by simp⟩
 case round=>
  obtain⟨k,rfl,hk,hnot⟩:=hrel
  by_cases hlt:k<l.length
  ·obtain⟨b,o,rfl,hb,hcell⟩:=hx (by omega)
   have d1:=hcell k hlt
   have e1:x=l[k]→x∈l:=fun h=>by rw [h];exact List.getElem_mem hlt
   have e2:¬x=l[k]→x ∉ l.take (k+1):=fun h hh=>by
    rw [List.take_succ_eq_append_getElem hlt,List.mem_append]at hh
    rcases hh with hh | hh
    ·exact hnot hh
    ·simp at hh;exact h hh
   clear hcell hx hv hnot
   generalize l[k]=X at*
   by_cases hX:x=X
   ·have e3:=e1 hX
    have hq:(x==X)=true:=by rw [beq_iff_eq];exact hX
    clear hX e1 e2
    go_wp2_with fail
    go_ret
    exact⟨⟨k,rfl,by simp [e3]⟩,rfl⟩
   ·have e3:=e2 hX
    have hq:(x==X)=false:=by rw [beq_eq_false_iff_ne];exact hX
    clear hX e1 e2
    go_wp2_with fail
    go_round
    case rel=>exact⟨k+1,rfl,by omega,e3⟩
    case measure=>simp [intOf];omega
  ·obtain rfl:k=l.length:=by omega
   rw [List.take_length]at hnot
   go_wp2_with fail
   go_ret
   exact⟨⟨-1,rfl,by simp [hnot]⟩,rfl⟩
theorem kE (v:Value) (l:List Bt) (x:Bt) (w:World) (hv:Ss w w.heap.size v l):
  Calls Tryz.prog 120 #[v,sv x] w fun e w'=>e= .returned (.bool (decide (x∈l)))∧w'=w:=by
 go_enter Tryz.func120,Tryz.ntmps120
 go_wp2_with fail
 refine(Hl v l x _ hv).mono ?_
 rintro e w1 ⟨⟨k,rfl,hk⟩,rfl⟩
 by_cases h:x∈l
 ·have h0:=hk.2 h
  clear hk
  go_wp2_with fail
  go_ret
  exact⟨by simp [h],rfl⟩
 ·have h0:¬(0≤k):=fun hh=>h (hk.1 hh)
  clear hk
  go_wp2_with fail
  go_ret
  exact⟨by first | (simp [h];done) | (simp [h];exact h0) | (simp [h];omega),rfl⟩
end Go.Proofs.YtmbppnbekkbibaaGreatDoor
set_option linter.unusedVariables false
namespace Go.Proofs.YtmbppnbekkbibaaGreatDoor
open Go.RowKit
def dA (w:World) (bl bp:Nat) (s:Bt) (p:Nat ×Nat) (bX:Value):Prop:=
 w.heap[bl]? =some (.cells #[sv s, .int .i64 (p.1:Nat), .int .i64 (p.2:Nat), .map (some bp),bX] 110 (0,0))
section
variable {w w':World} {bl bp:Nat} {s:Bt} {p:Nat ×Nat} {bX:Value}
theorem dA.c0 (h:dA w bl bp s p bX):w.cell? ⟨bl,0,none⟩=some (sv s):=(cell_of_row _ _ _ _ _ (0,0) h).trans rfl
theorem dA.c1 (h:dA w bl bp s p bX):w.cell? ⟨bl,1,none⟩=some (.int .i64 (p.1:Nat)):=(cell_of_row _ _ _ _ _ (0,0) h).trans rfl
theorem dA.c2 (h:dA w bl bp s p bX):w.cell? ⟨bl,2,none⟩=some (.int .i64 (p.2:Nat)):=(cell_of_row _ _ _ _ _ (0,0) h).trans rfl
theorem dA.c3 (h:dA w bl bp s p bX):w.cell? ⟨bl,3,none⟩=some (.map (some bp)):=(cell_of_row _ _ _ _ _ (0,0) h).trans rfl
theorem dA.c4 (h:dA w bl bp s p bX):w.cell? ⟨bl,4,none⟩=some bX:=(cell_of_row _ _ _ _ _ (0,0) h).trans rfl
theorem dA.free (h:dA w bl bp s p bX) (i:Nat):w.frozen? ⟨bl,i,none⟩=false:=by simp [World.frozen?,show w.heap[bl]? = _ from h]
theorem dA.lt (h:dA w bl bp s p bX):bl<w.heap.size:=block_lt h
theorem dA.turn {G:Nat→Prop} (h:dA w bl bp s p bX) (t:Turn G w w') (hd:¬G bl):dA w' bl bp s p bX:=ah h t hd
end
theorem BR {w wr:World} {F:Nat→Prop} {b off:Nat} (t:Turn F w wr) (hb:b<w.heap.size) (hF:¬F b) {u:Value} (h:w.cell? ⟨b,off,none⟩=some u):wr.cell? ⟨b,off,none⟩=some u:=by
 rw [←h];simp only [World.cell?,t.block hb hF]
theorem Mk (p:Nat ×Nat) (s:Bt):(cO p s).1≤p.1+s.length∧(cO p s).2≤p.2+s.length+1:=by
 induction s generalizing p with
 | nil=>exact⟨Nat.le_refl _,by simp [cO]⟩
 | cons c s ih=>
  have h:cO p (c :: s)=cO (jY p c) s:=rfl
  rw [h]
  obtain⟨a,b⟩:=ih (jY p c)
  have h1:(jY p c).1≤p.1+1∧(jY p c).2≤p.2+1∨(jY p c).2≤1∧(jY p c).1≤p.1+1:=by
   unfold jY;split
   ·exact .inr ⟨Nat.le_refl _,Nat.le_refl _⟩
   ·exact .inl ⟨Nat.le_succ _,Nat.le_refl _⟩
  simp only [List.length_cons]
  omega
theorem nI (s:Bt) (a b:Nat):(ByteArray.extract ⟨s.toArray⟩ a b).data.toList=(s.take b).drop a:=by
 rw [ByteArray.data_extract]
 simp [List.extract_eq_take_drop,List.drop_take]
theorem nJ (s:Bt) (a b:Nat):Value.string (ByteArray.extract ⟨s.toArray⟩ a b)=sv ((s.take b).drop a):=by
 rw [←nI]
theorem Ho {P:Program} (w:World) (src dst e:TypeId) (hs:P.underlying src=some .string) (hd:P.underlying dst=some (.slice e)) (he:P.underlying e=some (.int .u8)) (s:Bt) (n:Nat) (hn:n≤s.length):
  ∃C w5,(convert src dst (.string (ByteArray.extract ⟨s.toArray⟩ 0 n))).run P w= .ok (.slice (some ⟨w.heap.size,0,none⟩) n C) w5∧Turn (fun _=>False) w w5∧w.heap.size<w5.heap.size∧
   ∀j (hj:j<n),w5.cell? ⟨w.heap.size,j,none⟩=some (.int .u8 ((s[j]'(by omega)).toNat:Int)):=by
 have hsz:(ByteArray.extract ⟨s.toArray⟩ 0 n).size=n:=by
  have h:(ByteArray.extract ⟨s.toArray⟩ 0 n).data.toList.length=(ByteArray.extract ⟨s.toArray⟩ 0 n).size:=Array.length_toList
  rw [←h,nI];simp;omega
 have hrun:=Lib.run_convert_string_bytes (P:=P) w src dst e (ByteArray.extract ⟨s.toArray⟩ 0 n) hs hd he
 have hcell:=Lib.bytesWorld_cell w e (ByteArray.extract ⟨s.toArray⟩ 0 n)
 have hsize:=Lib.bytesWorld_size w e (ByteArray.extract ⟨s.toArray⟩ 0 n)
 have hold:=Lib.bytesWorld_at_old w e (ByteArray.extract ⟨s.toArray⟩ 0 n)
 rw [hsz]at hrun hcell
 refine⟨_, _,hrun,⟨rfl,rfl,rfl,by rw [hsize];omega,fun k hk _=>hold k hk⟩,by rw [hsize];omega,fun j hj=> ?_⟩
 rw [hcell j hj,nI]
 simp [List.getD_eq_getElem?_getD,List.getElem?_take,hj,List.getElem?_eq_getElem (show j<s.length by omega)]
theorem dA.set1 {w:World} {bl bp:Nat} {s:Bt} {p:Nat ×Nat} {bX:Value} (h:dA w bl bp s p bX) (n:Nat):dA (w.setCell ⟨bl,1,none⟩ (.int .i64 (n:Nat))) bl bp s (n,p.2) bX:=heap_setCell_same w bl 1 _ _ _ h
theorem dA.set2 {w:World} {bl bp:Nat} {s:Bt} {p:Nat ×Nat} {bX:Value} (h:dA w bl bp s p bX) (n:Nat):dA (w.setCell ⟨bl,2,none⟩ (.int .i64 (n:Nat))) bl bp s (p.1,n) bX:=heap_setCell_same w bl 2 _ _ _ h
theorem dA.set0 {w:World} {bl bp:Nat} {s:Bt} {p:Nat ×Nat} {bX:Value} (h:dA w bl bp s p bX) (s':Bt):dA (w.setCell ⟨bl,0,none⟩ (sv s')) bl bp s' p bX:=heap_setCell_same w bl 0 _ _ _ h
theorem dA.BS {w:World} {bl bp:Nat} {s:Bt} {p:Nat ×Nat} {bX:Value} (h:dA w bl bp s p bX) (v:Value):dA (w.setCell ⟨bl,4,none⟩ v) bl bp s p v:=heap_setCell_same w bl 4 _ _ _ h
set_option maxRecDepth 100000 in
set_option maxHeartbeats 1000000 in
theorem oJ (w:World) (bl bp:Nat) (s:Bt) (p:Nat ×Nat) (bX:Value) (n:Nat) (hL:dA w bl bp s p bX) (hn:n≤s.length) (hs:s.length≤100000) (hp:p.1≤1000000∧p.2≤1000000):
  Calls Tryz.prog 58 #[.pointer (some ⟨bl,0,none⟩), .int .i64 (n:Nat)] w fun e w'=>
   e= .returned (.tuple #[])∧dA w' bl bp (s.drop n) (cO p (s.take n)) bX∧Turn (fun k=>k=bl) w w':=by
 have hsz:=cu s
 have c0:=hL.c0
 obtain⟨C,w5,BU,Va,OC,hcells⟩:=Ho (P:=Tryz.prog) w 9 163 5 Tryz.underlying9 Tryz.underlying163 Tryz.underlying5 s n hn
 have hL5:=hL.turn Va id
 have hbl:=hL.lt
 have HC:=hid hcells
 clear hcells
 go_enter Tryz.func58,Tryz.ntmps58
 go_wp2_with fail
 go_loopw [14] (fun v14 wr=>∃k:Nat,v14= .int .i64 k∧k≤n∧dA wr bl bp s (cO p (s.take k)) bX∧Turn (fun k=>k=bl) w5 wr) (fun v14 _=>n - (intOf v14).toNat)
 case atStart=>exact⟨0,rfl,by omega,hL5,Turn.refl _ _⟩
 case round=>
  obtain⟨k,rfl,hk,Bv,htr⟩:=hrel
  have hq:=Mk p (s.take k)
  have hkl:(s.take k).length≤k:=by simp;omega
  by_cases hlt:k<n
  ·have hnext:=GR (p:=p) (show k<s.length by omega)
   have d1:=BR htr OC (by omega) (HC.out k hlt)
   generalize cO p (s.take k)=q at*
   generalize s[k]=X at*
   have c1:=Bv.c1
   have c2:=Bv.c2
   have f1:=Bv.free 1
   have f2:=Bv.free 2
   have hb:q.1<2000000∧q.2<2000000:=by omega
   have BX:=hid hnext
   clear hnext hq hL hL5 c0 BU
   by_cases hX:X.toNat=10
   ·have hl1:=((Bv.set2 (q.2+1)).set1 (q.1+1)).set2 1
    have ht1:=((htr.trans (ak _ bl 2 (.int .i64 ((q.2+1:Nat):Int))) (fun _ _ h=>h)).trans (ak _ bl 1 (.int .i64 ((q.1+1:Nat):Int))) (fun _ _ h=>h)).trans (ak _ bl 2 (.int .i64 ((1:Nat):Int))) (fun _ _ h=>h)
    have e1:jY q X=(q.1+1,1):=by unfold jY;rw [if_pos hX]
    have OD:=hid hl1
    have HT1:=hid ht1
    have HE:=hid e1
    clear Bv htr hl1 ht1 e1
    go_wp2_with fail
    go_roundw
    case rel=>exact⟨k+1,rfl,by omega,by rw [BX.out,HE.out];exact OD.out,HT1.out⟩
    case measure=>simp [intOf];omega
   ·have hl1:=Bv.set2 (q.2+1)
    have ht1:=htr.trans (ak _ bl 2 (.int .i64 ((q.2+1:Nat):Int))) (fun _ _ h=>h)
    have e1:jY q X=(q.1,q.2+1):=by unfold jY;rw [if_neg hX]
    have OD:=hid hl1
    have HT1:=hid ht1
    have HE:=hid e1
    clear Bv htr hl1 ht1 e1
    go_wp2_with fail
    go_roundw
    case rel=>exact⟨k+1,rfl,by omega,by rw [BX.out,HE.out];exact OD.out,HT1.out⟩
    case measure=>simp [intOf];omega
  ·obtain rfl:k=n:=by omega
   have c0r:=Bv.c0
   have f0:=Bv.free 0
   have hl1:=Bv.set0 (s.drop k)
   have ht1:=((Va.mono (G:=fun k=>k=bl) (fun _ _ h=>h.elim)).trans htr (fun _ _ h=>h)).trans (ak _ bl 0 (sv (s.drop k))) (fun _ _ h=>h)
   have he:Value.string (ByteArray.extract ⟨s.toArray⟩ k s.length)=sv (s.drop k):=by rw [nJ,List.take_length]
   have OD:=hid hl1
   have HT1:=hid ht1
   clear hL hL5 Bv htr Va hl1 ht1 hq c0 BU
   go_wp2_with fail
   go_end0
   exact⟨rfl,OD.out,HT1.out⟩
end Go.Proofs.YtmbppnbekkbibaaGreatDoor
set_option linter.unusedVariables false
namespace Go.Proofs.YtmbppnbekkbibaaGreatDoor
open Go.RowKit
theorem xG (s:Bt):eD s≤s.length:=by
 unfold eD
 have h1:=jo bQ s
 split
 ·have h2:=jo dK (s.drop (bW bQ s))
  rw [List.length_drop]at h2;omega
 ·omega
theorem En (s:Bt) (p:Nat ×Nat):s.drop (aS s)=(s.drop (eD s)).drop (aS (s.drop (eD s)))∧cO p (s.take (aS s))=cO (cO p (s.take (eD s))) ((s.drop (eD s)).take (aS (s.drop (eD s)))):=by
 have h:=Jr s
 generalize aS (s.drop (eD s))=m at*
 rw [h]
 refine⟨by rw [List.drop_drop], ?_⟩
 rw [List.take_add,jD]
def textOf (w:World) (bl:Nat):Nat:=match w.cell? ⟨bl,0,none⟩with | some (.string b)=>b.size | _=>0
theorem mK {w:World} {bl bp:Nat} {s:Bt} {p:Nat ×Nat} {bX:Value} (h:dA w bl bp s p bX):textOf w bl=s.length:=by
 unfold textOf;rw [h.c0];exact cu s
def rZ (w:World) (bl bp:Nat) (s:Bt) (p:Nat ×Nat) (bX:Value) (wr:World):Prop:=
 ∃(c:Bt) (q:Nat ×Nat),dA wr bl bp c q bX∧Turn (fun k=>k=bl) w wr∧c.length≤s.length∧s.drop (aS s)=c.drop (aS c)∧cO p (s.take (aS s))=cO q (c.take (aS c))∧
  q.1+c.length≤p.1+s.length∧q.2+c.length≤p.2+s.length∧1≤q.2
theorem mM {p:Nat ×Nat} (s:Bt) (h:1≤p.2):(cO p s).1≤p.1+s.length∧(cO p s).2≤p.2+s.length∧1≤(cO p s).2:=by
 induction s generalizing p with
 | nil=>exact⟨Nat.le_refl _,Nat.le_refl _,h⟩
 | cons c s ih=>
  have h0:cO p (c :: s)=cO (jY p c) s:=rfl
  rw [h0]
  have h1:(jY p c).1≤p.1+1∧(jY p c).2≤p.2+1∧1≤(jY p c).2:=by
   unfold jY;split
   ·exact⟨Nat.le_refl _,by show 1≤ _;omega,Nat.le_refl _⟩
   ·exact⟨Nat.le_succ _,Nat.le_refl _,by show 1≤ _+1;omega⟩
  obtain⟨a,b,d⟩:=ih h1.2.2
  simp only [List.length_cons]
  omega
theorem rZ.step {w wr w2:World} {bl bp:Nat} {s c:Bt} {p q:Nat ×Nat} {bX:Value} (htr:Turn (fun k=>k=bl) w wr) (hcl:c.length≤s.length) (hd:s.drop (aS s)=c.drop (aS c)) (ha:cO p (s.take (aS s))=cO q (c.take (aS c)))
  (hq1:q.1+c.length≤p.1+s.length) (hq2:q.2+c.length≤p.2+s.length) (hq3:1≤q.2) (h:dA w2 bl bp (c.drop (eD c)) (cO q (c.take (eD c))) bX) (ht:Turn (fun k=>k=bl) wr w2) (h0:0<eD c):
  rZ w bl bp s p bX w2∧textOf w2 bl<c.length:=by
 obtain⟨e1,e2⟩:=En c q
 have hone:=xG c
 have hl:=mM (c.take (eD c)) hq3
 rw [List.length_take,Nat.min_eq_left hone]at hl
 refine⟨⟨_, _,h,htr.trans ht (fun _ _ h=>h), ?_,hd.trans e1,ha.trans e2, ?_, ?_,hl.2.2⟩, ?_⟩
 ·rw [List.length_drop];omega
 ·rw [List.length_drop];omega
 ·rw [List.length_drop];omega
 ·rw [mK h,List.length_drop];omega
set_option maxRecDepth 100000 in
set_option maxHeartbeats 1000000 in
theorem qM (w:World) (bl bp:Nat) (s:Bt) (p:Nat ×Nat) (bX:Value) (hL:dA w bl bp s p bX) (hs:s.length≤100000) (hp:p.1≤700000∧p.2≤700000) (hp1:1≤p.2):
  Calls Tryz.prog 56 #[.pointer (some ⟨bl,0,none⟩)] w fun e w'=>
   e= .returned (.tuple #[])∧dA w' bl bp (s.drop (aS s)) (cO p (s.take (aS s))) bX∧Turn (fun k=>k=bl) w w':=by
 go_enter Tryz.func56,Tryz.ntmps56
 go_wp2_with fail
 go_loopw [2] (fun _ wr=>rZ w bl bp s p bX wr) (fun _ wr=>textOf wr bl)
 case atStart=>exact⟨s,p,hL,Turn.refl _ _,Nat.le_refl _,rfl,rfl,Nat.le_refl _,Nat.le_refl _,hp1⟩
 case round=>
  obtain⟨c,q,Bv,htr,hcl,hd,ha,hq1,hq2,hq3⟩:=hrel
  have hlen:=mK Bv
  have c0:=Bv.c0
  have hsz:=cu c
  have hrow:=jo bQ c
  have JC:=hid (fun w2 h ht h0=>rZ.step (w2:=w2) (bp:=bp) (bX:=bX) htr hcl hd ha hq1 hq2 hq3 h ht h0)
  have hz:eD c=0→dA wr bl bp (s.drop (aS s)) (cO p (s.take (aS s))) bX:=by
   intro h
   rw [hd,ha,GQ h]
   exact Bv
  have HZ:=hid hz
  have HL:=hid Bv
  have HLEN:=hid hlen
  have HT:=hid htr
  have he:Value.string (ByteArray.extract ⟨c.toArray⟩ (bW bQ c) c.length)=sv (c.drop (bW bQ c)):=by rw [nJ,List.take_length]
  have hone:eD c=bW bQ c+(if((c.drop (bW bQ c)).head?).map UInt8.toNat=some 35 then bW dK (c.drop (bW bQ c))else 0):=rfl
  have hle:=xG c
  have hdl:(c.drop (bW bQ c)).length=c.length - bW bQ c:=List.length_drop
  clear hd ha hz Bv htr hlen
  go_wp2_with fail
  refine(Hf c _ (by omega)).mono ?_
  rintro e w1 ⟨rfl,rfl⟩
  generalize hn:bW bQ c=n at*
  generalize hr:c.drop n=r at*
  have Ym:=hid hdl
  clear hdl
  cases r with
  | nil=>
   simp only [List.head?_nil,Option.map_none,reduceCtorEq,if_false,Nat.add_zero]at hone
   by_cases h0:n=0
   ·have hfin:=HZ.out (by omega)
    have OE:=hid hfin
    clear hfin
    subst h0
    go_wp2_with fail
    (try simp only [Exit.inBlock,Exit.then]);refine bodyPost_ret (results_none rfl _ _ _) rfl ?_
    exact⟨rfl,OE.out,HT.out⟩
   ·have h0':¬((n:Nat):Int)=0:=by omega
    go_wp2_with fail
    refine(oJ w1 bl bp c q bX n HL.out (by omega) (by omega) (by omega)).mono ?_
    rintro e w2 ⟨rfl,hl2,ht2⟩
    obtain⟨uS,hm2⟩:=JC.out w2 (by rw [hone];exact hl2) ht2 (by omega)
    have BZ:=hid uS
    have JD:=hid hm2
    clear uS hm2 hl2 ht2
    go_wp2_with fail
    go_roundw
    case rel=>exact BZ.out
    case measure=>have:=HLEN.out;have:=JD.out;omega
  | cons d tl=>
   simp only [List.head?_cons,Option.map_some,Option.some.injEq]at hone
   have hix:(ByteArray.mk (d :: tl).toArray)[0]'(by rw [cu];simp)=d:=gZ (d :: tl) 0 (by simp)
   have hsz2:=cu (d :: tl)
   by_cases hd:d.toNat=35
   ·rw [if_pos hd]at hone
    have hn2:=jo dK (d :: tl)
    have Zd:bW dK (d :: tl)+n≤c.length:=by have:=Ym.out;omega
    have Uw:1≤bW dK (d :: tl):=oG (by unfold dK;simp [hd])
    go_wp2_with fail
    refine(BP (d :: tl) _ (by have:=Ym.out;omega)).mono ?_
    rintro e w1 ⟨rfl,rfl⟩
    generalize bW dK (d :: tl)=n2 at*
    have h0':¬((n:Int)+(n2:Int))=0:=by omega
    have e12:(n:Int)+(n2:Int)=((n+n2:Nat):Int):=by omega
    have Vb:=hid e12
    clear e12
    go_wp2_with fail
    have e12:=Vb.out
    try rw [e12]
    refine(oJ w1 bl bp c q bX (n+n2) HL.out (by omega) (by omega) (by omega)).mono ?_
    rintro e w2 ⟨rfl,hl2,ht2⟩
    obtain⟨uS,hm2⟩:=JC.out w2 (by rw [hone];exact hl2) ht2 (by omega)
    have BZ:=hid uS
    have JD:=hid hm2
    clear uS hm2 hl2 ht2 e12
    go_wp2_with fail
    go_roundw
    case rel=>exact BZ.out
    case measure=>have:=HLEN.out;have:=JD.out;omega
   ·rw [if_neg hd,Nat.add_zero]at hone
    by_cases h0:n=0
    ·have hfin:=HZ.out (by omega)
     have OE:=hid hfin
     clear hfin
     subst h0
     go_wp2_with fail
     (try simp only [Exit.inBlock,Exit.then]);refine bodyPost_ret (results_none rfl _ _ _) rfl ?_
     exact⟨rfl,OE.out,HT.out⟩
    ·have h0':¬((n:Nat):Int)=0:=by omega
     go_wp2_with fail
     refine(oJ w1 bl bp c q bX n HL.out (by omega) (by omega) (by omega)).mono ?_
     rintro e w2 ⟨rfl,hl2,ht2⟩
     obtain⟨uS,hm2⟩:=JC.out w2 (by rw [hone];exact hl2) ht2 (by omega)
     have BZ:=hid uS
     have JD:=hid hm2
     clear uS hm2 hl2 ht2
     go_wp2_with fail
     go_roundw
     case rel=>exact BZ.out
     case measure=>have:=HLEN.out;have:=JD.out;omega
end Go.Proofs.YtmbppnbekkbibaaGreatDoor
end
section
set_option linter.unusedVariables false
namespace Go.Proofs.YtmbppnbekkbibaaGreatDoor
open Go.RowKit
theorem bR {fn:Func} {t u v x:Tmp} (h:fn.results= #[.tmp t, .tmp u, .tmp v, .tmp x]) (tmps:Array Value) (P:Program) (w:World):
  (results fn tmps).run P w= .ok (.tuple #[tmps.getD t undef,tmps.getD u undef,tmps.getD v undef,tmps.getD x undef]) w:=by
 simp [results,h]
def vR:Int ⊕ (Int ×Bt ×Nat)→Value
 | .inl e=> .tuple #[.int .i64 0,sv [], .int .i64 0, .int .i64 e]
 | .inr (kd,t,n)=> .tuple #[.int .i64 kd,sv t, .int .i64 (n:Nat), .int .i64 0]
def Au (s:Bt):Int ⊕ (Int ×Bt ×Nat):=
 if 32<bW bN s then .inl 2 else if s.take (bW bN s)∈eZ then .inr (2,s.take (bW bN s),bW bN s)else .inr (1,s.take (bW bN s),bW bN s)
def wH (s:Bt):Int ⊕ (Int ×Bt ×Nat):=if(eP (s.take (bW dF s))).2 then .inr (3,s.take (bW dF s),bW dF s)else .inl 3
theorem sj (s:Bt) (n:Nat):Value.string (ByteArray.extract ⟨s.toArray⟩ 0 n)=sv (s.take n):=by
 rw [nJ,List.drop_zero]
set_option maxRecDepth 100000 in
set_option maxHeartbeats 1000000 in
theorem Hq (w:World) (bl bp:Nat) (s:Bt) (p:Nat ×Nat) (bX:Value) (hL:dA w bl bp s p bX) (hs:s.length≤100000) (hX:jH w):
  Calls Tryz.prog 105 #[.pointer (some ⟨bl,0,none⟩)] w fun e w'=>e= .returned (vR (Au s))∧Below w.heap.size w w':=by
 have c0:=hL.c0
 have hsz:=cu s
 have hle:=jo bN s
 have he:=sj s (bW bN s)
 have hR:Au s=if 32<bW bN s then .inl 2 else if s.take (bW bN s)∈eZ then .inr (2,s.take (bW bN s),bW bN s)else .inr (1,s.take (bW bN s),bW bN s):=rfl
 have hrow:=zH s w (by omega)
 have dP:=hid hrow
 clear hrow
 generalize bW bN s=n at*
 by_cases h32:32<n
 ·rw [if_pos h32]at hR
  rw [hR]
  clear hR
  go_enter Tryz.func105,Tryz.ntmps105
  go_wp2_with fail
  refine dP.out.mono ?_
  rintro e w1 ⟨rfl,rfl⟩
  go_wp2_with fail
  refine bodyPost_ret (bR rfl _ _ _) rfl ?_
  exact⟨rfl,Below.refl _ _⟩
 ·rw [if_neg h32]at hR
  by_cases hw:s.take n∈eZ
  ·rw [if_pos hw]at hR
   rw [hR]
   clear hR
   go_enter Tryz.func105,Tryz.ntmps105
   go_wp2_with fail
   refine dP.out.mono ?_
   rintro e w1 ⟨rfl,rfl⟩
   go_wp2_with fail
   refine(tX _ hX.t).mono ?_
   rintro e w2 ⟨v2,rfl,OG,hb2⟩
   go_wp2_with fail
   refine(kE v2 eZ (s.take n) _ OG).mono ?_
   rintro e w3 ⟨rfl,rfl⟩
   rw [decide_eq_true hw]
   go_wp2_with fail
   refine bodyPost_ret (bR rfl _ _ _) rfl ?_
   exact⟨rfl,hb2⟩
  ·rw [if_neg hw]at hR
   rw [hR]
   clear hR
   go_enter Tryz.func105,Tryz.ntmps105
   go_wp2_with fail
   refine dP.out.mono ?_
   rintro e w1 ⟨rfl,rfl⟩
   go_wp2_with fail
   refine(tX _ hX.t).mono ?_
   rintro e w2 ⟨v2,rfl,OG,hb2⟩
   go_wp2_with fail
   refine(kE v2 eZ (s.take n) _ OG).mono ?_
   rintro e w3 ⟨rfl,rfl⟩
   rw [decide_eq_false hw]
   go_wp2_with fail
   refine bodyPost_ret (bR rfl _ _ _) rfl ?_
   exact⟨rfl,hb2⟩
set_option maxRecDepth 100000 in
set_option maxHeartbeats 1000000 in
theorem Eo (w:World) (bl bp:Nat) (s:Bt) (p:Nat ×Nat) (bX:Value) (hL:dA w bl bp s p bX) (hs:s.length≤100000) (hX:jH w):
  Calls Tryz.prog 107 #[.pointer (some ⟨bl,0,none⟩)] w fun e w'=>e= .returned (vR (wH s))∧Below w.heap.size w w':=by
 have c0:=hL.c0
 have hsz:=cu s
 have hle:=jo dF s
 have he:=sj s (bW dF s)
 have hR:wH s=if(eP (s.take (bW dF s))).2 then .inr (3,s.take (bW dF s),bW dF s)else .inl 3:=rfl
 have dP:=hid (Hg s w (by omega))
 generalize bW dF s=n at*
 have hpz:(ByteArray.mk (s.take n).toArray).size≤281474976710656:=by rw [cu,List.length_take];omega
 have HP:=hid (zD ⟨(s.take n).toArray⟩ w hpz hX.1)
 clear hpz
 have hpv:eP (ByteArray.mk (s.take n).toArray).data.toList=eP (s.take n):=rfl
 rw [hpv]at HP
 clear hpv
 generalize eP (s.take n)=r at*
 obtain⟨i,q⟩:=r
 simp only at hR HP
 rw [hR]
 clear hR
 go_enter Tryz.func107,Tryz.ntmps107
 go_wp2_with fail
 refine dP.out.mono ?_
 rintro e w1 ⟨rfl,rfl⟩
 go_wp2_with fail
 refine HP.out.mono ?_
 rintro e w2 ⟨rfl,hb2⟩
 have c02:=(hb2.cell (p:=⟨bl,0,none⟩) hL.lt).trans c0
 cases q
 ·go_wp2_with fail
  refine bodyPost_ret (bR rfl _ _ _) rfl ?_
  exact⟨rfl,hb2⟩
 ·go_wp2_with fail
  go_quiet (fail)
  go_wp2_with fail
  refine bodyPost_ret (bR rfl _ _ _) rfl ?_
  exact⟨rfl,hb2.trans (aM w2 _ |>.mono hb2.size)⟩
end Go.Proofs.YtmbppnbekkbibaaGreatDoor
set_option linter.unusedVariables false
namespace Go.Proofs.YtmbppnbekkbibaaGreatDoor
open Go.RowKit
theorem sw:iP Tryz.prog 163 5 (.int .u8 0) 1 1:=⟨Tryz.underlying163,by kernel_rfl,rfl,by decide⟩
theorem Ml {P:Program} (w:World) (src dst e:TypeId) (hs:P.underlying src=some .string) (hd:P.underlying dst=some (.slice e)) (he:P.underlying e=some (.int .u8)) (s:Bt):
  ∃C w5,(convert src dst (sv s)).run P w= .ok (.slice (some ⟨w.heap.size,0,none⟩) s.length C) w5∧Below w.heap.size w w5∧w.heap.size<w5.heap.size∧
   ∀j (hj:j<s.length),w5.cell? ⟨w.heap.size,j,none⟩=some (.int .u8 (s[j].toNat:Int)):=by
 have hsz:=cu s
 have hrun:=Lib.run_convert_string_bytes (P:=P) w src dst e ⟨s.toArray⟩ hs hd he
 have hcell:=Lib.bytesWorld_cell w e ⟨s.toArray⟩
 have hsize:=Lib.bytesWorld_size w e ⟨s.toArray⟩
 have hold:=Lib.bytesWorld_at_old w e ⟨s.toArray⟩
 rw [hsz]at hrun hcell
 refine⟨_, _,hrun,⟨rfl,rfl,rfl,by rw [hsize];omega,fun k hk=>hold k hk⟩,by rw [hsize];omega,fun j hj=> ?_⟩
 rw [hcell j hj]
 have e:(ByteArray.mk s.toArray).data.toList=s:=rfl
 rw [e]
 simp [List.getD_eq_getElem?_getD,List.getElem?_eq_getElem hj]
theorem byte_of {X:UInt8} {n:Nat} (hn:n<256) (h:X.toNat=n):X=UInt8.ofNat n:=by
 apply UInt8.toNat_inj.1
 rw [UInt8.toNat_ofNat',h];omega
theorem Hr (X:UInt8):(X=92∧DZ X=some 92∧Lib.indexByte [92,34,110,116] X=0)∨(X=34∧DZ X=some 34∧Lib.indexByte [92,34,110,116] X=1)∨(X=110∧DZ X=some 10∧Lib.indexByte [92,34,110,116] X=2)∨(X=116∧DZ X=some 9∧Lib.indexByte [92,34,110,116] X=3)∨
  (DZ X=none∧Lib.indexByte [92,34,110,116] X= -1):=by
 by_cases h1:X=92
 ·subst h1;exact .inl ⟨rfl,rfl,rfl⟩
 by_cases h2:X=34
 ·subst h2;exact .inr (.inl ⟨rfl,rfl,rfl⟩)
 by_cases h3:X=110
 ·subst h3;exact .inr (.inr (.inl ⟨rfl,rfl,rfl⟩))
 by_cases h4:X=116
 ·subst h4;exact .inr (.inr (.inr (.inl ⟨rfl,rfl,rfl⟩)))
 refine .inr (.inr (.inr (.inr ⟨?_, ?_⟩)))
 ·unfold DZ
  rw [if_neg (fun h=>h1 (byte_of (by decide) h)),if_neg (fun h=>h2 (byte_of (by decide) h)),if_neg (fun h=>h3 (byte_of (by decide) h)),if_neg (fun h=>h4 (byte_of (by decide) h))]
 ·have e1:((92:UInt8)==X)=false:=by rw [beq_eq_false_iff_ne];exact fun h=>h1 h.symm
  have e2:((34:UInt8)==X)=false:=by rw [beq_eq_false_iff_ne];exact fun h=>h2 h.symm
  have e3:((110:UInt8)==X)=false:=by rw [beq_eq_false_iff_ne];exact fun h=>h3 h.symm
  have e4:((116:UInt8)==X)=false:=by rw [beq_eq_false_iff_ne];exact fun h=>h4 h.symm
  simp [Lib.indexByte,e1,e2,e3,e4]
theorem ofNat_toNat (X:UInt8):UInt8.ofNat ((X.toNat:Int)).toNat=X:=by simp
theorem jv (X:UInt8):((X.toNat:Int)).toNat.toUInt8=X:=by simp
def xH:Option (Bt ×Nat)→Value
 | none=> .tuple #[sv [], .int .i64 0]
 | some (t,n)=> .tuple #[sv t, .int .i64 (n:Nat)]
def JE (w5:World) (ans:Option (Bt ×Nat)) (r:Bt) (k:Nat) (v4 v5:Value) (wr:World):Prop:=
 ∃(back:Bool) (o:Bt),v5= .bool back∧kS wr w5.heap.size 5 v4 o∧gP back o k (r.drop k)=ans∧o.length≤k∧Below w5.heap.size w5 wr
set_option maxRecDepth 100000 in
set_option maxHeartbeats 2000000 in
theorem Ep (w:World) (s:Bt) (hs:s.length≤100000) (h1:1≤s.length):
  Calls Tryz.prog 149 #[sv s] w fun e w'=>e= .returned (xH (oF s))∧Below w.heap.size w w':=by
 have hsz:=cu s
 have he:Value.string (ByteArray.extract ⟨s.toArray⟩ 1 s.length)=sv (s.drop 1):=by rw [nJ,List.take_length]
 have hq0:gP false [] 0 ((s.drop 1).drop 0)=oF s:=rfl
 have hrl:(s.drop 1).length≤100000:=by rw [List.length_drop];omega
 generalize s.drop 1=r at*
 obtain⟨C,w5,BU,hb5,OC,hcells⟩:=Ml (P:=Tryz.prog) w 9 163 5 Tryz.underlying9 Tryz.underlying163 Tryz.underlying5 r
 have HC:=hid hcells
 have Rx:=hid hq0
 clear hcells hq0
 generalize oF s=ans at*
 go_enter Tryz.func149,Tryz.ntmps149
 go_wp2_with fail
 go_loopw [4,5,13] (fun v4 v5 v13 wr=>∃k:Nat,v13= .int .i64 k∧k≤r.length∧JE w5 ans r k v4 v5 wr) (fun _ _ v13 _=>r.length - (intOf v13).toNat)
 case atStart=>exact⟨0,rfl,by omega,false,[],rfl,kS.nil _ _ _,Rx.out,Nat.le_refl _,Below.refl _ _⟩
 case round=>
  obtain⟨k,rfl,hk,back,o,rfl,hown,hq,hol,hbr⟩:=hrel
  have hfin:Below w.heap.size w wr:=hb5.trans (hbr.mono hb5.size)
  by_cases hlt:k<r.length
  ·rw [List.drop_eq_getElem_cons hlt,gP]at hq
   have d1:=(hbr.cell (p:=⟨w.heap.size,k,none⟩) OC).trans (HC.out k hlt)
   generalize r[k]=X at*
   clear BU
   by_cases h32:X.toNat<32
   ·rw [if_pos h32]at hq
    subst hq
    go_wp2_with fail
    go_ret2
    exact⟨rfl,hfin⟩
   rw [if_neg h32]at hq
   have Yn:((X.toNat:Int)).toNat.toUInt8=X:=by simp
   cases back with
   | true=>
    rw [if_pos rfl]at hq
    rcases Hr X with⟨hX,e1,e2⟩ | ⟨hX,e1,e2⟩ | ⟨hX,e1,e2⟩ | ⟨hX,e1,e2⟩ | ⟨e1,e2⟩
    all_goals have E2:=hid e2
    all_goals clear e2 Yn
    all_goals try clear hX
    ·rw [e1]at hq
     have hq2:gP false (o++[92]) (k+1) (r.drop (k+1))=ans:=hq
     have i0:((ByteArray.mk #[92,34,10,9])[0]'(by decide)).toNat=92:=rfl
     have HQ:=hid hq2
     clear hq hq2 e1
     go_wp2_with (first
      | (go_at_call 150;refine(Tryz.strings_IndexByte _ _ _).mono ?_;rintro e w1 ⟨rfl,rfl⟩;rw [jv,E2.out])
      | (at_builtin;refine jC rfl _ (.tmp 34) _ rfl w5.heap.size sw _ _ rfl rfl (hown.alloc _) (wU _ (92:Int) _ (by decide)) (by simp;omega) (gW hbr.size _) (fun v7 w7 aK fV dV=> ?_);have gI:=kT (hbr.alloc hbr.size _) (hown.alloc _) fV (Nat.le_refl _) (gW hbr.size _);clear fV dV))
     go_roundw
     case rel=>exact⟨k+1,rfl,by omega,false,o++[92],rfl,aK,HQ.out,by simp;omega,gI⟩
     case measure=>simp [intOf];omega
    ·rw [e1]at hq
     have hq2:gP false (o++[34]) (k+1) (r.drop (k+1))=ans:=hq
     have i0:((ByteArray.mk #[92,34,10,9])[1]'(by decide)).toNat=34:=rfl
     have HQ:=hid hq2
     clear hq hq2 e1
     go_wp2_with (first
      | (go_at_call 150;refine(Tryz.strings_IndexByte _ _ _).mono ?_;rintro e w1 ⟨rfl,rfl⟩;rw [jv,E2.out])
      | (at_builtin;refine jC rfl _ (.tmp 34) _ rfl w5.heap.size sw _ _ rfl rfl (hown.alloc _) (wU _ (34:Int) _ (by decide)) (by simp;omega) (gW hbr.size _) (fun v7 w7 aK fV dV=> ?_);have gI:=kT (hbr.alloc hbr.size _) (hown.alloc _) fV (Nat.le_refl _) (gW hbr.size _);clear fV dV))
     go_roundw
     case rel=>exact⟨k+1,rfl,by omega,false,o++[34],rfl,aK,HQ.out,by simp;omega,gI⟩
     case measure=>simp [intOf];omega
    ·rw [e1]at hq
     have hq2:gP false (o++[10]) (k+1) (r.drop (k+1))=ans:=hq
     have i0:((ByteArray.mk #[92,34,10,9])[2]'(by decide)).toNat=10:=rfl
     have HQ:=hid hq2
     clear hq hq2 e1
     go_wp2_with (first
      | (go_at_call 150;refine(Tryz.strings_IndexByte _ _ _).mono ?_;rintro e w1 ⟨rfl,rfl⟩;rw [jv,E2.out])
      | (at_builtin;refine jC rfl _ (.tmp 34) _ rfl w5.heap.size sw _ _ rfl rfl (hown.alloc _) (wU _ (10:Int) _ (by decide)) (by simp;omega) (gW hbr.size _) (fun v7 w7 aK fV dV=> ?_);have gI:=kT (hbr.alloc hbr.size _) (hown.alloc _) fV (Nat.le_refl _) (gW hbr.size _);clear fV dV))
     go_roundw
     case rel=>exact⟨k+1,rfl,by omega,false,o++[10],rfl,aK,HQ.out,by simp;omega,gI⟩
     case measure=>simp [intOf];omega
    ·rw [e1]at hq
     have hq2:gP false (o++[9]) (k+1) (r.drop (k+1))=ans:=hq
     have i0:((ByteArray.mk #[92,34,10,9])[3]'(by decide)).toNat=9:=rfl
     have HQ:=hid hq2
     clear hq hq2 e1
     go_wp2_with (first
      | (go_at_call 150;refine(Tryz.strings_IndexByte _ _ _).mono ?_;rintro e w1 ⟨rfl,rfl⟩;rw [jv,E2.out])
      | (at_builtin;refine jC rfl _ (.tmp 34) _ rfl w5.heap.size sw _ _ rfl rfl (hown.alloc _) (wU _ (9:Int) _ (by decide)) (by simp;omega) (gW hbr.size _) (fun v7 w7 aK fV dV=> ?_);have gI:=kT (hbr.alloc hbr.size _) (hown.alloc _) fV (Nat.le_refl _) (gW hbr.size _);clear fV dV))
     go_roundw
     case rel=>exact⟨k+1,rfl,by omega,false,o++[9],rfl,aK,HQ.out,by simp;omega,gI⟩
     case measure=>simp [intOf];omega
    ·rw [e1]at hq
     have hq2:none=ans:=hq
     subst hq2
     clear hq e1
     go_wp2_with (go_at_call 150;refine(Tryz.strings_IndexByte _ _ _).mono ?_;rintro e w1 ⟨rfl,rfl⟩;rw [jv,E2.out])
     go_ret2
     exact⟨rfl,hfin⟩
   | false=>
    rw [if_neg (by simp)]at hq
    clear Yn
    by_cases QY:X.toNat=92
    ·rw [if_pos QY]at hq
     have HQ:=hid hq
     clear hq
     go_wp2_with fail
     go_roundw
     case rel=>exact⟨k+1,rfl,by omega,true,o,rfl,hown,HQ.out,by omega,hbr⟩
     case measure=>simp [intOf];omega
    rw [if_neg QY]at hq
    by_cases LW:X.toNat=34
    ·rw [if_pos LW]at hq
     subst hq
     have hso:=yX (P:=Tryz.prog) hown.bs 163 5 9 Tryz.underlying163 Tryz.underlying5 Tryz.underlying9
     go_wp2_with fail
     go_ret2
     exact⟨by simp [xH],hfin⟩
    rw [if_neg LW]at hq
    have HQ:=hid hq
    clear hq
    go_wp2_with (first
     | (at_builtin;refine jC rfl _ (.tmp 20) _ rfl w5.heap.size sw _ _ rfl rfl (hown.alloc _) (wU _ (X.toNat:Int) _ (by have:=X.toNat_lt;omega)) (by simp;omega) (gW hbr.size _) (fun v7 w7 aK fV dV=> ?_);have gI:=kT (hbr.alloc hbr.size _) (hown.alloc _) fV (Nat.le_refl _) (gW hbr.size _);clear fV dV))
    rw [ofNat_toNat]at aK
    go_roundw
    case rel=>exact⟨k+1,rfl,by omega,false,o++[X],rfl,aK,HQ.out,by simp;omega,gI⟩
    case measure=>simp [intOf];omega
  ·obtain rfl:k=r.length:=by omega
   rw [List.drop_length]at hq
   have hq2:none=ans:=by rw [←hq];cases back <;> rfl
   subst hq2
   clear hq BU
   go_wp2_with fail
   go_ret2
   exact⟨rfl,hfin⟩
end Go.Proofs.YtmbppnbekkbibaaGreatDoor
set_option linter.unusedVariables false
namespace Go.Proofs.YtmbppnbekkbibaaGreatDoor
open Go.RowKit
open Go.Maps (has IsMap Keyed)
def Er (s:Bt):Int ⊕ (Int ×Bt ×Nat):=
 match oF s with
 | none=> .inl 4
 | some (t,n)=>if 256<t.length then .inl 2 else .inr (4,t,n)
set_option maxRecDepth 100000 in
set_option maxHeartbeats 1000000 in
theorem Mq (w:World) (bl bp:Nat) (s:Bt) (p:Nat ×Nat) (bX:Value) (hL:dA w bl bp s p bX) (hs:s.length≤100000) (h1:1≤s.length):
  Calls Tryz.prog 108 #[.pointer (some ⟨bl,0,none⟩)] w fun e w'=>e= .returned (vR (Er s))∧Below w.heap.size w w':=by
 have c0:=hL.c0
 have HP:=hid (Ep w s hs h1)
 cases hq:oF s with
 | none=>
  have hR:Er s= .inl 4:=by unfold Er;rw [hq]
  rw [hR]
  rw [hq]at HP
  clear hR hq
  go_enter Tryz.func108,Tryz.ntmps108
  go_wp2_with fail
  refine HP.out.mono ?_
  rintro e w1 ⟨rfl,hb1⟩
  unfold xH
  go_wp2_with fail
  refine bodyPost_ret (bR rfl _ _ _) rfl ?_
  exact⟨rfl,hb1⟩
 | some r=>
  obtain⟨t,n⟩:=r
  have hle:=zx hq
  have hn:¬(n:Int)=0:=by omega
  have hsz:=cu t
  have hR:Er s=if 256<t.length then .inl 2 else .inr (4,t,n):=by unfold Er;rw [hq]
  rw [hq]at HP
  clear hq hle
  by_cases Ry:256<t.length
  ·rw [if_pos Ry]at hR
   rw [hR]
   clear hR
   go_enter Tryz.func108,Tryz.ntmps108
   go_wp2_with fail
   refine HP.out.mono ?_
   rintro e w1 ⟨rfl,hb1⟩
   unfold xH
   go_wp2_with fail
   refine bodyPost_ret (bR rfl _ _ _) rfl ?_
   exact⟨rfl,hb1⟩
  ·rw [if_neg Ry]at hR
   rw [hR]
   clear hR
   go_enter Tryz.func108,Tryz.ntmps108
   go_wp2_with fail
   refine HP.out.mono ?_
   rintro e w1 ⟨rfl,hb1⟩
   unfold xH
   go_wp2_with fail
   refine bodyPost_ret (bR rfl _ _ _) rfl ?_
   exact⟨rfl,hb1⟩
def oK (a b:UInt8):Value:= .agg #[.int .u8 (a.toNat:Int), .int .u8 (b.toNat:Int)]
theorem sD:Keyed Tryz.prog 160:=Keyed.of_law (deep_law_laid (m:=2) (by kernel_rfl) (by omega) (of_decide_eq_true (by kernel_rfl)) (by kernel_rfl) (by kernel_rfl))
theorem Ht (w:World):(zeroValue 4).run Tryz.prog w= .ok (.bool false) w:=by kernel_rfl
theorem wf_u8 (a:UInt8):(Lit.int .u8 (a.toNat:Int)).wf=true:=by
 have e1:IntKind.u8.min=0:=by decide
 have e2:IntKind.u8.max=255:=by decide
 have:=a.toNat_lt
 simp [Lit.wf,e1,e2]
 omega
theorem FV (d:Nat) (a:UInt8):Tryz.prog.keyLits (d+1) 5 [.int .u8 (a.toNat:Int)]=some [.int .u8 (a.toNat:Int)]:=by
 simp [Program.keyLits,Tryz.underlying5,wf_u8]
theorem Ca (a b:UInt8):∃kl,keyOf Tryz.prog 160 (oK a b)=some kl:=by
 obtain⟨d,hd⟩:∃d,Tryz.prog.types.size=d+1:=⟨Tryz.prog.types.size - 1,by kernel_rfl⟩
 have h2:Tryz.prog.cellsOf 160=2:=by kernel_rfl
 have h3:Tryz.prog.cellsOf 5=1:=by kernel_rfl
 have hk:Tryz.prog.keyType 160=true:=by kernel_rfl
 have hf:(oK a b).formed Tryz.prog 160=true:=by simp [Value.formed,Tryz.underlying160,h2,oK]
 refine⟨.string (keyBytes [.int .u8 (a.toNat:Int), .int .u8 (b.toNat:Int)]), ?_⟩
 have e:Tryz.prog.keyLits (d+1+1) 160 [.int .u8 (a.toNat:Int), .int .u8 (b.toNat:Int)]=some [.int .u8 (a.toNat:Int), .int .u8 (b.toNat:Int)]:=by
  rw [Program.keyLits.eq_def]
  simp only [Tryz.underlying160]
  simp [h2,h3,List.range_succ,FV d a,FV d b]
 simp only [keyOf,Tryz.underlying160,hk,hf,Bool.and_self,if_true,hd]
 have e2:(oK a b).cells.toList=[.int .u8 (a.toNat:Int), .int .u8 (b.toNat:Int)]:=rfl
 rw [e2,e];rfl
def wI (D:DataW Unit) (l:List Bt):Prop:=∀(a b:UInt8) (kl:Lit),keyOf Tryz.prog 160 (oK a b)=some kl→∀z,D.atKey kl z=if [a,b]∈l then .lit (.bool true)else z
def iW (w:World) (bp:Nat) (l:List Bt):Prop:=∃(n:Nat) (D:DataW Unit),n≤l.length∧w.ownsMap Tryz.prog 160 (plainElem Tryz.prog 4) bp n D∧wI D l
theorem iW.turn {w w':World} {bp:Nat} {l:List Bt} {G:Nat→Prop} (h:iW w bp l) (t:Turn G w w') (hd:¬G bp):iW w' bp l:=by
 obtain⟨n,D,h0,h1,h2⟩:=h
 exact⟨n,D,h0,Ju h1 t hd,h2⟩
set_option maxRecDepth 100000 in
theorem Cb {v:Value} {x:Bool} {ps:List MemPlace} (h:plainElem (H:=Unit) Tryz.prog 4 v=some (.lit (.bool x),ps)):v= .bool x:=by
 unfold plainElem at h
 rw [Tryz.underlying4]at h
 cases v <;> simp at h
 rw [h.1]
theorem Es {w:World} {bp:Nat} {l:List Bt} (h:iW w bp l) (a b:UInt8):(Instr.lookup 107 (.map (some bp)) (oK a b) false).run Tryz.prog w= .ok (.bool (decide ([a,b]∈l))) w:=by
 obtain⟨n,D, _,hown,hD⟩:=h
 obtain⟨kl,hk⟩:=Ca a b
 obtain⟨v,ps,hrun,hR⟩:=hown.lookup sD Tryz.underlying107 (Ht w) (plainElem_bool Tryz.underlying4 false) hk
 rw [hrun]
 rw [hD a b kl hk]at hR
 by_cases hin:[a,b]∈l
 ·rw [if_pos hin]at hR
  rw [Cb hR,decide_eq_true hin]
 ·rw [if_neg hin]at hR
  rw [Cb hR,decide_eq_false hin]
def uT (s:Bt):Int ⊕ (Int ×Bt ×Nat):=if s.take 2∈cZ then .inr (5,s.take 2,2)else if s.headD 0∈fO then .inr (5,s.take 1,1)else .inl 5
theorem zI {l:Bt} {c:UInt8}:0≤Lib.indexByte l c↔c∈l:=by
 induction l with
 | nil=>simp [Lib.indexByte]
 | cons b l ih=>
  rw [Lib.indexByte]
  by_cases h:b=c
  ·subst h;simp
  ·have hb:(b==c)=false:=by rw [beq_eq_false_iff_ne];exact h
   rw [hb]
   simp only [Bool.false_eq_true,if_false]
   have hge:=Lib.indexByte_ge l c
   by_cases h1:Lib.indexByte l c= -1
   ·have h2:(Lib.indexByte l c== -1)=true:=by rw [beq_iff_eq];exact h1
    rw [if_pos h2]
    constructor
    ·intro hh;omega
    ·intro hh
     rcases List.mem_cons.1 hh with hh | hh
     ·exact absurd hh.symm h
     ·have:=ih.2 hh;omega
   ·have h2:¬(Lib.indexByte l c== -1)=true:=by rw [beq_iff_eq];exact h1
    rw [if_neg h2]
    constructor
    ·intro hh
     exact List.mem_cons_of_mem _ (ih.1 (by omega))
    ·intro hh
     rcases List.mem_cons.1 hh with hh | hh
     ·exact absurd hh.symm h
     ·have:=ih.2 hh;omega
theorem sF:(⟨fO.toArray⟩:ByteArray).data.toList=fO:=rfl
set_option maxRecDepth 100000 in
set_option maxHeartbeats 1000000 in
theorem JF (w:World) (bl bp:Nat) (c:UInt8) (r:Bt) (p:Nat ×Nat) (bX:Value) (hL:dA w bl bp (c :: r) p bX) (hs:(c :: r).length≤100000) (hP:iW w bp cZ):
  Calls Tryz.prog 109 #[.pointer (some ⟨bl,0,none⟩)] w fun e w'=>e= .returned (vR (uT (c :: r)))∧Below w.heap.size w w':=by
 have c0:=hL.c0
 have c3:=hL.c3
 have hsz:=cu (c :: r)
 cases r with
 | nil=>
  have hnp:(c :: ([]:Bt)).take 2 ∉ cZ:=fun h=>by
   have hall:∀m∈cZ,m.length=2:=by decide
   have:=hall _ h
   simp at this
  have hix:=gZ (c :: []) 0 (by simp)
  have he1:Value.string (ByteArray.extract ⟨(c :: ([]:Bt)).toArray⟩ 0 1)=sv [c]:=sj _ 1
  have hR:uT (c :: [])=if c∈fO then .inr (5,[c],1)else .inl 5:=by unfold uT;rw [if_neg hnp];rfl
  obtain⟨ans,yZ⟩:∃ans,ans=uT (c :: []):=⟨_,rfl⟩
  rw [←yZ]
  rw [←yZ]at hR
  clear hnp yZ
  go_enter Tryz.func109,Tryz.ntmps109
  go_wp2_with fail
  go_quiet (fail)
  go_wp2_with fail
  refine(Tryz.strings_IndexByte ⟨fO.toArray⟩ _ _).mono ?_
  rintro e w1 ⟨rfl,rfl⟩
  rw [jv,sF]
  have hi:=zI (l:=fO) (c:=c)
  generalize Lib.indexByte fO c=ix at*
  by_cases hc:c∈fO
  ·have OH:¬(ix<0):=by have:=hi.2 hc;omega
   rw [if_pos hc]at hR
   subst hR
   clear hi
   go_wp2_with fail
   go_quiet (fail)
   go_wp2_with fail
   refine bodyPost_ret (bR rfl _ _ _) rfl ?_
   exact⟨rfl,((aM w _).trans (aM _ _ |>.mono (Nat.le_refl _)))⟩
  ·have OH:ix<0:=by
    rcases Int.lt_or_le ix 0 with h | h
    ·exact h
    ·exact absurd (hi.1 h) hc
   rw [if_neg hc]at hR
   subst hR
   clear hi
   go_wp2_with fail
   refine bodyPost_ret (bR rfl _ _ _) rfl ?_
   exact⟨rfl,aM w _⟩
 | cons d r=>
  have hl1:(1:Int)<(r.length:Int)+1+1:=by omega
  have hl0:(0:Int)<(r.length:Int)+1+1:=by omega
  have hix:=gZ (c :: d :: r) 0 (by simp)
  have Vd:=gZ (c :: d :: r) 1 (by simp)
  have he1:Value.string (ByteArray.extract ⟨(c :: d :: r).toArray⟩ 0 1)=sv [c]:=sj _ 1
  have he2:Value.string (ByteArray.extract ⟨(c :: d :: r).toArray⟩ 0 2)=sv [c,d]:=sj _ 2
  have Np:∀n,(Instr.lookup 107 (.map (some bp)) (.agg #[.int .u8 (c.toNat:Int), .int .u8 (d.toNat:Int)]) false).run Tryz.prog (w.drewN n)= .ok (.bool (decide ([c,d]∈cZ))) (w.drewN n):=
   fun n=>Es (hP.turn (Turn.drewN (fun _=>False) w n) id) c d
  have hR0:uT (c :: d :: r)=if [c,d]∈cZ then .inr (5,[c,d],2)else if c∈fO then .inr (5,[c],1)else .inl 5:=rfl
  by_cases hp:[c,d]∈cZ
  ·rw [if_pos hp]at hR0
   rw [decide_eq_true hp]at Np
   rw [hR0]
   clear hR0 hp
   go_enter Tryz.func109,Tryz.ntmps109
   go_wp2_with fail
   go_quiet (fail)
   go_wp2_with fail
   go_quiet (fail)
   go_wp2_with fail
   refine bodyPost_ret (bR rfl _ _ _) rfl ?_
   exact⟨rfl,(aM w _).trans (aM _ _ |>.mono (Nat.le_refl _))⟩
  ·rw [if_neg hp]at hR0
   rw [decide_eq_false hp]at Np
   obtain⟨ans,yZ⟩:∃ans,ans=uT (c :: d :: r):=⟨_,rfl⟩
   rw [←yZ]
   have hR:=yZ.trans hR0
   clear hR0 hp yZ
   go_enter Tryz.func109,Tryz.ntmps109
   go_wp2_with fail
   go_quiet (fail)
   go_wp2_with fail
   refine(Tryz.strings_IndexByte ⟨fO.toArray⟩ _ _).mono ?_
   rintro e w1 ⟨rfl,rfl⟩
   rw [jv,sF]
   have hi:=zI (l:=fO) (c:=c)
   generalize Lib.indexByte fO c=ix at*
   by_cases hc:c∈fO
   ·have OH:¬(ix<0):=by have:=hi.2 hc;omega
    rw [if_pos hc]at hR
    subst hR
    clear hi
    go_wp2_with fail
    go_quiet (fail)
    go_wp2_with fail
    refine bodyPost_ret (bR rfl _ _ _) rfl ?_
    exact⟨rfl,((aM w _).trans (aM _ _ |>.mono (Nat.le_refl _)))⟩
   ·have OH:ix<0:=by
     rcases Int.lt_or_le ix 0 with h | h
     ·exact h
     ·exact absurd (hi.1 h) hc
    rw [if_neg hc]at hR
    subst hR
    clear hi
    go_wp2_with fail
    refine bodyPost_ret (bR rfl _ _ _) rfl ?_
    exact⟨rfl,aM w _⟩
end Go.Proofs.YtmbppnbekkbibaaGreatDoor
set_option linter.unusedVariables false
namespace Go.Proofs.YtmbppnbekkbibaaGreatDoor
open Go.RowKit
open Go.Maps (has IsMap Keyed)
theorem JG (c:UInt8) (r:Bt):eF (c :: r)=if iy c then Au (c :: r)else if dF c then wH (c :: r)else if c.toNat=34 then Er (c :: r)else uT (c :: r):=rfl
set_option maxRecDepth 100000 in
set_option maxHeartbeats 1000000 in
theorem JH (w:World) (bl bp:Nat) (c:UInt8) (r:Bt) (p:Nat ×Nat) (bX:Value) (hL:dA w bl bp (c :: r) p bX) (hs:(c :: r).length≤100000) (hX:jH w) (hP:iW w bp cZ):
  Calls Tryz.prog 57 #[.pointer (some ⟨bl,0,none⟩)] w fun e w'=>e= .returned (vR (eF (c :: r)))∧Below w.heap.size w w':=by
 have c0:=hL.c0
 have hsz:=cu (c :: r)
 have hix:(ByteArray.mk (c :: r).toArray)[0]'(by rw [cu];simp)=c:=gZ (c :: r) 0 (by simp)
 have hl0:(0:Int)<(r.length:Int)+1:=by omega
 have HN:=hid (Hq w bl bp (c :: r) p bX hL hs hX)
 have HU:=hid (Eo w bl bp (c :: r) p bX hL hs hX)
 have HS:=hid (Mq w bl bp (c :: r) p bX hL hs (by simp))
 have HG:=hid (JF w bl bp c r p bX hL hs hP)
 have heq:=JG c r
 generalize Au (c :: r)=xn at*
 generalize wH (c :: r)=xu at*
 generalize Er (c :: r)=xs at*
 generalize uT (c :: r)=xg at*
 cases h1:iy c
 ·rw [h1,if_neg (by simp)]at heq
  cases h2:dF c
  ·rw [h2,if_neg (by simp)]at heq
   by_cases h3:c.toNat=34
   ·rw [if_pos h3]at heq
    rw [heq]
    clear heq HN HU HG
    have H3:=hid h3
    clear h3
    go_enter Tryz.func57,Tryz.ntmps57
    go_wp2_with fail
    refine(gT c _).mono ?_
    rintro e w1 ⟨rfl,rfl⟩
    rw [h1]
    go_wp2_with fail
    refine(kM c _).mono ?_
    rintro e w1 ⟨rfl,rfl⟩
    rw [h2]
    have h3:=H3.out
    go_wp2_with fail
    refine HS.out.mono ?_
    rintro e w2 ⟨rfl,hb2⟩
    clear HS
    rcases xs with e | ⟨kd,t,n⟩
    all_goals
     simp only [vR]
     go_wp2_with fail
     refine bodyPost_ret (bR rfl _ _ _) rfl ?_
     exact⟨rfl,hb2⟩
   ·rw [if_neg h3]at heq
    rw [heq]
    clear heq HN HU HS
    go_enter Tryz.func57,Tryz.ntmps57
    go_wp2_with fail
    refine(gT c _).mono ?_
    rintro e w1 ⟨rfl,rfl⟩
    rw [h1]
    go_wp2_with fail
    refine(kM c _).mono ?_
    rintro e w1 ⟨rfl,rfl⟩
    rw [h2]
    go_wp2_with fail
    refine HG.out.mono ?_
    rintro e w2 ⟨rfl,hb2⟩
    clear HG
    rcases xg with e | ⟨kd,t,n⟩
    all_goals
     simp only [vR]
     go_wp2_with fail
     refine bodyPost_ret (bR rfl _ _ _) rfl ?_
     exact⟨rfl,hb2⟩
  ·rw [h2,if_pos rfl]at heq
   rw [heq]
   clear heq HN HS HG
   go_enter Tryz.func57,Tryz.ntmps57
   go_wp2_with fail
   refine(gT c _).mono ?_
   rintro e w1 ⟨rfl,rfl⟩
   rw [h1]
   go_wp2_with fail
   refine(kM c _).mono ?_
   rintro e w1 ⟨rfl,rfl⟩
   rw [h2]
   go_wp2_with fail
   refine HU.out.mono ?_
   rintro e w2 ⟨rfl,hb2⟩
   clear HU
   rcases xu with e | ⟨kd,t,n⟩
   all_goals
    simp only [vR]
    go_wp2_with fail
    refine bodyPost_ret (bR rfl _ _ _) rfl ?_
    exact⟨rfl,hb2⟩
 ·rw [h1,if_pos rfl]at heq
  rw [heq]
  clear heq HU HS HG
  go_enter Tryz.func57,Tryz.ntmps57
  go_wp2_with fail
  refine(gT c _).mono ?_
  rintro e w1 ⟨rfl,rfl⟩
  rw [h1]
  go_wp2_with fail
  refine HN.out.mono ?_
  rintro e w2 ⟨rfl,hb2⟩
  clear HN
  rcases xn with e | ⟨kd,t,n⟩
  all_goals
   simp only [vR]
   go_wp2_with fail
   refine bodyPost_ret (bR rfl _ _ _) rfl ?_
   exact⟨rfl,hb2⟩
end Go.Proofs.YtmbppnbekkbibaaGreatDoor
end
