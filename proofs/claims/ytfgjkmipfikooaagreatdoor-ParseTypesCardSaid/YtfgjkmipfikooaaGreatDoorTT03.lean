/- WG, GE, GF -/
import Derived.Test.YtfgjkmipfikooaaGreatDoorTT01
import Derived.WalkKit
import Derived.WalkSpells
import Derived.WalkLawsBesides
import Derived.RegionTactic
import Derived.Deep.QuietTactic
import Derived.Test.YtfgjkmipfikooaaGreatDoorTT02
import Derived.Test.YtfgjkmipfikooaaGreatDoorRows
import Derived.Lib.ConvBytes
import Derived.DeepKeys4
set_option linter.unusedSimpArgs false
set_option linter.unusedVariables false
set_option maxRecDepth 100000
set_option maxHeartbeats 2000000
namespace Go.Proofs.YtfgjkmipfikooaaGreatDoor
open Go.RowKit
theorem below_grow (w:World) (k:Nat) (os:Array Obj):Below w.heap.size w (Sort.grow (w.drewN k) os):=
 ⟨rfl,rfl,rfl,by simp [Sort.grow],fun i hi=>by simp only [Sort.grow,World.heap_drewN];rw [Array.getElem?_append,if_pos hi]⟩
theorem QZ (s:ByteArray):s.toList=s.data.toList:=ByteArray.toList_eq s
structure mI (w:World):Prop where
 tab:Lib.TabIs Tryz.prog w "internal/strconv.uint64pow10" .u64 Lib.pow10Tab
 syn:∃tp p,w.var? Tryz.prog "strconv.ErrSyntax" =some #[.iface tp p]
 rng:∃tp p,w.var? Tryz.prog "strconv.ErrRange" =some #[.iface tp p]
theorem lH {w w':World} {name:String} {cs:Array Value} (h:w.var? Tryz.prog name=some cs) (hb:Below w.heap.size w w'):w'.var? Tryz.prog name=some cs:=by
 unfold World.var? at h ⊢;cases hg:Tryz.prog.globalNamed name with
 | none=>rw [hg]at h;cases h
 | some g=>
  rw [hg]at h;simp only [Option.bind_some]at h ⊢;by_cases hlt:g<w.heap.size
  ·rw [hb.block g hlt];exact h
  ·rw [Array.getElem?_eq_none (by omega)]at h;cases h
theorem mI.below {w w':World} (h:mI w) (hb:Below w.heap.size w w'):mI w':=by
 obtain⟨h1,⟨tp,p,h2⟩,⟨tp',p',h3⟩⟩:=h;exact⟨lH h1 hb,⟨tp,p,lH h2 hb⟩,⟨tp',p',lH h3 hb⟩⟩
theorem mI.drewN {w:World} (h:mI w) (n:Nat):mI (w.drewN n):=h.below ⟨rfl,rfl,rfl,Nat.le_refl _,fun _ _=>rfl⟩
theorem Ll (n:Int) (w:World) (hn:In64 n) (htab:Lib.TabIs Tryz.prog w "internal/strconv.uint64pow10" .u64 Lib.pow10Tab):
  Calls Tryz.prog 173 #[.int .i64 n] w fun e w'=>e= .returned (sv (Lib.itoa n))∧Below w.heap.size w w':=by
 go_enter Tryz.func173,Tryz.ntmps173;go_wp2_with (go_at_call 203;refine(Tryz.strconv_Itoa n hn.1 hn.2 _ htab).mono ?_;rintro e w' ⟨rfl,k,os,rfl⟩);go_ret;exact⟨rfl,below_grow _ _ _⟩
theorem Lm (n:Int) (w:World) (hn:In64 n) (hL:mI w):
  Calls Tryz.prog 173 #[.int .i64 n] w fun e w'=>e= .returned (sv (Lib.itoa n))∧Below w.heap.size w w':=Ll n w hn hL.tab
theorem Lp (s:ByteArray) (w:World) (hs:s.size≤281474976710656) (hL:mI w):
  Calls Tryz.prog 222 #[.string s] w fun e w'=>∃v x,e= .returned (.tuple #[.int .i64 v,x])∧Below w.heap.size w w'∧
   ((Lib.atoiAll s.data.toList= .ok v∧x= .nilIface)∨((∀u,Lib.atoiAll s.data.toList≠ .ok u)∧∃t y,x= .iface t y)):=by
 obtain⟨_,⟨tp,p,h2⟩,⟨tp',p',h3⟩⟩:=hL;rcases h:Lib.atoiAll s.data.toList with v | _ | _
 ·refine(Tryz.strconv_Atoi_ok s (by omega) v h w).mono ?_;rintro e w' ⟨rfl,hw⟩;refine⟨v, _,rfl, ?_, .inl ⟨rfl,rfl⟩⟩;rcases hw with rfl | ⟨t,rfl⟩
  ·exact Below.refl _ _
  ·exact Lib.bytesWorld_below w _ t
 ·refine(Tryz.strconv_Atoi_syntax_var s hs h tp p w h2).mono ?_;rintro e w' ⟨N,rfl, _, _,hb⟩;exact⟨_, _,rfl,hb, .inr ⟨fun u hu=>(by cases hu), _, _,rfl⟩⟩
 ·refine(Tryz.strconv_Atoi_range_var s hs h tp' p' w h3).mono ?_;rintro e w' ⟨N,rfl, _, _,hb⟩;exact⟨_, _,rfl,hb, .inr ⟨fun u hu=>(by cases hu), _, _,rfl⟩⟩
theorem JD {l:List UInt8} (h:∀u,Lib.atoiAll l≠ .ok u):dA l=(0,false):=by
 rw [jZ];cases ha:Lib.atoiAll l with
 | ok u=>exact absurd ha (h u)
 | _=>rfl
theorem JE {l:List UInt8} {v:Int} (h:Lib.atoiAll l= .ok v) (h0:v<0):dA l=(0,false):=by
 rw [jZ,h];dsimp only;rw [if_pos (.inl h0)]
theorem FY {l:List UInt8} {v:Int} (h:Lib.atoiAll l= .ok v) (h0:Lib.itoa v≠l):dA l=(0,false):=by
 rw [jZ,h];dsimp only;rw [if_pos (.inr h0)]
theorem FZ {l:List UInt8} {v:Int} (h:Lib.atoiAll l= .ok v) (h0:0≤v) (h1:Lib.itoa v=l):dA l=(v,true):=by
 rw [jZ,h];dsimp only;rw [if_neg];rintro(h | h)
 ·omega
 ·exact h h1
theorem mY {a c:Int} {b d:Bool} (h:(a,b)=(c,d)):Ending.returned (.tuple #[.int .i64 a, .bool b])= .returned (.tuple #[.int .i64 c, .bool d]):=by
 cases h;rfl
theorem AV (s:ByteArray) (w:World) (hs:s.size≤281474976710656) (hL:mI w):
  Calls Tryz.prog 212 #[.string s] w fun e w'=>e= .returned (.tuple #[.int .i64 (dA s.data.toList).1, .bool (dA s.data.toList).2])∧Below w.heap.size w w':=by
 go_enter Tryz.func212,Tryz.ntmps212;go_wp2_with fail;refine(Lp s _ hs hL).mono ?_;rintro e w1 ⟨v,x,rfl,hb1,hx⟩;have hL1:=hL.below hb1;rcases hx with⟨ha,rfl⟩ | ⟨ha,t,y,rfl⟩
 ·by_cases h0:v<0
  ·have HV:=hid (JE ha h0);clear ha;go_wp2_with fail
   go_ret2
   exact⟨mY (by rw [HV.out]),hb1⟩
  ·have hv:In64 v:=by
    have:=Ib ha;unfold In64;omega
   have HA:=hid ha;clear ha;go_wp2_with (go_at_call 173;refine(Lm v _ hv hL1).mono ?_;rintro e w2 ⟨rfl,hb2⟩)
   ·rename_i h
    have hne:Lib.itoa v≠s.data.toList:=by
     rcases h with h | h
     ·omega
     ·simpa [QZ]using h
    go_ret2
    exact⟨mY (by rw [FY HA.out hne]),hb1.trans (hb2.mono hb1.size)⟩
   ·rename_i h
    have he:Lib.itoa v=s.data.toList:=by simpa [QZ]using h.2
    go_ret2
    exact⟨mY (by rw [FZ HA.out h.1 he]),hb1.trans (hb2.mono hb1.size)⟩
 ·have HV:=hid (JD ha);clear ha;go_wp2_with fail
  go_ret2
  exact⟨mY (by rw [HV.out]),hb1⟩
theorem ig (c:UInt8) (w:World):Calls Tryz.prog 137 #[.int .u8 (c.toNat:Int)] w fun e w'=>e= .returned (.bool (dI c))∧w'=w:=by
 unfold dI;generalize c.toNat=n;go_enter Tryz.func137,Tryz.ntmps137;go_wp2_with fail
 all_goals
  go_ret;refine⟨?_,rfl⟩;congr 2
  try simp
  try omega
  try (rw [Bool.eq_iff_iff];simp only [Bool.or_eq_true,Bool.and_eq_true,decide_eq_true_eq,beq_iff_eq];omega)
theorem lI (c:UInt8) (w:World):Calls Tryz.prog 185 #[.int .u8 (c.toNat:Int)] w fun e w'=>e= .returned (.bool (bE c))∧w'=w:=by
 unfold bE;generalize c.toNat=n;go_enter Tryz.func185,Tryz.ntmps185;go_wp2_with fail
 all_goals
  go_ret;refine⟨?_,rfl⟩;congr 2
  try simp
  try omega
  try (rw [Bool.eq_iff_iff];simp only [Bool.or_eq_true,Bool.and_eq_true,decide_eq_true_eq,beq_iff_eq];omega)
theorem AX (c:UInt8) (w:World):Calls Tryz.prog 188 #[.int .u8 (c.toNat:Int)] w fun e w'=>e= .returned (.bool (bJ c))∧w'=w:=by
 unfold bJ;generalize c.toNat=n;go_enter Tryz.func188,Tryz.ntmps188;go_wp2_with fail
 all_goals
  go_ret;refine⟨?_,rfl⟩;congr 2
  try simp
  try omega
  try (rw [Bool.eq_iff_iff];simp only [Bool.or_eq_true,Bool.and_eq_true,decide_eq_true_eq,beq_iff_eq];omega)
theorem wm (c:UInt8) (w:World):Calls Tryz.prog 189 #[.int .u8 (c.toNat:Int)] w fun e w'=>e= .returned (.bool (dY c))∧w'=w:=by
 unfold dY;generalize c.toNat=n;go_enter Tryz.func189,Tryz.ntmps189;go_wp2_with fail
 all_goals
  go_ret;refine⟨?_,rfl⟩;congr 2
  try simp
  try omega
  try (rw [Bool.eq_iff_iff];simp only [Bool.not_eq_true',bne_iff_ne,ne_eq,decide_eq_false_iff_not];omega)
theorem AY (c:UInt8) (w:World):Calls Tryz.prog 139 #[.int .u8 (c.toNat:Int)] w fun e w'=>e= .returned (.bool (aY c))∧w'=w:=by
 have hi:aY c=(dI c || bE c):=rfl;rw [hi];clear hi;cases hl:dI c
 ·go_enter Tryz.func139,Tryz.ntmps139;go_wp2_with fail;refine(ig c _).mono ?_;rintro e w1 ⟨rfl,rfl⟩;rw [hl];go_wp2_with fail;refine(lI c _).mono ?_;rintro e w1 ⟨rfl,rfl⟩;go_wp2_with fail;go_ret;exact⟨rfl,rfl⟩
 ·go_enter Tryz.func139,Tryz.ntmps139;go_wp2_with fail;refine(ig c _).mono ?_;rintro e w1 ⟨rfl,rfl⟩;rw [hl];go_wp2_with fail;go_ret;exact⟨rfl,rfl⟩
theorem bP (s:Bt):(ByteArray.mk s.toArray).size=s.length:=by simp [ByteArray.size]
theorem dL (s:Bt) (k:Nat) (h:k<s.length):(ByteArray.mk s.toArray)[k]'(by rw [bP];exact h)=s[k]:=by simp [ByteArray.getElem_eq_getElem_data]
theorem JF (s:Bt) (w:World) (hs:s.length≤281474976710656):Calls Tryz.prog 138 #[sv s, .func (.func 188) #[] #[]] w fun e w'=>e= .returned (.int .i64 (cu bJ s:Nat))∧w'=w:=by
 have hsz:=bP s;go_enter Tryz.func138,Tryz.ntmps138;go_wp2_with fail
 go_loop [5,8] (fun v5 v8=>∃k:Nat,v8= .int .i64 k∧k≤s.length∧∀j (hj:j<s.length),j<k→bJ s[j]=true) (fun _ v8=>s.length - (intOf v8).toNat)
 case atStart=>exact⟨0,rfl,by omega,fun j hj h=>by omega⟩
 case round=>
  obtain⟨k,rfl,hk,hall⟩:=hrel;by_cases hlt:k<s.length
  ·have hix:=dL s k hlt;have hrow:=fun hn=>sW (p:=bJ) hlt (fun j hj=>hall j (by omega) hj) hn;have hnext:bJ s[k]=true→∀j (hj:j<s.length),j<k+1→bJ s[j]=true:=by
    intro h j hj hjk;rcases Nat.lt_or_ge j k with h1 | h1
    ·exact hall j hj h1
    ·obtain rfl:j=k:=by omega
     exact h
   have dV:=hid hrow;have iX:=hid hnext;clear hall hrow hnext;generalize hX:s[k]=X at*
   cases hq:bJ X
   ·have hres:=dV.out hq;go_wp2_with fail;refine(AX X _).mono ?_;rintro e w1 ⟨rfl,rfl⟩;rw [hq];go_wp2_with fail;go_ret;exact⟨by rw [hres];rfl,rfl⟩
   ·have hall:=iX.out hq;have yK:=hid hall;clear hall;go_wp2_with fail;refine(AX X _).mono ?_;rintro e w1 ⟨rfl,rfl⟩;rw [hq];go_wp2_with fail
    go_round
    case rel=>exact⟨k+1,rfl,by omega,yK.out⟩
    case measure=>simp [intOf];omega
  ·obtain rfl:k=s.length:=by omega
   have hres:=pU (p:=bJ) (s:=s) (fun j hj=>hall j hj hj);clear hall;go_wp2_with fail;go_ret
   first | exact⟨rfl,rfl⟩ | exact⟨by rw [hres];rfl,rfl⟩
theorem AZ (s:Bt) (w:World) (hs:s.length≤281474976710656):Calls Tryz.prog 138 #[sv s, .func (.func 139) #[] #[]] w fun e w'=>e= .returned (.int .i64 (cu aY s:Nat))∧w'=w:=by
 have hsz:=bP s;go_enter Tryz.func138,Tryz.ntmps138;go_wp2_with fail
 go_loop [5,8] (fun v5 v8=>∃k:Nat,v8= .int .i64 k∧k≤s.length∧∀j (hj:j<s.length),j<k→aY s[j]=true) (fun _ v8=>s.length - (intOf v8).toNat)
 case atStart=>exact⟨0,rfl,by omega,fun j hj h=>by omega⟩
 case round=>
  obtain⟨k,rfl,hk,hall⟩:=hrel;by_cases hlt:k<s.length
  ·have hix:=dL s k hlt;have hrow:=fun hn=>sW (p:=aY) hlt (fun j hj=>hall j (by omega) hj) hn;have hnext:aY s[k]=true→∀j (hj:j<s.length),j<k+1→aY s[j]=true:=by
    intro h j hj hjk;rcases Nat.lt_or_ge j k with h1 | h1
    ·exact hall j hj h1
    ·obtain rfl:j=k:=by omega
     exact h
   have dV:=hid hrow;have iX:=hid hnext;clear hall hrow hnext;generalize hX:s[k]=X at*
   cases hq:aY X
   ·have hres:=dV.out hq;go_wp2_with fail;refine(AY X _).mono ?_;rintro e w1 ⟨rfl,rfl⟩;rw [hq];go_wp2_with fail;go_ret;exact⟨by rw [hres];rfl,rfl⟩
   ·have hall:=iX.out hq;have yK:=hid hall;clear hall;go_wp2_with fail;refine(AY X _).mono ?_;rintro e w1 ⟨rfl,rfl⟩;rw [hq];go_wp2_with fail
    go_round
    case rel=>exact⟨k+1,rfl,by omega,yK.out⟩
    case measure=>simp [intOf];omega
  ·obtain rfl:k=s.length:=by omega
   have hres:=pU (p:=aY) (s:=s) (fun j hj=>hall j hj hj);clear hall;go_wp2_with fail;go_ret
   first | exact⟨rfl,rfl⟩ | exact⟨by rw [hres];rfl,rfl⟩
theorem JG (s:Bt) (w:World) (hs:s.length≤281474976710656):Calls Tryz.prog 138 #[sv s, .func (.func 185) #[] #[]] w fun e w'=>e= .returned (.int .i64 (cu bE s:Nat))∧w'=w:=by
 have hsz:=bP s;go_enter Tryz.func138,Tryz.ntmps138;go_wp2_with fail
 go_loop [5,8] (fun v5 v8=>∃k:Nat,v8= .int .i64 k∧k≤s.length∧∀j (hj:j<s.length),j<k→bE s[j]=true) (fun _ v8=>s.length - (intOf v8).toNat)
 case atStart=>exact⟨0,rfl,by omega,fun j hj h=>by omega⟩
 case round=>
  obtain⟨k,rfl,hk,hall⟩:=hrel;by_cases hlt:k<s.length
  ·have hix:=dL s k hlt;have hrow:=fun hn=>sW (p:=bE) hlt (fun j hj=>hall j (by omega) hj) hn;have hnext:bE s[k]=true→∀j (hj:j<s.length),j<k+1→bE s[j]=true:=by
    intro h j hj hjk;rcases Nat.lt_or_ge j k with h1 | h1
    ·exact hall j hj h1
    ·obtain rfl:j=k:=by omega
     exact h
   have dV:=hid hrow;have iX:=hid hnext;clear hall hrow hnext;generalize hX:s[k]=X at*
   cases hq:bE X
   ·have hres:=dV.out hq;go_wp2_with fail;refine(lI X _).mono ?_;rintro e w1 ⟨rfl,rfl⟩;rw [hq];go_wp2_with fail;go_ret;exact⟨by rw [hres];rfl,rfl⟩
   ·have hall:=iX.out hq;have yK:=hid hall;clear hall;go_wp2_with fail;refine(lI X _).mono ?_;rintro e w1 ⟨rfl,rfl⟩;rw [hq];go_wp2_with fail
    go_round
    case rel=>exact⟨k+1,rfl,by omega,yK.out⟩
    case measure=>simp [intOf];omega
  ·obtain rfl:k=s.length:=by omega
   have hres:=pU (p:=bE) (s:=s) (fun j hj=>hall j hj hj);clear hall;go_wp2_with fail;go_ret
   first | exact⟨rfl,rfl⟩ | exact⟨by rw [hres];rfl,rfl⟩
theorem Dv (s:Bt) (w:World) (hs:s.length≤281474976710656):Calls Tryz.prog 138 #[sv s, .func (.func 189) #[] #[]] w fun e w'=>e= .returned (.int .i64 (cu dY s:Nat))∧w'=w:=by
 have hsz:=bP s;go_enter Tryz.func138,Tryz.ntmps138;go_wp2_with fail
 go_loop [5,8] (fun v5 v8=>∃k:Nat,v8= .int .i64 k∧k≤s.length∧∀j (hj:j<s.length),j<k→dY s[j]=true) (fun _ v8=>s.length - (intOf v8).toNat)
 case atStart=>exact⟨0,rfl,by omega,fun j hj h=>by omega⟩
 case round=>
  obtain⟨k,rfl,hk,hall⟩:=hrel;by_cases hlt:k<s.length
  ·have hix:=dL s k hlt;have hrow:=fun hn=>sW (p:=dY) hlt (fun j hj=>hall j (by omega) hj) hn;have hnext:dY s[k]=true→∀j (hj:j<s.length),j<k+1→dY s[j]=true:=by
    intro h j hj hjk;rcases Nat.lt_or_ge j k with h1 | h1
    ·exact hall j hj h1
    ·obtain rfl:j=k:=by omega
     exact h
   have dV:=hid hrow;have iX:=hid hnext;clear hall hrow hnext;generalize hX:s[k]=X at*
   cases hq:dY X
   ·have hres:=dV.out hq;go_wp2_with fail;refine(wm X _).mono ?_;rintro e w1 ⟨rfl,rfl⟩;rw [hq];go_wp2_with fail;go_ret;exact⟨by rw [hres];rfl,rfl⟩
   ·have hall:=iX.out hq;have yK:=hid hall;clear hall;go_wp2_with fail;refine(wm X _).mono ?_;rintro e w1 ⟨rfl,rfl⟩;rw [hq];go_wp2_with fail
    go_round
    case rel=>exact⟨k+1,rfl,by omega,yK.out⟩
    case measure=>simp [intOf];omega
  ·obtain rfl:k=s.length:=by omega
   have hres:=pU (p:=dY) (s:=s) (fun j hj=>hall j hj hj);clear hall;go_wp2_with fail;go_ret
   first | exact⟨rfl,rfl⟩ | exact⟨by rw [hres];rfl,rfl⟩
theorem rX:jT Tryz.prog 25 9 (sv []) 1 16:=⟨Tryz.underlying25,by kernel_rfl,rfl,by decide⟩
def jS (w:World):Prop:=mI w∧Lib.TabIs Tryz.prog w "strings.asciiSpace" .u8 Lib.asciiSpaceTab
def jD (w:World):Prop:=Lib.TabIs Tryz.prog w "internal/strconv.uint64pow10" .u64 Lib.pow10Tab∧Lib.TabIs Tryz.prog w "strings.asciiSpace" .u8 Lib.asciiSpaceTab
theorem jD.below {w w':World} (h:jD w) (hb:Below w.heap.size w w'):jD w':=⟨lH h.1 hb,lH h.2 hb⟩
theorem jS.t {w:World} (h:jS w):jD w:=⟨h.1.tab,h.2⟩
theorem jS.below {w w':World} (h:jS w) (hb:Below w.heap.size w w'):jS w':=⟨h.1.below hb,lH h.2 hb⟩
def yL:Bt:=[97,110,100,32,97,110,121,32,97,115,32,98,111,111,108,32,101,108,115,101,32,101,120,112,111,114,116,32,102,97,108,115,101,32,102,110,32,102,117,110,99,116,105,111,110,32,105,102,32,105,109,112,111,114,116,32,105,110,32,105,110,116,32,105,115,32,108,101,116,32,110,111,116,32,110,117,108,108,32,111,114,32,112,114,105,110,116,32,114,101,97,100,32,114,101,99,111,114,100,32,115,116,114,32,116,104,101,110,32,116,114,117,101,32,119,105,116,104]
theorem BO:Lib.fields yL=dN:=by kernel_rfl
theorem Dw:(yL.all fun b=>decide (b.toNat<128))=true:=by kernel_rfl
theorem yM:(⟨yL.toArray⟩:ByteArray).data.toList=yL:=rfl
theorem vo (w:World) (hL:jD w):Calls Tryz.prog 141 #[] w fun e w'=>∃v,e= .returned v∧Ss w' w'.heap.size v dN∧Below w.heap.size w w':=by
 go_enter Tryz.func141,Tryz.ntmps141;go_wp2_with fail;refine(Tryz.strings_Fields ⟨yL.toArray⟩ _ ?h1 ?h2 hL.2).mono ?_
 case h1=>decide
 case h2=>
  intro j b hb;rw [yM]at hb;exact of_decide_eq_true (List.all_eq_true.1 Dw b (List.mem_of_getElem? hb))
 rintro e w1 ⟨rfl,rfl⟩;rw [yM,BO];have hss:Ss (w.alloc (.cells (dN.map fun l=>Value.string ⟨l.toArray⟩).toArray 9)) (w.alloc (.cells (dN.map fun l=>Value.string ⟨l.toArray⟩).toArray 9)).heap.size (.slice (some ⟨w.heap.size,0,none⟩) dN.length dN.length) dN:=by
  have:=fU w (dN.map fun l=>Value.string ⟨l.toArray⟩).toArray 9 1 dN.length (by simp) (by decide);rw [World.size_alloc];simpa [Ss,lG]using this
 have hb:Below w.heap.size w (w.alloc (.cells (dN.map fun l=>Value.string ⟨l.toArray⟩).toArray 9)):=(Below.refl _ _).alloc (Nat.le_refl _) _;generalize(w.alloc (.cells (dN.map fun l=>Value.string ⟨l.toArray⟩).toArray 9))=w2 at*
 generalize dN.length=n at*
 go_wp2_with fail;go_ret;exact⟨_,rfl,hss,hb⟩
theorem JH (v:Value) (l:List Bt) (x:Bt) (w:World) (hv:Ss w w.heap.size v l):
  Calls Tryz.prog 186 #[v,sv x] w fun e w'=>(∃k:Int,e= .returned (.int .i64 k)∧(0≤k↔x∈l))∧w'=w:=by
 obtain⟨A,c,rfl,hn,hc,hx⟩:=hv.open_;unfold maxLen at hc;go_enter Tryz.func186,Tryz.ntmps186;go_wp2_with fail
 go_loop [5,8] (fun v5 v8=>∃k:Nat,v8= .int .i64 k∧k≤l.length∧x ∉ l.take k) (fun _ v8=>l.length - (intOf v8).toNat)
 case atStart=>exact⟨0,rfl,by omega,by simp⟩
 case round=>
  obtain⟨k,rfl,hk,hnot⟩:=hrel;by_cases hlt:k<l.length
  ·obtain⟨b,o,rfl,hb,hcell⟩:=hx (by omega);have d1:=hcell k hlt;have e1:x=l[k]→x∈l:=fun h=>by rw [h];exact List.getElem_mem hlt
   have e2:¬x=l[k]→x ∉ l.take (k+1):=fun h hh=>by
    rw [List.take_succ_eq_append_getElem hlt,List.mem_append]at hh;rcases hh with hh | hh
    ·exact hnot hh
    ·simp at hh;exact h hh
   clear hcell hx hv hnot;generalize l[k]=X at*
   by_cases hX:x=X
   ·have e3:=e1 hX;have hq:(x==X)=true:=by rw [beq_iff_eq];exact hX
    clear hX e1 e2;go_wp2_with fail;go_ret;exact⟨⟨k,rfl,by simp [e3]⟩,rfl⟩
   ·have e3:=e2 hX;have hq:(x==X)=false:=by rw [beq_eq_false_iff_ne];exact hX
    clear hX e1 e2;go_wp2_with fail
    go_round
    case rel=>exact⟨k+1,rfl,by omega,e3⟩
    case measure=>simp [intOf];omega
  ·obtain rfl:k=l.length:=by omega
   rw [List.take_length]at hnot;go_wp2_with fail;go_ret;exact⟨⟨-1,rfl,by simp [hnot]⟩,rfl⟩
theorem lg (v:Value) (l:List Bt) (x:Bt) (w:World) (hv:Ss w w.heap.size v l):
  Calls Tryz.prog 140 #[v,sv x] w fun e w'=>e= .returned (.bool (decide (x∈l)))∧w'=w:=by
 go_enter Tryz.func140,Tryz.ntmps140;go_wp2_with fail;refine(JH v l x _ hv).mono ?_;rintro e w1 ⟨⟨k,rfl,hk⟩,rfl⟩;by_cases h:x∈l
 ·have h0:=hk.2 h;clear hk;go_wp2_with fail;go_ret;exact⟨by simp [h],rfl⟩
 ·have h0:¬(0≤k):=fun hh=>h (hk.1 hh);clear hk;go_wp2_with fail;go_ret;exact⟨by first | (simp [h];done) | (simp [h];exact h0) | (simp [h];omega),rfl⟩
def dQ (w:World) (bl bp:Nat) (s:Bt) (p:Nat ×Nat) (dF:Value):Prop:=
 w.heap[bl]? =some (.cells #[sv s, .int .i64 p.1, .int .i64 p.2, .map (some bp),dF] 199 (0,0))
section
variable {w w':World} {bl bp:Nat} {s:Bt} {p:Nat ×Nat} {dF:Value}
theorem dQ.c0 (h:dQ w bl bp s p dF):w.cell? ⟨bl,0,none⟩=some (sv s):=(cell_of_row _ _ _ _ _ (0,0) h).trans rfl
theorem dQ.c1 (h:dQ w bl bp s p dF):w.cell? ⟨bl,1,none⟩=some (.int .i64 p.1):=(cell_of_row _ _ _ _ _ (0,0) h).trans rfl
theorem dQ.c2 (h:dQ w bl bp s p dF):w.cell? ⟨bl,2,none⟩=some (.int .i64 p.2):=(cell_of_row _ _ _ _ _ (0,0) h).trans rfl
theorem dQ.c3 (h:dQ w bl bp s p dF):w.cell? ⟨bl,3,none⟩=some (.map (some bp)):=(cell_of_row _ _ _ _ _ (0,0) h).trans rfl
theorem dQ.c4 (h:dQ w bl bp s p dF):w.cell? ⟨bl,4,none⟩=some dF:=(cell_of_row _ _ _ _ _ (0,0) h).trans rfl
theorem dQ.free (h:dQ w bl bp s p dF) (i:Nat):w.frozen? ⟨bl,i,none⟩=false:=by simp [World.frozen?,show w.heap[bl]? = _ from h]
theorem dQ.lt (h:dQ w bl bp s p dF):bl<w.heap.size:=block_lt h
theorem dQ.turn {G:Nat→Prop} (h:dQ w bl bp s p dF) (t:Turn G w w') (hd:¬G bl):dQ w' bl bp s p dF:=ah h t hd
end
theorem Dx {w wr:World} {F:Nat→Prop} {b off:Nat} (t:Turn F w wr) (hb:b<w.heap.size) (hF:¬F b) {u:Value} (h:w.cell? ⟨b,off,none⟩=some u):wr.cell? ⟨b,off,none⟩=some u:=by
 rw [←h];simp only [World.cell?,t.block hb hF]
theorem OZ (p:Nat ×Nat) (s:Bt):(eP p s).1≤p.1+s.length∧(eP p s).2≤p.2+s.length+1:=by
 induction s generalizing p with
 | nil=>exact⟨Nat.le_refl _,by simp [eP]⟩
 | cons c s ih=>
  have h:eP p (c :: s)=eP (mV p c) s:=rfl;rw [h];obtain⟨a,b⟩:=ih (mV p c);have h1:(mV p c).1≤p.1+1∧(mV p c).2≤p.2+1∨(mV p c).2≤1∧(mV p c).1≤p.1+1:=by
   unfold mV;split
   ·exact .inr ⟨Nat.le_refl _,Nat.le_refl _⟩
   ·exact .inl ⟨Nat.le_succ _,Nat.le_refl _⟩
  simp only [List.length_cons];omega
theorem oC (s:Bt) (a b:Nat):(ByteArray.extract ⟨s.toArray⟩ a b).data.toList=(s.take b).drop a:=by
 rw [ByteArray.data_extract];simp [List.extract_eq_take_drop,List.drop_take]
theorem eU (s:Bt) (a b:Nat):Value.string (ByteArray.extract ⟨s.toArray⟩ a b)=sv ((s.take b).drop a):=by
 rw [←oC]
theorem JI {P:Program} (w:World) (src dst e:TypeId) (hs:P.underlying src=some .string) (hd:P.underlying dst=some (.slice e)) (he:P.underlying e=some (.int .u8)) (s:Bt) (n:Nat) (hn:n≤s.length):
  ∃C w5,(convert src dst (.string (ByteArray.extract ⟨s.toArray⟩ 0 n))).run P w= .ok (.slice (some ⟨w.heap.size,0,none⟩) n C) w5∧Turn (fun _=>False) w w5∧w.heap.size<w5.heap.size∧
   ∀j (hj:j<n),w5.cell? ⟨w.heap.size,j,none⟩=some (.int .u8 ((s[j]'(by omega)).toNat:Int)):=by
 have hsz:(ByteArray.extract ⟨s.toArray⟩ 0 n).size=n:=by
  have h:(ByteArray.extract ⟨s.toArray⟩ 0 n).data.toList.length=(ByteArray.extract ⟨s.toArray⟩ 0 n).size:=Array.length_toList;rw [←h,oC];simp;omega
 have hrun:=Lib.run_convert_string_bytes (P:=P) w src dst e (ByteArray.extract ⟨s.toArray⟩ 0 n) hs hd he;have hcell:=Lib.bytesWorld_cell w e (ByteArray.extract ⟨s.toArray⟩ 0 n);have hsize:=Lib.bytesWorld_size w e (ByteArray.extract ⟨s.toArray⟩ 0 n);have hold:=Lib.bytesWorld_at_old w e (ByteArray.extract ⟨s.toArray⟩ 0 n);rw [hsz]at hrun hcell;refine⟨_, _,hrun,⟨rfl,rfl,rfl,by rw [hsize];omega,fun k hk _=>hold k hk⟩,by rw [hsize];omega,fun j hj=> ?_⟩;rw [hcell j hj,oC];simp [List.getD_eq_getElem?_getD,List.getElem?_take,hj,List.getElem?_eq_getElem (show j<s.length by omega)]
theorem dQ.set1 {w:World} {bl bp:Nat} {s:Bt} {p:Nat ×Nat} {dF:Value} (h:dQ w bl bp s p dF) (n:Nat):dQ (w.setCell ⟨bl,1,none⟩ (.int .i64 n)) bl bp s (n,p.2) dF:=heap_setCell_same w bl 1 _ _ _ h
theorem dQ.set2 {w:World} {bl bp:Nat} {s:Bt} {p:Nat ×Nat} {dF:Value} (h:dQ w bl bp s p dF) (n:Nat):dQ (w.setCell ⟨bl,2,none⟩ (.int .i64 n)) bl bp s (p.1,n) dF:=heap_setCell_same w bl 2 _ _ _ h
theorem dQ.set0 {w:World} {bl bp:Nat} {s:Bt} {p:Nat ×Nat} {dF:Value} (h:dQ w bl bp s p dF) (s':Bt):dQ (w.setCell ⟨bl,0,none⟩ (sv s')) bl bp s' p dF:=heap_setCell_same w bl 0 _ _ _ h
theorem dQ.BP {w:World} {bl bp:Nat} {s:Bt} {p:Nat ×Nat} {dF:Value} (h:dQ w bl bp s p dF) (v:Value):dQ (w.setCell ⟨bl,4,none⟩ v) bl bp s p v:=heap_setCell_same w bl 4 _ _ _ h
theorem qd (w:World) (bl bp:Nat) (s:Bt) (p:Nat ×Nat) (dF:Value) (n:Nat) (hL:dQ w bl bp s p dF) (hn:n≤s.length) (hs:s.length≤100000) (hp:p.1≤1000000∧p.2≤1000000):
  Calls Tryz.prog 148 #[.pointer (some ⟨bl,0,none⟩), .int .i64 n] w fun e w'=>
   e= .returned (.tuple #[])∧dQ w' bl bp (s.drop n) (eP p (s.take n)) dF∧Turn (fun k=>k=bl) w w':=by
 have hsz:=bP s;have c0:=hL.c0;obtain⟨C,w5,Dy,ht5,Ta,hcells⟩:=JI (P:=Tryz.prog) w 9 112 5 Tryz.underlying9 Tryz.underlying112 Tryz.underlying5 s n hn;have hL5:=hL.turn ht5 id;have hbl:=hL.lt;have HC:=hid hcells;clear hcells;go_enter Tryz.func148,Tryz.ntmps148;go_wp2_with fail;go_loopw [14] (fun v14 wr=>∃k:Nat,v14= .int .i64 k∧k≤n∧dQ wr bl bp s (eP p (s.take k)) dF∧Turn (fun k=>k=bl) w5 wr) (fun v14 _=>n - (intOf v14).toNat)
 case atStart=>exact⟨0,rfl,by omega,hL5,Turn.refl _ _⟩
 case round=>
  obtain⟨k,rfl,hk,CW,htr⟩:=hrel;have hq:=OZ p (s.take k);have hkl:(s.take k).length≤k:=by simp;omega
  by_cases hlt:k<n
  ·have hnext:=AB (p:=p) (show k<s.length by omega);have d1:=Dx htr Ta (by omega) (HC.out k hlt);generalize eP p (s.take k)=q at*
   generalize s[k]=X at*
   have c1:=CW.c1;have c2:=CW.c2;have f1:=CW.free 1;have f2:=CW.free 2;have hb:q.1<2000000∧q.2<2000000:=by omega
   have Dz:=hid hnext;clear hnext hq hL hL5 c0 Dy;by_cases hX:X.toNat=10
   ·have hl1:=((CW.set2 (q.2+1)).set1 (q.1+1)).set2 1;have ht1:=((htr.trans (ak _ bl 2 (.int .i64 ((q.2+1:Nat):Int))) (fun _ _ h=>h)).trans (ak _ bl 1 (.int .i64 ((q.1+1:Nat):Int))) (fun _ _ h=>h)).trans (ak _ bl 2 (.int .i64 ((1:Nat):Int))) (fun _ _ h=>h);have e1:mV q X=(q.1+1,1):=by unfold mV;rw [if_pos hX]
    have Tc:=hid hl1;have HT1:=hid ht1;have HE:=hid e1;clear CW htr hl1 ht1 e1;go_wp2_with fail
    go_roundw
    case rel=>exact⟨k+1,rfl,by omega,by rw [Dz.out,HE.out];exact Tc.out,HT1.out⟩
    case measure=>simp [intOf];omega
   ·have hl1:=CW.set2 (q.2+1);have ht1:=htr.trans (ak _ bl 2 (.int .i64 ((q.2+1:Nat):Int))) (fun _ _ h=>h);have e1:mV q X=(q.1,q.2+1):=by unfold mV;rw [if_neg hX]
    have Tc:=hid hl1;have HT1:=hid ht1;have HE:=hid e1;clear CW htr hl1 ht1 e1;go_wp2_with fail
    go_roundw
    case rel=>exact⟨k+1,rfl,by omega,by rw [Dz.out,HE.out];exact Tc.out,HT1.out⟩
    case measure=>simp [intOf];omega
  ·obtain rfl:k=n:=by omega
   have c0r:=CW.c0;have f0:=CW.free 0;have hl1:=CW.set0 (s.drop k);have ht1:=((ht5.mono (G:=fun k=>k=bl) (fun _ _ h=>h.elim)).trans htr (fun _ _ h=>h)).trans (ak _ bl 0 (sv (s.drop k))) (fun _ _ h=>h);have he:Value.string (ByteArray.extract ⟨s.toArray⟩ k s.length)=sv (s.drop k):=by rw [eU,List.take_length]
   have Tc:=hid hl1;have HT1:=hid ht1;clear hL hL5 CW htr ht5 hl1 ht1 hq c0 Dy;go_wp2_with fail;go_end0;exact⟨rfl,Tc.out,HT1.out⟩
theorem yN (s:Bt):fE s≤s.length:=by
 unfold fE;have h1:=jJ bJ s;split
 ·have h2:=jJ dY (s.drop (cu bJ s));rw [List.length_drop]at h2;omega
 ·omega
theorem F3 (s:Bt) (p:Nat ×Nat):s.drop (bC s)=(s.drop (fE s)).drop (bC (s.drop (fE s)))∧eP p (s.take (bC s))=eP (eP p (s.take (fE s))) ((s.drop (fE s)).take (bC (s.drop (fE s)))):=by
 have h:=Ld s;generalize bC (s.drop (fE s))=m at*
 rw [h];refine⟨by rw [List.drop_drop], ?_⟩;rw [List.take_add,pV]
def textOf (w:World) (bl:Nat):Nat:=match w.cell? ⟨bl,0,none⟩with | some (.string b)=>b.size | _=>0
theorem nE {w:World} {bl bp:Nat} {s:Bt} {p:Nat ×Nat} {dF:Value} (h:dQ w bl bp s p dF):textOf w bl=s.length:=by
 unfold textOf;rw [h.c0];exact bP s
def tO (w:World) (bl bp:Nat) (s:Bt) (p:Nat ×Nat) (dF:Value) (wr:World):Prop:=
 ∃(c:Bt) (q:Nat ×Nat),dQ wr bl bp c q dF∧Turn (fun k=>k=bl) w wr∧c.length≤s.length∧s.drop (bC s)=c.drop (bC c)∧eP p (s.take (bC s))=eP q (c.take (bC c))∧
  q.1+c.length≤p.1+s.length∧q.2+c.length≤p.2+s.length∧1≤q.2
theorem kg {p:Nat ×Nat} (s:Bt) (h:1≤p.2):(eP p s).1≤p.1+s.length∧(eP p s).2≤p.2+s.length∧1≤(eP p s).2:=by
 induction s generalizing p with
 | nil=>exact⟨Nat.le_refl _,Nat.le_refl _,h⟩
 | cons c s ih=>
  have h0:eP p (c :: s)=eP (mV p c) s:=rfl;rw [h0];have h1:(mV p c).1≤p.1+1∧(mV p c).2≤p.2+1∧1≤(mV p c).2:=by
   unfold mV;split
   ·exact⟨Nat.le_refl _,by show 1≤ _;omega,Nat.le_refl _⟩
   ·exact⟨Nat.le_succ _,Nat.le_refl _,by show 1≤ _+1;omega⟩
  obtain⟨a,b,d⟩:=ih h1.2.2;simp only [List.length_cons];omega
theorem tO.step {w wr w2:World} {bl bp:Nat} {s c:Bt} {p q:Nat ×Nat} {dF:Value} (htr:Turn (fun k=>k=bl) w wr) (hcl:c.length≤s.length) (hd:s.drop (bC s)=c.drop (bC c)) (ha:eP p (s.take (bC s))=eP q (c.take (bC c)))
  (hq1:q.1+c.length≤p.1+s.length) (hq2:q.2+c.length≤p.2+s.length) (hq3:1≤q.2) (h:dQ w2 bl bp (c.drop (fE c)) (eP q (c.take (fE c))) dF) (ht:Turn (fun k=>k=bl) wr w2) (h0:0<fE c):
  tO w bl bp s p dF w2∧textOf w2 bl<c.length:=by
 obtain⟨e1,e2⟩:=F3 c q;have hone:=yN c;have hl:=kg (c.take (fE c)) hq3;rw [List.length_take,Nat.min_eq_left hone]at hl;refine⟨⟨_, _,h,htr.trans ht (fun _ _ h=>h), ?_,hd.trans e1,ha.trans e2, ?_, ?_,hl.2.2⟩, ?_⟩
 ·rw [List.length_drop];omega
 ·rw [List.length_drop];omega
 ·rw [List.length_drop];omega
 ·rw [nE h,List.length_drop];omega
theorem rY (w:World) (bl bp:Nat) (s:Bt) (p:Nat ×Nat) (dF:Value) (hL:dQ w bl bp s p dF) (hs:s.length≤100000) (hp:p.1≤700000∧p.2≤700000) (hp1:1≤p.2):
  Calls Tryz.prog 146 #[.pointer (some ⟨bl,0,none⟩)] w fun e w'=>
   e= .returned (.tuple #[])∧dQ w' bl bp (s.drop (bC s)) (eP p (s.take (bC s))) dF∧Turn (fun k=>k=bl) w w':=by
 go_enter Tryz.func146,Tryz.ntmps146;go_wp2_with fail;go_loopw [2] (fun _ wr=>tO w bl bp s p dF wr) (fun _ wr=>textOf wr bl)
 case atStart=>exact⟨s,p,hL,Turn.refl _ _,Nat.le_refl _,rfl,rfl,Nat.le_refl _,Nat.le_refl _,hp1⟩
 case round=>
  obtain⟨c,q,CW,htr,hcl,hd,ha,hq1,hq2,hq3⟩:=hrel;have hlen:=nE CW;have c0:=CW.c0;have hsz:=bP c;have hrow:=jJ bJ c;have Lr:=hid (fun w2 h ht h0=>tO.step (w2:=w2) (bp:=bp) (dF:=dF) htr hcl hd ha hq1 hq2 hq3 h ht h0);have hz:fE c=0→dQ wr bl bp (s.drop (bC s)) (eP p (s.take (bC s))) dF:=by
   intro h;rw [hd,ha,Jv h];exact CW
  have HZ:=hid hz;have HL:=hid CW;have HLEN:=hid hlen;have HT:=hid htr;have he:Value.string (ByteArray.extract ⟨c.toArray⟩ (cu bJ c) c.length)=sv (c.drop (cu bJ c)):=by rw [eU,List.take_length]
  have hone:fE c=cu bJ c+(if((c.drop (cu bJ c)).head?).map UInt8.toNat=some 35 then cu dY (c.drop (cu bJ c))else 0):=rfl;have hle:=yN c;have hdl:(c.drop (cu bJ c)).length=c.length - cu bJ c:=List.length_drop;clear hd ha hz CW htr hlen;go_wp2_with fail;refine(JF c _ (by omega)).mono ?_;rintro e w1 ⟨rfl,rfl⟩;generalize hn:cu bJ c=n at*
  generalize hr:c.drop n=r at*
  have HDL:=hid hdl;clear hdl;cases r with
  | nil=>
   simp only [List.head?_nil,Option.map_none,reduceCtorEq,if_false,Nat.add_zero]at hone;by_cases h0:n=0
   ·have hfin:=HZ.out (by omega);have Td:=hid hfin;clear hfin;subst h0;go_wp2_with fail
    (try simp only [Exit.inBlock,Exit.then]);refine bodyPost_ret (results_none rfl _ _ _) rfl ?_
    exact⟨rfl,Td.out,HT.out⟩
   ·have h0':¬((n:Nat):Int)=0:=by omega
    go_wp2_with fail;refine(qd w1 bl bp c q dF n HL.out (by omega) (by omega) (by omega)).mono ?_;rintro e w2 ⟨rfl,hl2,ht2⟩;obtain⟨wo,hm2⟩:=Lr.out w2 (by rw [hone];exact hl2) ht2 (by omega);have DC:=hid wo;have Ls:=hid hm2;clear wo hm2 hl2 ht2;go_wp2_with fail
    go_roundw
    case rel=>exact DC.out
    case measure=>have:=HLEN.out;have:=Ls.out;omega
  | cons d tl=>
   simp only [List.head?_cons,Option.map_some,Option.some.injEq]at hone;have hix:(ByteArray.mk (d :: tl).toArray)[0]'(by rw [bP];simp)=d:=dL (d :: tl) 0 (by simp);have hsz2:=bP (d :: tl);by_cases hd:d.toNat=35
   ·rw [if_pos hd]at hone;have hn2:=jJ dY (d :: tl);have aeM:cu dY (d :: tl)+n≤c.length:=by have:=HDL.out;omega
    have Zr:1≤cu dY (d :: tl):=pX (by unfold dY;simp [hd]);go_wp2_with fail;refine(Dv (d :: tl) _ (by have:=HDL.out;omega)).mono ?_;rintro e w1 ⟨rfl,rfl⟩;generalize cu dY (d :: tl)=n2 at*
    have h0':¬((n:Int)+(n2:Int))=0:=by omega
    have e12:(n:Int)+(n2:Int)=((n+n2:Nat):Int):=by omega
    have E12:=hid e12;clear e12;go_wp2_with fail;have e12:=E12.out
    try rw [e12]
    refine(qd w1 bl bp c q dF (n+n2) HL.out (by omega) (by omega) (by omega)).mono ?_;rintro e w2 ⟨rfl,hl2,ht2⟩;obtain⟨wo,hm2⟩:=Lr.out w2 (by rw [hone];exact hl2) ht2 (by omega);have DC:=hid wo;have Ls:=hid hm2;clear wo hm2 hl2 ht2 e12;go_wp2_with fail
    go_roundw
    case rel=>exact DC.out
    case measure=>have:=HLEN.out;have:=Ls.out;omega
   ·rw [if_neg hd,Nat.add_zero]at hone;by_cases h0:n=0
    ·have hfin:=HZ.out (by omega);have Td:=hid hfin;clear hfin;subst h0;go_wp2_with fail
     (try simp only [Exit.inBlock,Exit.then]);refine bodyPost_ret (results_none rfl _ _ _) rfl ?_
     exact⟨rfl,Td.out,HT.out⟩
    ·have h0':¬((n:Nat):Int)=0:=by omega
     go_wp2_with fail;refine(qd w1 bl bp c q dF n HL.out (by omega) (by omega) (by omega)).mono ?_;rintro e w2 ⟨rfl,hl2,ht2⟩;obtain⟨wo,hm2⟩:=Lr.out w2 (by rw [hone];exact hl2) ht2 (by omega);have DC:=hid wo;have Ls:=hid hm2;clear wo hm2 hl2 ht2;go_wp2_with fail
     go_roundw
     case rel=>exact DC.out
     case measure=>have:=HLEN.out;have:=Ls.out;omega
section
theorem cO {fn:Func} {t u v x:Tmp} (h:fn.results= #[.tmp t, .tmp u, .tmp v, .tmp x]) (tmps:Array Value) (P:Program) (w:World):
  (results fn tmps).run P w= .ok (.tuple #[tmps.getD t undef,tmps.getD u undef,tmps.getD v undef,tmps.getD x undef]) w:=by
 simp [results,h]
def wU:Int ⊕ (Int ×Bt ×Nat)→Value
 | .inl e=> .tuple #[.int .i64 0,sv [], .int .i64 0, .int .i64 e]
 | .inr (kd,t,n)=> .tuple #[.int .i64 kd,sv t, .int .i64 n, .int .i64 0]
def BQ (s:Bt):Int ⊕ (Int ×Bt ×Nat):=
 if 32<cu aY s then .inl 2 else if s.take (cu aY s)∈dN then .inr (2,s.take (cu aY s),cu aY s)else .inr (1,s.take (cu aY s),cu aY s)
def xM (s:Bt):Int ⊕ (Int ×Bt ×Nat):=if(dA (s.take (cu bE s))).2 then .inr (3,s.take (cu bE s),cu bE s)else .inl 3
theorem tQ (s:Bt) (n:Nat):Value.string (ByteArray.extract ⟨s.toArray⟩ 0 n)=sv (s.take n):=by
 rw [eU,List.drop_zero]
theorem JJ (w:World) (bl bp:Nat) (s:Bt) (p:Nat ×Nat) (dF:Value) (hL:dQ w bl bp s p dF) (hs:s.length≤100000) (hX:jS w):
  Calls Tryz.prog 190 #[.pointer (some ⟨bl,0,none⟩)] w fun e w'=>e= .returned (wU (BQ s))∧Below w.heap.size w w':=by
 have c0:=hL.c0;have hsz:=bP s;have hle:=jJ aY s;have he:=tQ s (cu aY s);have hR:BQ s=if 32<cu aY s then .inl 2 else if s.take (cu aY s)∈dN then .inr (2,s.take (cu aY s),cu aY s)else .inr (1,s.take (cu aY s),cu aY s):=rfl
 have hrow:=AZ s w (by omega);have dV:=hid hrow;clear hrow;generalize cu aY s=n at*
 by_cases h32:32<n
 ·rw [if_pos h32]at hR;rw [hR];clear hR;go_enter Tryz.func190,Tryz.ntmps190;go_wp2_with fail;refine dV.out.mono ?_;rintro e w1 ⟨rfl,rfl⟩;go_wp2_with fail;refine bodyPost_ret (cO rfl _ _ _) rfl ?_;exact⟨rfl,Below.refl _ _⟩
 ·rw [if_neg h32]at hR;by_cases hw:s.take n∈dN
  ·rw [if_pos hw]at hR;rw [hR];clear hR;go_enter Tryz.func190,Tryz.ntmps190;go_wp2_with fail;refine dV.out.mono ?_;rintro e w1 ⟨rfl,rfl⟩;go_wp2_with fail;refine(vo _ hX.t).mono ?_;rintro e w2 ⟨v2,rfl,Te,hb2⟩;go_wp2_with fail;refine(lg v2 dN (s.take n) _ Te).mono ?_;rintro e w3 ⟨rfl,rfl⟩;rw [decide_eq_true hw];go_wp2_with fail;refine bodyPost_ret (cO rfl _ _ _) rfl ?_;exact⟨rfl,hb2⟩
  ·rw [if_neg hw]at hR;rw [hR];clear hR;go_enter Tryz.func190,Tryz.ntmps190;go_wp2_with fail;refine dV.out.mono ?_;rintro e w1 ⟨rfl,rfl⟩;go_wp2_with fail;refine(vo _ hX.t).mono ?_;rintro e w2 ⟨v2,rfl,Te,hb2⟩;go_wp2_with fail;refine(lg v2 dN (s.take n) _ Te).mono ?_;rintro e w3 ⟨rfl,rfl⟩;rw [decide_eq_false hw];go_wp2_with fail;refine bodyPost_ret (cO rfl _ _ _) rfl ?_;exact⟨rfl,hb2⟩
theorem F4 (w:World) (bl bp:Nat) (s:Bt) (p:Nat ×Nat) (dF:Value) (hL:dQ w bl bp s p dF) (hs:s.length≤100000) (hX:jS w):
  Calls Tryz.prog 191 #[.pointer (some ⟨bl,0,none⟩)] w fun e w'=>e= .returned (wU (xM s))∧Below w.heap.size w w':=by
 have c0:=hL.c0;have hsz:=bP s;have hle:=jJ bE s;have he:=tQ s (cu bE s);have hR:xM s=if(dA (s.take (cu bE s))).2 then .inr (3,s.take (cu bE s),cu bE s)else .inl 3:=rfl
 have dV:=hid (JG s w (by omega));generalize cu bE s=n at*
 have hpz:(ByteArray.mk (s.take n).toArray).size≤281474976710656:=by rw [bP,List.length_take];omega
 have HP:=hid (AV ⟨(s.take n).toArray⟩ w hpz hX.1);clear hpz;have hpv:dA (ByteArray.mk (s.take n).toArray).data.toList=dA (s.take n):=rfl;rw [hpv]at HP;clear hpv;generalize dA (s.take n)=r at*
 obtain⟨i,q⟩:=r;simp only at hR HP;rw [hR];clear hR;go_enter Tryz.func191,Tryz.ntmps191;go_wp2_with fail;refine dV.out.mono ?_;rintro e w1 ⟨rfl,rfl⟩;go_wp2_with fail;refine HP.out.mono ?_;rintro e w2 ⟨rfl,hb2⟩;have c02:=(hb2.cell (p:=⟨bl,0,none⟩) hL.lt).trans c0;cases q
 ·go_wp2_with fail;refine bodyPost_ret (cO rfl _ _ _) rfl ?_;exact⟨rfl,hb2⟩
 ·go_wp2_with fail
  go_quiet (fail)
  go_wp2_with fail;refine bodyPost_ret (cO rfl _ _ _) rfl ?_;exact⟨rfl,hb2.trans (aJ w2 _ |>.mono hb2.size)⟩
theorem tT:jT Tryz.prog 112 5 (.int .u8 0) 1 1:=⟨Tryz.underlying112,by kernel_rfl,rfl,by decide⟩
theorem O1 {P:Program} (w:World) (src dst e:TypeId) (hs:P.underlying src=some .string) (hd:P.underlying dst=some (.slice e)) (he:P.underlying e=some (.int .u8)) (s:Bt):
  ∃C w5,(convert src dst (sv s)).run P w= .ok (.slice (some ⟨w.heap.size,0,none⟩) s.length C) w5∧Below w.heap.size w w5∧w.heap.size<w5.heap.size∧
   ∀j (hj:j<s.length),w5.cell? ⟨w.heap.size,j,none⟩=some (.int .u8 (s[j].toNat:Int)):=by
 have hsz:=bP s;have hrun:=Lib.run_convert_string_bytes (P:=P) w src dst e ⟨s.toArray⟩ hs hd he;have hcell:=Lib.bytesWorld_cell w e ⟨s.toArray⟩;have hsize:=Lib.bytesWorld_size w e ⟨s.toArray⟩;have hold:=Lib.bytesWorld_at_old w e ⟨s.toArray⟩;rw [hsz]at hrun hcell;refine⟨_, _,hrun,⟨rfl,rfl,rfl,by rw [hsize];omega,fun k hk=>hold k hk⟩,by rw [hsize];omega,fun j hj=> ?_⟩;rw [hcell j hj];have e:(ByteArray.mk s.toArray).data.toList=s:=rfl;rw [e];simp [List.getD_eq_getElem?_getD,List.getElem?_eq_getElem hj]
theorem byte_of {X:UInt8} {n:Nat} (hn:n<256) (h:X.toNat=n):X=UInt8.ofNat n:=by
 apply UInt8.toNat_inj.1;rw [UInt8.toNat_ofNat',h];omega
theorem JK (X:UInt8):(X=92∧pW X=some 92∧Lib.indexByte [92,34,110,116] X=0)∨(X=34∧pW X=some 34∧Lib.indexByte [92,34,110,116] X=1)∨(X=110∧pW X=some 10∧Lib.indexByte [92,34,110,116] X=2)∨(X=116∧pW X=some 9∧Lib.indexByte [92,34,110,116] X=3)∨
  (pW X=none∧Lib.indexByte [92,34,110,116] X= -1):=by
 by_cases h1:X=92
 ·subst h1;exact .inl ⟨rfl,rfl,rfl⟩
 by_cases h2:X=34
 ·subst h2;exact .inr (.inl ⟨rfl,rfl,rfl⟩)
 by_cases h3:X=110
 ·subst h3;exact .inr (.inr (.inl ⟨rfl,rfl,rfl⟩))
 by_cases h4:X=116
 ·subst h4;exact .inr (.inr (.inr (.inl ⟨rfl,rfl,rfl⟩)))
 refine .inr (.inr (.inr (.inr ⟨?_, ?_⟩)))
 ·unfold pW;rw [if_neg (fun h=>h1 (byte_of (by decide) h)),if_neg (fun h=>h2 (byte_of (by decide) h)),if_neg (fun h=>h3 (byte_of (by decide) h)),if_neg (fun h=>h4 (byte_of (by decide) h))]
 ·have e1:((92:UInt8)==X)=false:=by rw [beq_eq_false_iff_ne];exact fun h=>h1 h.symm
  have e2:((34:UInt8)==X)=false:=by rw [beq_eq_false_iff_ne];exact fun h=>h2 h.symm
  have e3:((110:UInt8)==X)=false:=by rw [beq_eq_false_iff_ne];exact fun h=>h3 h.symm
  have e4:((116:UInt8)==X)=false:=by rw [beq_eq_false_iff_ne];exact fun h=>h4 h.symm
  simp [Lib.indexByte,e1,e2,e3,e4]
theorem ofNat_toNat (X:UInt8):UInt8.ofNat ((X.toNat:Int)).toNat=X:=by simp
theorem jU (X:UInt8):((X.toNat:Int)).toNat.toUInt8=X:=by simp
def qg:Option (Bt ×Nat)→Value
 | none=> .tuple #[sv [], .int .i64 0]
 | some (t,n)=> .tuple #[sv t, .int .i64 n]
def Lu (w5:World) (ans:Option (Bt ×Nat)) (r:Bt) (k:Nat) (v4 v5:Value) (wr:World):Prop:=
 ∃(back:Bool) (o:Bt),v5= .bool back∧lM wr w5.heap.size 5 v4 o∧dn back o k (r.drop k)=ans∧o.length≤k∧Below w5.heap.size w5 wr
theorem F5 (w:World) (s:Bt) (hs:s.length≤100000) (h1:1≤s.length):
  Calls Tryz.prog 213 #[sv s] w fun e w'=>e= .returned (qg (jw s))∧Below w.heap.size w w':=by
 have hsz:=bP s;have he:Value.string (ByteArray.extract ⟨s.toArray⟩ 1 s.length)=sv (s.drop 1):=by rw [eU,List.take_length]
 have hq0:dn false [] 0 ((s.drop 1).drop 0)=jw s:=rfl;have hrl:(s.drop 1).length≤100000:=by rw [List.length_drop];omega
 generalize s.drop 1=r at*
 obtain⟨C,w5,Dy,hb5,Ta,hcells⟩:=O1 (P:=Tryz.prog) w 9 112 5 Tryz.underlying9 Tryz.underlying112 Tryz.underlying5 r;have HC:=hid hcells;have KY:=hid hq0;clear hcells hq0;generalize jw s=ans at*
 go_enter Tryz.func213,Tryz.ntmps213;go_wp2_with fail;go_loopw [4,5,13] (fun v4 v5 v13 wr=>∃k:Nat,v13= .int .i64 k∧k≤r.length∧Lu w5 ans r k v4 v5 wr) (fun _ _ v13 _=>r.length - (intOf v13).toNat)
 case atStart=>exact⟨0,rfl,by omega,false,[],rfl,lM.nil _ _ _,KY.out,Nat.le_refl _,Below.refl _ _⟩
 case round=>
  obtain⟨k,rfl,hk,back,o,rfl,hown,hq,hol,hbr⟩:=hrel;have hfin:Below w.heap.size w wr:=hb5.trans (hbr.mono hb5.size);by_cases hlt:k<r.length
  ·rw [List.drop_eq_getElem_cons hlt,dn]at hq;have d1:=(hbr.cell (p:=⟨w.heap.size,k,none⟩) Ta).trans (HC.out k hlt);generalize r[k]=X at*
   clear Dy;by_cases h32:X.toNat<32
   ·rw [if_pos h32]at hq;subst hq;go_wp2_with fail
    go_ret2
    exact⟨rfl,hfin⟩
   rw [if_neg h32]at hq;have hXs:((X.toNat:Int)).toNat.toUInt8=X:=by simp
   cases back with
   | true=>
    rw [if_pos rfl]at hq;rcases JK X with⟨hX,e1,e2⟩ | ⟨hX,e1,e2⟩ | ⟨hX,e1,e2⟩ | ⟨hX,e1,e2⟩ | ⟨e1,e2⟩
    all_goals have E2:=hid e2
    all_goals clear e2 hXs
    all_goals try clear hX
    ·rw [e1]at hq;have hq2:dn false (o++[92]) (k+1) (r.drop (k+1))=ans:=hq;have i0:((ByteArray.mk #[92,34,10,9])[0]'(by decide)).toNat=92:=rfl;have HQ:=hid hq2;clear hq hq2 e1
     go_wp2_with (first
      | (go_at_call 214;refine(Tryz.strings_IndexByte _ _ _).mono ?_;rintro e w1 ⟨rfl,rfl⟩;rw [jU,E2.out])
      | (at_builtin;refine j6 rfl _ (.tmp 34) _ rfl w5.heap.size tT _ _ rfl rfl (hown.alloc _) (yA _ (92:Int) _ (by decide)) (by simp;omega) (iA hbr.size _) (fun v7 w7 aN iC fO=> ?_);have iQ:=lN (hbr.alloc hbr.size _) (hown.alloc _) iC (Nat.le_refl _) (iA hbr.size _);clear iC fO))
     go_roundw
     case rel=>exact⟨k+1,rfl,by omega,false,o++[92],rfl,aN,HQ.out,by simp;omega,iQ⟩
     case measure=>simp [intOf];omega
    ·rw [e1]at hq;have hq2:dn false (o++[34]) (k+1) (r.drop (k+1))=ans:=hq;have i0:((ByteArray.mk #[92,34,10,9])[1]'(by decide)).toNat=34:=rfl;have HQ:=hid hq2;clear hq hq2 e1
     go_wp2_with (first
      | (go_at_call 214;refine(Tryz.strings_IndexByte _ _ _).mono ?_;rintro e w1 ⟨rfl,rfl⟩;rw [jU,E2.out])
      | (at_builtin;refine j6 rfl _ (.tmp 34) _ rfl w5.heap.size tT _ _ rfl rfl (hown.alloc _) (yA _ (34:Int) _ (by decide)) (by simp;omega) (iA hbr.size _) (fun v7 w7 aN iC fO=> ?_);have iQ:=lN (hbr.alloc hbr.size _) (hown.alloc _) iC (Nat.le_refl _) (iA hbr.size _);clear iC fO))
     go_roundw
     case rel=>exact⟨k+1,rfl,by omega,false,o++[34],rfl,aN,HQ.out,by simp;omega,iQ⟩
     case measure=>simp [intOf];omega
    ·rw [e1]at hq;have hq2:dn false (o++[10]) (k+1) (r.drop (k+1))=ans:=hq;have i0:((ByteArray.mk #[92,34,10,9])[2]'(by decide)).toNat=10:=rfl;have HQ:=hid hq2;clear hq hq2 e1
     go_wp2_with (first
      | (go_at_call 214;refine(Tryz.strings_IndexByte _ _ _).mono ?_;rintro e w1 ⟨rfl,rfl⟩;rw [jU,E2.out])
      | (at_builtin;refine j6 rfl _ (.tmp 34) _ rfl w5.heap.size tT _ _ rfl rfl (hown.alloc _) (yA _ (10:Int) _ (by decide)) (by simp;omega) (iA hbr.size _) (fun v7 w7 aN iC fO=> ?_);have iQ:=lN (hbr.alloc hbr.size _) (hown.alloc _) iC (Nat.le_refl _) (iA hbr.size _);clear iC fO))
     go_roundw
     case rel=>exact⟨k+1,rfl,by omega,false,o++[10],rfl,aN,HQ.out,by simp;omega,iQ⟩
     case measure=>simp [intOf];omega
    ·rw [e1]at hq;have hq2:dn false (o++[9]) (k+1) (r.drop (k+1))=ans:=hq;have i0:((ByteArray.mk #[92,34,10,9])[3]'(by decide)).toNat=9:=rfl;have HQ:=hid hq2;clear hq hq2 e1
     go_wp2_with (first
      | (go_at_call 214;refine(Tryz.strings_IndexByte _ _ _).mono ?_;rintro e w1 ⟨rfl,rfl⟩;rw [jU,E2.out])
      | (at_builtin;refine j6 rfl _ (.tmp 34) _ rfl w5.heap.size tT _ _ rfl rfl (hown.alloc _) (yA _ (9:Int) _ (by decide)) (by simp;omega) (iA hbr.size _) (fun v7 w7 aN iC fO=> ?_);have iQ:=lN (hbr.alloc hbr.size _) (hown.alloc _) iC (Nat.le_refl _) (iA hbr.size _);clear iC fO))
     go_roundw
     case rel=>exact⟨k+1,rfl,by omega,false,o++[9],rfl,aN,HQ.out,by simp;omega,iQ⟩
     case measure=>simp [intOf];omega
    ·rw [e1]at hq;have hq2:none=ans:=hq;subst hq2;clear hq e1;go_wp2_with (go_at_call 214;refine(Tryz.strings_IndexByte _ _ _).mono ?_;rintro e w1 ⟨rfl,rfl⟩;rw [jU,E2.out])
     go_ret2
     exact⟨rfl,hfin⟩
   | false=>
    rw [if_neg (by simp)]at hq;clear hXs;by_cases OU:X.toNat=92
    ·rw [if_pos OU]at hq;have HQ:=hid hq;clear hq;go_wp2_with fail
     go_roundw
     case rel=>exact⟨k+1,rfl,by omega,true,o,rfl,hown,HQ.out,by omega,hbr⟩
     case measure=>simp [intOf];omega
    rw [if_neg OU]at hq;by_cases vX:X.toNat=34
    ·rw [if_pos vX]at hq;subst hq;have hso:=zS (P:=Tryz.prog) hown.bs 112 5 9 Tryz.underlying112 Tryz.underlying5 Tryz.underlying9;go_wp2_with fail
     go_ret2
     exact⟨by simp [qg],hfin⟩
    rw [if_neg vX]at hq;have HQ:=hid hq;clear hq
    go_wp2_with (first
     | (at_builtin;refine j6 rfl _ (.tmp 20) _ rfl w5.heap.size tT _ _ rfl rfl (hown.alloc _) (yA _ (X.toNat:Int) _ (by have:=X.toNat_lt;omega)) (by simp;omega) (iA hbr.size _) (fun v7 w7 aN iC fO=> ?_);have iQ:=lN (hbr.alloc hbr.size _) (hown.alloc _) iC (Nat.le_refl _) (iA hbr.size _);clear iC fO))
    rw [ofNat_toNat]at aN
    go_roundw
    case rel=>exact⟨k+1,rfl,by omega,false,o++[X],rfl,aN,HQ.out,by simp;omega,iQ⟩
    case measure=>simp [intOf];omega
  ·obtain rfl:k=r.length:=by omega
   rw [List.drop_length]at hq;have hq2:none=ans:=by rw [←hq];cases back <;> rfl
   subst hq2;clear hq Dy;go_wp2_with fail
   go_ret2
   exact⟨rfl,hfin⟩
open Go.Maps (has IsMap Keyed)
def zV (s:Bt):Int ⊕ (Int ×Bt ×Nat):=
 match jw s with
 | none=> .inl 4
 | some (t,n)=>if 256<t.length then .inl 2 else .inr (4,t,n)
theorem O4 (w:World) (bl bp:Nat) (s:Bt) (p:Nat ×Nat) (dF:Value) (hL:dQ w bl bp s p dF) (hs:s.length≤100000) (h1:1≤s.length):
  Calls Tryz.prog 192 #[.pointer (some ⟨bl,0,none⟩)] w fun e w'=>e= .returned (wU (zV s))∧Below w.heap.size w w':=by
 have c0:=hL.c0;have HP:=hid (F5 w s hs h1);cases hq:jw s with
 | none=>
  have hR:zV s= .inl 4:=by unfold zV;rw [hq]
  rw [hR];rw [hq]at HP;clear hR hq;go_enter Tryz.func192,Tryz.ntmps192;go_wp2_with fail;refine HP.out.mono ?_;rintro e w1 ⟨rfl,hb1⟩;unfold qg;go_wp2_with fail;refine bodyPost_ret (cO rfl _ _ _) rfl ?_;exact⟨rfl,hb1⟩
 | some r=>
  obtain⟨t,n⟩:=r;have hle:=nu hq;have hn:¬(n:Int)=0:=by omega
  have hsz:=bP t;have hR:zV s=if 256<t.length then .inl 2 else .inr (4,t,n):=by unfold zV;rw [hq]
  rw [hq]at HP;clear hq hle;by_cases Lv:256<t.length
  ·rw [if_pos Lv]at hR;rw [hR];clear hR;go_enter Tryz.func192,Tryz.ntmps192;go_wp2_with fail;refine HP.out.mono ?_;rintro e w1 ⟨rfl,hb1⟩;unfold qg;go_wp2_with fail;refine bodyPost_ret (cO rfl _ _ _) rfl ?_;exact⟨rfl,hb1⟩
  ·rw [if_neg Lv]at hR;rw [hR];clear hR;go_enter Tryz.func192,Tryz.ntmps192;go_wp2_with fail;refine HP.out.mono ?_;rintro e w1 ⟨rfl,hb1⟩;unfold qg;go_wp2_with fail;refine bodyPost_ret (cO rfl _ _ _) rfl ?_;exact⟨rfl,hb1⟩
def qh (a b:UInt8):Value:= .agg #[.int .u8 (a.toNat:Int), .int .u8 (b.toNat:Int)]
theorem tX:Keyed Tryz.prog 224:=Keyed.of_law (deep_law_laid (m:=2) (by kernel_rfl) (by omega) (of_decide_eq_true (by kernel_rfl)) (by kernel_rfl) (by kernel_rfl))
theorem JL (w:World):(zeroValue 4).run Tryz.prog w= .ok (.bool false) w:=by kernel_rfl
theorem wf_u8 (a:UInt8):(Lit.int .u8 (a.toNat:Int)).wf=true:=by
 have e1:IntKind.u8.min=0:=by decide
 have e2:IntKind.u8.max=255:=by decide
 have:=a.toNat_lt;simp [Lit.wf,e1,e2];omega
theorem Ih (d:Nat) (a:UInt8):Tryz.prog.keyLits (d+1) 5 [.int .u8 (a.toNat:Int)]=some [.int .u8 (a.toNat:Int)]:=by
 simp [Program.keyLits,Tryz.underlying5,wf_u8]
theorem DF (a b:UInt8):∃kl,keyOf Tryz.prog 224 (qh a b)=some kl:=by
 obtain⟨d,hd⟩:∃d,Tryz.prog.types.size=d+1:=⟨Tryz.prog.types.size - 1,by kernel_rfl⟩
 have h2:Tryz.prog.cellsOf 224=2:=by kernel_rfl
 have h3:Tryz.prog.cellsOf 5=1:=by kernel_rfl
 have hk:Tryz.prog.keyType 224=true:=by kernel_rfl
 have hf:(qh a b).formed Tryz.prog 224=true:=by simp [Value.formed,Tryz.underlying224,h2,qh]
 refine⟨.string (keyBytes [.int .u8 (a.toNat:Int), .int .u8 (b.toNat:Int)]), ?_⟩;have e:Tryz.prog.keyLits (d+1+1) 224 [.int .u8 (a.toNat:Int), .int .u8 (b.toNat:Int)]=some [.int .u8 (a.toNat:Int), .int .u8 (b.toNat:Int)]:=by
  rw [Program.keyLits.eq_def];simp only [Tryz.underlying224];simp [h2,h3,List.range_succ,Ih d a,Ih d b]
 simp only [keyOf,Tryz.underlying224,hk,hf,Bool.and_self,if_true,hd];have e2:(qh a b).cells.toList=[.int .u8 (a.toNat:Int), .int .u8 (b.toNat:Int)]:=rfl;rw [e2,e];rfl
def xO (D:DataW Unit) (l:List Bt):Prop:=∀(a b:UInt8) (kl:Lit),keyOf Tryz.prog 224 (qh a b)=some kl→∀z,D.atKey kl z=if [a,b]∈l then .lit (.bool true)else z
def jm (w:World) (bp:Nat) (l:List Bt):Prop:=∃(n:Nat) (D:DataW Unit),n≤l.length∧w.ownsMap Tryz.prog 224 (plainElem Tryz.prog 4) bp n D∧xO D l
theorem jm.turn {w w':World} {bp:Nat} {l:List Bt} {G:Nat→Prop} (h:jm w bp l) (t:Turn G w w') (hd:¬G bp):jm w' bp l:=by
 obtain⟨n,D,h0,h1,h2⟩:=h;exact⟨n,D,h0,Lg h1 t hd,h2⟩
theorem DI {v:Value} {x:Bool} {ps:List MemPlace} (h:plainElem (H:=Unit) Tryz.prog 4 v=some (.lit (.bool x),ps)):v= .bool x:=by
 unfold plainElem at h;rw [Tryz.underlying4]at h;cases v <;> simp at h;rw [h.1]
theorem F6 {w:World} {bp:Nat} {l:List Bt} (h:jm w bp l) (a b:UInt8):(Instr.lookup 196 (.map (some bp)) (qh a b) false).run Tryz.prog w= .ok (.bool (decide ([a,b]∈l))) w:=by
 obtain⟨n,D, _,hown,hD⟩:=h;obtain⟨kl,hk⟩:=DF a b;obtain⟨v,ps,hrun,hR⟩:=hown.lookup tX Tryz.underlying196 (JL w) (plainElem_bool Tryz.underlying4 false) hk;rw [hrun];rw [hD a b kl hk]at hR;by_cases hin:[a,b]∈l
 ·rw [if_pos hin]at hR;rw [DI hR,decide_eq_true hin]
 ·rw [if_neg hin]at hR;rw [DI hR,decide_eq_false hin]
def wu (s:Bt):Int ⊕ (Int ×Bt ×Nat):=if s.take 2∈bN then .inr (5,s.take 2,2)else if s.headD 0∈dO then .inr (5,s.take 1,1)else .inl 5
theorem Ba {l:Bt} {c:UInt8}:0≤Lib.indexByte l c↔c∈l:=by
 induction l with
 | nil=>simp [Lib.indexByte]
 | cons b l ih=>
  rw [Lib.indexByte];by_cases h:b=c
  ·subst h;simp
  ·have hb:(b==c)=false:=by rw [beq_eq_false_iff_ne];exact h
   rw [hb];simp only [Bool.false_eq_true,if_false];have hge:=Lib.indexByte_ge l c;by_cases h1:Lib.indexByte l c= -1
   ·have h2:(Lib.indexByte l c== -1)=true:=by rw [beq_iff_eq];exact h1
    rw [if_pos h2];constructor
    ·intro hh;omega
    ·intro hh;rcases List.mem_cons.1 hh with hh | hh
     ·exact absurd hh.symm h
     ·have:=ih.2 hh;omega
   ·have h2:¬(Lib.indexByte l c== -1)=true:=by rw [beq_iff_eq];exact h1
    rw [if_neg h2];constructor
    ·intro hh;exact List.mem_cons_of_mem _ (ih.1 (by omega))
    ·intro hh;rcases List.mem_cons.1 hh with hh | hh
     ·exact absurd hh.symm h
     ·have:=ih.2 hh;omega
theorem tY:(⟨dO.toArray⟩:ByteArray).data.toList=dO:=rfl
theorem Lx (w:World) (bl bp:Nat) (c:UInt8) (r:Bt) (p:Nat ×Nat) (dF:Value) (hL:dQ w bl bp (c :: r) p dF) (hs:(c :: r).length≤100000) (hP:jm w bp bN):
  Calls Tryz.prog 193 #[.pointer (some ⟨bl,0,none⟩)] w fun e w'=>e= .returned (wU (wu (c :: r)))∧Below w.heap.size w w':=by
 have c0:=hL.c0;have c3:=hL.c3;have hsz:=bP (c :: r);cases r with
 | nil=>
  have hnp:(c :: ([]:Bt)).take 2 ∉ bN:=fun h=>by
   have hall:∀m∈bN,m.length=2:=by decide
   have:=hall _ h;simp at this
  have hix:=dL (c :: []) 0 (by simp);have he1:Value.string (ByteArray.extract ⟨(c :: ([]:Bt)).toArray⟩ 0 1)=sv [c]:=tQ _ 1;have hR:wu (c :: [])=if c∈dO then .inr (5,[c],1)else .inl 5:=by unfold wu;rw [if_neg hnp];rfl
  obtain⟨ans,oD⟩:∃ans,ans=wu (c :: []):=⟨_,rfl⟩
  rw [←oD];rw [←oD]at hR;clear hnp oD;go_enter Tryz.func193,Tryz.ntmps193;go_wp2_with fail
  go_quiet (fail)
  go_wp2_with fail;refine(Tryz.strings_IndexByte ⟨dO.toArray⟩ _ _).mono ?_;rintro e w1 ⟨rfl,rfl⟩;rw [jU,tY];have hi:=Ba (l:=dO) (c:=c);generalize Lib.indexByte dO c=ix at*
  by_cases hc:c∈dO
  ·have O5:¬(ix<0):=by have:=hi.2 hc;omega
   rw [if_pos hc]at hR;subst hR;clear hi;go_wp2_with fail
   go_quiet (fail)
   go_wp2_with fail;refine bodyPost_ret (cO rfl _ _ _) rfl ?_;exact⟨rfl,((aJ w _).trans (aJ _ _ |>.mono (Nat.le_refl _)))⟩
  ·have O5:ix<0:=by
    rcases Int.lt_or_le ix 0 with h | h
    ·exact h
    ·exact absurd (hi.1 h) hc
   rw [if_neg hc]at hR;subst hR;clear hi;go_wp2_with fail;refine bodyPost_ret (cO rfl _ _ _) rfl ?_;exact⟨rfl,aJ w _⟩
 | cons d r=>
  have hl1:(1:Int)<(r.length:Int)+1+1:=by omega
  have hl0:(0:Int)<(r.length:Int)+1+1:=by omega
  have hix:=dL (c :: d :: r) 0 (by simp);have VW:=dL (c :: d :: r) 1 (by simp);have he1:Value.string (ByteArray.extract ⟨(c :: d :: r).toArray⟩ 0 1)=sv [c]:=tQ _ 1;have he2:Value.string (ByteArray.extract ⟨(c :: d :: r).toArray⟩ 0 2)=sv [c,d]:=tQ _ 2
  have Q0:∀n,(Instr.lookup 196 (.map (some bp)) (.agg #[.int .u8 (c.toNat:Int), .int .u8 (d.toNat:Int)]) false).run Tryz.prog (w.drewN n)= .ok (.bool (decide ([c,d]∈bN))) (w.drewN n):=
   fun n=>F6 (hP.turn (Turn.drewN (fun _=>False) w n) id) c d
  have hR0:wu (c :: d :: r)=if [c,d]∈bN then .inr (5,[c,d],2)else if c∈dO then .inr (5,[c],1)else .inl 5:=rfl
  by_cases hp:[c,d]∈bN
  ·rw [if_pos hp]at hR0;rw [decide_eq_true hp]at Q0;rw [hR0];clear hR0 hp;go_enter Tryz.func193,Tryz.ntmps193;go_wp2_with fail
   go_quiet (fail)
   go_wp2_with fail
   go_quiet (fail)
   go_wp2_with fail;refine bodyPost_ret (cO rfl _ _ _) rfl ?_;exact⟨rfl,(aJ w _).trans (aJ _ _ |>.mono (Nat.le_refl _))⟩
  ·rw [if_neg hp]at hR0;rw [decide_eq_false hp]at Q0;obtain⟨ans,oD⟩:∃ans,ans=wu (c :: d :: r):=⟨_,rfl⟩
   rw [←oD];have hR:=oD.trans hR0;clear hR0 hp oD;go_enter Tryz.func193,Tryz.ntmps193;go_wp2_with fail
   go_quiet (fail)
   go_wp2_with fail;refine(Tryz.strings_IndexByte ⟨dO.toArray⟩ _ _).mono ?_;rintro e w1 ⟨rfl,rfl⟩;rw [jU,tY];have hi:=Ba (l:=dO) (c:=c);generalize Lib.indexByte dO c=ix at*
   by_cases hc:c∈dO
   ·have O5:¬(ix<0):=by have:=hi.2 hc;omega
    rw [if_pos hc]at hR;subst hR;clear hi;go_wp2_with fail
    go_quiet (fail)
    go_wp2_with fail;refine bodyPost_ret (cO rfl _ _ _) rfl ?_;exact⟨rfl,((aJ w _).trans (aJ _ _ |>.mono (Nat.le_refl _)))⟩
   ·have O5:ix<0:=by
     rcases Int.lt_or_le ix 0 with h | h
     ·exact h
     ·exact absurd (hi.1 h) hc
    rw [if_neg hc]at hR;subst hR;clear hi;go_wp2_with fail;refine bodyPost_ret (cO rfl _ _ _) rfl ?_;exact⟨rfl,aJ w _⟩
open Go.Maps (has IsMap Keyed)
theorem LA (c:UInt8) (r:Bt):dJ (c :: r)=if dI c then BQ (c :: r)else if bE c then xM (c :: r)else if c.toNat=34 then zV (c :: r)else wu (c :: r):=rfl
theorem LB (w:World) (bl bp:Nat) (c:UInt8) (r:Bt) (p:Nat ×Nat) (dF:Value) (hL:dQ w bl bp (c :: r) p dF) (hs:(c :: r).length≤100000) (hX:jS w) (hP:jm w bp bN):
  Calls Tryz.prog 147 #[.pointer (some ⟨bl,0,none⟩)] w fun e w'=>e= .returned (wU (dJ (c :: r)))∧Below w.heap.size w w':=by
 have c0:=hL.c0;have hsz:=bP (c :: r);have hix:(ByteArray.mk (c :: r).toArray)[0]'(by rw [bP];simp)=c:=dL (c :: r) 0 (by simp);have hl0:(0:Int)<(r.length:Int)+1:=by omega
 have HN:=hid (JJ w bl bp (c :: r) p dF hL hs hX);have HU:=hid (F4 w bl bp (c :: r) p dF hL hs hX);have HS:=hid (O4 w bl bp (c :: r) p dF hL hs (by simp));have HG:=hid (Lx w bl bp c r p dF hL hs hP);have heq:=LA c r;generalize BQ (c :: r)=xn at*
 generalize xM (c :: r)=xu at*
 generalize zV (c :: r)=xs at*
 generalize wu (c :: r)=xg at*
 cases h1:dI c
 ·rw [h1,if_neg (by simp)]at heq;cases h2:bE c
  ·rw [h2,if_neg (by simp)]at heq;by_cases h3:c.toNat=34
   ·rw [if_pos h3]at heq;rw [heq];clear heq HN HU HG;have H3:=hid h3;clear h3;go_enter Tryz.func147,Tryz.ntmps147;go_wp2_with fail;refine(ig c _).mono ?_;rintro e w1 ⟨rfl,rfl⟩;rw [h1];go_wp2_with fail;refine(lI c _).mono ?_;rintro e w1 ⟨rfl,rfl⟩;rw [h2];have h3:=H3.out;go_wp2_with fail;refine HS.out.mono ?_;rintro e w2 ⟨rfl,hb2⟩;clear HS;rcases xs with e | ⟨kd,t,n⟩
    all_goals
     simp only [wU];go_wp2_with fail;refine bodyPost_ret (cO rfl _ _ _) rfl ?_;exact⟨rfl,hb2⟩
   ·rw [if_neg h3]at heq;rw [heq];clear heq HN HU HS;go_enter Tryz.func147,Tryz.ntmps147;go_wp2_with fail;refine(ig c _).mono ?_;rintro e w1 ⟨rfl,rfl⟩;rw [h1];go_wp2_with fail;refine(lI c _).mono ?_;rintro e w1 ⟨rfl,rfl⟩;rw [h2];go_wp2_with fail;refine HG.out.mono ?_;rintro e w2 ⟨rfl,hb2⟩;clear HG;rcases xg with e | ⟨kd,t,n⟩
    all_goals
     simp only [wU];go_wp2_with fail;refine bodyPost_ret (cO rfl _ _ _) rfl ?_;exact⟨rfl,hb2⟩
  ·rw [h2,if_pos rfl]at heq;rw [heq];clear heq HN HS HG;go_enter Tryz.func147,Tryz.ntmps147;go_wp2_with fail;refine(ig c _).mono ?_;rintro e w1 ⟨rfl,rfl⟩;rw [h1];go_wp2_with fail;refine(lI c _).mono ?_;rintro e w1 ⟨rfl,rfl⟩;rw [h2];go_wp2_with fail;refine HU.out.mono ?_;rintro e w2 ⟨rfl,hb2⟩;clear HU;rcases xu with e | ⟨kd,t,n⟩
   all_goals
    simp only [wU];go_wp2_with fail;refine bodyPost_ret (cO rfl _ _ _) rfl ?_;exact⟨rfl,hb2⟩
 ·rw [h1,if_pos rfl]at heq;rw [heq];clear heq HU HS HG;go_enter Tryz.func147,Tryz.ntmps147;go_wp2_with fail;refine(ig c _).mono ?_;rintro e w1 ⟨rfl,rfl⟩;rw [h1];go_wp2_with fail;refine HN.out.mono ?_;rintro e w2 ⟨rfl,hb2⟩;clear HN;rcases xn with e | ⟨kd,t,n⟩
  all_goals
   simp only [wU];go_wp2_with fail;refine bodyPost_ret (cO rfl _ _ _) rfl ?_;exact⟨rfl,hb2⟩
end
end Go.Proofs.YtfgjkmipfikooaaGreatDoor
