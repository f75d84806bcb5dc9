/- WG, WHP -/
import Derived.Test.YtncnnedlgofccaaGreatDoorPT01
import Derived.Test.YtncnnedlgofccaaGreatDoorPT04
set_option linter.unusedSimpArgs false
set_option linter.unusedVariables false
set_option maxRecDepth 100000
set_option maxHeartbeats 1000000
namespace Go.Proofs.YtncnnedlgofccaaGreatDoor
open Go.RowKit
theorem below_grow (w:World)(k:Nat)(os:Array Obj):Below w.heap.size w (Sort.grow (w.drewN k) os):=
 ⟨rfl,rfl,rfl,by simp [Sort.grow],fun i hi=>by simp only [Sort.grow,World.heap_drewN];rw [Array.getElem?_append,if_pos hi]⟩
theorem afT (s:ByteArray):s.toList=s.data.toList:=ByteArray.toList_eq s
structure uq (w:World):Prop where
 tab:Lib.TabIs Tryz.prog w "internal/strconv.uint64pow10" .u64 Lib.pow10Tab
 syn:∃tp p,w.var? Tryz.prog "strconv.ErrSyntax" =some #[.iface tp p]
 rng:∃tp p,w.var? Tryz.prog "strconv.ErrRange" =some #[.iface tp p]
theorem rO {w w':World}{name:String}{cs:Array Value}(h:w.var? Tryz.prog name=some cs)(hb:Below w.heap.size w w'):w'.var? Tryz.prog name=some cs:=by
 unfold World.var? at h ⊢;cases hg:Tryz.prog.globalNamed name with
 |none=>rw [hg]at h;cases h
 |some g=>
  rw [hg]at h;simp only [Option.bind_some]at h ⊢;by_cases hlt:g<w.heap.size
  ·rw [hb.block g hlt];exact h
  ·rw [Array.getElem?_eq_none (by omega)]at h;cases h
theorem uq.below {w w':World}(h:uq w)(hb:Below w.heap.size w w'):uq w':=by
 obtain⟨h1,⟨tp,p,h2⟩,⟨tp',p',h3⟩⟩:=h;exact⟨rO h1 hb,⟨tp,p,rO h2 hb⟩,⟨tp',p',rO h3 hb⟩⟩
theorem uq.drewN {w:World}(h:uq w)(n:Nat):uq (w.drewN n):=h.below ⟨rfl,rfl,rfl,Nat.le_refl _,fun _ _=>rfl⟩
theorem Yv (n:Int) (w:World) (hn:In64 n) (htab:Lib.TabIs Tryz.prog w "internal/strconv.uint64pow10" .u64 Lib.pow10Tab):
  Calls Tryz.prog 158 #[I n] w fun e w'=>e=.returned (sv (Lib.itoa n))∧Below w.heap.size w w':=by
 go_enter Tryz.func158,Tryz.ntmps158;go_wp2_with (go_at_call 192;refine(Tryz.strconv_Itoa n hn.1 hn.2 _ htab).mono ?_;rintro e w' ⟨rfl,k,os,rfl⟩);go_ret;exact⟨rfl,below_grow _ _ _⟩
theorem Yw (n:Int)(w:World)(hn:In64 n)(hL:uq w):
  Calls Tryz.prog 158 #[I n] w fun e w'=>e=.returned (sv (Lib.itoa n))∧Below w.heap.size w w':=Yv n w hn hL.tab
theorem Yx (s:ByteArray)(w:World)(hs:s.size<=281474976710656)(hL:uq w):
  Calls Tryz.prog 214 #[.string s] w fun e w'=>∃v x,e=.returned (.tuple #[I v,x])∧Below w.heap.size w w'∧
   ((Lib.atoiAll s.data.toList=.ok v∧x=.nilIface)∨((∀u,Lib.atoiAll s.data.toList≠ .ok u)∧∃t y,x=.iface t y)):=by
 obtain⟨_,⟨tp,p,h2⟩,⟨tp',p',h3⟩⟩:=hL;rcases h:Lib.atoiAll s.data.toList with v |_ |_
 ·refine(Tryz.strconv_Atoi_ok s (by omega) v h w).mono ?_;rintro e w' ⟨rfl,hw⟩;refine⟨v,_,rfl,?_,.inl ⟨rfl,rfl⟩⟩;rcases hw with rfl |⟨t,rfl⟩
  ·exact Below.refl _ _
  ·exact Lib.bytesWorld_below w _ t
 ·refine(Tryz.strconv_Atoi_syntax_var s hs h tp p w h2).mono ?_;rintro e w' ⟨N,rfl,_,_,hb⟩;exact⟨_,_,rfl,hb,.inr ⟨fun u hu=>(by cases hu),_,_,rfl⟩⟩
 ·refine(Tryz.strconv_Atoi_range_var s hs h tp' p' w h3).mono ?_;rintro e w' ⟨N,rfl,_,_,hb⟩;exact⟨_,_,rfl,hb,.inr ⟨fun u hu=>(by cases hu),_,_,rfl⟩⟩
theorem VK {l:List UInt8}(h:∀u,Lib.atoiAll l≠ .ok u):dH l=(0,false):=by
 rw [oU];cases ha:Lib.atoiAll l with
 |ok u=>exact absurd ha (h u)
 |_=>rfl
theorem VL {l:List UInt8}{v:Int}(h:Lib.atoiAll l=.ok v)(h0:v<0):dH l=(0,false):=by
 rw [oU,h];dsimp only;rw [if_pos (.inl h0)]
theorem Q9 {l:List UInt8}{v:Int}(h:Lib.atoiAll l=.ok v)(h0:Lib.itoa v≠l):dH l=(0,false):=by
 rw [oU,h];dsimp only;rw [if_pos (.inr h0)]
theorem Ra {l:List UInt8}{v:Int}(h:Lib.atoiAll l=.ok v)(h0:0<=v)(h1:Lib.itoa v=l):dH l=(v,true):=by
 rw [oU,h];dsimp only;rw [if_neg];rintro(h |h)
 ·omega
 ·exact h h1
theorem uP {a c:Int}{b d:Bool}(h:(a,b)=(c,d)):Ending.returned (.tuple #[I a,.bool b])=.returned (.tuple #[I c,.bool d]):=by
 cases h;rfl
theorem Kt (s:ByteArray)(w:World)(hs:s.size<=281474976710656)(hL:uq w):
  Calls Tryz.prog 201 #[.string s] w fun e w'=>e=.returned (.tuple #[I (dH s.data.toList).1,.bool (dH s.data.toList).2])∧Below w.heap.size w w':=by
 go_enter Tryz.func201,Tryz.ntmps201;go_wp2_with fail;refine(Yx s _ hs hL).mono ?_;rintro e w1 ⟨v,x,rfl,hb1,hx⟩;have hL1:=hL.below hb1;rcases hx with⟨ha,rfl⟩ |⟨ha,t,y,rfl⟩
 ·by_cases h0:v<0
  ·have HV:=aO (VL ha h0);clear ha;go_wp2_with fail
   go_ret2
   exact⟨uP (by rw [HV.o]),hb1⟩
  ·have hv:In64 v:=by
    have:=Tg ha;unfold In64;omega
   have HA:=aO ha;clear ha;go_wp2_with (go_at_call 158;refine(Yw v _ hv hL1).mono ?_;rintro e w2 ⟨rfl,hb2⟩)
   ·rename_i h
    have hne:Lib.itoa v≠s.data.toList:=by
     rcases h with h |h
     ·omega
     ·simpa [afT]using h
    go_ret2
    exact⟨uP (by rw [Q9 HA.o hne]),hb1.trans (hb2.mono hb1.size)⟩
   ·rename_i h
    have he:Lib.itoa v=s.data.toList:=by simpa [afT]using h.2
    go_ret2
    exact⟨uP (by rw [Ra HA.o h.1 he]),hb1.trans (hb2.mono hb1.size)⟩
 ·have HV:=aO (VK ha);clear ha;go_wp2_with fail
  go_ret2
  exact⟨uP (by rw [HV.o]),hb1⟩
theorem Nk (s:ByteArray):s.data.toList.length=s.size:=Array.length_toList
theorem afU (s:ByteArray)(h:0<s.size):s.data.toList.head? =some s[0]:=by
 rw [List.head?_eq_getElem?,List.getElem?_eq_getElem (by rw [Nk];exact h)];rfl
theorem isz (s:ByteArray)(h:s.size=0):s=ByteArray.empty:=ByteArray.size_eq_zero_iff.1 h
theorem aeb {c:UInt8}{n:Nat}(hn:n<256):c=UInt8.ofNat n↔c.toNat=n:=by
 constructor
 ·intro h;rw [h,UInt8.toNat_ofNat'];omega
 ·intro h;apply UInt8.toNat_inj.1;rw [UInt8.toNat_ofNat'];omega
theorem qZ (s:ByteArray)(w:World)(hs:s.size<=281474976710656):
  Calls Tryz.prog 182 #[.string s] w fun e w'=>e=.returned (.tuple #[I (dH s.data.toList).1,.bool (dH s.data.toList).2])∧w=w':=by
 by_cases h0:s.size=0
 ·obtain rfl:=isz s h0;have HP:=aO VA;go_enter Tryz.func182,Tryz.ntmps182;go_wp2_with fail
  go_ret2
  exact⟨uP (by rw [show ByteArray.empty.data.toList=([]:List UInt8)from by decide,HP.o]),rfl⟩
 have hb:((s.size:Int)==0)=false:=by rw [beq_eq_false_iff_ne];omega
 have he:¬s=ByteArray.empty:=by intro e;exact h0 (by rw [e];rfl)
 have h3:0<s.size:=by omega
 by_cases h1:19<s.size
 ·have HP:=aO (QS (l:=s.data.toList) (by rw [Nk];exact h1));go_enter Tryz.func182,Tryz.ntmps182;go_wp2_with fail
  go_ret2
  exact⟨uP (by rw [HP.o]),rfl⟩
 by_cases h2:s.data.toList.head? =some 48∧1<s.size
 ·have HP:=aO (QT (l:=s.data.toList) (by rw [Nk];exact h2));obtain⟨h2,h4⟩:=h2;rw [afU s h3]at h2;have hz:(((s[0]'h3).toNat:Int)==48)=true:=by
   rw [beq_iff_eq];injection h2 with h2;rw [h2];rfl
  clear h2;go_enter Tryz.func182,Tryz.ntmps182;go_wp2_with fail
  go_ret2
  exact⟨uP (by rw [HP.o]),rfl⟩
 have h4:s.size<=19:=by omega
 have H2:=aO h2;have hcase:(((s[0]'h3).toNat:Int)==48)=false∨(((s[0]'h3).toNat:Int)==48)=true∧s.size<=1:=by
  by_cases hz:(s[0]'h3).toNat=48
  ·refine .inr ⟨by rw [beq_iff_eq,hz];rfl,?_⟩;have e:s.data.toList.head? =some 48:=by rw [afU s h3,(aeb (by decide)).2 hz];rfl
   rcases Nat.lt_or_ge 1 s.size with h |h
   ·exact absurd ⟨e,h⟩ h2
   ·exact h
  ·exact .inl (by rw [beq_eq_false_iff_ne];omega)
 clear h0 h1 h2;rcases hcase with hz |⟨hz,h5⟩
 all_goals
  go_enter Tryz.func182,Tryz.ntmps182;go_wp2_with fail
  go_loop [4,5] (fun v4 v5=>∃k n:Nat,v5=I k∧v4=.int .u64 n∧k<=s.size∧n=eH 0 (s.data.toList.take k)∧(∀c∈s.data.toList.take k,zX c=true)) (fun _ v5=>(s.size - (intOf v5).toNat))
  case atStart=>exact⟨0,0,rfl,rfl,by omega,(jN 0).symm,by simp⟩
  case round=>
   obtain⟨k,n,rfl,rfl,hk,hn,hd⟩:=hrel;have HN:=aO hn;have HD:=aO hd;clear hn hd;by_cases hlt:k<s.size
   ·go_wp2_with fail
    all_goals first
    |
      have hnd:¬zX (s[k]'hlt)=true:=by rw [jF];omega
      go_ret2
      exact⟨uP (by rw [M7 (l:=s.data.toList) (k:=k) (by rw [Nk];exact hlt) hnd]),rfl⟩
    |
      have hyd:48<=(s[k]'hlt).toNat∧(s[k]'hlt).toNat<=57:=by omega
      go_round
      case rel=>
       have hstep:s.data.toList.take (k+1)=s.data.toList.take k++[s[k]'hlt]:=by
        rw [List.take_succ_eq_append_getElem (by rw [Nk];exact hlt)];rfl
       have hv:=Gq _ 0 HD.o;have hn:=HN.o;have hl:(s.data.toList.take k).length<=18:=by rw [List.length_take];omega
       have hp:10 ^ (s.data.toList.take k).length<=10 ^ 18:=Nat.pow_le_pow_right (by decide) hl;refine⟨k+1,10*n+((s[k]'hlt).toNat - 48),rfl,?_,by omega,?_,?_⟩
       ·have e:IntKind.u64.wrap (IntKind.u64.wrap (10*(n:Int))+(((s[k]'hlt).toNat:Int) - 48))=((10*n+((s[k]'hlt).toNat - 48):Nat):Int):=by
         rw [M5,M5];omega
        rw [e]
       ·rw [hstep,wH,<-hn]
       ·intro c hc;rw [hstep]at hc;rcases List.mem_append.1 hc with hc |hc
        ·exact HD.o c hc
        ·obtain rfl:c=s[k]'hlt:=by simpa using hc
         exact jF.2 hyd
      case measure=>simp [intOf];omega
   ·have hk2:k=s.size:=by omega
    have ht:s.data.toList.take k=s.data.toList:=List.take_of_length_le (by rw [Nk];omega);have hpe:=VB (l:=s.data.toList) (by rw [Nk];exact h3) (by rw [Nk];exact H2.o) (by have:=HD.o;rw [ht]at this;exact this);have hn:=HN.o;rw [ht]at hn;rw [<-hn]at hpe;have HPE:=aO hpe;clear hpe hn ht hk2;by_cases hbig:n<9223372036854775808
    ·go_wp2_with fail
     go_ret2
     exact⟨uP (by rw [HPE.o,if_pos hbig]),rfl⟩
    ·go_wp2_with fail
     go_ret2
     exact⟨uP (by rw [HPE.o,if_neg hbig]),rfl⟩
end Go.Proofs.YtncnnedlgofccaaGreatDoor
