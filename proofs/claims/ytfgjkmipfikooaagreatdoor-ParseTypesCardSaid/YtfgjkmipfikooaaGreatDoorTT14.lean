/- XT, XU, XZ, HG -/
import Derived.Test.YtfgjkmipfikooaaGreatDoorTTQ
import Derived.Test.YtfgjkmipfikooaaGreatDoorTT13
import Derived.Test.YtfgjkmipfikooaaGreatDoorTT03
import Derived.Test.YtfgjkmipfikooaaGreatDoorTT01
import Derived.Test.YtfgjkmipfikooaaGreatDoorTT04
import Derived.Test.YtfgjkmipfikooaaGreatDoorTT11
set_option linter.unusedSimpArgs false
set_option linter.unusedVariables false
set_option maxRecDepth 100000
set_option maxHeartbeats 8000000
namespace Go.Proofs.YtfgjkmipfikooaaGreatDoor
open Go.RowKit
theorem GV (w:World) (s:Bt) (hs:s.length≤281474976710656):Calls Tryz.prog 154 #[sv s] w fun e w'=>e= .returned (.int .i64 (bC s:Nat))∧w'=w:=by
 have hsz:=bP s;obtain⟨ans,oD⟩:∃a,a=bC s:=⟨_,rfl⟩
 rw [←oD];have h0:ans=0+cZ false (s.drop 0):=by rw [List.drop_zero,oD];unfold bC;omega
 have H0:=hid h0;clear oD h0;go_enter Tryz.func154,Tryz.ntmps154;go_wp2_with fail
 go_loop [3] (fun v3=>∃i:Nat,v3= .int .i64 i∧i≤s.length∧ans=i+cZ false (s.drop i)) (fun v3=>s.length - (intOf v3).toNat)
 case atStart=>exact⟨0,rfl,by omega,H0.out⟩
 case round=>
  obtain⟨i,rfl,hi,hsk⟩:=hrel;by_cases hlt:i<s.length
  ·obtain⟨e1,e2,e3,e4,e5⟩:=Bp hlt;have hix:=dL s i hlt;generalize hc:s[i]=c at*
   have HC:=hid hc;clear hc;by_cases Ic:c.toNat=35
   ·have ZB:=hid (hsk.trans (congrArg (i+ ·) (e2 Ic)));clear hsk e1 e2 e3 e4 e5;go_wp2_with fail
    go_loop [3] (fun v3=>∃k:Nat,v3= .int .i64 k∧i≤k∧k≤s.length∧ans=k+cZ true (s.drop k)) (fun v3=>s.length - (intOf v3).toNat)
    case atStart=>exact⟨i,rfl,by omega,by omega,ZB.out⟩
    case round=>
     obtain⟨k,rfl,hik,hk,Kr⟩:=hrel;by_cases hlt1:k<s.length
     ·obtain⟨f1,f2,f3,f4,f5⟩:=Bp hlt1;have VW:=dL s k hlt1;have hki:s[k].toNat=10→i<k:=by
       intro h;rcases Nat.lt_or_ge i k with h1 | h1
       ·exact h1
       ·obtain rfl:i=k:=by omega
        rw [HC.out]at h;omega
      generalize s[k]=d at*
      by_cases h10:d.toNat=10
      ·have HN:=hid (Kr.trans (congrArg (k+ ·) (f3 h10)));have hki:=hki h10;clear Kr f1 f2 f3 f4 f5 hix HC;go_wp2_with fail
       go_round
       case rel=>exact⟨k,rfl,by omega,HN.out⟩
       case measure=>simp [intOf];omega
      ·have HN:=hid (show ans=(k+1)+cZ true (s.drop (k+1)) by rw [Kr,f4 h10];omega);clear Kr f1 f2 f3 f4 f5 hix hki HC;go_wp2_with fail
       go_round
       case rel=>exact⟨k+1,rfl,by omega,by omega,HN.out⟩
       case measure=>simp [intOf];omega
     ·obtain rfl:k=s.length:=by omega
      have HN:=hid (show ans=s.length+cZ false (s.drop s.length) by rw [Kr,zm,zm]);clear Kr;go_wp2_with fail
      go_round
      case rel=>exact⟨s.length,rfl,by omega,HN.out⟩
      case measure=>simp [intOf];omega
   ·have hb:(bJ c=true∧(c.toNat=32∨c.toNat=9∨c.toNat=10∨c.toNat=13))∨(bJ c=false∧c.toNat≠32∧c.toNat≠9∧c.toNat≠10∧c.toNat≠13):=by
     unfold bJ;simp only [Bool.or_eq_true,Bool.or_eq_false_iff,decide_eq_true_eq,decide_eq_false_iff_not];omega
    clear e2 e3 e4 HC;rcases hb with⟨hb,hc⟩ | ⟨hb,h1,h2,h3,h4⟩
    ·have HN:=hid (show ans=(i+1)+cZ false (s.drop (i+1)) by rw [hsk,e1 hb];omega);clear hsk e1 e5 hb;rcases hc with hc | hc | hc | hc
     ·go_wp2_with fail
      go_round
      case rel=>exact⟨i+1,rfl,by omega,HN.out⟩
      case measure=>simp [intOf];omega
     ·go_wp2_with fail
      go_round
      case rel=>exact⟨i+1,rfl,by omega,HN.out⟩
      case measure=>simp [intOf];omega
     ·go_wp2_with fail
      go_round
      case rel=>exact⟨i+1,rfl,by omega,HN.out⟩
      case measure=>simp [intOf];omega
     ·go_wp2_with fail
      go_round
      case rel=>exact⟨i+1,rfl,by omega,HN.out⟩
      case measure=>simp [intOf];omega
    ·have HN:=hid (show ans=i by rw [hsk,e5 hb Ic];omega);have b1:((c.toNat:Int) != 32)=true:=by rw [bne_iff_ne];omega
     have b2:((c.toNat:Int) != 9)=true:=by rw [bne_iff_ne];omega
     have b3:((c.toNat:Int) != 10)=true:=by rw [bne_iff_ne];omega
     have b4:((c.toNat:Int) != 13)=true:=by rw [bne_iff_ne];omega
     clear hsk e1 e5 hb;go_wp2_with fail;go_ret;have hr:=HN.out;subst hr;exact⟨rfl,rfl⟩
  ·obtain rfl:i=s.length:=by omega
   have HN:=hid (show ans=s.length by rw [hsk,zm];omega);clear hsk;go_wp2_with fail;go_ret;have hr:=HN.out;subst hr;exact⟨rfl,rfl⟩
def mP (c:UInt8) (s:Bt):Nat:=if s.take 2∈bN then 2 else if c∈dO then 1 else 0
theorem EA {c:UInt8} {s:Bt} (h:s.take 2∈bN):mP c s=2:=by unfold mP;rw [if_pos h]
theorem sign_one {c:UInt8} {s:Bt} (h:s.take 2 ∉ bN) (h1:c∈dO):mP c s=1:=by unfold mP;rw [if_neg h,if_pos h1]
theorem Br {c:UInt8} {s:Bt} (h:s.take 2 ∉ bN) (h1:c ∉ dO):mP c s=0:=by unfold mP;rw [if_neg h,if_neg h1]
theorem Kt (w:World) (c:UInt8) (r:Bt) (hs:(c :: r).length≤281474976710656):Calls Tryz.prog 197 #[sv (c :: r)] w fun e w'=>e= .returned (.int .i64 (mP c (c :: r):Nat))∧Below w.heap.size w w':=by
 obtain⟨s,hsc⟩:∃s,s=c :: r:=⟨_,rfl⟩
 have hsz:=bP s;have hl1:1≤s.length:=by rw [hsc];simp
 have Ku:(ByteArray.mk s.toArray)[0]'(by omega)=c:=by
  have:=dL s 0 (by omega);rw [this];simp [hsc]
 have hone:¬ 2≤s.length→s.take 2 ∉ bN:=by
  intro h hm;have:=uX _ hm;rw [List.length_take]at this;omega
 rw [←hsc]at hs ⊢;clear hsc;have hss:Ss (w.alloc (.cells (lG bN).toArray 9)) (w.alloc (.cells (lG bN).toArray 9)).heap.size (.slice (some ⟨w.heap.size,0,none⟩) 8 8) bN:=by
  have:=fU w (lG bN).toArray 9 1 8 (by simp [eH];rfl) (by decide);rw [World.size_alloc];simpa [Ss]using this
 have hb:Below w.heap.size w (w.alloc (.cells (lG bN).toArray 9)):=(Below.refl _ _).alloc (Nat.le_refl _) _;have hex:2≤s.length→ByteArray.extract ⟨s.toArray⟩ 0 2=⟨(s.take 2).toArray⟩:=by
  intro _;have h:=eU s 0 2;rw [List.drop_zero]at h;injection h
 have Yp:=hid hone;have wW:=hid hex;clear hone hex;have hlp:bN.length=8:=rfl;have hls:dO.length=20:=rfl;have HT:=hid (fun h=>EA (c:=c) (s:=s) h);have HO:=hid (fun h h1=>sign_one (c:=c) (s:=s) h h1);have HN:=hid (fun h h1=>Br (c:=c) (s:=s) h h1);generalize mP c s=ans at*
 go_enter Tryz.func197,Tryz.ntmps197;go_wp2_with fail;generalize hw:w.alloc (.cells #[.string ⟨#[45,62]⟩, .string ⟨#[61,62]⟩, .string ⟨#[60,58]⟩, .string ⟨#[60,60]⟩, .string ⟨#[60,61]⟩, .string ⟨#[62,62]⟩, .string ⟨#[61,61]⟩, .string ⟨#[43,43]⟩] 9)=w1 at*
 have hw':w.alloc (.cells (lG bN).toArray 9)=w1:=hw;rw [hw']at hss hb;clear hw hw';obtain⟨A,cc,hA,hn,hcc,hx⟩:=hss.open_;obtain⟨b,o,hbo,hb2,hcell⟩:=hx (by rw [hlp];omega);subst hbo;simp only [Value.slice.injEq,Option.some.injEq,Addr.mk.injEq]at hA;obtain⟨⟨rfl,rfl, _⟩,h8a,h8b⟩:=hA;clear hx hcc hn h8a h8b;generalize bN=P at*
 go_loopw [4] (fun v4 wr=>∃k:Nat,v4= .int .i64 k∧k≤8∧s.take 2 ∉ P.take k∧Below w1.heap.size w1 wr) (fun v4 _=>8 - (intOf v4).toNat)
 case atStart=>exact⟨0,rfl,by omega,by simp,Below.refl _ _⟩
 case round=>
  obtain⟨k,rfl,hk,hnot,hbr⟩:=hrel;by_cases hlt:k<8
  ·have hlt':(k:Int)<8:=by omega
   have d1:=(hbr.cell (p:=⟨w.heap.size,0+k,none⟩) hb2).trans (hcell k (by omega));rw [Nat.zero_add]at d1;have hin:s.take 2=P[k]→s.take 2∈P:=fun h=>by rw [h];exact List.getElem_mem _
   have hout:s.take 2≠P[k]→s.take 2 ∉ P.take (k+1):=fun h=>rC (by omega) hnot h;have HIN:=hid hin;have UR:=hid hout;have UU:=hid hnot;clear hin hout hnot hcell;generalize hX:P[k]=X at*
   by_cases h2:2≤s.length
   ·have hex:=wW.out h2;have hd2:decide ((2:Int)≤s.length)=true:=by rw [decide_eq_true_eq];omega
    by_cases hq:s.take 2=X
    ·have hq':(s.take 2==X)=true:=by rw [beq_iff_eq];exact hq
     have hres:=HT.out (HIN.out hq);clear hq hX;go_wp2_with fail
     go_quiet (fail)
     go_wp2_with fail;go_ret;exact⟨by first | rfl | (rw [hres];rfl),hb.trans ((hbr.trans ((aJ wr _).mono hbr.size)).mono hb.size)⟩
    ·have hq':(s.take 2==X)=false:=by rw [beq_eq_false_iff_ne];exact hq
     have hr:=hid (UR.out hq);clear hq hX;go_wp2_with fail
     go_quiet (fail)
     go_wp2_with fail
     go_roundw
     case rel=>exact⟨k+1,rfl,by omega,hr.out,hbr.trans ((aJ wr _).mono hbr.size)⟩
     case measure=>simp [intOf];omega
   ·have hr:=hid (fun h=>Yp.out h2 (List.mem_of_mem_take (i:=k+1) h));have hd2:decide ((2:Int)≤s.length)=false:=by rw [decide_eq_false_iff_not];omega
    clear hX;go_wp2_with fail
    go_quiet (fail)
    go_wp2_with fail
    go_roundw
    case rel=>exact⟨k+1,rfl,by omega,hr.out,hbr.trans ((aJ wr _).mono hbr.size)⟩
    case measure=>simp [intOf];omega
  ·have oZ:¬(k:Int)<8:=by omega
   rw [List.take_of_length_le (by omega)]at hnot;have UU:=hid hnot;clear hnot HT Yp wW hcell;go_wp2_with fail;rw [show Value.string ⟨#[40,41,123,125,91,93,44,58,59,61,43,45,42,47,37,38,94,60,124,46]⟩=sv dO from rfl];have hsq:=bP dO;generalize dO=Q at*
   go_loopw [6] (fun v6 w2=>∃k:Nat,v6= .int .i64 k∧k≤20∧c ∉ Q.take k∧Below wr.heap.size wr w2) (fun v6 _=>20 - (intOf v6).toNat)
   case atStart=>exact⟨0,rfl,by omega,by simp,Below.refl _ _⟩
   case round=>
    obtain⟨k,rfl,hk2,hnot,nU⟩:=hrel;by_cases hlt:k<20
    ·have hlt':(k:Int)<20:=by omega
     have hix:=dL Q k (by omega);have hin:c=Q[k]→c∈Q:=fun h=>by rw [h];exact List.getElem_mem _
     have hout:c≠Q[k]→c ∉ Q.take (k+1):=fun h=>rC (by omega) hnot h;have HIN:=hid hin;have UR:=hid hout;have aes:=hid hnot;clear hin hout hnot;generalize hX:Q[k]=X at*
     by_cases hq:c=X
     ·have hres:=HO.out UU.out (HIN.out hq);have hq':(c.toNat:Int)=X.toNat:=by rw [hq]
      clear hq hX;go_wp2_with fail
      go_quiet (fail)
      go_wp2_with fail;go_ret;exact⟨by first | rfl | (rw [hres];rfl),hb.trans ((hbr.trans ((nU.trans ((aJ _ _).mono nU.size)).mono hbr.size)).mono hb.size)⟩
     ·have hq':¬(c.toNat:Int)=X.toNat:=by intro h;exact hq (UInt8.toNat_inj.1 (by omega))
      have hr:=hid (UR.out hq);clear hq hX;go_wp2_with fail
      go_quiet (fail)
      go_wp2_with fail
      go_roundw
      case rel=>exact⟨k+1,rfl,by omega,hr.out,nU.trans ((aJ _ _).mono nU.size)⟩
      case measure=>simp [intOf];omega
    ·have oZ:¬(k:Int)<20:=by omega
     rw [List.take_of_length_le (by omega)]at hnot;have hres:=HN.out UU.out hnot;clear hnot;go_wp2_with fail;go_ret;exact⟨by first | rfl | (rw [hres];rfl),hb.trans ((hbr.trans (nU.mono hbr.size)).mono hb.size)⟩
theorem EB (w:World) (s:Bt) (hs:s.length≤281474976710656) (h1:1≤s.length):Calls Tryz.prog 196 #[sv s] w fun e w'=>e= .returned (qg (jw s))∧w'=w:=by
 have hsz:=bP s;generalize oD:jw s=ans;go_enter Tryz.func196,Tryz.ntmps196;go_wp2_with fail
 go_loop [4,5,6] (fun v4 v5 v6=>∃(i:Nat) (o:Bt),v5= .int .i64 i∧v4=sv o∧1≤i∧i≤s.length∧o.length≤i∧dn false o (i - 1) (s.drop i)=ans) (fun _ v5 _=>s.length - (intOf v5).toNat)
 case atStart=>exact⟨1,[],rfl,rfl,by omega,h1,by simp,oD⟩
 case round=>
  obtain⟨i,o,rfl,rfl,hi1,hi,hol,hq⟩:=hrel;have agl:¬ 9223372036854775807<o.length+1:=by omega
  by_cases hlt:i<s.length
  ·obtain⟨e1,e2,e3,e4, _, _⟩:=zn hlt o (i - 1);have hix:=dL s i hlt;have hex:ByteArray.extract ⟨s.toArray⟩ i (i+1)=⟨[s[i]].toArray⟩:=by
    have h:=eU s i (i+1);rw [List.take_succ_eq_append_getElem hlt,List.drop_append_of_le_length (by rw [List.length_take];omega),List.drop_of_length_le (by rw [List.length_take];omega),List.nil_append]at h;injection h
   generalize hc:s[i]=c at*
   clear hc;have E1:=hid e1;have E2:=hid e2;have E3:=hid e3;have E4:=hid e4;have HQ:=hid hq;clear e1 e2 e3 e4 hq;by_cases vX:c.toNat=34
   ·have hr:ans=some (o,i+1):=by rw [←HQ.out,E1.out vX];congr 2;omega
    subst hr;clear E1 E2 E3 E4;go_wp2_with fail
    go_ret2
    exact⟨rfl,rfl⟩
   ·by_cases h32:c.toNat<32
    ·have hr:ans=none:=by rw [←HQ.out,E2.out h32]
     subst hr;clear E1 E2 E3 E4;go_wp2_with fail
     go_ret2
     exact⟨rfl,rfl⟩
    ·by_cases OU:c.toNat=92
     ·have hr:=HQ.out;rw [E4.out OU,show i - 1+1=i from by omega]at hr;have HR:=hid hr;clear hr E1 E2 E3 E4 HQ hex;by_cases hlt2:i+1<s.length
      ·obtain⟨_, _, _, _,e5,e6⟩:=zn hlt2 o i;have O5:=dL s (i+1) hlt2;have UW:ByteArray.extract ⟨s.toArray⟩ (i+1) (i+2)=⟨[s[i+1]].toArray⟩:=by
        have h:=eU s (i+1) (i+2);rw [List.take_succ_eq_append_getElem hlt2,List.drop_append_of_le_length (by rw [List.length_take];omega),List.drop_of_length_le (by rw [List.length_take];omega),List.nil_append]at h;injection h
       generalize hd:s[i+1]=d at*
       clear hd;have E5:=hid e5;have E6:=hid e6;clear e5 e6;have key:∀e,pW d=some e→∃(j:Nat) (o':Bt),Value.int .i64 ((i+2:Nat):Int)= .int .i64 j∧Value.string ((⟨o.toArray⟩:ByteArray)++⟨[e].toArray⟩)=sv o'∧1≤j∧j≤s.length∧o'.length≤j∧dn false o' (j - 1) (s.drop j)=ans:=by
        intro e he;refine⟨i+2,o++[e],rfl,Ay _ _,by omega,by omega,by simp;omega, ?_⟩;rw [←HR.out,E5.out e he];rfl
       have KEY:=hid key;clear key E5;rcases GU d with⟨hd,he⟩ | ⟨hd,he⟩ | ⟨hd,he⟩ | ⟨hd,he⟩ | ⟨⟨k1,k2,k3,k4⟩,he⟩
       ·have hd2:d=92:=UInt8.toNat_inj.1 hd;have K:=hid (KEY.out _ he);clear KEY E6 he;go_wp2_with fail
        go_round
        case rel=>exact K.out
        case measure=>simp [intOf];omega
       ·have hd2:d=34:=UInt8.toNat_inj.1 hd;have K:=hid (KEY.out _ he);clear KEY E6 he;go_wp2_with fail
        go_round
        case rel=>exact K.out
        case measure=>simp [intOf];omega
       ·have K:=hid (KEY.out _ he);clear KEY E6 he UW;go_wp2_with fail
        go_round
        case rel=>exact K.out
        case measure=>simp [intOf];omega
       ·have K:=hid (KEY.out _ he);clear KEY E6 he UW;go_wp2_with fail
        go_round
        case rel=>exact K.out
        case measure=>simp [intOf];omega
       ·have hr:ans=none:=by rw [←HR.out,E6.out he]
        subst hr;clear KEY E6 he UW;go_wp2_with fail
        go_ret2
        exact⟨rfl,rfl⟩
      ·have hr:ans=none:=by
        rw [←HR.out,show i+1=s.length from by omega,Bq]
       subst hr;clear HR;go_wp2_with fail
       go_ret2
       exact⟨rfl,rfl⟩
     ·have hr:=HQ.out;rw [E3.out (by omega) vX OU,show i - 1+1=i from by omega]at hr
      have key:∃(j:Nat) (o':Bt),Value.int .i64 ((i+1:Nat):Int)= .int .i64 j∧Value.string ((⟨o.toArray⟩:ByteArray)++⟨[c].toArray⟩)=sv o'∧1≤j∧j≤s.length∧o'.length≤j∧dn false o' (j - 1) (s.drop j)=ans:=
       ⟨i+1,o++[c],rfl,Ay _ _,by omega,by omega,by simp;omega,by rw [show i+1 - 1=i from by omega];exact hr⟩
      have KEY:=hid key;clear key hr E1 E2 E3 E4 HQ;go_wp2_with fail
      go_round
      case rel=>exact KEY.out
      case measure=>simp [intOf];omega
  ·obtain rfl:i=s.length:=by omega
   rw [Bq]at hq;subst hq;go_wp2_with fail
   go_ret2
   exact⟨rfl,rfl⟩
theorem GX {w:World} {base:Nat} {e:TypeId} {k n:Nat} {v:Value} {xs:List Value} (h:w.ownsRow base e k v n xs):∃A c,v= .slice A n c∧n≤maxLen:=by
 rcases h.2 with⟨rfl,rfl⟩ | ⟨g,cap,cur,rfl,hg,hb,hn,hm,r⟩
 ·exact⟨none,0,rfl,Nat.zero_le _⟩
 ·exact⟨_,cap,rfl,Nat.le_trans hn hm⟩
theorem bq {P:Program} {fn:Func} {p t1 t2:Tmp} {ty:TypeId} (h:fn.results= #[.cell p ty, .tmp t1, .tmp t2]) (tmps:Array Value) (w:World) (g:Nat) (t:TypeId) (cs:Array Value) (fr:Nat ×Nat) (d:TypeDesc)
  (hp:tmps.getD p undef= .pointer (some ⟨g,0,none⟩)) (hg:w.heap[g]? =some (.cells cs t fr))
  (hu:P.underlying ty=some d) (hd:(match d with | .struct _ | .array _ _=>true | _=>false)=true) (hi:(P.info? ty).map (·.size)=some cs.size):
  (results fn tmps).run P w= .ok (.tuple #[.agg cs,tmps.getD t1 undef,tmps.getD t2 undef]) w:=by
 have hp':tmps[p]?.getD undef= .pointer (some ⟨g,0,none⟩):=by simpa using hp
 simp [results,h,hp',asAddr,run_loadVar_row w g t ty cs fr d hg hu hd hi,Result.andThen]
def GY:Int ⊕ (Int ×Bt ×Nat)→Value
 | .inl e=> .tuple #[.agg #[.int .i64 0,sv [], .int .i64 0, .int .i64 0], .int .i64 0, .int .i64 e]
 | .inr (kd,t,n)=> .tuple #[.agg #[.int .i64 kd,sv t, .int .i64 0, .int .i64 0], .int .i64 n, .int .i64 0]
theorem jQ {w:World} {b:Nat} (h:w.heap[b]? =some (.cells #[.int .i64 0,sv [], .int .i64 0, .int .i64 0] 154 (0,0))):
  (w.cell? ⟨b,0,none⟩=some (.int .i64 0)∧w.cell? ⟨b,1,none⟩=some (sv [])∧w.cell? ⟨b,2,none⟩=some (.int .i64 0)∧w.cell? ⟨b,3,none⟩=some (.int .i64 0))∧
  (w.frozen? ⟨b,0,none⟩=false∧w.frozen? ⟨b,1,none⟩=false∧w.frozen? ⟨b,2,none⟩=false∧w.frozen? ⟨b,3,none⟩=false):=
 ⟨⟨(cell_of_row _ _ _ _ _ (0,0) h).trans rfl,(cell_of_row _ _ _ _ _ (0,0) h).trans rfl,(cell_of_row _ _ _ _ _ (0,0) h).trans rfl,(cell_of_row _ _ _ _ _ (0,0) h).trans rfl⟩,bg h 0,bg h 1,bg h 2,bg h 3⟩
theorem dx {w W:World} (hb:Below w.heap.size w W) (v0 v1 v2 v3:Value):Below w.heap.size w (BP W w.heap.size v0 v1 v2 v3):=
 hb.trans ((nG W w.heap.size v0 v1 v2 v3).below hb.size (fun k hk h=>by omega))
theorem Aj (w:World) (c:UInt8) (r:Bt) (hs:(c :: r).length≤281474976710656) (hl:dI c=true):
  Calls Tryz.prog 155 #[sv (c :: r)] w fun e w'=>e= .returned (GY (dJ (c :: r)))∧Below w.heap.size w w':=by
 obtain⟨s,hsc⟩:∃s,s=c :: r:=⟨_,rfl⟩
 have hsz:=bP s;have hl1:1≤s.length:=by rw [hsc];simp
 have Ku:(ByteArray.mk s.toArray)[0]'(by omega)=c:=by
  have:=dL s 0 (by omega);rw [this];simp [hsc]
 have hd:=Cm c hl
 have hA:dJ s=if 32<cu aY s then .inl 2 else if s.take (cu aY s)∈dN then .inr (2,s.take (cu aY s),cu aY s)else .inr (1,s.take (cu aY s),cu aY s):=by
  rw [hsc,dJ,if_pos hl]
 rw [←hsc]at hs ⊢;clear hsc;have HA:=hid hA;clear hA;generalize dJ s=ans at*
 have hd0:=heap_alloc_new w (.cells #[.int .i64 0,sv [], .int .i64 0, .int .i64 0] 154);have hb0:Below w.heap.size w (w.alloc (.cells #[.int .i64 0,sv [], .int .i64 0, .int .i64 0] 154)):=(Below.refl _ _).alloc (Nat.le_refl _) _;go_enter Tryz.func155,Tryz.ntmps155;go_wp2_with fail;generalize w.alloc (.cells #[.int .i64 0,sv [], .int .i64 0, .int .i64 0] 154)=w0 at*
 refine(jG c _).mono ?_;rintro e w0 ⟨rfl,rfl⟩;go_wp2_with fail;refine(jX c _).mono ?_;rintro e w0 ⟨rfl,rfl⟩;rw [hd];clear Ku;go_wp2_with fail
 go_loop [7] (fun v7=>∃i:Nat,v7= .int .i64 i∧i≤s.length∧∀j (hj:j<s.length),j<i→aY s[j]=true) (fun v7=>s.length - (intOf v7).toNat)
 case atStart=>exact⟨0,rfl,by omega,fun j hj h=>by omega⟩
 case round=>
  obtain⟨i,rfl,hi,hall⟩:=hrel;by_cases hlt:i<s.length
  ·have hix:=dL s i hlt;have hnext:aY s[i]=true→∀j (hj:j<s.length),j<i+1→aY s[j]=true:=by
    intro h j hj hji;rcases Nat.lt_or_ge j i with h1 | h1
    ·exact hall j hj h1
    ·obtain rfl:j=i:=by omega
     exact h
   have hstop:aY s[i]=false→cu aY s=i:=fun h=>yj _ s i hi hall (.inr ⟨hlt,h⟩);have iX:=hid hnext;have o8:=hid hstop;clear hall hnext hstop;generalize hX:s[i]=X at*
   clear hX;go_wp2_with fail;refine(jG X _).mono ?_;rintro e w0 ⟨rfl,rfl⟩;go_wp2_with fail;refine(jX X _).mono ?_;rintro e w0 ⟨rfl,rfl⟩;have hin:aY X=(dI X || bE X):=rfl;cases hq1:dI X
   ·cases hq2:bE X
    ·have hq:=o8.out (by rw [hin,hq1,hq2];rfl);rw [hq]at HA;clear iX o8 hix hq;generalize i=n at*
     have hex:ByteArray.extract ⟨s.toArray⟩ 0 n=⟨(s.take n).toArray⟩:=by
      have h:=eU s 0 n;rw [List.drop_zero]at h;injection h
     have hA:=HA.out;clear HA;by_cases h32:32<n
     ·rw [if_pos h32]at hA;obtain⟨⟨e0,e1,e2,e3⟩,g0,g1,g2,g3⟩:=jQ hd0;go_wp2_with fail;refine bodyPost_ret (bq rfl _ _ w.heap.size _ _ _ _ rfl (bZ hd0 _ _ _ _) Tryz.underlying154 rfl (by kernel_rfl)) rfl ?_;exact⟨by first | rfl | (rw [hA];rfl),dx hb0 _ _ _ _⟩
     ·rw [if_neg h32]at hA;generalize s.take n=x at*
      go_wp2_with fail;refine(Bo _ x).mono ?_;rintro e w2 ⟨rfl,hb2⟩;have hd2:=ah hd0 (Turn.of_below (F:=fun _=>False) hb2) id;have hB2:=La hb0 hb2;obtain⟨⟨e0,e1,e2,e3⟩,g0,g1,g2,g3⟩:=jQ hd2;by_cases hw:x∈dN
      ·rw [if_pos hw]at hA;rw [decide_eq_true hw];go_wp2_with fail;refine bodyPost_ret (bq rfl _ _ w.heap.size _ _ _ _ rfl (bZ hd2 _ _ _ _) Tryz.underlying154 rfl (by kernel_rfl)) rfl ?_;exact⟨by first | rfl | (rw [hA];rfl),dx hB2 _ _ _ _⟩
      ·rw [if_neg hw]at hA;rw [decide_eq_false hw];go_wp2_with fail;refine bodyPost_ret (bq rfl _ _ w.heap.size _ _ _ _ rfl (bZ hd2 _ _ _ _) Tryz.underlying154 rfl (by kernel_rfl)) rfl ?_;exact⟨by first | rfl | (rw [hA];rfl),dx hB2 _ _ _ _⟩
    ·have HN:=hid (iX.out (by rw [hin,hq1,hq2];rfl));clear iX o8 hix;go_wp2_with fail
     go_round
     case rel=>exact⟨i+1,rfl,by omega,HN.out⟩
     case measure=>simp [intOf];omega
   ·cases hq2:bE X
    ·have HN:=hid (iX.out (by rw [hin,hq1];rfl));clear iX o8 hix;go_wp2_with fail
     go_round
     case rel=>exact⟨i+1,rfl,by omega,HN.out⟩
     case measure=>simp [intOf];omega
    ·have HN:=hid (iX.out (by rw [hin,hq1];rfl));clear iX o8 hix;go_wp2_with fail
     go_round
     case rel=>exact⟨i+1,rfl,by omega,HN.out⟩
     case measure=>simp [intOf];omega
  ·have hi2:i=s.length:=by omega
   have hq:=yj _ s i hi hall (.inl hi2);rw [hq]at HA;clear hall hq;have hlt':¬(i:Int)<s.length:=by omega
   clear hi2;generalize i=n at*
   have hex:ByteArray.extract ⟨s.toArray⟩ 0 n=⟨(s.take n).toArray⟩:=by
    have h:=eU s 0 n;rw [List.drop_zero]at h;injection h
   have hA:=HA.out;clear HA;by_cases h32:32<n
   ·rw [if_pos h32]at hA;obtain⟨⟨e0,e1,e2,e3⟩,g0,g1,g2,g3⟩:=jQ hd0;go_wp2_with fail;refine bodyPost_ret (bq rfl _ _ w.heap.size _ _ _ _ rfl (bZ hd0 _ _ _ _) Tryz.underlying154 rfl (by kernel_rfl)) rfl ?_;exact⟨by first | rfl | (rw [hA];rfl),dx hb0 _ _ _ _⟩
   ·rw [if_neg h32]at hA;generalize s.take n=x at*
    go_wp2_with fail;refine(Bo _ x).mono ?_;rintro e w2 ⟨rfl,hb2⟩;have hd2:=ah hd0 (Turn.of_below (F:=fun _=>False) hb2) id;have hB2:=La hb0 hb2;obtain⟨⟨e0,e1,e2,e3⟩,g0,g1,g2,g3⟩:=jQ hd2;by_cases hw:x∈dN
    ·rw [if_pos hw]at hA;rw [decide_eq_true hw];go_wp2_with fail;refine bodyPost_ret (bq rfl _ _ w.heap.size _ _ _ _ rfl (bZ hd2 _ _ _ _) Tryz.underlying154 rfl (by kernel_rfl)) rfl ?_;exact⟨by first | rfl | (rw [hA];rfl),dx hB2 _ _ _ _⟩
    ·rw [if_neg hw]at hA;rw [decide_eq_false hw];go_wp2_with fail;refine bodyPost_ret (bq rfl _ _ w.heap.size _ _ _ _ rfl (bZ hd2 _ _ _ _) Tryz.underlying154 rfl (by kernel_rfl)) rfl ?_;exact⟨by first | rfl | (rw [hA];rfl),dx hB2 _ _ _ _⟩
theorem Cq (w:World) (c:UInt8) (r:Bt) (hs:(c :: r).length≤281474976710656) (hl:dI c=false) (hd:bE c=true):
  Calls Tryz.prog 155 #[sv (c :: r)] w fun e w'=>e= .returned (GY (dJ (c :: r)))∧Below w.heap.size w w':=by
 obtain⟨s,hsc⟩:∃s,s=c :: r:=⟨_,rfl⟩
 have hsz:=bP s;have hl1:1≤s.length:=by rw [hsc];simp
 have Ku:(ByteArray.mk s.toArray)[0]'(by omega)=c:=by
  have:=dL s 0 (by omega);rw [this];simp [hsc]
 have hA:dJ s=if(dA (s.take (cu bE s))).2 then .inr (3,s.take (cu bE s),cu bE s)else .inl 3:=by
  rw [hsc,dJ,if_neg (by simp [hl]),if_pos hd]
 rw [←hsc]at hs ⊢;clear hsc;have HA:=hid hA;clear hA;generalize dJ s=ans at*
 have hd0:=heap_alloc_new w (.cells #[.int .i64 0,sv [], .int .i64 0, .int .i64 0] 154);have hb0:Below w.heap.size w (w.alloc (.cells #[.int .i64 0,sv [], .int .i64 0, .int .i64 0] 154)):=(Below.refl _ _).alloc (Nat.le_refl _) _;go_enter Tryz.func155,Tryz.ntmps155;go_wp2_with fail;generalize w.alloc (.cells #[.int .i64 0,sv [], .int .i64 0, .int .i64 0] 154)=w0 at*
 refine(jG c _).mono ?_;rintro e w0 ⟨rfl,rfl⟩;go_wp2_with fail;refine(jX c _).mono ?_;rintro e w0 ⟨rfl,rfl⟩;rw [hd];clear Ku;go_wp2_with fail
 go_loop [7] (fun v7=>∃i:Nat,v7= .int .i64 i∧i≤s.length∧∀j (hj:j<s.length),j<i→bE s[j]=true) (fun v7=>s.length - (intOf v7).toNat)
 case atStart=>exact⟨0,rfl,by omega,fun j hj h=>by omega⟩
 case round=>
  obtain⟨i,rfl,hi,hall⟩:=hrel;by_cases hlt:i<s.length
  ·have hix:=dL s i hlt;have hnext:bE s[i]=true→∀j (hj:j<s.length),j<i+1→bE s[j]=true:=by
    intro h j hj hji;rcases Nat.lt_or_ge j i with h1 | h1
    ·exact hall j hj h1
    ·obtain rfl:j=i:=by omega
     exact h
   have hstop:bE s[i]=false→cu bE s=i:=fun h=>yj _ s i hi hall (.inr ⟨hlt,h⟩);have iX:=hid hnext;have o8:=hid hstop;clear hall hnext hstop;generalize hX:s[i]=X at*
   clear hX;go_wp2_with fail;refine(jG X _).mono ?_;rintro e w0 ⟨rfl,rfl⟩;go_wp2_with fail;refine(jX X _).mono ?_;rintro e w0 ⟨rfl,rfl⟩;cases hq2:bE X
   ·cases hq1:dI X
    ·have hq:=o8.out hq2;rw [hq]at HA;clear iX o8 hix hq;generalize i=n at*
     have hex:ByteArray.extract ⟨s.toArray⟩ 0 n=⟨(s.take n).toArray⟩:=by
      have h:=eU s 0 n;rw [List.drop_zero]at h;injection h
     have hA:=HA.out;clear HA;have hxl:(s.take n).length≤281474976710656:=by rw [List.length_take];omega
     generalize s.take n=x at*
     have hP:=oP ⟨x.toArray⟩ w0 (by rw [bP];exact hxl);go_wp2_with fail;refine hP.mono ?_;rintro e w2 ⟨rfl,rfl⟩;simp only [show(ByteArray.mk x.toArray).data.toList=x from rfl];generalize dA x=pv at*
     obtain⟨pn,pb⟩:=pv;obtain⟨⟨e0,e1,e2,e3⟩,g0,g1,g2,g3⟩:=jQ hd0;simp only at hA ⊢;cases pb with
     | true=>
      rw [if_pos rfl]at hA;go_wp2_with fail;refine bodyPost_ret (bq rfl _ _ w.heap.size _ _ _ _ rfl (bZ hd0 _ _ _ _) Tryz.underlying154 rfl (by kernel_rfl)) rfl ?_;exact⟨by first | rfl | (rw [hA];rfl),dx hb0 _ _ _ _⟩
     | false=>
      rw [if_neg (by simp)]at hA;go_wp2_with fail;refine bodyPost_ret (bq rfl _ _ w.heap.size _ _ _ _ rfl (bZ hd0 _ _ _ _) Tryz.underlying154 rfl (by kernel_rfl)) rfl ?_;exact⟨by first | rfl | (rw [hA];rfl),dx hb0 _ _ _ _⟩
    ·have hq:=o8.out hq2;rw [hq]at HA;clear iX o8 hix hq;generalize i=n at*
     have hex:ByteArray.extract ⟨s.toArray⟩ 0 n=⟨(s.take n).toArray⟩:=by
      have h:=eU s 0 n;rw [List.drop_zero]at h;injection h
     have hA:=HA.out;clear HA;have hxl:(s.take n).length≤281474976710656:=by rw [List.length_take];omega
     generalize s.take n=x at*
     have hP:=oP ⟨x.toArray⟩ w0 (by rw [bP];exact hxl);go_wp2_with fail;refine hP.mono ?_;rintro e w2 ⟨rfl,rfl⟩;simp only [show(ByteArray.mk x.toArray).data.toList=x from rfl];generalize dA x=pv at*
     obtain⟨pn,pb⟩:=pv;obtain⟨⟨e0,e1,e2,e3⟩,g0,g1,g2,g3⟩:=jQ hd0;simp only at hA ⊢;cases pb with
     | true=>
      rw [if_pos rfl]at hA;go_wp2_with fail;refine bodyPost_ret (bq rfl _ _ w.heap.size _ _ _ _ rfl (bZ hd0 _ _ _ _) Tryz.underlying154 rfl (by kernel_rfl)) rfl ?_;exact⟨by first | rfl | (rw [hA];rfl),dx hb0 _ _ _ _⟩
     | false=>
      rw [if_neg (by simp)]at hA;go_wp2_with fail;refine bodyPost_ret (bq rfl _ _ w.heap.size _ _ _ _ rfl (bZ hd0 _ _ _ _) Tryz.underlying154 rfl (by kernel_rfl)) rfl ?_;exact⟨by first | rfl | (rw [hA];rfl),dx hb0 _ _ _ _⟩
   ·cases hq1:dI X
    ·have HN:=hid (iX.out hq2);clear iX o8 hix;go_wp2_with fail
     go_round
     case rel=>exact⟨i+1,rfl,by omega,HN.out⟩
     case measure=>simp [intOf];omega
    ·have HN:=hid (iX.out hq2);clear iX o8 hix;go_wp2_with fail
     go_round
     case rel=>exact⟨i+1,rfl,by omega,HN.out⟩
     case measure=>simp [intOf];omega
  ·have hi2:i=s.length:=by omega
   have hq:=yj _ s i hi hall (.inl hi2);rw [hq]at HA;clear hall hq;have hlt':¬(i:Int)<s.length:=by omega
   clear hi2;generalize i=n at*
   have hex:ByteArray.extract ⟨s.toArray⟩ 0 n=⟨(s.take n).toArray⟩:=by
    have h:=eU s 0 n;rw [List.drop_zero]at h;injection h
   have hA:=HA.out;clear HA;have hxl:(s.take n).length≤281474976710656:=by rw [List.length_take];omega
   generalize s.take n=x at*
   have hP:=oP ⟨x.toArray⟩ w0 (by rw [bP];exact hxl);go_wp2_with fail;refine hP.mono ?_;rintro e w2 ⟨rfl,rfl⟩;simp only [show(ByteArray.mk x.toArray).data.toList=x from rfl];generalize dA x=pv at*
   obtain⟨pn,pb⟩:=pv;obtain⟨⟨e0,e1,e2,e3⟩,g0,g1,g2,g3⟩:=jQ hd0;simp only at hA ⊢;cases pb with
   | true=>
    rw [if_pos rfl]at hA;go_wp2_with fail;refine bodyPost_ret (bq rfl _ _ w.heap.size _ _ _ _ rfl (bZ hd0 _ _ _ _) Tryz.underlying154 rfl (by kernel_rfl)) rfl ?_;exact⟨by first | rfl | (rw [hA];rfl),dx hb0 _ _ _ _⟩
   | false=>
    rw [if_neg (by simp)]at hA;go_wp2_with fail;refine bodyPost_ret (bq rfl _ _ w.heap.size _ _ _ _ rfl (bZ hd0 _ _ _ _) Tryz.underlying154 rfl (by kernel_rfl)) rfl ?_;exact⟨by first | rfl | (rw [hA];rfl),dx hb0 _ _ _ _⟩
theorem Cr (w:World) (c:UInt8) (r:Bt) (hs:(c :: r).length≤281474976710656) (hl:dI c=false) (hd:bE c=false) (vX:c.toNat=34):
  Calls Tryz.prog 155 #[sv (c :: r)] w fun e w'=>e= .returned (GY (dJ (c :: r)))∧Below w.heap.size w w':=by
 obtain⟨s,hsc⟩:∃s,s=c :: r:=⟨_,rfl⟩
 have hsz:=bP s;have hl1:1≤s.length:=by rw [hsc];simp
 have Ku:(ByteArray.mk s.toArray)[0]'(by omega)=c:=by
  have:=dL s 0 (by omega);rw [this];simp [hsc]
 have hA:dJ s=zV s:=by
  unfold zV;rw [hsc,dJ,if_neg (by simp [hl]),if_neg (by simp [hd]),if_pos vX];cases jw (c :: r)with
  | none=>rfl
  | some x=>rfl
 unfold zV at hA;have agm:((c.toNat:Int)==34)=true:=by rw [beq_iff_eq];omega
 clear vX;have ZU:∀t n,jw s=some (t,n)→0<n:=by
  intro t n h;unfold jw at h;have:=(nu h).1;simp only at this;omega
 rw [←hsc]at hs ⊢;clear hsc;have HQ:=hid (EB (w.alloc (.cells #[.int .i64 0,sv [], .int .i64 0, .int .i64 0] 154)) s hs hl1);generalize jw s=q at*
 generalize dJ s=ans at*
 have hd0:=heap_alloc_new w (.cells #[.int .i64 0,sv [], .int .i64 0, .int .i64 0] 154);have hb0:Below w.heap.size w (w.alloc (.cells #[.int .i64 0,sv [], .int .i64 0, .int .i64 0] 154)):=(Below.refl _ _).alloc (Nat.le_refl _) _;go_enter Tryz.func155,Tryz.ntmps155;go_wp2_with fail;generalize w.alloc (.cells #[.int .i64 0,sv [], .int .i64 0, .int .i64 0] 154)=w0 at*
 refine(jG c _).mono ?_;rintro e w0 ⟨rfl,rfl⟩;go_wp2_with fail;refine(jX c _).mono ?_;rintro e w0 ⟨rfl,rfl⟩;rw [hd];go_wp2_with fail;refine HQ.out.mono ?_;rintro e w2 ⟨rfl,rfl⟩;clear HQ;obtain⟨⟨e0,e1,e2,e3⟩,g0,g1,g2,g3⟩:=jQ hd0;rcases q with _ | ⟨t,n⟩
 ·simp only at hA;unfold qg;go_wp2_with fail;refine bodyPost_ret (bq rfl _ _ w.heap.size _ _ _ _ rfl (bZ hd0 _ _ _ _) Tryz.underlying154 rfl (by kernel_rfl)) rfl ?_;exact⟨by first | rfl | (rw [hA];rfl),dx hb0 _ _ _ _⟩
 ·simp only at hA;have hn:=ZU t n rfl;have hn0:¬(n:Int)=0:=by omega
  have hst:=bP t;clear ZU;unfold qg;by_cases Lv:256<t.length
  ·rw [if_pos Lv]at hA;go_wp2_with fail;refine bodyPost_ret (bq rfl _ _ w.heap.size _ _ _ _ rfl (bZ hd0 _ _ _ _) Tryz.underlying154 rfl (by kernel_rfl)) rfl ?_;exact⟨by first | rfl | (rw [hA];rfl),dx hb0 _ _ _ _⟩
  ·rw [if_neg Lv]at hA;go_wp2_with fail;refine bodyPost_ret (bq rfl _ _ w.heap.size _ _ _ _ rfl (bZ hd0 _ _ _ _) Tryz.underlying154 rfl (by kernel_rfl)) rfl ?_;exact⟨by first | rfl | (rw [hA];rfl),dx hb0 _ _ _ _⟩
theorem EC (w:World) (c:UInt8) (r:Bt) (hs:(c :: r).length≤281474976710656) (hl:dI c=false) (hd:bE c=false) (vX:¬c.toNat=34):
  Calls Tryz.prog 155 #[sv (c :: r)] w fun e w'=>e= .returned (GY (dJ (c :: r)))∧Below w.heap.size w w':=by
 obtain⟨s,hsc⟩:∃s,s=c :: r:=⟨_,rfl⟩
 have hsz:=bP s;have hl1:1≤s.length:=by rw [hsc];simp
 have Ku:(ByteArray.mk s.toArray)[0]'(by omega)=c:=by
  have:=dL s 0 (by omega);rw [this];simp [hsc]
 have hA:dJ s=if mP c s=0 then .inl 5 else .inr (5,s.take (mP c s),mP c s):=by
  rw [hsc,dJ,if_neg (by simp [hl]),if_neg (by simp [hd]),if_neg vX];by_cases hp:(c :: r).take 2∈bN
  ·rw [if_pos hp,EA hp,if_neg (by omega)]
  ·rw [if_neg hp];by_cases h1:c∈dO
   ·rw [if_pos h1,sign_one hp h1,if_neg (by omega)];rfl
   ·rw [if_neg h1,Br hp h1,if_pos rfl]
 have HG:=hid (Kt (w.alloc (.cells #[.int .i64 0,sv [], .int .i64 0, .int .i64 0] 154)) c r hs);have hgl:mP c s≤s.length:=by
  unfold mP;split
  ·rename_i h
   have:=uX _ h;rw [List.length_take]at this;omega
  ·split
   ·exact hl1
   ·omega
 rw [←hsc]at hs HG ⊢;clear hsc;generalize mP c s=n at*
 generalize dJ s=ans at*
 have hd0:=heap_alloc_new w (.cells #[.int .i64 0,sv [], .int .i64 0, .int .i64 0] 154);have hb0:Below w.heap.size w (w.alloc (.cells #[.int .i64 0,sv [], .int .i64 0, .int .i64 0] 154)):=(Below.refl _ _).alloc (Nat.le_refl _) _;go_enter Tryz.func155,Tryz.ntmps155;go_wp2_with fail;generalize w.alloc (.cells #[.int .i64 0,sv [], .int .i64 0, .int .i64 0] 154)=w0 at*
 refine(jG c _).mono ?_;rintro e w0 ⟨rfl,rfl⟩;go_wp2_with fail;refine(jX c _).mono ?_;rintro e w0 ⟨rfl,rfl⟩;rw [hd];go_wp2_with fail;refine HG.out.mono ?_;rintro e w2 ⟨rfl,hb2⟩;clear HG;have hd2:=ah hd0 (Turn.of_below (F:=fun _=>False) hb2) id;have hB2:=La hb0 hb2;obtain⟨⟨e0,e1,e2,e3⟩,g0,g1,g2,g3⟩:=jQ hd2;have hex:ByteArray.extract ⟨s.toArray⟩ 0 n=⟨(s.take n).toArray⟩:=by
  have h:=eU s 0 n;rw [List.drop_zero]at h;injection h
 by_cases h0:n=0
 ·subst h0;rw [if_pos rfl]at hA;go_wp2_with fail;refine bodyPost_ret (bq rfl _ _ w.heap.size _ _ _ _ rfl (bZ hd2 _ _ _ _) Tryz.underlying154 rfl (by kernel_rfl)) rfl ?_;exact⟨by first | rfl | (rw [hA];rfl),dx hB2 _ _ _ _⟩
 ·rw [if_neg h0]at hA;have hn0:¬(n:Int)=0:=by omega
  go_wp2_with fail;refine bodyPost_ret (bq rfl _ _ w.heap.size _ _ _ _ rfl (bZ hd2 _ _ _ _) Tryz.underlying154 rfl (by kernel_rfl)) rfl ?_;exact⟨by first | rfl | (rw [hA];rfl),dx hB2 _ _ _ _⟩
theorem GZ (w:World) (s:Bt) (hs:s.length≤281474976710656) (h1:1≤s.length):
  Calls Tryz.prog 155 #[sv s] w fun e w'=>e= .returned (GY (dJ s))∧Below w.heap.size w w':=by
 cases s with
 | nil=>simp at h1
 | cons c r=>
  cases hl:dI c with
  | true=>exact Aj w c r hs hl
  | false=>
   cases hd:bE c with
   | true=>exact Cq w c r hs hl hd
   | false=>
    by_cases vX:c.toNat=34
    ·exact Cr w c r hs hl hd vX
    ·exact EC w c r hs hl hd vX
theorem vQ {w:World} {b:Nat} (h:w.heap[b]? =some (.cells #[.int .i64 0, .int .i64 0, .int .i64 0, .int .i64 0] 45 (0,0))):
  (w.cell? ⟨b,0,none⟩=some (.int .i64 0)∧w.cell? ⟨b,1,none⟩=some (.int .i64 0)∧w.cell? ⟨b,2,none⟩=some (.int .i64 0)∧w.cell? ⟨b,3,none⟩=some (.int .i64 0))∧
  (w.frozen? ⟨b,0,none⟩=false∧w.frozen? ⟨b,1,none⟩=false∧w.frozen? ⟨b,2,none⟩=false∧w.frozen? ⟨b,3,none⟩=false):=
 ⟨⟨(cell_of_row _ _ _ _ _ (0,0) h).trans rfl,(cell_of_row _ _ _ _ _ (0,0) h).trans rfl,(cell_of_row _ _ _ _ _ (0,0) h).trans rfl,(cell_of_row _ _ _ _ _ (0,0) h).trans rfl⟩,bg h 0,bg h 1,bg h 2,bg h 3⟩
theorem uO {s:Bt} (a:Nat):ByteArray.extract ⟨s.toArray⟩ a s.length=⟨(s.drop a).toArray⟩:=by
 have h:=eU s a s.length;rw [List.take_length]at h;injection h
structure Sk (s:Bt) (ans:List aD ×(Nat ×Nat ×Int)) (w0 wr:World) (f a:Nat) (p:Nat ×Nat) (out:List aD) (v:Value):Prop where
 row:wr.ownsRow w0.heap.size 154 4 v out.length (bU out)
 le:a≤s.length
 fuel:s.length - a<f
 eq:kH f (s.drop a) p out=ans
 b1:p.1≤1+a
 b2:p.2≤1+a
 b3:1≤p.2
 JR:out.length≤8192
 Vw:Below w0.heap.size w0 wr
theorem Ni (w:World) (s:Bt):Calls Tryz.prog 93 #[sv s] w fun e w'=>Ij (eZ s) w e w':=by
 have hsz:=bP s;by_cases hlong:65536<s.length
 ·have ha:eZ s=([],(1,1,2)):=by unfold eZ;rw [if_pos hlong]
  rw [ha];go_enter Tryz.func93,Tryz.ntmps93;go_wp2_with fail;refine bodyPost_ret (dW rfl _ _ w.heap.size _ _ _ _ rfl (heap_alloc_new w _) Tryz.underlying45 rfl (by kernel_rfl)) rfl ?_;exact⟨_,0,rfl,World.ownsRow_nil _ _ _ _,(Below.refl _ _).alloc (Nat.le_refl _) _⟩
 ·have ha:eZ s=kH (s.length+1) s (1,1) []:=by unfold eZ;rw [if_neg hlong]
  rw [ha];clear ha;generalize oD:kH (s.length+1) s (1,1) []=ans;have abW:=hid oD;clear oD;have hd0:=heap_alloc_new w (.cells #[.int .i64 0, .int .i64 0, .int .i64 0, .int .i64 0] 45);have hb0:Below w.heap.size w (w.alloc (.cells #[.int .i64 0, .int .i64 0, .int .i64 0, .int .i64 0] 45)):=(Below.refl _ _).alloc (Nat.le_refl _) _;have hs0:(w.alloc (.cells #[.int .i64 0, .int .i64 0, .int .i64 0, .int .i64 0] 45)).heap.size=w.heap.size+1:=by simp
  go_enter Tryz.func93,Tryz.ntmps93;go_wp2_with fail;generalize w.alloc (.cells #[.int .i64 0, .int .i64 0, .int .i64 0, .int .i64 0] 45)=w0 at*
  have HD0:=hid hd0;clear hd0;go_loopw [4,5,6,7,8,9,10,11,12] (fun v4 v5 v6 v7 v8 v9 v10 v11 v12 wr=>∃(f a:Nat) (p:Nat ×Nat) (out:List aD),v5= .int .i64 p.1∧v6= .int .i64 p.2∧v7= .int .i64 a∧Sk s ans w0 wr f a p out v4) (fun _ _ _ v7 _ _ _ _ _ _=>s.length+1 - (intOf v7).toNat)
  case atStart=>exact⟨s.length+1,0,(1,1),[],rfl,rfl,rfl,⟨World.ownsRow_nil _ _ _ _,by omega,by omega,abW.out,by omega,by omega,by omega,by simp,Below.refl _ _⟩⟩
  case round=>
   obtain⟨f,a,p,out,rfl,rfl,rfl,hR⟩:=hrel;obtain⟨f',rfl⟩:∃f',f=f'+1:=⟨f - 1,by have:=hR.fuel;omega⟩
   obtain⟨hrow,hle,hfuel,heq,hb1,hb2,hb3,aeu,hbel⟩:=hR;rw [kH]at heq;obtain⟨x,hx⟩:∃x,x=s.drop a:=⟨_,rfl⟩
   have hxl:x.length=s.length - a:=by rw [hx,List.length_drop]
   have hsk:bC x≤x.length:=sZ false x;have abX:ByteArray.extract ⟨s.toArray⟩ a s.length=⟨x.toArray⟩:=by rw [uO,hx]
   have hget:∀i (h1:a≤i) (h2:i<s.length),s[i]=x[i - a]'(by omega):=by
    intro i h1 h2;subst hx;rw [List.getElem_drop];congr 1;omega
   have hy:x.drop (bC x)=s.drop (a+bC x):=by rw [hx,List.drop_drop]
   rw [←hx]at heq;have HX:=hid hx;clear hx;obtain⟨A,c,rfl,hoc⟩:=GX hrow;unfold maxLen at hoc;have dV:=hid hrow;have VJ:=hid heq;have UY:=hid hget;have HY:=hid hy;clear hrow heq hget hy;go_wp2_with fail;refine(GV _ x (by omega)).mono ?_;rintro e wr ⟨rfl,rfl⟩;generalize hm:bC x=m at*
   clear hm;clear abX;obtain⟨q,hq⟩:∃q,q=eP p (x.take m):=⟨_,rfl⟩
   have VK:=kg (x.take m) hb3;rw [←hq]at VK;have HQ:=hid hq;clear hq;rw [List.length_take,Nat.min_eq_left hsk]at VK;go_wp2_with fail
   go_loop [5,6,9] (fun v5 v6 v9=>∃i:Nat,v9= .int .i64 i∧a≤i∧i≤a+m∧v5= .int .i64 (eP p (x.take (i - a))).1∧v6= .int .i64 (eP p (x.take (i - a))).2) (fun _ _ v9=>a+m - (intOf v9).toNat)
   case atStart=>exact⟨a,rfl,by omega,by omega,by rw [Nat.sub_self];rfl,by rw [Nat.sub_self];rfl⟩
   case round=>
    obtain⟨i,rfl,hi1,hi2,rfl,rfl⟩:=hrel;by_cases hlt:i<a+m
    ·have hix:=dL s i (by omega);rw [UY.out i hi1 (by omega)]at hix;have hstep:=AB (p:=p) (s:=x) (k:=i - a) (by omega);rw [show i - a+1=i+1 - a by omega]at hstep;have hbd:=kg (x.take (i - a)) hb3;rw [List.length_take,Nat.min_eq_left (by omega)]at hbd;generalize x[i - a]=X at*
     generalize eP p (x.take (i - a))=r at*
     obtain⟨r1,r2⟩:=r;simp only at hbd ⊢;unfold mV at hstep;by_cases h10:X.toNat=10
     ·rw [if_pos h10]at hstep
      have key:∃Nj:Nat,Value.int .i64 ((i+1:Nat):Int)= .int .i64 Nj∧a≤Nj∧Nj≤a+m∧Value.int .i64 ((r1+1:Nat):Int)= .int .i64 (eP p (x.take (Nj - a))).1∧Value.int .i64 ((1:Nat):Int)= .int .i64 (eP p (x.take (Nj - a))).2:=
       ⟨i+1,rfl,by omega,by omega,by rw [hstep],by rw [hstep]⟩
      have KEY:=hid key;clear key hstep;go_wp2_with fail
      go_round
      case rel=>exact KEY.out
      case measure=>simp [intOf];omega
     ·rw [if_neg h10]at hstep
      have key:∃Nj:Nat,Value.int .i64 ((i+1:Nat):Int)= .int .i64 Nj∧a≤Nj∧Nj≤a+m∧Value.int .i64 r1= .int .i64 (eP p (x.take (Nj - a))).1∧Value.int .i64 ((r2+1:Nat):Int)= .int .i64 (eP p (x.take (Nj - a))).2:=
       ⟨i+1,rfl,by omega,by omega,by rw [hstep],by rw [hstep]⟩
      have KEY:=hid key;clear key hstep;go_wp2_with fail
      go_round
      case rel=>exact KEY.out
      case measure=>simp [intOf];omega
    ·have him:i=a+m:=by omega
     have hia:i - a=m:=by omega
     rw [hia, ←HQ.out];have hlt2:¬(i:Int)<(a:Int)+m:=by omega
     clear hia him hi1 hi2 hlt;obtain⟨q1,q2⟩:=q;simp only at VK ⊢;have heq:=VJ.out;have hhq:=HQ.out;rw [←hhq,HY.out]at heq;simp only at heq;have Nk:=hid heq;have jO:=hid hhq;clear heq hhq VJ HQ;have UZ:=hid hbel;obtain⟨at_,hat⟩:∃b:Nat,b=a+m:=⟨_,rfl⟩
     have hyl:(s.drop at_).length=s.length - at_:=by rw [List.length_drop]
     have U0:ByteArray.extract ⟨s.toArray⟩ at_ s.length=⟨(s.drop at_).toArray⟩:=uO at_;rw [←hat]at Nk;by_cases hend:at_=s.length
     ·have hae:(s.length:Int)≤(a:Int)+m:=by omega
      have hr:=Nk.out;have hnil:s.drop at_=[]:=by rw [hend,List.drop_length]
      rw [hnil,if_pos rfl]at hr;have HR:=hid hr;have vw:Sl (wr.alloc (.cells #[.int .i64 0,sv [], .int .i64 q1, .int .i64 q2] 154)) (wr.heap.size+1) 4 (.slice (some ⟨wr.heap.size,0,none⟩) 1 1) (jV ⟨0,[],q1,q2⟩):=fU wr _ _ 4 1 rfl (by decide);have eT:=dV.out.alloc (.cells #[.int .i64 0,sv [], .int .i64 q1, .int .i64 q2] 154);have h63:out.length*4+(jV ⟨0,[],q1,q2⟩).length≤maxLen:=by show out.length*4+4≤maxLen;unfold maxLen;omega
      have hbytes:(out.length*4+(jV ⟨0,[],q1,q2⟩).length)*40≤140737488355328:=by show(out.length*4+4)*40≤ _;omega
      have BS:=UZ.out.alloc UZ.out.size (.cells #[.int .i64 0,sv [], .int .i64 q1, .int .i64 q2] 154);clear hr hnil U0 hyl Nk UY HY HX;go_wp2_with (at_builtin;refine gq rfl (.tmp 44) (.tmp 48) _ rfl w0.heap.size yO _ _ rfl rfl eT vw (tZ ⟨0,[],q1,q2⟩) h63 hbytes (iA hbel.size _) (fun v' w9 n' eY qj jL=> ?_);have xq:=below_app BS eT qj (Nat.le_refl _) (iA hbel.size _);have hd9:=ah HD0.out (Turn.of_below (F:=fun _=>False) xq) id;obtain⟨⟨e0,e1,e2,e3⟩,g0,g1,g2,g3⟩:=vQ hd9;clear qj jL eT vw);refine bodyPost_ret (dW rfl _ _ w.heap.size _ _ _ _ rfl (bZ hd9 _ _ _ _) Tryz.underlying45 rfl (by kernel_rfl)) rfl ?_;have hr:=HR.out;have t9:=nG w9 w.heap.size (.int .i64 0) (.int .i64 0) (.int .i64 0) (.int .i64 0);have U1:=dK eY t9 (fun g hg h=>by have:=(eY.lt g hg).1;omega);have hfin:=dx (hb0.trans (xq.mono (by omega))) (.int .i64 0) (.int .i64 0) (.int .i64 0) (.int .i64 0);rw [←hr];refine⟨v',n',rfl, ?_,hfin⟩;simp only [j5];exact K9 U1 (by omega)
     ·have hae:¬(s.length:Int)≤(a:Int)+m:=by omega
      have hne:s.drop at_≠[]:=by intro h;rw [h]at hyl;simp at hyl;omega
      have hr:=Nk.out;rw [if_neg hne]at hr;have HR:=hid hr;have Yq:1≤(s.drop at_).length:=by omega
      have Yr:∀kd t n,dJ (s.drop at_)= .inr (kd,t,n)→1≤n∧n≤s.length - at_∧eP (q1,q2) ((s.drop at_).take n)=(q1,q2+n):=by
       intro kd t n h;have h1:=tq h;refine⟨h1.1,by rw [hyl]at h1;exact h1.2, ?_⟩;rw [Ey _ (Co h),List.length_take,Nat.min_eq_left h1.2]
      have I9:∀e,dJ (s.drop at_)= .inl e→e≠0:=fun e h=>qG h;have Qw:=hid Yr;have VL:∀n,(s.drop at_).drop n=s.drop (at_+n):=fun n=>by rw [List.drop_drop]
      have HDR:=hid VL;have hcast:((at_:Nat):Int)=(a:Int)+m:=by omega
      clear hr hne Nk UY HY HX Yr VL;generalize s.drop at_=y at*
      rw [hat]at U0;have hT:=GZ wr y (by omega) Yq;have HT:=hid hT;clear hT Yq hyl;go_wp2_with fail;refine HT.out.mono ?_;rintro e w5 ⟨rfl,hb5⟩;clear HT U0;have xP:=UZ.out.trans (hb5.mono hbel.size);have Nl:=own_below dV.out hb5;have hd5:=ah HD0.out (Turn.of_below (F:=fun _=>False) xP) id;clear dV hb5;cases hn:dJ y with
      | inl e=>
       have hr:=HR.out;rw [hn]at hr;simp only at hr;have HR2:=hid hr;have he:=I9 e hn;have heb:(e==0)=false:=by rw [beq_eq_false_iff_ne];exact he
       have Sm:=xP.alloc xP.size (.cells #[.int .i64 0,sv [], .int .i64 0, .int .i64 0] 154);have hd6:=ah HD0.out (Turn.of_below (F:=fun _=>False) Sm) id;obtain⟨⟨e0,e1,e2,e3⟩,g0,g1,g2,g3⟩:=vQ hd6;unfold GY;simp only [];clear hr HR Qw I9 hn Nl hd5 HDR;go_wp2_with fail;refine bodyPost_ret (dW rfl _ _ w.heap.size _ _ _ _ rfl (bZ hd6 _ _ _ _) Tryz.underlying45 rfl (by kernel_rfl)) rfl ?_;rw [←HR2.out];exact⟨_,0,rfl,World.ownsRow_nil _ _ _ _,dx (hb0.trans (Sm.mono (by omega))) _ _ _ _⟩
      | inr xx=>
       obtain⟨kd,t,n⟩:=xx;have hr:=HR.out;rw [hn]at hr;simp only at hr;obtain⟨n1,n2,n3⟩:=Qw.out kd t n hn;unfold GY;simp only [];by_cases h8:out.length=8192
       ·rw [if_pos h8]at hr;have HR2:=hid hr;have h8b:((out.length:Int)==8192)=true:=by rw [beq_iff_eq];omega
        have Sm:=xP.alloc xP.size (.cells #[.int .i64 kd,sv t, .int .i64 0, .int .i64 0] 154);have hd6:=ah HD0.out (Turn.of_below (F:=fun _=>False) Sm) id;obtain⟨⟨e0,e1,e2,e3⟩,g0,g1,g2,g3⟩:=vQ hd6;clear hr HR Qw I9 hn Nl hd5 HDR n3 h8;go_wp2_with fail;refine bodyPost_ret (dW rfl _ _ w.heap.size _ _ _ _ rfl (bZ hd6 _ _ _ _) Tryz.underlying45 rfl (by kernel_rfl)) rfl ?_;rw [←HR2.out];exact⟨_,0,rfl,World.ownsRow_nil _ _ _ _,dx (hb0.trans (Sm.mono (by omega))) _ _ _ _⟩
       ·rw [if_neg h8,n3,HDR.out]at hr;have h8b:((out.length:Int)==8192)=false:=by rw [beq_eq_false_iff_ne];omega
        have Sm:=xP.alloc xP.size (.cells #[.int .i64 kd,sv t, .int .i64 q1, .int .i64 q2] 154);have hB7:=Sm.alloc Sm.size (.cells #[.int .i64 kd,sv t, .int .i64 q1, .int .i64 q2] 154);have eT:=(Nl.alloc (.cells #[.int .i64 kd,sv t, .int .i64 q1, .int .i64 q2] 154)).alloc (.cells #[.int .i64 kd,sv t, .int .i64 q1, .int .i64 q2] 154);have vw:Sl ((w5.alloc (.cells #[.int .i64 kd,sv t, .int .i64 q1, .int .i64 q2] 154)).alloc (.cells #[.int .i64 kd,sv t, .int .i64 q1, .int .i64 q2] 154)) ((w5.alloc (.cells #[.int .i64 kd,sv t, .int .i64 q1, .int .i64 q2] 154)).heap.size+1) 4 (.slice (some ⟨(w5.alloc (.cells #[.int .i64 kd,sv t, .int .i64 q1, .int .i64 q2] 154)).heap.size,0,none⟩) 1 1) (jV ⟨kd,t,q1,q2⟩):=fU _ _ _ 4 1 rfl (by decide);have s6:(w5.alloc (.cells #[.int .i64 kd,sv t, .int .i64 q1, .int .i64 q2] 154)).heap.size=w5.heap.size+1:=by simp
        rw [s6]at vw;have h63:out.length*4+(jV ⟨kd,t,q1,q2⟩).length≤maxLen:=by show out.length*4+4≤maxLen;unfold maxLen;omega
        have hbytes:(out.length*4+(jV ⟨kd,t,q1,q2⟩).length)*40≤140737488355328:=by show(out.length*4+4)*40≤ _;omega
        have key:∀v' w9 n',w9.ownsRow w0.heap.size 154 4 v' n' (bU out++jV ⟨kd,t,q1,q2⟩)→Below w0.heap.size w0 w9→Sk s ans w0 w9 f' (at_+n) (q1,q2+n) (out++[⟨kd,t,q1,q2⟩]) v':=by
         intro v' w9 n' h1 h2;have h3:n'=(out++[(⟨kd,t,q1,q2⟩:aD)]).length:=by
          have h4:=h1.1;rw [List.length_append,jo]at h4;have h5:(jV ⟨kd,t,q1,q2⟩).length=4:=rfl;rw [List.length_append,List.length_singleton];omega
         subst h3;rw [←j5]at h1;exact⟨h1,by omega,by omega,hr,by simp only;omega,by simp only;omega,by simp only;omega,by simp;omega,h2⟩
        have KEY:=hid key;have hcm:(a:Int)+m+n=((at_+n:Nat):Int):=by omega
        have HCM:=hid hcm;have hw1:IntKind.i64.wrap ((a:Int)+m+n)=(a:Int)+m+n:=by rw [Dm];exact Aw (by unfold In64;omega)
        have hw2:IntKind.i64.wrap ((q2:Int)+n)=(q2:Int)+n:=by rw [Dm];exact Aw (by unfold In64;omega)
        clear hcm;clear hr HR Qw I9 hn hd5 HDR n3 h8 key;go_wp2_with (at_builtin;refine gq rfl (.tmp 76) (.tmp 78) _ rfl w0.heap.size yO _ _ rfl rfl eT vw (tZ ⟨kd,t,q1,q2⟩) h63 hbytes hB7.size (fun v' w9 n' eY qj jL=> ?_);have xq:=below_app hB7 eT qj (Nat.le_refl _) hB7.size;have hK:=hid (KEY.out v' w9 n' eY xq);clear qj jL eT vw eY);go_wp2_with fail
        go_roundw
        case rel=>exact⟨f',at_+n,(q1,q2+n), _,rfl,rfl,by rw [←HCM.out],hK.out⟩
        case measure=>simp [intOf];omega
def Ct (pb ib base bp:Nat) (s0:Bt) (t:aD) (w:World) (l:List Bt):Prop:=
 w.heap[pb]? =some (.cells #[.pointer (some ⟨bp,0,none⟩)] 91 (0,0))∧∃v,w.heap[ib]? =some (.cells #[sv s0,v, .int .i64 t.line, .int .i64 t.col] 85 (0,0))∧gI w base 9 v l
theorem Ct.turn {pb ib base bp:Nat} {s0:Bt} {t:aD} {w w':World} {l:List Bt} {G:Nat→Prop} (h:Ct pb ib base bp s0 t w l) (tn:Turn G w w') (h1:¬G pb) (h2:¬G ib) (h3:∀j,base≤j→j<w.heap.size→¬G j):Ct pb ib base bp s0 t w' l:=by
 obtain⟨hb,v,hn,hr⟩:=h;exact⟨ah hb tn h1,v,ah hn tn h2,hr.turn tn (fun g hg=>h3 g (hr.lt g hg).1 (hr.lt g hg).2)⟩
theorem rD (d:Int) (w:World) (bp B pb ib base:Nat) (s0:Bt) (t:aD) (ts:List aD) (l:List Bt) (hl:l.length≤8193) (h:bK w bp B ts d) (hI:Ct pb ib base bp s0 t w l) (p1:bp<pb) (p2:bp<ib) (p3:pb<base) (p4:ib<base) (p5:pb≠ib) (p6:base≤w.heap.size):
  Calls Tryz.prog 152 #[.pointer (some ⟨ib,0,none⟩), .pointer (some ⟨pb,0,none⟩)] w (dM (Ct pb ib base bp s0 t) (fun k=>k=bp∨k=ib∨base≤k) bp B d w (nJ nameP l ts)):=by
 have hlt:=h.lt;obtain⟨Q,hQ⟩:∃Q,nJ nameP l ts=Q:=⟨_,rfl⟩
 rw [hQ];have HQ:Hid (aj nameP (fun x=>aG (l++[x])) ts=Q):=hid hQ;have HN:=hid (fH w.drew bp B ts d h);obtain⟨Gx,vk,hblk,hrow⟩:=hI;obtain⟨A1,c1,rfl,hn1,hm1⟩:=hrow.ss.open_;have hbx:=bQ Gx;obtain⟨t0,t1,t2,t3,tz⟩:=aP hblk;have Ki:=hid Gx;have oM:=hid hblk;have ab0:=hid hrow;have sJ:=hid hrow.lt;have P0:=hid (fun(w':World) (h:Turn (fun j=>j=bp∨base≤j) w w')=>aH hbx h (by omega));have P2:=hid (fun(w':World) (h:Turn (fun j=>j=bp∨base≤j) w w')=>aH t1 h (by omega));have HD0:Hid (Turn (fun j=>j=bp∨base≤j) w w.drew):=hid ⟨rfl,rfl,rfl,Nat.le_refl _,fun _ _ _=>rfl⟩;have jW:Hid (Turn (fun j=>j=bp) w w.drew):=hid ⟨rfl,rfl,rfl,Nat.le_refl _,fun _ _ _=>rfl⟩;clear h hQ Gx hblk hrow hbx t0 t1 t2 t3 tz hm1;go_enter Tryz.func152,Tryz.ntmps152;go_wp2_with fail;refine bO (S:=fun w'=>Turn (fun j=>j=bp∨base≤j) w w') (x:=9) (by kernel_rfl) ?_
 try simp only [Act.put,sq]
 refine tx 0 (.pointer (some ⟨ib,1,none⟩)) HD0.out ?_;refine jq 1 (.slice A1 l.length c1) P2.out HD0.out ?_;refine jq 2 (.pointer (some ⟨bp,0,none⟩)) P0.out HD0.out ?_;refine tx 3 (.pointer (some ⟨bp,0,none⟩)) HD0.out ?_;refine tx 4 (.pointer (some ⟨bp,0,none⟩)) HD0.out ?_;refine ay (rs:=[5]) (by kernel_rfl) (by simp) ?_;refine av.cons rfl (fun K hK=> ?_) (av.nil);go_simp;refine(HN.out).mono ?_;rintro e w2 h2;rcases hq:nameP ts with g | ⟨s,r⟩
 ·obtain⟨rfl,t2,b2⟩:=h2.bM hq;exact⟨rfl,dM.fail (HQ.out.symm.trans (aB hq)) (((jW.out.trans t2 (fun _ _ h=>h)).mono (G:=fun k=>k=bp∨k=ib∨base≤k) (fun _ _ h=> .inl h))) b2⟩
 ·obtain⟨v,rfl,Ra,rfl,k2⟩:=h2.aL hq;have uo:=jW.out.trans Ra (fun _ _ h=>h);have HT2:=hid (uo.mono (G:=fun j=>j=bp∨base≤j) (fun _ _ h=> .inl h));have iR:=hid k2;have hs2:=uo.size;have dV:=hid ((ab0.out.turn uo (fun g hg e=>by have:=(sJ.out g hg).1;omega)).alloc (.cells #[sv s] 9));have Yt:=hid (bG (o':= .cells #[sv s] 9) (ah oM.out uo (by omega)));have Yu:=hid (bG (o':= .cells #[sv s] 9) (ah Ki.out uo (by omega)));have lq:Hid (Pr.good (l++[s]) r=Q):=hid ((au hq).symm.trans HQ.out);clear h2 Ra k2 hq uo;refine hK.out _ _ HT2.out ?_;clear hK K
  try simp only [Act.put,sq]
  refine ay (rs:=[6]) (by kernel_rfl) (by simp) ?_;refine av.cons rfl (fun K hK=> ?_) (av.nil);go_simp;have HT3:=hid (HT2.out.trans (Turn.alloc (fun j=>j=bp∨base≤j) w2 (.cells #[sv s] 9)) (fun _ _ h=>h));refine hK.out _ _ HT3.out ?_;clear hK K
  try simp only [Act.put,sq]
  refine ay (rs:=[7]) (by kernel_rfl) (by simp) ?_;refine av.cons rfl (fun K hK=> ?_) (av.nil);have DL:=hid (rP w2 s 9);have hlen:(lG l).length=l.length:=by simp [lG]
  refine fq rfl (.tmp 3) (.tmp 8) _ rfl base rX (.slice A1 l.length c1) (.slice (some ⟨w2.heap.size,0,none⟩) 1 1) rfl rfl dV.out.row DL.out (tC _) (by simp [lG,maxLen];omega) (by simp [lG];omega) (by simp;omega) (fun v7 w7 n7 aN iC fO=> ?_);obtain⟨A7,c7,rfl, _, _⟩:=iy aN;have tg:=Turn.bA iC (F:=fun j=>base≤j) (fun k e=>(sJ.out k e).1);have jg:=hid (HT3.out.trans (tg.mono (G:=fun j=>j=bp∨base≤j) (fun _ _ h=> .inr h)) (fun _ _ h=>h));have iQ:=ah Yt.out tg (by omega);have Yv:=hid (ah Yu.out tg (by omega));have kP:=hid ((iR.out.below (new1 _ _)).turn tg (by omega) (fun k hk e=>by have:=iR.out.1;omega));have t7:w7.cell? ⟨ib,1,none⟩=some (.slice A1 l.length c1):=(cell_of_row _ _ _ _ _ _ iQ).trans rfl;have z7:∀i,w7.frozen? ⟨ib,i,none⟩=false:=fun i=>frozen_of_row _ _ _ _ _ iQ;have zY:=hid iQ;have HN7:Hid (gI w7 base 9 (.slice A7 n7 c7) (l++[s])):=hid ⟨n7,by rw [lQ];exact aN⟩;clear aN iC fO hlen tg iQ;refine hK.out _ _ jg.out ?_;clear hK K
  try simp only [Act.put,sq]
  refine tx 8 (.pointer (some ⟨ib,1,none⟩)) jg.out ?_;refine ay (rs:=[9]) (by kernel_rfl) (by simp) ?_;refine av.past rfl (by kernel_rfl) (fun K hK=> ?_) (av.nil);go_simp;refine hK.out _ _ ?_;clear hK K
  try simp only [Act.put,sq]
  refine aM (by kernel_rfl) ?_ _;have tl:=ak w7 ib 1 (.slice A7 n7 c7);go_end0;exact dM.done lq.out.symm ((jg.out.mono (G:=fun k=>k=bp∨k=ib∨base≤k) (fun _ _ h=>by rcases h with h | h;exact .inl h;exact .inr (.inr h))).trans tl (fun i hi e=> .inr (.inl e))) ⟨ah Yv.out tl p5, _,heap_setCell_same _ _ 1 _ _ _ zY.out,HN7.out.turn tl (fun g hg e=>by have:=(HN7.out.lt g hg).1;omega)⟩ (kP.out.turn tl (by omega) (fun k hk e=>by have:=kP.out.1;omega))
def ab1 (base:Nat) (w:World) (v:Value) (i:rU):Prop:=∃z:List Value,v= .agg z.toArray∧Ev w (fun j=>base≤j) z i
theorem zu {bp a:Nat} {w w1:World} {v0 v1 v2 v3:Value} (h:Turn (fun k=>k=bp) w w1) (ha:w.heap.size≤a):Turn (fun k=>k=bp) w (dh w1 a v0 v1 v2 v3):=h.trans (bW w1 a v0 v1 v2 v3) (fun i hi e=>by omega)
theorem Cu (w:World) (bp B:Nat) (ts:List aD) (h:bK w bp B ts 0) (t:aD):Calls Tryz.prog 91 #[.pointer (some ⟨bp,0,none⟩),oG t] w (aF (ab1 w.heap.size) bp B 0 w (kY t ts)):=by
 unfold oG;have hlt:=h.lt;have hB:=h.1;obtain⟨Q,hQ⟩:∃Q,kY t ts=Q:=⟨_,rfl⟩
 rw [hQ];have HQ:Hid (aj nameP (fun s=>aj (aI [58]) fun _=>aj (iB nameP) fun l=>aj (aI [59]) fun _=>aG (⟨s,l,t.line,t.col⟩:rU)) ts=Q):=hid hQ;obtain⟨W0,hW0⟩:∃W0,(((w.alloc (.cells #[.pointer (some ⟨bp,0,none⟩)] 91)).alloc (.cells #[.int .i64 t.kind,sv t.text, .int .i64 t.line, .int .i64 t.col] 154)).alloc (.cells #[.string ⟨#[]⟩, .slice none 0 0, .int .i64 0, .int .i64 0] 85))=W0:=⟨_,rfl⟩
 obtain⟨tw,hs0,hb0,Nn,U2⟩:=vC (G:=fun _=>False) (Turn.refl _ (((w.alloc (.cells #[.pointer (some ⟨bp,0,none⟩)] 91)).alloc (.cells #[.int .i64 t.kind,sv t.text, .int .i64 t.line, .int .i64 t.col] 154)).alloc (.cells #[.string ⟨#[]⟩, .slice none 0 0, .int .i64 0, .int .i64 0] 85)));rw [hW0]at tw hs0 hb0 Nn U2;have hs0:W0.heap.size=w.heap.size+3:=by rw [←hW0];simp
 have hb0:=hb0 id;have Nn:=Nn id;have hbx:=bQ hb0;obtain⟨t0,t1,t2,t3,tz⟩:=aP Nn;have xW:=hid hb0;have Iw:=hid (U2 id);have Kv:=hid (tw.mono (G:=fun k=>k=bp) (fun _ _ h=>h.elim));have Ec:=hid (h.turn tw id (fun _ _=>id));have P0:=hid (fun(w':World) (h:Turn (fun j=>j=bp) W0 w')=>aH hbx h (by omega));have PL:=hid (fun(w':World) (h:Turn (fun j=>j=bp) W0 w')=>aH t2 h (by omega));have PC:=hid (fun(w':World) (h:Turn (fun j=>j=bp) W0 w')=>aH t3 h (by omega));have HD0:Hid (Turn (fun j=>j=bp) W0 W0.drew):=hid ⟨rfl,rfl,rfl,Nat.le_refl _,fun _ _ _=>rfl⟩;have HW0:=hid hW0;have OH:∀(fn:Fn) (first cap:Array Value) (w:World),(Instr.makeFunc fn first cap).run Tryz.prog w= .ok (.func fn first cap) w:=fun _ _ _ _=>rfl;clear h hQ tw hb0 Nn U2 hbx t0 t1 t2 t3 tz hW0;go_enter Tryz.func91,Tryz.ntmps91;go_wp2_with fail;rw [HW0.out];refine bO (S:=fun w'=>Turn (fun j=>j=bp) W0 w') (x:=10) (by kernel_rfl) ?_
 try simp only [Act.put,sq]
 refine jq 0 (.pointer (some ⟨bp,0,none⟩)) P0.out HD0.out ?_;refine tx 1 (.pointer (some ⟨bp,0,none⟩)) HD0.out ?_;refine tx 2 (.pointer (some ⟨bp,0,none⟩)) HD0.out ?_;refine tx 4 (.pointer (some ⟨w.heap.size+1,2,none⟩)) HD0.out ?_;refine jq 5 (.int .i64 t.line) PL.out HD0.out ?_;refine tx 6 (.pointer (some ⟨w.heap.size+1,3,none⟩)) HD0.out ?_;refine jq 7 (.int .i64 t.col) PC.out HD0.out ?_;refine ay (rs:=[3,9]) (by kernel_rfl) (by simp) ?_;refine av.cons rfl (fun K hK=> ?_) (av.cons rfl (fun K hK=> ?_) av.nil)
 ·go_simp;refine(fH W0.drew bp B ts 0 Ec.out).mono ?_;rintro e w1 h1;rcases hq:nameP ts with g | ⟨s,r1⟩
  ·obtain⟨rfl,tn,bn⟩:=h1.bM hq;have dG:=hid (HQ.out.symm.trans (aB hq));exact⟨rfl,aF.fail dG.out (dX.mk2 (aA Kv.out (aA HD0.out tn)) bn)⟩
  ·obtain⟨v1,rfl,tn,rfl,kn⟩:=h1.aL hq;have xQ:=hid (aA HD0.out tn);have hs1:=tn.size;simp at hs1;have lq:Hid (aj (aI [58]) (fun _=>aj (iB nameP) fun l=>aj (aI [59]) fun _=>aG (⟨s,l,t.line,t.col⟩:rU)) r1=Q):=hid ((au hq).symm.trans HQ.out);have HT1:=hid (aA (aA Kv.out xQ.out) (Turn.alloc (fun k=>k=bp) w1 (.cells #[sv s, .slice none 0 0, .int .i64 t.line, .int .i64 t.col] 85)));have jP:=hid (kn.below (new1 w1 (.cells #[sv s, .slice none 0 0, .int .i64 t.line, .int .i64 t.col] 85)));have mq:=hid (bG (o':=(.cells #[sv s, .slice none 0 0, .int .i64 t.line, .int .i64 t.col] 85)) (ah Iw.out xQ.out (by omega)));have oJ:=hid (bG (o':=(.cells #[sv s, .slice none 0 0, .int .i64 t.line, .int .i64 t.col] 85)) (ah xW.out xQ.out (by omega)));have U3:=hid (qR w1 (.cells #[sv s, .slice none 0 0, .int .i64 t.line, .int .i64 t.col] 85));have Ko:=bQ (ah xW.out xQ.out (by omega));have ab2:w.heap.size<w1.heap.size:=by omega
   clear h1 tn kn hq;refine hK.out _ _ xQ.out ?_;clear hK K
   try simp only [Act.put,sq]
   refine tt 8 (.agg #[sv s, .slice none 0 0, .int .i64 t.line, .int .i64 t.col]) (fun _=>xQ.out) ?_;refine ay (rs:=[9]) (by kernel_rfl) (by simp) ?_;refine av.cons rfl (fun K hK=> ?_) (av.nil);go_simp;have HS2:=hid (aA xQ.out (Turn.alloc (fun k=>k=bp) w1 (.cells #[.string ⟨#[]⟩, .slice none 0 0, .int .i64 0, .int .i64 0] 85)));refine hK.out _ _ HS2.out ?_;clear hK K
   try simp only [Act.put,sq]
   refine ay (rs:=[10]) (by kernel_rfl) (by simp) ?_;refine av.past rfl (by kernel_rfl) (fun K hK=> ?_) (av.nil);go_simp;refine hK.out _ _ ?_;clear hK K
   try simp only [Act.put,sq]
   refine aM (by kernel_rfl) ?_ _;have HN:=hid (eG (w1.alloc (.cells #[sv s, .slice none 0 0, .int .i64 t.line, .int .i64 t.col] 85)) bp B r1 0 jP.out [58] 9 (w1.heap.size+1));go_wp2_with fail;refine(HN.out).mono ?_;rintro e w4 h4;rcases hq:aI [58] r1 with g | ⟨u,r4⟩
   ·obtain⟨rfl,tn,bn⟩:=h4.bM hq;have HB:=hid (dX.mk2 (aA HT1.out tn) bn);have dG:=hid (lq.out.symm.trans (aB hq));clear h4 tn bn hq;go_wp2_with fail;exact⟨rfl,aF.fail dG.out HB.out⟩
   ·obtain⟨v4,rfl,tn, -,kn⟩:=h4.aL hq;have hs4:=tn.size;simp at hs4;have fP:=hid (aA HT1.out tn);have hb4:=ah oJ.out tn (by omega);have hi4:=ah U3.out tn (by omega);have HI4:Hid (Ct w.heap.size (w1.heap.size) w4.heap.size bp s t w4 []):=hid ⟨hb4, _,hi4,gI.nil _ _ _⟩;have iD:=hid (ah mq.out tn (by omega));have L6:=bQ hb4;have fV:Hid (aj (iB nameP) (fun l=>aj (aI [59]) fun _=>aG (⟨s,l,t.line,t.col⟩:rU)) r4=Q):=hid ((au hq).symm.trans lq.out)
    have L9:=hid (jE nameP Sf.name 152 #[.pointer (some ⟨w1.heap.size,0,none⟩), .pointer (some ⟨w.heap.size,0,none⟩)] (Ct w.heap.size (w1.heap.size) w4.heap.size bp s t) (fun k=>k=bp∨k=w1.heap.size∨w4.heap.size≤k) 0 w4 bp B r4 (.inl rfl)
     (fun a b l tn h=>h.turn tn (by omega) (by omega) (fun j hj _ e=>by omega)) (fun g h=> .inr (.inr h))
     (fun w1 r l hl hw hi hk=>rD 0 w1 bp B _ _ _ s t r l hl hk hi (by omega) (by omega) (by omega) (by omega) (by omega) hw) (fun _=>by kernel_rfl) kn HI4.out)
    clear h4 tn kn hq hb4 hi4;go_wp2_with fail;refine(L9.out).mono ?_;rintro e w5 h5;rcases hq:iB nameP r4 with g | ⟨l,r5⟩
    ·obtain⟨rfl,tn,bn⟩:=h5.bM hq;have HB:=hid (dX.mk2 (fP.out.trans tn (fun i hi e=>by rcases e with e | e | e;exact e;omega;omega)) bn);have dG:=hid (fV.out.symm.trans (aB hq));clear h5 tn bn hq;go_wp2_with fail;exact⟨rfl,aF.fail dG.out HB.out⟩
    ·obtain⟨rfl,tn,MS,kn⟩:=h5.aL hq;have hs5:=tn.size;have fM:=hid (fP.out.trans tn (fun i hi e=>by rcases e with e | e | e;exact e;omega;omega));have iE:=hid (ah iD.out tn (fun e=>by rcases e with e | e | e <;> omega));have K5:=hid MS;have GI:=bQ MS.1;have gN:Hid (aj (aI [59]) (fun _=>aG (⟨s,l,t.line,t.col⟩:rU)) r5=Q):=hid ((au hq).symm.trans fV.out);have K4:=hid (eG w5 bp B r5 0 kn [59] 9 w5.heap.size);clear h5 tn MS kn hq L6;go_wp2_with fail;refine(K4.out).mono ?_;rintro e w6 h6;rcases hq:aI [59] r5 with g | ⟨u,r6⟩
     ·obtain⟨rfl,tn,bn⟩:=h6.bM hq;have HB:=hid (dX.mk2 (aA fM.out tn) bn);have dG:=hid (gN.out.symm.trans (aB hq));clear h6 tn bn hq;go_wp2_with fail;exact⟨rfl,aF.fail dG.out HB.out⟩
     ·obtain⟨v6,rfl,tn, -,kn⟩:=h6.aL hq;have hs6:=tn.size;have kQ:=hid (aA fM.out tn);have sU:=hid kn;have ng:=hid (ah iE.out tn (by omega));have rz:Hid (Pr.good (⟨s,l,t.line,t.col⟩:rU) r6=Q):=hid ((au hq).symm.trans gN.out);obtain⟨_,v,Yw,OM⟩:=K5.out.turn tn (by omega) (by omega) (fun j hj hl e=>by omega);obtain⟨A6,c6,rfl, _, _⟩:=OM.ss.open_;have Qt:=hid OM;obtain⟨f0,f1,f2,f3,fz⟩:=aP Yw;obtain⟨c0',c1',c2',c3',cz'⟩:=aP ng.out;clear h6 tn kn hq Yw OM GI;go_wp2_with fail;have tF:=bW w6 (w.heap.size+2) (sv s) (.slice A6 l.length c6) (.int .i64 t.line) (.int .i64 t.col);refine bodyPost_ret (aS rfl rfl (aU ng.out _ _ _ _) Tryz.underlying85 rfl (by kernel_rfl)) rfl ?_;obtain⟨n6,Yx⟩:=Qt.out;have U4:=Yx.lt;exact aF.done rz.out.symm (zu kQ.out (by omega)) ⟨_,rfl, _,rfl,(dB.own (F:=fun j=>w4.heap.size≤j) Yx (fun g hg=>(U4 g hg).1)).turn tF (fun g _ h e=>by omega) |>.mono (fun g _ h=>by omega)⟩ (sU.out.turn tF (by omega) (fun k hk e=>by have:=sU.out.1;omega))
 ·go_simp;have fT:=hid (aA HD0.out (Turn.alloc (fun k=>k=bp) W0.drew (.cells #[.string ⟨#[]⟩, .slice none 0 0, .int .i64 0, .int .i64 0] 85)));have HKB:=hid (bK.below (w:=W0.drew) Ec.out (new1 W0.drew (.cells #[.string ⟨#[]⟩, .slice none 0 0, .int .i64 0, .int .i64 0] 85)));refine hK.out _ _ fT.out ?_;clear hK K
  try simp only [Act.put,sq]
  refine ay (rs:=[3]) (by kernel_rfl) (by simp) ?_;refine av.cons rfl (fun K hK=> ?_) (av.nil);go_simp;refine(fH _ bp B ts 0 HKB.out).mono ?_;rintro e w1 h1;rcases hq:nameP ts with g | ⟨s,r1⟩
  ·obtain⟨rfl,tn,bn⟩:=h1.bM hq;have dG:=hid (HQ.out.symm.trans (aB hq));exact⟨rfl,aF.fail dG.out (dX.mk2 (aA Kv.out (aA fT.out tn)) bn)⟩
  ·obtain⟨v1,rfl,tn,rfl,kn⟩:=h1.aL hq;have xQ:=hid (aA fT.out tn);have hs1:=tn.size;simp at hs1;have lq:Hid (aj (aI [58]) (fun _=>aj (iB nameP) fun l=>aj (aI [59]) fun _=>aG (⟨s,l,t.line,t.col⟩:rU)) r1=Q):=hid ((au hq).symm.trans HQ.out);have hi1:w1.heap[w.heap.size+3]? =some (.cells #[.string ⟨#[]⟩, .slice none 0 0, .int .i64 0, .int .i64 0] 85 (0,0)):=by
    have:=ah (qR W0.drew _) tn (by show ¬W0.heap.size=bp;omega);rwa [show W0.drew.heap.size=w.heap.size+3 from hs0]at this
   have tP:=bW w1 (w.heap.size+3) (sv s) (.slice none 0 0) (.int .i64 t.line) (.int .i64 t.col);have HT1:=hid ((aA Kv.out xQ.out).trans tP (fun i hi e=>by omega));have jP:=hid (kn.turn tP (by omega) (fun k hk e=>by have:=Ec.out.1;omega));have mq:=hid (ah (ah Iw.out xQ.out (by omega)) tP (by omega));have hb1:=ah xW.out xQ.out (by omega);have oJ:=hid (ah hb1 tP (by omega));have U3:=hid (aU hi1 (sv s) (.slice none 0 0) (.int .i64 t.line) (.int .i64 t.col));obtain⟨i0,i1,i2,i3,iz⟩:=aP hi1;have Ko:=bQ hb1;have ab2:w.heap.size<w1.heap.size:=by omega
   have hne1:¬w.heap.size+3=w.heap.size:=by omega
   have hne2:¬w.heap.size=w.heap.size+3:=by omega
   clear h1 tn kn hq hi1 tP hb1;refine hK.out _ _ xQ.out ?_;clear hK K
   try simp only [Act.put,sq]
   refine tt 8 (.agg #[sv s, .slice none 0 0, .int .i64 t.line, .int .i64 t.col]) (fun _=>xQ.out) ?_;refine ay (rs:=[10]) (by kernel_rfl) (by simp) ?_;refine av.past rfl (by kernel_rfl) (fun K hK=> ?_) (av.nil);go_simp;refine hK.out _ _ ?_;clear hK K
   try simp only [Act.put,sq]
   refine aM (by kernel_rfl) ?_ _;have HN:=hid (eG (dh w1 (w.heap.size+3) (sv s) (.slice none 0 0) (.int .i64 t.line) (.int .i64 t.col)) bp B r1 0 jP.out [58] 9 (w1.heap.size));go_wp2_with fail;refine(HN.out).mono ?_;rintro e w4 h4;rcases hq:aI [58] r1 with g | ⟨u,r4⟩
   ·obtain⟨rfl,tn,bn⟩:=h4.bM hq;have HB:=hid (dX.mk2 (aA HT1.out tn) bn);have dG:=hid (lq.out.symm.trans (aB hq));clear h4 tn bn hq;go_wp2_with fail;exact⟨rfl,aF.fail dG.out HB.out⟩
   ·obtain⟨v4,rfl,tn, -,kn⟩:=h4.aL hq;have hs4:=tn.size;simp at hs4;have fP:=hid (aA HT1.out tn);have hb4:=ah oJ.out tn (by omega);have hi4:=ah U3.out tn (by omega);have HI4:Hid (Ct w.heap.size (w.heap.size+3) w4.heap.size bp s t w4 []):=hid ⟨hb4, _,hi4,gI.nil _ _ _⟩;have iD:=hid (ah mq.out tn (by omega));have L6:=bQ hb4;have fV:Hid (aj (iB nameP) (fun l=>aj (aI [59]) fun _=>aG (⟨s,l,t.line,t.col⟩:rU)) r4=Q):=hid ((au hq).symm.trans lq.out)
    have L9:=hid (jE nameP Sf.name 152 #[.pointer (some ⟨w.heap.size+3,0,none⟩), .pointer (some ⟨w.heap.size,0,none⟩)] (Ct w.heap.size (w.heap.size+3) w4.heap.size bp s t) (fun k=>k=bp∨k=w.heap.size+3∨w4.heap.size≤k) 0 w4 bp B r4 (.inl rfl)
     (fun a b l tn h=>h.turn tn (by omega) (by omega) (fun j hj _ e=>by omega)) (fun g h=> .inr (.inr h))
     (fun w1 r l hl hw hi hk=>rD 0 w1 bp B _ _ _ s t r l hl hk hi (by omega) (by omega) (by omega) (by omega) (by omega) hw) (fun _=>by kernel_rfl) kn HI4.out)
    clear h4 tn kn hq hb4 hi4;go_wp2_with fail;refine(L9.out).mono ?_;rintro e w5 h5;rcases hq:iB nameP r4 with g | ⟨l,r5⟩
    ·obtain⟨rfl,tn,bn⟩:=h5.bM hq;have HB:=hid (dX.mk2 (fP.out.trans tn (fun i hi e=>by rcases e with e | e | e;exact e;omega;omega)) bn);have dG:=hid (fV.out.symm.trans (aB hq));clear h5 tn bn hq;go_wp2_with fail;exact⟨rfl,aF.fail dG.out HB.out⟩
    ·obtain⟨rfl,tn,MS,kn⟩:=h5.aL hq;have hs5:=tn.size;have fM:=hid (fP.out.trans tn (fun i hi e=>by rcases e with e | e | e;exact e;omega;omega));have iE:=hid (ah iD.out tn (fun e=>by rcases e with e | e | e <;> omega));have K5:=hid MS;have GI:=bQ MS.1;have gN:Hid (aj (aI [59]) (fun _=>aG (⟨s,l,t.line,t.col⟩:rU)) r5=Q):=hid ((au hq).symm.trans fV.out);have K4:=hid (eG w5 bp B r5 0 kn [59] 9 w5.heap.size);clear h5 tn MS kn hq L6;go_wp2_with fail;refine(K4.out).mono ?_;rintro e w6 h6;rcases hq:aI [59] r5 with g | ⟨u,r6⟩
     ·obtain⟨rfl,tn,bn⟩:=h6.bM hq;have HB:=hid (dX.mk2 (aA fM.out tn) bn);have dG:=hid (gN.out.symm.trans (aB hq));clear h6 tn bn hq;go_wp2_with fail;exact⟨rfl,aF.fail dG.out HB.out⟩
     ·obtain⟨v6,rfl,tn, -,kn⟩:=h6.aL hq;have hs6:=tn.size;have kQ:=hid (aA fM.out tn);have sU:=hid kn;have ng:=hid (ah iE.out tn (by omega));have rz:Hid (Pr.good (⟨s,l,t.line,t.col⟩:rU) r6=Q):=hid ((au hq).symm.trans gN.out);obtain⟨_,v,Yw,OM⟩:=K5.out.turn tn (by omega) (by omega) (fun j hj hl e=>by omega);obtain⟨A6,c6,rfl, _, _⟩:=OM.ss.open_;have Qt:=hid OM;obtain⟨f0,f1,f2,f3,fz⟩:=aP Yw;obtain⟨c0',c1',c2',c3',cz'⟩:=aP ng.out;clear h6 tn kn hq Yw OM GI;go_wp2_with fail;have tF:=bW w6 (w.heap.size+2) (sv s) (.slice A6 l.length c6) (.int .i64 t.line) (.int .i64 t.col);refine bodyPost_ret (aS rfl rfl (aU ng.out _ _ _ _) Tryz.underlying85 rfl (by kernel_rfl)) rfl ?_;obtain⟨n6,Yx⟩:=Qt.out;have U4:=Yx.lt;exact aF.done rz.out.symm (zu kQ.out (by omega)) ⟨_,rfl, _,rfl,(dB.own (F:=fun j=>w4.heap.size≤j) Yx (fun g hg=>(U4 g hg).1)).turn tF (fun g _ h e=>by omega) |>.mono (fun g _ h=>by omega)⟩ (sU.out.turn tF (by omega) (fun k hk e=>by have:=sU.out.1;omega))
end Go.Proofs.YtfgjkmipfikooaaGreatDoor
