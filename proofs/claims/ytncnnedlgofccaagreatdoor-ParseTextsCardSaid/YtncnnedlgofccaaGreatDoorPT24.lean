/- XT, XU, XZ -/
import Derived.Test.YtncnnedlgofccaaGreatDoorPT07
set_option linter.unusedSimpArgs false
set_option linter.unusedVariables false
set_option maxRecDepth 100000
set_option maxHeartbeats 4000000
namespace Go.Proofs.YtncnnedlgofccaaGreatDoor
open Go.RowKit
theorem SE (w:World)(s:Bt)(hs:s.length<=281474976710656):Calls Tryz.prog 139 #[sv s] w fun e w'=>e=.returned (I (bP s:Nat))∧w'=w:=by
 have hsz:=cO s;obtain⟨ans,wO⟩:∃a,a=bP s:=⟨_,rfl⟩
 rw [<-wO];have h0:ans=0+dW false (s.drop 0):=by rw [List.drop_zero,wO];unfold bP;omega
 have H0:=aO h0;clear wO h0;go_enter Tryz.func139,Tryz.ntmps139;go_wp2_with fail
 go_loop [3] (fun v3=>∃i:Nat,v3=I i∧i<=s.length∧ans=i+dW false (s.drop i)) (fun v3=>s.length - (intOf v3).toNat)
 case atStart=>exact⟨0,rfl,by omega,H0.o⟩
 case round=>
  obtain⟨i,rfl,hi,hsk⟩:=hrel;by_cases hlt:i<s.length
  ·obtain⟨e1,e2,e3,e4,e5⟩:=Km hlt;have hix:=eU s i hlt;generalize hc:s[i]=c at*
   have HC:=aO hc;clear hc;by_cases Ti:c.toNat=35
   ·have HSK:=aO (hsk.trans (congrArg (i+ ·) (e2 Ti)));clear hsk e1 e2 e3 e4 e5;go_wp2_with fail
    go_loop [3] (fun v3=>∃k:Nat,v3=I k∧i<=k∧k<=s.length∧ans=k+dW true (s.drop k)) (fun v3=>s.length - (intOf v3).toNat)
    case atStart=>exact⟨i,rfl,by omega,by omega,HSK.o⟩
    case round=>
     obtain⟨k,rfl,hik,hk,Xn⟩:=hrel;by_cases hlt1:k<s.length
     ·obtain⟨f1,f2,f3,f4,f5⟩:=Km hlt1;have anz:=eU s k hlt1;have hki:s[k].toNat=10->i<k:=by
       intro h;rcases Nat.lt_or_ge i k with h1 |h1
       ·exact h1
       ·obtain rfl:i=k:=by omega
        rw [HC.o]at h;omega
      generalize s[k]=d at*
      by_cases h10:d.toNat=10
      ·have HN:=aO (Xn.trans (congrArg (k+ ·) (f3 h10)));have hki:=hki h10;clear Xn f1 f2 f3 f4 f5 hix HC;go_wp2_with fail
       go_round
       case rel=>exact⟨k,rfl,by omega,HN.o⟩
       case measure=>simp [intOf];omega
      ·have HN:=aO (show ans=(k+1)+dW true (s.drop (k+1)) by rw [Xn,f4 h10];omega);clear Xn f1 f2 f3 f4 f5 hix hki HC;go_wp2_with fail
       go_round
       case rel=>exact⟨k+1,rfl,by omega,by omega,HN.o⟩
       case measure=>simp [intOf];omega
     ·obtain rfl:k=s.length:=by omega
      have HN:=aO (show ans=s.length+dW false (s.drop s.length) by rw [Xn,Gs,Gs]);clear Xn;go_wp2_with fail
      go_round
      case rel=>exact⟨s.length,rfl,by omega,HN.o⟩
      case measure=>simp [intOf];omega
   ·have hb:(dh c=true∧(c.toNat=32∨c.toNat=9∨c.toNat=10∨c.toNat=13))∨(dh c=false∧c.toNat≠32∧c.toNat≠9∧c.toNat≠10∧c.toNat≠13):=by
     unfold dh;simp only [Bool.or_eq_true,Bool.or_eq_false_iff,decide_eq_true_eq,decide_eq_false_iff_not];omega
    clear e2 e3 e4 HC;rcases hb with⟨hb,hc⟩ |⟨hb,h1,h2,h3,h4⟩
    ·have HN:=aO (show ans=(i+1)+dW false (s.drop (i+1)) by rw [hsk,e1 hb];omega);clear hsk e1 e5 hb;rcases hc with hc |hc |hc |hc
     ·go_wp2_with fail
      go_round
      case rel=>exact⟨i+1,rfl,by omega,HN.o⟩
      case measure=>simp [intOf];omega
     ·go_wp2_with fail
      go_round
      case rel=>exact⟨i+1,rfl,by omega,HN.o⟩
      case measure=>simp [intOf];omega
     ·go_wp2_with fail
      go_round
      case rel=>exact⟨i+1,rfl,by omega,HN.o⟩
      case measure=>simp [intOf];omega
     ·go_wp2_with fail
      go_round
      case rel=>exact⟨i+1,rfl,by omega,HN.o⟩
      case measure=>simp [intOf];omega
    ·have HN:=aO (show ans=i by rw [hsk,e5 hb Ti];omega);have b1:((c.toNat:Int) != 32)=true:=by rw [bne_iff_ne];omega
     have b2:((c.toNat:Int) != 9)=true:=by rw [bne_iff_ne];omega
     have b3:((c.toNat:Int) != 10)=true:=by rw [bne_iff_ne];omega
     have b4:((c.toNat:Int) != 13)=true:=by rw [bne_iff_ne];omega
     clear hsk e1 e5 hb;go_wp2_with fail;go_ret;have hr:=HN.o;subst hr;exact⟨rfl,rfl⟩
  ·obtain rfl:i=s.length:=by omega
   have HN:=aO (show ans=s.length by rw [hsk,Gs];omega);clear hsk;go_wp2_with fail;go_ret;have hr:=HN.o;subst hr;exact⟨rfl,rfl⟩
def uK (c:UInt8)(s:Bt):Nat:=if s.take 2∈dG then 2 else if c∈fD then 1 else 0
theorem PW {c:UInt8}{s:Bt}(h:s.take 2∈dG):uK c s=2:=by unfold uK;rw [if_pos h]
theorem sign_one {c:UInt8}{s:Bt}(h:s.take 2 ∉ dG)(h1:c∈fD):uK c s=1:=by unfold uK;rw [if_neg h,if_pos h1]
theorem K5 {c:UInt8}{s:Bt}(h:s.take 2 ∉ dG)(h1:c ∉ fD):uK c s=0:=by unfold uK;rw [if_neg h,if_neg h1]
theorem Xo (w:World)(c:UInt8)(r:Bt)(hs:(c :: r).length<=281474976710656):Calls Tryz.prog 184 #[sv (c :: r)] w fun e w'=>e=.returned (I (uK c (c :: r):Nat))∧Below w.heap.size w w':=by
 obtain⟨s,hsc⟩:∃s,s=c :: r:=⟨_,rfl⟩
 have hsz:=cO s;have hl1:1<=s.length:=by rw [hsc];simp
 have Xp:(ByteArray.mk s.toArray)[0]'(by omega)=c:=by
  have:=eU s 0 (by omega);rw [this];simp [hsc]
 have hone:¬ 2<=s.length->s.take 2 ∉ dG:=by
  intro h hm;have:=Dr _ hm;rw [List.length_take]at this;omega
 rw [<-hsc]at hs ⊢;clear hsc;have hss:Ss (w.alloc (.cells (qW dG).toArray 9)) (w.alloc (.cells (qW dG).toArray 9)).heap.size (.slice (some ⟨w.heap.size,0,none⟩) 8 8) dG:=by
  have:=iN w (qW dG).toArray 9 1 8 (by simp [fE];rfl);rw [World.size_alloc];simpa [Ss]using this
 have hb:Below w.heap.size w (w.alloc (.cells (qW dG).toArray 9)):=o9 _ _;have hex:2<=s.length->ByteArray.extract ⟨s.toArray⟩ 0 2=⟨(s.take 2).toArray⟩:=by
  intro _;have h:=gB s 0 2;rw [List.drop_zero]at h;injection h
 have aru:=aO hone;have uE:=aO hex;clear hone hex;have hlp:dG.length=8:=rfl;have hls:fD.length=20:=rfl;have HT:=aO (fun h=>PW (c:=c) (s:=s) h);have HO:=aO (fun h h1=>sign_one (c:=c) (s:=s) h h1);have HN:=aO (fun h h1=>K5 (c:=c) (s:=s) h h1);generalize uK c s=ans at*
 go_enter Tryz.func184,Tryz.ntmps184;go_wp2_with fail;generalize hw:w.alloc (.cells #[.string ⟨#[45,62]⟩,.string ⟨#[61,62]⟩,.string ⟨#[60,58]⟩,.string ⟨#[60,60]⟩,.string ⟨#[60,61]⟩,.string ⟨#[62,62]⟩,.string ⟨#[61,61]⟩,.string ⟨#[43,43]⟩] 9)=w1 at*
 have hw':w.alloc (.cells (qW dG).toArray 9)=w1:=hw;rw [hw']at hss hb;clear hw hw';obtain⟨A,cc,hA,hn,hcc,hx⟩:=hss.open_;obtain⟨b,o,hbo,hb2,hcell⟩:=hx (by rw [hlp];omega);subst hbo;simp only [Value.slice.injEq,Option.some.injEq,Addr.mk.injEq]at hA;obtain⟨⟨rfl,rfl,_⟩,h8a,h8b⟩:=hA;clear hx hcc hn h8a h8b;generalize dG=P at*
 go_loopw [4] (fun v4 wr=>∃k:Nat,v4=I k∧k<=8∧s.take 2 ∉ P.take k∧Below w1.heap.size w1 wr) (fun v4 _=>8 - (intOf v4).toNat)
 case atStart=>exact⟨0,rfl,by omega,by simp,Below.refl _ _⟩
 case round=>
  obtain⟨k,rfl,hk,hnot,hbr⟩:=hrel;by_cases hlt:k<8
  ·have hlt':(k:Int)<8:=by omega
   have d1:=(hbr.cell (p:=⟨w.heap.size,0+k,none⟩) hb2).trans (hcell k (by omega));rw [Nat.zero_add]at d1;have hin:s.take 2=P[k]->s.take 2∈P:=fun h=>by rw [h];exact List.getElem_mem _
   have hout:s.take 2≠P[k]->s.take 2 ∉ P.take (k+1):=fun h=>zZ (by omega) hnot h;have HIN:=aO hin;have amf:=aO hout;have amg:=aO hnot;clear hin hout hnot hcell;generalize hX:P[k]=X at*
   by_cases h2:2<=s.length
   ·have hex:=uE.o h2;have hd2:decide ((2:Int)<=s.length)=true:=by rw [decide_eq_true_eq];omega
    by_cases hq:s.take 2=X
    ·have hq':(s.take 2==X)=true:=by rw [beq_iff_eq];exact hq
     have hres:=HT.o (HIN.o hq);clear hq hX;go_wp2_with fail
     go_quiet (fail)
     go_wp2_with fail;go_ret;exact⟨by first |rfl |(rw [hres];rfl),hb.trans ((hbr.trans ((aP wr _).mono hbr.size)).mono hb.size)⟩
    ·have hq':(s.take 2==X)=false:=by rw [beq_eq_false_iff_ne];exact hq
     have hr:=aO (amf.o hq);clear hq hX;go_wp2_with fail
     go_quiet (fail)
     go_wp2_with fail
     go_roundw
     case rel=>exact⟨k+1,rfl,by omega,hr.o,hbr.trans ((aP wr _).mono hbr.size)⟩
     case measure=>simp [intOf];omega
   ·have hr:=aO (fun h=>aru.o h2 (List.mem_of_mem_take (i:=k+1) h));have hd2:decide ((2:Int)<=s.length)=false:=by rw [decide_eq_false_iff_not];omega
    clear hX;go_wp2_with fail
    go_quiet (fail)
    go_wp2_with fail
    go_roundw
    case rel=>exact⟨k+1,rfl,by omega,hr.o,hbr.trans ((aP wr _).mono hbr.size)⟩
    case measure=>simp [intOf];omega
  ·have xB:¬(k:Int)<8:=by omega
   rw [List.take_of_length_le (by omega)]at hnot;have amg:=aO hnot;clear hnot HT aru uE hcell;go_wp2_with fail;rw [show Value.string ⟨#[40,41,123,125,91,93,44,58,59,61,43,45,42,47,37,38,94,60,124,46]⟩=sv fD from rfl];have hsq:=cO fD;generalize fD=Q at*
   go_loopw [6] (fun v6 w2=>∃k:Nat,v6=I k∧k<=20∧c ∉ Q.take k∧Below wr.heap.size wr w2) (fun v6 _=>20 - (intOf v6).toNat)
   case atStart=>exact⟨0,rfl,by omega,by simp,Below.refl _ _⟩
   case round=>
    obtain⟨k,rfl,hk2,hnot,wC⟩:=hrel;by_cases hlt:k<20
    ·have hlt':(k:Int)<20:=by omega
     have hix:=eU Q k (by omega);have hin:c=Q[k]->c∈Q:=fun h=>by rw [h];exact List.getElem_mem _
     have hout:c≠Q[k]->c ∉ Q.take (k+1):=fun h=>zZ (by omega) hnot h;have HIN:=aO hin;have amf:=aO hout;have az1:=aO hnot;clear hin hout hnot;generalize hX:Q[k]=X at*
     by_cases hq:c=X
     ·have hres:=HO.o amg.o (HIN.o hq);have hq':(c.toNat:Int)=X.toNat:=by rw [hq]
      clear hq hX;go_wp2_with fail
      go_quiet (fail)
      go_wp2_with fail;go_ret;exact⟨by first |rfl |(rw [hres];rfl),hb.trans ((hbr.trans ((wC.trans ((aP _ _).mono wC.size)).mono hbr.size)).mono hb.size)⟩
     ·have hq':¬(c.toNat:Int)=X.toNat:=by intro h;exact hq (UInt8.toNat_inj.1 (by omega))
      have hr:=aO (amf.o hq);clear hq hX;go_wp2_with fail
      go_quiet (fail)
      go_wp2_with fail
      go_roundw
      case rel=>exact⟨k+1,rfl,by omega,hr.o,wC.trans ((aP _ _).mono wC.size)⟩
      case measure=>simp [intOf];omega
    ·have xB:¬(k:Int)<20:=by omega
     rw [List.take_of_length_le (by omega)]at hnot;have hres:=HN.o amg.o hnot;clear hnot;go_wp2_with fail;go_ret;exact⟨by first |rfl |(rw [hres];rfl),hb.trans ((hbr.trans (wC.mono hbr.size)).mono hb.size)⟩
theorem PY (w:World)(s:Bt)(hs:s.length<=281474976710656)(h1:1<=s.length):Calls Tryz.prog 183 #[sv s] w fun e w'=>e=.returned (yx (mO s))∧w'=w:=by
 have hsz:=cO s;generalize wO:mO s=ans;go_enter Tryz.func183,Tryz.ntmps183;go_wp2_with fail
 go_loop [4,5,6] (fun v4 v5 v6=>∃(i:Nat) (o:Bt),v5=I i∧v4=sv o∧1<=i∧i<=s.length∧o.length<=i∧dZ false o (i - 1) (s.drop i)=ans) (fun _ v5 _=>s.length - (intOf v5).toNat)
 case atStart=>exact⟨1,[],rfl,rfl,by omega,h1,by simp,wO⟩
 case round=>
  obtain⟨i,o,rfl,rfl,hi1,hi,hol,hq⟩:=hrel;have aCz:¬ 9223372036854775807<o.length+1:=by omega
  by_cases hlt:i<s.length
  ·obtain⟨e1,e2,e3,e4,_,_⟩:=Gt hlt o (i - 1);have hix:=eU s i hlt;have hex:ByteArray.extract ⟨s.toArray⟩ i (i+1)=⟨[s[i]].toArray⟩:=by
    have h:=gB s i (i+1);rw [List.take_succ_eq_append_getElem hlt,List.drop_append_of_le_length (by rw [List.length_take];omega),List.drop_of_length_le (by rw [List.length_take];omega),List.nil_append]at h;injection h
   generalize hc:s[i]=c at*
   clear hc;have E1:=aO e1;have E2:=aO e2;have E3:=aO e3;have E4:=aO e4;have HQ:=aO hq;clear e1 e2 e3 e4 hq;by_cases Jt:c.toNat=34
   ·have hr:ans=some (o,i+1):=by rw [<-HQ.o,E1.o Jt];congr 2;omega
    subst hr;clear E1 E2 E3 E4;go_wp2_with fail
    go_ret2
    exact⟨rfl,rfl⟩
   ·by_cases h32:c.toNat<32
    ·have hr:ans=none:=by rw [<-HQ.o,E2.o h32]
     subst hr;clear E1 E2 E3 E4;go_wp2_with fail
     go_ret2
     exact⟨rfl,rfl⟩
    ·by_cases h92:c.toNat=92
     ·have hr:=HQ.o;rw [E4.o h92,show i - 1+1=i from by omega]at hr;have HR:=aO hr;clear hr E1 E2 E3 E4 HQ hex;by_cases hlt2:i+1<s.length
      ·obtain⟨_,_,_,_,e5,e6⟩:=Gt hlt2 o i;have aef:=eU s (i+1) hlt2;have amh:ByteArray.extract ⟨s.toArray⟩ (i+1) (i+2)=⟨[s[i+1]].toArray⟩:=by
        have h:=gB s (i+1) (i+2);rw [List.take_succ_eq_append_getElem hlt2,List.drop_append_of_le_length (by rw [List.length_take];omega),List.drop_of_length_le (by rw [List.length_take];omega),List.nil_append]at h;injection h
       generalize hd:s[i+1]=d at*
       clear hd;have E5:=aO e5;have E6:=aO e6;clear e5 e6;have key:∀e,yh d=some e->∃(j:Nat) (o':Bt),I ((i+2:Nat):Int)=I j∧Value.string ((⟨o.toArray⟩:ByteArray)++⟨[e].toArray⟩)=sv o'∧1<=j∧j<=s.length∧o'.length<=j∧dZ false o' (j - 1) (s.drop j)=ans:=by
        intro e he;refine⟨i+2,o++[e],rfl,Kg _ _,by omega,by omega,by simp;omega,?_⟩;rw [<-HR.o,E5.o e he];rfl
       have KEY:=aO key;clear key E5;rcases QZ d with⟨hd,he⟩ |⟨hd,he⟩ |⟨hd,he⟩ |⟨hd,he⟩ |⟨⟨k1,k2,k3,k4⟩,he⟩
       ·have hd2:d=92:=UInt8.toNat_inj.1 hd;have K:=aO (KEY.o _ he);clear KEY E6 he;go_wp2_with fail
        go_round
        case rel=>exact K.o
        case measure=>simp [intOf];omega
       ·have hd2:d=34:=UInt8.toNat_inj.1 hd;have K:=aO (KEY.o _ he);clear KEY E6 he;go_wp2_with fail
        go_round
        case rel=>exact K.o
        case measure=>simp [intOf];omega
       ·have K:=aO (KEY.o _ he);clear KEY E6 he amh;go_wp2_with fail
        go_round
        case rel=>exact K.o
        case measure=>simp [intOf];omega
       ·have K:=aO (KEY.o _ he);clear KEY E6 he amh;go_wp2_with fail
        go_round
        case rel=>exact K.o
        case measure=>simp [intOf];omega
       ·have hr:ans=none:=by rw [<-HR.o,E6.o he]
        subst hr;clear KEY E6 he amh;go_wp2_with fail
        go_ret2
        exact⟨rfl,rfl⟩
      ·have hr:ans=none:=by
        rw [<-HR.o,show i+1=s.length from by omega,Kn]
       subst hr;clear HR;go_wp2_with fail
       go_ret2
       exact⟨rfl,rfl⟩
     ·have hr:=HQ.o;rw [E3.o (by omega) Jt h92,show i - 1+1=i from by omega]at hr
      have key:∃(j:Nat) (o':Bt),I ((i+1:Nat):Int)=I j∧Value.string ((⟨o.toArray⟩:ByteArray)++⟨[c].toArray⟩)=sv o'∧1<=j∧j<=s.length∧o'.length<=j∧dZ false o' (j - 1) (s.drop j)=ans:=
       ⟨i+1,o++[c],rfl,Kg _ _,by omega,by omega,by simp;omega,by rw [show i+1 - 1=i from by omega];exact hr⟩
      have KEY:=aO key;clear key hr E1 E2 E3 E4 HQ;go_wp2_with fail
      go_round
      case rel=>exact KEY.o
      case measure=>simp [intOf];omega
  ·obtain rfl:i=s.length:=by omega
   rw [Kn]at hq;subst hq;go_wp2_with fail
   go_ret2
   exact⟨rfl,rfl⟩
theorem SF {w:World}{base:Nat}{e:TypeId}{k n:Nat}{v:Value}{xs:List Value}(h:w.ownsRow base e k v n xs):∃A c,v=.slice A n c∧n<=maxLen:=by
 rcases h.2 with⟨rfl,rfl⟩ |⟨g,cap,cur,rfl,hg,hb,hn,hm,r⟩
 ·exact⟨none,0,rfl,Nat.zero_le _⟩
 ·exact⟨_,cap,rfl,Nat.le_trans hn hm⟩
theorem bH {P:Program}{fn:Func}{p t1 t2:Tmp}{ty:TypeId}(h:fn.results= #[.cell p ty,.tmp t1,.tmp t2])(tmps:Array Value)(w:World)(g:Nat)(t:TypeId)(cs:Array Value)(fr:Nat ×Nat)(d:TypeDesc)
  (hp:tmps.getD p undef=pP g 0) (hg:w.heap[g]? =some (.cells cs t fr))
  (hu:P.underlying ty=some d) (hd:(match d with |.struct _ |.array _ _=>true |_=>false)=true) (hi:(P.info? ty).map (·.size)=some cs.size:=by kernel_rfl):
  (results fn tmps).run P w=.ok (.tuple #[.agg cs,tmps.getD t1 undef,tmps.getD t2 undef]) w:=by
 have hp':tmps[p]?.getD undef=pP g 0:=by simpa using hp
 simp [results,h,hp',asAddr,run_loadVar_row w g t ty cs fr d hg hu hd hi,Result.andThen]
def SG:Int ⊕ (Int ×Bt ×Nat)->Value
 |.inl e=>.tuple #[.agg #[I 0,sv [],I 0,I 0],I 0,I e]
 |.inr (kd,t,n)=>.tuple #[.agg #[I kd,sv t,I 0,I 0],I n,I 0]
theorem nS {w:World}{b:Nat}(h:w.heap[b]? =some (.cells #[I 0,sv [],I 0,I 0] 151 (0,0))):
  (w.cell? ⟨b,0,none⟩=some (I 0)∧w.cell? ⟨b,1,none⟩=some (sv [])∧w.cell? ⟨b,2,none⟩=some (I 0)∧w.cell? ⟨b,3,none⟩=some (I 0))∧
  (w.frozen? ⟨b,0,none⟩=false∧w.frozen? ⟨b,1,none⟩=false∧w.frozen? ⟨b,2,none⟩=false∧w.frozen? ⟨b,3,none⟩=false):=
 ⟨⟨(dY h),(dY h),(dY h),(dY h)⟩,bG h 0,bG h 1,bG h 2,bG h 3⟩
theorem eB {w W:World}(hb:Below w.heap.size w W)(v0 v1 v2 v3:Value):Below w.heap.size w (Lx W w.heap.size v0 v1 v2 v3):=
 hb.trans ((vE W w.heap.size v0 v1 v2 v3).below hb.size (fun k hk h=>by omega))
theorem J8 (w:World)(c:UInt8)(r:Bt)(hs:(c :: r).length<=281474976710656)(hl:fB c=true):
  Calls Tryz.prog 140 #[sv (c :: r)] w fun e w'=>e=.returned (SG (fq (c :: r)))∧Below w.heap.size w w':=by
 obtain⟨s,hsc⟩:∃s,s=c :: r:=⟨_,rfl⟩
 have hsz:=cO s;have hl1:1<=s.length:=by rw [hsc];simp
 have Xp:(ByteArray.mk s.toArray)[0]'(by omega)=c:=by
  have:=eU s 0 (by omega);rw [this];simp [hsc]
 have hd:=LJ c hl
 have hA:fq s=if 32<dO bN s then .inl 2 else if s.take (dO bN s)∈fC then .inr (2,s.take (dO bN s),dO bN s)else .inr (1,s.take (dO bN s),dO bN s):=by
  rw [hsc,fq,if_pos hl]
 rw [<-hsc]at hs ⊢;clear hsc;have HA:=aO hA;clear hA;generalize fq s=ans at*
 have hd0:=heap_alloc_new w (.cells #[I 0,sv [],I 0,I 0] 151);have hb0:Below w.heap.size w (w.alloc (.cells #[.int .i64 0,sv [],.int .i64 0,.int .i64 0] 151)):=o9 _ _;go_enter Tryz.func140,Tryz.ntmps140;go_wp2_with fail;generalize w.alloc (.cells #[.int .i64 0,sv [],.int .i64 0,.int .i64 0] 151)=w0 at*
 refine(mX c _).mono ?_;rintro e w0 ⟨rfl,rfl⟩;go_wp2_with fail;refine(oM c _).mono ?_;rintro e w0 ⟨rfl,rfl⟩;rw [hd];clear Xp;go_wp2_with fail
 go_loop [7] (fun v7=>∃i:Nat,v7=I i∧i<=s.length∧∀j (hj:j<s.length),j<i->bN s[j]=true) (fun v7=>s.length - (intOf v7).toNat)
 case atStart=>exact⟨0,rfl,by omega,fun j hj h=>by omega⟩
 case round=>
  obtain⟨i,rfl,hi,hall⟩:=hrel;by_cases hlt:i<s.length
  ·have hix:=eU s i hlt;have hnext:bN s[i]=true->∀j (hj:j<s.length),j<i+1->bN s[j]=true:=by
    intro h j hj hji;rcases Nat.lt_or_ge j i with h1 |h1
    ·exact hall j hj h1
    ·obtain rfl:j=i:=by omega
     exact h
   have hstop:bN s[i]=false->dO bN s=i:=fun h=>FX _ s i hi hall (.inr ⟨hlt,h⟩);have lM:=aO hnext;have xI:=aO hstop;clear hall hnext hstop;generalize hX:s[i]=X at*
   clear hX;go_wp2_with fail;refine(mX X _).mono ?_;rintro e w0 ⟨rfl,rfl⟩;go_wp2_with fail;refine(oM X _).mono ?_;rintro e w0 ⟨rfl,rfl⟩;have hin:bN X=(fB X || bX X):=rfl;cases hq1:fB X
   ·cases hq2:bX X
    ·have hq:=xI.o (by rw [hin,hq1,hq2];rfl);rw [hq]at HA;clear lM xI hix hq;generalize i=n at*
     have hex:ByteArray.extract ⟨s.toArray⟩ 0 n=⟨(s.take n).toArray⟩:=by
      have h:=gB s 0 n;rw [List.drop_zero]at h;injection h
     have hA:=HA.o;clear HA;by_cases h32:32<n
     ·rw [if_pos h32]at hA;obtain⟨⟨e0,e1,e2,e3⟩,g0,g1,g2,g3⟩:=nS hd0;go_wp2_with fail;refine bodyPost_ret (bH rfl _ _ w.heap.size _ _ _ _ rfl (dN hd0 _ _ _ _) Tryz.underlying151 rfl) rfl ?_;exact⟨by first |rfl |(rw [hA];rfl),eB hb0 _ _ _ _⟩
     ·rw [if_neg h32]at hA;generalize s.take n=x at*
      go_wp2_with fail;refine(Kz _ x).mono ?_;rintro e w2 ⟨rfl,hb2⟩;have hd2:=ah hd0 (Turn.of_below (F:=fun _=>False) hb2) id;have hB2:=Yi hb0 hb2;obtain⟨⟨e0,e1,e2,e3⟩,g0,g1,g2,g3⟩:=nS hd2;by_cases hw:x∈fC
      ·rw [if_pos hw]at hA;rw [decide_eq_true hw];go_wp2_with fail;refine bodyPost_ret (bH rfl _ _ w.heap.size _ _ _ _ rfl (dN hd2 _ _ _ _) Tryz.underlying151 rfl) rfl ?_;exact⟨by first |rfl |(rw [hA];rfl),eB hB2 _ _ _ _⟩
      ·rw [if_neg hw]at hA;rw [decide_eq_false hw];go_wp2_with fail;refine bodyPost_ret (bH rfl _ _ w.heap.size _ _ _ _ rfl (dN hd2 _ _ _ _) Tryz.underlying151 rfl) rfl ?_;exact⟨by first |rfl |(rw [hA];rfl),eB hB2 _ _ _ _⟩
    ·have HN:=aO (lM.o (by rw [hin,hq1,hq2];rfl));clear lM xI hix;go_wp2_with fail
     go_round
     case rel=>exact⟨i+1,rfl,by omega,HN.o⟩
     case measure=>simp [intOf];omega
   ·cases hq2:bX X
    ·have HN:=aO (lM.o (by rw [hin,hq1];rfl));clear lM xI hix;go_wp2_with fail
     go_round
     case rel=>exact⟨i+1,rfl,by omega,HN.o⟩
     case measure=>simp [intOf];omega
    ·have HN:=aO (lM.o (by rw [hin,hq1];rfl));clear lM xI hix;go_wp2_with fail
     go_round
     case rel=>exact⟨i+1,rfl,by omega,HN.o⟩
     case measure=>simp [intOf];omega
  ·have hi2:i=s.length:=by omega
   have hq:=FX _ s i hi hall (.inl hi2);rw [hq]at HA;clear hall hq;have hlt':¬(i:Int)<s.length:=by omega
   clear hi2;generalize i=n at*
   have hex:ByteArray.extract ⟨s.toArray⟩ 0 n=⟨(s.take n).toArray⟩:=by
    have h:=gB s 0 n;rw [List.drop_zero]at h;injection h
   have hA:=HA.o;clear HA;by_cases h32:32<n
   ·rw [if_pos h32]at hA;obtain⟨⟨e0,e1,e2,e3⟩,g0,g1,g2,g3⟩:=nS hd0;go_wp2_with fail;refine bodyPost_ret (bH rfl _ _ w.heap.size _ _ _ _ rfl (dN hd0 _ _ _ _) Tryz.underlying151 rfl) rfl ?_;exact⟨by first |rfl |(rw [hA];rfl),eB hb0 _ _ _ _⟩
   ·rw [if_neg h32]at hA;generalize s.take n=x at*
    go_wp2_with fail;refine(Kz _ x).mono ?_;rintro e w2 ⟨rfl,hb2⟩;have hd2:=ah hd0 (Turn.of_below (F:=fun _=>False) hb2) id;have hB2:=Yi hb0 hb2;obtain⟨⟨e0,e1,e2,e3⟩,g0,g1,g2,g3⟩:=nS hd2;by_cases hw:x∈fC
    ·rw [if_pos hw]at hA;rw [decide_eq_true hw];go_wp2_with fail;refine bodyPost_ret (bH rfl _ _ w.heap.size _ _ _ _ rfl (dN hd2 _ _ _ _) Tryz.underlying151 rfl) rfl ?_;exact⟨by first |rfl |(rw [hA];rfl),eB hB2 _ _ _ _⟩
    ·rw [if_neg hw]at hA;rw [decide_eq_false hw];go_wp2_with fail;refine bodyPost_ret (bH rfl _ _ w.heap.size _ _ _ _ rfl (dN hd2 _ _ _ _) Tryz.underlying151 rfl) rfl ?_;exact⟨by first |rfl |(rw [hA];rfl),eB hB2 _ _ _ _⟩
theorem MF (w:World)(c:UInt8)(r:Bt)(hs:(c :: r).length<=281474976710656)(hl:fB c=false)(hd:bX c=true):
  Calls Tryz.prog 140 #[sv (c :: r)] w fun e w'=>e=.returned (SG (fq (c :: r)))∧Below w.heap.size w w':=by
 obtain⟨s,hsc⟩:∃s,s=c :: r:=⟨_,rfl⟩
 have hsz:=cO s;have hl1:1<=s.length:=by rw [hsc];simp
 have Xp:(ByteArray.mk s.toArray)[0]'(by omega)=c:=by
  have:=eU s 0 (by omega);rw [this];simp [hsc]
 have hA:fq s=if(dH (s.take (dO bX s))).2 then .inr (3,s.take (dO bX s),dO bX s)else .inl 3:=by
  rw [hsc,fq,if_neg (by simp [hl]),if_pos hd]
 rw [<-hsc]at hs ⊢;clear hsc;have HA:=aO hA;clear hA;generalize fq s=ans at*
 have hd0:=heap_alloc_new w (.cells #[I 0,sv [],I 0,I 0] 151);have hb0:Below w.heap.size w (w.alloc (.cells #[.int .i64 0,sv [],.int .i64 0,.int .i64 0] 151)):=o9 _ _;go_enter Tryz.func140,Tryz.ntmps140;go_wp2_with fail;generalize w.alloc (.cells #[.int .i64 0,sv [],.int .i64 0,.int .i64 0] 151)=w0 at*
 refine(mX c _).mono ?_;rintro e w0 ⟨rfl,rfl⟩;go_wp2_with fail;refine(oM c _).mono ?_;rintro e w0 ⟨rfl,rfl⟩;rw [hd];clear Xp;go_wp2_with fail
 go_loop [7] (fun v7=>∃i:Nat,v7=I i∧i<=s.length∧∀j (hj:j<s.length),j<i->bX s[j]=true) (fun v7=>s.length - (intOf v7).toNat)
 case atStart=>exact⟨0,rfl,by omega,fun j hj h=>by omega⟩
 case round=>
  obtain⟨i,rfl,hi,hall⟩:=hrel;by_cases hlt:i<s.length
  ·have hix:=eU s i hlt;have hnext:bX s[i]=true->∀j (hj:j<s.length),j<i+1->bX s[j]=true:=by
    intro h j hj hji;rcases Nat.lt_or_ge j i with h1 |h1
    ·exact hall j hj h1
    ·obtain rfl:j=i:=by omega
     exact h
   have hstop:bX s[i]=false->dO bX s=i:=fun h=>FX _ s i hi hall (.inr ⟨hlt,h⟩);have lM:=aO hnext;have xI:=aO hstop;clear hall hnext hstop;generalize hX:s[i]=X at*
   clear hX;go_wp2_with fail;refine(mX X _).mono ?_;rintro e w0 ⟨rfl,rfl⟩;go_wp2_with fail;refine(oM X _).mono ?_;rintro e w0 ⟨rfl,rfl⟩;cases hq2:bX X
   ·cases hq1:fB X
    ·have hq:=xI.o hq2;rw [hq]at HA;clear lM xI hix hq;generalize i=n at*
     have hex:ByteArray.extract ⟨s.toArray⟩ 0 n=⟨(s.take n).toArray⟩:=by
      have h:=gB s 0 n;rw [List.drop_zero]at h;injection h
     have hA:=HA.o;clear HA;have hxl:(s.take n).length<=281474976710656:=by rw [List.length_take];omega
     generalize s.take n=x at*
     have hP:=qZ ⟨x.toArray⟩ w0 (by rw [cO];exact hxl);go_wp2_with fail;refine hP.mono ?_;rintro e w2 ⟨rfl,rfl⟩;simp only [show(ByteArray.mk x.toArray).data.toList=x from rfl];generalize dH x=pv at*
     obtain⟨pn,pb⟩:=pv;obtain⟨⟨e0,e1,e2,e3⟩,g0,g1,g2,g3⟩:=nS hd0;simp only at hA ⊢;cases pb with
     |true=>
      rw [if_pos rfl]at hA;go_wp2_with fail;refine bodyPost_ret (bH rfl _ _ w.heap.size _ _ _ _ rfl (dN hd0 _ _ _ _) Tryz.underlying151 rfl) rfl ?_;exact⟨by first |rfl |(rw [hA];rfl),eB hb0 _ _ _ _⟩
     |false=>
      rw [if_neg (by simp)]at hA;go_wp2_with fail;refine bodyPost_ret (bH rfl _ _ w.heap.size _ _ _ _ rfl (dN hd0 _ _ _ _) Tryz.underlying151 rfl) rfl ?_;exact⟨by first |rfl |(rw [hA];rfl),eB hb0 _ _ _ _⟩
    ·have hq:=xI.o hq2;rw [hq]at HA;clear lM xI hix hq;generalize i=n at*
     have hex:ByteArray.extract ⟨s.toArray⟩ 0 n=⟨(s.take n).toArray⟩:=by
      have h:=gB s 0 n;rw [List.drop_zero]at h;injection h
     have hA:=HA.o;clear HA;have hxl:(s.take n).length<=281474976710656:=by rw [List.length_take];omega
     generalize s.take n=x at*
     have hP:=qZ ⟨x.toArray⟩ w0 (by rw [cO];exact hxl);go_wp2_with fail;refine hP.mono ?_;rintro e w2 ⟨rfl,rfl⟩;simp only [show(ByteArray.mk x.toArray).data.toList=x from rfl];generalize dH x=pv at*
     obtain⟨pn,pb⟩:=pv;obtain⟨⟨e0,e1,e2,e3⟩,g0,g1,g2,g3⟩:=nS hd0;simp only at hA ⊢;cases pb with
     |true=>
      rw [if_pos rfl]at hA;go_wp2_with fail;refine bodyPost_ret (bH rfl _ _ w.heap.size _ _ _ _ rfl (dN hd0 _ _ _ _) Tryz.underlying151 rfl) rfl ?_;exact⟨by first |rfl |(rw [hA];rfl),eB hb0 _ _ _ _⟩
     |false=>
      rw [if_neg (by simp)]at hA;go_wp2_with fail;refine bodyPost_ret (bH rfl _ _ w.heap.size _ _ _ _ rfl (dN hd0 _ _ _ _) Tryz.underlying151 rfl) rfl ?_;exact⟨by first |rfl |(rw [hA];rfl),eB hb0 _ _ _ _⟩
   ·cases hq1:fB X
    ·have HN:=aO (lM.o hq2);clear lM xI hix;go_wp2_with fail
     go_round
     case rel=>exact⟨i+1,rfl,by omega,HN.o⟩
     case measure=>simp [intOf];omega
    ·have HN:=aO (lM.o hq2);clear lM xI hix;go_wp2_with fail
     go_round
     case rel=>exact⟨i+1,rfl,by omega,HN.o⟩
     case measure=>simp [intOf];omega
  ·have hi2:i=s.length:=by omega
   have hq:=FX _ s i hi hall (.inl hi2);rw [hq]at HA;clear hall hq;have hlt':¬(i:Int)<s.length:=by omega
   clear hi2;generalize i=n at*
   have hex:ByteArray.extract ⟨s.toArray⟩ 0 n=⟨(s.take n).toArray⟩:=by
    have h:=gB s 0 n;rw [List.drop_zero]at h;injection h
   have hA:=HA.o;clear HA;have hxl:(s.take n).length<=281474976710656:=by rw [List.length_take];omega
   generalize s.take n=x at*
   have hP:=qZ ⟨x.toArray⟩ w0 (by rw [cO];exact hxl);go_wp2_with fail;refine hP.mono ?_;rintro e w2 ⟨rfl,rfl⟩;simp only [show(ByteArray.mk x.toArray).data.toList=x from rfl];generalize dH x=pv at*
   obtain⟨pn,pb⟩:=pv;obtain⟨⟨e0,e1,e2,e3⟩,g0,g1,g2,g3⟩:=nS hd0;simp only at hA ⊢;cases pb with
   |true=>
    rw [if_pos rfl]at hA;go_wp2_with fail;refine bodyPost_ret (bH rfl _ _ w.heap.size _ _ _ _ rfl (dN hd0 _ _ _ _) Tryz.underlying151 rfl) rfl ?_;exact⟨by first |rfl |(rw [hA];rfl),eB hb0 _ _ _ _⟩
   |false=>
    rw [if_neg (by simp)]at hA;go_wp2_with fail;refine bodyPost_ret (bH rfl _ _ w.heap.size _ _ _ _ rfl (dN hd0 _ _ _ _) Tryz.underlying151 rfl) rfl ?_;exact⟨by first |rfl |(rw [hA];rfl),eB hb0 _ _ _ _⟩
theorem MG (w:World)(c:UInt8)(r:Bt)(hs:(c :: r).length<=281474976710656)(hl:fB c=false)(hd:bX c=false)(Jt:c.toNat=34):
  Calls Tryz.prog 140 #[sv (c :: r)] w fun e w'=>e=.returned (SG (fq (c :: r)))∧Below w.heap.size w w':=by
 obtain⟨s,hsc⟩:∃s,s=c :: r:=⟨_,rfl⟩
 have hsz:=cO s;have hl1:1<=s.length:=by rw [hsc];simp
 have Xp:(ByteArray.mk s.toArray)[0]'(by omega)=c:=by
  have:=eU s 0 (by omega);rw [this];simp [hsc]
 have hA:fq s=JE s:=by
  unfold JE;rw [hsc,fq,if_neg (by simp [hl]),if_neg (by simp [hd]),if_pos Jt];cases mO (c :: r)with
  |none=>rfl
  |some x=>rfl
 unfold JE at hA;have aCA:((c.toNat:Int)==34)=true:=by rw [beq_iff_eq];omega
 clear Jt;have hqn:∀t n,mO s=some (t,n)->0<n:=by
  intro t n h;unfold mO at h;have:=(vg h).1;simp only at this;omega
 rw [<-hsc]at hs ⊢;clear hsc;have HQ:=aO (PY (w.alloc (.cells #[.int .i64 0,sv [],.int .i64 0,.int .i64 0] 151)) s hs hl1);generalize mO s=q at*
 generalize fq s=ans at*
 have hd0:=heap_alloc_new w (.cells #[I 0,sv [],I 0,I 0] 151);have hb0:Below w.heap.size w (w.alloc (.cells #[.int .i64 0,sv [],.int .i64 0,.int .i64 0] 151)):=o9 _ _;go_enter Tryz.func140,Tryz.ntmps140;go_wp2_with fail;generalize w.alloc (.cells #[.int .i64 0,sv [],.int .i64 0,.int .i64 0] 151)=w0 at*
 refine(mX c _).mono ?_;rintro e w0 ⟨rfl,rfl⟩;go_wp2_with fail;refine(oM c _).mono ?_;rintro e w0 ⟨rfl,rfl⟩;rw [hd];go_wp2_with fail;refine HQ.o.mono ?_;rintro e w2 ⟨rfl,rfl⟩;clear HQ;obtain⟨⟨e0,e1,e2,e3⟩,g0,g1,g2,g3⟩:=nS hd0;rcases q with _ |⟨t,n⟩
 ·simp only at hA;unfold yx;go_wp2_with fail;refine bodyPost_ret (bH rfl _ _ w.heap.size _ _ _ _ rfl (dN hd0 _ _ _ _) Tryz.underlying151 rfl) rfl ?_;exact⟨by first |rfl |(rw [hA];rfl),eB hb0 _ _ _ _⟩
 ·simp only at hA;have hn:=hqn t n rfl;have hn0:¬(n:Int)=0:=by omega
  have hst:=cO t;clear hqn;unfold yx;by_cases YB:256<t.length
  ·rw [if_pos YB]at hA;go_wp2_with fail;refine bodyPost_ret (bH rfl _ _ w.heap.size _ _ _ _ rfl (dN hd0 _ _ _ _) Tryz.underlying151 rfl) rfl ?_;exact⟨by first |rfl |(rw [hA];rfl),eB hb0 _ _ _ _⟩
  ·rw [if_neg YB]at hA;go_wp2_with fail;refine bodyPost_ret (bH rfl _ _ w.heap.size _ _ _ _ rfl (dN hd0 _ _ _ _) Tryz.underlying151 rfl) rfl ?_;exact⟨by first |rfl |(rw [hA];rfl),eB hb0 _ _ _ _⟩
theorem P7 (w:World)(c:UInt8)(r:Bt)(hs:(c :: r).length<=281474976710656)(hl:fB c=false)(hd:bX c=false)(Jt:¬c.toNat=34):
  Calls Tryz.prog 140 #[sv (c :: r)] w fun e w'=>e=.returned (SG (fq (c :: r)))∧Below w.heap.size w w':=by
 obtain⟨s,hsc⟩:∃s,s=c :: r:=⟨_,rfl⟩
 have hsz:=cO s;have hl1:1<=s.length:=by rw [hsc];simp
 have Xp:(ByteArray.mk s.toArray)[0]'(by omega)=c:=by
  have:=eU s 0 (by omega);rw [this];simp [hsc]
 have hA:fq s=if uK c s=0 then .inl 5 else .inr (5,s.take (uK c s),uK c s):=by
  rw [hsc,fq,if_neg (by simp [hl]),if_neg (by simp [hd]),if_neg Jt];by_cases hp:(c :: r).take 2∈dG
  ·rw [if_pos hp,PW hp,if_neg (by omega)]
  ·rw [if_neg hp];by_cases h1:c∈fD
   ·rw [if_pos h1,sign_one hp h1,if_neg (by omega)];rfl
   ·rw [if_neg h1,K5 hp h1,if_pos rfl]
 have HG:=aO (Xo (w.alloc (.cells #[.int .i64 0,sv [],.int .i64 0,.int .i64 0] 151)) c r hs);have hgl:uK c s<=s.length:=by
  unfold uK;split
  ·rename_i h
   have:=Dr _ h;rw [List.length_take]at this;omega
  ·split
   ·exact hl1
   ·omega
 rw [<-hsc]at hs HG ⊢;clear hsc;generalize uK c s=n at*
 generalize fq s=ans at*
 have hd0:=heap_alloc_new w (.cells #[I 0,sv [],I 0,I 0] 151);have hb0:Below w.heap.size w (w.alloc (.cells #[.int .i64 0,sv [],.int .i64 0,.int .i64 0] 151)):=o9 _ _;go_enter Tryz.func140,Tryz.ntmps140;go_wp2_with fail;generalize w.alloc (.cells #[.int .i64 0,sv [],.int .i64 0,.int .i64 0] 151)=w0 at*
 refine(mX c _).mono ?_;rintro e w0 ⟨rfl,rfl⟩;go_wp2_with fail;refine(oM c _).mono ?_;rintro e w0 ⟨rfl,rfl⟩;rw [hd];go_wp2_with fail;refine HG.o.mono ?_;rintro e w2 ⟨rfl,hb2⟩;clear HG;have hd2:=ah hd0 (Turn.of_below (F:=fun _=>False) hb2) id;have hB2:=Yi hb0 hb2;obtain⟨⟨e0,e1,e2,e3⟩,g0,g1,g2,g3⟩:=nS hd2;have hex:ByteArray.extract ⟨s.toArray⟩ 0 n=⟨(s.take n).toArray⟩:=by
  have h:=gB s 0 n;rw [List.drop_zero]at h;injection h
 by_cases h0:n=0
 ·subst h0;rw [if_pos rfl]at hA;go_wp2_with fail;refine bodyPost_ret (bH rfl _ _ w.heap.size _ _ _ _ rfl (dN hd2 _ _ _ _) Tryz.underlying151 rfl) rfl ?_;exact⟨by first |rfl |(rw [hA];rfl),eB hB2 _ _ _ _⟩
 ·rw [if_neg h0]at hA;have hn0:¬(n:Int)=0:=by omega
  go_wp2_with fail;refine bodyPost_ret (bH rfl _ _ w.heap.size _ _ _ _ rfl (dN hd2 _ _ _ _) Tryz.underlying151 rfl) rfl ?_;exact⟨by first |rfl |(rw [hA];rfl),eB hB2 _ _ _ _⟩
theorem SH (w:World)(s:Bt)(hs:s.length<=281474976710656)(h1:1<=s.length):
  Calls Tryz.prog 140 #[sv s] w fun e w'=>e=.returned (SG (fq s))∧Below w.heap.size w w':=by
 cases s with
 |nil=>simp at h1
 |cons c r=>
  cases hl:fB c with
  |true=>exact J8 w c r hs hl
  |false=>
   cases hd:bX c with
   |true=>exact MF w c r hs hl hd
   |false=>
    by_cases Jt:c.toNat=34
    ·exact MG w c r hs hl hd Jt
    ·exact P7 w c r hs hl hd Jt
theorem Em {w:World}{b:Nat}(h:w.heap[b]? =some (.cells zd 45 (0,0))):
  (w.cell? ⟨b,0,none⟩=some (I 0)∧w.cell? ⟨b,1,none⟩=some (I 0)∧w.cell? ⟨b,2,none⟩=some (I 0)∧w.cell? ⟨b,3,none⟩=some (I 0))∧
  (w.frozen? ⟨b,0,none⟩=false∧w.frozen? ⟨b,1,none⟩=false∧w.frozen? ⟨b,2,none⟩=false∧w.frozen? ⟨b,3,none⟩=false):=
 ⟨⟨(dY h),(dY h),(dY h),(dY h)⟩,bG h 0,bG h 1,bG h 2,bG h 3⟩
theorem Df {s:Bt}(a:Nat):ByteArray.extract ⟨s.toArray⟩ a s.length=⟨(s.drop a).toArray⟩:=by
 have h:=gB s a s.length;rw [List.take_length]at h;injection h
structure aiy (s:Bt) (ans:List aH ×(Nat ×Nat ×Int)) (w0 wr:World) (f a:Nat) (p:Nat ×Nat) (out:List aH) (v:Value):Prop where
 row:wr.ownsRow w0.heap.size 151 4 v out.length (dD out)
 le:a<=s.length
 fuel:s.length - a<f
 eq:qE f (s.drop a) p out=ans
 b1:p.1<=1+a
 b2:p.2<=1+a
 b3:1<=p.2
 V3:out.length<=8192
 bel:Below w0.heap.size w0 wr
theorem abT (w:World)(s:Bt):Calls Tryz.prog 82 #[sv s] w fun e w'=>Tn (gH s) w e w':=by
 have hsz:=cO s;by_cases hlong:65536<s.length
 ·have ha:gH s=([],(1,1,2)):=by unfold gH;rw [if_pos hlong]
  rw [ha];go_enter Tryz.func82,Tryz.ntmps82;go_wp2_with fail;refine bodyPost_ret (fI rfl _ _ w.heap.size _ _ _ _ rfl (heap_alloc_new w _) Tryz.underlying45 rfl) rfl ?_;exact⟨_,0,rfl,World.ownsRow_nil _ _ _ _,o9 _ _⟩
 ·have ha:gH s=qE (s.length+1) s (1,1) []:=by unfold gH;rw [if_neg hlong]
  rw [ha];clear ha;generalize wO:qE (s.length+1) s (1,1) []=ans;have awn:=aO wO;clear wO;have hd0:=heap_alloc_new w (.cells zd 45);have hb0:Below w.heap.size w (w.alloc (.cells #[.int .i64 0,.int .i64 0,.int .i64 0,.int .i64 0] 45)):=o9 _ _;have hs0:(w.alloc (.cells #[.int .i64 0,.int .i64 0,.int .i64 0,.int .i64 0] 45)).heap.size=w.heap.size+1:=by simp
  go_enter Tryz.func82,Tryz.ntmps82;go_wp2_with fail;generalize w.alloc (.cells #[.int .i64 0,.int .i64 0,.int .i64 0,.int .i64 0] 45)=w0 at*
  have HD0:=aO hd0;clear hd0;go_loopw [4,5,6,7,8,9,10,11,12] (fun v4 v5 v6 v7 v8 v9 v10 v11 v12 wr=>∃(f a:Nat) (p:Nat ×Nat) (out:List aH),v5=I p.1∧v6=I p.2∧v7=I a∧aiy s ans w0 wr f a p out v4) (fun _ _ _ v7 _ _ _ _ _ _=>s.length+1 - (intOf v7).toNat)
  case atStart=>exact⟨s.length+1,0,(1,1),[],rfl,rfl,rfl,⟨World.ownsRow_nil _ _ _ _,by omega,by omega,awn.o,by omega,by omega,by omega,by simp,Below.refl _ _⟩⟩
  case round=>
   obtain⟨f,a,p,out,rfl,rfl,rfl,hR⟩:=hrel;obtain⟨f',rfl⟩:∃f',f=f'+1:=⟨f - 1,by have:=hR.fuel;omega⟩
   obtain⟨hrow,hle,hfuel,heq,hb1,hb2,hb3,az2,hbel⟩:=hR;rw [qE]at heq;obtain⟨x,hx⟩:∃x,x=s.drop a:=⟨_,rfl⟩
   have hxl:x.length=s.length - a:=by rw [hx,List.length_drop]
   have hsk:bP x<=x.length:=BI false x;have awo:ByteArray.extract ⟨s.toArray⟩ a s.length=⟨x.toArray⟩:=by rw [Df,hx]
   have hget:∀i (h1:a<=i) (h2:i<s.length),s[i]=x[i - a]'(by omega):=by
    intro i h1 h2;subst hx;rw [List.getElem_drop];congr 1;omega
   have hy:x.drop (bP x)=s.drop (a+bP x):=by rw [hx,List.drop_drop]
   rw [<-hx]at heq;have HX:=aO hx;clear hx;obtain⟨A,c,rfl,hoc⟩:=SF hrow;unfold maxLen at hoc;have fF:=aO hrow;have HEQ:=aO heq;have ami:=aO hget;have HY:=aO hy;clear hrow heq hget hy;go_wp2_with fail;refine(SE _ x (by omega)).mono ?_;rintro e wr ⟨rfl,rfl⟩;generalize hm:bP x=m at*
   clear hm;clear awo;obtain⟨q,hq⟩:∃q,q=gq p (x.take m):=⟨_,rfl⟩
   have hql:=pI (x.take m) hb3;rw [<-hq]at hql;have HQ:=aO hq;clear hq;rw [List.length_take,Nat.min_eq_left hsk]at hql;go_wp2_with fail
   go_loop [5,6,9] (fun v5 v6 v9=>∃i:Nat,v9=I i∧a<=i∧i<=a+m∧v5=I (gq p (x.take (i - a))).1∧v6=I (gq p (x.take (i - a))).2) (fun _ _ v9=>a+m - (intOf v9).toNat)
   case atStart=>exact⟨a,rfl,by omega,by omega,by rw [Nat.sub_self];rfl,by rw [Nat.sub_self];rfl⟩
   case round=>
    obtain⟨i,rfl,hi1,hi2,rfl,rfl⟩:=hrel;by_cases hlt:i<a+m
    ·have hix:=eU s i (by omega);rw [ami.o i hi1 (by omega)]at hix;have hstep:=Kj (p:=p) (s:=x) (k:=i - a) (by omega);rw [show i - a+1=i+1 - a by omega]at hstep;have hbd:=pI (x.take (i - a)) hb3;rw [List.length_take,Nat.min_eq_left (by omega)]at hbd;generalize x[i - a]=X at*
     generalize gq p (x.take (i - a))=r at*
     obtain⟨r1,r2⟩:=r;simp only at hbd ⊢;unfold uO at hstep;by_cases h10:X.toNat=10
     ·rw [if_pos h10]at hstep
      have key:∃i_1:Nat,I ((i+1:Nat):Int)=I i_1∧a<=i_1∧i_1<=a+m∧I ((r1+1:Nat):Int)=I (gq p (x.take (i_1 - a))).1∧I ((1:Nat):Int)=I (gq p (x.take (i_1 - a))).2:=
       ⟨i+1,rfl,by omega,by omega,by rw [hstep],by rw [hstep]⟩
      have KEY:=aO key;clear key hstep;go_wp2_with fail
      go_round
      case rel=>exact KEY.o
      case measure=>simp [intOf];omega
     ·rw [if_neg h10]at hstep
      have key:∃i_1:Nat,I ((i+1:Nat):Int)=I i_1∧a<=i_1∧i_1<=a+m∧I r1=I (gq p (x.take (i_1 - a))).1∧I ((r2+1:Nat):Int)=I (gq p (x.take (i_1 - a))).2:=
       ⟨i+1,rfl,by omega,by omega,by rw [hstep],by rw [hstep]⟩
      have KEY:=aO key;clear key hstep;go_wp2_with fail
      go_round
      case rel=>exact KEY.o
      case measure=>simp [intOf];omega
    ·have him:i=a+m:=by omega
     have hia:i - a=m:=by omega
     rw [hia,<-HQ.o];have hlt2:¬(i:Int)<(a:Int)+m:=by omega
     clear hia him hi1 hi2 hlt;obtain⟨q1,q2⟩:=q;simp only at hql ⊢;have heq:=HEQ.o;have hhq:=HQ.o;rw [<-hhq,HY.o]at heq;simp only at heq;have abV:=aO heq;have kF:=aO hhq;clear heq hhq HEQ HQ;have amj:=aO hbel;obtain⟨at_,hat⟩:∃b:Nat,b=a+m:=⟨_,rfl⟩
     have hyl:(s.drop at_).length=s.length - at_:=by rw [List.length_drop]
     have amk:ByteArray.extract ⟨s.toArray⟩ at_ s.length=⟨(s.drop at_).toArray⟩:=Df at_;rw [<-hat]at abV;by_cases hend:at_=s.length
     ·have hae:(s.length:Int)<=(a:Int)+m:=by omega
      have hr:=abV.o;have hnil:s.drop at_=[]:=by rw [hend,List.drop_length]
      rw [hnil,if_pos rfl]at hr;have HR:=aO hr;have Dx:Sl (wr.alloc (.cells #[.int .i64 0,sv [],.int .i64 q1,.int .i64 q2] 151)) (wr.heap.size+1) 4 (.slice (some ⟨wr.heap.size,0,none⟩) 1 1) (oK ⟨0,[],q1,q2⟩):=iN wr _ _ 4 1 rfl;have gy:=fF.o.alloc (.cells #[.int .i64 0,sv [],.int .i64 q1,.int .i64 q2] 151);have h63:out.length*4+(oK ⟨0,[],q1,q2⟩).length<=maxLen:=by show out.length*4+4<=maxLen;unfold maxLen;omega
      have hbytes:(out.length*4+(oK ⟨0,[],q1,q2⟩).length)*40<=140737488355328:=by show(out.length*4+4)*40<= _;omega
      have LC:=amj.o.alloc amj.o.size (.cells #[I 0,sv [],I q1,I q2] 151);clear hr hnil amk hyl abV ami HY HX;go_wp2_with (at_builtin;refine dR rfl (.tmp 44) (.tmp 48) _ rfl w0.heap.size GJ _ _ rfl rfl gy Dx (BZ ⟨0,[],q1,q2⟩) h63 hbytes (kg hbel.size _) (fun v' w9 n' dI nM iJ=>?_);have xP:=below_app LC gy nM (Nat.le_refl _) (kg hbel.size _);have hd9:=ah HD0.o (Turn.of_below (F:=fun _=>False) xP) id;obtain⟨⟨e0,e1,e2,e3⟩,g0,g1,g2,g3⟩:=Em hd9;clear nM iJ gy Dx);refine bodyPost_ret (fI rfl _ _ w.heap.size _ _ _ _ rfl (dN hd9 _ _ _ _) Tryz.underlying45 rfl) rfl ?_;have hr:=HR.o;have t9:=vE w9 w.heap.size (I 0) (I 0) (I 0) (I 0);have aml:=dS dI t9 (fun g hg h=>by have:=(dI.lt g hg).1;omega);have hfin:=eB (hb0.trans (xP.mono (by omega))) (I 0) (I 0) (I 0) (I 0);rw [<-hr];refine⟨v',n',rfl,?_,hfin⟩;simp only [oV];exact BG aml (by omega)
     ·have hae:¬(s.length:Int)<=(a:Int)+m:=by omega
      have hne:s.drop at_≠[]:=by intro h;rw [h]at hyl;simp at hyl;omega
      have hr:=abV.o;rw [if_neg hne]at hr;have HR:=aO hr;have arv:1<=(s.drop at_).length:=by omega
      have arw:∀kd t n,fq (s.drop at_)=.inr (kd,t,n)->1<=n∧n<=s.length - at_∧gq (q1,q2) ((s.drop at_).take n)=(q1,q2+n):=by
       intro kd t n h;have h1:=BJ h;refine⟨h1.1,by rw [hyl]at h1;exact h1.2,?_⟩;rw [Nb _ (Lm h),List.length_take,Nat.min_eq_left h1.2]
      have Vd:∀e,fq (s.drop at_)=.inl e->e≠0:=fun e h=>zk h;have afs:=aO arw;have HDD:∀n,(s.drop at_).drop n=s.drop (at_+n):=fun n=>by rw [List.drop_drop]
      have HDR:=aO HDD;have hcast:((at_:Nat):Int)=(a:Int)+m:=by omega
      clear hr hne abV ami HY HX arw HDD;generalize s.drop at_=y at*
      rw [hat]at amk;have hT:=SH wr y (by omega) arv;have HT:=aO hT;clear hT arv hyl;go_wp2_with fail;refine HT.o.mono ?_;rintro e w5 ⟨rfl,hb5⟩;clear HT amk;have F5:=amj.o.trans (hb5.mono hbel.size);have abW:=own_below fF.o hb5;have hd5:=ah HD0.o (Turn.of_below (F:=fun _=>False) F5) id;clear fF hb5;cases hn:fq y with
      |inl e=>
       have hr:=HR.o;rw [hn]at hr;simp only at hr;have HR2:=aO hr;have he:=Vd e hn;have heb:(e==0)=false:=by rw [beq_eq_false_iff_ne];exact he
       have hB6:=F5.alloc F5.size (.cells #[I 0,sv [],I 0,I 0] 151);have hd6:=ah HD0.o (Turn.of_below (F:=fun _=>False) hB6) id;obtain⟨⟨e0,e1,e2,e3⟩,g0,g1,g2,g3⟩:=Em hd6;unfold SG;simp only [];clear hr HR afs Vd hn abW hd5 HDR;go_wp2_with fail;refine bodyPost_ret (fI rfl _ _ w.heap.size _ _ _ _ rfl (dN hd6 _ _ _ _) Tryz.underlying45 rfl) rfl ?_;rw [<-HR2.o];exact⟨_,0,rfl,World.ownsRow_nil _ _ _ _,eB (hb0.trans (hB6.mono (by omega))) _ _ _ _⟩
      |inr xx=>
       obtain⟨kd,t,n⟩:=xx;have hr:=HR.o;rw [hn]at hr;simp only at hr;obtain⟨n1,n2,n3⟩:=afs.o kd t n hn;unfold SG;simp only [];by_cases h8:out.length=8192
       ·rw [if_pos h8]at hr;have HR2:=aO hr;have h8b:((out.length:Int)==8192)=true:=by rw [beq_iff_eq];omega
        have hB6:=F5.alloc F5.size (.cells #[I kd,sv t,I 0,I 0] 151);have hd6:=ah HD0.o (Turn.of_below (F:=fun _=>False) hB6) id;obtain⟨⟨e0,e1,e2,e3⟩,g0,g1,g2,g3⟩:=Em hd6;clear hr HR afs Vd hn abW hd5 HDR n3 h8;go_wp2_with fail;refine bodyPost_ret (fI rfl _ _ w.heap.size _ _ _ _ rfl (dN hd6 _ _ _ _) Tryz.underlying45 rfl) rfl ?_;rw [<-HR2.o];exact⟨_,0,rfl,World.ownsRow_nil _ _ _ _,eB (hb0.trans (hB6.mono (by omega))) _ _ _ _⟩
       ·rw [if_neg h8,n3,HDR.o]at hr;have h8b:((out.length:Int)==8192)=false:=by rw [beq_eq_false_iff_ne];omega
        have hB6:=F5.alloc F5.size (.cells #[I kd,sv t,I q1,I q2] 151);have hB7:=hB6.alloc hB6.size (.cells #[I kd,sv t,I q1,I q2] 151);have gy:=(abW.alloc (.cells #[.int .i64 kd,sv t,.int .i64 q1,.int .i64 q2] 151)).alloc (.cells #[.int .i64 kd,sv t,.int .i64 q1,.int .i64 q2] 151);have Dx:Sl ((w5.alloc (.cells #[.int .i64 kd,sv t,.int .i64 q1,.int .i64 q2] 151)).alloc (.cells #[.int .i64 kd,sv t,.int .i64 q1,.int .i64 q2] 151)) ((w5.alloc (.cells #[.int .i64 kd,sv t,.int .i64 q1,.int .i64 q2] 151)).heap.size+1) 4 (.slice (some ⟨(w5.alloc (.cells #[.int .i64 kd,sv t,.int .i64 q1,.int .i64 q2] 151)).heap.size,0,none⟩) 1 1) (oK ⟨kd,t,q1,q2⟩):=iN _ _ _ 4 1 rfl;have s6:(w5.alloc (.cells #[.int .i64 kd,sv t,.int .i64 q1,.int .i64 q2] 151)).heap.size=w5.heap.size+1:=by simp
        rw [s6]at Dx;have h63:out.length*4+(oK ⟨kd,t,q1,q2⟩).length<=maxLen:=by show out.length*4+4<=maxLen;unfold maxLen;omega
        have hbytes:(out.length*4+(oK ⟨kd,t,q1,q2⟩).length)*40<=140737488355328:=by show(out.length*4+4)*40<= _;omega
        have key:∀v' w9 n',w9.ownsRow w0.heap.size 151 4 v' n' (dD out++oK ⟨kd,t,q1,q2⟩)->Below w0.heap.size w0 w9->aiy s ans w0 w9 f' (at_+n) (q1,q2+n) (out++[⟨kd,t,q1,q2⟩]) v':=by
         intro v' w9 n' h1 h2;have h3:n'=(out++[(⟨kd,t,q1,q2⟩:aH)]).length:=by
          have h4:=h1.1;rw [List.length_append,mG]at h4;have h5:(oK ⟨kd,t,q1,q2⟩).length=4:=rfl;rw [List.length_append,List.length_singleton];omega
         subst h3;rw [<-oV]at h1;exact⟨h1,by omega,by omega,hr,by simp only;omega,by simp only;omega,by simp only;omega,by simp;omega,h2⟩
        have KEY:=aO key;have hcm:(a:Int)+m+n=((at_+n:Nat):Int):=by omega
        have HCM:=aO hcm;have hw1:IntKind.i64.wrap ((a:Int)+m+n)=(a:Int)+m+n:=by rw [M6];exact Ke (by unfold In64;omega)
        have hw2:IntKind.i64.wrap ((q2:Int)+n)=(q2:Int)+n:=by rw [M6];exact Ke (by unfold In64;omega)
        clear hcm;clear hr HR afs Vd hn hd5 HDR n3 h8 key;go_wp2_with (at_builtin;refine dR rfl (.tmp 76) (.tmp 78) _ rfl w0.heap.size GJ _ _ rfl rfl gy Dx (BZ ⟨kd,t,q1,q2⟩) h63 hbytes hB7.size (fun v' w9 n' dI nM iJ=>?_);have xP:=below_app hB7 gy nM (Nat.le_refl _) hB7.size;have hK:=aO (KEY.o v' w9 n' dI xP);clear nM iJ gy Dx dI);go_wp2_with fail
        go_roundw
        case rel=>exact⟨f',at_+n,(q1,q2+n),_,rfl,rfl,by rw [<-HCM.o],hK.o⟩
        case measure=>simp [intOf];omega
end Go.Proofs.YtncnnedlgofccaaGreatDoor
